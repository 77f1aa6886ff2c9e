/- Lifted functions, part 3: each with its contract. -/
import Derived.Test.YtjlbeiadpdgchaaWb
import Derived.Test.YtjlbeiadpdgchaaProg
set_option linter.all false
section
set_option maxHeartbeats 4000000
set_option maxRecDepth 100000
namespace W
open Go Go.Ql Go.Proofs
noncomputable section
variable {ρ:Type}
abbrev tb84:SD:=.one (.own 1000702 0)
abbrev tb85:SO:=.clo 84 [] [.ref 7 0]
def jb.pre:Shape:=⟨[(0,tb28),(1,tb5),(2,tb5)],[(1000700,tb81),(1000701,tb22),(1000702,tb22)]⟩
def jb.post:Shape:=⟨[(0,tb7)],[(1000701,tb22),(1000702,tb22),(1000700,tb81)]⟩
def jb.c9 (i:Int)(sum0:Int)(sum1:Int)(sum2:Bool)(ud:List YP)(Z:Int×Int×Bool→Option ρ):Option ρ:=
 bnd (inR (List.length ud) i) fun y=>
 bnd (idx ud i) fun y1=>
 bnd (jU (sum0,sum1,sum2) y1) fun y2=>
 Z (y2.1,y2.2.1,y2.2.2)
def jb.c9s:Shape:=⟨[(0,tb28),(1,tb5),(2,tb5),(6,tb7),(7,tb42),(8,tb5),(9,tb79),(10,tb5),(11,tb23),(29,tb84),(30,tb5),(31,tb5)],[(7,tb9),(9,tb9),(11,tb9),(21,tb85),(1000700,tb81),(1000701,tb22),(1000702,tb22)]⟩
def jb.c9r:Ck:=Ck.of (T:=Int×Int×Bool) jb.c9s (fun ρ X Z=>jb.c9 (q4 X).1 (q8 X).2.2.1 (q8 X).2.2.2.1 (q4 (q8 X)).1 (q8 (q8 X)).2.1 Z) (fun ρ X V Z=>Z 0 (Shape.inj jb.c9s (X.1,X.2.1,X.2.2.1,X.2.2.2.1,(q4 X).1,(q4 X).2.1,(q4 X).2.2.1,(q4 X).2.2.2.1,(q8 X).1,(q8 X).2.1,V.1,V.2.1,V.2.2,(q4 (q8 X)).2)))
def jb.cF_ (t31:Int)(z0:Int)(z1:Int)(z2:Bool)(sum0:Int)(sum1:Int)(sum2:Bool)(ud:List YP)(ue:List YP)(Z:Int×Int×Bool→Option ρ):Option ρ:=
 bnd (inR (List.length ue) t31) fun y=>
 bnd (idx ue t31) fun y1=>
 bnd (jL (y1.1,y1.2.1,y1.2.2) (z0,z1,z2)) fun y2=>
 br y2
 (bnd (jb.c9 t31 sum0 sum1 sum2 ud some) fun y3=>
 Z (y3.1,y3.2.1,y3.2.2))
 (Z (sum0,sum1,sum2))
def jb.cF_s:Shape:=⟨[(0,tb28),(1,tb5),(2,tb5),(6,tb7),(7,tb42),(8,tb5),(9,tb79),(29,tb84),(30,tb5),(31,tb5)],[(7,tb9),(9,tb9),(21,tb85),(1000700,tb81),(1000701,tb22),(1000702,tb22)]⟩
def jb.cF_r:Ck:=Ck.of (T:=Int×Int×Bool) jb.cF_s (fun ρ X Z=>jb.cF_ (q4 X).2.1 (q4 X).2.2.1 (q4 X).2.2.2.1 (q8 X).1 (q8 X).2.1 (q8 X).2.2.1 (q8 X).2.2.2.1 (q4 (q8 X)).2.1 (q4 (q8 X)).2.2.1 Z) (fun ρ X V Z=>Z 0 (Shape.inj jb.cF_s (X.1,X.2.1,X.2.2.1,X.2.2.2.1,(q4 X).1,(q4 X).2.1,(q4 X).2.2.1,(q4 X).2.2.2.1,(q8 X).1,V.1,V.2.1,V.2.2,(q4 (q8 X)))))
def jb.ch_ (t30:Int)(t31:Int)(z0:Int)(z1:Int)(z2:Bool)(sum0:Int)(sum1:Int)(sum2:Bool)(ud:List YP)(ue:List YP)(Z:(Int×Int×Int×Bool)⊕(Int×Int×Int×Bool)→Option ρ):Option ρ:=
 br (decide (t31<t30))
 (bnd (jb.cF_ t31 z0 z1 z2 sum0 sum1 sum2 ud ue some) fun y=>
 Z (.inl ((IntKind.i64.wrap (t31+(1:Int))),y.1,y.2.1,y.2.2)))
 (Z (.inr (t31,sum0,sum1,sum2)))
def jb.ch_r:Ck:=Ck.ofLoop (S:=Int×Int×Int×Bool) (T:=Int×Int×Int×Bool) jb.cF_s (fun X=>((q4 X).2.1,(q8 X).2.1,(q8 X).2.2.1,(q8 X).2.2.2.1)) (fun ρ X Q Z=>jb.ch_ (q4 X).1 Q.1 (q4 X).2.2.1 (q4 X).2.2.2.1 (q8 X).1 Q.2.1 Q.2.2.1 Q.2.2.2 (q4 (q8 X)).2.1 (q4 (q8 X)).2.2.1 Z) (fun ρ X V Z=>Z 2 (Shape.inj jb.cF_s (X.1,X.2.1,X.2.2.1,X.2.2.2.1,(q4 X).1,V.1,(q4 X).2.2.1,(q4 X).2.2.2.1,(q8 X).1,V.2.1,V.2.2.1,V.2.2.2,(q4 (q8 X)))))
def jb.c16 (t8:Int)(i:Int)(z0:Int)(z1:Int)(z2:Bool)(ud:List YP)(Z:Bool→Option ρ):Option ρ:=
 br (i !=t8)
 (bnd (inR (List.length ud) i) fun y=>
 bnd (idx ud i) fun y1=>
 bnd (jL y1 (z0,z1,z2)) fun y2=>
 Z y2)
 (Z false)
def jb.c16s:Shape:=⟨[(0,tb28),(1,tb5),(2,tb5),(6,tb7),(7,tb42),(8,tb5),(12,tb74),(13,tb5),(64,tb5),(65,tb5)],[(7,tb9),(12,tb9),(21,tb85),(1000700,tb81),(1000701,tb22),(1000702,tb22)]⟩
def jb.c16x0:Shape:=⟨[(0,tb28),(1,tb5),(2,tb5),(6,tb7),(7,tb42),(8,tb5),(12,tb74),(13,tb5),(64,tb5),(65,tb5),(81,tb7)],[(7,tb9),(12,tb9),(21,tb85),(1000700,tb81),(1000701,tb22),(1000702,tb22)]⟩
def jb.c16r:Ck:=Ck.of (T:=Bool) jb.c16s (fun ρ X Z=>jb.c16 X.2.2.2.1 (q4 X).1 (q4 X).2.2.2.1 (q8 X).1 (q8 X).2.1 (q4 (q8 X)).2.2.1 Z) (fun ρ X V Z=>Z 0 (Shape.inj jb.c16x0 (X.1,X.2.1,X.2.2.1,X.2.2.2.1,(q4 X).1,(q4 X).2.1,(q4 X).2.2.1,V,(q4 X).2.2.2)))
def jb.c17 (i:Int)(old0:Int)(old1:Int)(old2:Bool)(ud:List YP)(Z:List YP→Option ρ):Option ρ:=
 bnd (inR (List.length ud) i) fun y=>
 bnd (idx ud i) fun y1=>
 bnd (jU y1 (old0,old1,old2)) fun y2=>
 bnd (inR (List.length ud) i) fun y3=>
 bnd (idx ud i) fun y4=>
 Z (List.set ud (Int.toNat i) y2)
def jb.c17r:Ck:=Ck.of (T:=List YP) jb.c16s (fun ρ X Z=>jb.c17 (q4 X).1 (q8 X).2.2.1 (q8 X).2.2.2.1 (q4 (q8 X)).1 (q4 (q8 X)).2.2.1 Z) (fun ρ X V Z=>Z 0 (Shape.inj jb.c16s (X.1,X.2.1,X.2.2.1,X.2.2.2.1,(q4 X).1,(q4 X).2.1,(q4 X).2.2.1,(q4 X).2.2.2.1,(q8 X).1,(q8 X).2.1,(q8 X).2.2.1,(q8 X).2.2.2.1,(q4 (q8 X)).1,(q4 (q8 X)).2.1,V,(q4 (q8 X)).2.2.2)))
def jb.cV_ (t8:Int)(i:Int)(z0:Int)(z1:Int)(z2:Bool)(old0:Int)(old1:Int)(old2:Bool)(ud:List YP)(Z:List YP→Option ρ):Option ρ:=
 bnd (jb.c16 t8 i z0 z1 z2 ud some) fun y=>
 br y
 (bnd (jb.c17 i old0 old1 old2 ud some) fun y1=>
 Z y1)
 (Z ud)
def jb.cV_r:Ck:=Ck.of (T:=List YP) jb.c16s (fun ρ X Z=>jb.cV_ X.2.2.2.1 (q4 X).1 (q4 X).2.2.2.1 (q8 X).1 (q8 X).2.1 (q8 X).2.2.1 (q8 X).2.2.2.1 (q4 (q8 X)).1 (q4 (q8 X)).2.2.1 Z) (fun ρ X V Z=>Z 0 (Shape.inj jb.c16s (X.1,X.2.1,X.2.2.1,X.2.2.2.1,(q4 X).1,(q4 X).2.1,(q4 X).2.2.1,(q4 X).2.2.2.1,(q8 X).1,(q8 X).2.1,(q8 X).2.2.1,(q8 X).2.2.2.1,(q4 (q8 X)).1,(q4 (q8 X)).2.1,V,(q4 (q8 X)).2.2.2)))
def jb.c18 (t8:Int)(i:Int)(z0:Int)(z1:Int)(z2:Bool)(ue:List YP)(Z:Bool→Option ρ):Option ρ:=
 br (i !=t8)
 (bnd (inR (List.length ue) i) fun y=>
 bnd (idx ue i) fun y1=>
 bnd (jL y1 (z0,z1,z2)) fun y2=>
 Z y2)
 (Z false)
def jb.c18x0:Shape:=⟨[(0,tb28),(1,tb5),(2,tb5),(6,tb7),(7,tb42),(8,tb5),(12,tb74),(13,tb5),(64,tb5),(65,tb5),(110,tb7)],[(7,tb9),(12,tb9),(21,tb85),(1000700,tb81),(1000701,tb22),(1000702,tb22)]⟩
def jb.c18r:Ck:=Ck.of (T:=Bool) jb.c16s (fun ρ X Z=>jb.c18 X.2.2.2.1 (q4 X).1 (q4 X).2.2.2.1 (q8 X).1 (q8 X).2.1 (q4 (q8 X)).2.2.2.1 Z) (fun ρ X V Z=>Z 0 (Shape.inj jb.c18x0 (X.1,X.2.1,X.2.2.1,X.2.2.2.1,(q4 X).1,(q4 X).2.1,(q4 X).2.2.1,V,(q4 X).2.2.2)))
def jb.c19 (i:Int)(old0:Int)(old1:Int)(old2:Bool)(ue:List YP)(Z:List YP→Option ρ):Option ρ:=
 bnd (inR (List.length ue) i) fun y=>
 bnd (idx ue i) fun y1=>
 bnd (kl y1 (old0,old1,old2)) fun y2=>
 bnd (inR (List.length ue) i) fun y3=>
 bnd (idx ue i) fun y4=>
 Z (List.set ue (Int.toNat i) y2)
def jb.c19r:Ck:=Ck.of (T:=List YP) jb.c16s (fun ρ X Z=>jb.c19 (q4 X).1 (q8 X).2.2.1 (q8 X).2.2.2.1 (q4 (q8 X)).1 (q4 (q8 X)).2.2.2.1 Z) (fun ρ X V Z=>Z 0 (Shape.inj jb.c16s (X.1,X.2.1,X.2.2.1,X.2.2.2.1,(q4 X).1,(q4 X).2.1,(q4 X).2.2.1,(q4 X).2.2.2.1,(q8 X).1,(q8 X).2.1,(q8 X).2.2.1,(q8 X).2.2.2.1,(q4 (q8 X)).1,(q4 (q8 X)).2.1,(q4 (q8 X)).2.2.1,V,())))
def jb.cv_ (t8:Int)(t65:Int)(z0:Int)(z1:Int)(z2:Bool)(old0:Int)(old1:Int)(old2:Bool)(ud:List YP)(ue:List YP)(Z:(List YP)×(List YP)→Option ρ):Option ρ:=
 bnd (jb.cV_ t8 t65 z0 z1 z2 old0 old1 old2 ud some) fun y=>
 bnd (jb.c18 t8 t65 z0 z1 z2 ue some) fun y1=>
 br y1
 (bnd (jb.c19 t65 old0 old1 old2 ue some) fun y2=>
 Z (y,y2))
 (Z (y,ue))
def jb.cv_s:Shape:=⟨[(0,tb28),(1,tb5),(2,tb5),(6,tb7),(7,tb42),(8,tb5),(12,tb74),(64,tb5),(65,tb5)],[(7,tb9),(12,tb9),(21,tb85),(1000700,tb81),(1000701,tb22),(1000702,tb22)]⟩
def jb.cv_r:Ck:=Ck.of (T:=(List YP)×(List YP)) jb.cv_s (fun ρ X Z=>jb.cv_ X.2.2.2.1 (q4 X).2.1 (q4 X).2.2.1 (q4 X).2.2.2.1 (q8 X).1 (q8 X).2.1 (q8 X).2.2.1 (q8 X).2.2.2.1 (q4 (q8 X)).2.1 (q4 (q8 X)).2.2.1 Z) (fun ρ X V Z=>Z 0 (Shape.inj jb.cv_s (X.1,X.2.1,X.2.2.1,X.2.2.2.1,(q4 X).1,(q4 X).2.1,(q4 X).2.2.1,(q4 X).2.2.2.1,(q8 X).1,(q8 X).2.1,(q8 X).2.2.1,(q8 X).2.2.2.1,(q4 (q8 X)).1,V.1,V.2,())))
def jb.ck_ (t8:Int)(t64:Int)(t65:Int)(z0:Int)(z1:Int)(z2:Bool)(old0:Int)(old1:Int)(old2:Bool)(ud:List YP)(ue:List YP)(Z:(Int×(List YP)×(List YP))⊕(Int×(List YP)×(List YP))→Option ρ):Option ρ:=
 br (decide (t65<t64))
 (bnd (jb.cv_ t8 t65 z0 z1 z2 old0 old1 old2 ud ue some) fun y=>
 Z (.inl ((IntKind.i64.wrap (t65+(1:Int))),y.1,y.2)))
 (Z (.inr (t65,ud,ue)))
def jb.ck_r:Ck:=Ck.ofLoop (S:=Int×(List YP)×(List YP)) (T:=Int×(List YP)×(List YP)) jb.cv_s (fun X=>((q4 X).2.1,(q4 (q8 X)).2.1,(q4 (q8 X)).2.2.1)) (fun ρ X Q Z=>jb.ck_ X.2.2.2.1 (q4 X).1 Q.1 (q4 X).2.2.1 (q4 X).2.2.2.1 (q8 X).1 (q8 X).2.1 (q8 X).2.2.1 (q8 X).2.2.2.1 Q.2.1 Q.2.2 Z) (fun ρ X V Z=>Z 4 (Shape.inj jb.cv_s (X.1,X.2.1,X.2.2.1,X.2.2.2.1,(q4 X).1,V.1,(q4 X).2.2.1,(q4 X).2.2.2.1,(q8 X).1,(q8 X).2.1,(q8 X).2.2.1,(q8 X).2.2.2.1,(q4 (q8 X)).1,V.2.1,V.2.2,())))
def jb.c21 (t8:Int)(ue:List YP)(Z:Unit→Option ρ):Option ρ:=
 bnd (inR (List.length ue) t8) fun y=>
 bnd (idx ue t8) fun y1=>
 Z ()
def jb.c21r:Ck:=Ck.of (T:=Unit) jb.cv_s (fun ρ X Z=>jb.c21 X.2.2.2.1 (q4 (q8 X)).2.2.1 Z) (fun ρ X V Z=>Z 0 (Shape.inj jb.cv_s (X.1,X.2.1,X.2.2.1,X.2.2.2.1,(q4 X).1,(q4 X).2.1,(q4 X).2.2.1,(q4 X).2.2.2.1,(q8 X).1,(q8 X).2.1,(q8 X).2.2.1,(q8 X).2.2.2.1,(q4 (q8 X)).1,(q4 (q8 X)).2.1,(List.set (q4 (q8 X)).2.2.1 (Int.toNat X.2.2.2.1) ((q8 X).2.1,(q8 X).2.2.1,(q8 X).2.2.2.1)),())))
def jb.c23 (t8:Int)(ud:List YP)(Z:Unit→Option ρ):Option ρ:=
 bnd (inR (List.length ud) t8) fun y=>
 bnd (idx ud t8) fun y1=>
 Z ()
def jb.c23r:Ck:=Ck.of (T:=Unit) jb.cv_s (fun ρ X Z=>jb.c23 X.2.2.2.1 (q4 (q8 X)).2.1 Z) (fun ρ X V Z=>Z 0 (Shape.inj jb.cv_s (X.1,X.2.1,X.2.2.1,X.2.2.2.1,(q4 X).1,(q4 X).2.1,(q4 X).2.2.1,(q4 X).2.2.2.1,(q8 X).1,(q8 X).2.1,(q8 X).2.2.1,(q8 X).2.2.2.1,(q4 (q8 X)).1,(List.set (q4 (q8 X)).2.1 (Int.toNat X.2.2.2.1) ((q4 X).2.2.1,(q4 X).2.2.2.1,(q8 X).1)),(q4 (q8 X)).2.2)))
def jb (q:Int) (b:Int) (uc:Int) (ud:List YP) (ue:List YP):Option (Bool×(List YP)×(List YP)×Int×Unit):=
 bnd (okIf (decide ((0:Int)≤q))) fun y=>
 bnd (jp (0:Int) (↑(List.length ud):Int) (0:Int) (IntKind.u64.wrap ((1:Int)*(2:Int)^Min.min (Int.toNat q) (64:Nat))) false ud) fun y1=>
 br (decide (y1.1<(0:Int)))
 (bnd (iter (fun s↦jb.ch_ (↑(List.length ue):Int) s.1 y1.2.1 y1.2.2.1 y1.2.2.2.1 s.2.1 s.2.2.1 s.2.2.2 y1.2.2.2.2.1 ue some) ((0:Int),(0:Int),(0:Int),false)) fun y2=>
 some (y2.2.2.2==(b==(1:Int)),y1.2.2.2.2.1,ue,uc,()))
 (bnd (inR (List.length y1.2.2.2.2.1) y1.1) fun y3=>
 bnd (idx y1.2.2.2.2.1 y1.1) fun y4=>
 bnd (iter (fun s↦jb.ck_ y1.1 uc s.1 y1.2.1 y1.2.2.1 y1.2.2.2.1 y4.1 y4.2.1 y4.2.2 s.2.1 s.2.2 some) ((0:Int),y1.2.2.2.2.1,ue)) fun y5=>
 bnd (jb.c21 y1.1 y5.2.2 some) fun y6=>
 bnd (jb.c23 y1.1 y5.2.1 some) fun y7=>
 some (true,List.set y5.2.1 (Int.toNat y1.1) (y1.2.1,y1.2.2.1,b==(1:Int)),List.set y5.2.2 (Int.toNat y1.1) (y4.1,y4.2.1,y4.2.2),uc,()))
def jb.mc:MCallee:=⟨41,jb.pre,jb.post,fun X=>jb X.1 X.2.1 X.2.2.1 X.2.2.2.1 (q4 X).1⟩
def jb.G:Env:=⟨144,tab,[(85,jL.ce),(86,jU.ce),(87,kl.ce)],[0,1,2,6,7,8,9,10,11,12,13,24,29,30,31,32,38,64,65,66,81,110],[1000700,1000701,1000702],[(23,[⟨[],[],[141,142],[]⟩,⟨[0],[],[141,142],[]⟩,⟨[1,0],[],[141,142],[]⟩,⟨[2,1,0],[],[141,142],[]⟩,⟨[],[],[137,138,139,140,142],[]⟩,⟨[],[],[137,138,139,140,141],[]⟩,⟨[3,2,1,0,4,5],[],[],[]⟩,⟨[6,3,2,1,0,4,5],[1000701],[],[]⟩]),
 (21,[⟨[],[],[131,132],[]⟩,⟨[0],[],[131,132],[]⟩,⟨[1,0],[],[131,132],[]⟩,⟨[2,1,0],[],[131,132],[]⟩,⟨[],[],[127,128,129,130,132],[]⟩,⟨[],[],[127,128,129,130,131],[]⟩,⟨[3,2,1,0,4,5],[],[],[]⟩,⟨[6,3,2,1,0,4,5],[1000702],[],[]⟩]),
 (19,[⟨[],[],[115,116,117,118,119,120,121,122,123,124],[]⟩,⟨[0],[],[115,116,117,118,119,120,121,122,123,124],[]⟩,⟨[1,0],[],[115,116,117,118,119,120,121,122,123,124],[]⟩,⟨[2,1,0],[],[115,116,117,118,119,120,121,122,123,124],[]⟩,⟨[],[],[111,112,113,114,116,117,118,119,120,121,122,123,124],[]⟩,⟨[],[],[111,112,113,114,115,120,123],[]⟩,⟨[5],[],[111,112,113,114,115,120,123],[]⟩,⟨[6,5],[],[111,112,113,114,115,120,123],[]⟩,⟨[7,6,5],[],[111,112,113,114,115,120,123],[]⟩,⟨[],[],[111,112,113,114,115,116,117,118,119,123],[]⟩,⟨[8,7,6,5,9],[],[111,112,113,114,115,123],[]⟩,⟨[10,8,7,6,5,9],[],[111,112,113,114,115,123],[]⟩,⟨[],[],[111,112,113,114,115,116,117,118,119,120,121,122],[]⟩,⟨[11,10,8,7,6,5,9,12],[],[111,112,113,114,115],[]⟩,⟨[3,2,1,0,4,5,6,7,8,9,10,11,12,13],[],[],[]⟩,⟨[14,3,2,1,0,4,5,6,7,8,9,10,11,12,13],[1000702],[],[]⟩]),
 (18,[⟨[],[],[98],[]⟩,⟨[],[],[97],[]⟩,⟨[0,1],[],[],[]⟩,⟨[2,0,1],[],[],[]⟩,⟨[3,2,0,1],[],[105,108],[]⟩,⟨[4,3,2,0,1],[],[105,108],[]⟩,⟨[5,4,3,2,0,1],[],[105,108],[]⟩,⟨[6,5,4,3,2,0,1],[],[105,108],[]⟩,⟨[3,2,0,1],[],[101,102,103,104,108],[]⟩,⟨[7,6,5,4,3,2,0,1,8],[],[108],[]⟩,⟨[9,7,6,5,4,3,2,0,1,8],[],[108],[]⟩,⟨[3,2,0,1],[],[101,102,103,104,105,106,107],[]⟩,⟨[10,9,7,6,5,4,3,2,0,1,8,11],[],[],[]⟩,⟨[3,2,0,1,12,10,9,7,6,5,4,8,11],[],[],[]⟩]),
 (17,[⟨[],[],[86,87,88,89,90,91,92,93,94,95],[]⟩,⟨[0],[],[86,87,88,89,90,91,92,93,94,95],[]⟩,⟨[1,0],[],[86,87,88,89,90,91,92,93,94,95],[]⟩,⟨[2,1,0],[],[86,87,88,89,90,91,92,93,94,95],[]⟩,⟨[],[],[82,83,84,85,87,88,89,90,91,92,93,94,95],[]⟩,⟨[],[],[82,83,84,85,86,91,94],[]⟩,⟨[5],[],[82,83,84,85,86,91,94],[]⟩,⟨[6,5],[],[82,83,84,85,86,91,94],[]⟩,⟨[7,6,5],[],[82,83,84,85,86,91,94],[]⟩,⟨[],[],[82,83,84,85,86,87,88,89,90,94],[]⟩,⟨[8,7,6,5,9],[],[82,83,84,85,86,94],[]⟩,⟨[10,8,7,6,5,9],[],[82,83,84,85,86,94],[]⟩,⟨[],[],[82,83,84,85,86,87,88,89,90,91,92,93],[]⟩,⟨[11,10,8,7,6,5,9,12],[],[82,83,84,85,86],[]⟩,⟨[3,2,1,0,4,5,6,7,8,9,10,11,12,13],[],[],[]⟩,⟨[14,3,2,1,0,4,5,6,7,8,9,10,11,12,13],[1000701],[],[]⟩]),
 (16,[⟨[],[],[69],[]⟩,⟨[],[],[68],[]⟩,⟨[0,1],[],[],[]⟩,⟨[2,0,1],[],[],[]⟩,⟨[3,2,0,1],[],[76,79],[]⟩,⟨[4,3,2,0,1],[],[76,79],[]⟩,⟨[5,4,3,2,0,1],[],[76,79],[]⟩,⟨[6,5,4,3,2,0,1],[],[76,79],[]⟩,⟨[3,2,0,1],[],[72,73,74,75,79],[]⟩,⟨[7,6,5,4,3,2,0,1,8],[],[79],[]⟩,⟨[9,7,6,5,4,3,2,0,1,8],[],[79],[]⟩,⟨[3,2,0,1],[],[72,73,74,75,76,77,78],[]⟩,⟨[10,9,7,6,5,4,3,2,0,1,8,11],[],[],[]⟩,⟨[3,2,0,1,12,10,9,7,6,5,4,8,11],[],[],[]⟩]),
 (9,[⟨[],[],[40,41,42,43,44,45,46],[]⟩,⟨[],[],[39,44],[]⟩,⟨[1],[],[39,44],[]⟩,⟨[2,1],[],[39,44],[]⟩,⟨[3,2,1],[],[39,44],[]⟩,⟨[],[],[39,40,41,42,43],[]⟩,⟨[4,3,2,1,5],[],[39],[]⟩,⟨[6,4,3,2,1,5],[],[39],[]⟩,⟨[0,7,6,4,3,2,1,5],[],[],[]⟩,⟨[8,0,7,6,4,3,2,1,5],[9],[],[]⟩])],[(23,jb.c23r),(21,jb.c21r),(100014,jb.ck_r),(261454,jb.cv_r),(19,jb.c19r),(18,jb.c18r),(265541,jb.cV_r),(17,jb.c17r),(16,jb.c16r),(100006,jb.ch_r),(228680,jb.cF_r),(9,jb.c9r)],[(83,jp.mc)],Jd⟩
theorem jb.p0:PcA jb.G Try.f41 0:=
 Jo (s:=jb.ch_r) (by kernel_rfl) (by kernel_rfl) (Jg (sh:=jb.cF_s) (I:=fun X Q=>(X.1,X.2.1,X.2.2.1,X.2.2.2.1,(q4 X).1,Q.1,(q4 X).2.2.1,(q4 X).2.2.2.1,(q8 X).1,Q.2.1,Q.2.2.1,Q.2.2.2,(q4 (q8 X)))) (fun X=>rfl) (fun ρ X Q Z=>(jo (je fun _=>jd) jd)) (fun ρ X t k=>(by kernel_rfl)) (fun X s=>by kernel_rfl))
theorem jb.p1:PcA jb.G Try.f41 1:=
 kq (s:=jb.cF_r) (by kernel_rfl) (by kernel_rfl) (jC (sh:=jb.cF_s) (fun ρ X Z=>(je fun _=>(je fun _=>(je fun _=>(jo (je fun _=>jd) jd))))) (fun ρ X t k=>(by kernel_rfl)) (fun X=>by kernel_rfl))
theorem jb.p2:PcA jb.G Try.f41 2:=
 jB (s:=jb.c9r) (by kernel_rfl) (by kernel_rfl) (jC (sh:=jb.c9s) (fun ρ X Z=>(je fun _=>(je fun _=>(je fun _=>jd)))) (fun ρ X t k=>(by kernel_rfl)) (fun X=>by kernel_rfl))
theorem jb.p3:PcA jb.G Try.f41 3:=
 Jo (s:=jb.ck_r) (by kernel_rfl) (by kernel_rfl) (Jg (sh:=jb.cv_s) (I:=fun X Q=>(X.1,X.2.1,X.2.2.1,X.2.2.2.1,(q4 X).1,Q.1,(q4 X).2.2.1,(q4 X).2.2.2.1,(q8 X).1,(q8 X).2.1,(q8 X).2.2.1,(q8 X).2.2.2.1,(q4 (q8 X)).1,Q.2.1,Q.2.2,())) (fun X=>rfl) (fun ρ X Q Z=>(jo (je fun _=>jd) jd)) (fun ρ X t k=>(by kernel_rfl)) (fun X s=>by kernel_rfl))
theorem jb.p4:PcA jb.G Try.f41 4:=
 kq (s:=jb.cv_r) (by kernel_rfl) (by kernel_rfl) (jC (sh:=jb.cv_s) (fun ρ X Z=>(je fun _=>(je fun _=>(jo (je fun _=>jd) jd)))) (fun ρ X t k=>(by kernel_rfl)) (fun X=>by kernel_rfl))
theorem jb.p5:PcA jb.G Try.f41 5:=
 kq (s:=jb.cV_r) (by kernel_rfl) (by kernel_rfl) (jC (sh:=jb.c16s) (fun ρ X Z=>(je fun _=>(jo (je fun _=>jd) jd))) (fun ρ X t k=>(by kernel_rfl)) (fun X=>by kernel_rfl))
theorem jb.p6:PcA jb.G Try.f41 6:=
 jB (s:=jb.c16r) (by kernel_rfl) (by kernel_rfl) (jC (sh:=jb.c16s) (fun ρ X Z=>(jo (je fun _=>(je fun _=>(je fun _=>jd))) jd)) (fun ρ X t k=>(by kernel_rfl)) (fun X=>by kernel_rfl))
theorem jb.p7:PcA jb.G Try.f41 7:=
 jB (s:=jb.c17r) (by kernel_rfl) (by kernel_rfl) (jC (sh:=jb.c16s) (fun ρ X Z=>(je fun _=>(je fun _=>(je fun _=>(je fun _=>(je fun _=>jd)))))) (fun ρ X t k=>(by kernel_rfl)) (fun X=>by kernel_rfl))
theorem jb.p8:PcA jb.G Try.f41 8:=
 jB (s:=jb.c18r) (by kernel_rfl) (by kernel_rfl) (jC (sh:=jb.c16s) (fun ρ X Z=>(jo (je fun _=>(je fun _=>(je fun _=>jd))) jd)) (fun ρ X t k=>(by kernel_rfl)) (fun X=>by kernel_rfl))
theorem jb.p9:PcA jb.G Try.f41 9:=
 jB (s:=jb.c19r) (by kernel_rfl) (by kernel_rfl) (jC (sh:=jb.c16s) (fun ρ X Z=>(je fun _=>(je fun _=>(je fun _=>(je fun _=>(je fun _=>jd)))))) (fun ρ X t k=>(by kernel_rfl)) (fun X=>by kernel_rfl))
theorem jb.p10:PcA jb.G Try.f41 10:=
 jB (s:=jb.c21r) (by kernel_rfl) (by kernel_rfl) (jC (sh:=jb.cv_s) (fun ρ X Z=>(je fun _=>(je fun _=>jd))) (fun ρ X t k=>(by kernel_rfl)) (fun X=>by kernel_rfl))
theorem jb.p11:PcA jb.G Try.f41 11:=
 jB (s:=jb.c23r) (by kernel_rfl) (by kernel_rfl) (jC (sh:=jb.cv_s) (fun ρ X Z=>(je fun _=>(je fun _=>jd))) (fun ρ X t k=>(by kernel_rfl)) (fun X=>by kernel_rfl))
theorem jb.ok:MOk Try.prog 41 jb.mc:=kW (mc:=jb.mc) (G:=jb.G) Jn mixed Try.func41 ⟨(jX jL.ok (jX jU.ok (jX kl.ok Je))),(JX jp.ok jY),jN⟩ (m:=12) (by kernel_rfl) ⟨⟨⟨⟨⟨⟨⟨⟨⟨⟨⟨⟨trivial,jb.p0⟩,jb.p1⟩,jb.p2⟩,jb.p3⟩,jb.p4⟩,jb.p5⟩,jb.p6⟩,jb.p7⟩,jb.p8⟩,jb.p9⟩,jb.p10⟩,jb.p11⟩ (by kernel_rfl) (fun _=>by kernel_rfl)
def JC.pre:Shape:=⟨[(0,tb11),(1,tb33),(2,tb51)],[(1000100,tb60),(1000200,tb60)]⟩
def JC.post:Shape:=⟨[(0,tb7)],[(1000100,tb60),(1000200,tb60)]⟩
def JC (p:YP) (ua:Int) (ub:Int):Option (Bool×Int×Int×Unit):=
 br (decide (ua<ub))
 (bnd (okIf (decide ((0:Int)≤ua))) fun y=>
 some (ibits BinOp.and IntKind.u64 (Int.fdiv p.1 ((2:Int)^Min.min (Int.toNat ua) (64:Nat))) (1:Int)==(1:Int),ua,ub,()))
 (bnd (okIf (decide ((0:Int)≤IntKind.i64.wrap (ua-ub)))) fun y1=>
 some (ibits BinOp.and IntKind.u64 (Int.fdiv p.2.1 ((2:Int)^Min.min (Int.toNat (IntKind.i64.wrap (ua-ub))) (64:Nat))) (1:Int)==(1:Int),ua,ub,()))
def JC.mc:MCallee:=⟨88,JC.pre,JC.post,fun X=>JC X.1 X.2.1 X.2.2.1⟩
def JC.G:Env:=⟨22,tab,[],[0,1,2,3,4,7],[1000100,1000200],[],[],[],Jd⟩
theorem JC.ok:MOk Try.prog 88 JC.mc:=kW (mc:=JC.mc) (G:=JC.G) Jn mixed Try.func88 ⟨Je,jY,jN⟩ (m:=0) (by kernel_rfl) trivial (by kernel_rfl) (fun _=>by kernel_rfl)
abbrev tb86:SD:=.one (.own 11 0)
abbrev tb87:SD:=.one (.clo 17)
abbrev tb88:SO:=.clo 88 [] [.ref 6 0,.ref 3 0]
def jh.c8 (t8:Int)(n0:Int)(col0:Int)(t11:List YP)(Z:Bool×Int×Int→Option ρ):Option ρ:=
 br (decide (t8<(↑(List.length t11):Int)))
 (bnd (inR (List.length t11) t8) fun y=>
 bnd (idx t11 t8) fun y1=>
 bnd (JC y1 col0 n0) fun y2=>
 Z ((!y2.1),y2.2.2.1,y2.2.1))
 (Z (false,n0,col0))
def jh.c8s:Shape:=⟨[(0,tb86),(1,tb5),(3,tb12),(4,tb17),(5,tb5),(6,tb8),(7,tb87),(8,tb5),(13,tb5),(14,tb5)],[(3,tb60),(6,tb60),(11,tb22),(17,tb88)]⟩
def jh.c8x0:Shape:=⟨[(0,tb86),(1,tb5),(3,tb12),(4,tb17),(5,tb5),(6,tb8),(7,tb87),(8,tb5),(13,tb5),(14,tb5),(31,tb7)],[(3,tb60),(6,tb60),(11,tb22),(17,tb88)]⟩
def jh.c8r:Ck:=Ck.of (T:=Bool×Int×Int) jh.c8s (fun ρ X Z=>jh.c8 X.2.2.2.1 (q4 X).2.2.1 (q4 X).2.2.2.1 (q8 X).1 Z) (fun ρ X V Z=>Z 0 (Shape.inj jh.c8x0 (X.1,X.2.1,X.2.2.1,X.2.2.2.1,(q4 X).1,(q4 X).2.1,V.1,V.2.1,V.2.2,(q8 X))))
def jh.cc_ (t8:Int)(n0:Int)(col0:Int)(t11:List YP)(Z:(Int×Int×Int)⊕(Int×Int×Int)→Option ρ):Option ρ:=
 bnd (jh.c8 t8 n0 col0 t11 some) fun y=>
 br y.1
 (Z (.inl ((IntKind.i64.wrap (t8+(1:Int))),y.2.1,y.2.2)))
 (Z (.inr (t8,y.2.1,y.2.2)))
def jh.cc_r:Ck:=Ck.ofLoop (S:=Int×Int×Int) (T:=Int×Int×Int) jh.c8s (fun X=>(X.2.2.2.1,(q4 X).2.2.1,(q4 X).2.2.2.1)) (fun ρ X Q Z=>jh.cc_ Q.1 Q.2.1 Q.2.2 (q8 X).1 Z) (fun ρ X V Z=>Z 4 (Shape.inj jh.c8s (X.1,X.2.1,X.2.2.1,V.1,(q4 X).1,(q4 X).2.1,V.2.1,V.2.2,(q8 X))))
def jh.c11 (done:Int)(t8:Int)(t11:List YP)(Z:List YP→Option ρ):Option ρ:=
 bnd (inR (List.length t11) t8) fun y=>
 bnd (idx t11 t8) fun y1=>
 bnd (inR (List.length t11) done) fun y2=>
 bnd (idx t11 done) fun y3=>
 bnd (inR (List.length t11) done) fun y4=>
 bnd (idx t11 done) fun y5=>
 bnd (inR (List.length (List.set t11 (Int.toNat done) y1)) t8) fun y6=>
 bnd (idx (List.set t11 (Int.toNat done) y1) t8) fun y7=>
 Z (List.set (List.set t11 (Int.toNat done) y1) (Int.toNat t8) y3)
def jh.c11r:Ck:=Ck.of (T:=List YP) jh.c8s (fun ρ X Z=>jh.c11 X.2.2.1 X.2.2.2.1 (q8 X).1 Z) (fun ρ X V Z=>Z 0 (Shape.inj jh.c8s (X.1,X.2.1,X.2.2.1,X.2.2.2.1,(q4 X).1,(q4 X).2.1,(q4 X).2.2.1,(q4 X).2.2.2.1,V,())))
def jh.c15 (done:Int)(i:Int)(n0:Int)(col0:Int)(t11:List YP)(Z:Bool×Int×Int→Option ρ):Option ρ:=
 br (i !=done)
 (bnd (inR (List.length t11) i) fun y=>
 bnd (idx t11 i) fun y1=>
 bnd (JC y1 col0 n0) fun y2=>
 Z (y2.1,y2.2.2.1,y2.2.1))
 (Z (false,n0,col0))
def jh.c15s:Shape:=⟨[(0,tb86),(1,tb5),(3,tb12),(4,tb17),(5,tb5),(6,tb8),(7,tb87),(8,tb5),(9,tb5),(13,tb5),(14,tb5),(53,tb5),(54,tb5)],[(3,tb60),(6,tb60),(11,tb22),(17,tb88)]⟩
def jh.c15x0:Shape:=⟨[(0,tb86),(1,tb5),(3,tb12),(4,tb17),(5,tb5),(6,tb8),(7,tb87),(8,tb5),(9,tb5),(13,tb5),(14,tb5),(53,tb5),(54,tb5),(67,tb7)],[(3,tb60),(6,tb60),(11,tb22),(17,tb88)]⟩
def jh.c15r:Ck:=Ck.of (T:=Bool×Int×Int) jh.c15s (fun ρ X Z=>jh.c15 X.2.2.1 (q4 X).1 (q8 X).2.1 (q8 X).2.2.1 (q8 X).2.2.2.1 Z) (fun ρ X V Z=>Z 0 (Shape.inj jh.c15x0 (X.1,X.2.1,X.2.2.1,X.2.2.2.1,(q4 X).1,(q4 X).2.1,(q4 X).2.2.1,(q4 X).2.2.2.1,(q8 X).1,V.1,V.2.1,V.2.2,(q8 X).2.2.2)))
def jh.c16 (done:Int)(i:Int)(t11:List YP)(Z:List YP→Option ρ):Option ρ:=
 bnd (inR (List.length t11) i) fun y=>
 bnd (idx t11 i) fun y1=>
 bnd (inR (List.length t11) done) fun y2=>
 bnd (idx t11 done) fun y3=>
 bnd (jU y1 y3) fun y4=>
 bnd (inR (List.length t11) i) fun y5=>
 bnd (idx t11 i) fun y6=>
 Z (List.set t11 (Int.toNat i) y4)
def jh.c16r:Ck:=Ck.of (T:=List YP) jh.c15s (fun ρ X Z=>jh.c16 X.2.2.1 (q4 X).1 (q8 X).2.2.2.1 Z) (fun ρ X V Z=>Z 0 (Shape.inj jh.c15s (X.1,X.2.1,X.2.2.1,X.2.2.2.1,(q4 X).1,(q4 X).2.1,(q4 X).2.2.1,(q4 X).2.2.2.1,(q8 X).1,(q8 X).2.1,(q8 X).2.2.1,V,())))
def jh.cG_ (done:Int)(t54:Int)(n0:Int)(col0:Int)(t11:List YP)(Z:Int×Int×(List YP)→Option ρ):Option ρ:=
 bnd (jh.c15 done t54 n0 col0 t11 some) fun y=>
 br y.1
 (bnd (jh.c16 done t54 t11 some) fun y1=>
 Z (y.2.1,y.2.2,y1))
 (Z (y.2.1,y.2.2,t11))
def jh.cG_s:Shape:=⟨[(0,tb86),(1,tb5),(3,tb12),(4,tb17),(5,tb5),(6,tb8),(7,tb87),(8,tb5),(13,tb5),(14,tb5),(53,tb5),(54,tb5)],[(3,tb60),(6,tb60),(11,tb22),(17,tb88)]⟩
def jh.cG_r:Ck:=Ck.of (T:=Int×Int×(List YP)) jh.cG_s (fun ρ X Z=>jh.cG_ X.2.2.1 (q4 X).2.2.2.1 (q8 X).1 (q8 X).2.1 (q8 X).2.2.1 Z) (fun ρ X V Z=>Z 0 (Shape.inj jh.cG_s (X.1,X.2.1,X.2.2.1,X.2.2.2.1,(q4 X).1,(q4 X).2.1,(q4 X).2.2.1,(q4 X).2.2.2.1,V.1,V.2.1,V.2.2,())))
def jh.cf_ (done:Int)(t53:Int)(t54:Int)(n0:Int)(col0:Int)(t11:List YP)(Z:(Int×Int×Int×(List YP))⊕(Int×Int×Int×(List YP))→Option ρ):Option ρ:=
 br (decide (t54<t53))
 (bnd (jh.cG_ done t54 n0 col0 t11 some) fun y=>
 Z (.inl ((IntKind.i64.wrap (t54+(1:Int))),y.1,y.2.1,y.2.2)))
 (Z (.inr (t54,n0,col0,t11)))
def jh.cf_r:Ck:=Ck.ofLoop (S:=Int×Int×Int×(List YP)) (T:=Int×Int×Int×(List YP)) jh.cG_s (fun X=>((q4 X).2.2.2.1,(q8 X).1,(q8 X).2.1,(q8 X).2.2.1)) (fun ρ X Q Z=>jh.cf_ X.2.2.1 (q4 X).2.2.1 Q.1 Q.2.1 Q.2.2.1 Q.2.2.2 Z) (fun ρ X V Z=>Z 6 (Shape.inj jh.cG_s (X.1,X.2.1,X.2.2.1,X.2.2.2.1,(q4 X).1,(q4 X).2.1,(q4 X).2.2.1,V.1,V.2.1,V.2.2.1,V.2.2.2,())))
def jh.cx_ (done:Int)(t14:Int)(n0:Int)(t11:List YP)(Z:Int×Int×(List YP)→Option ρ):Option ρ:=
 bnd (iter (fun s↦jh.cc_ s.1 s.2.1 s.2.2 t11 some) (done,n0,t14)) fun y=>
 br (y.1==(↑(List.length t11):Int))
 (Z (done,y.2.1,t11))
 (bnd (jh.c11 done y.1 t11 some) fun y1=>
 bnd (iter (fun s↦jh.cf_ done (↑(List.length y1):Int) s.1 s.2.1 s.2.2.1 s.2.2.2 some) ((0:Int),y.2.1,y.2.2,y1)) fun y2=>
 Z ((IntKind.i64.wrap (done+(1:Int))),y2.2.1,y2.2.2.2))
def jh.cx_s:Shape:=⟨[(0,tb86),(1,tb5),(3,tb12),(4,tb17),(5,tb5),(13,tb5),(14,tb5)],[(3,tb60),(11,tb22)]⟩
def jh.cx_r:Ck:=Ck.of (T:=Int×Int×(List YP)) jh.cx_s (fun ρ X Z=>jh.cx_ X.2.2.1 (q4 X).1 (q4 X).2.1 (q4 X).2.2.1 Z) (fun ρ X V Z=>Z 0 (Shape.inj jh.cx_s (X.1,X.2.1,V.1,X.2.2.2.1,(q4 X).1,V.2.1,V.2.2,())))
def jh.cd_ (done:Int)(t13:Int)(t14:Int)(n0:Int)(t11:List YP)(Z:(Int×Int×Int×(List YP))⊕(Int×Int×Int×(List YP))→Option ρ):Option ρ:=
 br (decide (t14<t13))
 (bnd (jh.cx_ done t14 n0 t11 some) fun y=>
 Z (.inl (y.1,(IntKind.i64.wrap (t14+(1:Int))),y.2.1,y.2.2)))
 (Z (.inr (done,t14,n0,t11)))
def jh.cd_r:Ck:=Ck.ofLoop (S:=Int×Int×Int×(List YP)) (T:=Int×Int×Int×(List YP)) jh.cx_s (fun X=>(X.2.2.1,(q4 X).1,(q4 X).2.1,(q4 X).2.2.1)) (fun ρ X Q Z=>jh.cd_ Q.1 X.2.2.2.1 Q.2.1 Q.2.2.1 Q.2.2.2 Z) (fun ρ X V Z=>Z 2 (Shape.inj jh.cx_s (X.1,X.2.1,V.1,X.2.2.2.1,V.2.1,V.2.2.1,V.2.2.2,())))
def jh (l:List YP) (n:Int):Option (List YP):=
 bnd (okIf (decide (((0:Nat)+List.length l)*(24:Nat)≤(140737488355328:Nat))&&decide ((0:Nat)+List.length l≤(140737488355328:Nat)))) fun y=>
 bnd (iter (fun s↦jh.cd_ s.1 (IntKind.i64.wrap ((2:Int)*n)) s.2.1 s.2.2.1 s.2.2.2 some) ((0:Int),(0:Int),n,l)) fun y1=>
 some y1.2.2.2
def jh.ce:Go.Ql.Callee:=⟨[(.sl (.st (.pair (.int .u64) (.pair (.int .u64) .bool)))),(.int .i64)],[(.sl (.st (.pair (.int .u64) (.pair (.int .u64) .bool))))],fun X=>jh X.1 X.2⟩
def jh.G:Env:=⟨85,tab,[(86,jU.ce)],[0,1,3,4,5,6,7,8,9,13,14,15,31,37,53,54,55,67],[11],[(16,[⟨[],[],[69,70,71,72,73,74,75,76,77,78],[]⟩,⟨[],[],[68,70,71,72,73,74,75,76,77,78],[]⟩,⟨[],[],[68,69,71,74,75,76,77],[]⟩,⟨[],[],[68,69,70,74,75,76,77],[]⟩,⟨[2,3],[],[68,69,74,75,76,77],[]⟩,⟨[4,2,3],[],[68,69,74,75,76,77],[]⟩,⟨[],[],[68,69,70,71,72,73,75],[]⟩,⟨[],[],[68,69,70,71,72,73,74],[]⟩,⟨[6,7],[],[68,69,70,71,72,73],[]⟩,⟨[8,6,7],[],[68,69,70,71,72,73],[]⟩,⟨[5,4,2,3,9,8,6,7],[],[68,69],[]⟩,⟨[0,1,2,3,4,5,6,7,8,9,10],[],[],[]⟩,⟨[11,0,1,2,3,4,5,6,7,8,9,10],[11],[],[]⟩]),
 (11,[⟨[],[],[39,40,41,42,43,44,45,46,47,48,49],[]⟩,⟨[],[],[38,40,41,42,43,44,45,46,47,48,49],[]⟩,⟨[],[],[38,39,41,42,43,44,45,46,47,48,49,50],[11]⟩,⟨[],[],[38,39,40,42,43,44,45,46,47,48,49,50],[11]⟩,⟨[],[],[38,39,40,41,43,46,47,48,49],[]⟩,⟨[],[],[38,39,40,41,42,46,47,48,49],[]⟩,⟨[4,5],[],[38,39,40,41,46,47,48,49],[]⟩,⟨[6,4,5],[],[38,39,40,41,46,47,48,49],[]⟩,⟨[],[],[38,39,40,41,42,43,44,45,47],[]⟩,⟨[],[],[38,39,40,41,42,43,44,45,46],[]⟩,⟨[8,9],[],[38,39,40,41,42,43,44,45],[]⟩,⟨[10,8,9],[],[38,39,40,41,42,43,44,45],[]⟩,⟨[0,1,4,5,6,7,11,10,8,9],[],[40,41],[]⟩,⟨[12,0,1,4,5,6,7,11,10,8,9],[11],[40,41],[]⟩,⟨[2,3,0,1,4,5,6,7,8,9,10,11,12,13],[],[],[]⟩,⟨[14,2,3,0,1,4,5,6,7,8,9,10,11,12,13],[11],[],[]⟩])],[(100004,jh.cd_r),(220528,jh.cx_r),(100013,jh.cf_r),(257352,jh.cG_r),(16,jh.c16r),(15,jh.c15r),(11,jh.c11r),(100008,jh.cc_r),(8,jh.c8r)],[(88,JC.mc)],Jd⟩
theorem jh.p0:PcA jh.G Try.f42 0:=
 Jo (s:=jh.cd_r) (by kernel_rfl) (by kernel_rfl) (Jg (sh:=jh.cx_s) (I:=fun X Q=>(X.1,X.2.1,Q.1,X.2.2.2.1,Q.2.1,Q.2.2.1,Q.2.2.2,())) (fun X=>rfl) (fun ρ X Q Z=>(jo (je fun _=>jd) jd)) (fun ρ X t k=>(by kernel_rfl)) (fun X s=>by kernel_rfl))
theorem jh.p1:PcA jh.G Try.f42 1:=
 kq (s:=jh.cx_r) (by kernel_rfl) (by kernel_rfl) (jC (sh:=jh.cx_s) (fun ρ X Z=>(je fun _=>(jo jd (je fun _=>(je fun _=>jd))))) (fun ρ X t k=>(by kernel_rfl)) (fun X=>by kernel_rfl))
theorem jh.p2:PcA jh.G Try.f42 2:=
 Jo (s:=jh.cc_r) (by kernel_rfl) (by kernel_rfl) (Jg (sh:=jh.c8s) (I:=fun X Q=>(X.1,X.2.1,X.2.2.1,Q.1,(q4 X).1,(q4 X).2.1,Q.2.1,Q.2.2,(q8 X))) (fun X=>rfl) (fun ρ X Q Z=>(je fun _=>(jo jd jd))) (fun ρ X t k=>(by kernel_rfl)) (fun X s=>by kernel_rfl))
theorem jh.p3:PcA jh.G Try.f42 3:=
 jB (s:=jh.c8r) (by kernel_rfl) (by kernel_rfl) (jC (sh:=jh.c8s) (fun ρ X Z=>(jo (je fun _=>(je fun _=>(je fun _=>jd))) jd)) (fun ρ X t k=>(by kernel_rfl)) (fun X=>by kernel_rfl))
theorem jh.p4:PcA jh.G Try.f42 4:=
 jB (s:=jh.c11r) (by kernel_rfl) (by kernel_rfl) (jC (sh:=jh.c8s) (fun ρ X Z=>(je fun _=>(je fun _=>(je fun _=>(je fun _=>(je fun _=>(je fun _=>(je fun _=>(je fun _=>jd))))))))) (fun ρ X t k=>(by kernel_rfl)) (fun X=>by kernel_rfl))
theorem jh.p5:PcA jh.G Try.f42 5:=
 Jo (s:=jh.cf_r) (by kernel_rfl) (by kernel_rfl) (Jg (sh:=jh.cG_s) (I:=fun X Q=>(X.1,X.2.1,X.2.2.1,X.2.2.2.1,(q4 X).1,(q4 X).2.1,(q4 X).2.2.1,Q.1,Q.2.1,Q.2.2.1,Q.2.2.2,())) (fun X=>rfl) (fun ρ X Q Z=>(jo (je fun _=>jd) jd)) (fun ρ X t k=>(by kernel_rfl)) (fun X s=>by kernel_rfl))
theorem jh.p6:PcA jh.G Try.f42 6:=
 kq (s:=jh.cG_r) (by kernel_rfl) (by kernel_rfl) (jC (sh:=jh.cG_s) (fun ρ X Z=>(je fun _=>(jo (je fun _=>jd) jd))) (fun ρ X t k=>(by kernel_rfl)) (fun X=>by kernel_rfl))
theorem jh.p7:PcA jh.G Try.f42 7:=
 jB (s:=jh.c15r) (by kernel_rfl) (by kernel_rfl) (jC (sh:=jh.c15s) (fun ρ X Z=>(jo (je fun _=>(je fun _=>(je fun _=>jd))) jd)) (fun ρ X t k=>(by kernel_rfl)) (fun X=>by kernel_rfl))
theorem jh.p8:PcA jh.G Try.f42 8:=
 jB (s:=jh.c16r) (by kernel_rfl) (by kernel_rfl) (jC (sh:=jh.c15s) (fun ρ X Z=>(je fun _=>(je fun _=>(je fun _=>(je fun _=>(je fun _=>(je fun _=>(je fun _=>jd)))))))) (fun ρ X t k=>(by kernel_rfl)) (fun X=>by kernel_rfl))
theorem jh.ok:CalleeOk Try.prog 42 jh.ce:=fn_ok (G:=jh.G) Jn mixed Try.func42 ⟨(jX jU.ok Je),(JX JC.ok jY),jN⟩ (m:=9) (by kernel_rfl) ⟨⟨⟨⟨⟨⟨⟨⟨⟨trivial,jh.p0⟩,jh.p1⟩,jh.p2⟩,jh.p3⟩,jh.p4⟩,jh.p5⟩,jh.p6⟩,jh.p7⟩,jh.p8⟩ (by kernel_rfl) (fun _=>by kernel_rfl)
abbrev tb89:SD:=.one (.val (.st (.pair (.int .i64) (.int .i64))))
def Jh.c1  (Z:Unit→Option ρ):Option ρ:=
 Z ()
def Jh.c1s:Shape:=⟨[(0,tb89),(1,tb1),(2,tb21),(3,tb36),(4,tb5),(5,tb39)],[(1,tb19),(5,tb19)]⟩
def Jh.c1r:Ck:=Ck.of (T:=Unit) Jh.c1s (fun ρ X Z=>Jh.c1  Z) (fun ρ X V Z=>Z 0 (Shape.inj Jh.c1s (X.1,[],[],(0:Int),(q4 X).1,(q4 X).2.1,(q4 X).1,(q4 X).2.1,())))
def Jh (f:Int×Int):Option ((List (List UInt8))×(List Int)×Int×(Int×Int)):=
 bnd (Jh.c1 some) fun y=>
 some ([],[],(0:Int),f.1,f.2)
def Jh.ce:Go.Ql.Callee:=⟨[(.st (.pair (.int .i64) (.int .i64)))],[(.sl .str),(.sl (.int .i64)),(.int .i64),(.st (.pair (.int .i64) (.int .i64)))],fun X=>Jh X⟩
def Jh.G:Env:=⟨7,tab,[],[0,1,2,3,4,5],[],[(1,[⟨[],[],[2,3,4],[2,3]⟩,⟨[],[2],[6],[]⟩,⟨[1],[3],[6],[]⟩,⟨[2,1],[],[6],[]⟩,⟨[0,3,2,1],[5],[],[]⟩])],[(1,Jh.c1r)],[],Jd⟩
theorem Jh.p0:PcA Jh.G Try.f35 0:=
 jB (s:=Jh.c1r) (by kernel_rfl) (by kernel_rfl) (jC (sh:=Jh.c1s) (fun ρ X Z=>jd) (fun ρ X t k=>(by kernel_rfl)) (fun X=>by kernel_rfl))
theorem Jh.ok:CalleeOk Try.prog 35 Jh.ce:=fn_ok (G:=Jh.G) Jn mixed Try.func35 ⟨Je,jY,jN⟩ (m:=1) (by kernel_rfl) ⟨trivial,Jh.p0⟩ (by kernel_rfl) (fun _=>by kernel_rfl)
def Jc.c6 (a:List (List UInt8))(b:List (List UInt8))(i:Int)(Z:Bool→Option ρ):Option ρ:=
 bnd (idx a i) fun y=>
 bnd (idx b i) fun y1=>
 Z (!y==y1)
def Jc.c6s:Shape:=⟨[(0,tb21),(1,tb21),(4,tb7),(5,tb5)],[]⟩
def Jc.c6x0:Shape:=⟨[(0,tb21),(1,tb21),(4,tb7),(5,tb5),(25,tb7)],[]⟩
def Jc.c6r:Ck:=Ck.of (T:=Bool) Jc.c6s (fun ρ X Z=>Jc.c6 X.1 X.2.1 X.2.2.2.1 Z) (fun ρ X V Z=>Z 0 (Shape.inj Jc.c6x0 (X.1,X.2.1,X.2.2.1,X.2.2.2.1,V,())))
def Jc.cd_ (a:List (List UInt8))(b:List (List UInt8))(i:Int)(Z:Int⊕(Int⊕Int)→Option ρ):Option ρ:=
 br (decide (i<(↑(List.length a):Int)))
 (bnd (Jc.c6 a b i some) fun y=>
 br y
 (Z (.inr (.inl i)))
 (Z (.inl (IntKind.i64.wrap (i+(1:Int))))))
 (Z (.inr (.inr i)))
def Jc.cd_r:Ck:=Ck.ofLoop (S:=Int) (T:=Int⊕Int) Jc.c6s (fun X=>X.2.2.2.1) (fun ρ X Q Z=>Jc.cd_ X.1 X.2.1 Q Z) (fun ρ X V Z=>sel V (fun V=>Z 1 (Shape.inj Jc.c6s (X.1,X.2.1,false,V,()))) (fun V=>Z 2 (Shape.inj Jc.c6s (X.1,X.2.1,X.2.2.1,V,()))))
def Jc (a:List (List UInt8)) (b:List (List UInt8)):Option Bool:=
 br ((↑(List.length a):Int) !=(↑(List.length b):Int))
 (some false)
 (bnd (iter (fun s↦Jc.cd_ a b s some) (0:Int)) fun y=>
 sel y
 (fun u=>some false)
 (fun v=>some true))
def Jc.ce:Go.Ql.Callee:=⟨[(.sl .str),(.sl .str)],[.bool],fun X=>Jc X.1 X.2⟩
def Jc.G:Env:=⟨26,tab,[],[0,1,4,5,10,14,25],[],[(6,[⟨[],[],[18,21,22,23,24],[]⟩,⟨[],[],[17,21,22,23,24],[]⟩,⟨[0,1],[],[21,22,23,24],[]⟩,⟨[2,0,1],[],[21,22,23,24],[]⟩,⟨[],[],[17,18,19,20,22],[]⟩,⟨[],[],[17,18,19,20,21],[]⟩,⟨[4,5],[],[17,18,19,20],[]⟩,⟨[6,4,5],[],[17,18,19,20],[]⟩,⟨[3,2,0,1,7,6,4,5],[],[],[]⟩])],[(100004,Jc.cd_r),(6,Jc.c6r)],[],Jd⟩
theorem Jc.p0:PcA Jc.G Try.f16 0:=
 Jo (s:=Jc.cd_r) (by kernel_rfl) (by kernel_rfl) (Jg (sh:=Jc.c6s) (I:=fun X Q=>(X.1,X.2.1,X.2.2.1,Q,())) (fun X=>rfl) (fun ρ X Q Z=>(jo (je fun _=>(jo jd jd)) jd)) (fun ρ X t k=>(JU (fun _=>(by kernel_rfl)) (fun _=>(by kernel_rfl)))) (fun X s=>by kernel_rfl))
theorem Jc.p1:PcA Jc.G Try.f16 1:=
 jB (s:=Jc.c6r) (by kernel_rfl) (by kernel_rfl) (jC (sh:=Jc.c6s) (fun ρ X Z=>(je fun _=>(je fun _=>jd))) (fun ρ X t k=>(by kernel_rfl)) (fun X=>by kernel_rfl))
theorem Jc.ok:CalleeOk Try.prog 16 Jc.ce:=fn_ok (G:=Jc.G) Jn mixed Try.func16 ⟨Je,jY,jN⟩ (m:=2) (by kernel_rfl) ⟨⟨trivial,Jc.p0⟩,Jc.p1⟩ (by kernel_rfl) (fun _=>by kernel_rfl)
end
end W
end

section
set_option maxHeartbeats 4000000
set_option maxRecDepth 100000
namespace W
open Go Go.Ql Go.Proofs
noncomputable section
variable {ρ:Type}
end
end W
end

section
set_option maxHeartbeats 4000000
set_option maxRecDepth 100000
namespace W
open Go Go.Ql Go.Proofs
noncomputable section
variable {ρ:Type}
end
end W
end

section
set_option maxHeartbeats 4000000
set_option maxRecDepth 100000
namespace W
open Go Go.Ql Go.Proofs
noncomputable section
variable {ρ:Type}
abbrev tf0:SD:=.one (.val (.st (.pair (.int .i64) (.pair (.int .i64) (.pair (.sl (.int .i64)) (.pair (.int .i64) (.pair (.int .i64) (.sl (.int .i64)))))))))
abbrev tf1:SD:=.one (.ref 1000200 0)
abbrev tf2:SO:=.box [.val (.int .i64),.val (.int .i64),.own 1000201 0]
abbrev tf3:SO:=.arr 0 false 53 (.st (.pair (.int .i64) (.pair (.int .i64) (.pair (.sl (.int .i64)) (.pair (.int .i64) (.pair (.int .i64) (.sl (.int .i64))))))))
def Jr.pre:Shape:=⟨[(0,tf0),(1,tf1)],[(1000200,tf2),(1000201,tf3)]⟩
def Jr.post:Shape:=⟨[],[(1000201,tf3),(1000200,tf2)]⟩
def Jr (o:YO) (ua:Int) (ub:Int) (uc:List YO):Option ((List YO)×Int×Int×Unit):=
 bnd (okIf (decide ((List.length uc+(1:Nat))*(80:Nat)≤(140737488355328:Nat))&&decide (List.length uc+(1:Nat)≤(140737488355328:Nat)))) fun y=>
 some (uc++[(o.1,o.2.1,o.2.2.1,o.2.2.2.1,o.2.2.2.2.1,o.2.2.2.2.2)],ua,ub,())
def Jr.mc:MCallee:=⟨77,Jr.pre,Jr.post,fun X=>Jr X.1 X.2.1 X.2.2.1 X.2.2.2.1⟩
def Jr.G:Env:=⟨9,tab,[],[0,1,2],[1000200,1000201],[],[],[],Jd⟩
theorem Jr.ok:MOk Try.prog 77 Jr.mc:=kW (mc:=Jr.mc) (G:=Jr.G) Jn mixed Try.func77 ⟨Je,jY,jN⟩ (m:=0) (by kernel_rfl) trivial (by kernel_rfl) (fun _=>by kernel_rfl)
abbrev tf4:SD:=.one (.val (.st (.pair (.int .i64) (.sl .str))))
abbrev tf5:SD:=.one (.ref 1 0)
abbrev tf6:SD:=.one (.ref 2 0)
abbrev tf7:SD:=.one (.ref 3 0)
abbrev tf8:SD:=.one (.ref 5 0)
abbrev tf9:SO:=.box [.val (.int .i64),.val (.sl .str)]
abbrev tf10:SO:=.box [.val (.int .i64),.val (.int .i64),.val (.sl (.st (.pair (.int .i64) (.pair (.int .i64) (.pair (.sl (.int .i64)) (.pair (.int .i64) (.pair (.int .i64) (.sl (.int .i64)))))))))]
abbrev tf11:SO:=.box [.val (.int .i64),.val (.int .i64)]
abbrev tf12:SD:=.one (.ref 6 0)
abbrev tf13:SD:=.one (.clo 35)
abbrev tf14:SD:=.one (.val (.int .i64))
abbrev tf15:SD:=.one (.val .str)
abbrev tf16:SD:=.one (.val (.sl .str))
abbrev tf17:SO:=.box [.val (.int .i64),.val (.int .i64),.own 3006 0]
abbrev tf18:SO:=.clo 77 [] [.ref 6 0]
def jv.c3  (Z:Unit→Option ρ):Option ρ:=
 Z ()
def jv.c3s:Shape:=⟨[(0,tf4),(1,tf5),(2,tf6),(3,tf7),(5,tf8)],[(1,tf9),(2,tf10),(3,tf11),(5,tf11)]⟩
def jv.c3r:Ck:=Ck.of (T:=Unit) jv.c3s (fun ρ X Z=>jv.c3  Z) (fun ρ X V Z=>Z 0 (Shape.inj jv.c3s (X.1,X.2.1,X.2.2.1,(0:Int),(0:Int),[],(q8 X).1,(q8 X).2.1,(q8 X))))
def jv.cy_ (g:List UInt8)(t51:Int)(c0:Int)(out0:Int)(out1:Int)(um:List YO)(Z:Int×Int×(List YO)→Option ρ):Option ρ:=
 bnd (idx g (IntKind.i64.wrap (t51+(1:Int)))) fun y=>
 br ((↑(UInt8.toNat y):Int)==(88:Int))
 (bnd (Jr ((2:Int),(0:Int),[c0],t51,(0:Int),[]) out0 out1 um) fun y1=>
 Z (y1.2.1,y1.2.2.1,y1.1))
 (br ((↑(UInt8.toNat y):Int)==(90:Int))
 (bnd (Jr ((4:Int),(8:Int),[c0],t51,(0:Int),[]) out0 out1 um) fun y2=>
 Z (y2.2.1,y2.2.2.1,y2.1))
 (br ((↑(UInt8.toNat y):Int)==(89:Int))
 (bnd (Jr ((4:Int),(12:Int),[],t51,(0:Int),[]) out0 out1 um) fun y3=>
 bnd (Jr ((2:Int),(0:Int),[c0],t51,(0:Int),[]) y3.2.1 y3.2.2.1 y3.1) fun y4=>
 bnd (Jr ((4:Int),(4:Int),[],t51,(0:Int),[]) y4.2.1 y4.2.2.1 y4.1) fun y5=>
 Z (y5.2.1,y5.2.2.1,y5.1))
 (Z (out0,out1,um))))
def jv.cy_s:Shape:=⟨[(0,tf4),(1,tf5),(2,tf6),(3,tf7),(5,tf8),(6,tf12),(7,tf13),(8,tf14),(9,tf15),(37,tf16),(38,tf14),(39,tf14),(50,tf14),(51,tf14)],[(1,tf9),(2,tf10),(3,tf11),(5,tf11),(6,tf17),(35,tf18),(3006,tf3)]⟩
def jv.cy_r:Ck:=Ck.of (T:=Int×Int×(List YO)) jv.cy_s (fun ρ X Z=>jv.cy_ X.2.2.1 (q4 X).2.2.2.1 (q8 X).1 (q8 (q8 X)).2.1 (q8 (q8 X)).2.2.1 (q8 (q8 X)).2.2.2.1 Z) (fun ρ X V Z=>Z 0 (Shape.inj jv.cy_s (X.1,X.2.1,X.2.2.1,X.2.2.2.1,(q4 X).1,(q4 X).2.1,(q4 X).2.2.1,(q4 X).2.2.2.1,(q8 X).1,(q8 X).2.1,(q8 X).2.2.1,(q8 X).2.2.2.1,(q4 (q8 X)).1,(q4 (q8 X)).2.1,(q4 (q8 X)).2.2.1,(q4 (q8 X)).2.2.2.1,(q8 (q8 X)).1,V.1,V.2.1,V.2.2,())))
def jv.cf_ (g:List UInt8)(t50:Int)(t51:Int)(c0:Int)(out0:Int)(out1:Int)(um:List YO)(Z:(Int×Int×Int×(List YO))⊕(Int×Int×Int×(List YO))→Option ρ):Option ρ:=
 br (decide (t51<t50))
 (bnd (jv.cy_ g t51 c0 out0 out1 um some) fun y=>
 Z (.inl ((IntKind.i64.wrap (t51+(1:Int))),y.1,y.2.1,y.2.2)))
 (Z (.inr (t51,out0,out1,um)))
def jv.cf_r:Ck:=Ck.ofLoop (S:=Int×Int×Int×(List YO)) (T:=Int×Int×Int×(List YO)) jv.cy_s (fun X=>((q4 X).2.2.2.1,(q8 (q8 X)).2.1,(q8 (q8 X)).2.2.1,(q8 (q8 X)).2.2.2.1)) (fun ρ X Q Z=>jv.cf_ X.2.2.1 (q4 X).2.2.1 Q.1 (q8 X).1 Q.2.1 Q.2.2.1 Q.2.2.2 Z) (fun ρ X V Z=>Z 4 (Shape.inj jv.cy_s (X.1,X.2.1,X.2.2.1,X.2.2.2.1,(q4 X).1,(q4 X).2.1,(q4 X).2.2.1,V.1,(q8 X).1,(q8 X).2.1,(q8 X).2.2.1,(q8 X).2.2.2.1,(q4 (q8 X)).1,(q4 (q8 X)).2.1,(q4 (q8 X)).2.2.1,(q4 (q8 X)).2.2.2.1,(q8 (q8 X)).1,V.2.1,V.2.2.1,V.2.2.2,())))
def jv.cW_ (g:List UInt8)(c0:Int)(out0:Int)(out1:Int)(um:List YO)(Z:Int×Int×(List YO)→Option ρ):Option ρ:=
 bnd (idx g (0:Int)) fun y=>
 br ((↑(UInt8.toNat y):Int)==(45:Int))
 (bnd (Jr ((4:Int),(8:Int),[],c0,(0:Int),[]) out0 out1 um) fun y1=>
 Z (y1.2.1,y1.2.2.1,y1.1))
 (Z (out0,out1,um))
def jv.cW_r:Ck:=Ck.of (T:=Int×Int×(List YO)) jv.cy_s (fun ρ X Z=>jv.cW_ X.2.2.1 (q8 X).1 (q8 (q8 X)).2.1 (q8 (q8 X)).2.2.1 (q8 (q8 X)).2.2.2.1 Z) (fun ρ X V Z=>Z 0 (Shape.inj jv.cy_s (X.1,X.2.1,X.2.2.1,X.2.2.2.1,(q4 X).1,(q4 X).2.1,(q4 X).2.2.1,(q4 X).2.2.2.1,(q8 X).1,(q8 X).2.1,(q8 X).2.2.1,(q8 X).2.2.2.1,(q4 (q8 X)).1,(q4 (q8 X)).2.1,(q4 (q8 X)).2.2.1,(q4 (q8 X)).2.2.2.1,(q8 (q8 X)).1,V.1,V.2.1,V.2.2,())))
def jv.co_ (t37:List (List UInt8))(t38:Int)(t39:Int)(c0:Int)(out0:Int)(out1:Int)(um:List YO)(Z:(Int×Int×Int×(List YO))⊕(Int×Int×Int×(List YO))→Option ρ):Option ρ:=
 br (decide (t39<t38))
 (bnd (idx t37 t39) fun y=>
 bnd (Jr ((3:Int),(0:Int),[],c0,(0:Int),[]) out0 out1 um) fun y1=>
 bnd (iter (fun s↦jv.cf_ y c0 s.1 c0 s.2.1 s.2.2.1 s.2.2.2 some) ((0:Int),y1.2.1,y1.2.2.1,y1.1)) fun y2=>
 bnd (jv.cW_ y c0 y2.2.1 y2.2.2.1 y2.2.2.2 some) fun y3=>
 bnd (Jr ((3:Int),(0:Int),[],c0,(0:Int),[]) y3.1 y3.2.1 y3.2.2) fun y4=>
 bnd (Jr ((5:Int),(0:Int),[],c0,t39,[]) y4.2.1 y4.2.2.1 y4.1) fun y5=>
 bnd (Jr ((6:Int),(0:Int),[],c0,(0:Int),[]) y5.2.1 y5.2.2.1 y5.1) fun y6=>
 Z (.inl ((IntKind.i64.wrap (t39+(1:Int))),y6.2.1,y6.2.2.1,y6.1)))
 (Z (.inr (t39,out0,out1,um)))
def jv.co_s:Shape:=⟨[(0,tf4),(1,tf5),(2,tf6),(3,tf7),(5,tf8),(6,tf12),(7,tf13),(37,tf16),(38,tf14),(39,tf14)],[(1,tf9),(2,tf10),(3,tf11),(5,tf11),(6,tf17),(35,tf18),(3006,tf3)]⟩
def jv.co_r:Ck:=Ck.ofLoop (S:=Int×Int×Int×(List YO)) (T:=Int×Int×Int×(List YO)) jv.co_s (fun X=>(X.2.2.2.1,(q4 (q8 X)).2.1,(q4 (q8 X)).2.2.1,(q4 (q8 X)).2.2.2.1)) (fun ρ X Q Z=>jv.co_ X.2.1 X.2.2.1 Q.1 (q4 X).1 Q.2.1 Q.2.2.1 Q.2.2.2 Z) (fun ρ X V Z=>Z 2 (Shape.inj jv.co_s (X.1,X.2.1,X.2.2.1,V.1,(q4 X).1,(q4 X).2.1,(q4 X).2.2.1,(q4 X).2.2.2.1,(q8 X).1,(q8 X).2.1,(q8 X).2.2.1,(q8 X).2.2.2.1,(q4 (q8 X)).1,V.2.1,V.2.2.1,V.2.2.2,())))
def jv (c:Int×(List (List UInt8))):Option ((Int×(Int×(List YO)))×(Int×Int)):=
 bnd (jy (c.1,c.2)) fun y=>
 br (y.2.1 !=(0:Int))
 (bnd (jv.c3 some) fun y1=>
 some (((0:Int),(0:Int),[]),y.2.1,y.2.2))
 (br (decide (IntKind.i64.wrap (c.1+(1:Int))>(12:Int)))
 (some (((0:Int),(0:Int),[]),(36:Int),(0:Int)))
 (bnd (iter (fun s↦jv.co_ c.2 (↑(List.length c.2):Int) s.1 c.1 s.2.1 s.2.2.1 s.2.2.2 some) ((0:Int),IntKind.i64.wrap (c.1+(1:Int)),(↑(List.length c.2):Int),[])) fun y2=>
 some ((y2.2.1,y2.2.2.1,y2.2.2.2),(0:Int),(0:Int))))
def jv.ce:Go.Ql.Callee:=⟨[(.st (.pair (.int .i64) (.sl .str)))],[(.st (.pair (.int .i64) (.pair (.int .i64) (.sl (.st (.pair (.int .i64) (.pair (.int .i64) (.pair (.sl (.int .i64)) (.pair (.int .i64) (.pair (.int .i64) (.sl (.int .i64)))))))))))),(.st (.pair (.int .i64) (.int .i64)))],fun X=>jv X⟩
def jv.G:Env:=⟨118,tab,[(70,jy.ce)],[0,1,2,3,5,6,7,8,9,10,11,19,25,37,38,39,40,50,51,52,60,61,68,75,93],[6,34,3006],[(3,[⟨[],[],[21],[]⟩,⟨[],[],[20],[2]⟩,⟨[0],[2],[21],[]⟩,⟨[1,2,0],[3],[],[]⟩])],[(100009,jv.co_r),(306501,jv.cW_r),(100013,jv.cf_r),(257369,jv.cy_r),(3,jv.c3r)],[(77,Jr.mc)],Jd⟩
theorem jv.p0:PcA jv.G Try.f31 0:=
 jB (s:=jv.c3r) (by kernel_rfl) (by kernel_rfl) (jC (sh:=jv.c3s) (fun ρ X Z=>jd) (fun ρ X t k=>(by kernel_rfl)) (fun X=>by kernel_rfl))
theorem jv.p1:PcA jv.G Try.f31 1:=
 Jo (s:=jv.co_r) (by kernel_rfl) (by kernel_rfl) (Jg (sh:=jv.co_s) (I:=fun X Q=>(X.1,X.2.1,X.2.2.1,Q.1,(q4 X).1,(q4 X).2.1,(q4 X).2.2.1,(q4 X).2.2.2.1,(q8 X).1,(q8 X).2.1,(q8 X).2.2.1,(q8 X).2.2.2.1,(q4 (q8 X)).1,Q.2.1,Q.2.2.1,Q.2.2.2,())) (fun X=>rfl) (fun ρ X Q Z=>(jo (je fun _=>(je fun _=>(je fun _=>(je fun _=>(je fun _=>(je fun _=>(je fun _=>jd))))))) jd)) (fun ρ X t k=>(by kernel_rfl)) (fun X s=>by kernel_rfl))
theorem jv.p2:PcA jv.G Try.f31 2:=
 Jo (s:=jv.cf_r) (by kernel_rfl) (by kernel_rfl) (Jg (sh:=jv.cy_s) (I:=fun X Q=>(X.1,X.2.1,X.2.2.1,X.2.2.2.1,(q4 X).1,(q4 X).2.1,(q4 X).2.2.1,Q.1,(q8 X).1,(q8 X).2.1,(q8 X).2.2.1,(q8 X).2.2.2.1,(q4 (q8 X)).1,(q4 (q8 X)).2.1,(q4 (q8 X)).2.2.1,(q4 (q8 X)).2.2.2.1,(q8 (q8 X)).1,Q.2.1,Q.2.2.1,Q.2.2.2,())) (fun X=>rfl) (fun ρ X Q Z=>(jo (je fun _=>jd) jd)) (fun ρ X t k=>(by kernel_rfl)) (fun X s=>by kernel_rfl))
theorem jv.p3:PcA jv.G Try.f31 3:=
 kq (s:=jv.cy_r) (by kernel_rfl) (by kernel_rfl) (jC (sh:=jv.cy_s) (fun ρ X Z=>(je fun _=>(jo (je fun _=>jd) (jo (je fun _=>jd) (jo (je fun _=>(je fun _=>(je fun _=>jd))) jd))))) (fun ρ X t k=>(by kernel_rfl)) (fun X=>by kernel_rfl))
theorem jv.p4:PcA jv.G Try.f31 4:=
 kq (s:=jv.cW_r) (by kernel_rfl) (by kernel_rfl) (jC (sh:=jv.cy_s) (fun ρ X Z=>(je fun _=>(jo (je fun _=>jd) jd))) (fun ρ X t k=>(by kernel_rfl)) (fun X=>by kernel_rfl))
theorem jv.ok:CalleeOk Try.prog 31 jv.ce:=fn_ok (G:=jv.G) Jn mixed Try.func31 ⟨(jX jy.ok Je),(JX Jr.ok jY),jN⟩ (m:=5) (by kernel_rfl) ⟨⟨⟨⟨⟨trivial,jv.p0⟩,jv.p1⟩,jv.p2⟩,jv.p3⟩,jv.p4⟩ (by kernel_rfl) (fun _=>by kernel_rfl)
abbrev tf19:SD:=.one (.val (.sl (.st (.pair (.int .i64) (.pair (.int .i64) (.pair (.sl (.int .i64)) (.pair (.int .i64) (.pair (.int .i64) (.sl (.int .i64))))))))))
abbrev tf20:SD:=.one (.own 3 0)
abbrev tf21:SD:=.one (.val .bool)
def jD.c5 (e:List UInt8)(q:Int)(Z:Bool→Option ρ):Option ρ:=
 bnd (idx e q) fun y=>
 br ((↑(UInt8.toNat y):Int)==(90:Int))
 (Z true)
 (bnd (idx e q) fun y1=>
 Z ((↑(UInt8.toNat y1):Int)==(89:Int)))
def jD.c5s:Shape:=⟨[(0,tf15),(2,tf19),(3,tf20),(4,tf14)],[(3,tf3)]⟩
def jD.c5x0:Shape:=⟨[(0,tf15),(2,tf19),(3,tf20),(4,tf14),(20,tf21)],[(3,tf3)]⟩
def jD.c5r:Ck:=Ck.of (T:=Bool) jD.c5s (fun ρ X Z=>jD.c5 X.1 X.2.2.1 Z) (fun ρ X V Z=>Z 0 (Shape.inj jD.c5x0 (X.1,X.2.1,X.2.2.1,V,X.2.2.2)))
def jD.cR_ (e:List UInt8)(q:Int)(out:List YO)(Z:List YO→Option ρ):Option ρ:=
 bnd (jD.c5 e q some) fun y=>
 br y
 (bnd (okIf (decide ((List.length out+(1:Nat))*(80:Nat)≤(140737488355328:Nat))&&decide (List.length out+(1:Nat)≤(140737488355328:Nat)))) fun y1=>
 Z (out++[((4:Int),(8:Int),[],q,(0:Int),[])]))
 (Z out)
def jD.cR_r:Ck:=Ck.of (T:=List YO) jD.c5s (fun ρ X Z=>jD.cR_ X.1 X.2.2.1 X.2.2.2.1 Z) (fun ρ X V Z=>Z 0 (Shape.inj jD.c5s (X.1,X.2.1,X.2.2.1,V,())))
def jD.c7 (e:List UInt8)(q:Int)(Z:Bool→Option ρ):Option ρ:=
 bnd (idx e q) fun y=>
 br ((↑(UInt8.toNat y):Int)==(88:Int))
 (Z true)
 (bnd (idx e q) fun y1=>
 Z ((↑(UInt8.toNat y1):Int)==(89:Int)))
def jD.c7x0:Shape:=⟨[(0,tf15),(2,tf19),(3,tf20),(4,tf14),(35,tf21)],[(3,tf3)]⟩
def jD.c7r:Ck:=Ck.of (T:=Bool) jD.c5s (fun ρ X Z=>jD.c7 X.1 X.2.2.1 Z) (fun ρ X V Z=>Z 0 (Shape.inj jD.c7x0 (X.1,X.2.1,X.2.2.1,V,X.2.2.2)))
def jD.cS_ (e:List UInt8)(q:Int)(out:List YO)(Z:List YO→Option ρ):Option ρ:=
 bnd (jD.cR_ e q out some) fun y=>
 bnd (jD.c7 e q some) fun y1=>
 br y1
 (bnd (okIf (decide ((List.length y+(1:Nat))*(80:Nat)≤(140737488355328:Nat))&&decide (List.length y+(1:Nat)≤(140737488355328:Nat)))) fun y2=>
 Z (y++[((2:Int),(0:Int),[],q,(0:Int),[])]))
 (Z y)
def jD.cS_r:Ck:=Ck.of (T:=List YO) jD.c5s (fun ρ X Z=>jD.cS_ X.1 X.2.2.1 X.2.2.2.1 Z) (fun ρ X V Z=>Z 0 (Shape.inj jD.c5s (X.1,X.2.1,X.2.2.1,V,())))
def jD.ca_ (e:List UInt8)(q:Int)(out:List YO)(Z:(Int×(List YO))⊕(Int×(List YO))→Option ρ):Option ρ:=
 br (decide (q<(↑(List.length e):Int)))
 (bnd (jD.cS_ e q out some) fun y=>
 Z (.inl ((IntKind.i64.wrap (q+(1:Int))),y)))
 (Z (.inr (q,out)))
def jD.ca_r:Ck:=Ck.ofLoop (S:=Int×(List YO)) (T:=Int×(List YO)) jD.c5s (fun X=>(X.2.2.1,X.2.2.2.1)) (fun ρ X Q Z=>jD.ca_ X.1 Q.1 Q.2 Z) (fun ρ X V Z=>Z 2 (Shape.inj jD.c5s (X.1,X.2.1,V.1,V.2,())))
def jD (e:List UInt8):Option (List YO):=
 bnd (iter (fun s↦jD.ca_ e s.1 s.2 some) ((0:Int),[])) fun y=>
 some y.2
def jD.ce:Go.Ql.Callee:=⟨[.str],[(.sl (.st (.pair (.int .i64) (.pair (.int .i64) (.pair (.sl (.int .i64)) (.pair (.int .i64) (.pair (.int .i64) (.sl (.int .i64)))))))))],fun X=>jD X⟩
def jD.G:Env:=⟨42,tab,[],[0,2,3,4,8,20,35],[3],[],[(100003,jD.ca_r),(220492,jD.cS_r),(7,jD.c7r),(220485,jD.cR_r),(5,jD.c5r)],[],Jd⟩
theorem jD.p0:PcA jD.G Try.f32 0:=
 Jo (s:=jD.ca_r) (by kernel_rfl) (by kernel_rfl) (Jg (sh:=jD.c5s) (I:=fun X Q=>(X.1,X.2.1,Q.1,Q.2,())) (fun X=>rfl) (fun ρ X Q Z=>(jo (je fun _=>jd) jd)) (fun ρ X t k=>(by kernel_rfl)) (fun X s=>by kernel_rfl))
theorem jD.p1:PcA jD.G Try.f32 1:=
 kq (s:=jD.cS_r) (by kernel_rfl) (by kernel_rfl) (jC (sh:=jD.c5s) (fun ρ X Z=>(je fun _=>(je fun _=>(jo (je fun _=>jd) jd)))) (fun ρ X t k=>(by kernel_rfl)) (fun X=>by kernel_rfl))
theorem jD.p2:PcA jD.G Try.f32 2:=
 kq (s:=jD.cR_r) (by kernel_rfl) (by kernel_rfl) (jC (sh:=jD.c5s) (fun ρ X Z=>(je fun _=>(jo (je fun _=>jd) jd))) (fun ρ X t k=>(by kernel_rfl)) (fun X=>by kernel_rfl))
theorem jD.p3:PcA jD.G Try.f32 3:=
 jB (s:=jD.c5r) (by kernel_rfl) (by kernel_rfl) (jC (sh:=jD.c5s) (fun ρ X Z=>(je fun _=>(jo jd (je fun _=>jd)))) (fun ρ X t k=>(by kernel_rfl)) (fun X=>by kernel_rfl))
theorem jD.p4:PcA jD.G Try.f32 4:=
 jB (s:=jD.c7r) (by kernel_rfl) (by kernel_rfl) (jC (sh:=jD.c5s) (fun ρ X Z=>(je fun _=>(jo jd (je fun _=>jd)))) (fun ρ X t k=>(by kernel_rfl)) (fun X=>by kernel_rfl))
theorem jD.ok:CalleeOk Try.prog 32 jD.ce:=fn_ok (G:=jD.G) Jn mixed Try.func32 ⟨Je,jY,jN⟩ (m:=5) (by kernel_rfl) ⟨⟨⟨⟨⟨trivial,jD.p0⟩,jD.p1⟩,jD.p2⟩,jD.p3⟩,jD.p4⟩ (by kernel_rfl) (fun _=>by kernel_rfl)
abbrev tf22:SD:=.one (.ref 1000720 0)
abbrev tf23:SO:=.box [.val (.int .i64),.val (.int .i64),.win 2000722 0]
abbrev tf24:SO:=.box [.val (.int .i64),.val (.int .i64),.val (.sl (.int .i64)),.val (.int .i64),.val (.int .i64),.val (.sl (.int .i64))]
abbrev tf25:SD:=.one (.aptr 5 0)
abbrev tf26:SD:=.one (.val (.sl (.int .i64)))
abbrev tf27:SO:=.arr 0 false 152 .bool
def jk.pre:Shape:=⟨[(0,tf0),(1,tf22)],[(1000720,tf23),(2000722,tf3)]⟩
def jk.post:Shape:=⟨[(0,tf14)],[(1000720,tf23),(2000722,tf3)]⟩
def jk.c1 (o0:Int)(Z:Bool→Option ρ):Option ρ:=
 br (decide (o0<(1:Int)))
 (Z true)
 (Z (decide (o0>(6:Int))))
def jk.c1s:Shape:=⟨[(0,tf0),(1,tf22),(2,tf6),(4,tf14)],[(2,tf24),(1000720,tf23),(2000722,tf3)]⟩
def jk.c1x0:Shape:=⟨[(0,tf0),(1,tf22),(2,tf6),(4,tf14),(17,tf21)],[(2,tf24),(1000720,tf23),(2000722,tf3)]⟩
def jk.c1r:Ck:=Ck.of (T:=Bool) jk.c1s (fun ρ X Z=>jk.c1 X.2.2.1 Z) (fun ρ X V Z=>Z 0 (Shape.inj jk.c1x0 (X.1,X.2.1,V,X.2.2)))
def jk.c3 (o0:Int)(o1:Int)(Z:Bool→Option ρ):Option ρ:=
 br (decide (o1<(0:Int)))
 (Z true)
 (br (decide (o1>(15:Int)))
 (Z true)
 (bnd (JF o0) fun y=>
 br (!y)
 (Z (o1 !=(0:Int)))
 (Z false)))
def jk.c3x0:Shape:=⟨[(0,tf0),(1,tf22),(2,tf6),(4,tf14),(36,tf21)],[(2,tf24),(1000720,tf23),(2000722,tf3)]⟩
def jk.c3r:Ck:=Ck.of (T:=Bool) jk.c1s (fun ρ X Z=>jk.c3 X.2.2.1 X.2.2.2.1 Z) (fun ρ X V Z=>Z 0 (Shape.inj jk.c3x0 (X.1,X.2.1,V,X.2.2)))
def jk.c5 (o0:Int)(o3:Int)(ud:Int)(Z:Bool→Option ρ):Option ρ:=
 br (decide (o3<(0:Int)))
 (Z true)
 (br (decide (o3≥ud))
 (Z true)
 (br (o0==(1:Int))
 (Z (o3 !=(0:Int)))
 (Z false)))
def jk.c5x0:Shape:=⟨[(0,tf0),(1,tf22),(2,tf6),(4,tf14),(58,tf21)],[(2,tf24),(1000720,tf23),(2000722,tf3)]⟩
def jk.c5r:Ck:=Ck.of (T:=Bool) jk.c1s (fun ρ X Z=>jk.c5 X.2.2.1 (q4 X).2.1 (q8 X).1 Z) (fun ρ X V Z=>Z 0 (Shape.inj jk.c5x0 (X.1,X.2.1,V,X.2.2)))
def jk.c7 (o0:Int)(o2:List Int)(Z:Bool→Option ρ):Option ρ:=
 br (decide ((↑(List.length o2):Int)>(0:Int)))
 (bnd (JL o0) fun y=>
 Z (!y))
 (Z false)
def jk.c7x0:Shape:=⟨[(0,tf0),(1,tf22),(2,tf6),(4,tf14),(68,tf21)],[(2,tf24),(1000720,tf23),(2000722,tf3)]⟩
def jk.c7r:Ck:=Ck.of (T:=Bool) jk.c1s (fun ρ X Z=>jk.c7 X.2.2.1 (q4 X).1 Z) (fun ρ X V Z=>Z 0 (Shape.inj jk.c7x0 (X.1,X.2.1,V,X.2.2)))
def jk.c14 (q:Int)(ud:Int)(Z:Bool→Option ρ):Option ρ:=
 br (decide (q<(0:Int)))
 (Z true)
 (Z (decide (q≥ud)))
def jk.c14s:Shape:=⟨[(0,tf0),(1,tf22),(2,tf6),(4,tf14),(5,tf25),(7,tf14),(74,tf26),(75,tf14),(76,tf14)],[(2,tf24),(5,tf27),(1000720,tf23),(2000722,tf3)]⟩
def jk.c14x0:Shape:=⟨[(0,tf0),(1,tf22),(2,tf6),(4,tf14),(5,tf25),(7,tf14),(74,tf26),(75,tf14),(76,tf14),(80,tf21)],[(2,tf24),(5,tf27),(1000720,tf23),(2000722,tf3)]⟩
def jk.c14r:Ck:=Ck.of (T:=Bool) jk.c14s (fun ρ X Z=>jk.c14 X.2.2.1 (q4 (q8 X)).2.1 Z) (fun ρ X V Z=>Z 0 (Shape.inj jk.c14x0 (X.1,X.2.1,X.2.2.1,X.2.2.2.1,(q4 X).1,(q4 X).2.1,V,(q4 X).2.2)))
def jk.ce_ (t74:List Int)(t75:Int)(t76:Int)(seen:List Bool)(ud:Int)(Z:(Int×(List Bool))⊕((Int×Int×(List Bool))⊕(Int×(List Bool)))→Option ρ):Option ρ:=
 br (decide (t76<t75))
 (bnd (idx t74 t76) fun y=>
 bnd (jk.c14 y ud some) fun y1=>
 br y1
 (Z (.inr (.inl ((10:Int),t76,seen))))
 (bnd (okIf (decide ((0:Ty.den (Ty.int IntKind.i64))≤y)&&decide (y<(↑(12:Nat):Int)))) fun y2=>
 bnd (inR (List.length seen) y) fun y3=>
 bnd (idx seen y) fun y4=>
 br y4
 (Z (.inr (.inl ((12:Int),t76,seen))))
 (bnd (okIf (decide ((0:Ty.den (Ty.int IntKind.i64))≤y)&&decide (y<(↑(12:Nat):Int)))) fun y5=>
 bnd (inR (List.length seen) y) fun y6=>
 bnd (idx seen y) fun y7=>
 Z (.inl ((IntKind.i64.wrap (t76+(1:Int))),(List.set seen (Int.toNat y) true))))))
 (Z (.inr (.inr (t76,seen))))
def jk.ce_s:Shape:=⟨[(0,tf0),(1,tf22),(2,tf6),(4,tf14),(5,tf25),(74,tf26),(75,tf14),(76,tf14)],[(2,tf24),(5,tf27),(1000720,tf23),(2000722,tf3)]⟩
def jk.ce_r:Ck:=Ck.ofLoop (S:=Int×(List Bool)) (T:=(Int×Int×(List Bool))⊕(Int×(List Bool))) jk.ce_s (fun X=>((q4 X).1,(q8 X).2.2.2.1)) (fun ρ X Q Z=>jk.ce_ X.2.2.1 X.2.2.2.1 Q.1 Q.2 (q4 (q8 X)).1 Z) (fun ρ X V Z=>sel V (fun V=>Z 1 (Shape.inj jk.ce_s (X.1,V.1,X.2.2.1,X.2.2.2.1,V.2.1,(q4 X).2.1,(q4 X).2.2.1,(q4 X).2.2.2.1,(q8 X).1,(q8 X).2.1,(q8 X).2.2.1,V.2.2,(q4 (q8 X))))) (fun V=>Z 2 (Shape.inj jk.ce_s (X.1,X.2.1,X.2.2.1,X.2.2.2.1,V.1,(q4 X).2.1,(q4 X).2.2.1,(q4 X).2.2.2.1,(q8 X).1,(q8 X).2.1,(q8 X).2.2.1,V.2,(q4 (q8 X))))))
def jk.c20 (o0:Int)(o4:Int)(ue:Int)(Z:Bool→Option ρ):Option ρ:=
 br (o0==(5:Int))
 (br (decide (o4<(0:Int)))
 (Z true)
 (br (decide (o4≥ue))
 (Z true)
 (br (o0 !=(5:Int))
 (Z (o4 !=(0:Int)))
 (Z false))))
 (br (o0 !=(5:Int))
 (Z (o4 !=(0:Int)))
 (Z false))
def jk.c20x0:Shape:=⟨[(0,tf0),(1,tf22),(2,tf6),(4,tf14),(5,tf25),(74,tf26),(75,tf14),(76,tf14),(124,tf21)],[(2,tf24),(5,tf27),(1000720,tf23),(2000722,tf3)]⟩
def jk.c20r:Ck:=Ck.of (T:=Bool) jk.ce_s (fun ρ X Z=>jk.c20 (q4 X).2.1 (q8 X).2.1 (q4 (q8 X)).2.1 Z) (fun ρ X V Z=>Z 0 (Shape.inj jk.c20x0 (X.1,X.2.1,X.2.2.1,X.2.2.2.1,(q4 X).1,V,(q4 X).2)))
def jk.c27 (v:Int)(ue:Int)(Z:Bool→Option ρ):Option ρ:=
 br (v==(0:Int))
 (Z true)
 (br (decide (v>ue))
 (Z true)
 (Z (decide (v<IntKind.i64.wrap ((0:Int)-ue)))))
def jk.c27s:Shape:=⟨[(0,tf0),(1,tf22),(2,tf6),(4,tf14),(5,tf25),(9,tf14),(74,tf26),(75,tf14),(76,tf14),(130,tf26),(131,tf14),(132,tf14)],[(2,tf24),(5,tf27),(1000720,tf23),(2000722,tf3)]⟩
def jk.c27x0:Shape:=⟨[(0,tf0),(1,tf22),(2,tf6),(4,tf14),(5,tf25),(9,tf14),(74,tf26),(75,tf14),(76,tf14),(130,tf26),(131,tf14),(132,tf14),(154,tf21)],[(2,tf24),(5,tf27),(1000720,tf23),(2000722,tf3)]⟩
def jk.c27r:Ck:=Ck.of (T:=Bool) jk.c27s (fun ρ X Z=>jk.c27 X.2.2.1 (q8 (q8 X)).2.1 Z) (fun ρ X V Z=>Z 0 (Shape.inj jk.c27x0 (X.1,X.2.1,X.2.2.1,X.2.2.2.1,(q4 X).1,(q4 X).2.1,(q4 X).2.2.1,(q4 X).2.2.2.1,(q8 X).1,V,(q8 X).2)))
def jk.cg_ (t130:List Int)(t131:Int)(t132:Int)(ue:Int)(Z:Int⊕(Int⊕Int)→Option ρ):Option ρ:=
 br (decide (t132<t131))
 (bnd (idx t130 t132) fun y=>
 bnd (jk.c27 y ue some) fun y1=>
 br y1
 (Z (.inr (.inl t132)))
 (Z (.inl (IntKind.i64.wrap (t132+(1:Int))))))
 (Z (.inr (.inr t132)))
def jk.cg_s:Shape:=⟨[(0,tf0),(1,tf22),(2,tf6),(4,tf14),(5,tf25),(74,tf26),(75,tf14),(76,tf14),(130,tf26),(131,tf14),(132,tf14)],[(2,tf24),(5,tf27),(1000720,tf23),(2000722,tf3)]⟩
def jk.cg_r:Ck:=Ck.ofLoop (S:=Int) (T:=Int⊕Int) jk.cg_s (fun X=>(q4 X).2.2.2.1) (fun ρ X Q Z=>jk.cg_ (q4 X).2.1 (q4 X).2.2.1 Q (q8 (q8 X)).1 Z) (fun ρ X V Z=>sel V (fun V=>Z 1 (Shape.inj jk.cg_s (X.1,(14:Int),X.2.2.1,X.2.2.2.1,(q4 X).1,(q4 X).2.1,(q4 X).2.2.1,V,(q8 X)))) (fun V=>Z 5 (Shape.inj jk.cg_s (X.1,X.2.1,X.2.2.1,X.2.2.2.1,(q4 X).1,(q4 X).2.1,(q4 X).2.2.1,V,(q8 X)))))
def jk (o:YO) (ud:Int) (ue:Int) (uf:Int) (ug:Int) (uk:List YO):Option (Int×Int×Int×Int×Int×(List YO)×Unit):=
 bnd (jk.c1 o.1 some) fun y=>
 br y
 (some ((8:Int),ud,ue,uf,ug,uk,()))
 (bnd (jk.c3 o.1 o.2.1 some) fun y1=>
 br y1
 (some ((9:Int),ud,ue,uf,ug,uk,()))
 (bnd (jk.c5 o.1 o.2.2.2.1 ud some) fun y2=>
 br y2
 (some ((10:Int),ud,ue,uf,ug,uk,()))
 (bnd (jk.c7 o.1 o.2.2.1 some) fun y3=>
 br y3
 (some ((11:Int),ud,ue,uf,ug,uk,()))
 (bnd (okIf (decide ((0:Ty.den (Ty.int IntKind.i64))≤o.2.2.2.1)&&decide (o.2.2.2.1<(↑(12:Nat):Int)))) fun y4=>
 bnd (inR (List.length (List.replicate (12:Nat) false)) o.2.2.2.1) fun y5=>
 bnd (idx (List.replicate (12:Nat) false) o.2.2.2.1) fun y6=>
 bnd (iter (fun s↦jk.ce_ o.2.2.1 (↑(List.length o.2.2.1):Int) s.1 s.2 ud some) ((0:Int),List.set (List.replicate (12:Nat) false) (Int.toNat o.2.2.2.1) true)) fun y7=>
 sel y7
 (fun u=>some (u.1,ud,ue,uf,ug,uk,()))
 (fun v=>bnd (jk.c20 o.1 o.2.2.2.2.1 ue some) fun y8=>
 br y8
 (some ((13:Int),ud,ue,uf,ug,uk,()))
 (br (decide ((↑(List.length o.2.2.2.2.2):Int)>(24:Int)))
 (some ((14:Int),ud,ue,uf,ug,uk,()))
 (bnd (iter (fun s↦jk.cg_ o.2.2.2.2.2 (↑(List.length o.2.2.2.2.2):Int) s ue some) (0:Int)) fun y9=>
 sel y9
 (fun u_1=>some ((14:Int),ud,ue,uf,ug,uk,()))
 (fun v_1=>some ((0:Int),ud,ue,uf,ug,uk,())))))))))
def jk.mc:MCallee:=⟨81,jk.pre,jk.post,fun X=>jk X.1 X.2.1 X.2.2.1 X.2.2.2.1 (q4 X).1 (q4 X).2.1⟩
def jk.G:Env:=⟨156,tab,[(116,JF.ce),(117,JL.ce)],[0,1,2,4,5,7,9,17,36,58,68,74,75,76,77,80,91,124,128,130,131,132,133,154],[5,69,1000720,2000722],[(20,[⟨[],[],[],[]⟩,⟨[0],[],[],[]⟩,⟨[1,0],[],[],[]⟩,⟨[2,1,0],[],[],[]⟩,⟨[3,2,1,0],[],[],[]⟩,⟨[4,3,2,1,0],[],[],[]⟩,⟨[5,4,3,2,1,0],[],[],[]⟩,⟨[6,5,4,3,2,1,0],[],[],[]⟩,⟨[7,6,5,4,3,2,1,0],[],[108,109,110,111],[]⟩,⟨[8,7,6,5,4,3,2,1,0],[],[108,109,110,111],[]⟩,⟨[7,6,5,4,3,2,1,0],[],[106,107],[]⟩,⟨[10,7,6,5,4,3,2,1,0],[],[106,107],[]⟩,⟨[11,10,7,6,5,4,3,2,1,0],[],[106,107],[]⟩,⟨[12,11,10,7,6,5,4,3,2,1,0],[],[106,107],[]⟩,⟨[9,8,7,6,5,4,3,2,1,0,13,12,11,10],[],[],[]⟩,⟨[7,6,5,4,3,2,1,0,14,9,8,13,12,11,10],[],[],[]⟩,⟨[3,2,1,0,15,7,6,5,4,14,9,8,13,12,11,10],[],[],[]⟩,⟨[16,3,2,1,0,15,7,6,5,4,14,9,8,13,12,11,10],[],[],[]⟩,⟨[17,16,3,2,1,0,15,7,6,5,4,14,9,8,13,12,11,10],[],[],[]⟩,⟨[18,17,16,3,2,1,0,15,7,6,5,4,14,9,8,13,12,11,10],[],[],[]⟩,⟨[19,18,17,16,3,2,1,0,15,7,6,5,4,14,9,8,13,12,11,10],[],[],[]⟩,⟨[20,19,18,17,16,3,2,1,0,15,7,6,5,4,14,9,8,13,12,11,10],[],[],[]⟩,⟨[21,20,19,18,17,16,3,2,1,0,15,7,6,5,4,14,9,8,13,12,11,10],[],[],[]⟩,⟨[22,21,20,19,18,17,16,3,2,1,0,15,7,6,5,4,14,9,8,13,12,11,10],[],[],[]⟩,⟨[23,22,21,20,19,18,17,16,3,2,1,0,15,7,6,5,4,14,9,8,13,12,11,10],[],[],[]⟩,⟨[21,20,19,18,17,16,3,2,1,0,15,7,6,5,4,14,9,8,13,12,11,10,24,23,22],[],[],[]⟩,⟨[17,16,3,2,1,0,15,7,6,5,4,14,9,8,13,12,11,10,25,21,20,19,18,24,23,22],[],[],[]⟩]),
 (5,[⟨[],[],[],[]⟩,⟨[0],[],[],[]⟩,⟨[1,0],[],[],[]⟩,⟨[2,1,0],[],[],[]⟩,⟨[3,2,1,0],[],[43,44,45,46],[]⟩,⟨[4,3,2,1,0],[],[43,44,45,46],[]⟩,⟨[3,2,1,0],[],[41,42],[]⟩,⟨[6,3,2,1,0],[],[41,42],[]⟩,⟨[7,6,3,2,1,0],[],[41,42],[]⟩,⟨[8,7,6,3,2,1,0],[],[41,42],[]⟩,⟨[5,4,3,2,1,0,9,8,7,6],[],[],[]⟩,⟨[3,2,1,0,10,5,4,9,8,7,6],[],[],[]⟩,⟨[11,3,2,1,0,10,5,4,9,8,7,6],[],[],[]⟩,⟨[12,11,3,2,1,0,10,5,4,9,8,7,6],[],[],[]⟩,⟨[13,12,11,3,2,1,0,10,5,4,9,8,7,6],[],[],[]⟩,⟨[14,13,12,11,3,2,1,0,10,5,4,9,8,7,6],[],[],[]⟩,⟨[15,14,13,12,11,3,2,1,0,10,5,4,9,8,7,6],[],[],[]⟩,⟨[16,15,14,13,12,11,3,2,1,0,10,5,4,9,8,7,6],[],[],[]⟩,⟨[17,16,15,14,13,12,11,3,2,1,0,10,5,4,9,8,7,6],[],[],[]⟩,⟨[18,17,16,15,14,13,12,11,3,2,1,0,10,5,4,9,8,7,6],[],[],[]⟩,⟨[16,15,14,13,12,11,3,2,1,0,10,5,4,9,8,7,6,19,18,17],[],[],[]⟩,⟨[12,11,3,2,1,0,10,5,4,9,8,7,6,20,16,15,14,13,19,18,17],[],[],[]⟩])],[(100025,jk.cg_r),(27,jk.c27r),(20,jk.c20r),(100012,jk.ce_r),(14,jk.c14r),(7,jk.c7r),(5,jk.c5r),(3,jk.c3r),(1,jk.c1r)],[],Jd⟩
theorem jk.p0:PcA jk.G Try.f81 0:=
 jB (s:=jk.c1r) (by kernel_rfl) (by kernel_rfl) (jC (sh:=jk.c1s) (fun ρ X Z=>(jo jd jd)) (fun ρ X t k=>(by kernel_rfl)) (fun X=>by kernel_rfl))
theorem jk.p1:PcA jk.G Try.f81 1:=
 jB (s:=jk.c3r) (by kernel_rfl) (by kernel_rfl) (jC (sh:=jk.c1s) (fun ρ X Z=>(jo jd (jo jd (je fun _=>(jo jd jd))))) (fun ρ X t k=>(by kernel_rfl)) (fun X=>by kernel_rfl))
theorem jk.p2:PcA jk.G Try.f81 2:=
 jB (s:=jk.c5r) (by kernel_rfl) (by kernel_rfl) (jC (sh:=jk.c1s) (fun ρ X Z=>(jo jd (jo jd (jo jd jd)))) (fun ρ X t k=>(by kernel_rfl)) (fun X=>by kernel_rfl))
theorem jk.p3:PcA jk.G Try.f81 3:=
 jB (s:=jk.c7r) (by kernel_rfl) (by kernel_rfl) (jC (sh:=jk.c1s) (fun ρ X Z=>(jo (je fun _=>jd) jd)) (fun ρ X t k=>(by kernel_rfl)) (fun X=>by kernel_rfl))
theorem jk.p4:PcA jk.G Try.f81 4:=
 Jo (s:=jk.ce_r) (by kernel_rfl) (by kernel_rfl) (Jg (sh:=jk.ce_s) (I:=fun X Q=>(X.1,X.2.1,X.2.2.1,X.2.2.2.1,Q.1,(q4 X).2.1,(q4 X).2.2.1,(q4 X).2.2.2.1,(q8 X).1,(q8 X).2.1,(q8 X).2.2.1,Q.2,(q4 (q8 X)))) (fun X=>rfl) (fun ρ X Q Z=>(jo (je fun _=>(je fun _=>(jo jd (je fun _=>(je fun _=>(je fun _=>(jo jd (je fun _=>(je fun _=>(je fun _=>jd)))))))))) jd)) (fun ρ X t k=>(JU (fun _=>(by kernel_rfl)) (fun _=>(by kernel_rfl)))) (fun X s=>by kernel_rfl))
theorem jk.p5:PcA jk.G Try.f81 5:=
 jB (s:=jk.c14r) (by kernel_rfl) (by kernel_rfl) (jC (sh:=jk.c14s) (fun ρ X Z=>(jo jd jd)) (fun ρ X t k=>(by kernel_rfl)) (fun X=>by kernel_rfl))
theorem jk.p6:PcA jk.G Try.f81 6:=
 jB (s:=jk.c20r) (by kernel_rfl) (by kernel_rfl) (jC (sh:=jk.ce_s) (fun ρ X Z=>(jo (jo jd (jo jd (jo jd jd))) (jo jd jd))) (fun ρ X t k=>(by kernel_rfl)) (fun X=>by kernel_rfl))
theorem jk.p7:PcA jk.G Try.f81 7:=
 Jo (s:=jk.cg_r) (by kernel_rfl) (by kernel_rfl) (Jg (sh:=jk.cg_s) (I:=fun X Q=>(X.1,X.2.1,X.2.2.1,X.2.2.2.1,(q4 X).1,(q4 X).2.1,(q4 X).2.2.1,Q,(q8 X))) (fun X=>rfl) (fun ρ X Q Z=>(jo (je fun _=>(je fun _=>(jo jd jd))) jd)) (fun ρ X t k=>(JU (fun _=>(by kernel_rfl)) (fun _=>(by kernel_rfl)))) (fun X s=>by kernel_rfl))
theorem jk.p8:PcA jk.G Try.f81 8:=
 jB (s:=jk.c27r) (by kernel_rfl) (by kernel_rfl) (jC (sh:=jk.c27s) (fun ρ X Z=>(jo jd (jo jd jd))) (fun ρ X t k=>(by kernel_rfl)) (fun X=>by kernel_rfl))
theorem jk.ok:MOk Try.prog 81 jk.mc:=kW (mc:=jk.mc) (G:=jk.G) Jn mixed Try.func81 ⟨(jX JF.ok (jX JL.ok Je)),jY,jN⟩ (m:=9) (by kernel_rfl) ⟨⟨⟨⟨⟨⟨⟨⟨⟨trivial,jk.p0⟩,jk.p1⟩,jk.p2⟩,jk.p3⟩,jk.p4⟩,jk.p5⟩,jk.p6⟩,jk.p7⟩,jk.p8⟩ (by kernel_rfl) (fun _=>by kernel_rfl)
abbrev tf28:SD:=.agg [.val (.int .i64),.val (.int .i64),.win 2000702 0]
abbrev tf29:SD:=.one (.val (.st (.pair (.int .i64) (.int .i64))))
abbrev tf30:SO:=.box [.val (.int .i64),.val (.int .i64),.win 2000702 0]
abbrev tf31:SD:=.one (.win 2000702 0)
def jA.pre:Shape:=⟨[(0,tf28)],[(2000702,tf3)]⟩
def jA.post:Shape:=⟨[(0,tf29)],[(2000702,tf3)]⟩
def jA.c1 (c0_1:Int)(Z:Bool→Option ρ):Option ρ:=
 br (decide (c0_1<(1:Int)))
 (Z true)
 (Z (decide (c0_1>(12:Int))))
def jA.c1s:Shape:=⟨[(0,tf28),(1,tf5),(2,tf6)],[(1,tf30),(2,tf11),(2000702,tf3)]⟩
def jA.c1x0:Shape:=⟨[(0,tf28),(1,tf5),(2,tf6),(6,tf21)],[(1,tf30),(2,tf11),(2000702,tf3)]⟩
def jA.c1r:Ck:=Ck.of (T:=Bool) jA.c1s (fun ρ X Z=>jA.c1 (q4 X).1 Z) (fun ρ X V Z=>Z 0 (Shape.inj jA.c1x0 (X.1,X.2.1,X.2.2.1,X.2.2.2.1,V,(q4 X))))
def jA.c3 (c1_1:Int)(Z:Bool→Option ρ):Option ρ:=
 br (decide (c1_1<(0:Int)))
 (Z true)
 (Z (decide (c1_1>(12:Int))))
def jA.c3x0:Shape:=⟨[(0,tf28),(1,tf5),(2,tf6),(16,tf21)],[(1,tf30),(2,tf11),(2000702,tf3)]⟩
def jA.c3r:Ck:=Ck.of (T:=Bool) jA.c1s (fun ρ X Z=>jA.c3 (q4 X).2.1 Z) (fun ρ X V Z=>Z 0 (Shape.inj jA.c3x0 (X.1,X.2.1,X.2.2.1,X.2.2.2.1,V,(q4 X))))
def jA.cc_ (t33lo:Int)(t33n:Int)(t34:Int)(t35:Int)(c0_1:Int)(c1_1:Int)(c2lo_1:Int)(c2n_1:Int)(uj:List YO)(Z:(Int×Int×Int×Int×Int×(List YO))⊕((Int×Int×Int×Int×Int×Int×Int×(List YO))⊕(Int×Int×Int×Int×Int×(List YO)))→Option ρ):Option ρ:=
 br (decide (t35<t34))
 (bnd (okIf (decide ((0:Ty.den (Ty.int IntKind.i64))≤t35)&&decide (t35<t33n))) fun y=>
 bnd (idx uj (t33lo+t35)) fun y1=>
 bnd (jk (y1.1,y1.2.1,y1.2.2.1,y1.2.2.2.1,y1.2.2.2.2.1,y1.2.2.2.2.2) c0_1 c1_1 c2lo_1 c2n_1 uj) fun y2=>
 br (y2.1 !=(0:Int))
 (bnd (JV y2.1 t35) fun y3=>
 Z (.inr (.inl (t35,y2.2.1,y2.2.2.1,y2.2.2.2.1,y2.2.2.2.2.1,y3.1,y3.2,y2.2.2.2.2.2.1))))
 (Z (.inl ((IntKind.i64.wrap (t35+(1:Int))),y2.2.1,y2.2.2.1,y2.2.2.2.1,y2.2.2.2.2.1,y2.2.2.2.2.2.1))))
 (Z (.inr (.inr (t35,c0_1,c1_1,c2lo_1,c2n_1,uj))))
def jA.cc_s:Shape:=⟨[(0,tf28),(1,tf5),(2,tf6),(33,tf31),(34,tf14),(35,tf14)],[(1,tf30),(2,tf11),(2000702,tf3)]⟩
def jA.cc_r:Ck:=Ck.ofLoop (S:=Int×Int×Int×Int×Int×(List YO)) (T:=(Int×Int×Int×Int×Int×Int×Int×(List YO))⊕(Int×Int×Int×Int×Int×(List YO))) jA.cc_s (fun X=>((q4 X).2.2.2.1,(q8 X).1,(q8 X).2.1,(q8 X).2.2.1,(q8 X).2.2.2.1,(q4 (q8 X)).2.2.1)) (fun ρ X Q Z=>jA.cc_ (q4 X).1 (q4 X).2.1 (q4 X).2.2.1 Q.1 Q.2.1 Q.2.2.1 Q.2.2.2.1 Q.2.2.2.2.1 Q.2.2.2.2.2 Z) (fun ρ X V Z=>sel V (fun V=>Z 1 (Shape.inj jA.cc_s (X.1,X.2.1,X.2.2.1,X.2.2.2.1,(q4 X).1,(q4 X).2.1,(q4 X).2.2.1,V.1,V.2.1,V.2.2.1,V.2.2.2.1,V.2.2.2.2.1,V.2.2.2.2.2.1,V.2.2.2.2.2.2.1,V.2.2.2.2.2.2.2,()))) (fun V=>Z 3 (Shape.inj jA.cc_s (X.1,X.2.1,X.2.2.1,X.2.2.2.1,(q4 X).1,(q4 X).2.1,(q4 X).2.2.1,V.1,V.2.1,V.2.2.1,V.2.2.2.1,V.2.2.2.2.1,(q4 (q8 X)).1,(q4 (q8 X)).2.1,V.2.2.2.2.2,()))))
def jA (c0:Int) (c1:Int) (c2lo:Int) (c2n:Int) (uj:List YO):Option ((Int×Int)×(List YO)×Unit):=
 bnd (jA.c1 c0 some) fun y=>
 br y
 (bnd (JV (6:Int) (0:Int)) fun y1=>
 some ((y1.1,y1.2),uj,()))
 (bnd (jA.c3 c1 some) fun y2=>
 br y2
 (bnd (JV (7:Int) (0:Int)) fun y3=>
 some ((y3.1,y3.2),uj,()))
 (br (decide ((↑(List.length (part c2lo c2n uj)):Int)>(4096:Int)))
 (bnd (JV (2:Int) (0:Int)) fun y4=>
 some ((y4.1,y4.2),uj,()))
 (bnd (iter (fun s↦jA.cc_ c2lo c2n (↑(List.length (part c2lo c2n uj)):Int) s.1 s.2.1 s.2.2.1 s.2.2.2.1 s.2.2.2.2.1 s.2.2.2.2.2 some) ((0:Int),c0,c1,c2lo,c2n,uj)) fun y5=>
 sel y5
 (fun u=>some ((u.2.2.2.2.2.1,u.2.2.2.2.2.2.1),u.2.2.2.2.2.2.2,()))
 (fun v=>some (((0:Int),(0:Int)),v.2.2.2.2.2,())))))
def jA.mc:MCallee:=⟨36,jA.pre,jA.post,fun X=>jA X.1 X.2.1 X.2.2.1 X.2.2.2.1 (q4 X).1⟩
def jA.G:Env:=⟨49,tab,[(80,JV.ce)],[0,1,2,3,4,5,6,16,26,33,34,35,36,43],[1,3001,2000702],[],[(100008,jA.cc_r),(3,jA.c3r),(1,jA.c1r)],[(81,jk.mc)],Jd⟩
theorem jA.p0:PcA jA.G Try.f36 0:=
 jB (s:=jA.c1r) (by kernel_rfl) (by kernel_rfl) (jC (sh:=jA.c1s) (fun ρ X Z=>(jo jd jd)) (fun ρ X t k=>(by kernel_rfl)) (fun X=>by kernel_rfl))
theorem jA.p1:PcA jA.G Try.f36 1:=
 jB (s:=jA.c3r) (by kernel_rfl) (by kernel_rfl) (jC (sh:=jA.c1s) (fun ρ X Z=>(jo jd jd)) (fun ρ X t k=>(by kernel_rfl)) (fun X=>by kernel_rfl))
theorem jA.p2:PcA jA.G Try.f36 2:=
 Jo (s:=jA.cc_r) (by kernel_rfl) (by kernel_rfl) (Jg (sh:=jA.cc_s) (I:=fun X Q=>(X.1,X.2.1,X.2.2.1,X.2.2.2.1,(q4 X).1,(q4 X).2.1,(q4 X).2.2.1,Q.1,Q.2.1,Q.2.2.1,Q.2.2.2.1,Q.2.2.2.2.1,(q4 (q8 X)).1,(q4 (q8 X)).2.1,Q.2.2.2.2.2,())) (fun X=>rfl) (fun ρ X Q Z=>(jo (je fun _=>(je fun _=>(je fun _=>(jo (je fun _=>jd) jd)))) jd)) (fun ρ X t k=>(JU (fun _=>(by kernel_rfl)) (fun _=>(by kernel_rfl)))) (fun X s=>by kernel_rfl))
theorem jA.ok:MOk Try.prog 36 jA.mc:=kW (mc:=jA.mc) (G:=jA.G) Jn mixed Try.func36 ⟨(jX JV.ok Je),(JX jk.ok jY),jN⟩ (m:=3) (by kernel_rfl) ⟨⟨⟨trivial,jA.p0⟩,jA.p1⟩,jA.p2⟩ (by kernel_rfl) (fun _=>by kernel_rfl)
def jJ.pre:Shape:=⟨[(0,tf28)],[(2000702,tf3)]⟩
def jJ.post:Shape:=⟨[(0,tf29)],[(2000702,tf3)]⟩
def jJ.cb_ (t6lo:Int)(t6n:Int)(t7:Int)(t8:Int)(uj:List YO)(Z:Int⊕((Int×Int)⊕Int)→Option ρ):Option ρ:=
 br (decide (t8<t7))
 (bnd (okIf (decide ((0:Ty.den (Ty.int IntKind.i64))≤t8)&&decide (t8<t6n))) fun y=>
 bnd (idx uj (t6lo+t8)) fun y1=>
 bnd (Jl (y1.1,y1.2.1,y1.2.2.1,y1.2.2.2.1,y1.2.2.2.2.1,y1.2.2.2.2.2)) fun y2=>
 br (!y2)
 (Z (.inr (.inl (t8,t8))))
 (Z (.inl (IntKind.i64.wrap (t8+(1:Int))))))
 (Z (.inr (.inr t8)))
def jJ.cb_s:Shape:=⟨[(0,tf28),(1,tf5),(2,tf6),(6,tf31),(7,tf14),(8,tf14)],[(1,tf30),(2,tf11),(2000702,tf3)]⟩
def jJ.cb_r:Ck:=Ck.ofLoop (S:=Int) (T:=(Int×Int)⊕Int) jJ.cb_s (fun X=>(q4 X).2.2.2.1) (fun ρ X Q Z=>jJ.cb_ (q4 X).1 (q4 X).2.1 (q4 X).2.2.1 Q (q4 (q8 X)).2.2.1 Z) (fun ρ X V Z=>sel V (fun V=>Z 1 (Shape.inj jJ.cb_s (X.1,X.2.1,X.2.2.1,X.2.2.2.1,(q4 X).1,(q4 X).2.1,(q4 X).2.2.1,V.1,(q8 X).1,(q8 X).2.1,(q8 X).2.2.1,(q8 X).2.2.2.1,(41:Int),V.2,(q4 (q8 X)).2.2))) (fun V=>Z 2 (Shape.inj jJ.cb_s (X.1,X.2.1,X.2.2.1,X.2.2.2.1,(q4 X).1,(q4 X).2.1,(q4 X).2.2.1,V,(q8 X)))))
def jJ (c0:Int) (c1:Int) (c2lo:Int) (c2n:Int) (uj:List YO):Option ((Int×Int)×(List YO)×Unit):=
 bnd (iter (fun s↦jJ.cb_ c2lo c2n (↑(List.length (part c2lo c2n uj)):Int) s uj some) (0:Int)) fun y=>
 sel y
 (fun u=>some (((41:Int),u.2),uj,()))
 (fun v=>some (((0:Int),(0:Int)),uj,()))
def jJ.mc:MCallee:=⟨37,jJ.pre,jJ.post,fun X=>jJ X.1 X.2.1 X.2.2.1 X.2.2.2.1 (q4 X).1⟩
def jJ.G:Env:=⟨20,tab,[(82,Jl.ce)],[0,1,2,3,4,6,7,8,9,15],[2000702],[],[(100002,jJ.cb_r)],[],Jd⟩
theorem jJ.p0:PcA jJ.G Try.f37 0:=
 Jo (s:=jJ.cb_r) (by kernel_rfl) (by kernel_rfl) (Jg (sh:=jJ.cb_s) (I:=fun X Q=>(X.1,X.2.1,X.2.2.1,X.2.2.2.1,(q4 X).1,(q4 X).2.1,(q4 X).2.2.1,Q,(q8 X))) (fun X=>rfl) (fun ρ X Q Z=>(jo (je fun _=>(je fun _=>(je fun _=>(jo jd jd)))) jd)) (fun ρ X t k=>(JU (fun _=>(by kernel_rfl)) (fun _=>(by kernel_rfl)))) (fun X s=>by kernel_rfl))
theorem jJ.ok:MOk Try.prog 37 jJ.mc:=kW (mc:=jJ.mc) (G:=jJ.G) Jn mixed Try.func37 ⟨(jX Jl.ok Je),jY,jN⟩ (m:=1) (by kernel_rfl) ⟨trivial,jJ.p0⟩ (by kernel_rfl) (fun _=>by kernel_rfl)
abbrev tf32:SD:=.one (.win 2000002 0)
abbrev tf33:SO:=.arr 0 false 3 (.int .i64)
abbrev tf34:SD:=.one (.ref 9 0)
abbrev tf35:SD:=.one (.fn 35)
abbrev tf36:SD:=.one (.ref 11 0)
abbrev tf37:SD:=.one (.ref 12 0)
abbrev tf38:SD:=.one (.ref 65 0)
abbrev tf39:SD:=.one (.own 68 0)
abbrev tf40:SO:=.box [.val (.int .i64),.own 1065 0,.own 2065 0]
abbrev tf41:SO:=.arr 0 false 80 (.st (.pair (.int .u64) (.pair (.int .u64) .bool)))
abbrev tf42:SD:=.one (.ref 17 0)
abbrev tf43:SD:=.one (.own 19 0)
abbrev tf44:SO:=.arr 0 false 9 .str
abbrev tf45:SD:=.one (.val (.sl (.st (.pair (.int .u64) (.pair (.int .u64) .bool)))))
abbrev tf46:SO:=.box [.val (.int .i64),.val (.sl (.st (.pair (.int .u64) (.pair (.int .u64) .bool)))),.own 2065 0]
abbrev tf47:SD:=.one (.ref 21 0)
abbrev tf48:SO:=.box [.val (.int .u64),.val (.int .u64),.val .bool]
def jg.pre:Shape:=⟨[(0,tf28),(1,tf14),(2,tf32)],[(2000002,tf33),(2000702,tf3)]⟩
def jg.post:Shape:=⟨[(0,tf16),(1,tf26),(2,tf14),(3,tf29)],[(2000002,tf33),(2000702,tf3)]⟩
def jg.c5 (t1:Int)(c0_1:Int)(Z:Bool→Option ρ):Option ρ:=
 br (decide (t1<(0:Int)))
 (Z true)
 (bnd (okIf (decide ((0:Int)≤c0_1))) fun y=>
 Z (decide (t1≥IntKind.i64.wrap ((1:Int)*(2:Int)^Min.min (Int.toNat c0_1) (64:Nat)))))
def jg.c5s:Shape:=⟨[(0,tf28),(1,tf14),(2,tf32),(3,tf7),(6,tf16),(7,tf26),(8,tf14),(9,tf34),(10,tf35),(11,tf36)],[(3,tf30),(9,tf11),(11,tf11),(2000002,tf33),(2000702,tf3)]⟩
def jg.c5x0:Shape:=⟨[(0,tf28),(1,tf14),(2,tf32),(3,tf7),(6,tf16),(7,tf26),(8,tf14),(9,tf34),(10,tf35),(11,tf36),(42,tf21)],[(3,tf30),(9,tf11),(11,tf11),(2000002,tf33),(2000702,tf3)]⟩
def jg.c5r:Ck:=Ck.of (T:=Bool) jg.c5s (fun ρ X Z=>jg.c5 (q4 X).1 (q8 X).2.2.1 Z) (fun ρ X V Z=>Z 0 (Shape.inj jg.c5x0 (X.1,X.2.1,X.2.2.1,X.2.2.2.1,(q4 X).1,(q4 X).2.1,(q4 X).2.2.1,(q4 X).2.2.2.1,(q8 X).1,(q8 X).2.1,V,(q8 X).2.2)))
def jg.c10 (t1:Int)(c0_1:Int)(c1_1:Int)(Z:Int×(List YP)×(List YP)→Option ρ):Option ρ:=
 bnd (jI c0_1 t1) fun y=>
 bnd (okIf (decide ((0:Int)≤c1_1)&&decide (c1_1≤c1_1)&&decide (c1_1*(↑(8:Nat):Int)≤(140737488355328:Int))&&decide (c1_1≤(140737488355328:Int)))) fun y1=>
 Z (y.1,y.2.1,y.2.2.1)
def jg.c10s:Shape:=⟨[(0,tf28),(1,tf14),(2,tf32),(3,tf7),(6,tf16),(7,tf26),(8,tf14),(9,tf34),(10,tf35),(11,tf36),(12,tf37)],[(3,tf30),(9,tf11),(11,tf11),(12,tf11),(2000002,tf33),(2000702,tf3)]⟩
def jg.c10x0:Shape:=⟨[(0,tf28),(1,tf14),(2,tf32),(3,tf7),(6,tf16),(7,tf26),(8,tf14),(9,tf34),(10,tf35),(11,tf36),(12,tf37),(13,tf38),(14,tf39),(15,tf14)],[(3,tf30),(9,tf11),(11,tf11),(12,tf11),(65,tf40),(68,tf33),(1065,tf41),(2065,tf41),(2000002,tf33),(2000702,tf3)]⟩
def jg.c10r:Ck:=Ck.of (T:=Int×(List YP)×(List YP)) jg.c10s (fun ρ X Z=>jg.c10 (q4 X).1 (q8 X).2.2.1 (q8 X).2.2.2.1 Z) (fun ρ X V Z=>Z 0 (Shape.inj jg.c10x0 (X.1,X.2.1,X.2.2.1,X.2.2.2.1,(q4 X).1,(q4 X).2.1,(q4 X).2.2.1,(q4 X).2.2.2.1,(q8 X).1,(q8 X).2.1,(0:Int),(q8 X).2.2.1,(q8 X).2.2.2.1,(q4 (q8 X)).1,(q4 (q8 X)).2.1,(q4 (q8 X)).2.2.1,(q4 (q8 X)).2.2.2.1,(q8 (q8 X)).1,(q8 (q8 X)).2.1,(q8 (q8 X)).2.2.1,(q8 (q8 X)).2.2.2.1,V.1,(List.replicate (Int.toNat (q8 X).2.2.2.1) (0:Int)),V.2.1,V.2.2,(q4 (q8 (q8 X))))))
def jg.c20 (b:Int)(o3:Int)(t650:Int)(uh:List YP)(ul:List YP)(Z:Bool×Int×(List YP)×(List YP)→Option ρ):Option ρ:=
 br (b !=(0:Int))
 (br (b !=(1:Int))
 (Z (true,t650,uh,ul))
 (bnd (jb o3 b t650 uh ul) fun y=>
 Z ((!y.1),y.2.2.2.1,y.2.1,y.2.2.1)))
 (bnd (jb o3 b t650 uh ul) fun y1=>
 Z ((!y1.1),y1.2.2.2.1,y1.2.1,y1.2.2.1))
def jg.c20s:Shape:=⟨[(0,tf28),(1,tf14),(2,tf32),(3,tf7),(6,tf16),(7,tf26),(8,tf14),(9,tf34),(10,tf35),(11,tf36),(12,tf37),(13,tf38),(14,tf39),(15,tf14),(16,tf14),(17,tf42),(18,tf14),(70,tf31),(71,tf14),(72,tf14)],[(3,tf30),(9,tf11),(11,tf11),(12,tf11),(17,tf24),(65,tf40),(68,tf33),(1065,tf41),(2065,tf41),(2000002,tf33),(2000702,tf3)]⟩
def jg.c20x0:Shape:=⟨[(0,tf28),(1,tf14),(2,tf32),(3,tf7),(6,tf16),(7,tf26),(8,tf14),(9,tf34),(10,tf35),(11,tf36),(12,tf37),(13,tf38),(14,tf39),(15,tf14),(16,tf14),(17,tf42),(18,tf14),(70,tf31),(71,tf14),(72,tf14),(119,tf21)],[(3,tf30),(9,tf11),(11,tf11),(12,tf11),(17,tf24),(65,tf40),(68,tf33),(1065,tf41),(2065,tf41),(2000002,tf33),(2000702,tf3)]⟩
def jg.c20r:Ck:=Ck.of (T:=Bool×Int×(List YP)×(List YP)) jg.c20s (fun ρ X Z=>jg.c20 (q4 (q8 X)).1 (q4 (q8 (q8 (q8 X)))).2.2.1 (q8 (q8 (q8 (q8 X)))).2.1 (q8 (q8 (q8 (q8 X)))).2.2.2.1 (q4 (q8 (q8 (q8 (q8 X))))).1 Z) (fun ρ X V Z=>uP X fun c0 X=>uP X fun c1 X=>uP X fun c2lo X=>uP X fun c2n X=>uP X fun t1 X=>uP X fun tapelo X=>uP X fun tapen X=>uP X fun t6 X=>uP X fun t7 X=>uP X fun t8 X=>uP X fun used X=>uP X fun i X=>uP X fun b X=>uP X fun t70lo X=>uP X fun t70n X=>uP X fun t71 X=>uP X fun t72 X=>uP X fun c0_1 X=>uP X fun c1_1 X=>uP X fun c2lo_1 X=>uP X fun c2n_1 X=>uP X fun t90 X=>uP X fun t91 X=>uP X fun f0 X=>uP X fun f1 X=>uP X fun f0_1 X=>uP X fun f1_1 X=>uP X fun o0 X=>uP X fun o1 X=>uP X fun o2 X=>uP X fun o3 X=>uP X fun o4 X=>uP X fun o5 X=>uP X fun t650 X=>uP X fun t68 X=>uP X fun uh X=>uP X fun ul X=>uP X fun ui X=>uP X fun uj X=>Z 0 (Shape.inj jg.c20x0 (c0,c1,c2lo,c2n,t1,tapelo,tapen,t6,t7,t8,used,i,b,t70lo,t70n,t71,t72,V.1,c0_1,c1_1,c2lo_1,c2n_1,t90,t91,f0,f1,f0_1,f1_1,o0,o1,o2,o3,o4,o5,V.2.1,t68,V.2.2.1,V.2.2.2,ui,uj,())))
def jg.cj_ (tapelo:Int)(tapen:Int)(used:Int)(t70lo:Int)(t70n:Int)(t72:Int)(t650:Int)(t68:List Int)(uh:List YP)(ul:List YP)(ui:List Int)(uj:List YO)(Z:(Int×Int×(List Int)×(List YP)×(List YP))⊕((List (List UInt8))×(List Int)×Int×Int×Int×Int×(List YP)×(List YP))→Option ρ):Option ρ:=
 bnd (okIf (decide ((0:Ty.den (Ty.int IntKind.i64))≤t72)&&decide (t72<t70n))) fun y=>
 bnd (idx uj (t70lo+t72)) fun y1=>
 bnd (jQ (y1.1,y1.2.1,y1.2.2.1,y1.2.2.2.1,y1.2.2.2.2.1,y1.2.2.2.2.2) t68) fun y2=>
 br (!y2)
 (Z (.inl (used,t650,t68,uh,ul)))
 (br (decide (y1.1<(5:Int)))
 (bnd (jw (y1.1,y1.2.1,y1.2.2.1,y1.2.2.2.1,y1.2.2.2.2.1,y1.2.2.2.2.2) t650 uh ul) fun y3=>
 Z (.inl (used,y3.2.2.1,t68,y3.1,y3.2.1)))
 (br (used==(↑(List.length (part tapelo tapen ui)):Int))
 (bnd (Jh ((19:Int),t72)) fun y4=>
 Z (.inr (y4.1,y4.2.1,y4.2.2.1,y4.2.2.2.1,y4.2.2.2.2,t650,uh,ul)))
 (bnd (okIf (decide ((0:Ty.den (Ty.int IntKind.i64))≤used)&&decide (used<tapen))) fun y5=>
 bnd (idx ui (tapelo+used)) fun y6=>
 bnd (jg.c20 y6 y1.2.2.2.1 t650 uh ul some) fun y7=>
 br y7.1
 (bnd (Jh ((20:Int),t72)) fun y8=>
 Z (.inr (y8.1,y8.2.1,y8.2.2.1,y8.2.2.2.1,y8.2.2.2.2,y7.2.1,y7.2.2.1,y7.2.2.2)))
 (br (y1.1==(5:Int))
 (bnd (inR (List.length t68) y1.2.2.2.2.1) fun y9=>
 bnd (idx t68 y1.2.2.2.2.1) fun y10=>
 Z (.inl ((IntKind.i64.wrap (used+(1:Int))),y7.2.1,(List.set t68 (Int.toNat y1.2.2.2.2.1) y6),y7.2.2.1,y7.2.2.2)))
 (br (y6==(1:Int))
 (bnd (jw ((2:Int),(0:Int),[],y1.2.2.2.1,(0:Int),[]) y7.2.1 y7.2.2.1 y7.2.2.2) fun y11=>
 Z (.inl ((IntKind.i64.wrap (used+(1:Int))),y11.2.2.1,t68,y11.1,y11.2.1)))
 (Z (.inl ((IntKind.i64.wrap (used+(1:Int))),y7.2.1,t68,y7.2.2.1,y7.2.2.2))))))))
def jg.cj_s:Shape:=⟨[(0,tf28),(1,tf14),(2,tf32),(3,tf7),(6,tf16),(7,tf26),(8,tf14),(9,tf34),(10,tf35),(11,tf36),(12,tf37),(13,tf38),(14,tf39),(15,tf14),(70,tf31),(71,tf14),(72,tf14)],[(3,tf30),(9,tf11),(11,tf11),(12,tf11),(65,tf40),(68,tf33),(1065,tf41),(2065,tf41),(2000002,tf33),(2000702,tf3)]⟩
def jg.cj_r:Ck:=Ck.of (T:=(Int×Int×(List Int)×(List YP)×(List YP))⊕((List (List UInt8))×(List Int)×Int×Int×Int×Int×(List YP)×(List YP))) jg.cj_s (fun ρ X Z=>jg.cj_ (q4 X).2.1 (q4 X).2.2.1 (q8 X).2.2.1 (q8 X).2.2.2.1 (q4 (q8 X)).1 (q4 (q8 X)).2.2.1 (q8 (q8 (q8 X))).2.1 (q8 (q8 (q8 X))).2.2.1 (q8 (q8 (q8 X))).2.2.2.1 (q4 (q8 (q8 (q8 X)))).1 (q4 (q8 (q8 (q8 X)))).2.1 (q4 (q8 (q8 (q8 X)))).2.2.1 Z) (fun ρ X V Z=>uP X fun c0 X=>uP X fun c1 X=>uP X fun c2lo X=>uP X fun c2n X=>uP X fun t1 X=>uP X fun tapelo X=>uP X fun tapen X=>uP X fun t6 X=>uP X fun t7 X=>uP X fun t8 X=>uP X fun used X=>uP X fun t70lo X=>uP X fun t70n X=>uP X fun t71 X=>uP X fun t72 X=>uP X fun c0_1 X=>uP X fun c1_1 X=>uP X fun c2lo_1 X=>uP X fun c2n_1 X=>uP X fun t90 X=>uP X fun t91 X=>uP X fun f0 X=>uP X fun f1 X=>uP X fun f0_1 X=>uP X fun f1_1 X=>uP X fun t650 X=>uP X fun t68 X=>uP X fun uh X=>uP X fun ul X=>uP X fun ui X=>uP X fun uj X=>sel V (fun V=>Z 0 (Shape.inj jg.cj_s (c0,c1,c2lo,c2n,t1,tapelo,tapen,t6,t7,t8,V.1,t70lo,t70n,t71,t72,c0_1,c1_1,c2lo_1,c2n_1,t90,t91,f0,f1,f0_1,f1_1,V.2.1,V.2.2.1,V.2.2.2.1,V.2.2.2.2,ui,uj,()))) (fun V=>Z 1 (Shape.inj jg.cj_s (c0,c1,c2lo,c2n,t1,tapelo,tapen,V.1,V.2.1,V.2.2.1,used,t70lo,t70n,t71,t72,c0_1,c1_1,c2lo_1,c2n_1,V.2.2.2.1,V.2.2.2.2.1,f0,f1,f0_1,f1_1,V.2.2.2.2.2.1,t68,V.2.2.2.2.2.2.1,V.2.2.2.2.2.2.2,ui,uj,()))))
def jg.ce_ (tapelo:Int)(tapen:Int)(used:Int)(t70lo:Int)(t70n:Int)(t71:Int)(t72:Int)(t650:Int)(t68:List Int)(uh:List YP)(ul:List YP)(ui:List Int)(uj:List YO)(Z:(Int×Int×Int×(List Int)×(List YP)×(List YP))⊕(((List (List UInt8))×(List Int)×Int×Int×Int×Int×Int×Int×(List Int)×(List YP)×(List YP))⊕(Int×Int×Int×(List Int)×(List YP)×(List YP)))→Option ρ):Option ρ:=
 br (decide (t72<t71))
 (bnd (jg.cj_ tapelo tapen used t70lo t70n t72 t650 t68 uh ul ui uj some) fun y=>
 sel y
 (fun u=>Z (.inl (u.1,(IntKind.i64.wrap (t72+(1:Int))),u.2.1,u.2.2.1,u.2.2.2.1,u.2.2.2.2)))
 (fun v=>Z (.inr (.inl (v.1,v.2.1,v.2.2.1,used,t72,v.2.2.2.1,v.2.2.2.2.1,v.2.2.2.2.2.1,t68,v.2.2.2.2.2.2.1,v.2.2.2.2.2.2.2)))))
 (Z (.inr (.inr (used,t72,t650,t68,uh,ul))))
def jg.ce_r:Ck:=Ck.ofLoop (S:=Int×Int×Int×(List Int)×(List YP)×(List YP)) (T:=((List (List UInt8))×(List Int)×Int×Int×Int×Int×Int×Int×(List Int)×(List YP)×(List YP))⊕(Int×Int×Int×(List Int)×(List YP)×(List YP))) jg.cj_s (fun X=>((q8 X).2.2.1,(q4 (q8 X)).2.2.1,(q8 (q8 (q8 X))).2.1,(q8 (q8 (q8 X))).2.2.1,(q8 (q8 (q8 X))).2.2.2.1,(q4 (q8 (q8 (q8 X)))).1)) (fun ρ X Q Z=>jg.ce_ (q4 X).2.1 (q4 X).2.2.1 Q.1 (q8 X).2.2.2.1 (q4 (q8 X)).1 (q4 (q8 X)).2.1 Q.2.1 Q.2.2.1 Q.2.2.2.1 Q.2.2.2.2.1 Q.2.2.2.2.2 (q4 (q8 (q8 (q8 X)))).2.1 (q4 (q8 (q8 (q8 X)))).2.2.1 Z) (fun ρ X V Z=>uP X fun c0 X=>uP X fun c1 X=>uP X fun c2lo X=>uP X fun c2n X=>uP X fun t1 X=>uP X fun tapelo X=>uP X fun tapen X=>uP X fun t6 X=>uP X fun t7 X=>uP X fun t8 X=>uP X fun used X=>uP X fun t70lo X=>uP X fun t70n X=>uP X fun t71 X=>uP X fun t72 X=>uP X fun c0_1 X=>uP X fun c1_1 X=>uP X fun c2lo_1 X=>uP X fun c2n_1 X=>uP X fun t90 X=>uP X fun t91 X=>uP X fun f0 X=>uP X fun f1 X=>uP X fun f0_1 X=>uP X fun f1_1 X=>uP X fun t650 X=>uP X fun t68 X=>uP X fun uh X=>uP X fun ul X=>uP X fun ui X=>uP X fun uj X=>sel V (fun V=>Z 1 (Shape.inj jg.cj_s (c0,c1,c2lo,c2n,t1,tapelo,tapen,V.1,V.2.1,V.2.2.1,V.2.2.2.1,t70lo,t70n,t71,V.2.2.2.2.1,c0_1,c1_1,c2lo_1,c2n_1,V.2.2.2.2.2.1,V.2.2.2.2.2.2.1,f0,f1,f0_1,f1_1,V.2.2.2.2.2.2.2.1,V.2.2.2.2.2.2.2.2.1,V.2.2.2.2.2.2.2.2.2.1,V.2.2.2.2.2.2.2.2.2.2,ui,uj,()))) (fun V=>Z 2 (Shape.inj jg.cj_s (c0,c1,c2lo,c2n,t1,tapelo,tapen,t6,t7,t8,V.1,t70lo,t70n,t71,V.2.1,c0_1,c1_1,c2lo_1,c2n_1,t90,t91,f0,f1,f0_1,f1_1,V.2.2.1,V.2.2.2.1,V.2.2.2.2.1,V.2.2.2.2.2,ui,uj,()))))
def jg.c29 (t650:Int)(uh:List YP)(Z:(List YP)×Int→Option ρ):Option ρ:=
 bnd (jh uh t650) fun y=>
 Z (y,(↑(List.length y):Int))
def jg.c29s:Shape:=⟨[(0,tf28),(1,tf14),(2,tf32),(3,tf7),(6,tf16),(7,tf26),(8,tf14),(9,tf34),(10,tf35),(11,tf36),(12,tf37),(13,tf38),(14,tf39),(15,tf14),(19,tf43),(70,tf31),(71,tf14),(72,tf14)],[(3,tf30),(9,tf11),(11,tf11),(12,tf11),(19,tf44),(65,tf40),(68,tf33),(1065,tf41),(2065,tf41),(2000002,tf33),(2000702,tf3)]⟩
def jg.c29x0:Shape:=⟨[(0,tf28),(1,tf14),(2,tf32),(3,tf7),(6,tf16),(7,tf26),(8,tf14),(9,tf34),(10,tf35),(11,tf36),(12,tf37),(13,tf38),(14,tf39),(15,tf14),(19,tf43),(70,tf31),(71,tf14),(72,tf14),(154,tf45),(155,tf14),(156,tf14)],[(3,tf30),(9,tf11),(11,tf11),(12,tf11),(19,tf44),(65,tf46),(68,tf33),(2065,tf41),(2000002,tf33),(2000702,tf3)]⟩
def jg.c29r:Ck:=Ck.of (T:=(List YP)×Int) jg.c29s (fun ρ X Z=>jg.c29 (q8 (q8 (q8 X))).2.2.1 (q4 (q8 (q8 (q8 X)))).1 Z) (fun ρ X V Z=>uP X fun c0 X=>uP X fun c1 X=>uP X fun c2lo X=>uP X fun c2n X=>uP X fun t1 X=>uP X fun tapelo X=>uP X fun tapen X=>uP X fun t6 X=>uP X fun t7 X=>uP X fun t8 X=>uP X fun used X=>uP X fun t70lo X=>uP X fun t70n X=>uP X fun t71 X=>uP X fun t72 X=>uP X fun c0_1 X=>uP X fun c1_1 X=>uP X fun c2lo_1 X=>uP X fun c2n_1 X=>uP X fun t90 X=>uP X fun t91 X=>uP X fun f0 X=>uP X fun f1 X=>uP X fun f0_1 X=>uP X fun f1_1 X=>uP X fun out X=>uP X fun t650 X=>uP X fun t68 X=>uP X fun uh X=>uP X fun ul X=>uP X fun ui X=>uP X fun uj X=>Z 0 (Shape.inj jg.c29x0 (c0,c1,c2lo,c2n,t1,tapelo,tapen,t6,t7,t8,used,t70lo,t70n,t71,t72,V.1,V.2,(0:Int),c0_1,c1_1,c2lo_1,c2n_1,t90,t91,f0,f1,f0_1,f1_1,out,t650,uh,t68,ul,ui,uj,())))
def jg.c32 (out:List (List UInt8))(p0:Int)(p1:Int)(p2:Bool)(t650:Int)(Z:List (List UInt8)→Option ρ):Option ρ:=
 bnd (jt (p0,p1,p2) t650) fun y=>
 bnd (okIf (decide ((List.length out+(1:Nat))*(16:Nat)≤(140737488355328:Nat))&&decide (List.length out+(1:Nat)≤(140737488355328:Nat)))) fun y1=>
 Z (out++[y])
def jg.c32s:Shape:=⟨[(0,tf28),(1,tf14),(2,tf32),(3,tf7),(6,tf16),(7,tf26),(8,tf14),(9,tf34),(10,tf35),(11,tf36),(12,tf37),(13,tf38),(14,tf39),(15,tf14),(19,tf43),(21,tf47),(70,tf31),(71,tf14),(72,tf14),(154,tf45),(155,tf14),(156,tf14)],[(3,tf30),(9,tf11),(11,tf11),(12,tf11),(19,tf44),(21,tf48),(65,tf46),(68,tf33),(2065,tf41),(2000002,tf33),(2000702,tf3)]⟩
def jg.c32r:Ck:=Ck.of (T:=List (List UInt8)) jg.c32s (fun ρ X Z=>jg.c32 (q4 (q8 (q8 (q8 X)))).1 (q4 (q8 (q8 (q8 X)))).2.1 (q4 (q8 (q8 (q8 X)))).2.2.1 (q4 (q8 (q8 (q8 X)))).2.2.2.1 (q8 (q8 (q8 (q8 X)))).1 Z) (fun ρ X V Z=>Z 0 (Shape.inj jg.c32s (X.1,X.2.1,X.2.2.1,X.2.2.2.1,(q4 X).1,(q4 X).2.1,(q4 X).2.2.1,(q4 X).2.2.2.1,(q8 X).1,(q8 X).2.1,(q8 X).2.2.1,(q8 X).2.2.2.1,(q4 (q8 X)).1,(q4 (q8 X)).2.1,(q4 (q8 X)).2.2.1,(q4 (q8 X)).2.2.2.1,(q8 (q8 X)).1,(q8 (q8 X)).2.1,(q8 (q8 X)).2.2.1,(q8 (q8 X)).2.2.2.1,(q4 (q8 (q8 X))).1,(q4 (q8 (q8 X))).2.1,(q4 (q8 (q8 X))).2.2.1,(q4 (q8 (q8 X))).2.2.2.1,(q8 (q8 (q8 X))).1,(q8 (q8 (q8 X))).2.1,(q8 (q8 (q8 X))).2.2.1,(q8 (q8 (q8 X))).2.2.2.1,V,(q4 (q8 (q8 (q8 X)))).2)))
def jg.cp_ (t154:List YP)(t155:Int)(t156:Int)(out:List (List UInt8))(t650:Int)(Z:(Int×(List (List UInt8)))⊕(Int×(List (List UInt8)))→Option ρ):Option ρ:=
 br (decide (t156<t155))
 (bnd (idx t154 t156) fun y=>
 bnd (jg.c32 out y.1 y.2.1 y.2.2 t650 some) fun y1=>
 Z (.inl ((IntKind.i64.wrap (t156+(1:Int))),y1)))
 (Z (.inr (t156,out)))
def jg.cp_r:Ck:=Ck.ofLoop (S:=Int×(List (List UInt8))) (T:=Int×(List (List UInt8))) jg.c29x0 (fun X=>((q8 (q8 X)).2.1,(q4 (q8 (q8 (q8 X)))).1)) (fun ρ X Q Z=>jg.cp_ (q4 (q8 X)).2.2.2.1 (q8 (q8 X)).1 Q.1 Q.2 (q4 (q8 (q8 (q8 X)))).2.1 Z) (fun ρ X V Z=>uP X fun c0 X=>uP X fun c1 X=>uP X fun c2lo X=>uP X fun c2n X=>uP X fun t1 X=>uP X fun tapelo X=>uP X fun tapen X=>uP X fun t6 X=>uP X fun t7 X=>uP X fun t8 X=>uP X fun used X=>uP X fun t70lo X=>uP X fun t70n X=>uP X fun t71 X=>uP X fun t72 X=>uP X fun t154 X=>uP X fun t155 X=>uP X fun t156 X=>uP X fun c0_1 X=>uP X fun c1_1 X=>uP X fun c2lo_1 X=>uP X fun c2n_1 X=>uP X fun t90 X=>uP X fun t91 X=>uP X fun f0 X=>uP X fun f1 X=>uP X fun f0_1 X=>uP X fun f1_1 X=>uP X fun out X=>uP X fun t650 X=>uP X fun t651 X=>uP X fun t68 X=>uP X fun ul X=>uP X fun ui X=>uP X fun uj X=>Z 5 (Shape.inj jg.c29x0 (c0,c1,c2lo,c2n,t1,tapelo,tapen,t6,t7,t8,used,t70lo,t70n,t71,t72,t154,t155,V.1,c0_1,c1_1,c2lo_1,c2n_1,t90,t91,f0,f1,f0_1,f1_1,V.2,t650,t651,t68,ul,ui,uj,())))
def jg (c0:Int) (c1:Int) (c2lo:Int) (c2n:Int) (t1:Int) (tapelo:Int) (tapen:Int) (ui:List Int) (uj:List YO):Option ((List (List UInt8))×(List Int)×Int×(Int×Int)×(List Int)×(List YO)×Unit):=
 bnd (jA c0 c1 c2lo c2n uj) fun y=>
 br (y.1.1 !=(0:Int))
 (bnd (Jh (y.1.1,y.1.2)) fun y1=>
 some (y1.1,y1.2.1,y1.2.2.1,(y1.2.2.2.1,y1.2.2.2.2),ui,y.2.1,()))
 (bnd (jg.c5 t1 c0 some) fun y2=>
 br y2
 (bnd (Jh ((18:Int),(0:Int))) fun y3=>
 some (y3.1,y3.2.1,y3.2.2.1,(y3.2.2.2.1,y3.2.2.2.2),ui,y.2.1,()))
 (bnd (jJ c0 c1 c2lo c2n y.2.1) fun y4=>
 br (y4.1.1 !=(0:Int))
 (bnd (Jh (y4.1.1,y4.1.2)) fun y5=>
 some (y5.1,y5.2.1,y5.2.2.1,(y5.2.2.2.1,y5.2.2.2.2),ui,y4.2.1,()))
 (bnd (jg.c10 t1 c0 c1 some) fun y6=>
 bnd (iter (fun s↦jg.ce_ tapelo tapen s.1 c2lo c2n (↑(List.length (part c2lo c2n y4.2.1)):Int) s.2.1 s.2.2.1 s.2.2.2.1 s.2.2.2.2.1 s.2.2.2.2.2 ui y4.2.1 some) ((0:Int),(0:Int),y6.1,List.replicate (Int.toNat c1) (0:Int),y6.2.1,y6.2.2)) fun y7=>
 sel y7
 (fun u=>some (u.1,u.2.1,u.2.2.1,(u.2.2.2.2.2.1,u.2.2.2.2.2.2.1),ui,y4.2.1,()))
 (fun v=>bnd (jg.c29 v.2.2.1 v.2.2.2.2.1 some) fun y8=>
 bnd (iter (fun s↦jg.cp_ y8.1 y8.2 s.1 s.2 v.2.2.1 some) ((0:Int),[])) fun y9=>
 some (y9.2,v.2.2.2.1,v.1,((0:Int),(0:Int)),ui,y4.2.1,())))))
def jg.mc:MCallee:=⟨9,jg.pre,jg.post,fun X=>jg X.1 X.2.1 X.2.2.1 X.2.2.2.1 (q4 X).1 (q4 X).2.1 (q4 X).2.2.1 (q4 X).2.2.2.1 (q8 X).1⟩
def jg.G:Env:=⟨174,tab,[(39,jQ.ce),(42,jh.ce),(43,jt.ce),(35,Jh.ce)],[0,1,2,3,6,7,8,9,10,11,12,13,14,15,16,17,18,19,21,26,42,54,70,71,72,73,77,82,89,119,132,139,154,155,156,157],[3,19,65,68,1003,1065,2065,2000002,2000702],[(32,[⟨[],[],[161,162,163,164,165,166,167],[167]⟩,⟨[],[],[160,162,163,164,165],[]⟩,⟨[],[],[160,161],[]⟩,⟨[2],[],[160,161],[]⟩,⟨[3,2],[],[160,161],[]⟩,⟨[4,3,2],[],[160,161],[]⟩,⟨[1,5,4,3,2],[],[160],[]⟩,⟨[6,1,5,4,3,2],[167],[160],[]⟩,⟨[0,7,6,1,5,4,3,2],[19],[],[]⟩,⟨[8,0,7,6,1,5,4,3,2],[],[],[]⟩]),
 (29,[⟨[],[],[150,151,152,153,156],[]⟩,⟨[0],[],[150,151,152,153,156],[]⟩,⟨[1,0],[],[150,151,152,153,156],[]⟩,⟨[2,1,0],[],[150,151,152,153,156],[]⟩,⟨[],[],[146,147,148,149,156],[]⟩,⟨[4],[],[146,147,148,149,156],[]⟩,⟨[5,4],[],[146,147,148,149,156],[]⟩,⟨[6,5,4],[],[146,147,148,149,156],[]⟩,⟨[3,2,1,0,7,6,5,4],[1065],[156],[]⟩,⟨[8,3,2,1,0,7,6,5,4],[],[156],[]⟩,⟨[],[],[146,147,148,149,150,151,152,153,154,155],[1065]⟩]),
 (10,[⟨[],[],[64,66,67,68],[68]⟩,⟨[0],[],[64,66,67,68],[68]⟩,⟨[],[],[62,63,66,67,68],[68]⟩,⟨[1,0,2],[1065,2065,65],[66,67,68],[68]⟩,⟨[],[],[62,63,64,65,13],[1065,2065,65]⟩,⟨[4],[],[62,63,64,65,13],[1065,2065,65]⟩,⟨[5,4],[68],[62,63,64,65,13],[1065,2065,65]⟩,⟨[3,1,0,2],[],[66,67,68],[68]⟩,⟨[6,5,4,7,3,1,0,2],[],[],[]⟩,⟨[8,6,5,4,7,3,1,0,2],[],[],[]⟩])],[(100030,jg.cp_r),(32,jg.c32r),(29,jg.c29r),(100012,jg.ce_r),(253291,jg.cj_r),(20,jg.c20r),(10,jg.c10r),(5,jg.c5r)],[(36,jA.mc),(37,jJ.mc),(38,jI.mc),(40,jw.mc),(41,jb.mc)],Jd⟩
theorem jg.p0:PcA jg.G Try.f9 0:=
 jB (s:=jg.c5r) (by kernel_rfl) (by kernel_rfl) (jC (sh:=jg.c5s) (fun ρ X Z=>(jo jd (je fun _=>jd))) (fun ρ X t k=>(by kernel_rfl)) (fun X=>by kernel_rfl))
theorem jg.p1:PcA jg.G Try.f9 1:=
 jB (s:=jg.c10r) (by kernel_rfl) (by kernel_rfl) (jC (sh:=jg.c10s) (fun ρ X Z=>(je fun _=>(je fun _=>jd))) (fun ρ X t k=>(by kernel_rfl)) (fun X=>by kernel_rfl))
theorem jg.p2:PcA jg.G Try.f9 2:=
 Jo (s:=jg.ce_r) (by kernel_rfl) (by kernel_rfl) (Jg (sh:=jg.cj_s) (I:=fun X Q=>(X.1,X.2.1,X.2.2.1,X.2.2.2.1,(q4 X).1,(q4 X).2.1,(q4 X).2.2.1,(q4 X).2.2.2.1,(q8 X).1,(q8 X).2.1,Q.1,(q8 X).2.2.2.1,(q4 (q8 X)).1,(q4 (q8 X)).2.1,Q.2.1,(q4 (q8 X)).2.2.2.1,(q8 (q8 X)).1,(q8 (q8 X)).2.1,(q8 (q8 X)).2.2.1,(q8 (q8 X)).2.2.2.1,(q4 (q8 (q8 X))).1,(q4 (q8 (q8 X))).2.1,(q4 (q8 (q8 X))).2.2.1,(q4 (q8 (q8 X))).2.2.2.1,(q8 (q8 (q8 X))).1,Q.2.2.1,Q.2.2.2.1,Q.2.2.2.2.1,Q.2.2.2.2.2,(q4 (q8 (q8 (q8 X)))).2)) (fun X=>rfl) (fun ρ X Q Z=>(jo (je fun _=>(JU (fun _=>jd) (fun _=>jd))) jd)) (fun ρ X t k=>(JU (fun _=>(by kernel_rfl)) (fun _=>(by kernel_rfl)))) (fun X s=>by kernel_rfl))
theorem jg.p3:PcA jg.G Try.f9 3:=
 kq (s:=jg.cj_r) (by kernel_rfl) (by kernel_rfl) (jC (sh:=jg.cj_s) (fun ρ X Z=>(je fun _=>(je fun _=>(je fun _=>(jo jd (jo (je fun _=>jd) (jo (je fun _=>jd) (je fun _=>(je fun _=>(je fun _=>(jo (je fun _=>jd) (jo (je fun _=>(je fun _=>jd)) (jo (je fun _=>jd) jd))))))))))))) (fun ρ X t k=>(JU (fun _=>(by kernel_rfl)) (fun _=>(by kernel_rfl)))) (fun X=>by kernel_rfl))
theorem jg.p4:PcA jg.G Try.f9 4:=
 jB (s:=jg.c20r) (by kernel_rfl) (by kernel_rfl) (jC (sh:=jg.c20s) (fun ρ X Z=>(jo (jo jd (je fun _=>jd)) (je fun _=>jd))) (fun ρ X t k=>(by kernel_rfl)) (fun X=>by kernel_rfl))
theorem jg.p5:PcA jg.G Try.f9 5:=
 jB (s:=jg.c29r) (by kernel_rfl) (by kernel_rfl) (jC (sh:=jg.c29s) (fun ρ X Z=>(je fun _=>jd)) (fun ρ X t k=>(by kernel_rfl)) (fun X=>by kernel_rfl))
theorem jg.p6:PcA jg.G Try.f9 6:=
 Jo (s:=jg.cp_r) (by kernel_rfl) (by kernel_rfl) (Jg (sh:=jg.c29x0) (I:=fun X Q=>(X.1,X.2.1,X.2.2.1,X.2.2.2.1,(q4 X).1,(q4 X).2.1,(q4 X).2.2.1,(q4 X).2.2.2.1,(q8 X).1,(q8 X).2.1,(q8 X).2.2.1,(q8 X).2.2.2.1,(q4 (q8 X)).1,(q4 (q8 X)).2.1,(q4 (q8 X)).2.2.1,(q4 (q8 X)).2.2.2.1,(q8 (q8 X)).1,Q.1,(q8 (q8 X)).2.2.1,(q8 (q8 X)).2.2.2.1,(q4 (q8 (q8 X))).1,(q4 (q8 (q8 X))).2.1,(q4 (q8 (q8 X))).2.2.1,(q4 (q8 (q8 X))).2.2.2.1,(q8 (q8 (q8 X))).1,(q8 (q8 (q8 X))).2.1,(q8 (q8 (q8 X))).2.2.1,(q8 (q8 (q8 X))).2.2.2.1,Q.2,(q4 (q8 (q8 (q8 X)))).2)) (fun X=>rfl) (fun ρ X Q Z=>(jo (je fun _=>(je fun _=>jd)) jd)) (fun ρ X t k=>(by kernel_rfl)) (fun X s=>by kernel_rfl))
theorem jg.p7:PcA jg.G Try.f9 7:=
 jB (s:=jg.c32r) (by kernel_rfl) (by kernel_rfl) (jC (sh:=jg.c32s) (fun ρ X Z=>(je fun _=>(je fun _=>jd))) (fun ρ X t k=>(by kernel_rfl)) (fun X=>by kernel_rfl))
theorem jg.ok:MOk Try.prog 9 jg.mc:=kW (mc:=jg.mc) (G:=jg.G) Jn mixed Try.func9 ⟨(jX jQ.ok (jX jh.ok (jX jt.ok (jX Jh.ok Je)))),(JX jA.ok (JX jJ.ok (JX jI.ok (JX jw.ok (JX jb.ok jY))))),jN⟩ (m:=8) (by kernel_rfl) ⟨⟨⟨⟨⟨⟨⟨⟨trivial,jg.p0⟩,jg.p1⟩,jg.p2⟩,jg.p3⟩,jg.p4⟩,jg.p5⟩,jg.p6⟩,jg.p7⟩ (by kernel_rfl) (fun _=>by kernel_rfl)
def Yb (b:Bool):Option Int:=
 br b
 (some (1:Int))
 (some (0:Int))
def Yb.ce:Go.Ql.Callee:=⟨[.bool],[(.int .i64)],fun X=>Yb X⟩
def Yb.G:Env:=⟨4,tab,[],[0,2,3],[],[],[],[],Jd⟩
theorem Yb.ok:CalleeOk Try.prog 78 Yb.ce:=fn_ok (G:=Yb.G) Jn mixed Try.func78 ⟨Je,jY,jN⟩ (m:=0) (by kernel_rfl) trivial (by kernel_rfl) (fun _=>by kernel_rfl)
abbrev tf49:SD:=.one (.own 5 0)
def Jx.ca_ (e:List UInt8)(i:Int)(c1:List (List UInt8))(out:List Int)(Z:(Int×(List Int))⊕(Int×(List Int))→Option ρ):Option ρ:=
 br (decide (i<(↑(List.length c1):Int)))
 (bnd (idx c1 i) fun y=>
 bnd (okIf (decide ((1:Int)≤(↑(List.length y):Int))&&decide ((↑(List.length y):Int)≤(↑(List.length y):Int)))) fun y1=>
 bnd (Jk (List.drop (1:Nat) (List.take (Int.toNat (↑(List.length y):Int)) y)) e) fun y2=>
 bnd (Yb y2) fun y3=>
 bnd (okIf (decide ((List.length out+(1:Nat))*(8:Nat)≤(140737488355328:Nat))&&decide (List.length out+(1:Nat)≤(140737488355328:Nat)))) fun y4=>
 Z (.inl ((IntKind.i64.wrap (i+(1:Int))),(out++[y3]))))
 (Z (.inr (i,out)))
def Jx.ca_s:Shape:=⟨[(0,tf4),(1,tf15),(2,tf6),(4,tf26),(5,tf49),(6,tf14)],[(2,tf9),(5,tf33)]⟩
def Jx.ca_r:Ck:=Ck.ofLoop (S:=Int×(List Int)) (T:=Int×(List Int)) Jx.ca_s (fun X=>(X.2.2.2.1,(q4 X).2.2.1)) (fun ρ X Q Z=>Jx.ca_ X.2.1 Q.1 (q4 X).2.1 Q.2 Z) (fun ρ X V Z=>Z 2 (Shape.inj Jx.ca_s (X.1,X.2.1,X.2.2.1,V.1,(q4 X).1,(q4 X).2.1,V.2,())))
def Jx (c:Int×(List (List UInt8))) (e:List UInt8):Option (List Int):=
 bnd (iter (fun s↦Jx.ca_ e s.1 c.2 s.2 some) ((0:Int),[])) fun y=>
 some y.2
def Jx.ce:Go.Ql.Callee:=⟨[(.st (.pair (.int .i64) (.sl .str))),.str],[(.sl (.int .i64))],fun X=>Jx X.1 X.2⟩
def Jx.G:Env:=⟨27,tab,[(73,Jk.ce),(78,Yb.ce)],[0,1,2,4,5,6,11],[5],[],[(100003,Jx.ca_r)],[],Jd⟩
theorem Jx.p0:PcA Jx.G Try.f33 0:=
 Jo (s:=Jx.ca_r) (by kernel_rfl) (by kernel_rfl) (Jg (sh:=Jx.ca_s) (I:=fun X Q=>(X.1,X.2.1,X.2.2.1,Q.1,(q4 X).1,(q4 X).2.1,Q.2,())) (fun X=>rfl) (fun ρ X Q Z=>(jo (je fun _=>(je fun _=>(je fun _=>(je fun _=>(je fun _=>jd))))) jd)) (fun ρ X t k=>(by kernel_rfl)) (fun X s=>by kernel_rfl))
theorem Jx.ok:CalleeOk Try.prog 33 Jx.ce:=fn_ok (G:=Jx.G) Jn mixed Try.func33 ⟨(jX Jk.ok (jX Yb.ok Je)),jY,jN⟩ (m:=1) (by kernel_rfl) ⟨trivial,Jx.p0⟩ (by kernel_rfl) (fun _=>by kernel_rfl)
def jj.pre:Shape:=⟨[(0,tf28),(1,tf14),(2,tf26)],[(2000702,tf3)]⟩
def jj.post:Shape:=⟨[(0,tf16),(1,tf26),(2,tf14),(3,tf29)],[(2000702,tf3)]⟩
def jj.c5 (t1:Int)(c0_1:Int)(Z:Bool→Option ρ):Option ρ:=
 br (decide (t1<(0:Int)))
 (Z true)
 (bnd (okIf (decide ((0:Int)≤c0_1))) fun y=>
 Z (decide (t1≥IntKind.i64.wrap ((1:Int)*(2:Int)^Min.min (Int.toNat c0_1) (64:Nat)))))
def jj.c5s:Shape:=⟨[(0,tf28),(1,tf14),(2,tf26),(3,tf7),(6,tf16),(7,tf26),(8,tf14),(9,tf34),(10,tf35),(11,tf36)],[(3,tf30),(9,tf11),(11,tf11),(2000702,tf3)]⟩
def jj.c5x0:Shape:=⟨[(0,tf28),(1,tf14),(2,tf26),(3,tf7),(6,tf16),(7,tf26),(8,tf14),(9,tf34),(10,tf35),(11,tf36),(42,tf21)],[(3,tf30),(9,tf11),(11,tf11),(2000702,tf3)]⟩
def jj.c5r:Ck:=Ck.of (T:=Bool) jj.c5s (fun ρ X Z=>jj.c5 (q4 X).1 (q8 X).2.1 Z) (fun ρ X V Z=>Z 0 (Shape.inj jj.c5x0 (X.1,X.2.1,X.2.2.1,X.2.2.2.1,(q4 X).1,(q4 X).2.1,(q4 X).2.2.1,(q4 X).2.2.2.1,(q8 X).1,V,(q8 X).2)))
def jj.c10 (t1:Int)(c0_1:Int)(c1_1:Int)(Z:Int×(List YP)×(List YP)→Option ρ):Option ρ:=
 bnd (jI c0_1 t1) fun y=>
 bnd (okIf (decide ((0:Int)≤c1_1)&&decide (c1_1≤c1_1)&&decide (c1_1*(↑(8:Nat):Int)≤(140737488355328:Int))&&decide (c1_1≤(140737488355328:Int)))) fun y1=>
 Z (y.1,y.2.1,y.2.2.1)
def jj.c10s:Shape:=⟨[(0,tf28),(1,tf14),(2,tf26),(3,tf7),(6,tf16),(7,tf26),(8,tf14),(9,tf34),(10,tf35),(11,tf36),(12,tf37)],[(3,tf30),(9,tf11),(11,tf11),(12,tf11),(2000702,tf3)]⟩
def jj.c10x0:Shape:=⟨[(0,tf28),(1,tf14),(2,tf26),(3,tf7),(6,tf16),(7,tf26),(8,tf14),(9,tf34),(10,tf35),(11,tf36),(12,tf37),(13,tf38),(14,tf39),(15,tf14)],[(3,tf30),(9,tf11),(11,tf11),(12,tf11),(65,tf40),(68,tf33),(1065,tf41),(2065,tf41),(2000702,tf3)]⟩
def jj.c10r:Ck:=Ck.of (T:=Int×(List YP)×(List YP)) jj.c10s (fun ρ X Z=>jj.c10 (q4 X).1 (q8 X).2.1 (q8 X).2.2.1 Z) (fun ρ X V Z=>Z 0 (Shape.inj jj.c10x0 (X.1,X.2.1,X.2.2.1,X.2.2.2.1,(q4 X).1,(q4 X).2.1,(q4 X).2.2.1,(q4 X).2.2.2.1,(q8 X).1,(0:Int),(q8 X).2.1,(q8 X).2.2.1,(q8 X).2.2.2.1,(q4 (q8 X)).1,(q4 (q8 X)).2.1,(q4 (q8 X)).2.2.1,(q4 (q8 X)).2.2.2.1,(q8 (q8 X)).1,(q8 (q8 X)).2.1,(q8 (q8 X)).2.2.1,V.1,(List.replicate (Int.toNat (q8 X).2.2.1) (0:Int)),V.2.1,V.2.2,(q8 (q8 X)).2.2.2)))
def jj.c20 (b:Int)(o3:Int)(t650:Int)(uh:List YP)(ul:List YP)(Z:Bool×Int×(List YP)×(List YP)→Option ρ):Option ρ:=
 br (b !=(0:Int))
 (br (b !=(1:Int))
 (Z (true,t650,uh,ul))
 (bnd (jb o3 b t650 uh ul) fun y=>
 Z ((!y.1),y.2.2.2.1,y.2.1,y.2.2.1)))
 (bnd (jb o3 b t650 uh ul) fun y1=>
 Z ((!y1.1),y1.2.2.2.1,y1.2.1,y1.2.2.1))
def jj.c20s:Shape:=⟨[(0,tf28),(1,tf14),(2,tf26),(3,tf7),(6,tf16),(7,tf26),(8,tf14),(9,tf34),(10,tf35),(11,tf36),(12,tf37),(13,tf38),(14,tf39),(15,tf14),(16,tf14),(17,tf42),(18,tf14),(70,tf31),(71,tf14),(72,tf14)],[(3,tf30),(9,tf11),(11,tf11),(12,tf11),(17,tf24),(65,tf40),(68,tf33),(1065,tf41),(2065,tf41),(2000702,tf3)]⟩
def jj.c20x0:Shape:=⟨[(0,tf28),(1,tf14),(2,tf26),(3,tf7),(6,tf16),(7,tf26),(8,tf14),(9,tf34),(10,tf35),(11,tf36),(12,tf37),(13,tf38),(14,tf39),(15,tf14),(16,tf14),(17,tf42),(18,tf14),(70,tf31),(71,tf14),(72,tf14),(119,tf21)],[(3,tf30),(9,tf11),(11,tf11),(12,tf11),(17,tf24),(65,tf40),(68,tf33),(1065,tf41),(2065,tf41),(2000702,tf3)]⟩
def jj.c20r:Ck:=Ck.of (T:=Bool×Int×(List YP)×(List YP)) jj.c20s (fun ρ X Z=>jj.c20 (q8 X).2.2.2.1 (q4 (q8 (q8 (q8 X)))).2.1 (q8 (q8 (q8 (q8 X)))).1 (q8 (q8 (q8 (q8 X)))).2.2.1 (q8 (q8 (q8 (q8 X)))).2.2.2.1 Z) (fun ρ X V Z=>uP X fun c0 X=>uP X fun c1 X=>uP X fun c2lo X=>uP X fun c2n X=>uP X fun t1 X=>uP X fun tape X=>uP X fun t6 X=>uP X fun t7 X=>uP X fun t8 X=>uP X fun used X=>uP X fun i X=>uP X fun b X=>uP X fun t70lo X=>uP X fun t70n X=>uP X fun t71 X=>uP X fun t72 X=>uP X fun c0_1 X=>uP X fun c1_1 X=>uP X fun c2lo_1 X=>uP X fun c2n_1 X=>uP X fun t90 X=>uP X fun t91 X=>uP X fun f0 X=>uP X fun f1 X=>uP X fun f0_1 X=>uP X fun f1_1 X=>uP X fun o0 X=>uP X fun o1 X=>uP X fun o2 X=>uP X fun o3 X=>uP X fun o4 X=>uP X fun o5 X=>uP X fun t650 X=>uP X fun t68 X=>uP X fun uh X=>uP X fun ul X=>uP X fun uj X=>Z 0 (Shape.inj jj.c20x0 (c0,c1,c2lo,c2n,t1,tape,t6,t7,t8,used,i,b,t70lo,t70n,t71,t72,V.1,c0_1,c1_1,c2lo_1,c2n_1,t90,t91,f0,f1,f0_1,f1_1,o0,o1,o2,o3,o4,o5,V.2.1,t68,V.2.2.1,V.2.2.2,uj,())))
def jj.cj_ (tape:List Int)(used:Int)(t70lo:Int)(t70n:Int)(t72:Int)(t650:Int)(t68:List Int)(uh:List YP)(ul:List YP)(uj:List YO)(Z:(Int×Int×(List Int)×(List YP)×(List YP))⊕((List (List UInt8))×(List Int)×Int×Int×Int×Int×(List YP)×(List YP))→Option ρ):Option ρ:=
 bnd (okIf (decide ((0:Ty.den (Ty.int IntKind.i64))≤t72)&&decide (t72<t70n))) fun y=>
 bnd (idx uj (t70lo+t72)) fun y1=>
 bnd (jQ (y1.1,y1.2.1,y1.2.2.1,y1.2.2.2.1,y1.2.2.2.2.1,y1.2.2.2.2.2) t68) fun y2=>
 br (!y2)
 (Z (.inl (used,t650,t68,uh,ul)))
 (br (decide (y1.1<(5:Int)))
 (bnd (jw (y1.1,y1.2.1,y1.2.2.1,y1.2.2.2.1,y1.2.2.2.2.1,y1.2.2.2.2.2) t650 uh ul) fun y3=>
 Z (.inl (used,y3.2.2.1,t68,y3.1,y3.2.1)))
 (br (used==(↑(List.length tape):Int))
 (bnd (Jh ((19:Int),t72)) fun y4=>
 Z (.inr (y4.1,y4.2.1,y4.2.2.1,y4.2.2.2.1,y4.2.2.2.2,t650,uh,ul)))
 (bnd (idx tape used) fun y5=>
 bnd (jj.c20 y5 y1.2.2.2.1 t650 uh ul some) fun y6=>
 br y6.1
 (bnd (Jh ((20:Int),t72)) fun y7=>
 Z (.inr (y7.1,y7.2.1,y7.2.2.1,y7.2.2.2.1,y7.2.2.2.2,y6.2.1,y6.2.2.1,y6.2.2.2)))
 (br (y1.1==(5:Int))
 (bnd (inR (List.length t68) y1.2.2.2.2.1) fun y8=>
 bnd (idx t68 y1.2.2.2.2.1) fun y9=>
 Z (.inl ((IntKind.i64.wrap (used+(1:Int))),y6.2.1,(List.set t68 (Int.toNat y1.2.2.2.2.1) y5),y6.2.2.1,y6.2.2.2)))
 (br (y5==(1:Int))
 (bnd (jw ((2:Int),(0:Int),[],y1.2.2.2.1,(0:Int),[]) y6.2.1 y6.2.2.1 y6.2.2.2) fun y10=>
 Z (.inl ((IntKind.i64.wrap (used+(1:Int))),y10.2.2.1,t68,y10.1,y10.2.1)))
 (Z (.inl ((IntKind.i64.wrap (used+(1:Int))),y6.2.1,t68,y6.2.2.1,y6.2.2.2))))))))
def jj.cj_s:Shape:=⟨[(0,tf28),(1,tf14),(2,tf26),(3,tf7),(6,tf16),(7,tf26),(8,tf14),(9,tf34),(10,tf35),(11,tf36),(12,tf37),(13,tf38),(14,tf39),(15,tf14),(70,tf31),(71,tf14),(72,tf14)],[(3,tf30),(9,tf11),(11,tf11),(12,tf11),(65,tf40),(68,tf33),(1065,tf41),(2065,tf41),(2000702,tf3)]⟩
def jj.cj_r:Ck:=Ck.of (T:=(Int×Int×(List Int)×(List YP)×(List YP))⊕((List (List UInt8))×(List Int)×Int×Int×Int×Int×(List YP)×(List YP))) jj.cj_s (fun ρ X Z=>jj.cj_ (q4 X).2.1 (q8 X).2.1 (q8 X).2.2.1 (q8 X).2.2.2.1 (q4 (q8 X)).2.1 (q8 (q8 (q8 X))).1 (q8 (q8 (q8 X))).2.1 (q8 (q8 (q8 X))).2.2.1 (q8 (q8 (q8 X))).2.2.2.1 (q4 (q8 (q8 (q8 X)))).1 Z) (fun ρ X V Z=>uP X fun c0 X=>uP X fun c1 X=>uP X fun c2lo X=>uP X fun c2n X=>uP X fun t1 X=>uP X fun tape X=>uP X fun t6 X=>uP X fun t7 X=>uP X fun t8 X=>uP X fun used X=>uP X fun t70lo X=>uP X fun t70n X=>uP X fun t71 X=>uP X fun t72 X=>uP X fun c0_1 X=>uP X fun c1_1 X=>uP X fun c2lo_1 X=>uP X fun c2n_1 X=>uP X fun t90 X=>uP X fun t91 X=>uP X fun f0 X=>uP X fun f1 X=>uP X fun f0_1 X=>uP X fun f1_1 X=>uP X fun t650 X=>uP X fun t68 X=>uP X fun uh X=>uP X fun ul X=>uP X fun uj X=>sel V (fun V=>Z 0 (Shape.inj jj.cj_s (c0,c1,c2lo,c2n,t1,tape,t6,t7,t8,V.1,t70lo,t70n,t71,t72,c0_1,c1_1,c2lo_1,c2n_1,t90,t91,f0,f1,f0_1,f1_1,V.2.1,V.2.2.1,V.2.2.2.1,V.2.2.2.2,uj,()))) (fun V=>Z 1 (Shape.inj jj.cj_s (c0,c1,c2lo,c2n,t1,tape,V.1,V.2.1,V.2.2.1,used,t70lo,t70n,t71,t72,c0_1,c1_1,c2lo_1,c2n_1,V.2.2.2.1,V.2.2.2.2.1,f0,f1,f0_1,f1_1,V.2.2.2.2.2.1,t68,V.2.2.2.2.2.2.1,V.2.2.2.2.2.2.2,uj,()))))
def jj.ce_ (tape:List Int)(used:Int)(t70lo:Int)(t70n:Int)(t71:Int)(t72:Int)(t650:Int)(t68:List Int)(uh:List YP)(ul:List YP)(uj:List YO)(Z:(Int×Int×Int×(List Int)×(List YP)×(List YP))⊕(((List (List UInt8))×(List Int)×Int×Int×Int×Int×Int×Int×(List Int)×(List YP)×(List YP))⊕(Int×Int×Int×(List Int)×(List YP)×(List YP)))→Option ρ):Option ρ:=
 br (decide (t72<t71))
 (bnd (jj.cj_ tape used t70lo t70n t72 t650 t68 uh ul uj some) fun y=>
 sel y
 (fun u=>Z (.inl (u.1,(IntKind.i64.wrap (t72+(1:Int))),u.2.1,u.2.2.1,u.2.2.2.1,u.2.2.2.2)))
 (fun v=>Z (.inr (.inl (v.1,v.2.1,v.2.2.1,used,t72,v.2.2.2.1,v.2.2.2.2.1,v.2.2.2.2.2.1,t68,v.2.2.2.2.2.2.1,v.2.2.2.2.2.2.2)))))
 (Z (.inr (.inr (used,t72,t650,t68,uh,ul))))
def jj.ce_r:Ck:=Ck.ofLoop (S:=Int×Int×Int×(List Int)×(List YP)×(List YP)) (T:=((List (List UInt8))×(List Int)×Int×Int×Int×Int×Int×Int×(List Int)×(List YP)×(List YP))⊕(Int×Int×Int×(List Int)×(List YP)×(List YP))) jj.cj_s (fun X=>((q8 X).2.1,(q4 (q8 X)).2.1,(q8 (q8 (q8 X))).1,(q8 (q8 (q8 X))).2.1,(q8 (q8 (q8 X))).2.2.1,(q8 (q8 (q8 X))).2.2.2.1)) (fun ρ X Q Z=>jj.ce_ (q4 X).2.1 Q.1 (q8 X).2.2.1 (q8 X).2.2.2.1 (q4 (q8 X)).1 Q.2.1 Q.2.2.1 Q.2.2.2.1 Q.2.2.2.2.1 Q.2.2.2.2.2 (q4 (q8 (q8 (q8 X)))).1 Z) (fun ρ X V Z=>uP X fun c0 X=>uP X fun c1 X=>uP X fun c2lo X=>uP X fun c2n X=>uP X fun t1 X=>uP X fun tape X=>uP X fun t6 X=>uP X fun t7 X=>uP X fun t8 X=>uP X fun used X=>uP X fun t70lo X=>uP X fun t70n X=>uP X fun t71 X=>uP X fun t72 X=>uP X fun c0_1 X=>uP X fun c1_1 X=>uP X fun c2lo_1 X=>uP X fun c2n_1 X=>uP X fun t90 X=>uP X fun t91 X=>uP X fun f0 X=>uP X fun f1 X=>uP X fun f0_1 X=>uP X fun f1_1 X=>uP X fun t650 X=>uP X fun t68 X=>uP X fun uh X=>uP X fun ul X=>uP X fun uj X=>sel V (fun V=>Z 1 (Shape.inj jj.cj_s (c0,c1,c2lo,c2n,t1,tape,V.1,V.2.1,V.2.2.1,V.2.2.2.1,t70lo,t70n,t71,V.2.2.2.2.1,c0_1,c1_1,c2lo_1,c2n_1,V.2.2.2.2.2.1,V.2.2.2.2.2.2.1,f0,f1,f0_1,f1_1,V.2.2.2.2.2.2.2.1,V.2.2.2.2.2.2.2.2.1,V.2.2.2.2.2.2.2.2.2.1,V.2.2.2.2.2.2.2.2.2.2,uj,()))) (fun V=>Z 2 (Shape.inj jj.cj_s (c0,c1,c2lo,c2n,t1,tape,t6,t7,t8,V.1,t70lo,t70n,t71,V.2.1,c0_1,c1_1,c2lo_1,c2n_1,t90,t91,f0,f1,f0_1,f1_1,V.2.2.1,V.2.2.2.1,V.2.2.2.2.1,V.2.2.2.2.2,uj,()))))
def jj.c29 (t650:Int)(uh:List YP)(Z:(List YP)×Int→Option ρ):Option ρ:=
 bnd (jh uh t650) fun y=>
 Z (y,(↑(List.length y):Int))
def jj.c29s:Shape:=⟨[(0,tf28),(1,tf14),(2,tf26),(3,tf7),(6,tf16),(7,tf26),(8,tf14),(9,tf34),(10,tf35),(11,tf36),(12,tf37),(13,tf38),(14,tf39),(15,tf14),(19,tf43),(70,tf31),(71,tf14),(72,tf14)],[(3,tf30),(9,tf11),(11,tf11),(12,tf11),(19,tf44),(65,tf40),(68,tf33),(1065,tf41),(2065,tf41),(2000702,tf3)]⟩
def jj.c29x0:Shape:=⟨[(0,tf28),(1,tf14),(2,tf26),(3,tf7),(6,tf16),(7,tf26),(8,tf14),(9,tf34),(10,tf35),(11,tf36),(12,tf37),(13,tf38),(14,tf39),(15,tf14),(19,tf43),(70,tf31),(71,tf14),(72,tf14),(154,tf45),(155,tf14),(156,tf14)],[(3,tf30),(9,tf11),(11,tf11),(12,tf11),(19,tf44),(65,tf46),(68,tf33),(2065,tf41),(2000702,tf3)]⟩
def jj.c29r:Ck:=Ck.of (T:=(List YP)×Int) jj.c29s (fun ρ X Z=>jj.c29 (q8 (q8 (q8 X))).2.1 (q8 (q8 (q8 X))).2.2.2.1 Z) (fun ρ X V Z=>uP X fun c0 X=>uP X fun c1 X=>uP X fun c2lo X=>uP X fun c2n X=>uP X fun t1 X=>uP X fun tape X=>uP X fun t6 X=>uP X fun t7 X=>uP X fun t8 X=>uP X fun used X=>uP X fun t70lo X=>uP X fun t70n X=>uP X fun t71 X=>uP X fun t72 X=>uP X fun c0_1 X=>uP X fun c1_1 X=>uP X fun c2lo_1 X=>uP X fun c2n_1 X=>uP X fun t90 X=>uP X fun t91 X=>uP X fun f0 X=>uP X fun f1 X=>uP X fun f0_1 X=>uP X fun f1_1 X=>uP X fun out X=>uP X fun t650 X=>uP X fun t68 X=>uP X fun uh X=>uP X fun ul X=>uP X fun uj X=>Z 0 (Shape.inj jj.c29x0 (c0,c1,c2lo,c2n,t1,tape,t6,t7,t8,used,t70lo,t70n,t71,t72,V.1,V.2,(0:Int),c0_1,c1_1,c2lo_1,c2n_1,t90,t91,f0,f1,f0_1,f1_1,out,t650,uh,t68,ul,uj,())))
def jj.c32 (out:List (List UInt8))(p0:Int)(p1:Int)(p2:Bool)(t650:Int)(Z:List (List UInt8)→Option ρ):Option ρ:=
 bnd (jt (p0,p1,p2) t650) fun y=>
 bnd (okIf (decide ((List.length out+(1:Nat))*(16:Nat)≤(140737488355328:Nat))&&decide (List.length out+(1:Nat)≤(140737488355328:Nat)))) fun y1=>
 Z (out++[y])
def jj.c32s:Shape:=⟨[(0,tf28),(1,tf14),(2,tf26),(3,tf7),(6,tf16),(7,tf26),(8,tf14),(9,tf34),(10,tf35),(11,tf36),(12,tf37),(13,tf38),(14,tf39),(15,tf14),(19,tf43),(21,tf47),(70,tf31),(71,tf14),(72,tf14),(154,tf45),(155,tf14),(156,tf14)],[(3,tf30),(9,tf11),(11,tf11),(12,tf11),(19,tf44),(21,tf48),(65,tf46),(68,tf33),(2065,tf41),(2000702,tf3)]⟩
def jj.c32r:Ck:=Ck.of (T:=List (List UInt8)) jj.c32s (fun ρ X Z=>jj.c32 (q8 (q8 (q8 X))).2.2.2.1 (q4 (q8 (q8 (q8 X)))).1 (q4 (q8 (q8 (q8 X)))).2.1 (q4 (q8 (q8 (q8 X)))).2.2.1 (q4 (q8 (q8 (q8 X)))).2.2.2.1 Z) (fun ρ X V Z=>Z 0 (Shape.inj jj.c32s (X.1,X.2.1,X.2.2.1,X.2.2.2.1,(q4 X).1,(q4 X).2.1,(q4 X).2.2.1,(q4 X).2.2.2.1,(q8 X).1,(q8 X).2.1,(q8 X).2.2.1,(q8 X).2.2.2.1,(q4 (q8 X)).1,(q4 (q8 X)).2.1,(q4 (q8 X)).2.2.1,(q4 (q8 X)).2.2.2.1,(q8 (q8 X)).1,(q8 (q8 X)).2.1,(q8 (q8 X)).2.2.1,(q8 (q8 X)).2.2.2.1,(q4 (q8 (q8 X))).1,(q4 (q8 (q8 X))).2.1,(q4 (q8 (q8 X))).2.2.1,(q4 (q8 (q8 X))).2.2.2.1,(q8 (q8 (q8 X))).1,(q8 (q8 (q8 X))).2.1,(q8 (q8 (q8 X))).2.2.1,V,(q4 (q8 (q8 (q8 X)))))))
def jj.cp_ (t154:List YP)(t155:Int)(t156:Int)(out:List (List UInt8))(t650:Int)(Z:(Int×(List (List UInt8)))⊕(Int×(List (List UInt8)))→Option ρ):Option ρ:=
 br (decide (t156<t155))
 (bnd (idx t154 t156) fun y=>
 bnd (jj.c32 out y.1 y.2.1 y.2.2 t650 some) fun y1=>
 Z (.inl ((IntKind.i64.wrap (t156+(1:Int))),y1)))
 (Z (.inr (t156,out)))
def jj.cp_r:Ck:=Ck.ofLoop (S:=Int×(List (List UInt8))) (T:=Int×(List (List UInt8))) jj.c29x0 (fun X=>((q8 (q8 X)).1,(q8 (q8 (q8 X))).2.2.2.1)) (fun ρ X Q Z=>jj.cp_ (q4 (q8 X)).2.2.1 (q4 (q8 X)).2.2.2.1 Q.1 Q.2 (q4 (q8 (q8 (q8 X)))).1 Z) (fun ρ X V Z=>uP X fun c0 X=>uP X fun c1 X=>uP X fun c2lo X=>uP X fun c2n X=>uP X fun t1 X=>uP X fun tape X=>uP X fun t6 X=>uP X fun t7 X=>uP X fun t8 X=>uP X fun used X=>uP X fun t70lo X=>uP X fun t70n X=>uP X fun t71 X=>uP X fun t72 X=>uP X fun t154 X=>uP X fun t155 X=>uP X fun t156 X=>uP X fun c0_1 X=>uP X fun c1_1 X=>uP X fun c2lo_1 X=>uP X fun c2n_1 X=>uP X fun t90 X=>uP X fun t91 X=>uP X fun f0 X=>uP X fun f1 X=>uP X fun f0_1 X=>uP X fun f1_1 X=>uP X fun out X=>uP X fun t650 X=>uP X fun t651 X=>uP X fun t68 X=>uP X fun ul X=>uP X fun uj X=>Z 5 (Shape.inj jj.c29x0 (c0,c1,c2lo,c2n,t1,tape,t6,t7,t8,used,t70lo,t70n,t71,t72,t154,t155,V.1,c0_1,c1_1,c2lo_1,c2n_1,t90,t91,f0,f1,f0_1,f1_1,V.2,t650,t651,t68,ul,uj,())))
def jj (c0:Int) (c1:Int) (c2lo:Int) (c2n:Int) (t1:Int) (tape:List Int) (uj:List YO):Option ((List (List UInt8))×(List Int)×Int×(Int×Int)×(List YO)×Unit):=
 bnd (jA c0 c1 c2lo c2n uj) fun y=>
 br (y.1.1 !=(0:Int))
 (bnd (Jh (y.1.1,y.1.2)) fun y1=>
 some (y1.1,y1.2.1,y1.2.2.1,(y1.2.2.2.1,y1.2.2.2.2),y.2.1,()))
 (bnd (jj.c5 t1 c0 some) fun y2=>
 br y2
 (bnd (Jh ((18:Int),(0:Int))) fun y3=>
 some (y3.1,y3.2.1,y3.2.2.1,(y3.2.2.2.1,y3.2.2.2.2),y.2.1,()))
 (bnd (jJ c0 c1 c2lo c2n y.2.1) fun y4=>
 br (y4.1.1 !=(0:Int))
 (bnd (Jh (y4.1.1,y4.1.2)) fun y5=>
 some (y5.1,y5.2.1,y5.2.2.1,(y5.2.2.2.1,y5.2.2.2.2),y4.2.1,()))
 (bnd (jj.c10 t1 c0 c1 some) fun y6=>
 bnd (iter (fun s↦jj.ce_ tape s.1 c2lo c2n (↑(List.length (part c2lo c2n y4.2.1)):Int) s.2.1 s.2.2.1 s.2.2.2.1 s.2.2.2.2.1 s.2.2.2.2.2 y4.2.1 some) ((0:Int),(0:Int),y6.1,List.replicate (Int.toNat c1) (0:Int),y6.2.1,y6.2.2)) fun y7=>
 sel y7
 (fun u=>some (u.1,u.2.1,u.2.2.1,(u.2.2.2.2.2.1,u.2.2.2.2.2.2.1),y4.2.1,()))
 (fun v=>bnd (jj.c29 v.2.2.1 v.2.2.2.2.1 some) fun y8=>
 bnd (iter (fun s↦jj.cp_ y8.1 y8.2 s.1 s.2 v.2.2.1 some) ((0:Int),[])) fun y9=>
 some (y9.2,v.2.2.2.1,v.1,((0:Int),(0:Int)),y4.2.1,())))))
def jj.mc:MCallee:=⟨9,jj.pre,jj.post,fun X=>jj X.1 X.2.1 X.2.2.1 X.2.2.2.1 (q4 X).1 (q4 X).2.1 (q4 X).2.2.1⟩
def jj.G:Env:=⟨174,tab,[(39,jQ.ce),(42,jh.ce),(43,jt.ce),(35,Jh.ce)],[0,1,2,3,6,7,8,9,10,11,12,13,14,15,16,17,18,19,21,26,42,54,70,71,72,73,77,82,89,119,132,139,154,155,156,157],[3,19,65,68,1003,1065,2065,2000702],[(32,[⟨[],[],[161,162,163,164,165,166,167],[167]⟩,⟨[],[],[160,162,163,164,165],[]⟩,⟨[],[],[160,161],[]⟩,⟨[2],[],[160,161],[]⟩,⟨[3,2],[],[160,161],[]⟩,⟨[4,3,2],[],[160,161],[]⟩,⟨[1,5,4,3,2],[],[160],[]⟩,⟨[6,1,5,4,3,2],[167],[160],[]⟩,⟨[0,7,6,1,5,4,3,2],[19],[],[]⟩,⟨[8,0,7,6,1,5,4,3,2],[],[],[]⟩]),
 (29,[⟨[],[],[150,151,152,153,156],[]⟩,⟨[0],[],[150,151,152,153,156],[]⟩,⟨[1,0],[],[150,151,152,153,156],[]⟩,⟨[2,1,0],[],[150,151,152,153,156],[]⟩,⟨[],[],[146,147,148,149,156],[]⟩,⟨[4],[],[146,147,148,149,156],[]⟩,⟨[5,4],[],[146,147,148,149,156],[]⟩,⟨[6,5,4],[],[146,147,148,149,156],[]⟩,⟨[3,2,1,0,7,6,5,4],[1065],[156],[]⟩,⟨[8,3,2,1,0,7,6,5,4],[],[156],[]⟩,⟨[],[],[146,147,148,149,150,151,152,153,154,155],[1065]⟩]),
 (10,[⟨[],[],[64,66,67,68],[68]⟩,⟨[0],[],[64,66,67,68],[68]⟩,⟨[],[],[62,63,66,67,68],[68]⟩,⟨[1,0,2],[1065,2065,65],[66,67,68],[68]⟩,⟨[],[],[62,63,64,65,13],[1065,2065,65]⟩,⟨[4],[],[62,63,64,65,13],[1065,2065,65]⟩,⟨[5,4],[68],[62,63,64,65,13],[1065,2065,65]⟩,⟨[3,1,0,2],[],[66,67,68],[68]⟩,⟨[6,5,4,7,3,1,0,2],[],[],[]⟩,⟨[8,6,5,4,7,3,1,0,2],[],[],[]⟩])],[(100030,jj.cp_r),(32,jj.c32r),(29,jj.c29r),(100012,jj.ce_r),(253291,jj.cj_r),(20,jj.c20r),(10,jj.c10r),(5,jj.c5r)],[(36,jA.mc),(37,jJ.mc),(38,jI.mc),(40,jw.mc),(41,jb.mc)],Jd⟩
theorem jj.p0:PcA jj.G Try.f9 0:=
 jB (s:=jj.c5r) (by kernel_rfl) (by kernel_rfl) (jC (sh:=jj.c5s) (fun ρ X Z=>(jo jd (je fun _=>jd))) (fun ρ X t k=>(by kernel_rfl)) (fun X=>by kernel_rfl))
theorem jj.p1:PcA jj.G Try.f9 1:=
 jB (s:=jj.c10r) (by kernel_rfl) (by kernel_rfl) (jC (sh:=jj.c10s) (fun ρ X Z=>(je fun _=>(je fun _=>jd))) (fun ρ X t k=>(by kernel_rfl)) (fun X=>by kernel_rfl))
theorem jj.p2:PcA jj.G Try.f9 2:=
 Jo (s:=jj.ce_r) (by kernel_rfl) (by kernel_rfl) (Jg (sh:=jj.cj_s) (I:=fun X Q=>(X.1,X.2.1,X.2.2.1,X.2.2.2.1,(q4 X).1,(q4 X).2.1,(q4 X).2.2.1,(q4 X).2.2.2.1,(q8 X).1,Q.1,(q8 X).2.2.1,(q8 X).2.2.2.1,(q4 (q8 X)).1,Q.2.1,(q4 (q8 X)).2.2.1,(q4 (q8 X)).2.2.2.1,(q8 (q8 X)).1,(q8 (q8 X)).2.1,(q8 (q8 X)).2.2.1,(q8 (q8 X)).2.2.2.1,(q4 (q8 (q8 X))).1,(q4 (q8 (q8 X))).2.1,(q4 (q8 (q8 X))).2.2.1,(q4 (q8 (q8 X))).2.2.2.1,Q.2.2.1,Q.2.2.2.1,Q.2.2.2.2.1,Q.2.2.2.2.2,(q4 (q8 (q8 (q8 X)))))) (fun X=>rfl) (fun ρ X Q Z=>(jo (je fun _=>(JU (fun _=>jd) (fun _=>jd))) jd)) (fun ρ X t k=>(JU (fun _=>(by kernel_rfl)) (fun _=>(by kernel_rfl)))) (fun X s=>by kernel_rfl))
theorem jj.p3:PcA jj.G Try.f9 3:=
 kq (s:=jj.cj_r) (by kernel_rfl) (by kernel_rfl) (jC (sh:=jj.cj_s) (fun ρ X Z=>(je fun _=>(je fun _=>(je fun _=>(jo jd (jo (je fun _=>jd) (jo (je fun _=>jd) (je fun _=>(je fun _=>(jo (je fun _=>jd) (jo (je fun _=>(je fun _=>jd)) (jo (je fun _=>jd) jd)))))))))))) (fun ρ X t k=>(JU (fun _=>(by kernel_rfl)) (fun _=>(by kernel_rfl)))) (fun X=>by kernel_rfl))
theorem jj.p4:PcA jj.G Try.f9 4:=
 jB (s:=jj.c20r) (by kernel_rfl) (by kernel_rfl) (jC (sh:=jj.c20s) (fun ρ X Z=>(jo (jo jd (je fun _=>jd)) (je fun _=>jd))) (fun ρ X t k=>(by kernel_rfl)) (fun X=>by kernel_rfl))
theorem jj.p5:PcA jj.G Try.f9 5:=
 jB (s:=jj.c29r) (by kernel_rfl) (by kernel_rfl) (jC (sh:=jj.c29s) (fun ρ X Z=>(je fun _=>jd)) (fun ρ X t k=>(by kernel_rfl)) (fun X=>by kernel_rfl))
theorem jj.p6:PcA jj.G Try.f9 6:=
 Jo (s:=jj.cp_r) (by kernel_rfl) (by kernel_rfl) (Jg (sh:=jj.c29x0) (I:=fun X Q=>(X.1,X.2.1,X.2.2.1,X.2.2.2.1,(q4 X).1,(q4 X).2.1,(q4 X).2.2.1,(q4 X).2.2.2.1,(q8 X).1,(q8 X).2.1,(q8 X).2.2.1,(q8 X).2.2.2.1,(q4 (q8 X)).1,(q4 (q8 X)).2.1,(q4 (q8 X)).2.2.1,(q4 (q8 X)).2.2.2.1,Q.1,(q8 (q8 X)).2.1,(q8 (q8 X)).2.2.1,(q8 (q8 X)).2.2.2.1,(q4 (q8 (q8 X))).1,(q4 (q8 (q8 X))).2.1,(q4 (q8 (q8 X))).2.2.1,(q4 (q8 (q8 X))).2.2.2.1,(q8 (q8 (q8 X))).1,(q8 (q8 (q8 X))).2.1,(q8 (q8 (q8 X))).2.2.1,Q.2,(q4 (q8 (q8 (q8 X)))))) (fun X=>rfl) (fun ρ X Q Z=>(jo (je fun _=>(je fun _=>jd)) jd)) (fun ρ X t k=>(by kernel_rfl)) (fun X s=>by kernel_rfl))
theorem jj.p7:PcA jj.G Try.f9 7:=
 jB (s:=jj.c32r) (by kernel_rfl) (by kernel_rfl) (jC (sh:=jj.c32s) (fun ρ X Z=>(je fun _=>(je fun _=>jd))) (fun ρ X t k=>(by kernel_rfl)) (fun X=>by kernel_rfl))
theorem jj.ok:MOk Try.prog 9 jj.mc:=kW (mc:=jj.mc) (G:=jj.G) Jn mixed Try.func9 ⟨(jX jQ.ok (jX jh.ok (jX jt.ok (jX Jh.ok Je)))),(JX jA.ok (JX jJ.ok (JX jI.ok (JX jw.ok (JX jb.ok jY))))),jN⟩ (m:=8) (by kernel_rfl) ⟨⟨⟨⟨⟨⟨⟨⟨trivial,jj.p0⟩,jj.p1⟩,jj.p2⟩,jj.p3⟩,jj.p4⟩,jj.p5⟩,jj.p6⟩,jj.p7⟩ (by kernel_rfl) (fun _=>by kernel_rfl)
abbrev tf50:SD:=.one (.ref 7 0)
abbrev tf51:SD:=.one (.ref 8 0)
abbrev tf52:SD:=.one (.ref 10 0)
abbrev tf53:SD:=.one (.ref 14 0)
abbrev tf54:SO:=.box [.val .bool,.val .str]
abbrev tf55:SD:=.one (.ref 18 0)
abbrev tf56:SO:=.box [.val (.int .i64),.val (.int .i64),.own 182 0]
abbrev tf57:SD:=.one (.own 24 0)
def jc.c3 (c0:Int)(g0:Int)(Z:Bool→Option ρ):Option ρ:=
 br (g0==(0:Int))
 (Z (decide (c0>(11:Int))))
 (Z false)
def jc.c3s:Shape:=⟨[(0,tf4),(1,tf15),(2,tf14),(3,tf7),(6,tf21),(7,tf50),(8,tf51),(9,tf34)],[(3,tf9),(7,tf10),(8,tf11),(9,tf11)]⟩
def jc.c3x0:Shape:=⟨[(0,tf4),(1,tf15),(2,tf14),(3,tf7),(6,tf21),(7,tf50),(8,tf51),(9,tf34),(44,tf21)],[(3,tf9),(7,tf10),(8,tf11),(9,tf11)]⟩
def jc.c3r:Ck:=Ck.of (T:=Bool) jc.c3s (fun ρ X Z=>jc.c3 (q4 X).1 (q8 X).2.2.2.1 Z) (fun ρ X V Z=>Z 0 (Shape.inj jc.c3x0 (X.1,X.2.1,X.2.2.1,X.2.2.2.1,V,(q4 X))))
def jc.cB_ (c0:Int)(g0:Int)(g1:Int)(Z:Int×Int→Option ρ):Option ρ:=
 bnd (jc.c3 c0 g0 some) fun y=>
 br y
 (Z ((36:Int),(0:Int)))
 (Z (g0,g1))
def jc.cB_r:Ck:=Ck.of (T:=Int×Int) jc.c3s (fun ρ X Z=>jc.cB_ (q4 X).1 (q8 X).2.2.2.1 (q4 (q8 X)).1 Z) (fun ρ X V Z=>Z 0 (Shape.inj jc.c3s (X.1,X.2.1,X.2.2.1,X.2.2.2.1,(q4 X).1,(q4 X).2.1,(q4 X).2.2.1,(q4 X).2.2.2.1,(q8 X).1,(q8 X).2.1,(q8 X).2.2.1,V.1,V.2,())))
def jc.c5 (f0:Int)(f1:Int)(g0:Int)(g1:Int)(Z:Bool→Option ρ):Option ρ:=
 bnd Jv fun y=>
 br (!y)
 (Z true)
 (Z (!Ty.eqT (Ty.pair (Ty.int IntKind.i64) (Ty.int IntKind.i64)) (f0,f1) (g0,g1)))
def jc.c5x0:Shape:=⟨[(0,tf4),(1,tf15),(2,tf14),(3,tf7),(6,tf21),(7,tf50),(8,tf51),(9,tf34),(52,tf21)],[(3,tf9),(7,tf10),(8,tf11),(9,tf11)]⟩
def jc.c5r:Ck:=Ck.of (T:=Bool) jc.c3s (fun ρ X Z=>jc.c5 (q8 X).2.1 (q8 X).2.2.1 (q8 X).2.2.2.1 (q4 (q8 X)).1 Z) (fun ρ X V Z=>Z 0 (Shape.inj jc.c5x0 (X.1,X.2.1,X.2.2.1,X.2.2.2.1,V,(q4 X))))
def jc.c11 (c0:Int)(c1:List (List UInt8))(m0:Int)(m1:Int)(h0:Int)(t110:Int)(Z:Bool→Option ρ):Option ρ:=
 br (h0 !=(0:Int))
 (Z true)
 (br (t110 !=(0:Int))
 (Z true)
 (br (m0 !=IntKind.i64.wrap (c0+(1:Int)))
 (Z true)
 (Z (m1 !=(↑(List.length c1):Int)))))
def jc.c11s:Shape:=⟨[(0,tf4),(1,tf15),(2,tf14),(3,tf7),(6,tf21),(7,tf50),(8,tf51),(9,tf34),(10,tf52),(11,tf36)],[(3,tf9),(7,tf10),(8,tf11),(9,tf11),(10,tf11),(11,tf11)]⟩
def jc.c11x0:Shape:=⟨[(0,tf4),(1,tf15),(2,tf14),(3,tf7),(6,tf21),(7,tf50),(8,tf51),(9,tf34),(10,tf52),(11,tf36),(86,tf21)],[(3,tf9),(7,tf10),(8,tf11),(9,tf11),(10,tf11),(11,tf11)]⟩
def jc.c11r:Ck:=Ck.of (T:=Bool) jc.c11s (fun ρ X Z=>jc.c11 (q4 X).1 (q4 X).2.1 (q4 X).2.2.1 (q4 X).2.2.2.1 (q4 (q8 X)).2.1 (q4 (q8 X)).2.2.2.1 Z) (fun ρ X V Z=>Z 0 (Shape.inj jc.c11x0 (X.1,X.2.1,X.2.2.1,X.2.2.2.1,V,(q4 X))))
def jc.c18 (c0:Int)(o0:Int)(o3:Int)(o5:List Int)(Z:Bool→Option ρ):Option ρ:=
 br (decide ((↑(List.length o5):Int)>(0:Int)))
 (Z true)
 (br (decide (o0≥(5:Int)))
 (Z (o3 !=c0))
 (Z false))
def jc.c18s:Shape:=⟨[(0,tf4),(1,tf15),(2,tf14),(3,tf7),(6,tf21),(7,tf50),(8,tf51),(9,tf34),(10,tf52),(11,tf36),(12,tf14),(13,tf14),(14,tf53)],[(3,tf9),(7,tf10),(8,tf11),(9,tf11),(10,tf11),(11,tf11),(14,tf24)]⟩
def jc.c18x0:Shape:=⟨[(0,tf4),(1,tf15),(2,tf14),(3,tf7),(6,tf21),(7,tf50),(8,tf51),(9,tf34),(10,tf52),(11,tf36),(12,tf14),(13,tf14),(14,tf53),(114,tf21)],[(3,tf9),(7,tf10),(8,tf11),(9,tf11),(10,tf11),(11,tf11),(14,tf24)]⟩
def jc.c18r:Ck:=Ck.of (T:=Bool) jc.c18s (fun ρ X Z=>jc.c18 (q4 X).2.2.1 (q8 (q8 X)).2.2.2.1 (q4 (q8 (q8 X))).2.2.1 (q8 (q8 (q8 X))).1 Z) (fun ρ X V Z=>Z 0 (Shape.inj jc.c18x0 (X.1,X.2.1,X.2.2.1,X.2.2.2.1,(q4 X).1,(q4 X).2.1,V,(q4 X).2.2)))
def jc.c21 (meets:Int)(o0:Int)(o4:Int)(Z:Bool→Option ρ):Option ρ:=
 br (!(Int.tmod meets (2:Int)==(0:Int))==(o0==(5:Int)))
 (Z true)
 (br (o0==(5:Int))
 (Z (o4 !=IntKind.i64.wrap (Int.tdiv meets (2:Int))))
 (Z false))
def jc.c21x0:Shape:=⟨[(0,tf4),(1,tf15),(2,tf14),(3,tf7),(6,tf21),(7,tf50),(8,tf51),(9,tf34),(10,tf52),(11,tf36),(12,tf14),(13,tf14),(14,tf53),(136,tf21)],[(3,tf9),(7,tf10),(8,tf11),(9,tf11),(10,tf11),(11,tf11),(14,tf24)]⟩
def jc.c21r:Ck:=Ck.of (T:=Bool) jc.c18s (fun ρ X Z=>jc.c21 (q4 X).1 (q8 (q8 X)).2.2.2.1 (q4 (q8 (q8 X))).2.2.2.1 Z) (fun ρ X V Z=>Z 0 (Shape.inj jc.c21x0 (X.1,X.2.1,X.2.2.1,X.2.2.2.1,(q4 X).1,(q4 X).2.1,V,(q4 X).2.2)))
def jc.cr_ (meets:Int)(i:Int)(c0:Int)(m2:List YO)(Z:(Unit)⊕Int→Option ρ):Option ρ:=
 bnd (idx m2 i) fun y=>
 bnd (jc.c18 c0 y.1 y.2.2.2.1 y.2.2.2.2.2 some) fun y1=>
 br y1
 (Z (.inl ()))
 (br (decide (y.1≥(5:Int)))
 (bnd (jc.c21 meets y.1 y.2.2.2.2.1 some) fun y2=>
 br y2
 (Z (.inl ()))
 (Z (.inr (IntKind.i64.wrap (meets+(1:Int))))))
 (Z (.inr meets)))
def jc.cr_s:Shape:=⟨[(0,tf4),(1,tf15),(2,tf14),(3,tf7),(6,tf21),(7,tf50),(8,tf51),(9,tf34),(10,tf52),(11,tf36),(12,tf14),(13,tf14)],[(3,tf9),(7,tf10),(8,tf11),(9,tf11),(10,tf11),(11,tf11)]⟩
def jc.cr_r:Ck:=Ck.of (T:=(Unit)⊕Int) jc.cr_s (fun ρ X Z=>jc.cr_ (q4 X).1 (q4 X).2.1 (q4 X).2.2.1 (q8 X).2.2.1 Z) (fun ρ X V Z=>sel V (fun V=>Z 1 (Shape.inj jc.cr_s (X.1,X.2.1,X.2.2.1,false,(q4 X)))) (fun V=>Z 0 (Shape.inj jc.cr_s (X.1,X.2.1,X.2.2.1,X.2.2.2.1,V,(q4 X).2))))
def jc.cz_ (meets:Int)(i:Int)(c0:Int)(m2:List YO)(Z:(Int×Int)⊕((Int×Int)⊕(Int×Int))→Option ρ):Option ρ:=
 br (decide (i<(↑(List.length m2):Int)))
 (bnd (jc.cr_ meets i c0 m2 some) fun y=>
 sel y
 (fun u=>Z (.inr (.inl (meets,i))))
 (fun v=>Z (.inl (v,(IntKind.i64.wrap (i+(1:Int)))))))
 (Z (.inr (.inr (meets,i))))
def jc.cz_r:Ck:=Ck.ofLoop (S:=Int×Int) (T:=(Int×Int)⊕(Int×Int)) jc.cr_s (fun X=>((q4 X).1,(q4 X).2.1)) (fun ρ X Q Z=>jc.cz_ Q.1 Q.2 (q4 X).2.2.1 (q8 X).2.2.1 Z) (fun ρ X V Z=>sel V (fun V=>Z 1 (Shape.inj jc.cr_s (X.1,X.2.1,X.2.2.1,false,V.1,V.2,(q4 X).2.2))) (fun V=>Z 2 (Shape.inj jc.cr_s (X.1,X.2.1,X.2.2.1,X.2.2.2.1,V.1,V.2,(q4 X).2.2))))
def jc.c25 (meets:Int)(is:Bool)(c1:List (List UInt8))(Z:Bool→Option ρ):Option ρ:=
 br (meets !=IntKind.i64.wrap ((2:Int)*(↑(List.length c1):Int)))
 (Z true)
 (Z (!is))
def jc.c25s:Shape:=⟨[(0,tf4),(1,tf15),(2,tf14),(3,tf7),(6,tf21),(7,tf50),(8,tf51),(9,tf34),(10,tf52),(11,tf36),(12,tf14),(13,tf14),(16,tf21)],[(3,tf9),(7,tf10),(8,tf11),(9,tf11),(10,tf11),(11,tf11),(15,tf54)]⟩
def jc.c25x0:Shape:=⟨[(0,tf4),(1,tf15),(2,tf14),(3,tf7),(6,tf21),(7,tf50),(8,tf51),(9,tf34),(10,tf52),(11,tf36),(12,tf14),(13,tf14),(16,tf21),(155,tf21)],[(3,tf9),(7,tf10),(8,tf11),(9,tf11),(10,tf11),(11,tf11),(15,tf54)]⟩
def jc.c25r:Ck:=Ck.of (T:=Bool) jc.c25s (fun ρ X Z=>jc.c25 (q4 X).1 (q4 X).2.2.1 (q8 X).1 Z) (fun ρ X V Z=>Z 0 (Shape.inj jc.c25x0 (X.1,X.2.1,X.2.2.1,X.2.2.2.1,(q4 X).1,(q4 X).2.1,(q4 X).2.2.1,V,(q4 X).2.2.2)))
def jc.c31 (error:List UInt8)(e2:List YO)(Z:List YO→Option ρ):Option ρ:=
 bnd (okIf (decide (((0:Nat)+List.length e2)*(80:Nat)≤(140737488355328:Nat))&&decide ((0:Nat)+List.length e2≤(140737488355328:Nat)))) fun y=>
 bnd (okIf (decide ((1:Int)≤(↑(List.length error):Int))&&decide ((↑(List.length error):Int)≤(↑(List.length error):Int)))) fun y1=>
 bnd (jD (List.drop (1:Nat) (List.take (Int.toNat (↑(List.length error):Int)) error))) fun y2=>
 bnd (okIf (decide ((List.length e2+List.length y2)*(80:Nat)≤(140737488355328:Nat))&&decide (List.length e2+List.length y2≤(140737488355328:Nat)))) fun y3=>
 Z (e2++y2)
def jc.c31s:Shape:=⟨[(0,tf4),(1,tf15),(2,tf14),(3,tf7),(6,tf21),(7,tf50),(8,tf51),(9,tf34),(10,tf52),(11,tf36),(12,tf14),(13,tf14),(16,tf21),(17,tf42),(18,tf55)],[(3,tf9),(7,tf10),(8,tf11),(9,tf11),(10,tf11),(11,tf11),(15,tf54),(17,tf10),(18,tf10),(3017,tf3),(3018,tf3)]⟩
def jc.c31x0:Shape:=⟨[(0,tf4),(1,tf15),(2,tf14),(3,tf7),(6,tf21),(7,tf50),(8,tf51),(9,tf34),(10,tf52),(11,tf36),(12,tf14),(13,tf14),(16,tf21),(17,tf42),(18,tf55)],[(3,tf9),(7,tf10),(8,tf11),(9,tf11),(10,tf11),(11,tf11),(15,tf54),(17,tf10),(18,tf56),(182,tf3),(3017,tf3),(3018,tf3)]⟩
def jc.c31r:Ck:=Ck.of (T:=List YO) jc.c31s (fun ρ X Z=>jc.c31 X.2.1 (q8 (q8 (q8 X))).1 Z) (fun ρ X V Z=>uP X fun c X=>uP X fun error X=>uP X fun t2 X=>uP X fun t6 X=>uP X fun meets X=>uP X fun i X=>uP X fun is X=>uP X fun c0 X=>uP X fun c1 X=>uP X fun m0 X=>uP X fun m1 X=>uP X fun m2 X=>uP X fun f0 X=>uP X fun f1 X=>uP X fun g0 X=>uP X fun g1 X=>uP X fun h0 X=>uP X fun h1 X=>uP X fun t110 X=>uP X fun t111 X=>uP X fun t150 X=>uP X fun t151 X=>uP X fun e0 X=>uP X fun e1 X=>uP X fun e2 X=>uP X fun all0 X=>uP X fun all1 X=>uP X fun all2 X=>uP X fun un X=>uP X fun uo X=>Z 0 (Shape.inj jc.c31x0 (c,error,t2,t6,meets,i,is,c0,c1,m0,m1,m2,f0,f1,g0,g1,h0,h1,t110,t111,t150,t151,e0,e1,e2,all0,all1,V,un,uo,())))
def jc.c35 (c1:List (List UInt8))(Z:Unit→Option ρ):Option ρ:=
 bnd (okIf (decide ((0:Int)≤(↑(List.length c1):Int)))) fun y=>
 bnd (okIf (decide ((0:Int)≤(↑(List.length c1):Int)))) fun y1=>
 Z ()
def jc.c35s:Shape:=⟨[(0,tf4),(1,tf15),(2,tf14),(3,tf7),(6,tf21),(7,tf50),(8,tf51),(9,tf34),(10,tf52),(11,tf36),(12,tf14),(13,tf14),(16,tf21),(17,tf42),(18,tf55),(19,tf14)],[(3,tf9),(7,tf10),(8,tf11),(9,tf11),(10,tf11),(11,tf11),(15,tf54),(17,tf10),(18,tf56),(182,tf3),(3017,tf3),(3018,tf3)]⟩
def jc.c35r:Ck:=Ck.of (T:=Unit) jc.c35s (fun ρ X Z=>jc.c35 (q8 X).2.1 Z) (fun ρ X V Z=>Z 0 (Shape.inj jc.c35s (X.1,X.2.1,X.2.2.1,X.2.2.2.1,(q4 X).1,(q4 X).2.1,(q4 X).2.2.1,(IntKind.i64.wrap (Int.fdiv (q4 X).2.2.2.1 ((2:Int)^Min.min (Int.toNat (↑(List.length (q8 X).2.1):Int)) (64:Nat))*(2:Int)^Min.min (Int.toNat (↑(List.length (q8 X).2.1):Int)) (64:Nat))),(q8 X))))
def jc.c40 (error:List UInt8)(c0:Int)(c1:List (List UInt8))(Z:List Int→Option ρ):Option ρ:=
 bnd (okIf (decide ((1:Int)≤(↑(List.length error):Int))&&decide ((↑(List.length error):Int)≤(↑(List.length error):Int)))) fun y=>
 bnd (Jx (c0,c1) (List.drop (1:Nat) (List.take (Int.toNat (↑(List.length error):Int)) error))) fun y1=>
 Z y1
def jc.c40s:Shape:=⟨[(0,tf4),(1,tf15),(2,tf14),(3,tf7),(6,tf21),(7,tf50),(8,tf51),(9,tf34),(10,tf52),(11,tf36),(12,tf14),(13,tf14),(16,tf21),(17,tf42),(18,tf55),(19,tf14),(20,tf16)],[(3,tf9),(7,tf10),(8,tf11),(9,tf11),(10,tf11),(11,tf11),(15,tf54),(17,tf10),(18,tf56),(182,tf3),(3017,tf3),(3018,tf3)]⟩
def jc.c40x0:Shape:=⟨[(0,tf4),(1,tf15),(2,tf14),(3,tf7),(6,tf21),(7,tf50),(8,tf51),(9,tf34),(10,tf52),(11,tf36),(12,tf14),(13,tf14),(16,tf21),(17,tf42),(18,tf55),(19,tf14),(20,tf16),(23,tf26)],[(3,tf9),(7,tf10),(8,tf11),(9,tf11),(10,tf11),(11,tf11),(15,tf54),(17,tf10),(18,tf56),(182,tf3),(3017,tf3),(3018,tf3)]⟩
def jc.c40r:Ck:=Ck.of (T:=List Int) jc.c40s (fun ρ X Z=>jc.c40 X.2.1 (q8 X).2.1 (q8 X).2.2.1 Z) (fun ρ X V Z=>Z 0 (Shape.inj jc.c40x0 (X.1,X.2.1,X.2.2.1,X.2.2.2.1,(q4 X).1,(q4 X).2.1,(q4 X).2.2.1,(q4 X).2.2.2.1,(q8 X).1,V,(q8 X).2)))
def jc.c45 (s:List Int)(i_1:Int)(tape:List Int)(Z:List Int→Option ρ):Option ρ:=
 bnd (idx s i_1) fun y=>
 bnd (idx s i_1) fun y1=>
 bnd (okIf (decide ((List.length tape+(2:Nat))*(8:Nat)≤(140737488355328:Nat))&&decide (List.length tape+(2:Nat)≤(140737488355328:Nat)))) fun y2=>
 Z (tape++[y,y1])
def jc.c45s:Shape:=⟨[(0,tf4),(1,tf15),(2,tf14),(3,tf7),(6,tf21),(7,tf50),(8,tf51),(9,tf34),(10,tf52),(11,tf36),(12,tf14),(13,tf14),(16,tf21),(17,tf42),(18,tf55),(19,tf14),(20,tf16),(23,tf26),(24,tf57),(25,tf14)],[(3,tf9),(7,tf10),(8,tf11),(9,tf11),(10,tf11),(11,tf11),(15,tf54),(17,tf10),(18,tf56),(24,tf33),(182,tf3),(3017,tf3),(3018,tf3)]⟩
def jc.c45r:Ck:=Ck.of (T:=List Int) jc.c45s (fun ρ X Z=>jc.c45 (q8 X).2.1 (q8 X).2.2.1 (q4 (q8 (q8 (q8 X)))).2.2.2.1 Z) (fun ρ X V Z=>uP X fun c X=>uP X fun error X=>uP X fun t2 X=>uP X fun t6 X=>uP X fun meets X=>uP X fun i X=>uP X fun is X=>uP X fun free X=>uP X fun before X=>uP X fun s X=>uP X fun i_1 X=>uP X fun c0 X=>uP X fun c1 X=>uP X fun m0 X=>uP X fun m1 X=>uP X fun m2 X=>uP X fun f0 X=>uP X fun f1 X=>uP X fun g0 X=>uP X fun g1 X=>uP X fun h0 X=>uP X fun h1 X=>uP X fun t110 X=>uP X fun t111 X=>uP X fun t150 X=>uP X fun t151 X=>uP X fun e0 X=>uP X fun e1 X=>uP X fun e2 X=>uP X fun all0 X=>uP X fun all1 X=>uP X fun tape X=>uP X fun t182 X=>uP X fun un X=>uP X fun uo X=>Z 0 (Shape.inj jc.c45s (c,error,t2,t6,meets,i,is,free,before,s,i_1,c0,c1,m0,m1,m2,f0,f1,g0,g1,h0,h1,t110,t111,t150,t151,e0,e1,e2,all0,all1,V,t182,un,uo,())))
def jc.cI_ (s:List Int)(i_1:Int)(tape:List Int)(Z:(Int×(List Int))⊕(Int×(List Int))→Option ρ):Option ρ:=
 br (decide (i_1<(↑(List.length s):Int)))
 (bnd (jc.c45 s i_1 tape some) fun y=>
 Z (.inl ((IntKind.i64.wrap (i_1+(1:Int))),y)))
 (Z (.inr (i_1,tape)))
def jc.cI_r:Ck:=Ck.ofLoop (S:=Int×(List Int)) (T:=Int×(List Int)) jc.c45s (fun X=>((q8 X).2.2.1,(q4 (q8 (q8 (q8 X)))).2.2.2.1)) (fun ρ X Q Z=>jc.cI_ (q8 X).2.1 Q.1 Q.2 Z) (fun ρ X V Z=>uP X fun c X=>uP X fun error X=>uP X fun t2 X=>uP X fun t6 X=>uP X fun meets X=>uP X fun i X=>uP X fun is X=>uP X fun free X=>uP X fun before X=>uP X fun s X=>uP X fun i_1 X=>uP X fun c0 X=>uP X fun c1 X=>uP X fun m0 X=>uP X fun m1 X=>uP X fun m2 X=>uP X fun f0 X=>uP X fun f1 X=>uP X fun g0 X=>uP X fun g1 X=>uP X fun h0 X=>uP X fun h1 X=>uP X fun t110 X=>uP X fun t111 X=>uP X fun t150 X=>uP X fun t151 X=>uP X fun e0 X=>uP X fun e1 X=>uP X fun e2 X=>uP X fun all0 X=>uP X fun all1 X=>uP X fun tape X=>uP X fun t182 X=>uP X fun un X=>uP X fun uo X=>Z 4 (Shape.inj jc.c45s (c,error,t2,t6,meets,i,is,free,before,s,V.1,c0,c1,m0,m1,m2,f0,f1,g0,g1,h0,h1,t110,t111,t150,t151,e0,e1,e2,all0,all1,V.2,t182,un,uo,())))
def jc.c47 (before:List (List UInt8))(s:List Int)(after:List (List UInt8))(bits:List Int)(used:Int)(f0:Int)(tape:List Int)(Z:Bool→Option ρ):Option ρ:=
 br (f0 !=(0:Int))
 (Z true)
 (bnd (jV bits s) fun y=>
 br (!y)
 (Z true)
 (br (used !=(↑(List.length tape):Int))
 (Z true)
 (bnd (Jc before after) fun y1=>
 Z (!y1))))
def jc.c47s:Shape:=⟨[(0,tf4),(1,tf15),(2,tf14),(3,tf7),(6,tf21),(7,tf50),(8,tf51),(9,tf34),(10,tf52),(11,tf36),(12,tf14),(13,tf14),(16,tf21),(17,tf42),(18,tf55),(19,tf14),(20,tf16),(23,tf26),(24,tf57),(25,tf14),(26,tf16),(27,tf26),(28,tf14)],[(3,tf9),(7,tf10),(8,tf11),(9,tf11),(10,tf11),(11,tf11),(15,tf54),(17,tf10),(18,tf56),(24,tf33),(182,tf3),(3017,tf3),(3018,tf3)]⟩
def jc.c47x0:Shape:=⟨[(0,tf4),(1,tf15),(2,tf14),(3,tf7),(6,tf21),(7,tf50),(8,tf51),(9,tf34),(10,tf52),(11,tf36),(12,tf14),(13,tf14),(16,tf21),(17,tf42),(18,tf55),(19,tf14),(20,tf16),(23,tf26),(24,tf57),(25,tf14),(26,tf16),(27,tf26),(28,tf14),(278,tf21)],[(3,tf9),(7,tf10),(8,tf11),(9,tf11),(10,tf11),(11,tf11),(15,tf54),(17,tf10),(18,tf56),(24,tf33),(182,tf3),(3017,tf3),(3018,tf3)]⟩
def jc.c47r:Ck:=Ck.of (T:=Bool) jc.c47s (fun ρ X Z=>jc.c47 (q8 X).1 (q8 X).2.1 (q8 X).2.2.2.1 (q4 (q8 X)).1 (q4 (q8 X)).2.1 (q8 (q8 X)).2.2.2.1 (q8 (q8 (q8 (q8 X)))).2.2.1 Z) (fun ρ X V Z=>Z 0 (Shape.inj jc.c47x0 (X.1,X.2.1,X.2.2.1,X.2.2.2.1,(q4 X).1,(q4 X).2.1,(q4 X).2.2.1,(q4 X).2.2.2.1,(q8 X).1,(q8 X).2.1,(q8 X).2.2.1,(q8 X).2.2.2.1,(q4 (q8 X)).1,(q4 (q8 X)).2.1,V,(q4 (q8 X)).2.2)))
def jc (c:Int×(List (List UInt8))) (error:List UInt8) (t2:Int):Option Bool:=
 bnd (Jz (c.1,c.2)) fun y=>
 bnd (jv y) fun y1=>
 bnd (jl (c.1,c.2)) fun y2=>
 bnd (jc.cB_ c.1 y2.1 y2.2 some) fun y3=>
 bnd (jc.c5 y1.2.1 y1.2.2 y3.1 y3.2 some) fun y4=>
 br y4
 (some false)
 (br (y3.1 !=(0:Int))
 (bnd (jK (y1.1.1,y1.1.2.1,y1.1.2.2) ((0:Int),(0:Int),[])) fun y5=>
 some y5)
 (bnd (Jb (y1.1.1,y1.1.2.1,y1.1.2.2)) fun y6=>
 bnd (Jj (y1.1.1,y1.1.2.1,y1.1.2.2)) fun y7=>
 bnd (jc.c11 c.1 c.2 y1.1.1 y1.1.2.1 y6.1 y7.1 some) fun y8=>
 br y8
 (some false)
 (bnd (iter (fun s↦jc.cz_ s.1 s.2 c.1 y1.1.2.2 some) ((0:Int),(0:Int))) fun y9=>
 sel y9
 (fun u=>some false)
 (fun v=>bnd (jM error c.1) fun y10=>
 bnd (jc.c25 v.1 y10.2 c.2 some) fun y11=>
 br y11
 (some (v.1==IntKind.i64.wrap ((2:Int)*(↑(List.length c.2):Int))))
 (bnd (Jz (c.1,c.2)) fun y12=>
 bnd (jO y12) fun y13=>
 br (y13.2.1 !=(0:Int))
 (some false)
 (bnd (jc.c31 error y13.1.2.2 some) fun y14=>
 br (decide (IntKind.i64.wrap ((↑(List.length y14):Int)+(↑(List.length y1.1.2.2):Int))>(4096:Int)))
 (some true)
 (bnd (okIf (decide ((0:Int)≤c.1))) fun y15=>
 bnd (jc.c35 c.2 some) fun y16=>
 bnd (jj (IntKind.i64.wrap (c.1+(1:Int))) (↑(List.length c.2):Int) (0:Int) (↑(List.length y14):Int) (IntKind.i64.wrap (Int.fdiv (ibits BinOp.and IntKind.i64 t2 (IntKind.i64.wrap (IntKind.i64.wrap ((1:Int)*(2:Int)^Min.min (Int.toNat c.1) (64:Nat))-(1:Int)))) ((2:Int)^Min.min (Int.toNat (↑(List.length c.2):Int)) (64:Nat))*(2:Int)^Min.min (Int.toNat (↑(List.length c.2):Int)) (64:Nat))) [] y14) fun y17=>
 br (y17.2.2.2.1.1 !=(0:Int))
 (some false)
 (bnd (okIf (decide ((List.length y17.2.2.2.2.1+List.length y1.1.2.2)*(80:Nat)≤(140737488355328:Nat))&&decide (List.length y17.2.2.2.2.1+List.length y1.1.2.2≤(140737488355328:Nat)))) fun y18=>
 bnd (jc.c40 error c.1 c.2 some) fun y19=>
 bnd (iter (fun s↦jc.cI_ y19 s.1 s.2 some) ((0:Int),[])) fun y20=>
 bnd (jg (IntKind.i64.wrap (c.1+(1:Int))) (↑(List.length c.2):Int) (0:Int) (↑(List.length (y17.2.2.2.2.1++y1.1.2.2)):Int) (IntKind.i64.wrap (Int.fdiv (ibits BinOp.and IntKind.i64 t2 (IntKind.i64.wrap (IntKind.i64.wrap ((1:Int)*(2:Int)^Min.min (Int.toNat c.1) (64:Nat))-(1:Int)))) ((2:Int)^Min.min (Int.toNat (↑(List.length c.2):Int)) (64:Nat))*(2:Int)^Min.min (Int.toNat (↑(List.length c.2):Int)) (64:Nat))) (0:Int) (↑(List.length y20.2):Int) y20.2 (y17.2.2.2.2.1++y1.1.2.2)) fun y21=>
 bnd (jc.c47 y17.1 y19 y21.1 y21.2.1 y21.2.2.1 y21.2.2.2.1.1 y21.2.2.2.2.1 some) fun y22=>
 br y22
 (some false)
 (br ((↑(List.length y21.2.2.2.2.1):Int)==(0:Int))
 (some true)
 (bnd (inR (List.length y21.2.2.2.2.1) (0:Int)) fun y23=>
 bnd (idx y21.2.2.2.2.1 (0:Int)) fun y24=>
 bnd (inR (List.length y21.2.2.2.2.1) (0:Int)) fun y25=>
 bnd (idx y21.2.2.2.2.1 (0:Int)) fun y26=>
 bnd (jg (IntKind.i64.wrap (c.1+(1:Int))) (↑(List.length c.2):Int) (0:Int) (↑(List.length y21.2.2.2.2.2.1):Int) (IntKind.i64.wrap (Int.fdiv (ibits BinOp.and IntKind.i64 t2 (IntKind.i64.wrap (IntKind.i64.wrap ((1:Int)*(2:Int)^Min.min (Int.toNat c.1) (64:Nat))-(1:Int)))) ((2:Int)^Min.min (Int.toNat (↑(List.length c.2):Int)) (64:Nat))*(2:Int)^Min.min (Int.toNat (↑(List.length c.2):Int)) (64:Nat))) (0:Int) (↑(List.length (List.set y21.2.2.2.2.1 (0:Nat) (IntKind.i64.wrap ((1:Int)-y24)))):Int) (List.set y21.2.2.2.2.1 (0:Nat) (IntKind.i64.wrap ((1:Int)-y24))) y21.2.2.2.2.2.1) fun y27=>
 some (y27.2.2.2.1.1==(20:Int))))))))))))
def jc.ce:Go.Ql.Callee:=⟨[(.st (.pair (.int .i64) (.sl .str))),.str,(.int .i64)],[.bool],fun X=>jc X.1 X.2.1 X.2.2⟩
def jc.G:Env:=⟨300,tab,[(28,Jz.ce),(31,jv.ce),(29,jl.ce),(30,Jv.ce),(11,jK.ce),(13,Jb.ce),(22,Jj.ce),(15,jM.ce),(27,jO.ce),(32,jD.ce),(33,Jx.ce),(12,jV.ce),(16,Jc.ce)],[0,1,2,3,6,7,8,9,10,11,12,13,14,16,17,18,19,20,23,24,25,26,27,28,44,52,55,86,91,114,117,136,155,170,195,221,235,278,281],[17,18,24,179,182,1018,3017,3018],[(45,[⟨[],[],[239,240,241,242,243,244,245,246,247],[247]⟩,⟨[],[],[238,240,243,244,245,246],[]⟩,⟨[],[],[238,239,243,244,245,246],[]⟩,⟨[1,2],[],[238,243,244,245,246],[]⟩,⟨[3,1,2],[],[238,243,244,245,246],[]⟩,⟨[],[],[238,239,240,241,242,244],[]⟩,⟨[],[],[238,239,240,241,242,243],[]⟩,⟨[5,6],[],[238,239,240,241,242],[]⟩,⟨[7,5,6],[],[238,239,240,241,242],[]⟩,⟨[4,3,1,2,8,7,5,6],[247],[238],[]⟩,⟨[0,9,4,3,1,2,8,7,5,6],[24],[],[]⟩,⟨[10,0,9,4,3,1,2,8,7,5,6],[],[],[]⟩]),
 (40,[⟨[],[],[229,230],[]⟩,⟨[],[],[228],[]⟩,⟨[1],[],[228],[]⟩,⟨[0,2,1],[],[],[]⟩,⟨[3,0,2,1],[],[],[]⟩]),
 (35,[⟨[],[],[203,204,205,207,208,209],[]⟩,⟨[],[],[202,207,208,209],[]⟩,⟨[1],[],[202,207,208,209],[]⟩,⟨[2,1],[],[202,207,208,209],[]⟩,⟨[0,3,2,1],[],[207,208,209],[]⟩,⟨[],[],[202,203,204,205,206],[]⟩,⟨[5],[],[202,203,204,205,206],[]⟩,⟨[6,5],[],[202,203,204,205,206],[]⟩,⟨[4,0,3,2,1,7,6,5],[],[],[]⟩,⟨[8,4,0,3,2,1,7,6,5],[],[],[]⟩]),
 (31,[⟨[],[],[183,184],[]⟩,⟨[0],[],[183,184],[]⟩,⟨[1,0],[182],[183,184],[]⟩,⟨[],[],[180,181,182],[182]⟩,⟨[3],[],[180,181,182],[182]⟩,⟨[4,3,2,1,0],[],[],[]⟩,⟨[2,1,0,5,4,3],[182],[],[]⟩,⟨[0,1,2,3,4,5,6],[],[],[]⟩,⟨[7,0,1,2,3,4,5,6],[18],[],[]⟩])],[(47,jc.c47r),(100043,jc.cI_r),(45,jc.c45r),(40,jc.c40r),(35,jc.c35r),(31,jc.c31r),(25,jc.c25r),(100015,jc.cz_r),(269656,jc.cr_r),(21,jc.c21r),(18,jc.c18r),(11,jc.c11r),(5,jc.c5r),(212293,jc.cB_r),(3,jc.c3r)],[(9,jg.mc),(1000214,jj.mc)],Jd⟩
theorem jc.p0:PcA jc.G Try.f7 0:=
 kq (s:=jc.cB_r) (by kernel_rfl) (by kernel_rfl) (jC (sh:=jc.c3s) (fun ρ X Z=>(je fun _=>(jo jd jd))) (fun ρ X t k=>(by kernel_rfl)) (fun X=>by kernel_rfl))
theorem jc.p1:PcA jc.G Try.f7 1:=
 jB (s:=jc.c3r) (by kernel_rfl) (by kernel_rfl) (jC (sh:=jc.c3s) (fun ρ X Z=>(jo jd jd)) (fun ρ X t k=>(by kernel_rfl)) (fun X=>by kernel_rfl))
theorem jc.p2:PcA jc.G Try.f7 2:=
 jB (s:=jc.c5r) (by kernel_rfl) (by kernel_rfl) (jC (sh:=jc.c3s) (fun ρ X Z=>(je fun _=>(jo jd jd))) (fun ρ X t k=>(by kernel_rfl)) (fun X=>by kernel_rfl))
theorem jc.p3:PcA jc.G Try.f7 3:=
 jB (s:=jc.c11r) (by kernel_rfl) (by kernel_rfl) (jC (sh:=jc.c11s) (fun ρ X Z=>(jo jd (jo jd (jo jd jd)))) (fun ρ X t k=>(by kernel_rfl)) (fun X=>by kernel_rfl))
theorem jc.p4:PcA jc.G Try.f7 4:=
 Jo (s:=jc.cz_r) (by kernel_rfl) (by kernel_rfl) (Jg (sh:=jc.cr_s) (I:=fun X Q=>(X.1,X.2.1,X.2.2.1,X.2.2.2.1,Q.1,Q.2,(q4 X).2.2)) (fun X=>rfl) (fun ρ X Q Z=>(jo (je fun _=>(JU (fun _=>jd) (fun _=>jd))) jd)) (fun ρ X t k=>(JU (fun _=>(by kernel_rfl)) (fun _=>(by kernel_rfl)))) (fun X s=>by kernel_rfl))
theorem jc.p5:PcA jc.G Try.f7 5:=
 kq (s:=jc.cr_r) (by kernel_rfl) (by kernel_rfl) (jC (sh:=jc.cr_s) (fun ρ X Z=>(je fun _=>(je fun _=>(jo jd (jo (je fun _=>(jo jd jd)) jd))))) (fun ρ X t k=>(JU (fun _=>(by kernel_rfl)) (fun _=>(by kernel_rfl)))) (fun X=>by kernel_rfl))
theorem jc.p6:PcA jc.G Try.f7 6:=
 jB (s:=jc.c18r) (by kernel_rfl) (by kernel_rfl) (jC (sh:=jc.c18s) (fun ρ X Z=>(jo jd (jo jd jd))) (fun ρ X t k=>(by kernel_rfl)) (fun X=>by kernel_rfl))
theorem jc.p7:PcA jc.G Try.f7 7:=
 jB (s:=jc.c21r) (by kernel_rfl) (by kernel_rfl) (jC (sh:=jc.c18s) (fun ρ X Z=>(jo jd (jo jd jd))) (fun ρ X t k=>(by kernel_rfl)) (fun X=>by kernel_rfl))
theorem jc.p8:PcA jc.G Try.f7 8:=
 jB (s:=jc.c25r) (by kernel_rfl) (by kernel_rfl) (jC (sh:=jc.c25s) (fun ρ X Z=>(jo jd jd)) (fun ρ X t k=>(by kernel_rfl)) (fun X=>by kernel_rfl))
theorem jc.p9:PcA jc.G Try.f7 9:=
 jB (s:=jc.c31r) (by kernel_rfl) (by kernel_rfl) (jC (sh:=jc.c31s) (fun ρ X Z=>(je fun _=>(je fun _=>(je fun _=>(je fun _=>jd))))) (fun ρ X t k=>(by kernel_rfl)) (fun X=>by kernel_rfl))
theorem jc.p10:PcA jc.G Try.f7 10:=
 jB (s:=jc.c35r) (by kernel_rfl) (by kernel_rfl) (jC (sh:=jc.c35s) (fun ρ X Z=>(je fun _=>(je fun _=>jd))) (fun ρ X t k=>(by kernel_rfl)) (fun X=>by kernel_rfl))
theorem jc.p11:PcA jc.G Try.f7 11:=
 jB (s:=jc.c40r) (by kernel_rfl) (by kernel_rfl) (jC (sh:=jc.c40s) (fun ρ X Z=>(je fun _=>(je fun _=>jd))) (fun ρ X t k=>(by kernel_rfl)) (fun X=>by kernel_rfl))
theorem jc.p12:PcA jc.G Try.f7 12:=
 Jo (s:=jc.cI_r) (by kernel_rfl) (by kernel_rfl) (Jg (sh:=jc.c45s) (I:=fun X Q=>(X.1,X.2.1,X.2.2.1,X.2.2.2.1,(q4 X).1,(q4 X).2.1,(q4 X).2.2.1,(q4 X).2.2.2.1,(q8 X).1,(q8 X).2.1,Q.1,(q8 X).2.2.2.1,(q4 (q8 X)).1,(q4 (q8 X)).2.1,(q4 (q8 X)).2.2.1,(q4 (q8 X)).2.2.2.1,(q8 (q8 X)).1,(q8 (q8 X)).2.1,(q8 (q8 X)).2.2.1,(q8 (q8 X)).2.2.2.1,(q4 (q8 (q8 X))).1,(q4 (q8 (q8 X))).2.1,(q4 (q8 (q8 X))).2.2.1,(q4 (q8 (q8 X))).2.2.2.1,(q8 (q8 (q8 X))).1,(q8 (q8 (q8 X))).2.1,(q8 (q8 (q8 X))).2.2.1,(q8 (q8 (q8 X))).2.2.2.1,(q4 (q8 (q8 (q8 X)))).1,(q4 (q8 (q8 (q8 X)))).2.1,(q4 (q8 (q8 (q8 X)))).2.2.1,Q.2,(q8 (q8 (q8 (q8 X)))))) (fun X=>rfl) (fun ρ X Q Z=>(jo (je fun _=>jd) jd)) (fun ρ X t k=>(by kernel_rfl)) (fun X s=>by kernel_rfl))
theorem jc.p13:PcA jc.G Try.f7 13:=
 jB (s:=jc.c45r) (by kernel_rfl) (by kernel_rfl) (jC (sh:=jc.c45s) (fun ρ X Z=>(je fun _=>(je fun _=>(je fun _=>jd)))) (fun ρ X t k=>(by kernel_rfl)) (fun X=>by kernel_rfl))
theorem jc.p14:PcA jc.G Try.f7 14:=
 jB (s:=jc.c47r) (by kernel_rfl) (by kernel_rfl) (jC (sh:=jc.c47s) (fun ρ X Z=>(jo jd (je fun _=>(jo jd (jo jd (je fun _=>jd)))))) (fun ρ X t k=>(by kernel_rfl)) (fun X=>by kernel_rfl))
theorem jc.ok:CalleeOk Try.prog 7 jc.ce:=fn_ok (G:=jc.G) Jn mixed Try.func7 ⟨(jX Jz.ok (jX jv.ok (jX jl.ok (jX Jv.ok (jX jK.ok (jX Jb.ok (jX Jj.ok (jX jM.ok (jX jO.ok (jX jD.ok (jX Jx.ok (jX jV.ok (jX Jc.ok Je))))))))))))),(JX jg.ok (JX jj.ok jY)),jN⟩ (m:=15) (by kernel_rfl) ⟨⟨⟨⟨⟨⟨⟨⟨⟨⟨⟨⟨⟨⟨⟨trivial,jc.p0⟩,jc.p1⟩,jc.p2⟩,jc.p3⟩,jc.p4⟩,jc.p5⟩,jc.p6⟩,jc.p7⟩,jc.p8⟩,jc.p9⟩,jc.p10⟩,jc.p11⟩,jc.p12⟩,jc.p13⟩,jc.p14⟩ (by kernel_rfl) (fun _=>by kernel_rfl)
end
end W
end
