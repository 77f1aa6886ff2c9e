/- Lifted functions, part 3: each with its contract. -/
import Derived.Test.YtaehnephoppjmaaGreatDoorWb
import Derived.Test.YtaehnephoppjmaaGreatDoorLf
import Derived.Test.YtaehnephoppjmaaGreatDoorProg
set_option linter.all false
section
set_option maxHeartbeats 4000000
set_option maxRecDepth 100000
namespace W
open Go Go.Ql Go.Proofs Go.IntKind
noncomputable section
variable {ρ:Type}
abbrev sa90:SO:=.box [.val (.sl .str),.val (.sl (.int .i64)),.val (.int .i64)]
def YX  : Option ((Int)×((Int)×(List YO))):=
  some ((2:Int),(1:Int),[((3:Int),(0:Int),[],(0:Int),(0:Int),[]),((2:Int),(0:Int),[(0:Int)],(1:Int),(0:Int),[]),((5:Int),(0:Int),[],(1:Int),(0:Int),[(-1:Int)])])
def YX.ce:=ceOf tab Tryz.f31 YX
def YX.G:EB Tryz.prog:=⟨tb,Tryz.f31,[],[0],[],[],[],[],[]⟩
theorem YX.ok:CalleeOk Tryz.prog 31 YX.ce:=fnB YX.G Tryz.func31 (m:=0) trivial (by kernel_rfl)
def Jb.c6 (a:List (List UInt8))(b:List (List UInt8))(i:Int)(Z:Bool→Option ρ):Option ρ:=
  bnd (idx a i) fun y=>
  bnd (idx b i) fun y1=>
  Z (!y==y1)
def Jb.c6s:Shape:=⟨[(0,sa70),(1,sa70),(4,sa11),(5,sa2)],[]⟩
def Jb.c6x0:Shape:=(Jb.c6s.s 25 sa11)
def Jb.c6r:RC:=⟨Jb.c6s,[(Jb.c6x0,0,[4,101])],no,[0,1,3],@Jb.c6,fun _ _ _ _ _=>ja fun _=>(ja fun _=>jb)⟩
def Jb.cc_ (a:List (List UInt8))(b:List (List UInt8))(i:Int)(Z:(Int)⊕((Int)⊕(Int))→Option ρ):Option ρ:=
  br (decide (i<(a.length:Int)))
   (bnd (Jb.c6 a b i some) fun y=>
    br y
     (Z (.inr (.inl i)))
     (Z (.inl (i64.wrap (i+1)))))
   (Z (.inr (.inr i)))
def Jb.cc_r:LC:=⟨Jb.c6s,[(Jb.c6s,1,[2,400,201,301]),(Jb.c6s,2,[3,201])],fun X=>(false,()),[3],[0,1,3],@Jb.cc_,fun _ _ _ _ _=>jf (ja fun _=>(jf jb jb)) jb⟩
def Jb (a:List (List UInt8)) (b:List (List UInt8)):Option Bool:=
  br ((a.length:Int) !=(b.length:Int))
   (some false)
   (bnd (iter (fun s↦Jb.cc_ a b s some) (0:Int)) fun y=>
    sel y
     (fun u=>some false)
     (fun v=>some true))
def Jb.ce:=ceOf tab Tryz.f32 Jb
def Jb.G:EB Tryz.prog:=⟨tb,Tryz.f32,[],[0,1,4,5,10,14,25],[],[(6,[])],[(100004,Jb.cc_r.ck),(6,Jb.c6r.ck)],[],[]⟩
theorem Jb.ok:CalleeOk Tryz.prog 32 Jb.ce:=fnB Jb.G Tryz.func32 (m:=2) ⟨⟨trivial,kL Jb.cc_r (by kernel_rfl)⟩,kR Jb.c6r (by kernel_rfl)⟩ (by kernel_rfl)
def jZ.c6 (a:List (Int))(b:List (Int))(i:Int)(Z:Bool→Option ρ):Option ρ:=
  bnd (idx a i) fun y=>
  bnd (idx b i) fun y1=>
  Z (y !=y1)
def jZ.c6s:Shape:=⟨[(0,sa0),(1,sa0),(4,sa11),(5,sa2)],[]⟩
def jZ.c6x0:Shape:=(jZ.c6s.s 25 sa11)
def jZ.c6r:RC:=⟨jZ.c6s,[(jZ.c6x0,0,[4,101])],no,[0,1,3],@jZ.c6,fun _ _ _ _ _=>ja fun _=>(ja fun _=>jb)⟩
def jZ.cc_ (a:List (Int))(b:List (Int))(i:Int)(Z:(Int)⊕((Int)⊕(Int))→Option ρ):Option ρ:=
  br (decide (i<(a.length:Int)))
   (bnd (jZ.c6 a b i some) fun y=>
    br y
     (Z (.inr (.inl i)))
     (Z (.inl (i64.wrap (i+1)))))
   (Z (.inr (.inr i)))
def jZ.cc_r:LC:=⟨jZ.c6s,[(jZ.c6s,1,[2,400,201,301]),(jZ.c6s,2,[3,201])],fun X=>(false,()),[3],[0,1,3],@jZ.cc_,fun _ _ _ _ _=>jf (ja fun _=>(jf jb jb)) jb⟩
def jZ (a:List (Int)) (b:List (Int)):Option Bool:=
  br ((a.length:Int) !=(b.length:Int))
   (some false)
   (bnd (iter (fun s↦jZ.cc_ a b s some) (0:Int)) fun y=>
    sel y
     (fun u=>some false)
     (fun v=>some true))
def jZ.ce:=ceOf tab Tryz.f13 jZ
def jZ.G:EB Tryz.prog:=⟨tb,Tryz.f13,[],[0,1,4,5,10,14,25],[],[(6,[])],[(100004,jZ.cc_r.ck),(6,jZ.c6r.ck)],[],[]⟩
theorem jZ.ok:CalleeOk Tryz.prog 13 jZ.ce:=fnB jZ.G Tryz.func13 (m:=2) ⟨⟨trivial,kL jZ.cc_r (by kernel_rfl)⟩,kR jZ.c6r (by kernel_rfl)⟩ (by kernel_rfl)
abbrev sa91:SD:=.one (.val (.st (.pair (.sl .str) (.pair (.sl (.int .i64)) (.int .i64)))))
def JN.c1 (a0:List (List UInt8))(a1:List (Int))(a2:Int)(b0:List (List UInt8))(b1:List (Int))(b2:Int)(Z:Bool→Option ρ):Option ρ:=
  bnd (Jb a0 b0) fun y=>
  br y
   (bnd (jZ a1 b1) fun y1=>
    br y1
     (Z (a2==b2))
     (Z false))
   (Z false)
def JN.c1s:Shape:=⟨[(0,sa91),(1,sa91),(2,sa6),(3,sa7),(4,sa11)],[(2,sa90),(3,sa90)]⟩
def JN.c1r:RC:=⟨JN.c1s,[(JN.c1s,0,[2,201])],no,[3,4,5,6,7,8],@JN.c1,fun _ _ _ _ _ _ _ _=>ja fun _=>(jf (ja fun _=>(jf jb jb)) jb)⟩
def JN (a:(List (List UInt8))×((List Int)×(Int))) (b:(List (List UInt8))×((List Int)×(Int))):Option Bool:=
  bnd (JN.c1 a.1 a.2.1 a.2.2 b.1 b.2.1 b.2.2 some) fun y=>
  some y
def JN.ce:=ceOf tab Tryz.f11 JN
def JN.G:EB Tryz.prog:=⟨tb,Tryz.f11,[⟨32,Jb.ce,Jb.ok⟩,⟨13,jZ.ce,jZ.ok⟩],[0,1,2,3,4],[],[],[(1,JN.c1r.ck)],[],[]⟩
theorem JN.ok:CalleeOk Tryz.prog 11 JN.ce:=fnB JN.G Tryz.func11 (m:=1) ⟨trivial,kR JN.c1r (by kernel_rfl)⟩ (by kernel_rfl)
def Jr.cc_ (a_1:YN)(t13:Int)(out:List YN)(Z:((Int)×(List YN))⊕((Int)×(List YN))→Option ρ):Option ρ:=
  br (decide (t13<7))
   (bnd (idx a_1.1 (i64.wrap (t13+1))) fun y=>
    bnd (whole_Int_Neg y) fun y1=>
    bnd (inR (out.length) (0:Int)) fun y2=>
    bnd (okIf (decide ((0:Ty.den (Ty.int IntKind.i64))≤i64.wrap ((7:Int)-t13))&&decide (i64.wrap ((7:Int)-t13)<(↑(8:Nat):Int)))) fun y3=>
    bnd (idx out (0:Int)) fun y4=>
    bnd (idx y4.1 (i64.wrap ((7:Int)-t13))) fun y5=>
    Z (.inl ((i64.wrap (t13+1)),(List.set out (0:Nat) (List.set y4.1 (Int.toNat (i64.wrap ((7:Int)-t13))) y1,y4.2)))))
   (Z (.inr (t13,out)))
def Jr.cc_s:Shape:=⟨[(0,sa23),(1,sa24),(2,sa54),(3,sa55),(13,sa2)],[(2,sa28),(3,sa28)]⟩
def Jr.cc_r:LC:=⟨Jr.cc_s,[(Jr.cc_s,2,[2,201,1,201])],no,[2,4],[1,2,4],@Jr.cc_,fun _ _ _ _ _=>jf (ja fun _=>(ja fun _=>(ja fun _=>(ja fun _=>(ja fun _=>(ja fun _=>jb)))))) jb⟩
def Jr (a:YN):Option YN:=
  bnd (idx a.1 (0:Int)) fun y=>
  bnd (idx (List.replicate (8:Nat) (false,([]:List (Ty.den (Ty.int IntKind.u32))))) (0:Int)) fun y1=>
  bnd (iter (fun s↦Jr.cc_ a s.1 s.2 some) ((0:Int),(List.set (List.replicate (8:Nat) (false,([]:List (Ty.den (Ty.int IntKind.u32))))) (0:Nat) y,a.2)::([]:List (Ty.den (Ty.st (Ty.pair (Ty.ar (nat_lit 8) (Ty.st (Ty.pair Ty.bool (Ty.sl (Ty.int IntKind.u32))))) (Ty.int IntKind.i64))))))) fun y2=>
  bnd (idx y2.2 (0:Int)) fun y3=>
  some y3
def Jr.ce:=ceOf tab Tryz.f83 Jr
def Jr.G:EB Tryz.prog:=⟨tb,Tryz.f83,[⟨116,whole_Int_Neg.ce,whole_Int_Neg.ok⟩],[0,1,2,3,4,13,14],[2,3,7,8000001],[],[(100004,Jr.cc_r.ck)],[],[]⟩
theorem Jr.ok:CalleeOk Tryz.prog 83 Jr.ce:=fnB Jr.G Tryz.func83 (m:=1) ⟨trivial,kL Jr.cc_r (by kernel_rfl)⟩ (by kernel_rfl)
abbrev sa92:SD:=.one (.own 18 0)
def whole_Int_Mul.cg_ (i:Int)(x:Int)(carry:Int)(t28:List (Int))(t29:Int)(t30:Int)(t18:List (Int))(Z:((Int)×(Int)×(List Int))⊕((Int)×(Int)×(List Int))→Option ρ):Option ρ:=
  br (decide (t30<t29))
   (bnd (idx t28 t30) fun y=>
    bnd (inR (t18.length) (i64.wrap (i+t30))) fun y1=>
    bnd (idx t18 (i64.wrap (i+t30))) fun y2=>
    bnd (inR (t18.length) (i64.wrap (i+t30))) fun y3=>
    bnd (idx t18 (i64.wrap (i+t30))) fun y4=>
    Z (.inl ((Int.fdiv (u64.wrap (carry+u64.wrap (u64.wrap (IntKind.wrap IntKind.u64 x*IntKind.wrap IntKind.u64 y)+IntKind.wrap IntKind.u64 y2))) ((2:Int) ^32)),(i64.wrap (t30+1)),(List.set t18 (Int.toNat (i64.wrap (i+t30))) (u32.wrap (u64.wrap (carry+u64.wrap (u64.wrap (IntKind.wrap IntKind.u64 x*IntKind.wrap IntKind.u64 y)+IntKind.wrap IntKind.u64 y2))))))))
   (Z (.inr (carry,t30,t18)))
def whole_Int_Mul.cg_s:Shape:=⟨[(0,sa50),(1,sa50),(2,sa6),(3,sa7),(4,sa20),(5,sa92),(6,sa2),(7,sa46),(8,sa22),(20,sa19),(21,sa2),(22,sa2),(28,sa19),(29,sa2),(30,sa2)],[(2,sa21),(3,sa21),(4,sa21),(18,sa43)]⟩
def whole_Int_Mul.cg_r:LC:=⟨whole_Int_Mul.cg_s,[(whole_Int_Mul.cg_s,4,[4,201,5,201,6,201])],no,[4,10,17],[2,3,4,8,9,10,17],@whole_Int_Mul.cg_,fun _ _ _ _ _ _ _ _ _=>jf (ja fun _=>(ja fun _=>(ja fun _=>(ja fun _=>(ja fun _=>jb))))) jb⟩
def whole_Int_Mul.ca_ (t20:List (Int))(t21:Int)(t22:Int)(b1:List (Int))(t18:List (Int))(Z:((Int)×(List Int))⊕((Int)×(List Int))→Option ρ):Option ρ:=
  br (decide (t22<t21))
   (bnd (idx t20 t22) fun y=>
    bnd (iter (fun s↦whole_Int_Mul.cg_ t22 y s.1 b1 (b1.length:Int) s.2.1 s.2.2 some) ((0:Int),(0:Int),t18)) fun y1=>
    bnd (inR (List.length y1.2.2) (i64.wrap (t22+(b1.length:Int)))) fun y2=>
    bnd (idx y1.2.2 (i64.wrap (t22+(b1.length:Int)))) fun y3=>
    Z (.inl ((i64.wrap (t22+1)),(List.set y1.2.2 (Int.toNat (i64.wrap (t22+(b1.length:Int)))) (u32.wrap y1.1)))))
   (Z (.inr (t22,t18)))
def whole_Int_Mul.ca_s:Shape:=((((((whole_Int_Mul.cg_s.d 6).d 7).d 8).d 28).d 29).d 30)
def whole_Int_Mul.ca_r:LC:=⟨whole_Int_Mul.ca_s,[(whole_Int_Mul.ca_s,2,[4,201,6,201])],no,[4,11],[2,3,4,8,11],@whole_Int_Mul.ca_,fun _ _ _ _ _ _ _=>jf (ja fun _=>(ja fun _=>(ja fun _=>(ja fun _=>jb)))) jb⟩
def whole_Int_Mul (a:Bool×(List Int)) (b:Bool×(List Int)):Option (Bool×(List Int)):=
  bnd (okIf (decide ((0:Int)≤i64.wrap ((↑(List.length a.2):Int)+(↑(List.length b.2):Int)))&&decide (i64.wrap ((↑(List.length a.2):Int)+(↑(List.length b.2):Int))≤i64.wrap ((↑(List.length a.2):Int)+(↑(List.length b.2):Int)))&&decide (i64.wrap ((↑(List.length a.2):Int)+(↑(List.length b.2):Int))*(↑(4:Nat):Int)≤140737488355328)&&decide (i64.wrap ((↑(List.length a.2):Int)+(↑(List.length b.2):Int))≤140737488355328))) fun y=>
  bnd (iter (fun s↦whole_Int_Mul.ca_ a.2 (↑(List.length a.2):Int) s.1 b.2 s.2 some) ((0:Int),List.replicate (Int.toNat (i64.wrap ((↑(List.length a.2):Int)+(↑(List.length b.2):Int)))) (0:Int))) fun y1=>
  bnd (whole_made (!a.1==b.1) y1.2) fun y2=>
  some (y2.1,y2.2)
def whole_Int_Mul.ce:=ceOf tab Tryz.f115 whole_Int_Mul
def whole_Int_Mul.G:EB Tryz.prog:=⟨tb,Tryz.f115,[⟨121,whole_made.ce,whole_made.ok⟩],[0,1,2,3,4,5,6,7,8,9,10,20,21,22,23,28,29,30,31],[18],[],[(100003,whole_Int_Mul.ca_r.ck),(100007,whole_Int_Mul.cg_r.ck)],[],[]⟩
theorem whole_Int_Mul.ok:CalleeOk Tryz.prog 115 whole_Int_Mul.ce:=fnB whole_Int_Mul.G Tryz.func115 (m:=2) ⟨⟨trivial,kL whole_Int_Mul.ca_r (by kernel_rfl)⟩,kL whole_Int_Mul.cg_r (by kernel_rfl)⟩ (by kernel_rfl)
def jt.cp_ (i:Int)(j:Int)(z0:Bool)(z1:List (Int))(Z:Bool×(List Int)→Option ρ):Option ρ:=
  br (decide (i64.wrap (i+j)≥8))
   (bnd (whole_Int_Neg (z0,z1)) fun y=>
    Z (y.1,y.2))
   (Z (z0,z1))
def jt.cp_s:Shape:=⟨[(0,sa23),(1,sa23),(2,sa24),(3,sa24),(4,sa25),(5,sa15),(6,sa2),(7,sa26),(8,sa2),(9,sa84),(10,sa85),(12,sa27),(13,sa2),(21,sa27),(22,sa2)],[(4,sa28),(5,sa53),(7,sa21),(9,sa21),(10,sa21)]⟩
def jt.cp_r:RC:=⟨jt.cp_s,[(jt.cp_s,0,[16,202])],no,[4,5,16,17],@jt.cp_,fun _ _ _ _ _ _=>jf (ja fun _=>jb) jb⟩
def jt.c12 (i:Int)(j:Int)(out:List (Bool×(List Int)))(z0:Bool)(z1:List (Int))(Z:List (Bool×(List Int))→Option ρ):Option ρ:=
  bnd (okIf (decide ((0:Ty.den (Ty.int IntKind.i64))≤ibits BinOp.and IntKind.i64 (i64.wrap (i+j)) (7:Int))&&decide (ibits BinOp.and IntKind.i64 (i64.wrap (i+j)) (7:Int)<(↑(8:Nat):Int)))) fun y=>
  bnd (inR (out.length) (ibits BinOp.and IntKind.i64 (i64.wrap (i+j)) (7:Int))) fun y1=>
  bnd (idx out (ibits BinOp.and IntKind.i64 (i64.wrap (i+j)) (7:Int))) fun y2=>
  bnd (whole_Int_Add y2 (z0,z1)) fun y3=>
  bnd (okIf (decide ((0:Ty.den (Ty.int IntKind.i64))≤ibits BinOp.and IntKind.i64 (i64.wrap (i+j)) (7:Int))&&decide (ibits BinOp.and IntKind.i64 (i64.wrap (i+j)) (7:Int)<(↑(8:Nat):Int)))) fun y4=>
  bnd (inR (out.length) (ibits BinOp.and IntKind.i64 (i64.wrap (i+j)) (7:Int))) fun y5=>
  bnd (idx out (ibits BinOp.and IntKind.i64 (i64.wrap (i+j)) (7:Int))) fun y6=>
  Z (List.set out (Int.toNat (ibits BinOp.and IntKind.i64 (i64.wrap (i+j)) (7:Int))) y3)
def jt.c12r:RC:=⟨jt.cp_s,[(jt.cp_s,0,[11,201])],no,[4,5,11,16,17],@jt.c12,fun _ _ _ _ _ _ _=>ja fun _=>(ja fun _=>(ja fun _=>(ja fun _=>(ja fun _=>(ja fun _=>(ja fun _=>jb))))))⟩
def jt.cg_ (i:Int)(t21:List (Bool×(List Int)))(t22:Int)(out:List (Bool×(List Int)))(x0:Bool)(x1:List (Int))(Z:((Int)×(List (Bool×(List Int))))⊕((Int)×(List (Bool×(List Int))))→Option ρ):Option ρ:=
  br (decide (t22<8))
   (bnd (idx t21 t22) fun y=>
    bnd (whole_Int_Mul (x0,x1) (y.1,y.2)) fun y1=>
    bnd (jt.cp_ i t22 y1.1 y1.2 some) fun y2=>
    bnd (jt.c12 i t22 out y2.1 y2.2 some) fun y3=>
    Z (.inl ((i64.wrap (t22+1)),y3)))
   (Z (.inr (t22,out)))
def jt.cg_s:Shape:=(((((jt.cp_s.d 8).d 9).d 10).g 9).g 10)
def jt.cg_r:LC:=⟨jt.cg_s,[(jt.cg_s,4,[8,201,1,201])],no,[8,10],[4,7,8,10,11,12],@jt.cg_,fun _ _ _ _ _ _ _ _=>jf (ja fun _=>(ja fun _=>(ja fun _=>(ja fun _=>jb)))) jb⟩
def jt.cI_ (b_1:YN)(t12:List (Bool×(List Int)))(t13:Int)(out:List (Bool×(List Int)))(Z:List (Bool×(List Int))→Option ρ):Option ρ:=
  bnd (idx t12 t13) fun y=>
  bnd (whole_Int_Sign (y.1,y.2)) fun y1=>
  br (y1==0)
   (Z out)
   (bnd (iter (fun s↦jt.cg_ t13 b_1.1 s.1 s.2 y.1 y.2 some) ((0:Int),out)) fun y2=>
    Z y2.2)
def jt.cI_s:Shape:=(((((jt.cg_s.d 6).d 7).d 21).d 22).g 7)
def jt.cI_r:RC:=⟨jt.cI_s,[(jt.cI_s,0,[7,201])],no,[3,4,5,7],@jt.cI_,fun _ _ _ _ _ _=>ja fun _=>(ja fun _=>(jf jb (ja fun _=>jb)))⟩
def jt.ca_ (b_1:YN)(t12:List (Bool×(List Int)))(t13:Int)(out:List (Bool×(List Int)))(Z:((Int)×(List (Bool×(List Int))))⊕((Int)×(List (Bool×(List Int))))→Option ρ):Option ρ:=
  br (decide (t13<8))
   (bnd (jt.cI_ b_1 t12 t13 out some) fun y=>
    Z (.inl ((i64.wrap (t13+1)),y)))
   (Z (.inr (t13,out)))
def jt.ca_r:LC:=⟨jt.cI_s,[(jt.cI_s,2,[5,201,1,201])],no,[5,7],[3,4,5,7],@jt.ca_,fun _ _ _ _ _ _=>jf (ja fun _=>jb) jb⟩
def jt (a:YN) (b:YN):Option YN:=
  bnd (iter (fun s↦jt.ca_ b a.1 s.1 s.2 some) ((0:Int),List.replicate (8:Nat) (false,[]))) fun y=>
  bnd (okIf (decide (List.length y.2=8))) fun y1=>
  bnd (jC y.2 (i64.wrap (a.2+b.2))) fun y2=>
  some y2
def jt.ce:=ceOf tab Tryz.f82 jt
def jt.G:EB Tryz.prog:=⟨tb,Tryz.f82,[⟨60,whole_Int_Sign.ce,whole_Int_Sign.ok⟩,⟨115,whole_Int_Mul.ce,whole_Int_Mul.ok⟩,⟨116,whole_Int_Neg.ce,whole_Int_Neg.ok⟩,⟨92,whole_Int_Add.ce,whole_Int_Add.ok⟩,⟨90,jC.ce,jC.ok⟩],[0,1,2,3,4,5,6,7,8,9,10,12,13,14,19,21,22,23,32],[4,5,8000002,8000003],[(12,[(13,[5])])],[(100003,jt.ca_r.ck),(216417,jt.cI_r.ck),(100007,jt.cg_r.ck),(12,jt.c12r.ck),(240965,jt.cp_r.ck)],[],[]⟩
theorem jt.ok:CalleeOk Tryz.prog 82 jt.ce:=fnB jt.G Tryz.func82 (m:=5) ⟨⟨⟨⟨⟨trivial,kL jt.ca_r (by kernel_rfl)⟩,kJ jt.cI_r (by kernel_rfl)⟩,kL jt.cg_r (by kernel_rfl)⟩,kJ jt.cp_r (by kernel_rfl)⟩,kR jt.c12r (by kernel_rfl)⟩ (by kernel_rfl)
def Jx.c1 (a_1:YN)(t2:List YN)(Z:List YN→Option ρ):Option ρ:=
  bnd (Jr a_1) fun y=>
  bnd (jt a_1 y) fun y1=>
  bnd (idx t2 (0:Int)) fun y2=>
  Z (List.set t2 (0:Nat) y1)
def Jx.c1s:Shape:=⟨[(0,sa23),(1,sa24),(2,sa54)],[(2,sa28)]⟩
def Jx.c1r:RC:=⟨Jx.c1s,[(Jx.c1s,0,[2,201])],no,[1,2],@Jx.c1,fun _ _ _ _=>ja fun _=>(ja fun _=>(ja fun _=>jb))⟩
def Jx (a:YN):Option YN:=
  bnd (Jx.c1 a [(List.replicate (8:Nat) (false,[]),(0:Int))] some) fun y=>
  bnd (idx y (0:Int)) fun y1=>
  some y1
def Jx.ce:=ceOf tab Tryz.f67 Jx
def Jx.G:EB Tryz.prog:=⟨tb,Tryz.f67,[⟨83,Jr.ce,Jr.ok⟩,⟨82,jt.ce,jt.ok⟩],[0,1,2],[2,8000001],[(1,[(4,[2])])],[(1,Jx.c1r.ck)],[],[]⟩
theorem Jx.ok:CalleeOk Tryz.prog 67 Jx.ce:=fnB Jx.G Tryz.func67 (m:=1) ⟨trivial,kR Jx.c1r (by kernel_rfl)⟩ (by kernel_rfl)
def jm.pre:Shape:=⟨[(0,sa40)],[(2000000,sa28)]⟩
def jm.post:Shape:=⟨[(0,sa23)],[(2000000,sa28)]⟩
def jm.c6 (sum:List YN)(a:List YN)(Z:List YN→Option ρ):Option ρ:=
  bnd (idx sum (0:Int)) fun y=>
  bnd (idx a (0:Int)) fun y1=>
  bnd (Jx y1) fun y2=>
  bnd (jz y y2) fun y3=>
  bnd (idx sum (0:Int)) fun y4=>
  Z (List.set sum (0:Nat) y3)
def jm.c6s:Shape:=(((((((((jm.pre.s 2 sa54).s 3 sa55).s 5 sa15).s 6 sa40).s 7 sa2).s 8 sa2).o 2 sa28).o 3 sa28).o 5 sa28)
def jm.c6r:RC:=⟨jm.c6s,[(jm.c6s,0,[7,201])],no,[7,8],@jm.c6,fun _ _ _ _=>ja fun _=>(ja fun _=>(ja fun _=>(ja fun _=>(ja fun _=>jb))))⟩
def jm.cj_ (t6lo:Int)(t6n:Int)(t8:Int)(sum:List YN)(ua:List YN)(Z:List YN→Option ρ):Option ρ:=
  bnd (okIf (decide ((0:Ty.den (Ty.int IntKind.i64))≤t8)&&decide (t8<t6n))) fun y=>
  bnd (idx ua (t6lo+t8)) fun y1=>
  bnd (jT y1) fun y2=>
  br (!y2)
   (bnd (jm.c6 sum [y1] some) fun y3=>
    Z y3)
   (Z sum)
def jm.cj_s:Shape:=((jm.c6s.d 5).g 5)
def jm.cj_r:RC:=⟨jm.cj_s,[(jm.cj_s,0,[7,201])],no,[2,3,5,7,8],@jm.cj_,fun _ _ _ _ _ _ _=>ja fun _=>(ja fun _=>(ja fun _=>(jf (ja fun _=>jb) jb)))⟩
def jm.ca_ (t6lo:Int)(t6n:Int)(t7:Int)(t8:Int)(sum:List YN)(ua:List YN)(Z:((Int)×(List YN))⊕((Int)×(List YN))→Option ρ):Option ρ:=
  br (decide (t8<t7))
   (bnd (jm.cj_ t6lo t6n t8 sum ua some) fun y=>
    Z (.inl ((i64.wrap (t8+1)),y)))
   (Z (.inr (t8,sum)))
def jm.ca_r:LC:=⟨jm.cj_s,[(jm.cj_s,2,[5,201,1,201])],no,[5,7],[2,3,4,5,7,8],@jm.ca_,fun _ _ _ _ _ _ _ _=>jf (ja fun _=>jb) jb⟩
def jm (vlo:Int) (vn:Int) (ua:List YN):Option (YN×(List YN)×Unit):=
  bnd (iter (fun s↦jm.ca_ vlo vn (↑(List.length (part vlo vn ua)):Int) s.1 s.2 ua some) ((0:Int),[(List.replicate (8:Nat) (false,[]),(0:Int))])) fun y=>
  bnd (idx y.2 (0:Int)) fun y1=>
  some (y1,ua,())
def jm.mc:MCallee:=⟨33,jm.pre,jm.post,fun X=>jm X.1 X.2.1 X.2.2.1⟩
def jm.G:EB Tryz.prog:=⟨tb,Tryz.f33,[⟨66,jT.ce,jT.ok⟩,⟨67,Jx.ce,Jx.ok⟩,⟨59,jz.ce,jz.ok⟩],[0,2,3,5,6,7,8,9,14],[2,3,5,2000000],[(6,[(4,[3])])],[(100003,jm.ca_r.ck),(216392,jm.cj_r.ck),(6,jm.c6r.ck)],[],[]⟩
theorem jm.ok:MOk Tryz.prog 33 jm.mc:=fnM jm.G (mc:=jm.mc) Tryz.func33 (m:=3) ⟨⟨⟨trivial,kL jm.ca_r (by kernel_rfl)⟩,kJ jm.cj_r (by kernel_rfl)⟩,kR jm.c6r (by kernel_rfl)⟩ (by kernel_rfl)
def kj.c5 (a_1:YN)(i:Int)(out:List YN)(Z:List YN→Option ρ):Option ρ:=
  bnd (idx out (0:Int)) fun y=>
  bnd (idx a_1.1 i) fun y1=>
  bnd (Ur y1) fun y2=>
  bnd (Jt (y2.1,a_1.2) (i64.wrap ((0:Int)-i))) fun y3=>
  bnd (JO y y3) fun y4=>
  bnd (idx out (0:Int)) fun y5=>
  Z (List.set out (0:Nat) y4)
def kj.c5s:Shape:=⟨[(0,sa73),(1,sa74),(2,sa54),(3,sa55),(4,sa2)],[(2,sa77),(3,sa77)]⟩
def kj.c5r:RC:=⟨kj.c5s,[(kj.c5s,0,[4,201])],no,[1,2,4],@kj.c5,fun _ _ _ _ _=>ja fun _=>(ja fun _=>(ja fun _=>(ja fun _=>(ja fun _=>(ja fun _=>jb)))))⟩
def kj.ca_ (a_1:YN)(i:Int)(out:List YN)(Z:((Int)×(List YN))⊕((Int)×(List YN))→Option ρ):Option ρ:=
  br (decide (i<8))
   (bnd (kj.c5 a_1 i out some) fun y=>
    Z (.inl ((i64.wrap (i+1)),y)))
   (Z (.inr (i,out)))
def kj.ca_r:LC:=⟨kj.c5s,[(kj.c5s,2,[2,201,1,201])],no,[2,4],[1,2,4],@kj.ca_,fun _ _ _ _ _=>jf (ja fun _=>jb) jb⟩
def kj (a:YN):Option YN:=
  bnd (iter (fun s↦kj.ca_ a s.1 s.2 some) ((0:Int),[(List.replicate (8:Nat) (false,[]),(0:Int))])) fun y=>
  bnd (Jp a) fun y1=>
  br y1
   (some (List.replicate (8:Nat) (false,[]),(0:Int)))
   (bnd (idx y.2 (0:Int)) fun y2=>
    bnd (Ja y2) fun y3=>
    some y3)
def kj.ce:=ceOf tab Tryz.f57 kj
def kj.G:EB Tryz.prog:=⟨tb,Tryz.f57,[⟨69,Ur.ce,Ur.ok⟩,⟨71,Jt.ce,Jt.ok⟩,⟨43,JO.ce,JO.ok⟩,⟨42,Jp.ce,Jp.ok⟩,⟨77,Ja.ce,Ja.ok⟩],[0,1,2,3,4,7,25],[2,3,5,26,8000001],[(5,[(14,[3])])],[(100003,kj.ca_r.ck),(5,kj.c5r.ck)],[],[]⟩
theorem kj.ok:CalleeOk Tryz.prog 57 kj.ce:=fnB kj.G Tryz.func57 (m:=2) ⟨⟨trivial,kL kj.ca_r (by kernel_rfl)⟩,kR kj.c5r (by kernel_rfl)⟩ (by kernel_rfl)
def Ys.c1 (a0:Bool)(a1:List (Int))(b0:Bool)(b1:List (Int))(Z:Bool×(List Int)→Option ρ):Option ρ:=
  bnd (Vc (b0,b1)) fun y=>
  bnd (JI (a0,a1) y) fun y1=>
  Z (y1.1,y1.2)
def Ys.c1s:Shape:=⟨[(0,sa75),(1,sa75),(2,sa6),(3,sa7),(4,sa20)],[(2,sa72),(3,sa72),(4,sa72)]⟩
def Ys.c1r:RC:=⟨Ys.c1s,[(Ys.c1s,0,[6,202])],no,[2,3,4,5],@Ys.c1,fun _ _ _ _ _ _=>ja fun _=>(ja fun _=>jb)⟩
def Ys (a:Bool×(List Int)) (b:Bool×(List Int)):Option (Bool×(List Int)):=
  bnd (Ys.c1 a.1 a.2 b.1 b.2 some) fun y=>
  some (y.1,y.2)
def Ys.ce:=ceOf tab Tryz.f85 Ys
def Ys.G:EB Tryz.prog:=⟨tb,Tryz.f85,[⟨102,Vc.ce,Vc.ok⟩,⟨76,JI.ce,JI.ok⟩],[0,1,2,3,4],[],[(1,[(4,[4])])],[(1,Ys.c1r.ck)],[],[]⟩
theorem Ys.ok:CalleeOk Tryz.prog 85 Ys.ce:=fnB Ys.G Tryz.func85 (m:=1) ⟨trivial,kR Ys.c1r (by kernel_rfl)⟩ (by kernel_rfl)
def jM.c1 (a_1:YN)(b_1:YN)(Z:Bool→Option ρ):Option ρ:=
  bnd (Jp a_1) fun y=>
  br y
   (Z true)
   (bnd (Jp b_1) fun y1=>
    Z y1)
def jM.c1s:Shape:=⟨[(0,sa73),(1,sa73),(2,sa74),(3,sa74),(4,sa25)],[(4,sa77)]⟩
def jM.c1x0:Shape:=(jM.c1s.s 14 sa11)
def jM.c1r:RC:=⟨jM.c1s,[(jM.c1x0,0,[4,101])],no,[2,3],@jM.c1,fun _ _ _ _=>ja fun _=>(jf jb (ja fun _=>jb))⟩
def jM.c11 (a_1:YN)(b_1:YN)(i:Int)(j:Int)(Z:Bool→Option ρ):Option ρ:=
  bnd (idx a_1.1 i) fun y=>
  br (decide ((↑(List.length y.2):Int)>0))
   (bnd (idx b_1.1 j) fun y1=>
    Z (decide ((↑(List.length y1.2):Int)>0)))
   (Z false)
def jM.c11s:Shape:=((((jM.c1s.s 5 sa15).s 6 sa2).s 7 sa2).o 5 sa77)
def jM.c11x0:Shape:=(jM.c11s.s 46 sa11)
def jM.c11r:RC:=⟨jM.c11s,[(jM.c11x0,0,[6,101])],no,[2,3,4,5],@jM.c11,fun _ _ _ _ _ _=>ja fun _=>(jf (ja fun _=>jb) jb)⟩
def jM.c12 (a_1:YN)(b_1:YN)(i:Int)(j:Int)(Z:Bool×(List Int)→Option ρ):Option ρ:=
  bnd (idx a_1.1 i) fun y=>
  bnd (idx b_1.1 j) fun y1=>
  bnd (Jd y y1) fun y2=>
  Z (y2.1,y2.2)
def jM.c12x0:Shape:=((jM.c11s.s 8 sa51).o 8 sa72)
def jM.c12r:RC:=⟨jM.c11s,[(jM.c12x0,0,[8,102])],no,[2,3,4,5],@jM.c12,fun _ _ _ _ _ _=>ja fun _=>(ja fun _=>(ja fun _=>jb))⟩
def jM.c14 (i:Int)(j:Int)(out:List YN)(c0:Bool)(c1:List (Int))(Z:List YN→Option ρ):Option ρ:=
  bnd (inR (out.length) (0:Int)) fun y=>
  bnd (okIf (decide ((0:Ty.den (Ty.int IntKind.i64))≤i64.wrap (i+j))&&decide (i64.wrap (i+j)<(↑(8:Nat):Int)))) fun y1=>
  bnd (idx out (0:Int)) fun y2=>
  bnd (idx y2.1 (i64.wrap (i+j))) fun y3=>
  bnd (JI y3 (c0,c1)) fun y4=>
  bnd (inR (out.length) (0:Int)) fun y5=>
  bnd (okIf (decide ((0:Ty.den (Ty.int IntKind.i64))≤i64.wrap (i+j))&&decide (i64.wrap (i+j)<(↑(8:Nat):Int)))) fun y6=>
  bnd (idx out (0:Int)) fun y7=>
  bnd (idx y7.1 (i64.wrap (i+j))) fun y8=>
  Z (List.set out (0:Nat) (List.set y7.1 (Int.toNat (i64.wrap (i+j))) y4,y7.2))
def jM.c14r:RC:=⟨jM.c12x0,[(jM.c12x0,0,[7,201])],no,[4,5,7,8,9],@jM.c14,fun _ _ _ _ _ _ _=>ja fun _=>(ja fun _=>(ja fun _=>(ja fun _=>(ja fun _=>(ja fun _=>(ja fun _=>(ja fun _=>(ja fun _=>jb))))))))⟩
def jM.c15 (i:Int)(j:Int)(out:List YN)(c0:Bool)(c1:List (Int))(Z:List YN→Option ρ):Option ρ:=
  bnd (inR (out.length) (0:Int)) fun y=>
  bnd (okIf (decide ((0:Ty.den (Ty.int IntKind.i64))≤i64.wrap (i64.wrap (i+j)-8))&&decide (i64.wrap (i64.wrap (i+j)-8)<(↑(8:Nat):Int)))) fun y1=>
  bnd (idx out (0:Int)) fun y2=>
  bnd (idx y2.1 (i64.wrap (i64.wrap (i+j)-8))) fun y3=>
  bnd (Ys y3 (c0,c1)) fun y4=>
  bnd (inR (out.length) (0:Int)) fun y5=>
  bnd (okIf (decide ((0:Ty.den (Ty.int IntKind.i64))≤i64.wrap (i64.wrap (i+j)-8))&&decide (i64.wrap (i64.wrap (i+j)-8)<(↑(8:Nat):Int)))) fun y6=>
  bnd (idx out (0:Int)) fun y7=>
  bnd (idx y7.1 (i64.wrap (i64.wrap (i+j)-8))) fun y8=>
  Z (List.set out (0:Nat) (List.set y7.1 (Int.toNat (i64.wrap (i64.wrap (i+j)-8))) y4,y7.2))
def jM.c15r:RC:=⟨jM.c12x0,[(jM.c12x0,0,[7,201])],no,[4,5,7,8,9],@jM.c15,fun _ _ _ _ _ _ _=>ja fun _=>(ja fun _=>(ja fun _=>(ja fun _=>(ja fun _=>(ja fun _=>(ja fun _=>(ja fun _=>(ja fun _=>jb))))))))⟩
def jM.cV_ (a_1:YN)(b_1:YN)(i:Int)(j:Int)(out:List YN)(Z:List YN→Option ρ):Option ρ:=
  bnd (jM.c11 a_1 b_1 i j some) fun y=>
  br y
   (bnd (jM.c12 a_1 b_1 i j some) fun y1=>
    br (decide (i64.wrap (i+j)<8))
     (bnd (jM.c14 i j out y1.1 y1.2 some) fun y2=>
      Z y2)
     (bnd (jM.c15 i j out y1.1 y1.2 some) fun y3=>
      Z y3))
   (Z out)
def jM.cV_r:RC:=⟨jM.c11s,[(jM.c11s,0,[7,201])],no,[2,3,4,5,7],@jM.cV_,fun _ _ _ _ _ _ _=>ja fun _=>(jf (ja fun _=>(jf (ja fun _=>jb) (ja fun _=>jb))) jb)⟩
def jM.cq_ (a_1:YN)(b_1:YN)(i:Int)(j:Int)(out:List YN)(Z:((Int)×(List YN))⊕((Int)×(List YN))→Option ρ):Option ρ:=
  br (decide (j<8))
   (bnd (jM.cV_ a_1 b_1 i j out some) fun y=>
    Z (.inl ((i64.wrap (j+1)),y)))
   (Z (.inr (j,out)))
def jM.cq_r:LC:=⟨jM.c11s,[(jM.c11s,4,[5,201,1,201])],no,[5,7],[2,3,4,5,7],@jM.cq_,fun _ _ _ _ _ _ _=>jf (ja fun _=>jb) jb⟩
def jM.ch_ (a_1:YN)(b_1:YN)(i:Int)(out:List YN)(Z:((Int)×(List YN))⊕((Int)×(List YN))→Option ρ):Option ρ:=
  br (decide (i<8))
   (bnd (iter (fun s↦jM.cq_ a_1 b_1 i s.1 s.2 some) ((0:Int),out)) fun y=>
    Z (.inl ((i64.wrap (i+1)),y.2)))
   (Z (.inr (i,out)))
def jM.ch_s:Shape:=(jM.c11s.d 7)
def jM.ch_r:LC:=⟨jM.ch_s,[(jM.ch_s,2,[4,201,1,201])],no,[4,6],[2,3,4,6],@jM.ch_,fun _ _ _ _ _ _=>jf (ja fun _=>jb) jb⟩
def jM (a:YN) (b:YN):Option YN:=
  bnd (jM.c1 a b some) fun y=>
  br y
   (some (List.replicate (8:Nat) (false,[]),(0:Int)))
   (bnd (iter (fun s↦jM.ch_ a b s.1 s.2 some) ((0:Int),[(List.replicate (8:Nat) (false,[]),i64.wrap (a.2+b.2))])) fun y1=>
    bnd (idx y1.2 (0:Int)) fun y2=>
    bnd (Ja y2) fun y3=>
    some y3)
def jM.ce:=ceOf tab Tryz.f56 jM
def jM.G:EB Tryz.prog:=⟨tb,Tryz.f56,[⟨42,Jp.ce,Jp.ok⟩,⟨84,Jd.ce,Jd.ok⟩,⟨76,JI.ce,JI.ok⟩,⟨85,Ys.ce,Ys.ok⟩,⟨77,Ja.ce,Ja.ok⟩],[0,1,2,3,4,5,6,7,8,14,24,28,46,59],[4,5,15,16,8000002,8000003],[(15,[(15,[5])]),(14,[(13,[5])]),(12,[(9,[8]),(10,[8])])],[(100006,jM.ch_r.ck),(100009,jM.cq_r.ck),(245068,jM.cV_r.ck),(15,jM.c15r.ck),(14,jM.c14r.ck),(12,jM.c12r.ck),(11,jM.c11r.ck),(1,jM.c1r.ck)],[],[]⟩
theorem jM.ok:CalleeOk Tryz.prog 56 jM.ce:=fnB jM.G Tryz.func56 (m:=8) ⟨⟨⟨⟨⟨⟨⟨⟨trivial,kR jM.c1r (by kernel_rfl)⟩,kL jM.ch_r (by kernel_rfl)⟩,kL jM.cq_r (by kernel_rfl)⟩,kJ jM.cV_r (by kernel_rfl)⟩,kR jM.c11r (by kernel_rfl)⟩,kR jM.c12r (by kernel_rfl)⟩,kR jM.c14r (by kernel_rfl)⟩,kR jM.c15r (by kernel_rfl)⟩ (by kernel_rfl)
def kZ.c1 (a_1:YN)(t2:List YN)(Z:List YN→Option ρ):Option ρ:=
  bnd (kj a_1) fun y=>
  bnd (jM a_1 y) fun y1=>
  bnd (idx t2 (0:Int)) fun y2=>
  Z (List.set t2 (0:Nat) y1)
def kZ.c1s:Shape:=⟨[(0,sa73),(1,sa74),(2,sa54)],[(2,sa77)]⟩
def kZ.c1r:RC:=⟨kZ.c1s,[(kZ.c1s,0,[2,201])],no,[1,2],@kZ.c1,fun _ _ _ _=>ja fun _=>(ja fun _=>(ja fun _=>jb))⟩
def kZ (a:YN):Option YN:=
  bnd (kZ.c1 a [(List.replicate (8:Nat) (false,[]),(0:Int))] some) fun y=>
  bnd (idx y (0:Int)) fun y1=>
  some y1
def kZ.ce:=ceOf tab Tryz.f44 kZ
def kZ.G:EB Tryz.prog:=⟨tb,Tryz.f44,[⟨57,kj.ce,kj.ok⟩,⟨56,jM.ce,jM.ok⟩],[0,1,2],[2,8000001],[(1,[(4,[2])])],[(1,kZ.c1r.ck)],[],[]⟩
theorem kZ.ok:CalleeOk Tryz.prog 44 kZ.ce:=fnB kZ.G Tryz.func44 (m:=1) ⟨trivial,kR kZ.c1r (by kernel_rfl)⟩ (by kernel_rfl)
def JV.c6 (v:List YN)(x:Int)(sum:List YN)(Z:List YN→Option ρ):Option ρ:=
  bnd (idx sum (0:Int)) fun y=>
  bnd (idx v x) fun y1=>
  bnd (kZ y1) fun y2=>
  bnd (JO y y2) fun y3=>
  bnd (idx sum (0:Int)) fun y4=>
  Z (List.set sum (0:Nat) y3)
def JV.c6s:Shape:=⟨[(0,sa81),(2,sa54),(3,sa55),(4,sa2)],[(2,sa77),(3,sa77)]⟩
def JV.c6r:RC:=⟨JV.c6s,[(JV.c6s,0,[3,201])],no,[0,1,3],@JV.c6,fun _ _ _ _ _=>ja fun _=>(ja fun _=>(ja fun _=>(ja fun _=>(ja fun _=>jb))))⟩
def JV.cn_ (v:List YN)(x:Int)(sum:List YN)(Z:List YN→Option ρ):Option ρ:=
  bnd (idx v x) fun y=>
  bnd (Jp y) fun y1=>
  br (!y1)
   (bnd (JV.c6 v x sum some) fun y2=>
    Z y2)
   (Z sum)
def JV.cn_r:RC:=⟨JV.c6s,[(JV.c6s,0,[3,201])],no,[0,1,3],@JV.cn_,fun _ _ _ _ _=>ja fun _=>(ja fun _=>(jf (ja fun _=>jb) jb))⟩
def JV.ca_ (v:List YN)(x:Int)(sum:List YN)(Z:((Int)×(List YN))⊕((Int)×(List YN))→Option ρ):Option ρ:=
  br (decide (x<(v.length:Int)))
   (bnd (JV.cn_ v x sum some) fun y=>
    Z (.inl ((i64.wrap (x+1)),y)))
   (Z (.inr (x,sum)))
def JV.ca_r:LC:=⟨JV.c6s,[(JV.c6s,2,[1,201,1,201])],no,[1,3],[0,1,3],@JV.ca_,fun _ _ _ _ _=>jf (ja fun _=>jb) jb⟩
def JV (v:List YN):Option YN:=
  bnd (iter (fun s↦JV.ca_ v s.1 s.2 some) ((0:Int),[(List.replicate (8:Nat) (false,[]),(0:Int))])) fun y=>
  bnd (idx y.2 (0:Int)) fun y1=>
  some y1
def JV.ce:=ceOf tab Tryz.f17 JV
def JV.G:EB Tryz.prog:=⟨tb,Tryz.f17,[⟨42,Jp.ce,Jp.ok⟩,⟨44,kZ.ce,kZ.ok⟩,⟨43,JO.ce,JO.ok⟩],[0,2,3,4,9,17],[2,3,5],[(6,[(7,[3])])],[(100003,JV.ca_r.ck),(220486,JV.cn_r.ck),(6,JV.c6r.ck)],[],[]⟩
theorem JV.ok:CalleeOk Tryz.prog 17 JV.ce:=fnB JV.G Tryz.func17 (m:=3) ⟨⟨⟨trivial,kL JV.ca_r (by kernel_rfl)⟩,kJ JV.cn_r (by kernel_rfl)⟩,kR JV.c6r (by kernel_rfl)⟩ (by kernel_rfl)
end
end W
end

section
set_option maxHeartbeats 4000000
set_option maxRecDepth 100000
namespace W
open Go Go.Ql Go.Proofs Go.IntKind
noncomputable section
variable {ρ:Type}
abbrev sd0:SD:=.one (.val (.st (.pair (.int .i64) (.pair (.int .i64) (.sl (.st (.pair (.int .i64) (.pair (.int .i64) (.pair (.sl (.int .i64)) (.pair (.int .i64) (.pair (.int .i64) (.sl (.int .i64)))))))))))))
abbrev sd1:SD:=.one (.val (.int .i64))
abbrev sd2:SD:=.one (.val (.sl (.int .i64)))
abbrev sd3:SD:=.one (.ref 0 0)
abbrev sd4:SD:=.one (.val (.st (.pair (.int .i64) (.int .i64))))
abbrev sd5:SO:=.box [.val (.int .i64),.val (.int .i64),.val (.sl (.st (.pair (.int .i64) (.pair (.int .i64) (.pair (.sl (.int .i64)) (.pair (.int .i64) (.pair (.int .i64) (.sl (.int .i64))))))))),.own 1 0,.own 2 0,.val (.int .i64),.val (.int .i64)]
abbrev sd6:SO:=.arr 0 false 71 (.st (.pair (.ar 8 (.st (.pair .bool (.sl (.int .u32))))) (.int .i64)))
abbrev sd7:SO:=.arr 0 false 3 (.int .i64)
abbrev sd8:SD:=.one (.val (.nilv 0))
abbrev sd9:SD:=.one (.ref 3 0)
abbrev sd10:SD:=.one (.ref 7 0)
abbrev sd11:SD:=.one (.ref 14 0)
abbrev sd12:SD:=.one (.ref 9 0)
abbrev sd13:SO:=.box [.val (.int .i64),.val (.int .i64),.val (.sl (.st (.pair (.int .i64) (.pair (.int .i64) (.pair (.sl (.int .i64)) (.pair (.int .i64) (.pair (.int .i64) (.sl (.int .i64)))))))))]
abbrev sd14:SO:=.box [.val (.int .i64),.val (.int .i64)]
abbrev sd15:SO:=.box [.val (.int .i64),.val (.int .i64),.val (.sl (.st (.pair (.int .i64) (.pair (.int .i64) (.pair (.sl (.int .i64)) (.pair (.int .i64) (.pair (.int .i64) (.sl (.int .i64))))))))),.own 1014 0,.own 2014 0,.val (.int .i64),.val (.int .i64)]
abbrev sd16:SD:=.one (.val .bool)
def jk.pre:Shape:=⟨[(0,sd0),(1,sd1),(2,sd2)],[]⟩
def jk.post:Shape:=⟨[(0,sd3),(1,sd4)],[(0,sd5),(1,sd6),(2,sd7)]⟩
def jk.post2:Shape:=⟨[(0,sd8),(1,sd4)],[]⟩
def jk.c3  (Z:Unit→Option ρ):Option ρ:=
  Z ()
def jk.c3s:Shape:=⟨[(0,sd0),(1,sd1),(2,sd2),(3,sd9),(6,sd8),(7,sd10),(8,sd11),(9,sd12)],[(3,sd13),(7,sd14),(9,sd14),(14,sd15),(1014,sd6),(2014,sd7)]⟩
def jk.c3r:Ck:=Ck.of (T:=Unit) jk.c3s (fun ρ X Z=>jk.c3  Z) (fun ρ X V Z=>Z 0 (Shape.inj jk.c3s (X.1,X.2.1,X.2.2.1,(),(q4 X).1,(q4 X).2.1,(q4 X).2.2.1,(q8 X).2.1,(q8 X).2.2.1,(q8 X).2)))
def jk.c8 (b:Int)(Z:Bool→Option ρ):Option ρ:=
  br (b !=0)
   (Z (b !=1))
   (Z false)
def jk.c8s:Shape:=⟨[(0,sd0),(1,sd1),(2,sd2),(3,sd9),(6,sd8),(7,sd10),(8,sd11),(9,sd12),(10,sd1)],[(3,sd13),(7,sd14),(9,sd14),(14,sd15),(1014,sd6),(2014,sd7)]⟩
def jk.c8x0:Shape:=⟨[(0,sd0),(1,sd1),(2,sd2),(3,sd9),(6,sd8),(7,sd10),(8,sd11),(9,sd12),(10,sd1),(47,sd16)],[(3,sd13),(7,sd14),(9,sd14),(14,sd15),(1014,sd6),(2014,sd7)]⟩
def jk.c8r:Ck:=Ck.of (T:=Bool) jk.c8s (fun ρ X Z=>jk.c8 (q4 X).1 Z) (fun ρ X V Z=>Z 0 (Shape.inj jk.c8x0 (X.1,X.2.1,X.2.2.1,X.2.2.2.1,(q4 X).1,V,(q4 X).2)))
def jk.cc_ (tape:List (Int))(t140:Int)(t141:Int)(t142:List YO)(t145:Int)(t146:Int)(ua:List YN)(ub:List (Int))(Z:((Int)×(Int)×(List YO)×(Int)×(Int)×(List YN)×(List Int))⊕(((Int)×(Int)×(Int)×(Int)×(List YO)×(Int)×(Int)×(List YN)×(List Int))⊕((Int)×(Int)×(List YO)×(Int)×(Int)×(List YN)×(List Int)))→Option ρ):Option ρ:=
  bnd (jh t140 t141 t142 t145 t146 ua ub) fun y=>
  br y.1
   (br (y.2.2.2.2.1==(tape.length:Int))
     (bnd (kc (19:Int) y.2.2.2.2.2.1) fun y1=>
      Z (.inr (.inl (y1.1,y1.2,y.2.1,y.2.2.1,y.2.2.2.1,y.2.2.2.2.1,y.2.2.2.2.2.1,y.2.2.2.2.2.2.1,y.2.2.2.2.2.2.2.1))))
     (bnd (idx tape y.2.2.2.2.1) fun y2=>
      bnd (jk.c8 y2 some) fun y3=>
      br y3
       (bnd (kc (20:Int) y.2.2.2.2.2.1) fun y4=>
        Z (.inr (.inl (y4.1,y4.2,y.2.1,y.2.2.1,y.2.2.2.1,y.2.2.2.2.1,y.2.2.2.2.2.1,y.2.2.2.2.2.2.1,y.2.2.2.2.2.2.2.1))))
       (bnd (jn y2 y.2.1 y.2.2.1 y.2.2.2.1 y.2.2.2.2.1 y.2.2.2.2.2.1 y.2.2.2.2.2.2.1 y.2.2.2.2.2.2.2.1) fun y5=>
        Z (.inl (y5.1,y5.2.1,y5.2.2.1,y5.2.2.2.1,y5.2.2.2.2.1,y5.2.2.2.2.2.1,y5.2.2.2.2.2.2.1)))))
   (Z (.inr (.inr (y.2.1,y.2.2.1,y.2.2.2.1,y.2.2.2.2.1,y.2.2.2.2.2.1,y.2.2.2.2.2.2.1,y.2.2.2.2.2.2.2.1))))
def jk.cc_r:Ck:=Ck.ofLoop (S:=(Int)×(Int)×(List YO)×(Int)×(Int)×(List YN)×(List Int)) (T:=((Int)×(Int)×(Int)×(Int)×(List YO)×(Int)×(Int)×(List YN)×(List Int))⊕((Int)×(Int)×(List YO)×(Int)×(Int)×(List YN)×(List Int))) jk.c3s (fun X=>((q8 X).2.2.2.1,(q4 (q8 X)).1,(q4 (q8 X)).2.1,(q4 (q8 X)).2.2.1,(q4 (q8 X)).2.2.2.1,(q8 (q8 X)).1,(q8 (q8 X)).2.1)) (fun ρ X Q Z=>jk.cc_ X.2.2.1 Q.1 Q.2.1 Q.2.2.1 Q.2.2.2.1 Q.2.2.2.2.1 Q.2.2.2.2.2.1 Q.2.2.2.2.2.2 Z) (fun ρ X V Z=>sel V (fun V=>Z 1 (Shape.inj jk.c3s (X.1,X.2.1,X.2.2.1,(),(q4 X).1,(q4 X).2.1,(q4 X).2.2.1,V.1,V.2.1,(q8 X).2.1,(q8 X).2.2.1,V.2.2.1,V.2.2.2.1,V.2.2.2.2.1,V.2.2.2.2.2.1,V.2.2.2.2.2.2.1,V.2.2.2.2.2.2.2.1,V.2.2.2.2.2.2.2.2,()))) (fun V=>Z 2 (Shape.inj jk.c3s (X.1,X.2.1,X.2.2.1,X.2.2.2.1,(q4 X).1,(q4 X).2.1,(q4 X).2.2.1,(q4 X).2.2.2.1,(q8 X).1,(q8 X).2.1,(q8 X).2.2.1,V.1,V.2.1,V.2.2.1,V.2.2.2.1,V.2.2.2.2.1,V.2.2.2.2.2.1,V.2.2.2.2.2.2,()))))
def jk.c3v1  (Z:Unit→Option ρ):Option ρ:=
  Z ()
def jk.c3v1s:Shape:=⟨[(0,sd0),(1,sd1),(2,sd2),(3,sd9),(6,sd8),(7,sd10),(8,sd8),(9,sd12)],[(3,sd13),(7,sd14),(9,sd14)]⟩
def jk.c3v1r:Ck:=Ck.of (T:=Unit) jk.c3v1s (fun ρ X Z=>jk.c3v1  Z) (fun ρ X V Z=>Z 0 (Shape.inj jk.c3v1s (X.1,X.2.1,X.2.2.1,(),(q4 X).1,(q4 X).2.1,(q4 X).2.2.1,(q4 X).2.2.2.1,(q8 X).2.2.1,(q8 X).2.2.2.1,(q8 X).2.2)))
def jk.c3v1o:Ck:=Ck.or jk.c3v1s jk.c3v1r jk.c3r
def jk.c100004v1  (Z:(Unit)⊕(Unit)→Option ρ):Option ρ:=
  none
def jk.c100004v1r:Ck:=Ck.ofLoop (S:=Unit) (T:=Unit) jk.c3v1s (fun X=>()) (fun ρ X Q Z=>jk.c100004v1  Z) (fun ρ X V Z=>none)
def jk.c100004v1o:Ck:=Ck.or jk.c3v1s jk.c100004v1r jk.cc_r
def jk (c:(Int)×((Int)×(List YO))) (t1:Int) (tape:List (Int)):Option ((((Int)×(Int))×(Int)×(Int)×(List YO)×(Int)×(Int)×(List YN)×(List Int)×Unit)⊕((Unit)×((Int)×(Int))×Unit)):=
  bnd (jw (c.1,c.2.1,c.2.2) t1) fun y=>
  sel y
   (fun u=>br (u.1.1 !=0)
     (bnd (jk.c3 some) fun y1=>
      some (Sum.inr ((),(u.1.1,u.1.2),())))
     (bnd (iter (fun s↦jk.cc_ tape s.1 s.2.1 s.2.2.1 s.2.2.2.1 s.2.2.2.2.1 s.2.2.2.2.2.1 s.2.2.2.2.2.2 some) (u.2.1,u.2.2.1,u.2.2.2.1,u.2.2.2.2.1,u.2.2.2.2.2.1,u.2.2.2.2.2.2.1,u.2.2.2.2.2.2.2.1)) fun y2=>
      sel y2
       (fun u_1=>some (Sum.inr ((),(u_1.1,u_1.2.1),())))
       (fun v_1=>some (Sum.inl (((0:Int),(0:Int)),v_1.1,v_1.2.1,v_1.2.2.1,v_1.2.2.2.1,v_1.2.2.2.2.1,v_1.2.2.2.2.2.1,v_1.2.2.2.2.2.2,())))))
   (fun v=>br (v.2.1.1 !=0)
     (bnd (jk.c3v1 some) fun y3=>
      some (Sum.inr ((),(v.2.1.1,v.2.1.2),())))
     (bnd (iter (fun s↦jk.c100004v1 some) PUnit.unit) fun y4=>
      none))
def jk.ma:MAlt:=⟨28,jk.pre,jk.post,false,jk.post2,fun X=>jk X.1 X.2.1 X.2.2.1⟩
def jk.G:Env:=⟨58,tab,[(48,kc.ce)],[0,1,2,3,6,7,8,9,10,19,22,29,47],[14,1014,2014],[(3,[⟨[],[],[6],[]⟩,⟨[],[],[20],[]⟩,⟨[0,1],[7],[],[]⟩])],[(100004,jk.c100004v1o),(3,jk.c3v1o),(8,jk.c8r)],[(64,jh.mc),(65,jn.mc)],VL,[(45,jw.ma)]⟩
theorem jk.p0:PcA jk.G Tryz.f28 0:=
  kr (s:=jk.c3v1o) (by kernel_rfl) (by kernel_rfl) (HU (kb (sh:=jk.c3v1s) (fun ρ X Z=>jb) (fun ρ X t k=>(by kernel_rfl)) (fun X=>by kernel_rfl)) (kb (sh:=jk.c3s) (fun ρ X Z=>jb) (fun ρ X t k=>(by kernel_rfl)) (fun X=>by kernel_rfl)))
theorem jk.p1:PcA jk.G Tryz.f28 1:=
  HP (s:=jk.c100004v1o) (by kernel_rfl) (by kernel_rfl) (loops_or (VD (sh:=jk.c3v1s) (I:=fun X Q=>X) (fun X=>rfl) (fun ρ X Q Z=>UX) (fun ρ X t k=>UX) (fun X s=>by kernel_rfl)) (VD (sh:=jk.c3s) (I:=fun X Q=>(X.1,X.2.1,X.2.2.1,X.2.2.2.1,(q4 X).1,(q4 X).2.1,(q4 X).2.2.1,(q4 X).2.2.2.1,(q8 X).1,(q8 X).2.1,(q8 X).2.2.1,Q.1,Q.2.1,Q.2.2.1,Q.2.2.2.1,Q.2.2.2.2.1,Q.2.2.2.2.2.1,Q.2.2.2.2.2.2,())) (fun X=>rfl) (fun ρ X Q Z=>(ja fun _=>(jf (jf (ja fun _=>jb) (ja fun _=>(ja fun _=>(jf (ja fun _=>jb) (ja fun _=>jb))))) jb))) (fun ρ X t k=>(Yp (fun _=>(by kernel_rfl)) (fun _=>(by kernel_rfl)))) (fun X s=>by kernel_rfl)))
theorem jk.p2:PcA jk.G Tryz.f28 2:=
  kr (s:=jk.c8r) (by kernel_rfl) (by kernel_rfl) (kb (sh:=jk.c8s) (fun ρ X Z=>(jf jb jb)) (fun ρ X t k=>(by kernel_rfl)) (fun X=>by kernel_rfl))
theorem jk.ok:AltOk Tryz.prog 28 jk.ma:=fna_ok (ma:=jk.ma) (G:=jk.G) VI mixed Tryz.func28 ⟨(Yk kc.ok Ud),(VU jh.ok (VU jn.ok VE)),YW,(Uw jw.ok VA)⟩ (m:=3) (by kernel_rfl) ⟨⟨⟨trivial,jk.p0⟩,jk.p1⟩,jk.p2⟩ (by kernel_rfl) (fun _=>by kernel_rfl)
abbrev sd17:SD:=.one (.ref 6 0)
abbrev sd18:SO:=.box [.val (.sl .str),.val (.sl (.int .i64)),.val (.int .i64)]
abbrev sd19:SO:=.box [.val (.sl .str),.own 2014 0,.val (.int .i64)]
def jv.c3  (Z:Unit→Option ρ):Option ρ:=
  Z ()
def jv.c3s:Shape:=⟨[(0,sd0),(1,sd1),(2,sd2),(3,sd9),(6,sd17),(7,sd10),(8,sd11),(9,sd12)],[(3,sd13),(6,sd18),(7,sd14),(9,sd14),(14,sd15),(1014,sd6),(2014,sd7)]⟩
def jv.c3r:Ck:=Ck.of (T:=Unit) jv.c3s (fun ρ X Z=>jv.c3  Z) (fun ρ X V Z=>Z 0 (Shape.inj jv.c3s (X.1,X.2.1,X.2.2.1,X.2.2.2.1,(q4 X).1,(q4 X).2.1,[],[],(0:Int),(q8 X).2.2.2.1,(q4 (q8 X)).1,(q8 X).2.2.2)))
def jv.c4 (ua:List YN)(Z:(List (List UInt8))×(List YN)→Option ρ):Option ρ:=
  bnd (jL (0:Int) (ua.length:Int) ua) fun y=>
  Z (y.1,y.2.1)
def jv.c4x0:Shape:=⟨[(0,sd0),(1,sd1),(2,sd2),(3,sd9),(6,sd17),(7,sd10),(8,sd11),(9,sd12)],[(3,sd13),(6,sd19),(7,sd14),(9,sd14),(14,sd15),(1014,sd6),(2014,sd7)]⟩
def jv.c4r:Ck:=Ck.of (T:=(List (List UInt8))×(List YN)) jv.c3s (fun ρ X Z=>jv.c4 (q8 (q8 X)).2.2.1 Z) (fun ρ X V Z=>Z 0 (Shape.inj jv.c4x0 (X.1,X.2.1,X.2.2.1,X.2.2.2.1,(q4 X).1,(q4 X).2.1,V.1,(q8 (q8 X)).1,(0:Int),(0:Int),(q8 X).2.2.2.1,(q4 (q8 X)).1,(q4 (q8 X)).2.1,(q4 (q8 X)).2.2.1,(q4 (q8 X)).2.2.2.1,(q8 (q8 X)).1,(q8 (q8 X)).2.1,V.2,(q8 (q8 X)).2.2.2)))
def jv.c3v1  (Z:Unit→Option ρ):Option ρ:=
  Z ()
def jv.c3v1s:Shape:=⟨[(0,sd0),(1,sd1),(2,sd2),(3,sd9),(6,sd17),(7,sd10),(8,sd8),(9,sd12)],[(3,sd13),(6,sd18),(7,sd14),(9,sd14)]⟩
def jv.c3v1r:Ck:=Ck.of (T:=Unit) jv.c3v1s (fun ρ X Z=>jv.c3v1  Z) (fun ρ X V Z=>Z 0 (Shape.inj jv.c3v1s (X.1,X.2.1,X.2.2.1,X.2.2.2.1,(q4 X).1,(q4 X).2.1,(q4 X).2.2.1,[],[],(0:Int),(q4 (q8 X)).1,(q4 (q8 X)).2.1,(q4 (q8 X)))))
def jv.c3v1o:Ck:=Ck.or jv.c3v1s jv.c3v1r jv.c3r
def jv.c4v1  (Z:Unit→Option ρ):Option ρ:=
  none
def jv.c4v1r:Ck:=Ck.of (T:=Unit) jv.c3v1s (fun ρ X Z=>jv.c4v1  Z) (fun ρ X V Z=>none)
def jv.c4v1o:Ck:=Ck.or jv.c3v1s jv.c4v1r jv.c4r
def jv (c:(Int)×((Int)×(List YO))) (t1:Int) (tape:List (Int)):Option (((List (List UInt8))×((List Int)×(Int)))×((Int)×(Int))):=
  bnd (jk (c.1,c.2.1,c.2.2) t1 tape) fun y=>
  sel y
   (fun u=>br (u.1.1 !=0)
     (bnd (jv.c3 some) fun y1=>
      some (([],[],(0:Int)),u.1.1,u.1.2))
     (bnd (jv.c4 u.2.2.2.2.2.2.1 some) fun y2=>
      some ((y2.1,u.2.2.2.2.2.2.2.1,u.2.2.2.2.1),(0:Int),(0:Int))))
   (fun v=>br (v.2.1.1 !=0)
     (bnd (jv.c3v1 some) fun y3=>
      some (([],[],(0:Int)),v.2.1.1,v.2.1.2))
     (bnd (jv.c4v1 some) fun y4=>
      none))
def jv.ce:Go.Ql.Callee:=⟨[(.st (.pair (.int .i64) (.pair (.int .i64) (.sl (.st (.pair (.int .i64) (.pair (.int .i64) (.pair (.sl (.int .i64)) (.pair (.int .i64) (.pair (.int .i64) (.sl (.int .i64)))))))))))),(.int .i64),(.sl (.int .i64))],[(.st (.pair (.sl .str) (.pair (.sl (.int .i64)) (.int .i64)))),(.st (.pair (.int .i64) (.int .i64)))],fun X=>jv X.1 X.2.1 X.2.2⟩
def jv.G:Env:=⟨37,tab,[],[0,1,2,3,6,7,8,9,19],[14,1014,2014],[(4,[⟨[],[],[27,28,29,30,31,32,33,34,36],[]⟩,⟨[0],[],[27,28,29,30,31,32,33,34,36],[]⟩,⟨[1,0],[],[27,28,29,30,31,32,33,34,36],[]⟩,⟨[2,1,0],[],[27,28,29,30,31,32,33,34,36],[]⟩,⟨[3,2,1,0],[1014],[27,28,29,30,31,32,33,34,36],[]⟩,⟨[],[],[22,23,24,25,26,31,32,33,34,36],[1014]⟩,⟨[5],[],[22,23,24,25,26,31,32,33,34,36],[1014]⟩,⟨[6,5],[],[22,23,24,25,26,31,32,33,34,36],[1014]⟩,⟨[7,6,5],[],[22,23,24,25,26,31,32,33,34,36],[1014]⟩,⟨[],[],[22,23,24,25,26,27,28,29,30,36],[1014]⟩,⟨[9],[],[22,23,24,25,26,27,28,29,30,36],[1014]⟩,⟨[10,9],[],[22,23,24,25,26,27,28,29,30,36],[1014]⟩,⟨[11,10,9],[],[22,23,24,25,26,27,28,29,30,36],[1014]⟩,⟨[4,3,2,1,0,8,7,6,5,12,11,10,9],[],[36],[]⟩,⟨[],[],[22,23,24,25,26,27,28,29,30,31,32,33,34,35],[1014,6]⟩,⟨[13,4,3,2,1,0,8,7,6,5,12,11,10,9],[6],[36],[]⟩,⟨[14,15,13,4,3,2,1,0,8,7,6,5,12,11,10,9],[7],[],[]⟩]),
  (3,[⟨[],[],[21],[]⟩,⟨[],[],[20],[6]⟩,⟨[0],[6],[21],[]⟩,⟨[1,2,0],[7],[],[]⟩])],[(4,jv.c4v1o),(3,jv.c3v1o)],[(29,jL.mc)],VL,[(28,jk.ma)]⟩
theorem jv.p0:PcA jv.G Tryz.f8 0:=
  kr (s:=jv.c3v1o) (by kernel_rfl) (by kernel_rfl) (HU (kb (sh:=jv.c3v1s) (fun ρ X Z=>jb) (fun ρ X t k=>(by kernel_rfl)) (fun X=>by kernel_rfl)) (kb (sh:=jv.c3s) (fun ρ X Z=>jb) (fun ρ X t k=>(by kernel_rfl)) (fun X=>by kernel_rfl)))
theorem jv.p1:PcA jv.G Tryz.f8 1:=
  kr (s:=jv.c4v1o) (by kernel_rfl) (by kernel_rfl) (HU (kb (sh:=jv.c3v1s) (fun ρ X Z=>UX) (fun ρ X t k=>UX) (fun X=>by kernel_rfl)) (kb (sh:=jv.c3s) (fun ρ X Z=>(ja fun _=>jb)) (fun ρ X t k=>(by kernel_rfl)) (fun X=>by kernel_rfl)))
theorem jv.ok:CalleeOk Tryz.prog 8 jv.ce:=fn_ok (G:=jv.G) VI mixed Tryz.func8 ⟨Ud,(VU jL.ok VE),YW,(Uw jk.ok VA)⟩ (m:=2) (by kernel_rfl) ⟨⟨trivial,jv.p0⟩,jv.p1⟩ (by kernel_rfl) (fun _=>by kernel_rfl)
abbrev sd20:SD:=.one (.ref 1 0)
abbrev sd21:SD:=.one (.ref 2 0)
def Js.c2 (s0:List (List UInt8))(s1:List (Int))(s2:Int)(f0:Int)(Z:Bool→Option ρ):Option ρ:=
  br (f0==0)
   (bnd (JN (s0,s1,s2) ([Array.toList (ByteArray.data (ByteArray.mk #[48])),Array.toList (ByteArray.data (ByteArray.mk #[48])),Array.toList (ByteArray.data (ByteArray.mk #[48])),Array.toList (ByteArray.data (ByteArray.mk #[48,44,48,44,49,44,48,44,48,44,48,44,45,49,47,49]))],[(1:Int)],(1:Int))) fun y=>
    Z y)
   (Z false)
def Js.c2s:Shape:=⟨[(0,sd16),(1,sd20),(2,sd21)],[(1,sd18),(2,sd14)]⟩
def Js.c2r:RC:=⟨Js.c2s,[(Js.c2s,0,[201])],no,[1,2,3,4],@Js.c2,fun _ _ _ _ _ _=>jf (ja fun _=>jb) jb⟩
def Js  : Option Bool:=
  bnd YX fun y=>
  bnd (jv y (0:Int) [(1:Int)]) fun y1=>
  bnd (Js.c2 y1.1.1 y1.1.2.1 y1.1.2.2 y1.2.1 some) fun y2=>
  some y2
def Js.ce:=ceOf tab Tryz.f10 Js
def Js.G:EB Tryz.prog:=⟨tb,Tryz.f10,[⟨31,YX.ce,YX.ok⟩,⟨8,jv.ce,jv.ok⟩,⟨11,JN.ce,JN.ok⟩],[0,1,2],[],[],[(2,Js.c2r.ck)],[],[]⟩
theorem Js.ok:CalleeOk Tryz.prog 10 Js.ce:=fnB Js.G Tryz.func10 (m:=1) ⟨trivial,kR Js.c2r (by kernel_rfl)⟩ (by kernel_rfl)
abbrev sd22:SD:=.one (.val .str)
def jG.c3  (Z:Unit→Option ρ):Option ρ:=
  Z ()
def jG.c3s:Shape:=⟨[(0,sd0),(1,sd1),(2,sd2),(3,sd9),(6,sd22),(7,sd10),(8,sd11),(9,sd12)],[(3,sd13),(7,sd14),(9,sd14),(14,sd15),(1014,sd6),(2014,sd7)]⟩
def jG.c3r:Ck:=Ck.of (T:=Unit) jG.c3s (fun ρ X Z=>jG.c3  Z) (fun ρ X V Z=>Z 0 (Shape.inj jG.c3s (X.1,X.2.1,X.2.2.1,(Array.toList (ByteArray.data (ByteArray.mk #[]))),(q4 X).1,(q4 X).2.1,(q4 X).2.2.1,(q8 X).2.1,(q8 X).2.2.1,(q8 X).2)))
def jG.c3v1  (Z:Unit→Option ρ):Option ρ:=
  Z ()
def jG.c3v1s:Shape:=⟨[(0,sd0),(1,sd1),(2,sd2),(3,sd9),(6,sd22),(7,sd10),(8,sd8),(9,sd12)],[(3,sd13),(7,sd14),(9,sd14)]⟩
def jG.c3v1r:Ck:=Ck.of (T:=Unit) jG.c3v1s (fun ρ X Z=>jG.c3v1  Z) (fun ρ X V Z=>Z 0 (Shape.inj jG.c3v1s (X.1,X.2.1,X.2.2.1,(Array.toList (ByteArray.data (ByteArray.mk #[]))),(q4 X).1,(q4 X).2.1,(q4 X).2.2.1,(q4 X).2.2.2.1,(q8 X).2.2.1,(q8 X).2.2.2.1,(q8 X).2.2)))
def jG.c3v1o:Ck:=Ck.or jG.c3v1s jG.c3v1r jG.c3r
def jG (c:(Int)×((Int)×(List YO))) (t1:Int) (tape:List (Int)):Option ((List UInt8)×((Int)×(Int))):=
  bnd (jk (c.1,c.2.1,c.2.2) t1 tape) fun y=>
  sel y
   (fun u=>br (u.1.1 !=0)
     (bnd (jG.c3 some) fun y1=>
      some (Array.toList (ByteArray.data (ByteArray.mk #[])),u.1.1,u.1.2))
     (bnd (jm (0:Int) (↑(List.length u.2.2.2.2.2.2.1):Int) u.2.2.2.2.2.2.1) fun y2=>
      bnd (jq y2.1) fun y3=>
      some (y3,(0:Int),(0:Int))))
   (fun v=>br (v.2.1.1 !=0)
     (bnd (jG.c3v1 some) fun y4=>
      some (Array.toList (ByteArray.data (ByteArray.mk #[])),v.2.1.1,v.2.1.2))
     (none))
def jG.ce:Go.Ql.Callee:=⟨[(.st (.pair (.int .i64) (.pair (.int .i64) (.sl (.st (.pair (.int .i64) (.pair (.int .i64) (.pair (.sl (.int .i64)) (.pair (.int .i64) (.pair (.int .i64) (.sl (.int .i64)))))))))))),(.int .i64),(.sl (.int .i64))],[.str,(.st (.pair (.int .i64) (.int .i64)))],fun X=>jG X.1 X.2.1 X.2.2⟩
def jG.G:Env:=⟨28,tab,[(26,jq.ce)],[0,1,2,3,6,7,8,9,19],[14,1014,2014],[(3,[⟨[],[],[6],[]⟩,⟨[],[],[20],[]⟩,⟨[0,1],[7],[],[]⟩])],[(3,jG.c3v1o)],[(33,jm.mc)],VL,[(28,jk.ma)]⟩
theorem jG.p0:PcA jG.G Tryz.f14 0:=
  kr (s:=jG.c3v1o) (by kernel_rfl) (by kernel_rfl) (HU (kb (sh:=jG.c3v1s) (fun ρ X Z=>jb) (fun ρ X t k=>(by kernel_rfl)) (fun X=>by kernel_rfl)) (kb (sh:=jG.c3s) (fun ρ X Z=>jb) (fun ρ X t k=>(by kernel_rfl)) (fun X=>by kernel_rfl)))
theorem jG.ok:CalleeOk Tryz.prog 14 jG.ce:=fn_ok (G:=jG.G) VI mixed Tryz.func14 ⟨(Yk jq.ok Ud),(VU jm.ok VE),YW,(Uw jk.ok VA)⟩ (m:=1) (by kernel_rfl) ⟨trivial,jG.p0⟩ (by kernel_rfl) (fun _=>by kernel_rfl)
end
end W
end

section
set_option maxHeartbeats 4000000
set_option maxRecDepth 100000
namespace W
open Go Go.Ql Go.Proofs Go.IntKind
noncomputable section
variable {ρ:Type}
abbrev sc0:SD:=.one (.win 2000000 0)
abbrev sc1:SO:=.arr 0 false 71 (.st (.pair (.ar 8 (.st (.pair .bool (.sl (.int .u32))))) (.int .i64)))
abbrev sc2:SD:=.one (.own 0 0)
def Jg.pre:Shape:=⟨[(0,sc0)],[(2000000,sc1)]⟩
def Jg.post:Shape:=⟨[(0,sc2)],[(0,sc1),(2000000,sc1)]⟩
def Jg (slo:Int) (sn:Int) (uh:List YN):Option ((List YN)×(List YN)×Unit):=
  br (List.isEmpty (part slo sn uh))
   (both
     (some ([],uh,()))
     (bnd (okIf (decide (((0:Nat)+List.length (part slo sn uh))*264≤140737488355328)&&decide ((0:Nat)+List.length (part slo sn uh)≤140737488355328))) fun y=>
      some (part slo sn uh,uh,())))
   (bnd (okIf (decide (((0:Nat)+List.length (part slo sn uh))*264≤140737488355328)&&decide ((0:Nat)+List.length (part slo sn uh)≤140737488355328))) fun y1=>
    some (part slo sn uh,uh,()))
def Jg.mc:MCallee:=⟨113,Jg.pre,Jg.post,fun X=>Jg X.1 X.2.1 X.2.2.1⟩
def Jg.G:EB Tryz.prog:=⟨tb,Tryz.f113,[],[0,2,4],[2,5,2000000],[],[],[],[]⟩
theorem Jg.ok:MOk Tryz.prog 113 Jg.mc:=fnM Jg.G (mc:=Jg.mc) Tryz.func113 (m:=0) trivial (by kernel_rfl)
abbrev sc3:SO:=.arr 0 false 3 (.int .i64)
def JB.pre:Shape:=⟨[(0,sc0)],[(2000000,sc3)]⟩
def JB.post:Shape:=⟨[(0,sc2)],[(0,sc3),(2000000,sc3)]⟩
def JB (slo:Int) (sn:Int) (uh:List (Int)):Option ((List Int)×(List Int)×Unit):=
  br (List.isEmpty (part slo sn uh))
   (both
     (some ([],uh,()))
     (bnd (okIf (decide (((0:Nat)+List.length (part slo sn uh))*8≤140737488355328)&&decide ((0:Nat)+List.length (part slo sn uh)≤140737488355328))) fun y=>
      some (part slo sn uh,uh,())))
   (bnd (okIf (decide (((0:Nat)+List.length (part slo sn uh))*8≤140737488355328)&&decide ((0:Nat)+List.length (part slo sn uh)≤140737488355328))) fun y1=>
    some (part slo sn uh,uh,()))
def JB.mc:MCallee:=⟨114,JB.pre,JB.post,fun X=>JB X.1 X.2.1 X.2.2.1⟩
def JB.G:EB Tryz.prog:=⟨tb,Tryz.f114,[],[0,2,4],[2,5,2000000],[],[],[],[]⟩
theorem JB.ok:MOk Tryz.prog 114 JB.mc:=fnM JB.G (mc:=JB.mc) Tryz.func114 (m:=0) trivial (by kernel_rfl)
abbrev sc4:SD:=.one (.ref 1000700 0)
abbrev sc5:SO:=.box [.val (.int .i64),.val (.int .i64),.val (.sl (.st (.pair (.int .i64) (.pair (.int .i64) (.pair (.sl (.int .i64)) (.pair (.int .i64) (.pair (.int .i64) (.sl (.int .i64))))))))),.own 2000701 0,.own 2000702 0,.val (.int .i64),.val (.int .i64)]
abbrev sc6:SD:=.one (.ref 0 0)
abbrev sc7:SO:=.box [.val (.int .i64),.val (.int .i64),.val (.sl (.st (.pair (.int .i64) (.pair (.int .i64) (.pair (.sl (.int .i64)) (.pair (.int .i64) (.pair (.int .i64) (.sl (.int .i64))))))))),.own 1 0,.own 2 0,.val (.int .i64),.val (.int .i64)]
abbrev sc8:SD:=.one (.val (.nilv 0))
abbrev sc9:SD:=.one (.ref 3 0)
abbrev sc10:SO:=.box [.val (.int .i64),.val (.int .i64),.val (.sl (.st (.pair (.int .i64) (.pair (.int .i64) (.pair (.sl (.int .i64)) (.pair (.int .i64) (.pair (.int .i64) (.sl (.int .i64))))))))),.own 11 0,.own 16 0,.val (.int .i64),.val (.int .i64)]
def jR.pre:Shape:=⟨[(0,sc4)],[(1000700,sc5),(2000701,sc1),(2000702,sc3)]⟩
def jR.post:Shape:=⟨[(0,sc6)],[(0,sc7),(1,sc1),(2,sc3),(1000700,sc5),(2000701,sc1),(2000702,sc3)]⟩
def jR.c2 (ui:List YN)(uj:List (Int))(Z:(List YN)×(List Int)×(List YN)×(List Int)→Option ρ):Option ρ:=
  bnd (Jg (0:Int) (ui.length:Int) ui) fun y=>
  bnd (JB (0:Int) (uj.length:Int) uj) fun y1=>
  Z (y.1,y1.1,y.2.1,y1.2.1)
def jR.c2s:Shape:=(((((jR.pre.s 2 sc8).s 3 sc9).o 3 sc5).o 4003 sc1).o 5003 sc3)
def jR.c2x0:Shape:=(((jR.c2s.o 3 sc10).o 11 sc1).o 16 sc3)
def jR.c2r:RC:=⟨jR.c2s,[(jR.c2x0,0,[6,102,7,202])],no,[13,14],@jR.c2,fun _ _ _ _=>ja fun _=>(ja fun _=>jb)⟩
def jR (ub:Int) (uc:Int) (ud:List YO) (ue:Int) (uf:Int) (ui:List YN) (uj:List (Int)):Option ((Int)×(Int)×(List YO)×(Int)×(Int)×(List YN)×(List Int)×(Int)×(Int)×(List YO)×(Int)×(Int)×(List YN)×(List Int)×Unit):=
  bnd (jR.c2 ui uj some) fun y=>
  some (ub,uc,ud,ue,uf,y.1,y.2.1,ub,uc,ud,ue,uf,y.2.2.1,y.2.2.2,())
def jR.mc:MCallee:=⟨80,jR.pre,jR.post,fun X=>jR X.1 X.2.1 X.2.2.1 X.2.2.2.1 (q4 X).1 (q4 X).2.1 (q4 X).2.2.1⟩
def jR.G:EB Tryz.prog:=⟨tb,Tryz.f80,[],[0,2,3],[3,11,16,1003,2003,3003,4003,5003,1000700,2000701,2000702],[(2,[(4,[11,2000701]),(9,[16,2000702]),(11,[3]),(13,[3])])],[(2,jR.c2r.ck)],[⟨113,Jg.mc,Jg.ok⟩,⟨114,JB.mc,JB.ok⟩],[]⟩
theorem jR.ok:MOk Tryz.prog 80 jR.mc:=fnM jR.G (mc:=jR.mc) Tryz.func80 (m:=1) ⟨trivial,kR jR.c2r (by kernel_rfl)⟩ (by kernel_rfl)
abbrev sc11:SD:=.one (.val (.sl (.int .i64)))
abbrev sc12:SD:=.one (.ref 1000100 0)
abbrev sc13:SO:=.box [.own 1000101 0]
abbrev sc14:SO:=.arr 0 false 64 (.st (.pair (.sl (.int .i64)) (.pair (.sl (.int .i64)) .str)))
abbrev sc15:SD:=.one (.val .bool)
abbrev sc16:SO:=.box [.val (.int .i64),.val (.int .i64),.val (.sl (.st (.pair (.int .i64) (.pair (.int .i64) (.pair (.sl (.int .i64)) (.pair (.int .i64) (.pair (.int .i64) (.sl (.int .i64))))))))),.own 2000701 0,.junk,.val (.int .i64),.val (.int .i64)]
abbrev sc17:SO:=.box [.val (.int .i64),.val (.int .i64),.val (.sl (.st (.pair (.int .i64) (.pair (.int .i64) (.pair (.sl (.int .i64)) (.pair (.int .i64) (.pair (.int .i64) (.sl (.int .i64))))))))),.own 2000701 0,.val (.sl (.int .i64)),.val (.int .i64),.val (.int .i64)]
def jV.pre:Shape:=⟨[(0,sc4),(1,sc11),(2,sc12)],[(1000100,sc13),(1000101,sc14),(1000700,sc5),(2000701,sc1),(2000702,sc3)]⟩
def jV.post:Shape:=⟨[(0,sc15)],[(1000100,sc13),(1000101,sc14),(1000700,sc16),(2000701,sc1),(2000702,.gone)]⟩
def jV.c1 (tape:List (Int))(ua:List ((List Int)×((List Int)×(List UInt8))))(ui:List YN)(uj:List (Int))(Z:(List ((List Int)×((List Int)×(List UInt8))))×(List YN)→Option ρ):Option ρ:=
  bnd (okIf (decide (((0:Nat)+tape.length)*8≤140737488355328)&&decide ((0:Nat)+tape.length≤140737488355328))) fun y=>
  bnd (jm (0:Int) (ui.length:Int) ui) fun y1=>
  bnd (jq y1.1) fun y2=>
  bnd (okIf (decide ((ua.length+1)*64≤140737488355328)&&decide (ua.length+1≤140737488355328))) fun y3=>
  Z ((ua++[(tape,uj,y2)]),y1.2.1)
def jV.c1s:Shape:=(jV.pre.s 5 sc15)
def jV.c1x0:Shape:=((jV.c1s.o 1000700 sc17).o 2000702 (.gone))
def jV.c1r:RC:=⟨jV.c1s,[(jV.c1x0,0,[2,201,3,303,1,400,401,101])],fun X=>((q4 X).2.2.1,(q4 X).2.2.2.1,()),[0,2,8,9],@jV.c1,fun _ _ _ _ _ _=>ja fun _=>(ja fun _=>(ja fun _=>(ja fun _=>jb)))⟩
def jV (tape:List (Int)) (ua:List ((List Int)×((List Int)×(List UInt8)))) (ub:Int) (uc:Int) (ud:List YO) (ue:Int) (uf:Int) (ui:List YN) (uj:List (Int)):Option (Bool×(List ((List Int)×((List Int)×(List UInt8))))×(Int)×(Int)×(List YO)×(Int)×(Int)×(List YN)×Unit):=
  bnd (jV.c1 tape ua ui uj some) fun y=>
  some (decide ((↑(List.length y.1):Int)≤1024),y.1,ub,uc,ud,ue,uf,y.2,())
def jV.mc:MCallee:=⟨47,jV.pre,jV.post,fun X=>jV X.1 X.2.1 X.2.2.1 X.2.2.2.1 (q4 X).1 (q4 X).2.1 (q4 X).2.2.1 (q4 X).2.2.2.1 (q8 X).1⟩
def jV.G:EB Tryz.prog:=⟨tb,Tryz.f47,[⟨26,jq.ce,jq.ok⟩],[0,1,2,5],[1000100,1000101,1000700,2000701,2000702,22000702],[(1,[(2,[8]),(11,[2000701]),(14,[8,2000702,20]),(15,[1000101]),(16,[1000100])])],[(1,jV.c1r.ck)],[⟨33,jm.mc,jm.ok⟩],[]⟩
theorem jV.ok:MOk Tryz.prog 47 jV.mc:=fnM jV.G (mc:=jV.mc) Tryz.func47 (m:=1) ⟨trivial,kR jV.c1r (by kernel_rfl)⟩ (by kernel_rfl)
abbrev sc18:SD:=.one (.clo 1000090)
abbrev sc19:SO:=.clo 47 [] [.ref 1000100 0]
abbrev sc20:SD:=.one (.ref 11 0)
abbrev sc21:SO:=.box [.val (.int .i64),.val (.int .i64),.val (.sl (.st (.pair (.int .i64) (.pair (.int .i64) (.pair (.sl (.int .i64)) (.pair (.int .i64) (.pair (.int .i64) (.sl (.int .i64))))))))),.own 1011 0,.own 2011 0,.val (.int .i64),.val (.int .i64)]
def jg.self.pre:Shape:=⟨[(0,sc4),(1,sc11),(2,sc18)],[(1000090,sc19),(1000100,sc13),(1000101,sc14),(1000700,sc5),(2000701,sc1),(2000702,sc3)]⟩
def jg.self.post:Shape:=⟨[(0,sc15)],[(1000100,sc13),(1000101,sc14),(1000090,sc19),(1000700,sc16),(2000701,sc1),(2000702,.gone)]⟩
class jg.Self where
  F:densU jg.self.pre.tys→Option (densU jg.self.post.tys)
  ok:MOk Tryz.prog 46 ⟨46,jg.self.pre,jg.self.post,F⟩
section
variable [jg.Self]
def jg.self (X:densU jg.self.pre.tys):Option (densU jg.self.post.tys):=jg.Self.F X
def jg.self.mc:MCallee:=⟨46,jg.self.pre,jg.self.post,fun X=>jg.self X⟩
theorem jg.self.ok:MOk Tryz.prog 46 jg.self.mc:=jg.Self.ok
def jg.pre:Shape:=⟨[(0,sc4),(1,sc11),(2,sc18)],[(1000090,sc19),(1000100,sc13),(1000101,sc14),(1000700,sc5),(2000701,sc1),(2000702,sc3)]⟩
def jg.post:Shape:=⟨[(0,sc15)],[(1000100,sc13),(1000101,sc14),(1000090,sc19),(1000700,sc16),(2000701,sc1),(2000702,.gone)]⟩
def jg.c4 {ρ:Type} (tape:List (Int))(t110:Int)(t111:Int)(t112:List YO)(t115:Int)(t116:Int)(ug:List YN)(uk:List (Int))(ua:List ((List Int)×((List Int)×(List UInt8))))(Z:Bool×(List ((List Int)×((List Int)×(List UInt8))))→Option ρ):Option ρ:=
  bnd (jm (0:Int) (ug.length:Int) ug) fun y=>
  bnd (jT y.1) fun y1=>
  br (!y1)
   (bnd (okIf (decide ((0:Int)≤(tape.length:Int))&&decide ((tape.length:Int)=(tape.length:Int))&&decide ((tape.length:Int)≤(tape.length:Int)))) fun y2=>
    bnd (okIf (decide ((List.length (List.take (Int.toNat (tape.length:Int)) tape)+1)*8≤140737488355328)&&decide (List.length (List.take (Int.toNat (tape.length:Int)) tape)+1≤140737488355328))) fun y3=>
    bnd (jg.self (List.take (Int.toNat (tape.length:Int)) tape++[(0:Int)],ua,t110,t111,t112,t115,t116,y.2.1,uk,())) fun y4=>
    Z ((!y4.1),y4.2.1))
   (Z (false,ua))
def jg.c4s:Shape:=(((((jg.pre.s 6 sc15).s 7 sc20).o 11 sc21).o 1011 sc1).o 2011 sc3)
def jg.c4x0:Shape:=((jg.pre.s 6 sc15).s 34 sc15)
def jg.c4r:RC:=⟨jg.c4s,[(jg.c4x0,0,[2,202,306])],no,[0,2,3,4,5,6,7,8,9],fun _=>jg.c4,fun _ _ _ _ _ _ _ _ _ _ _=>ja fun _=>(ja fun _=>(jf (ja fun _=>(ja fun _=>(ja fun _=>jb))) jb))⟩
def jg.ce_ {ρ:Type} (tape:List (Int))(ua:List ((List Int)×((List Int)×(List UInt8))))(ub:Int)(uc:Int)(ud:List YO)(ue:Int)(uf:Int)(ui:List YN)(uj:List (Int))(Z:((List Int)×(List ((List Int)×((List Int)×(List UInt8))))×(Int)×(Int)×(List YO)×(Int)×(Int)×(List YN)×(List Int))⊕(((List Int)×Bool×(List ((List Int)×((List Int)×(List UInt8))))×(Int)×(Int)×(List YO)×(Int)×(Int)×(List YN)×(List Int))⊕((List Int)×(List ((List Int)×((List Int)×(List UInt8))))×(Int)×(Int)×(List YO)×(Int)×(Int)×(List YN)×(List Int)))→Option ρ):Option ρ:=
  bnd (jh ub uc ud ue uf ui uj) fun y=>
  br y.1
   (bnd (jR y.2.1 y.2.2.1 y.2.2.2.1 y.2.2.2.2.1 y.2.2.2.2.2.1 y.2.2.2.2.2.2.1 y.2.2.2.2.2.2.2.1) fun y1=>
    bnd (jn (0:Int) y1.1 y1.2.1 y1.2.2.1 y1.2.2.2.1 y1.2.2.2.2.1 y1.2.2.2.2.2.1 y1.2.2.2.2.2.2.1) fun y2=>
    bnd (jg.c4 tape y2.1 y2.2.1 y2.2.2.1 y2.2.2.2.1 y2.2.2.2.2.1 y2.2.2.2.2.2.1 y2.2.2.2.2.2.2.1 ua some) fun y3=>
    br y3.1
     (Z (.inr (.inl (tape,false,y3.2,y1.2.2.2.2.2.2.2.1,y1.2.2.2.2.2.2.2.2.1,y1.2.2.2.2.2.2.2.2.2.1,y1.2.2.2.2.2.2.2.2.2.2.1,y1.2.2.2.2.2.2.2.2.2.2.2.1,y1.2.2.2.2.2.2.2.2.2.2.2.2.1,y1.2.2.2.2.2.2.2.2.2.2.2.2.2.1))))
     (bnd (jn (1:Int) y1.2.2.2.2.2.2.2.1 y1.2.2.2.2.2.2.2.2.1 y1.2.2.2.2.2.2.2.2.2.1 y1.2.2.2.2.2.2.2.2.2.2.1 y1.2.2.2.2.2.2.2.2.2.2.2.1 y1.2.2.2.2.2.2.2.2.2.2.2.2.1 y1.2.2.2.2.2.2.2.2.2.2.2.2.2.1) fun y4=>
      bnd (okIf (decide ((0:Int)≤(tape.length:Int))&&decide ((tape.length:Int)=(tape.length:Int))&&decide ((tape.length:Int)≤(tape.length:Int)))) fun y5=>
      bnd (okIf (decide ((List.length (List.take (Int.toNat (tape.length:Int)) tape)+1)*8≤140737488355328)&&decide (List.length (List.take (Int.toNat (tape.length:Int)) tape)+1≤140737488355328))) fun y6=>
      bnd (jm (0:Int) (↑(List.length y4.2.2.2.2.2.1):Int) y4.2.2.2.2.2.1) fun y7=>
      bnd (jT y7.1) fun y8=>
      br y8
       (Z (.inr (.inl ((List.take (Int.toNat (tape.length:Int)) tape++[(1:Int)]),true,y3.2,y4.1,y4.2.1,y4.2.2.1,y4.2.2.2.1,y4.2.2.2.2.1,y7.2.1,y4.2.2.2.2.2.2.1))))
       (Z (.inl ((List.take (Int.toNat (tape.length:Int)) tape++[(1:Int)]),y3.2,y4.1,y4.2.1,y4.2.2.1,y4.2.2.2.1,y4.2.2.2.2.1,y7.2.1,y4.2.2.2.2.2.2.1)))))
   (Z (.inr (.inr (tape,ua,y.2.1,y.2.2.1,y.2.2.2.1,y.2.2.2.2.1,y.2.2.2.2.2.1,y.2.2.2.2.2.2.1,y.2.2.2.2.2.2.2.1))))
def jg.ce_s:Shape:=(jg.c4x0.d 34)
def jg.ce_r:LC:=⟨jg.ce_s,[(jg.ce_s,1,[210]),(jg.ce_s,2,[201,1,208])],no,[0,2,3,4,5,6,7,8,9],[0,2,3,4,5,6,7,8,9],fun _=>jg.ce_,fun _ _ _ _ _ _ _ _ _ _ _=>ja fun _=>(jf (ja fun _=>(ja fun _=>(ja fun _=>(jf jb (ja fun _=>(ja fun _=>(ja fun _=>(ja fun _=>(ja fun _=>(jf jb jb)))))))))) jb)⟩
def jg (tape:List (Int)) (ua:List ((List Int)×((List Int)×(List UInt8)))) (ub:Int) (uc:Int) (ud:List YO) (ue:Int) (uf:Int) (ui:List YN) (uj:List (Int)):Option (Bool×(List ((List Int)×((List Int)×(List UInt8))))×(Int)×(Int)×(List YO)×(Int)×(Int)×(List YN)×Unit):=
  bnd (iter (fun s↦jg.ce_ s.1 s.2.1 s.2.2.1 s.2.2.2.1 s.2.2.2.2.1 s.2.2.2.2.2.1 s.2.2.2.2.2.2.1 s.2.2.2.2.2.2.2.1 s.2.2.2.2.2.2.2.2 some) (tape,ua,ub,uc,ud,ue,uf,ui,uj)) fun y=>
  sel y
   (fun u=>some (u.2.1,u.2.2.1,u.2.2.2.1,u.2.2.2.2.1,u.2.2.2.2.2.1,u.2.2.2.2.2.2.1,u.2.2.2.2.2.2.2.1,u.2.2.2.2.2.2.2.2.1,()))
   (fun v=>bnd (jV v.1 v.2.1 v.2.2.1 v.2.2.2.1 v.2.2.2.2.1 v.2.2.2.2.2.1 v.2.2.2.2.2.2.1 v.2.2.2.2.2.2.2.1 v.2.2.2.2.2.2.2.2) fun y1=>
    some (y1.1,y1.2.1,y1.2.2.1,y1.2.2.2.1,y1.2.2.2.2.1,y1.2.2.2.2.2.1,y1.2.2.2.2.2.2.1,y1.2.2.2.2.2.2.2.1,()))
def jg.mc:MCallee:=⟨46,jg.pre,jg.post,fun X=>jg X.1 X.2.1 X.2.2.1 X.2.2.2.1 (q4 X).1 (q4 X).2.1 (q4 X).2.2.1 (q4 X).2.2.2.1 (q8 X).1⟩
def jg.G:EB Tryz.prog:=⟨tb,Tryz.f46,[⟨66,jT.ce,jT.ok⟩],[0,1,2,6,7,9,34,50],[11,1011,2011,1000100,1000101,1000700,2000701,2000702,7004007,7004011,8700028,8700042,22000702,40401011,40402011],[],[(100001,jg.ce_r.ck),(4,jg.c4r.ck)],[⟨64,jh.mc,jh.ok⟩,⟨80,jR.mc,jR.ok⟩,⟨65,jn.mc,jn.ok⟩,⟨33,jm.mc,jm.ok⟩,⟨46,jg.self.mc,jg.self.ok⟩,⟨47,jV.mc,jV.ok⟩],[]⟩
theorem jg.ok:MOk Tryz.prog 46 jg.mc:=fnM jg.G (mc:=jg.mc) Tryz.func46 (m:=2) ⟨⟨trivial,kL jg.ce_r (by kernel_rfl)⟩,kR jg.c4r (by kernel_rfl)⟩ (by kernel_rfl)
end
@[reducible] def jg.fuel:Nat→jg.Self
  | 0=>⟨fun _=>none,⟨⟨Tryz.f46,Tryz.func46,by kernel_rfl,by kernel_rfl⟩,fun _ _ _ _ _ _ _ hy=>by cases hy⟩⟩
  | n+1=>⟨fun X=>(@jg.mc (jg.fuel n)).F X,@jg.ok (jg.fuel n)⟩
def kU (X:densU jg.self.pre.tys):Option (densU jg.self.post.tys):=(jg.fuel (4200)).F X
def kU.mc:MCallee:=⟨46,jg.self.pre,jg.self.post,fun X=>kU X⟩
theorem kU.ok:MOk Tryz.prog 46 kU.mc:=mok_diag (F:=fun n=>(jg.fuel n).F) (fun n=>(jg.fuel n).ok) (fun X=>4200)
abbrev sc22:SD:=.one (.val (.st (.pair (.int .i64) (.pair (.int .i64) (.sl (.st (.pair (.int .i64) (.pair (.int .i64) (.pair (.sl (.int .i64)) (.pair (.int .i64) (.pair (.int .i64) (.sl (.int .i64)))))))))))))
abbrev sc23:SD:=.one (.val (.int .i64))
abbrev sc24:SD:=.one (.ref 2 0)
abbrev sc25:SD:=.one (.val (.sl (.st (.pair (.sl (.int .i64)) (.pair (.sl (.int .i64)) .str)))))
abbrev sc26:SD:=.one (.ref 5 0)
abbrev sc27:SD:=.one (.ref 12 0)
abbrev sc28:SD:=.one (.ref 7 0)
abbrev sc29:SO:=.box [.val (.int .i64),.val (.int .i64),.val (.sl (.st (.pair (.int .i64) (.pair (.int .i64) (.pair (.sl (.int .i64)) (.pair (.int .i64) (.pair (.int .i64) (.sl (.int .i64)))))))))]
abbrev sc30:SO:=.box [.val (.int .i64),.val (.int .i64)]
abbrev sc31:SO:=.box [.val (.int .i64),.val (.int .i64),.val (.sl (.st (.pair (.int .i64) (.pair (.int .i64) (.pair (.sl (.int .i64)) (.pair (.int .i64) (.pair (.int .i64) (.sl (.int .i64))))))))),.own 1012 0,.own 2012 0,.val (.int .i64),.val (.int .i64)]
def jy.c3  (Z:Unit→Option ρ):Option ρ:=
  Z ()
def jy.c3s:Shape:=⟨[(0,sc22),(1,sc23),(2,sc24),(4,sc25),(5,sc26),(6,sc27),(7,sc28)],[(2,sc29),(5,sc30),(7,sc30),(12,sc31),(1012,sc1),(2012,sc3)]⟩
def jy.c3r:Ck:=Ck.of (T:=Unit) jy.c3s (fun ρ X Z=>jy.c3  Z) (fun ρ X V Z=>Z 0 (Shape.inj jy.c3s (X.1,X.2.1,[],X.2.2.2.1,(q4 X).1,(q4 X).2.1,(q8 X).1,(q8 X).2.1,(q8 X))))
def jy.c3v1  (Z:Unit→Option ρ):Option ρ:=
  Z ()
def jy.c3v1s:Shape:=⟨[(0,sc22),(1,sc23),(2,sc24),(4,sc25),(5,sc26),(6,sc8),(7,sc28)],[(2,sc29),(5,sc30),(7,sc30)]⟩
def jy.c3v1r:Ck:=Ck.of (T:=Unit) jy.c3v1s (fun ρ X Z=>jy.c3v1  Z) (fun ρ X V Z=>Z 0 (Shape.inj jy.c3v1s (X.1,X.2.1,[],X.2.2.2.1,(q4 X).1,(q4 X).2.1,(q4 X).2.2.1,(q8 X).2.1,(q8 X).2.2.1,(q8 X).2)))
def jy.c3v1o:Ck:=Ck.or jy.c3v1s jy.c3v1r jy.c3r
def jy (c:(Int)×((Int)×(List YO))) (t1:Int):Option ((List ((List Int)×((List Int)×(List UInt8))))×((Int)×(Int))):=
  bnd (jw (c.1,c.2.1,c.2.2) t1) fun y=>
  sel y
   (fun u=>br (u.1.1 !=0)
     (bnd (jy.c3 some) fun y1=>
      some ([],u.1.1,u.1.2))
     (bnd (kU ([],[],u.2.1,u.2.2.1,u.2.2.2.1,u.2.2.2.2.1,u.2.2.2.2.2.1,u.2.2.2.2.2.2.1,u.2.2.2.2.2.2.2.1,())) fun y2=>
      br (!y2.1)
       (bnd (kc (21:Int) (0:Int)) fun y3=>
        some ([],y3.1,y3.2))
       (some (y2.2.1,(0:Int),(0:Int)))))
   (fun v=>br (v.2.1.1 !=0)
     (bnd (jy.c3v1 some) fun y4=>
      some ([],v.2.1.1,v.2.1.2))
     (none))
def jy.ce:Go.Ql.Callee:=⟨[(.st (.pair (.int .i64) (.pair (.int .i64) (.sl (.st (.pair (.int .i64) (.pair (.int .i64) (.pair (.sl (.int .i64)) (.pair (.int .i64) (.pair (.int .i64) (.sl (.int .i64)))))))))))),(.int .i64)],[(.sl (.st (.pair (.sl (.int .i64)) (.pair (.sl (.int .i64)) .str)))),(.st (.pair (.int .i64) (.int .i64)))],fun X=>jy X.1 X.2⟩
def jy.G:Env:=⟨26,tab,[(48,kc.ce)],[0,1,2,4,5,6,7,8,17,22],[8,12,1008,1012,2012],[(3,[⟨[],[],[4],[4]⟩,⟨[],[4],[18],[]⟩,⟨[0,1],[5],[],[]⟩])],[(3,jy.c3v1o)],[(46,kU.mc)],VL,[(45,jw.ma)]⟩
theorem jy.p0:PcA jy.G Tryz.f18 0:=
  kr (s:=jy.c3v1o) (by kernel_rfl) (by kernel_rfl) (HU (kb (sh:=jy.c3v1s) (fun ρ X Z=>jb) (fun ρ X t k=>(by kernel_rfl)) (fun X=>by kernel_rfl)) (kb (sh:=jy.c3s) (fun ρ X Z=>jb) (fun ρ X t k=>(by kernel_rfl)) (fun X=>by kernel_rfl)))
theorem jy.ok:CalleeOk Tryz.prog 18 jy.ce:=fn_ok (G:=jy.G) VI mixed Tryz.func18 ⟨(Yk kc.ok Ud),(VU kU.ok VE),YW,(Uw jw.ok VA)⟩ (m:=1) (by kernel_rfl) ⟨trivial,jy.p0⟩ (by kernel_rfl) (fun _=>by kernel_rfl)
abbrev sc32:SD:=.one (.ref 4 0)
abbrev sc33:SD:=.one (.val (.sl (.st (.pair (.ar 8 (.st (.pair .bool (.sl (.int .i64))))) (.int .i64)))))
def kO.c1 (t1:Int)(tape:List (Int))(n:Int)(c0:Int)(c1:Int)(c2:List YO)(Z:(List YN)×(Int)×(Int)→Option ρ):Option ρ:=
  bnd (okIf (decide ((0:Int)≤n)&&decide (n≤(c2.length:Int)))) fun y=>
  bnd (Jc (c0,c1,List.take (Int.toNat n) c2) t1 tape) fun y1=>
  Z (y1.1,y1.2.2.2.1,y1.2.2.2.2)
def kO.c1s:Shape:=⟨[(0,sc22),(1,sc23),(2,sc11),(3,sc23),(4,sc32),(8,sc33)],[(4,sc29)]⟩
def kO.c1x0:Shape:=((kO.c1s.s 9 sc33).o 12 sc30)
def kO.c1r:RC:=⟨kO.c1s,[(kO.c1x0,0,[5,101,3,102])],no,[1,2,3,5,6,7],@kO.c1,fun _ _ _ _ _ _ _ _=>ja fun _=>(ja fun _=>jb)⟩
def kO (c:(Int)×((Int)×(List YO))) (t1:Int) (tape:List (Int)) (n:Int):Option (List YN):=
  bnd (kO.c1 t1 tape n c.1 c.2.1 c.2.2 some) fun y=>
  some y.1
def kO.ce:=ceOf tab Tryz.f49 kO
def kO.G:EB Tryz.prog:=⟨tb,Tryz.f49,[⟨15,Jc.ce,Jc.ok⟩],[0,1,2,3,4,8,9],[],[(1,[(17,[12]),(21,[12])])],[(1,kO.c1r.ck)],[],[]⟩
theorem kO.ok:CalleeOk Tryz.prog 49 kO.ce:=fnB kO.G Tryz.func49 (m:=1) ⟨trivial,kR kO.c1r (by kernel_rfl)⟩ (by kernel_rfl)
abbrev sc34:SD:=.one (.own 2 0)
abbrev sc35:SD:=.one (.own 3 0)
def jY.pre:Shape:=⟨[(0,sc11)],[]⟩
def jY.post:Shape:=⟨[(0,sc2)],[(0,sc3)]⟩
def jY.ca_ (l:List (Int))(i:Int)(out:List (Int))(Z:((Int)×(List Int))⊕((Int)×(List Int))→Option ρ):Option ρ:=
  br (decide (i<(l.length:Int)))
   (bnd (idx l i) fun y=>
    bnd (okIf (decide ((out.length+1)*8≤140737488355328)&&decide (out.length+1≤140737488355328))) fun y1=>
    Z (.inl ((i64.wrap (i+1)),(out++[y]))))
   (Z (.inr (i,out)))
def jY.ca_s:Shape:=⟨[(0,sc11),(2,sc34),(3,sc35),(4,sc23)],[(2,sc3),(3,sc3)]⟩
def jY.ca_r:LC:=⟨jY.ca_s,[(jY.ca_s,2,[1,201,1,201])],no,[1,3],[0,1,3],@jY.ca_,fun _ _ _ _ _=>jf (ja fun _=>(ja fun _=>jb)) jb⟩
def jY (l:List (Int)):Option ((List Int)×Unit):=
  bnd (iter (fun s↦jY.ca_ l s.1 s.2 some) ((0:Int),[])) fun y=>
  some (y.2,())
def jY.mc:MCallee:=⟨51,jY.pre,jY.post,fun X=>jY X.1⟩
def jY.G:EB Tryz.prog:=⟨tb,Tryz.f51,[],[0,2,3,4,8],[2,3],[],[(100003,jY.ca_r.ck)],[],[]⟩
theorem jY.ok:MOk Tryz.prog 51 jY.mc:=fnM jY.G (mc:=jY.mc) Tryz.func51 (m:=1) ⟨trivial,kL jY.ca_r (by kernel_rfl)⟩ (by kernel_rfl)
abbrev sc36:SD:=.one (.nilS)
def JS.pre:Shape:=⟨[(0,sc11)],[]⟩
def JS.post:Shape:=⟨[(0,sc36)],[]⟩
def JS.cb_ (tape:List (Int))(n:Int)(Z:(Int)⊕(((List Int)×(Int))⊕(Int))→Option ρ):Option ρ:=
  br (decide (n≥0))
   (bnd (idx tape n) fun y=>
    br (y==0)
     (bnd (okIf (decide ((0:Int)≤n)&&decide (n≤(tape.length:Int)))) fun y1=>
      bnd (jY (List.take (Int.toNat n) tape)) fun y2=>
      bnd (okIf (decide ((List.length y2.1+1)*8≤140737488355328)&&decide (List.length y2.1+1≤140737488355328))) fun y3=>
      Z (.inr (.inl ((y2.1++[(1:Int)]),n))))
     (Z (.inl (i64.wrap (n-1)))))
   (Z (.inr (.inr n)))
def JS.cb_s:Shape:=((JS.pre.s 2 sc36).s 3 sc23)
def JS.cb_x0:Shape:=(JS.cb_s.s 2 sc11)
def JS.cb_r:LC:=⟨JS.cb_s,[(JS.cb_x0,1,[1,201,101]),(JS.cb_s,2,[1,201])],no,[1],[0,1],@JS.cb_,fun _ _ _ _=>jf (ja fun _=>(jf (ja fun _=>(ja fun _=>(ja fun _=>jb))) jb)) jb⟩
def JS (tape:List (Int)):Option ((Unit)⊕((List Int)×Unit)):=
  bnd (iter (fun s↦JS.cb_ tape s some) (i64.wrap ((tape.length:Int)-1))) fun y=>
  sel y
   (fun u=>some (Sum.inr (u.1,())))
   (fun v=>some (Sum.inl ()))
def JS.ma:MAlt:=⟨50,JS.pre,JS.post,false,JS.pre,fun X=>JS X.1⟩
def JS.G:EB Tryz.prog:=⟨tb,Tryz.f50,[],[0,2,3,8,15],[45500002],[],[(100002,JS.cb_r.ck)],[⟨51,jY.mc,jY.ok⟩],[]⟩
theorem JS.ok:AltOk Tryz.prog 50 JS.ma:=fnA JS.G (ma:=JS.ma) Tryz.func50 (m:=1) ⟨trivial,kL JS.cb_r (by kernel_rfl)⟩ (by kernel_rfl)
abbrev sc37:SD:=.one (.own 6 0)
abbrev sc38:SD:=.one (.aptr 12 0)
abbrev sc39:SO:=.arr 0 false 48 (.st (.pair (.ar 8 (.st (.pair .bool (.sl (.int .i64))))) (.int .i64)))
def jE.c11  (Z:Unit→Option ρ):Option ρ:=
  Z ()
def jE.c11s:Shape:=⟨[(0,sc22),(1,sc23),(2,sc24),(4,sc25),(5,sc26),(6,sc37),(7,sc11),(8,sc33),(9,sc11),(10,sc23),(11,sc20)],[(2,sc29),(5,sc30),(6,sc14),(11,sc30)]⟩
def jE.c11r:RC:=⟨jE.c11s,[(jE.c11s,0,[2,400,301,7,303,2,401,402,403])],fun X=>([],(q4 (q8 X)).1,(q4 (q8 X)).2.1,(q4 (q8 X)).2.2.1,()),[],@jE.c11,fun _ _=>jb⟩
def jE.c14 (tape:List (Int))(bits:List (Int))(out:List ((List Int)×((List Int)×(List UInt8))))(chance:List YN)(Z:List ((List Int)×((List Int)×(List UInt8)))→Option ρ):Option ρ:=
  bnd (jY tape) fun y=>
  bnd (idx chance (0:Int)) fun y1=>
  bnd (Jo y1) fun y2=>
  bnd (okIf (decide ((out.length+1)*64≤140737488355328)&&decide (out.length+1≤140737488355328))) fun y3=>
  Z (out++[(y.1,bits,y2)])
def jE.c14s:Shape:=((jE.c11s.s 12 sc38).o 12 sc39)
def jE.c14r:RC:=⟨jE.c14s,[(jE.c14s,0,[12,201])],no,[3,5,12,15],@jE.c14,fun _ _ _ _ _ _=>ja fun _=>(ja fun _=>(ja fun _=>(ja fun _=>jb)))⟩
def jE.cy_ (tape:List (Int))(bits:List (Int))(out:List ((List Int)×((List Int)×(List UInt8))))(chance:List YN)(Z:List ((List Int)×((List Int)×(List UInt8)))→Option ρ):Option ρ:=
  bnd (idx chance (0:Int)) fun y=>
  bnd (Jp y) fun y1=>
  br (!y1)
   (bnd (jE.c14 tape bits out chance some) fun y2=>
    Z y2)
   (Z out)
def jE.cy_r:RC:=⟨jE.c14s,[(jE.c14s,0,[12,201])],no,[3,5,12,15],@jE.cy_,fun _ _ _ _ _ _=>ja fun _=>(ja fun _=>(jf (ja fun _=>jb) jb))⟩
def jE.c18  (Z:Unit→Option ρ):Option ρ:=
  Z ()
def jE.c18x0:Shape:=(jE.c14s.s 4 sc37)
def jE.c18r:RC:=⟨jE.c14s,[(jE.c18x0,0,[2,301,7,303,2,400,401,402])],fun X=>((q4 (q8 X)).1,(q4 (q8 X)).2.1,(q4 (q8 X)).2.2.1,()),[],@jE.c18,fun _ _=>jb⟩
def jE.c21  (Z:Unit→Option ρ):Option ρ:=
  Z ()
def jE.c21s:Shape:=(jE.c14s.s 7 sc36)
def jE.c21x0:Shape:=(jE.c21s.s 4 sc37)
def jE.c21r:RC:=⟨jE.c21s,[(jE.c21x0,0,[2,301,6,303,2,400,401,402])],fun X=>((q8 X).2.2.2.1,(q4 (q8 X)).1,(q4 (q8 X)).2.1,()),[],@jE.c21,fun _ _=>jb⟩
def jE.ca_ (t1:Int)(tape:List (Int))(c0:Int)(c1:Int)(c2:List YO)(out:List ((List Int)×((List Int)×(List UInt8))))(Z:((List Int)×(List ((List Int)×((List Int)×(List UInt8)))))⊕(((Int)×(Int)×(List ((List Int)×((List Int)×(List UInt8)))))⊕(((List Int)×(Int)×(Int)×(List ((List Int)×((List Int)×(List UInt8)))))⊕((List Int)×(Int)×(Int)×(List ((List Int)×((List Int)×(List UInt8)))))))→Option ρ):Option ρ:=
  bnd (Jc (c0,c1,c2) t1 tape) fun y=>
  br (y.2.2.2.1==19)
   (bnd (kO (c0,c1,c2) t1 tape y.2.2.2.2) fun y1=>
    bnd (JV y1) fun y2=>
    bnd (Jp y2) fun y3=>
    br y3
     (bnd (JS tape) fun y4=>
      sel y4
       (fun u=>Z (.inr (.inl ((0:Int),(0:Int),out))))
       (fun v=>br (List.isEmpty v.1)
         (none)
         (Z (.inl (v.1,out)))))
     (bnd (jY tape) fun y5=>
      bnd (okIf (decide ((List.length y5.1+1)*8≤140737488355328)&&decide (List.length y5.1+1≤140737488355328))) fun y6=>
      Z (.inl ((y5.1++[(0:Int)]),out))))
   (br (y.2.2.2.1 !=0)
     (bnd (jE.c11 some) fun y7=>
      Z (.inr (.inr (.inl (tape,y.2.2.2.1,y.2.2.2.2,out)))))
     (bnd (JV y.1) fun y8=>
      bnd (jE.cy_ tape y.2.1 out [y8] some) fun y9=>
      br (decide ((y9.length:Int)>1024))
       (bnd (kA (21:Int) (0:Int)) fun y10=>
        Z (.inr (.inr (.inl (tape,y10.1,y10.2,y9)))))
       (br (y.2.2.1==0)
         (bnd (jE.c18 some) fun y11=>
          Z (.inr (.inr (.inr (tape,y.2.2.2.1,y.2.2.2.2,y9)))))
         (bnd (JS tape) fun y12=>
          sel y12
           (fun u_1=>bnd (jE.c21 some) fun y13=>
            Z (.inr (.inl (y.2.2.2.1,y.2.2.2.2,y9))))
           (fun v_1=>br (List.isEmpty v_1.1)
             (none)
             (Z (.inl (v_1.1,y9))))))))
def jE.ca_s:Shape:=(((((jE.c11s.d 8).d 9).d 10).d 11).g 11)
def jE.ca_x0:Shape:=((jE.ca_s.s 4 sc37).s 7 sc36)
def jE.ca_x2:Shape:=(jE.ca_s.s 4 sc37)
def jE.ca_r:LC:=⟨jE.ca_s,[(jE.ca_x0,1,[2,302,3,203]),(jE.ca_s,1,[2,400,201,301,3,203]),(jE.ca_x2,1,[2,201,301,3,203])],fun X=>([],()),[3,9],[1,3,4,5,6,9],@jE.ca_,fun _ _ _ _ _ _ _ _=>ja fun _=>(jf (ja fun _=>(ja fun _=>(ja fun _=>(jf (ja fun _=>(Yp (fun _=>jb) (fun _=>(jf UX jb)))) (ja fun _=>(ja fun _=>jb)))))) (jf (ja fun _=>jb) (ja fun _=>(ja fun _=>(jf (ja fun _=>jb) (jf (ja fun _=>jb) (ja fun _=>(Yp (fun _=>(ja fun _=>jb)) (fun _=>(jf UX jb))))))))))⟩
def jE (c:(Int)×((Int)×(List YO))) (t1:Int):Option ((List ((List Int)×((List Int)×(List UInt8))))×((Int)×(Int))):=
  bnd (iter (fun s↦jE.ca_ t1 s.1 c.1 c.2.1 c.2.2 s.2 some) ([],[])) fun y=>
  sel y
   (fun u=>some (u.2.2,u.1,u.2.1))
   (fun v=>sel v
     (fun u_1=>some ([],u_1.2.1,u_1.2.2.1))
     (fun v_1=>some (v_1.2.2.2,v_1.2.1,v_1.2.2.1)))
def jE.ce:=ceOf tab Tryz.f19 jE
def jE.G:EB Tryz.prog:=⟨tb,Tryz.f19,[⟨15,Jc.ce,Jc.ok⟩,⟨49,kO.ce,kO.ok⟩,⟨17,JV.ce,JV.ok⟩,⟨42,Jp.ce,Jp.ok⟩,⟨16,Jo.ce,Jo.ok⟩,⟨35,kA.ce,kA.ok⟩],[0,1,2,4,5,6,7,8,9,10,11,12,24,32,36,45,51,63,66,72],[6,12,45000034,45000070,46000036,46000072],[(21,[(3,[5])]),(18,[(3,[5])]),(14,[(2,[54]),(7,[54,59]),(8,[6])]),(11,[(1,[4]),(2,[5])])],[(100003,jE.ca_r.ck),(21,jE.c21r.ck),(18,jE.c18r.ck),(253253,jE.cy_r.ck),(14,jE.c14r.ck),(11,jE.c11r.ck)],[⟨51,jY.mc,jY.ok⟩],[⟨50,JS.ma,JS.ok⟩]⟩
theorem jE.ok:CalleeOk Tryz.prog 19 jE.ce:=fnB jE.G Tryz.func19 (m:=6) ⟨⟨⟨⟨⟨⟨trivial,kL jE.ca_r (by kernel_rfl)⟩,kR jE.c11r (by kernel_rfl)⟩,kJ jE.cy_r (by kernel_rfl)⟩,kR jE.c14r (by kernel_rfl)⟩,kR jE.c18r (by kernel_rfl)⟩,kR jE.c21r (by kernel_rfl)⟩ (by kernel_rfl)
end
end W
end
