/- Lifted functions, part 3: each with its contract. -/
import Derived.Test.YtaehnephoppjmaaGreatDoorWb
import Derived.Test.YtaehnephoppjmaaGreatDoorLf
import Derived.Test.YtaehnephoppjmaaGreatDoorProg
set_option linter.all false
section
set_option maxHeartbeats 4000000
set_option maxRecDepth 100000
namespace W
open Go Go.Ql Go.Proofs Go.IntKind
noncomputable section
variable {ρ:Type}
abbrev sa90:SO:=.box [.val (.sl .str),.val (.sl (.int .i64)),.val (.int .i64)]
def YS  : Option ((Int)×((Int)×(List YO))):=
  some ((2:Int),(1:Int),[((3:Int),(0:Int),[],(0:Int),(0:Int),[]),((2:Int),(0:Int),[(0:Int)],(1:Int),(0:Int),[]),((5:Int),(0:Int),[],(1:Int),(0:Int),[(-1:Int)])])
def YS.ce:=ceOf tab Tryz.f31 YS
def YS.G:EB Tryz.prog:=⟨tb,Tryz.f31,[],[0],[],[],[],[],[]⟩
theorem YS.ok:CalleeOk Tryz.prog 31 YS.ce:=fnB YS.G Tryz.func31 (m:=0) trivial (by kernel_rfl)
def Jd.c6 (a:List (List UInt8))(b:List (List UInt8))(i:Int)(Z:Bool→Option ρ):Option ρ:=
  bnd (idx a i) fun y=>
  bnd (idx b i) fun y1=>
  Z (!y==y1)
def Jd.c6s:Shape:=⟨[(0,sa70),(1,sa70),(4,sa11),(5,sa2)],[]⟩
def Jd.c6x0:Shape:=(Jd.c6s.s 25 sa11)
def Jd.c6r:RC:=⟨Jd.c6s,[(Jd.c6x0,0,[4,101])],no,[0,1,3],@Jd.c6,fun _ _ _ _ _=>jb fun _=>(jb fun _=>jc)⟩
def Jd.cb_ (a:List (List UInt8))(b:List (List UInt8))(i:Int)(Z:(Int)⊕((Int)⊕(Int))→Option ρ):Option ρ:=
  br (decide (i<(a.length:Int)))
   (bnd (Jd.c6 a b i some) fun y=>
    br y
     (Z (.inr (.inl i)))
     (Z (.inl (i64.wrap (i+1)))))
   (Z (.inr (.inr i)))
def Jd.cb_r:LC:=⟨Jd.c6s,[(Jd.c6s,1,[2,400,201,301]),(Jd.c6s,2,[3,201])],fun X=>(false,()),[3],[0,1,3],@Jd.cb_,fun _ _ _ _ _=>jf (jb fun _=>(jf jc jc)) jc⟩
def Jd (a:List (List UInt8)) (b:List (List UInt8)):Option Bool:=
  br ((a.length:Int) !=(b.length:Int))
   (some false)
   (bnd (iter (fun s↦Jd.cb_ a b s some) (0:Int)) fun y=>
    sel y
     (fun u=>some false)
     (fun v=>some true))
def Jd.ce:=ceOf tab Tryz.f32 Jd
def Jd.G:EB Tryz.prog:=⟨tb,Tryz.f32,[],[0,1,4,5,10,14,25],[],[(6,[])],[(100004,Jd.cb_r.ck),(6,Jd.c6r.ck)],[],[]⟩
theorem Jd.ok:CalleeOk Tryz.prog 32 Jd.ce:=fnB Jd.G Tryz.func32 (m:=2) ⟨⟨trivial,kL Jd.cb_r (by kernel_rfl)⟩,kR Jd.c6r (by kernel_rfl)⟩ (by kernel_rfl)
def jZ.c6 (a:List (Int))(b:List (Int))(i:Int)(Z:Bool→Option ρ):Option ρ:=
  bnd (idx a i) fun y=>
  bnd (idx b i) fun y1=>
  Z (y !=y1)
def jZ.c6s:Shape:=⟨[(0,sa0),(1,sa0),(4,sa11),(5,sa2)],[]⟩
def jZ.c6x0:Shape:=(jZ.c6s.s 25 sa11)
def jZ.c6r:RC:=⟨jZ.c6s,[(jZ.c6x0,0,[4,101])],no,[0,1,3],@jZ.c6,fun _ _ _ _ _=>jb fun _=>(jb fun _=>jc)⟩
def jZ.cb_ (a:List (Int))(b:List (Int))(i:Int)(Z:(Int)⊕((Int)⊕(Int))→Option ρ):Option ρ:=
  br (decide (i<(a.length:Int)))
   (bnd (jZ.c6 a b i some) fun y=>
    br y
     (Z (.inr (.inl i)))
     (Z (.inl (i64.wrap (i+1)))))
   (Z (.inr (.inr i)))
def jZ.cb_r:LC:=⟨jZ.c6s,[(jZ.c6s,1,[2,400,201,301]),(jZ.c6s,2,[3,201])],fun X=>(false,()),[3],[0,1,3],@jZ.cb_,fun _ _ _ _ _=>jf (jb fun _=>(jf jc jc)) jc⟩
def jZ (a:List (Int)) (b:List (Int)):Option Bool:=
  br ((a.length:Int) !=(b.length:Int))
   (some false)
   (bnd (iter (fun s↦jZ.cb_ a b s some) (0:Int)) fun y=>
    sel y
     (fun u=>some false)
     (fun v=>some true))
def jZ.ce:=ceOf tab Tryz.f13 jZ
def jZ.G:EB Tryz.prog:=⟨tb,Tryz.f13,[],[0,1,4,5,10,14,25],[],[(6,[])],[(100004,jZ.cb_r.ck),(6,jZ.c6r.ck)],[],[]⟩
theorem jZ.ok:CalleeOk Tryz.prog 13 jZ.ce:=fnB jZ.G Tryz.func13 (m:=2) ⟨⟨trivial,kL jZ.cb_r (by kernel_rfl)⟩,kR jZ.c6r (by kernel_rfl)⟩ (by kernel_rfl)
abbrev sa91:SD:=.one (.val (.st (.pair (.sl .str) (.pair (.sl (.int .i64)) (.int .i64)))))
def JQ.c1 (a0:List (List UInt8))(a1:List (Int))(a2:Int)(b0:List (List UInt8))(b1:List (Int))(b2:Int)(Z:Bool→Option ρ):Option ρ:=
  bnd (Jd a0 b0) fun y=>
  br y
   (bnd (jZ a1 b1) fun y1=>
    br y1
     (Z (a2==b2))
     (Z false))
   (Z false)
def JQ.c1s:Shape:=⟨[(0,sa91),(1,sa91),(2,sa6),(3,sa7),(4,sa11)],[(2,sa90),(3,sa90)]⟩
def JQ.c1r:RC:=⟨JQ.c1s,[(JQ.c1s,0,[2,201])],no,[3,4,5,6,7,8],@JQ.c1,fun _ _ _ _ _ _ _ _=>jb fun _=>(jf (jb fun _=>(jf jc jc)) jc)⟩
def JQ (a:(List (List UInt8))×((List Int)×(Int))) (b:(List (List UInt8))×((List Int)×(Int))):Option Bool:=
  bnd (JQ.c1 a.1 a.2.1 a.2.2 b.1 b.2.1 b.2.2 some) fun y=>
  some y
def JQ.ce:=ceOf tab Tryz.f11 JQ
def JQ.G:EB Tryz.prog:=⟨tb,Tryz.f11,[⟨32,Jd.ce,Jd.ok⟩,⟨13,jZ.ce,jZ.ok⟩],[0,1,2,3,4],[],[],[(1,JQ.c1r.ck)],[],[]⟩
theorem JQ.ok:CalleeOk Tryz.prog 11 JQ.ce:=fnB JQ.G Tryz.func11 (m:=1) ⟨trivial,kR JQ.c1r (by kernel_rfl)⟩ (by kernel_rfl)
def Js.cb_ (a_1:YN)(t13:Int)(out:List YN)(Z:((Int)×(List YN))⊕((Int)×(List YN))→Option ρ):Option ρ:=
  br (decide (t13<7))
   (bnd (idx a_1.1 (i64.wrap (t13+1))) fun y=>
    bnd (whole_Int_Neg y) fun y1=>
    bnd (inR (out.length) (0:Int)) fun y2=>
    bnd (okIf (decide ((0:Ty.den (Ty.int IntKind.i64))≤i64.wrap ((7:Int)-t13))&&decide (i64.wrap ((7:Int)-t13)<(↑(8:Nat):Int)))) fun y3=>
    bnd (idx out (0:Int)) fun y4=>
    bnd (idx y4.1 (i64.wrap ((7:Int)-t13))) fun y5=>
    Z (.inl ((i64.wrap (t13+1)),(List.set out (0:Nat) (List.set y4.1 (Int.toNat (i64.wrap ((7:Int)-t13))) y1,y4.2)))))
   (Z (.inr (t13,out)))
def Js.cb_s:Shape:=⟨[(0,sa23),(1,sa24),(2,sa54),(3,sa55),(13,sa2)],[(2,sa28),(3,sa28)]⟩
def Js.cb_r:LC:=⟨Js.cb_s,[(Js.cb_s,2,[2,201,1,201])],no,[2,4],[1,2,4],@Js.cb_,fun _ _ _ _ _=>jf (jb fun _=>(jb fun _=>(jb fun _=>(jb fun _=>(jb fun _=>(jb fun _=>jc)))))) jc⟩
def Js (a:YN):Option YN:=
  bnd (idx a.1 (0:Int)) fun y=>
  bnd (idx (List.replicate (8:Nat) (false,([]:List (Ty.den (Ty.int IntKind.u32))))) (0:Int)) fun y1=>
  bnd (iter (fun s↦Js.cb_ a s.1 s.2 some) ((0:Int),(List.set (List.replicate (8:Nat) (false,([]:List (Ty.den (Ty.int IntKind.u32))))) (0:Nat) y,a.2)::([]:List (Ty.den (Ty.st (Ty.pair (Ty.ar (nat_lit 8) (Ty.st (Ty.pair Ty.bool (Ty.sl (Ty.int IntKind.u32))))) (Ty.int IntKind.i64))))))) fun y2=>
  bnd (idx y2.2 (0:Int)) fun y3=>
  some y3
def Js.ce:=ceOf tab Tryz.f83 Js
def Js.G:EB Tryz.prog:=⟨tb,Tryz.f83,[⟨116,whole_Int_Neg.ce,whole_Int_Neg.ok⟩],[0,1,2,3,4,13,14],[2,3,7,8000001],[],[(100004,Js.cb_r.ck)],[],[]⟩
theorem Js.ok:CalleeOk Tryz.prog 83 Js.ce:=fnB Js.G Tryz.func83 (m:=1) ⟨trivial,kL Js.cb_r (by kernel_rfl)⟩ (by kernel_rfl)
abbrev sa92:SD:=.one (.own 18 0)
def whole_Int_Mul.ce_ (i:Int)(x:Int)(carry:Int)(t28:List (Int))(t29:Int)(t30:Int)(t18:List (Int))(Z:((Int)×(Int)×(List Int))⊕((Int)×(Int)×(List Int))→Option ρ):Option ρ:=
  br (decide (t30<t29))
   (bnd (idx t28 t30) fun y=>
    bnd (inR (t18.length) (i64.wrap (i+t30))) fun y1=>
    bnd (idx t18 (i64.wrap (i+t30))) fun y2=>
    bnd (inR (t18.length) (i64.wrap (i+t30))) fun y3=>
    bnd (idx t18 (i64.wrap (i+t30))) fun y4=>
    Z (.inl ((Int.fdiv (u64.wrap (carry+u64.wrap (u64.wrap (IntKind.wrap IntKind.u64 x*IntKind.wrap IntKind.u64 y)+IntKind.wrap IntKind.u64 y2))) ((2:Int) ^32)),(i64.wrap (t30+1)),(List.set t18 (Int.toNat (i64.wrap (i+t30))) (u32.wrap (u64.wrap (carry+u64.wrap (u64.wrap (IntKind.wrap IntKind.u64 x*IntKind.wrap IntKind.u64 y)+IntKind.wrap IntKind.u64 y2))))))))
   (Z (.inr (carry,t30,t18)))
def whole_Int_Mul.ce_s:Shape:=⟨[(0,sa50),(1,sa50),(2,sa6),(3,sa7),(4,sa20),(5,sa92),(6,sa2),(7,sa46),(8,sa22),(20,sa19),(21,sa2),(22,sa2),(28,sa19),(29,sa2),(30,sa2)],[(2,sa21),(3,sa21),(4,sa21),(18,sa43)]⟩
def whole_Int_Mul.ce_r:LC:=⟨whole_Int_Mul.ce_s,[(whole_Int_Mul.ce_s,4,[4,201,5,201,6,201])],no,[4,10,17],[2,3,4,8,9,10,17],@whole_Int_Mul.ce_,fun _ _ _ _ _ _ _ _ _=>jf (jb fun _=>(jb fun _=>(jb fun _=>(jb fun _=>(jb fun _=>jc))))) jc⟩
def whole_Int_Mul.ca_ (t20:List (Int))(t21:Int)(t22:Int)(b1:List (Int))(t18:List (Int))(Z:((Int)×(List Int))⊕((Int)×(List Int))→Option ρ):Option ρ:=
  br (decide (t22<t21))
   (bnd (idx t20 t22) fun y=>
    bnd (iter (fun s↦whole_Int_Mul.ce_ t22 y s.1 b1 (b1.length:Int) s.2.1 s.2.2 some) ((0:Int),(0:Int),t18)) fun y1=>
    bnd (inR (List.length y1.2.2) (i64.wrap (t22+(b1.length:Int)))) fun y2=>
    bnd (idx y1.2.2 (i64.wrap (t22+(b1.length:Int)))) fun y3=>
    Z (.inl ((i64.wrap (t22+1)),(List.set y1.2.2 (Int.toNat (i64.wrap (t22+(b1.length:Int)))) (u32.wrap y1.1)))))
   (Z (.inr (t22,t18)))
def whole_Int_Mul.ca_s:Shape:=((((((whole_Int_Mul.ce_s.d 6).d 7).d 8).d 28).d 29).d 30)
def whole_Int_Mul.ca_r:LC:=⟨whole_Int_Mul.ca_s,[(whole_Int_Mul.ca_s,2,[4,201,6,201])],no,[4,11],[2,3,4,8,11],@whole_Int_Mul.ca_,fun _ _ _ _ _ _ _=>jf (jb fun _=>(jb fun _=>(jb fun _=>(jb fun _=>jc)))) jc⟩
def whole_Int_Mul (a:Bool×(List Int)) (b:Bool×(List Int)):Option (Bool×(List Int)):=
  bnd (okIf (decide ((0:Int)≤i64.wrap ((↑(List.length a.2):Int)+(↑(List.length b.2):Int)))&&decide (i64.wrap ((↑(List.length a.2):Int)+(↑(List.length b.2):Int))≤i64.wrap ((↑(List.length a.2):Int)+(↑(List.length b.2):Int)))&&decide (i64.wrap ((↑(List.length a.2):Int)+(↑(List.length b.2):Int))*(↑(4:Nat):Int)≤140737488355328)&&decide (i64.wrap ((↑(List.length a.2):Int)+(↑(List.length b.2):Int))≤140737488355328))) fun y=>
  bnd (iter (fun s↦whole_Int_Mul.ca_ a.2 (↑(List.length a.2):Int) s.1 b.2 s.2 some) ((0:Int),List.replicate (Int.toNat (i64.wrap ((↑(List.length a.2):Int)+(↑(List.length b.2):Int)))) (0:Int))) fun y1=>
  bnd (whole_made (!a.1==b.1) y1.2) fun y2=>
  some (y2.1,y2.2)
def whole_Int_Mul.ce:=ceOf tab Tryz.f115 whole_Int_Mul
def whole_Int_Mul.G:EB Tryz.prog:=⟨tb,Tryz.f115,[⟨121,whole_made.ce,whole_made.ok⟩],[0,1,2,3,4,5,6,7,8,9,10,20,21,22,23,28,29,30,31],[18],[],[(100003,whole_Int_Mul.ca_r.ck),(100007,whole_Int_Mul.ce_r.ck)],[],[]⟩
theorem whole_Int_Mul.ok:CalleeOk Tryz.prog 115 whole_Int_Mul.ce:=fnB whole_Int_Mul.G Tryz.func115 (m:=2) ⟨⟨trivial,kL whole_Int_Mul.ca_r (by kernel_rfl)⟩,kL whole_Int_Mul.ce_r (by kernel_rfl)⟩ (by kernel_rfl)
def jp.cr_ (i:Int)(j:Int)(z0:Bool)(z1:List (Int))(Z:Bool×(List Int)→Option ρ):Option ρ:=
  br (decide (i64.wrap (i+j)≥8))
   (bnd (whole_Int_Neg (z0,z1)) fun y=>
    Z (y.1,y.2))
   (Z (z0,z1))
def jp.cr_s:Shape:=⟨[(0,sa23),(1,sa23),(2,sa24),(3,sa24),(4,sa25),(5,sa15),(6,sa2),(7,sa26),(8,sa2),(9,sa84),(10,sa85),(12,sa27),(13,sa2),(21,sa27),(22,sa2)],[(4,sa28),(5,sa53),(7,sa21),(9,sa21),(10,sa21)]⟩
def jp.cr_r:RC:=⟨jp.cr_s,[(jp.cr_s,0,[16,202])],no,[4,5,16,17],@jp.cr_,fun _ _ _ _ _ _=>jf (jb fun _=>jc) jc⟩
def jp.c12 (i:Int)(j:Int)(out:List (Bool×(List Int)))(z0:Bool)(z1:List (Int))(Z:List (Bool×(List Int))→Option ρ):Option ρ:=
  bnd (okIf (decide ((0:Ty.den (Ty.int IntKind.i64))≤ibits BinOp.and IntKind.i64 (i64.wrap (i+j)) (7:Int))&&decide (ibits BinOp.and IntKind.i64 (i64.wrap (i+j)) (7:Int)<(↑(8:Nat):Int)))) fun y=>
  bnd (inR (out.length) (ibits BinOp.and IntKind.i64 (i64.wrap (i+j)) (7:Int))) fun y1=>
  bnd (idx out (ibits BinOp.and IntKind.i64 (i64.wrap (i+j)) (7:Int))) fun y2=>
  bnd (whole_Int_Add y2 (z0,z1)) fun y3=>
  bnd (okIf (decide ((0:Ty.den (Ty.int IntKind.i64))≤ibits BinOp.and IntKind.i64 (i64.wrap (i+j)) (7:Int))&&decide (ibits BinOp.and IntKind.i64 (i64.wrap (i+j)) (7:Int)<(↑(8:Nat):Int)))) fun y4=>
  bnd (inR (out.length) (ibits BinOp.and IntKind.i64 (i64.wrap (i+j)) (7:Int))) fun y5=>
  bnd (idx out (ibits BinOp.and IntKind.i64 (i64.wrap (i+j)) (7:Int))) fun y6=>
  Z (List.set out (Int.toNat (ibits BinOp.and IntKind.i64 (i64.wrap (i+j)) (7:Int))) y3)
def jp.c12r:RC:=⟨jp.cr_s,[(jp.cr_s,0,[11,201])],no,[4,5,11,16,17],@jp.c12,fun _ _ _ _ _ _ _=>jb fun _=>(jb fun _=>(jb fun _=>(jb fun _=>(jb fun _=>(jb fun _=>(jb fun _=>jc))))))⟩
def jp.ce_ (i:Int)(t21:List (Bool×(List Int)))(t22:Int)(out:List (Bool×(List Int)))(x0:Bool)(x1:List (Int))(Z:((Int)×(List (Bool×(List Int))))⊕((Int)×(List (Bool×(List Int))))→Option ρ):Option ρ:=
  br (decide (t22<8))
   (bnd (idx t21 t22) fun y=>
    bnd (whole_Int_Mul (x0,x1) (y.1,y.2)) fun y1=>
    bnd (jp.cr_ i t22 y1.1 y1.2 some) fun y2=>
    bnd (jp.c12 i t22 out y2.1 y2.2 some) fun y3=>
    Z (.inl ((i64.wrap (t22+1)),y3)))
   (Z (.inr (t22,out)))
def jp.ce_s:Shape:=(((((jp.cr_s.d 8).d 9).d 10).g 9).g 10)
def jp.ce_r:LC:=⟨jp.ce_s,[(jp.ce_s,4,[8,201,1,201])],no,[8,10],[4,7,8,10,11,12],@jp.ce_,fun _ _ _ _ _ _ _ _=>jf (jb fun _=>(jb fun _=>(jb fun _=>(jb fun _=>jc)))) jc⟩
def jp.cD_ (b_1:YN)(t12:List (Bool×(List Int)))(t13:Int)(out:List (Bool×(List Int)))(Z:List (Bool×(List Int))→Option ρ):Option ρ:=
  bnd (idx t12 t13) fun y=>
  bnd (whole_Int_Sign (y.1,y.2)) fun y1=>
  br (y1==0)
   (Z out)
   (bnd (iter (fun s↦jp.ce_ t13 b_1.1 s.1 s.2 y.1 y.2 some) ((0:Int),out)) fun y2=>
    Z y2.2)
def jp.cD_s:Shape:=(((((jp.ce_s.d 6).d 7).d 21).d 22).g 7)
def jp.cD_r:RC:=⟨jp.cD_s,[(jp.cD_s,0,[7,201])],no,[3,4,5,7],@jp.cD_,fun _ _ _ _ _ _=>jb fun _=>(jb fun _=>(jf jc (jb fun _=>jc)))⟩
def jp.ca_ (b_1:YN)(t12:List (Bool×(List Int)))(t13:Int)(out:List (Bool×(List Int)))(Z:((Int)×(List (Bool×(List Int))))⊕((Int)×(List (Bool×(List Int))))→Option ρ):Option ρ:=
  br (decide (t13<8))
   (bnd (jp.cD_ b_1 t12 t13 out some) fun y=>
    Z (.inl ((i64.wrap (t13+1)),y)))
   (Z (.inr (t13,out)))
def jp.ca_r:LC:=⟨jp.cD_s,[(jp.cD_s,2,[5,201,1,201])],no,[5,7],[3,4,5,7],@jp.ca_,fun _ _ _ _ _ _=>jf (jb fun _=>jc) jc⟩
def jp (a:YN) (b:YN):Option YN:=
  bnd (iter (fun s↦jp.ca_ b a.1 s.1 s.2 some) ((0:Int),List.replicate (8:Nat) (false,[]))) fun y=>
  bnd (okIf (decide (List.length y.2=8))) fun y1=>
  bnd (jD y.2 (i64.wrap (a.2+b.2))) fun y2=>
  some y2
def jp.ce:=ceOf tab Tryz.f82 jp
def jp.G:EB Tryz.prog:=⟨tb,Tryz.f82,[⟨60,whole_Int_Sign.ce,whole_Int_Sign.ok⟩,⟨115,whole_Int_Mul.ce,whole_Int_Mul.ok⟩,⟨116,whole_Int_Neg.ce,whole_Int_Neg.ok⟩,⟨92,whole_Int_Add.ce,whole_Int_Add.ok⟩,⟨90,jD.ce,jD.ok⟩],[0,1,2,3,4,5,6,7,8,9,10,12,13,14,19,21,22,23,32],[4,5,8000002,8000003],[(12,[(13,[5])])],[(100003,jp.ca_r.ck),(216417,jp.cD_r.ck),(100007,jp.ce_r.ck),(12,jp.c12r.ck),(240965,jp.cr_r.ck)],[],[]⟩
theorem jp.ok:CalleeOk Tryz.prog 82 jp.ce:=fnB jp.G Tryz.func82 (m:=5) ⟨⟨⟨⟨⟨trivial,kL jp.ca_r (by kernel_rfl)⟩,kJ jp.cD_r (by kernel_rfl)⟩,kL jp.ce_r (by kernel_rfl)⟩,kJ jp.cr_r (by kernel_rfl)⟩,kR jp.c12r (by kernel_rfl)⟩ (by kernel_rfl)
def Jy.c1 (a_1:YN)(t2:List YN)(Z:List YN→Option ρ):Option ρ:=
  bnd (Js a_1) fun y=>
  bnd (jp a_1 y) fun y1=>
  bnd (idx t2 (0:Int)) fun y2=>
  Z (List.set t2 (0:Nat) y1)
def Jy.c1s:Shape:=⟨[(0,sa23),(1,sa24),(2,sa54)],[(2,sa28)]⟩
def Jy.c1r:RC:=⟨Jy.c1s,[(Jy.c1s,0,[2,201])],no,[1,2],@Jy.c1,fun _ _ _ _=>jb fun _=>(jb fun _=>(jb fun _=>jc))⟩
def Jy (a:YN):Option YN:=
  bnd (Jy.c1 a [(List.replicate (8:Nat) (false,[]),(0:Int))] some) fun y=>
  bnd (idx y (0:Int)) fun y1=>
  some y1
def Jy.ce:=ceOf tab Tryz.f67 Jy
def Jy.G:EB Tryz.prog:=⟨tb,Tryz.f67,[⟨83,Js.ce,Js.ok⟩,⟨82,jp.ce,jp.ok⟩],[0,1,2],[2,8000001],[(1,[(4,[2])])],[(1,Jy.c1r.ck)],[],[]⟩
theorem Jy.ok:CalleeOk Tryz.prog 67 Jy.ce:=fnB Jy.G Tryz.func67 (m:=1) ⟨trivial,kR Jy.c1r (by kernel_rfl)⟩ (by kernel_rfl)
def jl.pre:Shape:=⟨[(0,sa40)],[(2000000,sa28)]⟩
def jl.post:Shape:=⟨[(0,sa23)],[(2000000,sa28)]⟩
def jl.c6 (sum:List YN)(a:List YN)(Z:List YN→Option ρ):Option ρ:=
  bnd (idx sum (0:Int)) fun y=>
  bnd (idx a (0:Int)) fun y1=>
  bnd (Jy y1) fun y2=>
  bnd (jC y y2) fun y3=>
  bnd (idx sum (0:Int)) fun y4=>
  Z (List.set sum (0:Nat) y3)
def jl.c6s:Shape:=(((((((((jl.pre.s 2 sa54).s 3 sa55).s 5 sa15).s 6 sa40).s 7 sa2).s 8 sa2).o 2 sa28).o 3 sa28).o 5 sa28)
def jl.c6r:RC:=⟨jl.c6s,[(jl.c6s,0,[7,201])],no,[7,8],@jl.c6,fun _ _ _ _=>jb fun _=>(jb fun _=>(jb fun _=>(jb fun _=>(jb fun _=>jc))))⟩
def jl.ch_ (t6lo:Int)(t6n:Int)(t8:Int)(sum:List YN)(ua:List YN)(Z:List YN→Option ρ):Option ρ:=
  bnd (okIf (decide ((0:Ty.den (Ty.int IntKind.i64))≤t8)&&decide (t8<t6n))) fun y=>
  bnd (idx ua (t6lo+t8)) fun y1=>
  bnd (jU y1) fun y2=>
  br (!y2)
   (bnd (jl.c6 sum [y1] some) fun y3=>
    Z y3)
   (Z sum)
def jl.ch_s:Shape:=((jl.c6s.d 5).g 5)
def jl.ch_r:RC:=⟨jl.ch_s,[(jl.ch_s,0,[7,201])],no,[2,3,5,7,8],@jl.ch_,fun _ _ _ _ _ _ _=>jb fun _=>(jb fun _=>(jb fun _=>(jf (jb fun _=>jc) jc)))⟩
def jl.ca_ (t6lo:Int)(t6n:Int)(t7:Int)(t8:Int)(sum:List YN)(ua:List YN)(Z:((Int)×(List YN))⊕((Int)×(List YN))→Option ρ):Option ρ:=
  br (decide (t8<t7))
   (bnd (jl.ch_ t6lo t6n t8 sum ua some) fun y=>
    Z (.inl ((i64.wrap (t8+1)),y)))
   (Z (.inr (t8,sum)))
def jl.ca_r:LC:=⟨jl.ch_s,[(jl.ch_s,2,[5,201,1,201])],no,[5,7],[2,3,4,5,7,8],@jl.ca_,fun _ _ _ _ _ _ _ _=>jf (jb fun _=>jc) jc⟩
def jl (vlo:Int) (vn:Int) (ua:List YN):Option (YN×(List YN)×Unit):=
  bnd (iter (fun s↦jl.ca_ vlo vn (↑(List.length (part vlo vn ua)):Int) s.1 s.2 ua some) ((0:Int),[(List.replicate (8:Nat) (false,[]),(0:Int))])) fun y=>
  bnd (idx y.2 (0:Int)) fun y1=>
  some (y1,ua,())
def jl.mc:MCallee:=⟨33,jl.pre,jl.post,fun X=>jl X.1 X.2.1 X.2.2.1⟩
def jl.G:EB Tryz.prog:=⟨tb,Tryz.f33,[⟨66,jU.ce,jU.ok⟩,⟨67,Jy.ce,Jy.ok⟩,⟨59,jC.ce,jC.ok⟩],[0,2,3,5,6,7,8,9,14],[2,3,5,2000000],[(6,[(4,[3])])],[(100003,jl.ca_r.ck),(216392,jl.ch_r.ck),(6,jl.c6r.ck)],[],[]⟩
theorem jl.ok:MOk Tryz.prog 33 jl.mc:=fnM jl.G (mc:=jl.mc) Tryz.func33 (m:=3) ⟨⟨⟨trivial,kL jl.ca_r (by kernel_rfl)⟩,kJ jl.ch_r (by kernel_rfl)⟩,kR jl.c6r (by kernel_rfl)⟩ (by kernel_rfl)
def JO.c5 (a_1:YN)(i:Int)(out:List YN)(Z:List YN→Option ρ):Option ρ:=
  bnd (idx out (0:Int)) fun y=>
  bnd (idx a_1.1 i) fun y1=>
  bnd (VJ y1) fun y2=>
  bnd (Jc (y2.1,a_1.2) (i64.wrap ((0:Int)-i))) fun y3=>
  bnd (JC y y3) fun y4=>
  bnd (idx out (0:Int)) fun y5=>
  Z (List.set out (0:Nat) y4)
def JO.c5s:Shape:=⟨[(0,sa73),(1,sa74),(2,sa54),(3,sa55),(4,sa2)],[(2,sa77),(3,sa77)]⟩
def JO.c5r:RC:=⟨JO.c5s,[(JO.c5s,0,[4,201])],no,[1,2,4],@JO.c5,fun _ _ _ _ _=>jb fun _=>(jb fun _=>(jb fun _=>(jb fun _=>(jb fun _=>(jb fun _=>jc)))))⟩
def JO.ca_ (a_1:YN)(i:Int)(out:List YN)(Z:((Int)×(List YN))⊕((Int)×(List YN))→Option ρ):Option ρ:=
  br (decide (i<8))
   (bnd (JO.c5 a_1 i out some) fun y=>
    Z (.inl ((i64.wrap (i+1)),y)))
   (Z (.inr (i,out)))
def JO.ca_r:LC:=⟨JO.c5s,[(JO.c5s,2,[2,201,1,201])],no,[2,4],[1,2,4],@JO.ca_,fun _ _ _ _ _=>jf (jb fun _=>jc) jc⟩
def JO (a:YN):Option YN:=
  bnd (iter (fun s↦JO.ca_ a s.1 s.2 some) ((0:Int),[(List.replicate (8:Nat) (false,[]),(0:Int))])) fun y=>
  bnd (Je a) fun y1=>
  br y1
   (some (List.replicate (8:Nat) (false,[]),(0:Int)))
   (bnd (idx y.2 (0:Int)) fun y2=>
    bnd (jN y2) fun y3=>
    some y3)
def JO.ce:=ceOf tab Tryz.f57 JO
def JO.G:EB Tryz.prog:=⟨tb,Tryz.f57,[⟨69,VJ.ce,VJ.ok⟩,⟨71,Jc.ce,Jc.ok⟩,⟨43,JC.ce,JC.ok⟩,⟨42,Je.ce,Je.ok⟩,⟨77,jN.ce,jN.ok⟩],[0,1,2,3,4,7,25],[2,3,5,26,8000001],[(5,[(14,[3])])],[(100003,JO.ca_r.ck),(5,JO.c5r.ck)],[],[]⟩
theorem JO.ok:CalleeOk Tryz.prog 57 JO.ce:=fnB JO.G Tryz.func57 (m:=2) ⟨⟨trivial,kL JO.ca_r (by kernel_rfl)⟩,kR JO.c5r (by kernel_rfl)⟩ (by kernel_rfl)
def kW.c1 (a0:Bool)(a1:List (Int))(b0:Bool)(b1:List (Int))(Z:Bool×(List Int)→Option ρ):Option ρ:=
  bnd (Yz (b0,b1)) fun y=>
  bnd (JD (a0,a1) y) fun y1=>
  Z (y1.1,y1.2)
def kW.c1s:Shape:=⟨[(0,sa75),(1,sa75),(2,sa6),(3,sa7),(4,sa20)],[(2,sa72),(3,sa72),(4,sa72)]⟩
def kW.c1r:RC:=⟨kW.c1s,[(kW.c1s,0,[6,202])],no,[2,3,4,5],@kW.c1,fun _ _ _ _ _ _=>jb fun _=>(jb fun _=>jc)⟩
def kW (a:Bool×(List Int)) (b:Bool×(List Int)):Option (Bool×(List Int)):=
  bnd (kW.c1 a.1 a.2 b.1 b.2 some) fun y=>
  some (y.1,y.2)
def kW.ce:=ceOf tab Tryz.f85 kW
def kW.G:EB Tryz.prog:=⟨tb,Tryz.f85,[⟨102,Yz.ce,Yz.ok⟩,⟨76,JD.ce,JD.ok⟩],[0,1,2,3,4],[],[(1,[(4,[4])])],[(1,kW.c1r.ck)],[],[]⟩
theorem kW.ok:CalleeOk Tryz.prog 85 kW.ce:=fnB kW.G Tryz.func85 (m:=1) ⟨trivial,kR kW.c1r (by kernel_rfl)⟩ (by kernel_rfl)
def jE.c1 (a_1:YN)(b_1:YN)(Z:Bool→Option ρ):Option ρ:=
  bnd (Je a_1) fun y=>
  br y
   (Z true)
   (bnd (Je b_1) fun y1=>
    Z y1)
def jE.c1s:Shape:=⟨[(0,sa73),(1,sa73),(2,sa74),(3,sa74),(4,sa25)],[(4,sa77)]⟩
def jE.c1x0:Shape:=(jE.c1s.s 14 sa11)
def jE.c1r:RC:=⟨jE.c1s,[(jE.c1x0,0,[4,101])],no,[2,3],@jE.c1,fun _ _ _ _=>jb fun _=>(jf jc (jb fun _=>jc))⟩
def jE.c11 (a_1:YN)(b_1:YN)(i:Int)(j:Int)(Z:Bool→Option ρ):Option ρ:=
  bnd (idx a_1.1 i) fun y=>
  br (decide ((↑(List.length y.2):Int)>0))
   (bnd (idx b_1.1 j) fun y1=>
    Z (decide ((↑(List.length y1.2):Int)>0)))
   (Z false)
def jE.c11s:Shape:=((((jE.c1s.s 5 sa15).s 6 sa2).s 7 sa2).o 5 sa77)
def jE.c11x0:Shape:=(jE.c11s.s 46 sa11)
def jE.c11r:RC:=⟨jE.c11s,[(jE.c11x0,0,[6,101])],no,[2,3,4,5],@jE.c11,fun _ _ _ _ _ _=>jb fun _=>(jf (jb fun _=>jc) jc)⟩
def jE.c12 (a_1:YN)(b_1:YN)(i:Int)(j:Int)(Z:Bool×(List Int)→Option ρ):Option ρ:=
  bnd (idx a_1.1 i) fun y=>
  bnd (idx b_1.1 j) fun y1=>
  bnd (jT y y1) fun y2=>
  Z (y2.1,y2.2)
def jE.c12x0:Shape:=((jE.c11s.s 8 sa51).o 8 sa72)
def jE.c12r:RC:=⟨jE.c11s,[(jE.c12x0,0,[8,102])],no,[2,3,4,5],@jE.c12,fun _ _ _ _ _ _=>jb fun _=>(jb fun _=>(jb fun _=>jc))⟩
def jE.c14 (i:Int)(j:Int)(out:List YN)(c0:Bool)(c1:List (Int))(Z:List YN→Option ρ):Option ρ:=
  bnd (inR (out.length) (0:Int)) fun y=>
  bnd (okIf (decide ((0:Ty.den (Ty.int IntKind.i64))≤i64.wrap (i+j))&&decide (i64.wrap (i+j)<(↑(8:Nat):Int)))) fun y1=>
  bnd (idx out (0:Int)) fun y2=>
  bnd (idx y2.1 (i64.wrap (i+j))) fun y3=>
  bnd (JD y3 (c0,c1)) fun y4=>
  bnd (inR (out.length) (0:Int)) fun y5=>
  bnd (okIf (decide ((0:Ty.den (Ty.int IntKind.i64))≤i64.wrap (i+j))&&decide (i64.wrap (i+j)<(↑(8:Nat):Int)))) fun y6=>
  bnd (idx out (0:Int)) fun y7=>
  bnd (idx y7.1 (i64.wrap (i+j))) fun y8=>
  Z (List.set out (0:Nat) (List.set y7.1 (Int.toNat (i64.wrap (i+j))) y4,y7.2))
def jE.c14r:RC:=⟨jE.c12x0,[(jE.c12x0,0,[7,201])],no,[4,5,7,8,9],@jE.c14,fun _ _ _ _ _ _ _=>jb fun _=>(jb fun _=>(jb fun _=>(jb fun _=>(jb fun _=>(jb fun _=>(jb fun _=>(jb fun _=>(jb fun _=>jc))))))))⟩
def jE.c15 (i:Int)(j:Int)(out:List YN)(c0:Bool)(c1:List (Int))(Z:List YN→Option ρ):Option ρ:=
  bnd (inR (out.length) (0:Int)) fun y=>
  bnd (okIf (decide ((0:Ty.den (Ty.int IntKind.i64))≤i64.wrap (i64.wrap (i+j)-8))&&decide (i64.wrap (i64.wrap (i+j)-8)<(↑(8:Nat):Int)))) fun y1=>
  bnd (idx out (0:Int)) fun y2=>
  bnd (idx y2.1 (i64.wrap (i64.wrap (i+j)-8))) fun y3=>
  bnd (kW y3 (c0,c1)) fun y4=>
  bnd (inR (out.length) (0:Int)) fun y5=>
  bnd (okIf (decide ((0:Ty.den (Ty.int IntKind.i64))≤i64.wrap (i64.wrap (i+j)-8))&&decide (i64.wrap (i64.wrap (i+j)-8)<(↑(8:Nat):Int)))) fun y6=>
  bnd (idx out (0:Int)) fun y7=>
  bnd (idx y7.1 (i64.wrap (i64.wrap (i+j)-8))) fun y8=>
  Z (List.set out (0:Nat) (List.set y7.1 (Int.toNat (i64.wrap (i64.wrap (i+j)-8))) y4,y7.2))
def jE.c15r:RC:=⟨jE.c12x0,[(jE.c12x0,0,[7,201])],no,[4,5,7,8,9],@jE.c15,fun _ _ _ _ _ _ _=>jb fun _=>(jb fun _=>(jb fun _=>(jb fun _=>(jb fun _=>(jb fun _=>(jb fun _=>(jb fun _=>(jb fun _=>jc))))))))⟩
def jE.cP_ (a_1:YN)(b_1:YN)(i:Int)(j:Int)(out:List YN)(Z:List YN→Option ρ):Option ρ:=
  bnd (jE.c11 a_1 b_1 i j some) fun y=>
  br y
   (bnd (jE.c12 a_1 b_1 i j some) fun y1=>
    br (decide (i64.wrap (i+j)<8))
     (bnd (jE.c14 i j out y1.1 y1.2 some) fun y2=>
      Z y2)
     (bnd (jE.c15 i j out y1.1 y1.2 some) fun y3=>
      Z y3))
   (Z out)
def jE.cP_r:RC:=⟨jE.c11s,[(jE.c11s,0,[7,201])],no,[2,3,4,5,7],@jE.cP_,fun _ _ _ _ _ _ _=>jb fun _=>(jf (jb fun _=>(jf (jb fun _=>jc) (jb fun _=>jc))) jc)⟩
def jE.co_ (a_1:YN)(b_1:YN)(i:Int)(j:Int)(out:List YN)(Z:((Int)×(List YN))⊕((Int)×(List YN))→Option ρ):Option ρ:=
  br (decide (j<8))
   (bnd (jE.cP_ a_1 b_1 i j out some) fun y=>
    Z (.inl ((i64.wrap (j+1)),y)))
   (Z (.inr (j,out)))
def jE.co_r:LC:=⟨jE.c11s,[(jE.c11s,4,[5,201,1,201])],no,[5,7],[2,3,4,5,7],@jE.co_,fun _ _ _ _ _ _ _=>jf (jb fun _=>jc) jc⟩
def jE.cl_ (a_1:YN)(b_1:YN)(i:Int)(out:List YN)(Z:((Int)×(List YN))⊕((Int)×(List YN))→Option ρ):Option ρ:=
  br (decide (i<8))
   (bnd (iter (fun s↦jE.co_ a_1 b_1 i s.1 s.2 some) ((0:Int),out)) fun y=>
    Z (.inl ((i64.wrap (i+1)),y.2)))
   (Z (.inr (i,out)))
def jE.cl_s:Shape:=(jE.c11s.d 7)
def jE.cl_r:LC:=⟨jE.cl_s,[(jE.cl_s,2,[4,201,1,201])],no,[4,6],[2,3,4,6],@jE.cl_,fun _ _ _ _ _ _=>jf (jb fun _=>jc) jc⟩
def jE (a:YN) (b:YN):Option YN:=
  bnd (jE.c1 a b some) fun y=>
  br y
   (some (List.replicate (8:Nat) (false,[]),(0:Int)))
   (bnd (iter (fun s↦jE.cl_ a b s.1 s.2 some) ((0:Int),[(List.replicate (8:Nat) (false,[]),i64.wrap (a.2+b.2))])) fun y1=>
    bnd (idx y1.2 (0:Int)) fun y2=>
    bnd (jN y2) fun y3=>
    some y3)
def jE.ce:=ceOf tab Tryz.f56 jE
def jE.G:EB Tryz.prog:=⟨tb,Tryz.f56,[⟨42,Je.ce,Je.ok⟩,⟨84,jT.ce,jT.ok⟩,⟨76,JD.ce,JD.ok⟩,⟨85,kW.ce,kW.ok⟩,⟨77,jN.ce,jN.ok⟩],[0,1,2,3,4,5,6,7,8,14,24,28,46,59],[4,5,15,16,8000002,8000003],[(15,[(15,[5])]),(14,[(13,[5])]),(12,[(9,[8]),(10,[8])])],[(100006,jE.cl_r.ck),(100009,jE.co_r.ck),(245068,jE.cP_r.ck),(15,jE.c15r.ck),(14,jE.c14r.ck),(12,jE.c12r.ck),(11,jE.c11r.ck),(1,jE.c1r.ck)],[],[]⟩
theorem jE.ok:CalleeOk Tryz.prog 56 jE.ce:=fnB jE.G Tryz.func56 (m:=8) ⟨⟨⟨⟨⟨⟨⟨⟨trivial,kR jE.c1r (by kernel_rfl)⟩,kL jE.cl_r (by kernel_rfl)⟩,kL jE.co_r (by kernel_rfl)⟩,kJ jE.cP_r (by kernel_rfl)⟩,kR jE.c11r (by kernel_rfl)⟩,kR jE.c12r (by kernel_rfl)⟩,kR jE.c14r (by kernel_rfl)⟩,kR jE.c15r (by kernel_rfl)⟩ (by kernel_rfl)
def kD.c1 (a_1:YN)(t2:List YN)(Z:List YN→Option ρ):Option ρ:=
  bnd (JO a_1) fun y=>
  bnd (jE a_1 y) fun y1=>
  bnd (idx t2 (0:Int)) fun y2=>
  Z (List.set t2 (0:Nat) y1)
def kD.c1s:Shape:=⟨[(0,sa73),(1,sa74),(2,sa54)],[(2,sa77)]⟩
def kD.c1r:RC:=⟨kD.c1s,[(kD.c1s,0,[2,201])],no,[1,2],@kD.c1,fun _ _ _ _=>jb fun _=>(jb fun _=>(jb fun _=>jc))⟩
def kD (a:YN):Option YN:=
  bnd (kD.c1 a [(List.replicate (8:Nat) (false,[]),(0:Int))] some) fun y=>
  bnd (idx y (0:Int)) fun y1=>
  some y1
def kD.ce:=ceOf tab Tryz.f44 kD
def kD.G:EB Tryz.prog:=⟨tb,Tryz.f44,[⟨57,JO.ce,JO.ok⟩,⟨56,jE.ce,jE.ok⟩],[0,1,2],[2,8000001],[(1,[(4,[2])])],[(1,kD.c1r.ck)],[],[]⟩
theorem kD.ok:CalleeOk Tryz.prog 44 kD.ce:=fnB kD.G Tryz.func44 (m:=1) ⟨trivial,kR kD.c1r (by kernel_rfl)⟩ (by kernel_rfl)
def JH.c6 (v:List YN)(x:Int)(sum:List YN)(Z:List YN→Option ρ):Option ρ:=
  bnd (idx sum (0:Int)) fun y=>
  bnd (idx v x) fun y1=>
  bnd (kD y1) fun y2=>
  bnd (JC y y2) fun y3=>
  bnd (idx sum (0:Int)) fun y4=>
  Z (List.set sum (0:Nat) y3)
def JH.c6s:Shape:=⟨[(0,sa81),(2,sa54),(3,sa55),(4,sa2)],[(2,sa77),(3,sa77)]⟩
def JH.c6r:RC:=⟨JH.c6s,[(JH.c6s,0,[3,201])],no,[0,1,3],@JH.c6,fun _ _ _ _ _=>jb fun _=>(jb fun _=>(jb fun _=>(jb fun _=>(jb fun _=>jc))))⟩
def JH.cj_ (v:List YN)(x:Int)(sum:List YN)(Z:List YN→Option ρ):Option ρ:=
  bnd (idx v x) fun y=>
  bnd (Je y) fun y1=>
  br (!y1)
   (bnd (JH.c6 v x sum some) fun y2=>
    Z y2)
   (Z sum)
def JH.cj_r:RC:=⟨JH.c6s,[(JH.c6s,0,[3,201])],no,[0,1,3],@JH.cj_,fun _ _ _ _ _=>jb fun _=>(jb fun _=>(jf (jb fun _=>jc) jc))⟩
def JH.ca_ (v:List YN)(x:Int)(sum:List YN)(Z:((Int)×(List YN))⊕((Int)×(List YN))→Option ρ):Option ρ:=
  br (decide (x<(v.length:Int)))
   (bnd (JH.cj_ v x sum some) fun y=>
    Z (.inl ((i64.wrap (x+1)),y)))
   (Z (.inr (x,sum)))
def JH.ca_r:LC:=⟨JH.c6s,[(JH.c6s,2,[1,201,1,201])],no,[1,3],[0,1,3],@JH.ca_,fun _ _ _ _ _=>jf (jb fun _=>jc) jc⟩
def JH (v:List YN):Option YN:=
  bnd (iter (fun s↦JH.ca_ v s.1 s.2 some) ((0:Int),[(List.replicate (8:Nat) (false,[]),(0:Int))])) fun y=>
  bnd (idx y.2 (0:Int)) fun y1=>
  some y1
def JH.ce:=ceOf tab Tryz.f17 JH
def JH.G:EB Tryz.prog:=⟨tb,Tryz.f17,[⟨42,Je.ce,Je.ok⟩,⟨44,kD.ce,kD.ok⟩,⟨43,JC.ce,JC.ok⟩],[0,2,3,4,9,17],[2,3,5],[(6,[(7,[3])])],[(100003,JH.ca_r.ck),(220486,JH.cj_r.ck),(6,JH.c6r.ck)],[],[]⟩
theorem JH.ok:CalleeOk Tryz.prog 17 JH.ce:=fnB JH.G Tryz.func17 (m:=3) ⟨⟨⟨trivial,kL JH.ca_r (by kernel_rfl)⟩,kJ JH.cj_r (by kernel_rfl)⟩,kR JH.c6r (by kernel_rfl)⟩ (by kernel_rfl)
end
end W
end

section
set_option maxHeartbeats 4000000
set_option maxRecDepth 100000
namespace W
open Go Go.Ql Go.Proofs Go.IntKind
noncomputable section
variable {ρ:Type}
abbrev sd0:SD:=.one (.val (.st (.pair (.int .i64) (.pair (.int .i64) (.sl (.st (.pair (.int .i64) (.pair (.int .i64) (.pair (.sl (.int .i64)) (.pair (.int .i64) (.pair (.int .i64) (.sl (.int .i64)))))))))))))
abbrev sd1:SD:=.one (.val (.int .i64))
abbrev sd2:SD:=.one (.val (.sl (.int .i64)))
abbrev sd3:SD:=.one (.ref 0 0)
abbrev sd4:SD:=.one (.val (.st (.pair (.int .i64) (.int .i64))))
abbrev sd5:SO:=.box [.val (.int .i64),.val (.int .i64),.val (.sl (.st (.pair (.int .i64) (.pair (.int .i64) (.pair (.sl (.int .i64)) (.pair (.int .i64) (.pair (.int .i64) (.sl (.int .i64))))))))),.own 1 0,.own 2 0,.val (.int .i64),.val (.int .i64)]
abbrev sd6:SO:=.arr 0 false 71 (.st (.pair (.ar 8 (.st (.pair .bool (.sl (.int .u32))))) (.int .i64)))
abbrev sd7:SO:=.arr 0 false 3 (.int .i64)
abbrev sd8:SD:=.one (.val (.nilv 0))
abbrev sd9:SD:=.one (.ref 3 0)
abbrev sd10:SD:=.one (.ref 7 0)
abbrev sd11:SD:=.one (.ref 14 0)
abbrev sd12:SD:=.one (.ref 9 0)
abbrev sd13:SO:=.box [.val (.int .i64),.val (.int .i64),.val (.sl (.st (.pair (.int .i64) (.pair (.int .i64) (.pair (.sl (.int .i64)) (.pair (.int .i64) (.pair (.int .i64) (.sl (.int .i64)))))))))]
abbrev sd14:SO:=.box [.val (.int .i64),.val (.int .i64)]
abbrev sd15:SO:=.box [.val (.int .i64),.val (.int .i64),.val (.sl (.st (.pair (.int .i64) (.pair (.int .i64) (.pair (.sl (.int .i64)) (.pair (.int .i64) (.pair (.int .i64) (.sl (.int .i64))))))))),.own 1014 0,.own 2014 0,.val (.int .i64),.val (.int .i64)]
abbrev sd16:SD:=.one (.val .bool)
def ji.pre:Shape:=⟨[(0,sd0),(1,sd1),(2,sd2)],[]⟩
def ji.post:Shape:=⟨[(0,sd3),(1,sd4)],[(0,sd5),(1,sd6),(2,sd7)]⟩
def ji.post2:Shape:=⟨[(0,sd8),(1,sd4)],[]⟩
def ji.c3  (Z:Unit→Option ρ):Option ρ:=
  Z ()
def ji.c3s:Shape:=⟨[(0,sd0),(1,sd1),(2,sd2),(3,sd9),(6,sd8),(7,sd10),(8,sd11),(9,sd12)],[(3,sd13),(7,sd14),(9,sd14),(14,sd15),(1014,sd6),(2014,sd7)]⟩
def ji.c3r:Ck:=Ck.of (T:=Unit) ji.c3s (fun ρ X Z=>ji.c3  Z) (fun ρ X V Z=>Z 0 (Shape.inj ji.c3s (X.1,X.2.1,X.2.2.1,(),(q4 X).1,(q4 X).2.1,(q4 X).2.2.1,(q8 X).2.1,(q8 X).2.2.1,(q8 X).2)))
def ji.c8 (b:Int)(Z:Bool→Option ρ):Option ρ:=
  br (b !=0)
   (Z (b !=1))
   (Z false)
def ji.c8s:Shape:=⟨[(0,sd0),(1,sd1),(2,sd2),(3,sd9),(6,sd8),(7,sd10),(8,sd11),(9,sd12),(10,sd1)],[(3,sd13),(7,sd14),(9,sd14),(14,sd15),(1014,sd6),(2014,sd7)]⟩
def ji.c8x0:Shape:=⟨[(0,sd0),(1,sd1),(2,sd2),(3,sd9),(6,sd8),(7,sd10),(8,sd11),(9,sd12),(10,sd1),(47,sd16)],[(3,sd13),(7,sd14),(9,sd14),(14,sd15),(1014,sd6),(2014,sd7)]⟩
def ji.c8r:Ck:=Ck.of (T:=Bool) ji.c8s (fun ρ X Z=>ji.c8 (q4 X).1 Z) (fun ρ X V Z=>Z 0 (Shape.inj ji.c8x0 (X.1,X.2.1,X.2.2.1,X.2.2.2.1,(q4 X).1,V,(q4 X).2)))
def ji.cb_ (tape:List (Int))(t140:Int)(t141:Int)(t142:List YO)(t145:Int)(t146:Int)(ua:List YN)(ub:List (Int))(Z:((Int)×(Int)×(List YO)×(Int)×(Int)×(List YN)×(List Int))⊕(((Int)×(Int)×(Int)×(Int)×(List YO)×(Int)×(Int)×(List YN)×(List Int))⊕((Int)×(Int)×(List YO)×(Int)×(Int)×(List YN)×(List Int)))→Option ρ):Option ρ:=
  bnd (jg t140 t141 t142 t145 t146 ua ub) fun y=>
  br y.1
   (br (y.2.2.2.2.1==(tape.length:Int))
     (bnd (JX (19:Int) y.2.2.2.2.2.1) fun y1=>
      Z (.inr (.inl (y1.1,y1.2,y.2.1,y.2.2.1,y.2.2.2.1,y.2.2.2.2.1,y.2.2.2.2.2.1,y.2.2.2.2.2.2.1,y.2.2.2.2.2.2.2.1))))
     (bnd (idx tape y.2.2.2.2.1) fun y2=>
      bnd (ji.c8 y2 some) fun y3=>
      br y3
       (bnd (JX (20:Int) y.2.2.2.2.2.1) fun y4=>
        Z (.inr (.inl (y4.1,y4.2,y.2.1,y.2.2.1,y.2.2.2.1,y.2.2.2.2.1,y.2.2.2.2.2.1,y.2.2.2.2.2.2.1,y.2.2.2.2.2.2.2.1))))
       (bnd (jm y2 y.2.1 y.2.2.1 y.2.2.2.1 y.2.2.2.2.1 y.2.2.2.2.2.1 y.2.2.2.2.2.2.1 y.2.2.2.2.2.2.2.1) fun y5=>
        Z (.inl (y5.1,y5.2.1,y5.2.2.1,y5.2.2.2.1,y5.2.2.2.2.1,y5.2.2.2.2.2.1,y5.2.2.2.2.2.2.1)))))
   (Z (.inr (.inr (y.2.1,y.2.2.1,y.2.2.2.1,y.2.2.2.2.1,y.2.2.2.2.2.1,y.2.2.2.2.2.2.1,y.2.2.2.2.2.2.2.1))))
def ji.cb_r:Ck:=Ck.ofLoop (S:=(Int)×(Int)×(List YO)×(Int)×(Int)×(List YN)×(List Int)) (T:=((Int)×(Int)×(Int)×(Int)×(List YO)×(Int)×(Int)×(List YN)×(List Int))⊕((Int)×(Int)×(List YO)×(Int)×(Int)×(List YN)×(List Int))) ji.c3s (fun X=>((q8 X).2.2.2.1,(q4 (q8 X)).1,(q4 (q8 X)).2.1,(q4 (q8 X)).2.2.1,(q4 (q8 X)).2.2.2.1,(q8 (q8 X)).1,(q8 (q8 X)).2.1)) (fun ρ X Q Z=>ji.cb_ X.2.2.1 Q.1 Q.2.1 Q.2.2.1 Q.2.2.2.1 Q.2.2.2.2.1 Q.2.2.2.2.2.1 Q.2.2.2.2.2.2 Z) (fun ρ X V Z=>sel V (fun V=>Z 1 (Shape.inj ji.c3s (X.1,X.2.1,X.2.2.1,(),(q4 X).1,(q4 X).2.1,(q4 X).2.2.1,V.1,V.2.1,(q8 X).2.1,(q8 X).2.2.1,V.2.2.1,V.2.2.2.1,V.2.2.2.2.1,V.2.2.2.2.2.1,V.2.2.2.2.2.2.1,V.2.2.2.2.2.2.2.1,V.2.2.2.2.2.2.2.2,()))) (fun V=>Z 2 (Shape.inj ji.c3s (X.1,X.2.1,X.2.2.1,X.2.2.2.1,(q4 X).1,(q4 X).2.1,(q4 X).2.2.1,(q4 X).2.2.2.1,(q8 X).1,(q8 X).2.1,(q8 X).2.2.1,V.1,V.2.1,V.2.2.1,V.2.2.2.1,V.2.2.2.2.1,V.2.2.2.2.2.1,V.2.2.2.2.2.2,()))))
def ji.c3v1  (Z:Unit→Option ρ):Option ρ:=
  Z ()
def ji.c3v1s:Shape:=⟨[(0,sd0),(1,sd1),(2,sd2),(3,sd9),(6,sd8),(7,sd10),(8,sd8),(9,sd12)],[(3,sd13),(7,sd14),(9,sd14)]⟩
def ji.c3v1r:Ck:=Ck.of (T:=Unit) ji.c3v1s (fun ρ X Z=>ji.c3v1  Z) (fun ρ X V Z=>Z 0 (Shape.inj ji.c3v1s (X.1,X.2.1,X.2.2.1,(),(q4 X).1,(q4 X).2.1,(q4 X).2.2.1,(q4 X).2.2.2.1,(q8 X).2.2.1,(q8 X).2.2.2.1,(q8 X).2.2)))
def ji.c3v1o:Ck:=Ck.or ji.c3v1s ji.c3v1r ji.c3r
def ji.c100004v1  (Z:(Unit)⊕(Unit)→Option ρ):Option ρ:=
  none
def ji.c100004v1r:Ck:=Ck.ofLoop (S:=Unit) (T:=Unit) ji.c3v1s (fun X=>()) (fun ρ X Q Z=>ji.c100004v1  Z) (fun ρ X V Z=>none)
def ji.c100004v1o:Ck:=Ck.or ji.c3v1s ji.c100004v1r ji.cb_r
def ji (c:(Int)×((Int)×(List YO))) (t1:Int) (tape:List (Int)):Option ((((Int)×(Int))×(Int)×(Int)×(List YO)×(Int)×(Int)×(List YN)×(List Int)×Unit)⊕((Unit)×((Int)×(Int))×Unit)):=
  bnd (jv (c.1,c.2.1,c.2.2) t1) fun y=>
  sel y
   (fun u=>br (u.1.1 !=0)
     (bnd (ji.c3 some) fun y1=>
      some (Sum.inr ((),(u.1.1,u.1.2),())))
     (bnd (iter (fun s↦ji.cb_ tape s.1 s.2.1 s.2.2.1 s.2.2.2.1 s.2.2.2.2.1 s.2.2.2.2.2.1 s.2.2.2.2.2.2 some) (u.2.1,u.2.2.1,u.2.2.2.1,u.2.2.2.2.1,u.2.2.2.2.2.1,u.2.2.2.2.2.2.1,u.2.2.2.2.2.2.2.1)) fun y2=>
      sel y2
       (fun u_1=>some (Sum.inr ((),(u_1.1,u_1.2.1),())))
       (fun v_1=>some (Sum.inl (((0:Int),(0:Int)),v_1.1,v_1.2.1,v_1.2.2.1,v_1.2.2.2.1,v_1.2.2.2.2.1,v_1.2.2.2.2.2.1,v_1.2.2.2.2.2.2,())))))
   (fun v=>br (v.2.1.1 !=0)
     (bnd (ji.c3v1 some) fun y3=>
      some (Sum.inr ((),(v.2.1.1,v.2.1.2),())))
     (bnd (iter (fun s↦ji.c100004v1 some) PUnit.unit) fun y4=>
      none))
def ji.ma:MAlt:=⟨28,ji.pre,ji.post,false,ji.post2,fun X=>ji X.1 X.2.1 X.2.2.1⟩
def ji.G:Env:=⟨58,tab,[(48,JX.ce)],[0,1,2,3,6,7,8,9,10,19,22,29,47],[14,1014,2014],[(3,[⟨[],[],[6],[]⟩,⟨[],[],[20],[]⟩,⟨[0,1],[7],[],[]⟩])],[(100004,ji.c100004v1o),(3,ji.c3v1o),(8,ji.c8r)],[(64,jg.mc),(65,jm.mc)],UX,[(45,jv.ma)]⟩
theorem ji.p0:PcA ji.G Tryz.f28 0:=
  kO (s:=ji.c3v1o) (by kernel_rfl) (by kernel_rfl) (HP (kK (sh:=ji.c3v1s) (fun ρ X Z=>jc) (fun ρ X t k=>(by kernel_rfl)) (fun X=>by kernel_rfl)) (kK (sh:=ji.c3s) (fun ρ X Z=>jc) (fun ρ X t k=>(by kernel_rfl)) (fun X=>by kernel_rfl)))
theorem ji.p1:PcA ji.G Tryz.f28 1:=
  loop_ok (s:=ji.c100004v1o) (by kernel_rfl) (by kernel_rfl) (loops_or (Ui (sh:=ji.c3v1s) (I:=fun X Q=>X) (fun X=>rfl) (fun ρ X Q Z=>UR) (fun ρ X t k=>UR) (fun X s=>by kernel_rfl)) (Ui (sh:=ji.c3s) (I:=fun X Q=>(X.1,X.2.1,X.2.2.1,X.2.2.2.1,(q4 X).1,(q4 X).2.1,(q4 X).2.2.1,(q4 X).2.2.2.1,(q8 X).1,(q8 X).2.1,(q8 X).2.2.1,Q.1,Q.2.1,Q.2.2.1,Q.2.2.2.1,Q.2.2.2.2.1,Q.2.2.2.2.2.1,Q.2.2.2.2.2.2,())) (fun X=>rfl) (fun ρ X Q Z=>(jb fun _=>(jf (jf (jb fun _=>jc) (jb fun _=>(jb fun _=>(jf (jb fun _=>jc) (jb fun _=>jc))))) jc))) (fun ρ X t k=>(Hn (fun _=>(by kernel_rfl)) (fun _=>(by kernel_rfl)))) (fun X s=>by kernel_rfl)))
theorem ji.p2:PcA ji.G Tryz.f28 2:=
  kO (s:=ji.c8r) (by kernel_rfl) (by kernel_rfl) (kK (sh:=ji.c8s) (fun ρ X Z=>(jf jc jc)) (fun ρ X t k=>(by kernel_rfl)) (fun X=>by kernel_rfl))
theorem ji.ok:AltOk Tryz.prog 28 ji.ma:=fna_ok (ma:=ji.ma) (G:=ji.G) HR mixed Tryz.func28 ⟨(Vu JX.ok Hk),(VQ jg.ok (VQ jm.ok UQ)),VZ,(UY jv.ok UH)⟩ (m:=3) (by kernel_rfl) ⟨⟨⟨trivial,ji.p0⟩,ji.p1⟩,ji.p2⟩ (by kernel_rfl) (fun _=>by kernel_rfl)
abbrev sd17:SD:=.one (.ref 6 0)
abbrev sd18:SO:=.box [.val (.sl .str),.val (.sl (.int .i64)),.val (.int .i64)]
abbrev sd19:SO:=.box [.val (.sl .str),.own 2014 0,.val (.int .i64)]
def jx.c3  (Z:Unit→Option ρ):Option ρ:=
  Z ()
def jx.c3s:Shape:=⟨[(0,sd0),(1,sd1),(2,sd2),(3,sd9),(6,sd17),(7,sd10),(8,sd11),(9,sd12)],[(3,sd13),(6,sd18),(7,sd14),(9,sd14),(14,sd15),(1014,sd6),(2014,sd7)]⟩
def jx.c3r:Ck:=Ck.of (T:=Unit) jx.c3s (fun ρ X Z=>jx.c3  Z) (fun ρ X V Z=>Z 0 (Shape.inj jx.c3s (X.1,X.2.1,X.2.2.1,X.2.2.2.1,(q4 X).1,(q4 X).2.1,[],[],(0:Int),(q8 X).2.2.2.1,(q4 (q8 X)).1,(q8 X).2.2.2)))
def jx.c4 (ua:List YN)(Z:(List (List UInt8))×(List YN)→Option ρ):Option ρ:=
  bnd (jH (0:Int) (ua.length:Int) ua) fun y=>
  Z (y.1,y.2.1)
def jx.c4x0:Shape:=⟨[(0,sd0),(1,sd1),(2,sd2),(3,sd9),(6,sd17),(7,sd10),(8,sd11),(9,sd12)],[(3,sd13),(6,sd19),(7,sd14),(9,sd14),(14,sd15),(1014,sd6),(2014,sd7)]⟩
def jx.c4r:Ck:=Ck.of (T:=(List (List UInt8))×(List YN)) jx.c3s (fun ρ X Z=>jx.c4 (q8 (q8 X)).2.2.1 Z) (fun ρ X V Z=>Z 0 (Shape.inj jx.c4x0 (X.1,X.2.1,X.2.2.1,X.2.2.2.1,(q4 X).1,(q4 X).2.1,V.1,(q8 (q8 X)).1,(0:Int),(0:Int),(q8 X).2.2.2.1,(q4 (q8 X)).1,(q4 (q8 X)).2.1,(q4 (q8 X)).2.2.1,(q4 (q8 X)).2.2.2.1,(q8 (q8 X)).1,(q8 (q8 X)).2.1,V.2,(q8 (q8 X)).2.2.2)))
def jx.c3v1  (Z:Unit→Option ρ):Option ρ:=
  Z ()
def jx.c3v1s:Shape:=⟨[(0,sd0),(1,sd1),(2,sd2),(3,sd9),(6,sd17),(7,sd10),(8,sd8),(9,sd12)],[(3,sd13),(6,sd18),(7,sd14),(9,sd14)]⟩
def jx.c3v1r:Ck:=Ck.of (T:=Unit) jx.c3v1s (fun ρ X Z=>jx.c3v1  Z) (fun ρ X V Z=>Z 0 (Shape.inj jx.c3v1s (X.1,X.2.1,X.2.2.1,X.2.2.2.1,(q4 X).1,(q4 X).2.1,(q4 X).2.2.1,[],[],(0:Int),(q4 (q8 X)).1,(q4 (q8 X)).2.1,(q4 (q8 X)))))
def jx.c3v1o:Ck:=Ck.or jx.c3v1s jx.c3v1r jx.c3r
def jx.c4v1  (Z:Unit→Option ρ):Option ρ:=
  none
def jx.c4v1r:Ck:=Ck.of (T:=Unit) jx.c3v1s (fun ρ X Z=>jx.c4v1  Z) (fun ρ X V Z=>none)
def jx.c4v1o:Ck:=Ck.or jx.c3v1s jx.c4v1r jx.c4r
def jx (c:(Int)×((Int)×(List YO))) (t1:Int) (tape:List (Int)):Option (((List (List UInt8))×((List Int)×(Int)))×((Int)×(Int))):=
  bnd (ji (c.1,c.2.1,c.2.2) t1 tape) fun y=>
  sel y
   (fun u=>br (u.1.1 !=0)
     (bnd (jx.c3 some) fun y1=>
      some (([],[],(0:Int)),u.1.1,u.1.2))
     (bnd (jx.c4 u.2.2.2.2.2.2.1 some) fun y2=>
      some ((y2.1,u.2.2.2.2.2.2.2.1,u.2.2.2.2.1),(0:Int),(0:Int))))
   (fun v=>br (v.2.1.1 !=0)
     (bnd (jx.c3v1 some) fun y3=>
      some (([],[],(0:Int)),v.2.1.1,v.2.1.2))
     (bnd (jx.c4v1 some) fun y4=>
      none))
def jx.ce:Go.Ql.Callee:=⟨[(.st (.pair (.int .i64) (.pair (.int .i64) (.sl (.st (.pair (.int .i64) (.pair (.int .i64) (.pair (.sl (.int .i64)) (.pair (.int .i64) (.pair (.int .i64) (.sl (.int .i64)))))))))))),(.int .i64),(.sl (.int .i64))],[(.st (.pair (.sl .str) (.pair (.sl (.int .i64)) (.int .i64)))),(.st (.pair (.int .i64) (.int .i64)))],fun X=>jx X.1 X.2.1 X.2.2⟩
def jx.G:Env:=⟨37,tab,[],[0,1,2,3,6,7,8,9,19],[14,1014,2014],[(4,[⟨[],[],[27,28,29,30,31,32,33,34,36],[]⟩,⟨[0],[],[27,28,29,30,31,32,33,34,36],[]⟩,⟨[1,0],[],[27,28,29,30,31,32,33,34,36],[]⟩,⟨[2,1,0],[],[27,28,29,30,31,32,33,34,36],[]⟩,⟨[3,2,1,0],[1014],[27,28,29,30,31,32,33,34,36],[]⟩,⟨[],[],[22,23,24,25,26,31,32,33,34,36],[1014]⟩,⟨[5],[],[22,23,24,25,26,31,32,33,34,36],[1014]⟩,⟨[6,5],[],[22,23,24,25,26,31,32,33,34,36],[1014]⟩,⟨[7,6,5],[],[22,23,24,25,26,31,32,33,34,36],[1014]⟩,⟨[],[],[22,23,24,25,26,27,28,29,30,36],[1014]⟩,⟨[9],[],[22,23,24,25,26,27,28,29,30,36],[1014]⟩,⟨[10,9],[],[22,23,24,25,26,27,28,29,30,36],[1014]⟩,⟨[11,10,9],[],[22,23,24,25,26,27,28,29,30,36],[1014]⟩,⟨[4,3,2,1,0,8,7,6,5,12,11,10,9],[],[36],[]⟩,⟨[],[],[22,23,24,25,26,27,28,29,30,31,32,33,34,35],[1014,6]⟩,⟨[13,4,3,2,1,0,8,7,6,5,12,11,10,9],[6],[36],[]⟩,⟨[14,15,13,4,3,2,1,0,8,7,6,5,12,11,10,9],[7],[],[]⟩]),
  (3,[⟨[],[],[21],[]⟩,⟨[],[],[20],[6]⟩,⟨[0],[6],[21],[]⟩,⟨[1,2,0],[7],[],[]⟩])],[(4,jx.c4v1o),(3,jx.c3v1o)],[(29,jH.mc)],UX,[(28,ji.ma)]⟩
theorem jx.p0:PcA jx.G Tryz.f8 0:=
  kO (s:=jx.c3v1o) (by kernel_rfl) (by kernel_rfl) (HP (kK (sh:=jx.c3v1s) (fun ρ X Z=>jc) (fun ρ X t k=>(by kernel_rfl)) (fun X=>by kernel_rfl)) (kK (sh:=jx.c3s) (fun ρ X Z=>jc) (fun ρ X t k=>(by kernel_rfl)) (fun X=>by kernel_rfl)))
theorem jx.p1:PcA jx.G Tryz.f8 1:=
  kO (s:=jx.c4v1o) (by kernel_rfl) (by kernel_rfl) (HP (kK (sh:=jx.c3v1s) (fun ρ X Z=>UR) (fun ρ X t k=>UR) (fun X=>by kernel_rfl)) (kK (sh:=jx.c3s) (fun ρ X Z=>(jb fun _=>jc)) (fun ρ X t k=>(by kernel_rfl)) (fun X=>by kernel_rfl)))
theorem jx.ok:CalleeOk Tryz.prog 8 jx.ce:=fn_ok (G:=jx.G) HR mixed Tryz.func8 ⟨Hk,(VQ jH.ok UQ),VZ,(UY ji.ok UH)⟩ (m:=2) (by kernel_rfl) ⟨⟨trivial,jx.p0⟩,jx.p1⟩ (by kernel_rfl) (fun _=>by kernel_rfl)
abbrev sd20:SD:=.one (.ref 1 0)
abbrev sd21:SD:=.one (.ref 2 0)
def Jt.c2 (s0:List (List UInt8))(s1:List (Int))(s2:Int)(f0:Int)(Z:Bool→Option ρ):Option ρ:=
  br (f0==0)
   (bnd (JQ (s0,s1,s2) ([Array.toList (ByteArray.data (ByteArray.mk #[48])),Array.toList (ByteArray.data (ByteArray.mk #[48])),Array.toList (ByteArray.data (ByteArray.mk #[48])),Array.toList (ByteArray.data (ByteArray.mk #[48,44,48,44,49,44,48,44,48,44,48,44,45,49,47,49]))],[(1:Int)],(1:Int))) fun y=>
    Z y)
   (Z false)
def Jt.c2s:Shape:=⟨[(0,sd16),(1,sd20),(2,sd21)],[(1,sd18),(2,sd14)]⟩
def Jt.c2r:RC:=⟨Jt.c2s,[(Jt.c2s,0,[201])],no,[1,2,3,4],@Jt.c2,fun _ _ _ _ _ _=>jf (jb fun _=>jc) jc⟩
def Jt  : Option Bool:=
  bnd YS fun y=>
  bnd (jx y (0:Int) [(1:Int)]) fun y1=>
  bnd (Jt.c2 y1.1.1 y1.1.2.1 y1.1.2.2 y1.2.1 some) fun y2=>
  some y2
def Jt.ce:=ceOf tab Tryz.f10 Jt
def Jt.G:EB Tryz.prog:=⟨tb,Tryz.f10,[⟨31,YS.ce,YS.ok⟩,⟨8,jx.ce,jx.ok⟩,⟨11,JQ.ce,JQ.ok⟩],[0,1,2],[],[],[(2,Jt.c2r.ck)],[],[]⟩
theorem Jt.ok:CalleeOk Tryz.prog 10 Jt.ce:=fnB Jt.G Tryz.func10 (m:=1) ⟨trivial,kR Jt.c2r (by kernel_rfl)⟩ (by kernel_rfl)
abbrev sd22:SD:=.one (.val .str)
def jK.c3  (Z:Unit→Option ρ):Option ρ:=
  Z ()
def jK.c3s:Shape:=⟨[(0,sd0),(1,sd1),(2,sd2),(3,sd9),(6,sd22),(7,sd10),(8,sd11),(9,sd12)],[(3,sd13),(7,sd14),(9,sd14),(14,sd15),(1014,sd6),(2014,sd7)]⟩
def jK.c3r:Ck:=Ck.of (T:=Unit) jK.c3s (fun ρ X Z=>jK.c3  Z) (fun ρ X V Z=>Z 0 (Shape.inj jK.c3s (X.1,X.2.1,X.2.2.1,(Array.toList (ByteArray.data (ByteArray.mk #[]))),(q4 X).1,(q4 X).2.1,(q4 X).2.2.1,(q8 X).2.1,(q8 X).2.2.1,(q8 X).2)))
def jK.c3v1  (Z:Unit→Option ρ):Option ρ:=
  Z ()
def jK.c3v1s:Shape:=⟨[(0,sd0),(1,sd1),(2,sd2),(3,sd9),(6,sd22),(7,sd10),(8,sd8),(9,sd12)],[(3,sd13),(7,sd14),(9,sd14)]⟩
def jK.c3v1r:Ck:=Ck.of (T:=Unit) jK.c3v1s (fun ρ X Z=>jK.c3v1  Z) (fun ρ X V Z=>Z 0 (Shape.inj jK.c3v1s (X.1,X.2.1,X.2.2.1,(Array.toList (ByteArray.data (ByteArray.mk #[]))),(q4 X).1,(q4 X).2.1,(q4 X).2.2.1,(q4 X).2.2.2.1,(q8 X).2.2.1,(q8 X).2.2.2.1,(q8 X).2.2)))
def jK.c3v1o:Ck:=Ck.or jK.c3v1s jK.c3v1r jK.c3r
def jK (c:(Int)×((Int)×(List YO))) (t1:Int) (tape:List (Int)):Option ((List UInt8)×((Int)×(Int))):=
  bnd (ji (c.1,c.2.1,c.2.2) t1 tape) fun y=>
  sel y
   (fun u=>br (u.1.1 !=0)
     (bnd (jK.c3 some) fun y1=>
      some (Array.toList (ByteArray.data (ByteArray.mk #[])),u.1.1,u.1.2))
     (bnd (jl (0:Int) (↑(List.length u.2.2.2.2.2.2.1):Int) u.2.2.2.2.2.2.1) fun y2=>
      bnd (jn y2.1) fun y3=>
      some (y3,(0:Int),(0:Int))))
   (fun v=>br (v.2.1.1 !=0)
     (bnd (jK.c3v1 some) fun y4=>
      some (Array.toList (ByteArray.data (ByteArray.mk #[])),v.2.1.1,v.2.1.2))
     (none))
def jK.ce:Go.Ql.Callee:=⟨[(.st (.pair (.int .i64) (.pair (.int .i64) (.sl (.st (.pair (.int .i64) (.pair (.int .i64) (.pair (.sl (.int .i64)) (.pair (.int .i64) (.pair (.int .i64) (.sl (.int .i64)))))))))))),(.int .i64),(.sl (.int .i64))],[.str,(.st (.pair (.int .i64) (.int .i64)))],fun X=>jK X.1 X.2.1 X.2.2⟩
def jK.G:Env:=⟨28,tab,[(26,jn.ce)],[0,1,2,3,6,7,8,9,19],[14,1014,2014],[(3,[⟨[],[],[6],[]⟩,⟨[],[],[20],[]⟩,⟨[0,1],[7],[],[]⟩])],[(3,jK.c3v1o)],[(33,jl.mc)],UX,[(28,ji.ma)]⟩
theorem jK.p0:PcA jK.G Tryz.f14 0:=
  kO (s:=jK.c3v1o) (by kernel_rfl) (by kernel_rfl) (HP (kK (sh:=jK.c3v1s) (fun ρ X Z=>jc) (fun ρ X t k=>(by kernel_rfl)) (fun X=>by kernel_rfl)) (kK (sh:=jK.c3s) (fun ρ X Z=>jc) (fun ρ X t k=>(by kernel_rfl)) (fun X=>by kernel_rfl)))
theorem jK.ok:CalleeOk Tryz.prog 14 jK.ce:=fn_ok (G:=jK.G) HR mixed Tryz.func14 ⟨(Vu jn.ok Hk),(VQ jl.ok UQ),VZ,(UY ji.ok UH)⟩ (m:=1) (by kernel_rfl) ⟨trivial,jK.p0⟩ (by kernel_rfl) (fun _=>by kernel_rfl)
end
end W
end

section
set_option maxHeartbeats 4000000
set_option maxRecDepth 100000
namespace W
open Go Go.Ql Go.Proofs Go.IntKind
noncomputable section
variable {ρ:Type}
abbrev sc0:SD:=.one (.win 2000000 0)
abbrev sc1:SO:=.arr 0 false 71 (.st (.pair (.ar 8 (.st (.pair .bool (.sl (.int .u32))))) (.int .i64)))
abbrev sc2:SD:=.one (.own 0 0)
def Jg.pre:Shape:=⟨[(0,sc0)],[(2000000,sc1)]⟩
def Jg.post:Shape:=⟨[(0,sc2)],[(0,sc1),(2000000,sc1)]⟩
def Jg (slo:Int) (sn:Int) (uh:List YN):Option ((List YN)×(List YN)×Unit):=
  br (List.isEmpty (part slo sn uh))
   (both
     (some ([],uh,()))
     (bnd (okIf (decide (((0:Nat)+List.length (part slo sn uh))*264≤140737488355328)&&decide ((0:Nat)+List.length (part slo sn uh)≤140737488355328))) fun y=>
      some (part slo sn uh,uh,())))
   (bnd (okIf (decide (((0:Nat)+List.length (part slo sn uh))*264≤140737488355328)&&decide ((0:Nat)+List.length (part slo sn uh)≤140737488355328))) fun y1=>
    some (part slo sn uh,uh,()))
def Jg.mc:MCallee:=⟨113,Jg.pre,Jg.post,fun X=>Jg X.1 X.2.1 X.2.2.1⟩
def Jg.G:EB Tryz.prog:=⟨tb,Tryz.f113,[],[0,2,4],[2,5,2000000],[],[],[],[]⟩
theorem Jg.ok:MOk Tryz.prog 113 Jg.mc:=fnM Jg.G (mc:=Jg.mc) Tryz.func113 (m:=0) trivial (by kernel_rfl)
abbrev sc3:SO:=.arr 0 false 3 (.int .i64)
def JG.pre:Shape:=⟨[(0,sc0)],[(2000000,sc3)]⟩
def JG.post:Shape:=⟨[(0,sc2)],[(0,sc3),(2000000,sc3)]⟩
def JG (slo:Int) (sn:Int) (uh:List (Int)):Option ((List Int)×(List Int)×Unit):=
  br (List.isEmpty (part slo sn uh))
   (both
     (some ([],uh,()))
     (bnd (okIf (decide (((0:Nat)+List.length (part slo sn uh))*8≤140737488355328)&&decide ((0:Nat)+List.length (part slo sn uh)≤140737488355328))) fun y=>
      some (part slo sn uh,uh,())))
   (bnd (okIf (decide (((0:Nat)+List.length (part slo sn uh))*8≤140737488355328)&&decide ((0:Nat)+List.length (part slo sn uh)≤140737488355328))) fun y1=>
    some (part slo sn uh,uh,()))
def JG.mc:MCallee:=⟨114,JG.pre,JG.post,fun X=>JG X.1 X.2.1 X.2.2.1⟩
def JG.G:EB Tryz.prog:=⟨tb,Tryz.f114,[],[0,2,4],[2,5,2000000],[],[],[],[]⟩
theorem JG.ok:MOk Tryz.prog 114 JG.mc:=fnM JG.G (mc:=JG.mc) Tryz.func114 (m:=0) trivial (by kernel_rfl)
abbrev sc4:SD:=.one (.ref 1000700 0)
abbrev sc5:SO:=.box [.val (.int .i64),.val (.int .i64),.val (.sl (.st (.pair (.int .i64) (.pair (.int .i64) (.pair (.sl (.int .i64)) (.pair (.int .i64) (.pair (.int .i64) (.sl (.int .i64))))))))),.own 2000701 0,.own 2000702 0,.val (.int .i64),.val (.int .i64)]
abbrev sc6:SD:=.one (.ref 0 0)
abbrev sc7:SO:=.box [.val (.int .i64),.val (.int .i64),.val (.sl (.st (.pair (.int .i64) (.pair (.int .i64) (.pair (.sl (.int .i64)) (.pair (.int .i64) (.pair (.int .i64) (.sl (.int .i64))))))))),.own 1 0,.own 2 0,.val (.int .i64),.val (.int .i64)]
abbrev sc8:SD:=.one (.val (.nilv 0))
abbrev sc9:SD:=.one (.ref 3 0)
abbrev sc10:SO:=.box [.val (.int .i64),.val (.int .i64),.val (.sl (.st (.pair (.int .i64) (.pair (.int .i64) (.pair (.sl (.int .i64)) (.pair (.int .i64) (.pair (.int .i64) (.sl (.int .i64))))))))),.own 11 0,.own 16 0,.val (.int .i64),.val (.int .i64)]
def jS.pre:Shape:=⟨[(0,sc4)],[(1000700,sc5),(2000701,sc1),(2000702,sc3)]⟩
def jS.post:Shape:=⟨[(0,sc6)],[(0,sc7),(1,sc1),(2,sc3),(1000700,sc5),(2000701,sc1),(2000702,sc3)]⟩
def jS.c2 (ui:List YN)(uj:List (Int))(Z:(List YN)×(List Int)×(List YN)×(List Int)→Option ρ):Option ρ:=
  bnd (Jg (0:Int) (ui.length:Int) ui) fun y=>
  bnd (JG (0:Int) (uj.length:Int) uj) fun y1=>
  Z (y.1,y1.1,y.2.1,y1.2.1)
def jS.c2s:Shape:=(((((jS.pre.s 2 sc8).s 3 sc9).o 3 sc5).o 4003 sc1).o 5003 sc3)
def jS.c2x0:Shape:=(((jS.c2s.o 3 sc10).o 11 sc1).o 16 sc3)
def jS.c2r:RC:=⟨jS.c2s,[(jS.c2x0,0,[6,102,7,202])],no,[13,14],@jS.c2,fun _ _ _ _=>jb fun _=>(jb fun _=>jc)⟩
def jS (ub:Int) (uc:Int) (ud:List YO) (ue:Int) (uf:Int) (ui:List YN) (uj:List (Int)):Option ((Int)×(Int)×(List YO)×(Int)×(Int)×(List YN)×(List Int)×(Int)×(Int)×(List YO)×(Int)×(Int)×(List YN)×(List Int)×Unit):=
  bnd (jS.c2 ui uj some) fun y=>
  some (ub,uc,ud,ue,uf,y.1,y.2.1,ub,uc,ud,ue,uf,y.2.2.1,y.2.2.2,())
def jS.mc:MCallee:=⟨80,jS.pre,jS.post,fun X=>jS X.1 X.2.1 X.2.2.1 X.2.2.2.1 (q4 X).1 (q4 X).2.1 (q4 X).2.2.1⟩
def jS.G:EB Tryz.prog:=⟨tb,Tryz.f80,[],[0,2,3],[3,11,16,1003,2003,3003,4003,5003,1000700,2000701,2000702],[(2,[(4,[11,2000701]),(9,[16,2000702]),(11,[3]),(13,[3])])],[(2,jS.c2r.ck)],[⟨113,Jg.mc,Jg.ok⟩,⟨114,JG.mc,JG.ok⟩],[]⟩
theorem jS.ok:MOk Tryz.prog 80 jS.mc:=fnM jS.G (mc:=jS.mc) Tryz.func80 (m:=1) ⟨trivial,kR jS.c2r (by kernel_rfl)⟩ (by kernel_rfl)
abbrev sc11:SD:=.one (.val (.sl (.int .i64)))
abbrev sc12:SD:=.one (.ref 1000100 0)
abbrev sc13:SO:=.box [.own 1000101 0]
abbrev sc14:SO:=.arr 0 false 64 (.st (.pair (.sl (.int .i64)) (.pair (.sl (.int .i64)) .str)))
abbrev sc15:SD:=.one (.val .bool)
abbrev sc16:SO:=.box [.val (.int .i64),.val (.int .i64),.val (.sl (.st (.pair (.int .i64) (.pair (.int .i64) (.pair (.sl (.int .i64)) (.pair (.int .i64) (.pair (.int .i64) (.sl (.int .i64))))))))),.own 2000701 0,.junk,.val (.int .i64),.val (.int .i64)]
abbrev sc17:SO:=.box [.val (.int .i64),.val (.int .i64),.val (.sl (.st (.pair (.int .i64) (.pair (.int .i64) (.pair (.sl (.int .i64)) (.pair (.int .i64) (.pair (.int .i64) (.sl (.int .i64))))))))),.own 2000701 0,.val (.sl (.int .i64)),.val (.int .i64),.val (.int .i64)]
def jV.pre:Shape:=⟨[(0,sc4),(1,sc11),(2,sc12)],[(1000100,sc13),(1000101,sc14),(1000700,sc5),(2000701,sc1),(2000702,sc3)]⟩
def jV.post:Shape:=⟨[(0,sc15)],[(1000100,sc13),(1000101,sc14),(1000700,sc16),(2000701,sc1),(2000702,.gone)]⟩
def jV.c1 (tape:List (Int))(ua:List ((List Int)×((List Int)×(List UInt8))))(ui:List YN)(uj:List (Int))(Z:(List ((List Int)×((List Int)×(List UInt8))))×(List YN)→Option ρ):Option ρ:=
  bnd (okIf (decide (((0:Nat)+tape.length)*8≤140737488355328)&&decide ((0:Nat)+tape.length≤140737488355328))) fun y=>
  bnd (jl (0:Int) (ui.length:Int) ui) fun y1=>
  bnd (jn y1.1) fun y2=>
  bnd (okIf (decide ((ua.length+1)*64≤140737488355328)&&decide (ua.length+1≤140737488355328))) fun y3=>
  Z ((ua++[(tape,uj,y2)]),y1.2.1)
def jV.c1s:Shape:=(jV.pre.s 5 sc15)
def jV.c1x0:Shape:=((jV.c1s.o 1000700 sc17).o 2000702 (.gone))
def jV.c1r:RC:=⟨jV.c1s,[(jV.c1x0,0,[2,201,3,303,1,400,401,101])],fun X=>((q4 X).2.2.1,(q4 X).2.2.2.1,()),[0,2,8,9],@jV.c1,fun _ _ _ _ _ _=>jb fun _=>(jb fun _=>(jb fun _=>(jb fun _=>jc)))⟩
def jV (tape:List (Int)) (ua:List ((List Int)×((List Int)×(List UInt8)))) (ub:Int) (uc:Int) (ud:List YO) (ue:Int) (uf:Int) (ui:List YN) (uj:List (Int)):Option (Bool×(List ((List Int)×((List Int)×(List UInt8))))×(Int)×(Int)×(List YO)×(Int)×(Int)×(List YN)×Unit):=
  bnd (jV.c1 tape ua ui uj some) fun y=>
  some (decide ((↑(List.length y.1):Int)≤1024),y.1,ub,uc,ud,ue,uf,y.2,())
def jV.mc:MCallee:=⟨47,jV.pre,jV.post,fun X=>jV X.1 X.2.1 X.2.2.1 X.2.2.2.1 (q4 X).1 (q4 X).2.1 (q4 X).2.2.1 (q4 X).2.2.2.1 (q8 X).1⟩
def jV.G:EB Tryz.prog:=⟨tb,Tryz.f47,[⟨26,jn.ce,jn.ok⟩],[0,1,2,5],[1000100,1000101,1000700,2000701,2000702,22000702],[(1,[(2,[8]),(11,[2000701]),(14,[8,2000702,20]),(15,[1000101]),(16,[1000100])])],[(1,jV.c1r.ck)],[⟨33,jl.mc,jl.ok⟩],[]⟩
theorem jV.ok:MOk Tryz.prog 47 jV.mc:=fnM jV.G (mc:=jV.mc) Tryz.func47 (m:=1) ⟨trivial,kR jV.c1r (by kernel_rfl)⟩ (by kernel_rfl)
abbrev sc18:SD:=.one (.clo 1000090)
abbrev sc19:SO:=.clo 47 [] [.ref 1000100 0]
abbrev sc20:SD:=.one (.ref 11 0)
abbrev sc21:SO:=.box [.val (.int .i64),.val (.int .i64),.val (.sl (.st (.pair (.int .i64) (.pair (.int .i64) (.pair (.sl (.int .i64)) (.pair (.int .i64) (.pair (.int .i64) (.sl (.int .i64))))))))),.own 1011 0,.own 2011 0,.val (.int .i64),.val (.int .i64)]
def je.self.pre:Shape:=⟨[(0,sc4),(1,sc11),(2,sc18)],[(1000090,sc19),(1000100,sc13),(1000101,sc14),(1000700,sc5),(2000701,sc1),(2000702,sc3)]⟩
def je.self.post:Shape:=⟨[(0,sc15)],[(1000100,sc13),(1000101,sc14),(1000090,sc19),(1000700,sc16),(2000701,sc1),(2000702,.gone)]⟩
class je.Self where
  F:densU je.self.pre.tys→Option (densU je.self.post.tys)
  ok:MOk Tryz.prog 46 ⟨46,je.self.pre,je.self.post,F⟩
section
variable [je.Self]
def je.self (X:densU je.self.pre.tys):Option (densU je.self.post.tys):=je.Self.F X
def je.self.mc:MCallee:=⟨46,je.self.pre,je.self.post,fun X=>je.self X⟩
theorem je.self.ok:MOk Tryz.prog 46 je.self.mc:=je.Self.ok
def je.pre:Shape:=⟨[(0,sc4),(1,sc11),(2,sc18)],[(1000090,sc19),(1000100,sc13),(1000101,sc14),(1000700,sc5),(2000701,sc1),(2000702,sc3)]⟩
def je.post:Shape:=⟨[(0,sc15)],[(1000100,sc13),(1000101,sc14),(1000090,sc19),(1000700,sc16),(2000701,sc1),(2000702,.gone)]⟩
def je.c4 {ρ:Type} (tape:List (Int))(t110:Int)(t111:Int)(t112:List YO)(t115:Int)(t116:Int)(ug:List YN)(uk:List (Int))(ua:List ((List Int)×((List Int)×(List UInt8))))(Z:Bool×(List ((List Int)×((List Int)×(List UInt8))))→Option ρ):Option ρ:=
  bnd (jl (0:Int) (ug.length:Int) ug) fun y=>
  bnd (jU y.1) fun y1=>
  br (!y1)
   (bnd (okIf (decide ((0:Int)≤(tape.length:Int))&&decide ((tape.length:Int)=(tape.length:Int))&&decide ((tape.length:Int)≤(tape.length:Int)))) fun y2=>
    bnd (okIf (decide ((List.length (List.take (Int.toNat (tape.length:Int)) tape)+1)*8≤140737488355328)&&decide (List.length (List.take (Int.toNat (tape.length:Int)) tape)+1≤140737488355328))) fun y3=>
    bnd (je.self (List.take (Int.toNat (tape.length:Int)) tape++[(0:Int)],ua,t110,t111,t112,t115,t116,y.2.1,uk,())) fun y4=>
    Z ((!y4.1),y4.2.1))
   (Z (false,ua))
def je.c4s:Shape:=(((((je.pre.s 6 sc15).s 7 sc20).o 11 sc21).o 1011 sc1).o 2011 sc3)
def je.c4x0:Shape:=((je.pre.s 6 sc15).s 34 sc15)
def je.c4r:RC:=⟨je.c4s,[(je.c4x0,0,[2,202,306])],no,[0,2,3,4,5,6,7,8,9],fun _=>je.c4,fun _ _ _ _ _ _ _ _ _ _ _=>jb fun _=>(jb fun _=>(jf (jb fun _=>(jb fun _=>(jb fun _=>jc))) jc))⟩
def je.cd_ {ρ:Type} (tape:List (Int))(ua:List ((List Int)×((List Int)×(List UInt8))))(ub:Int)(uc:Int)(ud:List YO)(ue:Int)(uf:Int)(ui:List YN)(uj:List (Int))(Z:((List Int)×(List ((List Int)×((List Int)×(List UInt8))))×(Int)×(Int)×(List YO)×(Int)×(Int)×(List YN)×(List Int))⊕(((List Int)×Bool×(List ((List Int)×((List Int)×(List UInt8))))×(Int)×(Int)×(List YO)×(Int)×(Int)×(List YN)×(List Int))⊕((List Int)×(List ((List Int)×((List Int)×(List UInt8))))×(Int)×(Int)×(List YO)×(Int)×(Int)×(List YN)×(List Int)))→Option ρ):Option ρ:=
  bnd (jg ub uc ud ue uf ui uj) fun y=>
  br y.1
   (bnd (jS y.2.1 y.2.2.1 y.2.2.2.1 y.2.2.2.2.1 y.2.2.2.2.2.1 y.2.2.2.2.2.2.1 y.2.2.2.2.2.2.2.1) fun y1=>
    bnd (jm (0:Int) y1.1 y1.2.1 y1.2.2.1 y1.2.2.2.1 y1.2.2.2.2.1 y1.2.2.2.2.2.1 y1.2.2.2.2.2.2.1) fun y2=>
    bnd (je.c4 tape y2.1 y2.2.1 y2.2.2.1 y2.2.2.2.1 y2.2.2.2.2.1 y2.2.2.2.2.2.1 y2.2.2.2.2.2.2.1 ua some) fun y3=>
    br y3.1
     (Z (.inr (.inl (tape,false,y3.2,y1.2.2.2.2.2.2.2.1,y1.2.2.2.2.2.2.2.2.1,y1.2.2.2.2.2.2.2.2.2.1,y1.2.2.2.2.2.2.2.2.2.2.1,y1.2.2.2.2.2.2.2.2.2.2.2.1,y1.2.2.2.2.2.2.2.2.2.2.2.2.1,y1.2.2.2.2.2.2.2.2.2.2.2.2.2.1))))
     (bnd (jm (1:Int) y1.2.2.2.2.2.2.2.1 y1.2.2.2.2.2.2.2.2.1 y1.2.2.2.2.2.2.2.2.2.1 y1.2.2.2.2.2.2.2.2.2.2.1 y1.2.2.2.2.2.2.2.2.2.2.2.1 y1.2.2.2.2.2.2.2.2.2.2.2.2.1 y1.2.2.2.2.2.2.2.2.2.2.2.2.2.1) fun y4=>
      bnd (okIf (decide ((0:Int)≤(tape.length:Int))&&decide ((tape.length:Int)=(tape.length:Int))&&decide ((tape.length:Int)≤(tape.length:Int)))) fun y5=>
      bnd (okIf (decide ((List.length (List.take (Int.toNat (tape.length:Int)) tape)+1)*8≤140737488355328)&&decide (List.length (List.take (Int.toNat (tape.length:Int)) tape)+1≤140737488355328))) fun y6=>
      bnd (jl (0:Int) (↑(List.length y4.2.2.2.2.2.1):Int) y4.2.2.2.2.2.1) fun y7=>
      bnd (jU y7.1) fun y8=>
      br y8
       (Z (.inr (.inl ((List.take (Int.toNat (tape.length:Int)) tape++[(1:Int)]),true,y3.2,y4.1,y4.2.1,y4.2.2.1,y4.2.2.2.1,y4.2.2.2.2.1,y7.2.1,y4.2.2.2.2.2.2.1))))
       (Z (.inl ((List.take (Int.toNat (tape.length:Int)) tape++[(1:Int)]),y3.2,y4.1,y4.2.1,y4.2.2.1,y4.2.2.2.1,y4.2.2.2.2.1,y7.2.1,y4.2.2.2.2.2.2.1)))))
   (Z (.inr (.inr (tape,ua,y.2.1,y.2.2.1,y.2.2.2.1,y.2.2.2.2.1,y.2.2.2.2.2.1,y.2.2.2.2.2.2.1,y.2.2.2.2.2.2.2.1))))
def je.cd_s:Shape:=(je.c4x0.d 34)
def je.cd_r:LC:=⟨je.cd_s,[(je.cd_s,1,[210]),(je.cd_s,2,[201,1,208])],no,[0,2,3,4,5,6,7,8,9],[0,2,3,4,5,6,7,8,9],fun _=>je.cd_,fun _ _ _ _ _ _ _ _ _ _ _=>jb fun _=>(jf (jb fun _=>(jb fun _=>(jb fun _=>(jf jc (jb fun _=>(jb fun _=>(jb fun _=>(jb fun _=>(jb fun _=>(jf jc jc)))))))))) jc)⟩
def je (tape:List (Int)) (ua:List ((List Int)×((List Int)×(List UInt8)))) (ub:Int) (uc:Int) (ud:List YO) (ue:Int) (uf:Int) (ui:List YN) (uj:List (Int)):Option (Bool×(List ((List Int)×((List Int)×(List UInt8))))×(Int)×(Int)×(List YO)×(Int)×(Int)×(List YN)×Unit):=
  bnd (iter (fun s↦je.cd_ s.1 s.2.1 s.2.2.1 s.2.2.2.1 s.2.2.2.2.1 s.2.2.2.2.2.1 s.2.2.2.2.2.2.1 s.2.2.2.2.2.2.2.1 s.2.2.2.2.2.2.2.2 some) (tape,ua,ub,uc,ud,ue,uf,ui,uj)) fun y=>
  sel y
   (fun u=>some (u.2.1,u.2.2.1,u.2.2.2.1,u.2.2.2.2.1,u.2.2.2.2.2.1,u.2.2.2.2.2.2.1,u.2.2.2.2.2.2.2.1,u.2.2.2.2.2.2.2.2.1,()))
   (fun v=>bnd (jV v.1 v.2.1 v.2.2.1 v.2.2.2.1 v.2.2.2.2.1 v.2.2.2.2.2.1 v.2.2.2.2.2.2.1 v.2.2.2.2.2.2.2.1 v.2.2.2.2.2.2.2.2) fun y1=>
    some (y1.1,y1.2.1,y1.2.2.1,y1.2.2.2.1,y1.2.2.2.2.1,y1.2.2.2.2.2.1,y1.2.2.2.2.2.2.1,y1.2.2.2.2.2.2.2.1,()))
def je.mc:MCallee:=⟨46,je.pre,je.post,fun X=>je X.1 X.2.1 X.2.2.1 X.2.2.2.1 (q4 X).1 (q4 X).2.1 (q4 X).2.2.1 (q4 X).2.2.2.1 (q8 X).1⟩
def je.G:EB Tryz.prog:=⟨tb,Tryz.f46,[⟨66,jU.ce,jU.ok⟩],[0,1,2,6,7,9,34,50],[11,1011,2011,1000100,1000101,1000700,2000701,2000702,7004007,7004011,8700028,8700042,22000702,40401011,40402011],[],[(100001,je.cd_r.ck),(4,je.c4r.ck)],[⟨64,jg.mc,jg.ok⟩,⟨80,jS.mc,jS.ok⟩,⟨65,jm.mc,jm.ok⟩,⟨33,jl.mc,jl.ok⟩,⟨46,je.self.mc,je.self.ok⟩,⟨47,jV.mc,jV.ok⟩],[]⟩
theorem je.ok:MOk Tryz.prog 46 je.mc:=fnM je.G (mc:=je.mc) Tryz.func46 (m:=2) ⟨⟨trivial,kL je.cd_r (by kernel_rfl)⟩,kR je.c4r (by kernel_rfl)⟩ (by kernel_rfl)
end
@[reducible] def je.fuel:Nat→je.Self
  | 0=>⟨fun _=>none,⟨⟨Tryz.f46,Tryz.func46,by kernel_rfl,by kernel_rfl⟩,fun _ _ _ _ _ _ _ hy=>by cases hy⟩⟩
  | n+1=>⟨fun X=>(@je.mc (je.fuel n)).F X,@je.ok (je.fuel n)⟩
def kQ (X:densU je.self.pre.tys):Option (densU je.self.post.tys):=(je.fuel (4200)).F X
def kQ.mc:MCallee:=⟨46,je.self.pre,je.self.post,fun X=>kQ X⟩
theorem kQ.ok:MOk Tryz.prog 46 kQ.mc:=mok_diag (F:=fun n=>(je.fuel n).F) (fun n=>(je.fuel n).ok) (fun X=>4200)
abbrev sc22:SD:=.one (.val (.st (.pair (.int .i64) (.pair (.int .i64) (.sl (.st (.pair (.int .i64) (.pair (.int .i64) (.pair (.sl (.int .i64)) (.pair (.int .i64) (.pair (.int .i64) (.sl (.int .i64)))))))))))))
abbrev sc23:SD:=.one (.val (.int .i64))
abbrev sc24:SD:=.one (.ref 2 0)
abbrev sc25:SD:=.one (.val (.sl (.st (.pair (.sl (.int .i64)) (.pair (.sl (.int .i64)) .str)))))
abbrev sc26:SD:=.one (.ref 5 0)
abbrev sc27:SD:=.one (.ref 12 0)
abbrev sc28:SD:=.one (.ref 7 0)
abbrev sc29:SO:=.box [.val (.int .i64),.val (.int .i64),.val (.sl (.st (.pair (.int .i64) (.pair (.int .i64) (.pair (.sl (.int .i64)) (.pair (.int .i64) (.pair (.int .i64) (.sl (.int .i64)))))))))]
abbrev sc30:SO:=.box [.val (.int .i64),.val (.int .i64)]
abbrev sc31:SO:=.box [.val (.int .i64),.val (.int .i64),.val (.sl (.st (.pair (.int .i64) (.pair (.int .i64) (.pair (.sl (.int .i64)) (.pair (.int .i64) (.pair (.int .i64) (.sl (.int .i64))))))))),.own 1012 0,.own 2012 0,.val (.int .i64),.val (.int .i64)]
def jA.c3  (Z:Unit→Option ρ):Option ρ:=
  Z ()
def jA.c3s:Shape:=⟨[(0,sc22),(1,sc23),(2,sc24),(4,sc25),(5,sc26),(6,sc27),(7,sc28)],[(2,sc29),(5,sc30),(7,sc30),(12,sc31),(1012,sc1),(2012,sc3)]⟩
def jA.c3r:Ck:=Ck.of (T:=Unit) jA.c3s (fun ρ X Z=>jA.c3  Z) (fun ρ X V Z=>Z 0 (Shape.inj jA.c3s (X.1,X.2.1,[],X.2.2.2.1,(q4 X).1,(q4 X).2.1,(q8 X).1,(q8 X).2.1,(q8 X))))
def jA.c3v1  (Z:Unit→Option ρ):Option ρ:=
  Z ()
def jA.c3v1s:Shape:=⟨[(0,sc22),(1,sc23),(2,sc24),(4,sc25),(5,sc26),(6,sc8),(7,sc28)],[(2,sc29),(5,sc30),(7,sc30)]⟩
def jA.c3v1r:Ck:=Ck.of (T:=Unit) jA.c3v1s (fun ρ X Z=>jA.c3v1  Z) (fun ρ X V Z=>Z 0 (Shape.inj jA.c3v1s (X.1,X.2.1,[],X.2.2.2.1,(q4 X).1,(q4 X).2.1,(q4 X).2.2.1,(q8 X).2.1,(q8 X).2.2.1,(q8 X).2)))
def jA.c3v1o:Ck:=Ck.or jA.c3v1s jA.c3v1r jA.c3r
def jA (c:(Int)×((Int)×(List YO))) (t1:Int):Option ((List ((List Int)×((List Int)×(List UInt8))))×((Int)×(Int))):=
  bnd (jv (c.1,c.2.1,c.2.2) t1) fun y=>
  sel y
   (fun u=>br (u.1.1 !=0)
     (bnd (jA.c3 some) fun y1=>
      some ([],u.1.1,u.1.2))
     (bnd (kQ ([],[],u.2.1,u.2.2.1,u.2.2.2.1,u.2.2.2.2.1,u.2.2.2.2.2.1,u.2.2.2.2.2.2.1,u.2.2.2.2.2.2.2.1,())) fun y2=>
      br (!y2.1)
       (bnd (JX (21:Int) (0:Int)) fun y3=>
        some ([],y3.1,y3.2))
       (some (y2.2.1,(0:Int),(0:Int)))))
   (fun v=>br (v.2.1.1 !=0)
     (bnd (jA.c3v1 some) fun y4=>
      some ([],v.2.1.1,v.2.1.2))
     (none))
def jA.ce:Go.Ql.Callee:=⟨[(.st (.pair (.int .i64) (.pair (.int .i64) (.sl (.st (.pair (.int .i64) (.pair (.int .i64) (.pair (.sl (.int .i64)) (.pair (.int .i64) (.pair (.int .i64) (.sl (.int .i64)))))))))))),(.int .i64)],[(.sl (.st (.pair (.sl (.int .i64)) (.pair (.sl (.int .i64)) .str)))),(.st (.pair (.int .i64) (.int .i64)))],fun X=>jA X.1 X.2⟩
def jA.G:Env:=⟨26,tab,[(48,JX.ce)],[0,1,2,4,5,6,7,8,17,22],[8,12,1008,1012,2012],[(3,[⟨[],[],[4],[4]⟩,⟨[],[4],[18],[]⟩,⟨[0,1],[5],[],[]⟩])],[(3,jA.c3v1o)],[(46,kQ.mc)],UX,[(45,jv.ma)]⟩
theorem jA.p0:PcA jA.G Tryz.f18 0:=
  kO (s:=jA.c3v1o) (by kernel_rfl) (by kernel_rfl) (HP (kK (sh:=jA.c3v1s) (fun ρ X Z=>jc) (fun ρ X t k=>(by kernel_rfl)) (fun X=>by kernel_rfl)) (kK (sh:=jA.c3s) (fun ρ X Z=>jc) (fun ρ X t k=>(by kernel_rfl)) (fun X=>by kernel_rfl)))
theorem jA.ok:CalleeOk Tryz.prog 18 jA.ce:=fn_ok (G:=jA.G) HR mixed Tryz.func18 ⟨(Vu JX.ok Hk),(VQ kQ.ok UQ),VZ,(UY jv.ok UH)⟩ (m:=1) (by kernel_rfl) ⟨trivial,jA.p0⟩ (by kernel_rfl) (fun _=>by kernel_rfl)
abbrev sc32:SD:=.one (.ref 4 0)
abbrev sc33:SD:=.one (.val (.sl (.st (.pair (.ar 8 (.st (.pair .bool (.sl (.int .i64))))) (.int .i64)))))
def ko.c1 (t1:Int)(tape:List (Int))(n:Int)(c0:Int)(c1:Int)(c2:List YO)(Z:(List YN)×(Int)×(Int)→Option ρ):Option ρ:=
  bnd (okIf (decide ((0:Int)≤n)&&decide (n≤(c2.length:Int)))) fun y=>
  bnd (jR (c0,c1,List.take (Int.toNat n) c2) t1 tape) fun y1=>
  Z (y1.1,y1.2.2.2.1,y1.2.2.2.2)
def ko.c1s:Shape:=⟨[(0,sc22),(1,sc23),(2,sc11),(3,sc23),(4,sc32),(8,sc33)],[(4,sc29)]⟩
def ko.c1x0:Shape:=((ko.c1s.s 9 sc33).o 12 sc30)
def ko.c1r:RC:=⟨ko.c1s,[(ko.c1x0,0,[5,101,3,102])],no,[1,2,3,5,6,7],@ko.c1,fun _ _ _ _ _ _ _ _=>jb fun _=>(jb fun _=>jc)⟩
def ko (c:(Int)×((Int)×(List YO))) (t1:Int) (tape:List (Int)) (n:Int):Option (List YN):=
  bnd (ko.c1 t1 tape n c.1 c.2.1 c.2.2 some) fun y=>
  some y.1
def ko.ce:=ceOf tab Tryz.f49 ko
def ko.G:EB Tryz.prog:=⟨tb,Tryz.f49,[⟨15,jR.ce,jR.ok⟩],[0,1,2,3,4,8,9],[],[(1,[(17,[12]),(21,[12])])],[(1,ko.c1r.ck)],[],[]⟩
theorem ko.ok:CalleeOk Tryz.prog 49 ko.ce:=fnB ko.G Tryz.func49 (m:=1) ⟨trivial,kR ko.c1r (by kernel_rfl)⟩ (by kernel_rfl)
abbrev sc34:SD:=.one (.own 2 0)
abbrev sc35:SD:=.one (.own 3 0)
def jO.pre:Shape:=⟨[(0,sc11)],[]⟩
def jO.post:Shape:=⟨[(0,sc2)],[(0,sc3)]⟩
def jO.ca_ (l:List (Int))(i:Int)(out:List (Int))(Z:((Int)×(List Int))⊕((Int)×(List Int))→Option ρ):Option ρ:=
  br (decide (i<(l.length:Int)))
   (bnd (idx l i) fun y=>
    bnd (okIf (decide ((out.length+1)*8≤140737488355328)&&decide (out.length+1≤140737488355328))) fun y1=>
    Z (.inl ((i64.wrap (i+1)),(out++[y]))))
   (Z (.inr (i,out)))
def jO.ca_s:Shape:=⟨[(0,sc11),(2,sc34),(3,sc35),(4,sc23)],[(2,sc3),(3,sc3)]⟩
def jO.ca_r:LC:=⟨jO.ca_s,[(jO.ca_s,2,[1,201,1,201])],no,[1,3],[0,1,3],@jO.ca_,fun _ _ _ _ _=>jf (jb fun _=>(jb fun _=>jc)) jc⟩
def jO (l:List (Int)):Option ((List Int)×Unit):=
  bnd (iter (fun s↦jO.ca_ l s.1 s.2 some) ((0:Int),[])) fun y=>
  some (y.2,())
def jO.mc:MCallee:=⟨51,jO.pre,jO.post,fun X=>jO X.1⟩
def jO.G:EB Tryz.prog:=⟨tb,Tryz.f51,[],[0,2,3,4,8],[2,3],[],[(100003,jO.ca_r.ck)],[],[]⟩
theorem jO.ok:MOk Tryz.prog 51 jO.mc:=fnM jO.G (mc:=jO.mc) Tryz.func51 (m:=1) ⟨trivial,kL jO.ca_r (by kernel_rfl)⟩ (by kernel_rfl)
abbrev sc36:SD:=.one (.nilS)
def Jz.pre:Shape:=⟨[(0,sc11)],[]⟩
def Jz.post:Shape:=⟨[(0,sc36)],[]⟩
def Jz.cc_ (tape:List (Int))(n:Int)(Z:(Int)⊕(((List Int)×(Int))⊕(Int))→Option ρ):Option ρ:=
  br (decide (n≥0))
   (bnd (idx tape n) fun y=>
    br (y==0)
     (bnd (okIf (decide ((0:Int)≤n)&&decide (n≤(tape.length:Int)))) fun y1=>
      bnd (jO (List.take (Int.toNat n) tape)) fun y2=>
      bnd (okIf (decide ((List.length y2.1+1)*8≤140737488355328)&&decide (List.length y2.1+1≤140737488355328))) fun y3=>
      Z (.inr (.inl ((y2.1++[(1:Int)]),n))))
     (Z (.inl (i64.wrap (n-1)))))
   (Z (.inr (.inr n)))
def Jz.cc_s:Shape:=((Jz.pre.s 2 sc36).s 3 sc23)
def Jz.cc_x0:Shape:=(Jz.cc_s.s 2 sc11)
def Jz.cc_r:LC:=⟨Jz.cc_s,[(Jz.cc_x0,1,[1,201,101]),(Jz.cc_s,2,[1,201])],no,[1],[0,1],@Jz.cc_,fun _ _ _ _=>jf (jb fun _=>(jf (jb fun _=>(jb fun _=>(jb fun _=>jc))) jc)) jc⟩
def Jz (tape:List (Int)):Option ((Unit)⊕((List Int)×Unit)):=
  bnd (iter (fun s↦Jz.cc_ tape s some) (i64.wrap ((tape.length:Int)-1))) fun y=>
  sel y
   (fun u=>some (Sum.inr (u.1,())))
   (fun v=>some (Sum.inl ()))
def Jz.ma:MAlt:=⟨50,Jz.pre,Jz.post,false,Jz.pre,fun X=>Jz X.1⟩
def Jz.G:EB Tryz.prog:=⟨tb,Tryz.f50,[],[0,2,3,8,15],[45500002],[],[(100002,Jz.cc_r.ck)],[⟨51,jO.mc,jO.ok⟩],[]⟩
theorem Jz.ok:AltOk Tryz.prog 50 Jz.ma:=fnA Jz.G (ma:=Jz.ma) Tryz.func50 (m:=1) ⟨trivial,kL Jz.cc_r (by kernel_rfl)⟩ (by kernel_rfl)
abbrev sc37:SD:=.one (.own 6 0)
abbrev sc38:SD:=.one (.aptr 12 0)
abbrev sc39:SO:=.arr 0 false 48 (.st (.pair (.ar 8 (.st (.pair .bool (.sl (.int .i64))))) (.int .i64)))
def jq.c11  (Z:Unit→Option ρ):Option ρ:=
  Z ()
def jq.c11s:Shape:=⟨[(0,sc22),(1,sc23),(2,sc24),(4,sc25),(5,sc26),(6,sc37),(7,sc11),(8,sc33),(9,sc11),(10,sc23),(11,sc20)],[(2,sc29),(5,sc30),(6,sc14),(11,sc30)]⟩
def jq.c11r:RC:=⟨jq.c11s,[(jq.c11s,0,[2,400,301,7,303,2,401,402,403])],fun X=>([],(q4 (q8 X)).1,(q4 (q8 X)).2.1,(q4 (q8 X)).2.2.1,()),[],@jq.c11,fun _ _=>jc⟩
def jq.c14 (tape:List (Int))(bits:List (Int))(out:List ((List Int)×((List Int)×(List UInt8))))(chance:List YN)(Z:List ((List Int)×((List Int)×(List UInt8)))→Option ρ):Option ρ:=
  bnd (jO tape) fun y=>
  bnd (idx chance (0:Int)) fun y1=>
  bnd (Jb y1) fun y2=>
  bnd (okIf (decide ((out.length+1)*64≤140737488355328)&&decide (out.length+1≤140737488355328))) fun y3=>
  Z (out++[(y.1,bits,y2)])
def jq.c14s:Shape:=((jq.c11s.s 12 sc38).o 12 sc39)
def jq.c14r:RC:=⟨jq.c14s,[(jq.c14s,0,[12,201])],no,[3,5,12,15],@jq.c14,fun _ _ _ _ _ _=>jb fun _=>(jb fun _=>(jb fun _=>(jb fun _=>jc)))⟩
def jq.cu_ (tape:List (Int))(bits:List (Int))(out:List ((List Int)×((List Int)×(List UInt8))))(chance:List YN)(Z:List ((List Int)×((List Int)×(List UInt8)))→Option ρ):Option ρ:=
  bnd (idx chance (0:Int)) fun y=>
  bnd (Je y) fun y1=>
  br (!y1)
   (bnd (jq.c14 tape bits out chance some) fun y2=>
    Z y2)
   (Z out)
def jq.cu_r:RC:=⟨jq.c14s,[(jq.c14s,0,[12,201])],no,[3,5,12,15],@jq.cu_,fun _ _ _ _ _ _=>jb fun _=>(jb fun _=>(jf (jb fun _=>jc) jc))⟩
def jq.c18  (Z:Unit→Option ρ):Option ρ:=
  Z ()
def jq.c18x0:Shape:=(jq.c14s.s 4 sc37)
def jq.c18r:RC:=⟨jq.c14s,[(jq.c18x0,0,[2,301,7,303,2,400,401,402])],fun X=>((q4 (q8 X)).1,(q4 (q8 X)).2.1,(q4 (q8 X)).2.2.1,()),[],@jq.c18,fun _ _=>jc⟩
def jq.c21  (Z:Unit→Option ρ):Option ρ:=
  Z ()
def jq.c21s:Shape:=(jq.c14s.s 7 sc36)
def jq.c21x0:Shape:=(jq.c21s.s 4 sc37)
def jq.c21r:RC:=⟨jq.c21s,[(jq.c21x0,0,[2,301,6,303,2,400,401,402])],fun X=>((q8 X).2.2.2.1,(q4 (q8 X)).1,(q4 (q8 X)).2.1,()),[],@jq.c21,fun _ _=>jc⟩
def jq.ca_ (t1:Int)(tape:List (Int))(c0:Int)(c1:Int)(c2:List YO)(out:List ((List Int)×((List Int)×(List UInt8))))(Z:((List Int)×(List ((List Int)×((List Int)×(List UInt8)))))⊕(((Int)×(Int)×(List ((List Int)×((List Int)×(List UInt8)))))⊕(((List Int)×(Int)×(Int)×(List ((List Int)×((List Int)×(List UInt8)))))⊕((List Int)×(Int)×(Int)×(List ((List Int)×((List Int)×(List UInt8)))))))→Option ρ):Option ρ:=
  bnd (jR (c0,c1,c2) t1 tape) fun y=>
  br (y.2.2.2.1==19)
   (bnd (ko (c0,c1,c2) t1 tape y.2.2.2.2) fun y1=>
    bnd (JH y1) fun y2=>
    bnd (Je y2) fun y3=>
    br y3
     (bnd (Jz tape) fun y4=>
      sel y4
       (fun u=>Z (.inr (.inl ((0:Int),(0:Int),out))))
       (fun v=>br (List.isEmpty v.1)
         (none)
         (Z (.inl (v.1,out)))))
     (bnd (jO tape) fun y5=>
      bnd (okIf (decide ((List.length y5.1+1)*8≤140737488355328)&&decide (List.length y5.1+1≤140737488355328))) fun y6=>
      Z (.inl ((y5.1++[(0:Int)]),out))))
   (br (y.2.2.2.1 !=0)
     (bnd (jq.c11 some) fun y7=>
      Z (.inr (.inr (.inl (tape,y.2.2.2.1,y.2.2.2.2,out)))))
     (bnd (JH y.1) fun y8=>
      bnd (jq.cu_ tape y.2.1 out [y8] some) fun y9=>
      br (decide ((y9.length:Int)>1024))
       (bnd (kf (21:Int) (0:Int)) fun y10=>
        Z (.inr (.inr (.inl (tape,y10.1,y10.2,y9)))))
       (br (y.2.2.1==0)
         (bnd (jq.c18 some) fun y11=>
          Z (.inr (.inr (.inr (tape,y.2.2.2.1,y.2.2.2.2,y9)))))
         (bnd (Jz tape) fun y12=>
          sel y12
           (fun u_1=>bnd (jq.c21 some) fun y13=>
            Z (.inr (.inl (y.2.2.2.1,y.2.2.2.2,y9))))
           (fun v_1=>br (List.isEmpty v_1.1)
             (none)
             (Z (.inl (v_1.1,y9))))))))
def jq.ca_s:Shape:=(((((jq.c11s.d 8).d 9).d 10).d 11).g 11)
def jq.ca_x0:Shape:=((jq.ca_s.s 4 sc37).s 7 sc36)
def jq.ca_x2:Shape:=(jq.ca_s.s 4 sc37)
def jq.ca_r:LC:=⟨jq.ca_s,[(jq.ca_x0,1,[2,302,3,203]),(jq.ca_s,1,[2,400,201,301,3,203]),(jq.ca_x2,1,[2,201,301,3,203])],fun X=>([],()),[3,9],[1,3,4,5,6,9],@jq.ca_,fun _ _ _ _ _ _ _ _=>jb fun _=>(jf (jb fun _=>(jb fun _=>(jb fun _=>(jf (jb fun _=>(Hn (fun _=>jc) (fun _=>(jf UR jc)))) (jb fun _=>(jb fun _=>jc)))))) (jf (jb fun _=>jc) (jb fun _=>(jb fun _=>(jf (jb fun _=>jc) (jf (jb fun _=>jc) (jb fun _=>(Hn (fun _=>(jb fun _=>jc)) (fun _=>(jf UR jc))))))))))⟩
def jq (c:(Int)×((Int)×(List YO))) (t1:Int):Option ((List ((List Int)×((List Int)×(List UInt8))))×((Int)×(Int))):=
  bnd (iter (fun s↦jq.ca_ t1 s.1 c.1 c.2.1 c.2.2 s.2 some) ([],[])) fun y=>
  sel y
   (fun u=>some (u.2.2,u.1,u.2.1))
   (fun v=>sel v
     (fun u_1=>some ([],u_1.2.1,u_1.2.2.1))
     (fun v_1=>some (v_1.2.2.2,v_1.2.1,v_1.2.2.1)))
def jq.ce:=ceOf tab Tryz.f19 jq
def jq.G:EB Tryz.prog:=⟨tb,Tryz.f19,[⟨15,jR.ce,jR.ok⟩,⟨49,ko.ce,ko.ok⟩,⟨17,JH.ce,JH.ok⟩,⟨42,Je.ce,Je.ok⟩,⟨16,Jb.ce,Jb.ok⟩,⟨35,kf.ce,kf.ok⟩],[0,1,2,4,5,6,7,8,9,10,11,12,24,32,36,45,51,63,66,72],[6,12,45000034,45000070,46000036,46000072],[(21,[(3,[5])]),(18,[(3,[5])]),(14,[(2,[54]),(7,[54,59]),(8,[6])]),(11,[(1,[4]),(2,[5])])],[(100003,jq.ca_r.ck),(21,jq.c21r.ck),(18,jq.c18r.ck),(253253,jq.cu_r.ck),(14,jq.c14r.ck),(11,jq.c11r.ck)],[⟨51,jO.mc,jO.ok⟩],[⟨50,Jz.ma,Jz.ok⟩]⟩
theorem jq.ok:CalleeOk Tryz.prog 19 jq.ce:=fnB jq.G Tryz.func19 (m:=6) ⟨⟨⟨⟨⟨⟨trivial,kL jq.ca_r (by kernel_rfl)⟩,kR jq.c11r (by kernel_rfl)⟩,kJ jq.cu_r (by kernel_rfl)⟩,kR jq.c14r (by kernel_rfl)⟩,kR jq.c18r (by kernel_rfl)⟩,kR jq.c21r (by kernel_rfl)⟩ (by kernel_rfl)
def jQ.c6 (a:List ((List Int)×((List Int)×(List UInt8))))(b:List ((List Int)×((List Int)×(List UInt8))))(i:Int)(Z:Bool→Option ρ):Option ρ:=
  bnd (idx a i) fun y=>
  bnd (idx b i) fun y1=>
  bnd (jZ y.1 y1.1) fun y2=>
  br (!y2)
   (Z true)
   (bnd (idx a i) fun y3=>
    bnd (idx b i) fun y4=>
    bnd (jZ y3.2.1 y4.2.1) fun y5=>
    br (!y5)
     (Z true)
     (bnd (idx a i) fun y6=>
      bnd (idx b i) fun y7=>
      Z (!y6.2.2==y7.2.2)))
def jQ.c6s:Shape:=⟨[(0,sc25),(1,sc25),(4,sc15),(5,sc23)],[]⟩
def jQ.c6x0:Shape:=(jQ.c6s.s 55 sc15)
def jQ.c6r:RC:=⟨jQ.c6s,[(jQ.c6x0,0,[4,101])],no,[0,1,3],@jQ.c6,fun _ _ _ _ _=>jb fun _=>(jb fun _=>(jb fun _=>(jf jc (jb fun _=>(jb fun _=>(jb fun _=>(jf jc (jb fun _=>(jb fun _=>jc)))))))))⟩
def jQ.cb_ (a:List ((List Int)×((List Int)×(List UInt8))))(b:List ((List Int)×((List Int)×(List UInt8))))(i:Int)(Z:(Int)⊕((Int)⊕(Int))→Option ρ):Option ρ:=
  br (decide (i<(a.length:Int)))
   (bnd (jQ.c6 a b i some) fun y=>
    br y
     (Z (.inr (.inl i)))
     (Z (.inl (i64.wrap (i+1)))))
   (Z (.inr (.inr i)))
def jQ.cb_r:LC:=⟨jQ.c6s,[(jQ.c6s,1,[2,400,201,301]),(jQ.c6s,2,[3,201])],fun X=>(false,()),[3],[0,1,3],@jQ.cb_,fun _ _ _ _ _=>jf (jb fun _=>(jf jc jc)) jc⟩
def jQ (a:List ((List Int)×((List Int)×(List UInt8)))) (b:List ((List Int)×((List Int)×(List UInt8)))):Option Bool:=
  br ((a.length:Int) !=(b.length:Int))
   (some false)
   (bnd (iter (fun s↦jQ.cb_ a b s some) (0:Int)) fun y=>
    sel y
     (fun u=>some false)
     (fun v=>some true))
def jQ.ce:=ceOf tab Tryz.f20 jQ
def jQ.G:EB Tryz.prog:=⟨tb,Tryz.f20,[⟨13,jZ.ce,jZ.ok⟩],[0,1,4,5,10,14,55],[],[(6,[])],[(100004,jQ.cb_r.ck),(6,jQ.c6r.ck)],[],[]⟩
theorem jQ.ok:CalleeOk Tryz.prog 20 jQ.ce:=fnB jQ.G Tryz.func20 (m:=2) ⟨⟨trivial,kL jQ.cb_r (by kernel_rfl)⟩,kR jQ.c6r (by kernel_rfl)⟩ (by kernel_rfl)
abbrev sc40:SD:=.one (.ref 6 0)
abbrev sc41:SD:=.one (.ref 8 0)
def Ji.c3 (bs:List ((List Int)×((List Int)×(List UInt8))))(cs:List ((List Int)×((List Int)×(List UInt8))))(f0:Int)(f1:Int)(g0:Int)(g1:Int)(Z:Bool→Option ρ):Option ρ:=
  bnd Jt fun y=>
  br y
   (br (Ty.eqT (Ty.pair (Ty.int IntKind.i64) (Ty.int IntKind.i64)) (f0,f1) (g0,g1))
     (bnd (jQ bs cs) fun y1=>
      Z y1)
     (Z false))
   (Z false)
def Ji.c3s:Shape:=⟨[(0,sc22),(1,sc23),(2,sc24),(4,sc15),(5,sc25),(6,sc40),(7,sc25),(8,sc41)],[(2,sc29),(6,sc30),(8,sc30)]⟩
def Ji.c3r:RC:=⟨Ji.c3s,[(Ji.c3s,0,[2,201])],no,[3,4,8,9,10,11],@Ji.c3,fun _ _ _ _ _ _ _ _=>jb fun _=>(jf (jf (jb fun _=>jc) jc) jc)⟩
def Ji (c:(Int)×((Int)×(List YO))) (t1:Int):Option Bool:=
  bnd (jW (c.1,c.2.1,c.2.2)) fun y=>
  bnd (jA y t1) fun y1=>
  bnd (jq (c.1,c.2.1,c.2.2) t1) fun y2=>
  bnd (Ji.c3 y1.1 y2.1 y1.2.1 y1.2.2 y2.2.1 y2.2.2 some) fun y3=>
  some y3
def Ji.ce:=ceOf tab Tryz.f4 Ji
def Ji.G:EB Tryz.prog:=⟨tb,Tryz.f4,[⟨7,jW.ce,jW.ok⟩,⟨18,jA.ce,jA.ok⟩,⟨19,jq.ce,jq.ok⟩,⟨10,Jt.ce,Jt.ok⟩,⟨20,jQ.ce,jQ.ok⟩],[0,1,2,4,5,6,7,8],[],[],[(3,Ji.c3r.ck)],[],[]⟩
theorem Ji.ok:CalleeOk Tryz.prog 4 Ji.ce:=fnB Ji.G Tryz.func4 (m:=1) ⟨trivial,kR Ji.c3r (by kernel_rfl)⟩ (by kernel_rfl)
end
end W
end
