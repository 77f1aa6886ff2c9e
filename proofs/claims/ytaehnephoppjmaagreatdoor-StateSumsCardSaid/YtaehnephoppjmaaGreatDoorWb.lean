/- Lifted functions, part 2: each with its contract. -/
import Derived.Test.YtaehnephoppjmaaGreatDoorWa
import Derived.Test.YtaehnephoppjmaaGreatDoorLf
import Derived.Test.YtaehnephoppjmaaGreatDoorProg
set_option linter.all false
section
set_option maxHeartbeats 4000000
set_option maxRecDepth 100000
namespace W
open Go Go.Ql Go.Proofs Go.IntKind
noncomputable section
variable {ρ:Type}
def jA.pre:Shape:=⟨[(0,sa40),(1,sa2),(2,sa2)],[(2000000,sa28)]⟩
def jA.post:Shape:=⟨[],[(2000000,sa28)]⟩
def jA.cB_ (vlo:Int)(vn:Int)(q:Int)(b:Int)(t9:Int)(uf:List YN)(Z:List YN→Option ρ):Option ρ:=
  bnd (okIf (decide ((0:Int)≤q))) fun y=>
  br (ibits BinOp.and IntKind.i64 (Int.fdiv t9 ((2:Int)^Min.min (Int.toNat q) (64:Nat))) (1:Int) !=b)
   (bnd (okIf (decide ((0:Ty.den (Ty.int IntKind.i64))≤t9)&&decide (t9<vn))) fun y1=>
    bnd (idx uf (vlo+t9)) fun y2=>
    Z (List.set uf (Int.toNat (vlo+t9)) (List.replicate (8:Nat) (false,[]),(0:Int))))
   (Z uf)
def jA.cB_s:Shape:=((jA.pre.s 8 sa2).s 9 sa2)
def jA.cB_r:RC:=⟨jA.cB_s,[(jA.cB_s,0,[6,201])],no,[0,1,2,3,5,6],@jA.cB_,fun _ _ _ _ _ _ _ _=>ja fun _=>(jf (ja fun _=>(ja fun _=>jb)) jb)⟩
def jA.ce_ (vlo:Int)(vn:Int)(q:Int)(b:Int)(t8:Int)(t9:Int)(uf:List YN)(Z:((Int)×(List YN))⊕((Int)×(List YN))→Option ρ):Option ρ:=
  br (decide (t9<t8))
   (bnd (jA.cB_ vlo vn q b t9 uf some) fun y=>
    Z (.inl ((i64.wrap (t9+1)),y)))
   (Z (.inr (t9,uf)))
def jA.ce_r:LC:=⟨jA.cB_s,[(jA.cB_s,2,[5,202])],no,[5,6],[0,1,2,3,4,5,6],@jA.ce_,fun _ _ _ _ _ _ _ _ _=>jf (ja fun _=>jb) jb⟩
def jA (vlo:Int) (vn:Int) (q:Int) (b:Int) (uf:List YN):Option ((List YN)×Unit):=
  bnd (iter (fun s↦jA.ce_ vlo vn q b (↑(List.length (part vlo vn uf)):Int) s.1 s.2 some) ((0:Int),uf)) fun y=>
  some (y.2,())
def jA.mc:MCallee:=⟨101,jA.pre,jA.post,fun X=>jA X.1 X.2.1 X.2.2.1 X.2.2.2.1 (q4 X).1⟩
def jA.G:EB Tryz.prog:=⟨tb,Tryz.f101,[],[0,1,2,6,8,9,10,17],[2000000],[],[(100001,jA.ce_r.ck),(208200,jA.cB_r.ck)],[],[]⟩
theorem jA.ok:MOk Tryz.prog 101 jA.mc:=fnM jA.G (mc:=jA.mc) Tryz.func101 (m:=2) ⟨⟨trivial,kL jA.ce_r (by kernel_rfl)⟩,kJ jA.cB_r (by kernel_rfl)⟩ (by kernel_rfl)
def jn.pre:Shape:=⟨[(0,sa38),(1,sa2)],[(1000700,sa39),(2000701,sa28),(2000702,sa3)]⟩
def jn.post:Shape:=⟨[],[(1000700,sa39),(2000701,sa28),(2000702,sa3)]⟩
def jn.c0 (uc:List YO)(ue:Int)(Z:(Int)×(Int)×(List Int)×(Int)×(Int)×(List Int)→Option ρ):Option ρ:=
  bnd (idx uc ue) fun y=>
  Z (y.1,y.2.1,y.2.2.1,y.2.2.2.1,y.2.2.2.2.1,y.2.2.2.2.2)
def jn.c0x0:Shape:=((jn.pre.s 4 sa20).o 4 sa14)
def jn.c0r:RC:=⟨jn.pre,[(jn.c0x0,0,[1,106])],no,[3,5],@jn.c0,fun _ _ _ _=>ja fun _=>jb⟩
def jn.c1 (b:Int)(o3:Int)(ug:List YN)(Z:List YN→Option ρ):Option ρ:=
  bnd (jA (0:Int) (ug.length:Int) o3 b ug) fun y=>
  Z y.1
def jn.c1r:RC:=⟨jn.c0x0,[(jn.c0x0,0,[12,201])],no,[0,4,12],@jn.c1,fun _ _ _ _ _=>ja fun _=>jb⟩
def jn.c3 (o4:Int)(uh:List (Int))(Z:Unit→Option ρ):Option ρ:=
  bnd (inR (uh.length) o4) fun y=>
  bnd (idx uh o4) fun y1=>
  Z ()
def jn.c3r:RC:=⟨jn.c0x0,[(jn.c0x0,0,[13,400,301])],fun X=>((List.set (q4 (q8 X)).2.1 (Int.toNat (q4 X).2.1) X.1),()),[5,13],@jn.c3,fun _ _ _ _=>ja fun _=>(ja fun _=>jb)⟩
def jn.c5 (o3:Int)(ug:List YN)(Z:List YN→Option ρ):Option ρ:=
  bnd (jd (0:Int) (ug.length:Int) ((2:Int),(0:Int),[],o3,(0:Int),[]) ug) fun y=>
  Z y.1
def jn.c5r:RC:=⟨jn.c0x0,[(jn.c0x0,0,[12,201])],no,[4,12],@jn.c5,fun _ _ _ _=>ja fun _=>jb⟩
def jn.cS_ (b:Int)(o0:Int)(o3:Int)(o4:Int)(ug:List YN)(uh:List (Int))(Z:(List YN)×(List Int)→Option ρ):Option ρ:=
  br (o0==5)
   (bnd (jn.c3 o4 uh some) fun y=>
    Z (ug,(List.set uh (Int.toNat o4) b)))
   (br (b==1)
     (bnd (jn.c5 o3 ug some) fun y1=>
      Z (y1,uh))
     (Z (ug,uh)))
def jn.cS_r:RC:=⟨jn.c0x0,[(jn.c0x0,0,[12,202])],no,[0,1,4,5,12,13],@jn.cS_,fun _ _ _ _ _ _ _ _=>jf (ja fun _=>jb) (jf (ja fun _=>jb) jb)⟩
def jn (b:Int) (ua:Int) (ub:Int) (uc:List YO) (ud:Int) (ue:Int) (ug:List YN) (uh:List (Int)):Option ((Int)×(Int)×(List YO)×(Int)×(Int)×(List YN)×(List Int)×Unit):=
  bnd (jn.c0 uc ue some) fun y=>
  bnd (jn.c1 b y.2.2.2.1 ug some) fun y1=>
  bnd (jn.cS_ b y.1 y.2.2.2.1 y.2.2.2.2.1 y1 uh some) fun y2=>
  some (ua,ub,uc,i64.wrap (ud+1),i64.wrap (ue+1),y2.1,y2.2,())
def jn.mc:MCallee:=⟨65,jn.pre,jn.post,fun X=>jn X.1 X.2.1 X.2.2.1 X.2.2.2.1 (q4 X).1 (q4 X).2.1 (q4 X).2.2.1 (q4 X).2.2.2.1⟩
def jn.G:EB Tryz.prog:=⟨tb,Tryz.f65,[],[0,1,4,26,36],[1000700,2000701,2000702],[(5,[(7,[2000701])]),(3,[(8,[2000702])]),(1,[(7,[2000701])]),(0,[(11,[4]),(12,[4])])],[(208201,jn.cS_r.ck),(5,jn.c5r.ck),(3,jn.c3r.ck),(1,jn.c1r.ck),(0,jn.c0r.ck)],[⟨101,jA.mc,jA.ok⟩,⟨100,jd.mc,jd.ok⟩],[]⟩
theorem jn.ok:MOk Tryz.prog 65 jn.mc:=fnM jn.G (mc:=jn.mc) Tryz.func65 (m:=5) ⟨⟨⟨⟨⟨trivial,kR jn.c0r (by kernel_rfl)⟩,kR jn.c1r (by kernel_rfl)⟩,kJ jn.cS_r (by kernel_rfl)⟩,kR jn.c3r (by kernel_rfl)⟩,kR jn.c5r (by kernel_rfl)⟩ (by kernel_rfl)
def Jn.pre:Shape:=⟨[(0,sa19)],[]⟩
def Jn.post:Shape:=⟨[(0,sa29)],[(0,sa43)]⟩
def Jn (s:List (Int)):Option ((List Int)×Unit):=
  br (List.isEmpty s)
   (both
     (some ([],()))
     (bnd (okIf (decide (((0:Nat)+s.length)*4≤140737488355328)&&decide ((0:Nat)+s.length≤140737488355328))) fun y=>
      some (s,())))
   (bnd (okIf (decide (((0:Nat)+s.length)*4≤140737488355328)&&decide ((0:Nat)+s.length≤140737488355328))) fun y1=>
    some (s,()))
def Jn.mc:MCallee:=⟨93,Jn.pre,Jn.post,fun X=>Jn X.1⟩
def Jn.G:EB Tryz.prog:=⟨tb,Tryz.f93,[],[0,2,4],[2,5],[],[],[],[]⟩
theorem Jn.ok:MOk Tryz.prog 93 Jn.mc:=fnM Jn.G (mc:=Jn.mc) Tryz.func93 (m:=0) trivial (by kernel_rfl)
abbrev sa63:SD:=.one (.own 2000000 0)
abbrev sa64:SO:=.arr 0 false 5 (.int .u8)
def jx.pre:Shape:=⟨[(0,sa63)],[(2000000,sa64)]⟩
def jx.post:Shape:=⟨[],[(2000000,sa64)]⟩
def jx.c3 (i:Int)(j:Int)(uf:List (Int))(Z:List (Int)→Option ρ):Option ρ:=
  bnd (inR (uf.length) j) fun y=>
  bnd (idx uf j) fun y1=>
  bnd (inR (uf.length) i) fun y2=>
  bnd (idx uf i) fun y3=>
  bnd (inR (uf.length) i) fun y4=>
  bnd (idx uf i) fun y5=>
  bnd (inR (List.length (List.set uf (Int.toNat i) y1)) j) fun y6=>
  bnd (idx (List.set uf (Int.toNat i) y1) j) fun y7=>
  Z (List.set (List.set uf (Int.toNat i) y1) (Int.toNat j) y3)
def jx.c3s:Shape:=((jx.pre.s 2 sa2).s 3 sa2)
def jx.c3r:RC:=⟨jx.c3s,[(jx.c3s,0,[2,201])],no,[0,1,2],@jx.c3,fun _ _ _ _ _=>ja fun _=>(ja fun _=>(ja fun _=>(ja fun _=>(ja fun _=>(ja fun _=>(ja fun _=>(ja fun _=>jb)))))))⟩
def jx.ce_ (i:Int)(j:Int)(uf:List (Int))(Z:((Int)×(Int)×(List Int))⊕((Int)×(Int)×(List Int))→Option ρ):Option ρ:=
  br (decide (i<j))
   (bnd (jx.c3 i j uf some) fun y=>
    Z (.inl ((i64.wrap (i+1)),(i64.wrap (j-1)),y)))
   (Z (.inr (i,j,uf)))
def jx.ce_r:LC:=⟨jx.c3s,[(jx.c3s,2,[203])],no,[0,1,2],[0,1,2],@jx.ce_,fun _ _ _ _ _=>jf (ja fun _=>jb) jb⟩
def jx (uf:List (Int)):Option ((List Int)×Unit):=
  bnd (iter (fun s↦jx.ce_ s.1 s.2.1 s.2.2 some) ((0:Int),i64.wrap ((uf.length:Int)-1),uf)) fun y=>
  some (y.2.2,())
def jx.mc:MCallee:=⟨94,jx.pre,jx.post,fun X=>jx X.1⟩
def jx.G:EB Tryz.prog:=⟨tb,Tryz.f94,[],[0,2,3,9],[2000000],[(3,[(13,[2000000]),(15,[2000000])])],[(100001,jx.ce_r.ck),(3,jx.c3r.ck)],[],[]⟩
theorem jx.ok:MOk Tryz.prog 94 jx.mc:=fnM jx.G (mc:=jx.mc) Tryz.func94 (m:=2) ⟨⟨trivial,kL jx.ce_r (by kernel_rfl)⟩,kR jx.c3r (by kernel_rfl)⟩ (by kernel_rfl)
abbrev sa65:SD:=.one (.val .str)
abbrev sa66:SD:=.one (.own 14 0)
def whole_Int_Text.cf_ (part:Int)(i:Int)(t14:List (Int))(Z:((Int)×(Int)×(List Int))⊕((Int)×(Int)×(List Int))→Option ρ):Option ρ:=
  br (decide (i≥0))
   (bnd (inR (t14.length) i) fun y=>
    bnd (idx t14 i) fun y1=>
    bnd (inR (t14.length) i) fun y2=>
    bnd (idx t14 i) fun y3=>
    Z (.inl ((Int.tmod (ibits BinOp.or IntKind.u64 (u64.wrap (part*2 ^32)) (IntKind.wrap IntKind.u64 y1)) (1000000000:Int)),(i64.wrap (i-1)),(List.set t14 (Int.toNat i) (u32.wrap (u64.wrap (Int.tdiv (ibits BinOp.or IntKind.u64 (u64.wrap (part*2 ^32)) (IntKind.wrap IntKind.u64 y1)) (1000000000:Int))))))))
   (Z (.inr (part,i,t14)))
def whole_Int_Text.cf_s:Shape:=⟨[(0,sa50),(1,sa5),(2,sa65),(3,sa1),(4,sa66),(5,sa22),(6,sa2)],[(1,sa21),(3,sa64),(14,sa43)]⟩
def whole_Int_Text.cf_r:LC:=⟨whole_Int_Text.cf_s,[(whole_Int_Text.cf_s,4,[2,202,3,201])],no,[2,3,7],[2,3,7],@whole_Int_Text.cf_,fun _ _ _ _ _=>jf (ja fun _=>(ja fun _=>(ja fun _=>(ja fun _=>jb)))) jb⟩
def whole_Int_Text.cy_ (t14:List (Int))(Z:List (Int)→Option ρ):Option ρ:=
  bnd (inR (t14.length) (i64.wrap ((t14.length:Int)-1))) fun y=>
  bnd (idx t14 (i64.wrap ((t14.length:Int)-1))) fun y1=>
  br (y1==0)
   (bnd (okIf (decide ((0:Int)≤i64.wrap ((t14.length:Int)-1))&&decide (i64.wrap ((t14.length:Int)-1)≤(t14.length:Int)))) fun y2=>
    Z (List.take (Int.toNat (i64.wrap ((t14.length:Int)-1))) t14))
   (Z t14)
def whole_Int_Text.cy_r:RC:=⟨whole_Int_Text.cf_s,[(whole_Int_Text.cf_s,0,[7,201])],no,[7],@whole_Int_Text.cy_,fun _ _ _=>ja fun _=>(ja fun _=>(jf (ja fun _=>jb) jb))⟩
def whole_Int_Text.c16 (part:Int)(t7:Int)(t14:List (Int))(Z:Bool→Option ρ):Option ρ:=
  br (decide (t7<9))
   (br (decide (part>0))
     (Z true)
     (Z (decide ((t14.length:Int)>0))))
   (Z false)
def whole_Int_Text.c16s:Shape:=(whole_Int_Text.cf_s.s 7 sa2)
def whole_Int_Text.c16x0:Shape:=(whole_Int_Text.c16s.s 63 sa11)
def whole_Int_Text.c16r:RC:=⟨whole_Int_Text.c16s,[(whole_Int_Text.c16x0,0,[5,101])],no,[2,4,8],@whole_Int_Text.c16,fun _ _ _ _ _=>jf (jf jb jb) jb⟩
def whole_Int_Text.cM_ (part:Int)(t7:Int)(out:List (Int))(t14:List (Int))(Z:((Int)×(Int)×(List Int))⊕((Int)×(Int)×(List Int))→Option ρ):Option ρ:=
  bnd (whole_Int_Text.c16 part t7 t14 some) fun y=>
  br y
   (bnd (okIf (decide ((out.length+1)*1≤140737488355328)&&decide (out.length+1≤140737488355328))) fun y1=>
    Z (.inl ((u64.wrap (Int.tdiv part (10:Int))),(i64.wrap (t7+1)),(out++[u8.wrap (u64.wrap ((48:Int)+Int.tmod part (10:Int)))]))))
   (Z (.inr (part,t7,out)))
def whole_Int_Text.cM_r:LC:=⟨whole_Int_Text.c16s,[(whole_Int_Text.c16s,6,[2,201,1,201,2,201])],no,[2,4,7],[2,4,7,8],@whole_Int_Text.cM_,fun _ _ _ _ _ _=>ja fun _=>(jf (ja fun _=>jb) jb)⟩
def whole_Int_Text.cd_ (out:List (Int))(t14:List (Int))(Z:((List Int)×(List Int))⊕((List Int)×(List Int))→Option ρ):Option ρ:=
  br (decide ((t14.length:Int)>0))
   (bnd (iter (fun s↦whole_Int_Text.cf_ s.1 s.2.1 s.2.2 some) ((0:Int),i64.wrap ((t14.length:Int)-1),t14)) fun y=>
    bnd (whole_Int_Text.cy_ y.2.2 some) fun y1=>
    bnd (iter (fun s↦whole_Int_Text.cM_ s.1 s.2.1 s.2.2 y1 some) (y.1,(0:Int),out)) fun y2=>
    Z (.inl (y2.2.2,y1)))
   (Z (.inr (out,t14)))
def whole_Int_Text.cd_s:Shape:=((whole_Int_Text.cf_s.d 5).d 6)
def whole_Int_Text.cd_r:LC:=⟨whole_Int_Text.cd_s,[(whole_Int_Text.cd_s,2,[4,202])],no,[4,5],[4,5],@whole_Int_Text.cd_,fun _ _ _ _=>jf (ja fun _=>(ja fun _=>(ja fun _=>jb))) jb⟩
def whole_Int_Text.cR_ (a0:Bool)(out:List (Int))(Z:List (Int)→Option ρ):Option ρ:=
  br a0
   (bnd (okIf (decide ((out.length+1)*1≤140737488355328)&&decide (out.length+1≤140737488355328))) fun y=>
    Z (out++[(45:Int)]))
   (Z out)
def whole_Int_Text.cR_r:RC:=⟨whole_Int_Text.cd_s,[(whole_Int_Text.cd_s,0,[4,201])],no,[2,4],@whole_Int_Text.cR_,fun _ _ _ _=>jf (ja fun _=>jb) jb⟩
def whole_Int_Text (a:Bool×(List Int)):Option (List UInt8):=
  br ((↑(List.length a.2):Int)==0)
   (some (Array.toList (ByteArray.data (ByteArray.mk #[48]))))
   (bnd (Jn a.2) fun y=>
    bnd (iter (fun s↦whole_Int_Text.cd_ s.1 s.2 some) ([],y.1)) fun y1=>
    bnd (whole_Int_Text.cR_ a.1 y1.1 some) fun y2=>
    bnd (jx y2) fun y3=>
    some (List.map (fun n↦UInt8.ofNat (Int.toNat n)) y3.1))
def whole_Int_Text.ce:=ceOf tab Tryz.f61 whole_Int_Text
def whole_Int_Text.G:EB Tryz.prog:=⟨tb,Tryz.f61,[],[0,1,2,3,4,5,6,7,11,17,22,47,63,76],[3,14],[],[(281925,whole_Int_Text.cR_r.ck),(100005,whole_Int_Text.cd_r.ck),(100016,whole_Int_Text.cM_r.ck),(16,whole_Int_Text.c16r.ck),(253253,whole_Int_Text.cy_r.ck),(100008,whole_Int_Text.cf_r.ck)],[⟨93,Jn.mc,Jn.ok⟩,⟨94,jx.mc,jx.ok⟩],[]⟩
theorem whole_Int_Text.ok:CalleeOk Tryz.prog 61 whole_Int_Text.ce:=fnB whole_Int_Text.G Tryz.func61 (m:=6) ⟨⟨⟨⟨⟨⟨trivial,kL whole_Int_Text.cd_r (by kernel_rfl)⟩,kL whole_Int_Text.cf_r (by kernel_rfl)⟩,kJ whole_Int_Text.cy_r (by kernel_rfl)⟩,kL whole_Int_Text.cM_r (by kernel_rfl)⟩,kR whole_Int_Text.c16r (by kernel_rfl)⟩,kJ whole_Int_Text.cR_r (by kernel_rfl)⟩ (by kernel_rfl)
abbrev sa67:SD:=.one (.own 6 0)
abbrev sa68:SD:=.one (.val (.sl (.st (.pair .bool (.sl (.int .u32))))))
abbrev sa69:SO:=.arr 0 false 9 .str
def jq.cj_ (last:Int)(t11:List (Bool×(List Int)))(t12:Int)(Z:Int→Option ρ):Option ρ:=
  bnd (idx t11 t12) fun y=>
  bnd (whole_Int_Sign (y.1,y.2)) fun y1=>
  br (y1 !=0)
   (Z t12)
   (Z last)
def jq.cj_s:Shape:=⟨[(0,sa23),(1,sa24),(2,sa65),(3,sa2),(11,sa27),(12,sa2)],[]⟩
def jq.cj_r:RC:=⟨jq.cj_s,[(jq.cj_s,0,[3,201])],no,[3,4,5],@jq.cj_,fun _ _ _ _ _=>ja fun _=>(ja fun _=>(jf jb jb))⟩
def jq.ca_ (last:Int)(t11:List (Bool×(List Int)))(t12:Int)(Z:((Int)×(Int))⊕((Int)×(Int))→Option ρ):Option ρ:=
  br (decide (t12<8))
   (bnd (jq.cj_ last t11 t12 some) fun y=>
    Z (.inl (y,(i64.wrap (t12+1)))))
   (Z (.inr (last,t12)))
def jq.ca_r:LC:=⟨jq.cj_s,[(jq.cj_s,2,[3,201,1,201])],no,[3,5],[3,4,5],@jq.ca_,fun _ _ _ _ _=>jf (ja fun _=>jb) jb⟩
def jq.cv_ (t24:List (Bool×(List Int)))(t25:Int)(t26:Int)(parts:List (List UInt8))(Z:((Int)×(List (List UInt8)))⊕((Int)×(List (List UInt8)))→Option ρ):Option ρ:=
  br (decide (t26<t25))
   (bnd (idx t24 t26) fun y=>
    bnd (whole_Int_Text (y.1,y.2)) fun y1=>
    bnd (okIf (decide ((parts.length+1)*16≤140737488355328)&&decide (parts.length+1≤140737488355328))) fun y2=>
    Z (.inl ((i64.wrap (t26+1)),(parts++[y1]))))
   (Z (.inr (t26,parts)))
def jq.cv_s:Shape:=(((((jq.cj_s.s 6 sa67).s 24 sa68).s 25 sa2).s 26 sa2).o 6 sa69)
def jq.cv_r:LC:=⟨jq.cv_s,[(jq.cv_s,4,[8,202])],no,[8,9],[6,7,8,9],@jq.cv_,fun _ _ _ _ _ _=>jf (ja fun _=>(ja fun _=>(ja fun _=>jb))) jb⟩
def jq.cr_ (a_1:YN)(text:List UInt8)(Z:List UInt8→Option ρ):Option ρ:=
  br (decide (a_1.2>0))
   (bnd (strconv_Itoa a_1.2) fun y=>
    bnd (okIf (decide (List.length (Array.toList (ByteArray.data (ByteArray.mk #[47])))+y.length≤9223372036854775807))) fun y1=>
    bnd (okIf (decide (text.length+List.length (Array.toList (ByteArray.data (ByteArray.mk #[47]))++y)≤9223372036854775807))) fun y2=>
    Z (text++(Array.toList (ByteArray.data (ByteArray.mk #[47]))++y)))
   (Z text)
def jq.cr_s:Shape:=(jq.cv_s.s 9 sa65)
def jq.cr_r:RC:=⟨jq.cr_s,[(jq.cr_s,0,[4,201])],no,[1,4],@jq.cr_,fun _ _ _ _=>jf (ja fun _=>(ja fun _=>(ja fun _=>jb))) jb⟩
def jq (a:YN):Option (List UInt8):=
  bnd (iter (fun s↦jq.ca_ s.1 a.1 s.2 some) ((0:Int),(0:Int))) fun y=>
  bnd (okIf (decide ((0:Int)≤i64.wrap (y.1+1))&&decide (i64.wrap (y.1+1)≤(↑(8:Nat):Int)))) fun y1=>
  bnd (iter (fun s↦jq.cv_ (List.take (Int.toNat (i64.wrap (y.1+1))) a.1) (↑(List.length (List.take (Int.toNat (i64.wrap (y.1+1))) a.1)):Int) s.1 s.2 some) ((0:Int),[])) fun y2=>
  bnd (strings_Join y2.2 (Array.toList (ByteArray.data (ByteArray.mk #[44])))) fun y3=>
  bnd (jq.cr_ a y3 some) fun y4=>
  some y4
def jq.ce:=ceOf tab Tryz.f26 jq
def jq.G:EB Tryz.prog:=⟨tb,Tryz.f26,[⟨60,whole_Int_Sign.ce,whole_Int_Sign.ok⟩,⟨61,whole_Int_Text.ce,whole_Int_Text.ok⟩,⟨62,strings_Join.ce,strings_Join.ok⟩,⟨63,strconv_Itoa.ce,strconv_Itoa.ok⟩],[0,1,2,3,4,5,6,8,9,11,12,13,18,24,25,26,27,40],[6,8000001],[],[(261445,jq.cr_r.ck),(100010,jq.cv_r.ck),(100003,jq.ca_r.ck),(216392,jq.cj_r.ck)],[],[]⟩
theorem jq.ok:CalleeOk Tryz.prog 26 jq.ce:=fnB jq.G Tryz.func26 (m:=4) ⟨⟨⟨⟨trivial,kL jq.ca_r (by kernel_rfl)⟩,kJ jq.cj_r (by kernel_rfl)⟩,kL jq.cv_r (by kernel_rfl)⟩,kJ jq.cr_r (by kernel_rfl)⟩ (by kernel_rfl)
abbrev sa70:SD:=.one (.val (.sl .str))
abbrev sa71:SD:=.one (.own 8 0)
def jL.pre:Shape:=⟨[(0,sa40)],[(2000000,sa28)]⟩
def jL.post:Shape:=⟨[(0,sa70)],[(2000000,sa28)]⟩
def jL.ca_ (t9lo:Int)(t9n:Int)(t10:Int)(t11:Int)(t8:List (List UInt8))(uf:List YN)(Z:((Int)×(List (List UInt8)))⊕((Int)×(List (List UInt8)))→Option ρ):Option ρ:=
  br (decide (t11<t10))
   (bnd (okIf (decide ((0:Ty.den (Ty.int IntKind.i64))≤t11)&&decide (t11<t9n))) fun y=>
    bnd (idx uf (t9lo+t11)) fun y1=>
    bnd (jq y1) fun y2=>
    bnd (inR (t8.length) t11) fun y3=>
    bnd (idx t8 t11) fun y4=>
    Z (.inl ((i64.wrap (t11+1)),(List.set t8 (Int.toNat t11) y2))))
   (Z (.inr (t11,t8)))
def jL.ca_s:Shape:=((((((jL.pre.s 2 sa70).s 3 sa71).s 9 sa40).s 10 sa2).s 11 sa2).o 8 sa69)
def jL.ca_r:LC:=⟨jL.ca_s,[(jL.ca_s,2,[6,202])],no,[6,7],[3,4,5,6,7,8],@jL.ca_,fun _ _ _ _ _ _ _ _=>jf (ja fun _=>(ja fun _=>(ja fun _=>(ja fun _=>(ja fun _=>jb))))) jb⟩
def jL (vlo:Int) (vn:Int) (uf:List YN):Option ((List (List UInt8))×(List YN)×Unit):=
  bnd (okIf (decide ((0:Int)≤(↑(List.length (part vlo vn uf)):Int))&&decide ((↑(List.length (part vlo vn uf)):Int)≤(↑(List.length (part vlo vn uf)):Int))&&decide ((↑(List.length (part vlo vn uf)):Int)*(↑(16:Nat):Int)≤140737488355328)&&decide ((↑(List.length (part vlo vn uf)):Int)≤140737488355328))) fun y=>
  bnd (iter (fun s↦jL.ca_ vlo vn (↑(List.length (part vlo vn uf)):Int) s.1 s.2 uf some) ((0:Int),List.replicate (Int.toNat (↑(List.length (part vlo vn uf)):Int)) [])) fun y1=>
  some (y1.2,uf,())
def jL.mc:MCallee:=⟨29,jL.pre,jL.post,fun X=>jL X.1 X.2.1 X.2.2.1⟩
def jL.G:EB Tryz.prog:=⟨tb,Tryz.f29,[⟨26,jq.ce,jq.ok⟩],[0,2,3,4,5,9,10,11,12],[5,8,2000000],[],[(100003,jL.ca_r.ck)],[],[]⟩
theorem jL.ok:MOk Tryz.prog 29 jL.mc:=fnM jL.G (mc:=jL.mc) Tryz.func29 (m:=1) ⟨trivial,kL jL.ca_r (by kernel_rfl)⟩ (by kernel_rfl)
def kA (code:Int) (t1:Int):Option ((Int)×(Int)):=
  some (code,t1)
def kA.ce:=ceOf tab Tryz.f35 kA
def kA.G:EB Tryz.prog:=⟨tb,Tryz.f35,[],[0,1,4],[],[],[],[],[]⟩
theorem kA.ok:CalleeOk Tryz.prog 35 kA.ce:=fnB kA.G Tryz.func35 (m:=0) trivial (by kernel_rfl)
def kF.cb_ (l:List (Int))(x:Int)(i:Int)(Z:(Int)⊕((Int)⊕(Int))→Option ρ):Option ρ:=
  br (decide (i<(l.length:Int)))
   (bnd (idx l i) fun y=>
    br (y==x)
     (Z (.inr (.inl i)))
     (Z (.inl (i64.wrap (i+1)))))
   (Z (.inr (.inr i)))
def kF.cb_s:Shape:=⟨[(0,sa0),(1,sa2),(4,sa11),(5,sa2)],[]⟩
def kF.cb_r:LC:=⟨kF.cb_s,[(kF.cb_s,1,[2,400,201,301]),(kF.cb_s,2,[3,201])],fun X=>(true,()),[3],[0,1,3],@kF.cb_,fun _ _ _ _ _=>jf (ja fun _=>(jf jb jb)) jb⟩
def kF (l:List (Int)) (x:Int):Option Bool:=
  bnd (iter (fun s↦kF.cb_ l x s some) (0:Int)) fun y=>
  sel y
   (fun u=>some true)
   (fun v=>some false)
def kF.ce:=ceOf tab Tryz.f54 kF
def kF.G:EB Tryz.prog:=⟨tb,Tryz.f54,[],[0,1,4,5,9,17],[],[],[(100002,kF.cb_r.ck)],[],[]⟩
theorem kF.ok:CalleeOk Tryz.prog 54 kF.ce:=fnB kF.G Tryz.func54 (m:=1) ⟨trivial,kL kF.cb_r (by kernel_rfl)⟩ (by kernel_rfl)
def jp.c1 (o0:Int)(Z:Bool→Option ρ):Option ρ:=
  br (decide (o0<1))
   (Z true)
   (Z (decide (o0>6)))
def jp.c1s:Shape:=⟨[(0,sa12),(1,sa2),(2,sa2),(3,sa7),(6,sa2)],[(3,sa14)]⟩
def jp.c1x0:Shape:=(jp.c1s.s 17 sa11)
def jp.c1r:RC:=⟨jp.c1s,[(jp.c1x0,0,[4,101])],no,[4],@jp.c1,fun _ _ _=>jf jb jb⟩
def jp.c3 (o0:Int)(Z:Bool→Option ρ):Option ρ:=
  br (o0==1)
   (Z true)
   (Z (o0==4))
def jp.c3x0:Shape:=(jp.c1s.s 7 sa11)
def jp.c3r:RC:=⟨jp.c1s,[(jp.c3x0,0,[4,101])],no,[4],@jp.c3,fun _ _ _=>jf jb jb⟩
def jp.c4 (angle:Bool)(o1:Int)(Z:Bool→Option ρ):Option ρ:=
  br (decide (o1<0))
   (Z true)
   (br (decide (o1>15))
     (Z true)
     (br (decide (o1>0))
       (Z (!angle))
       (Z false)))
def jp.c4x0:Shape:=(jp.c3x0.s 42 sa11)
def jp.c4r:RC:=⟨jp.c3x0,[(jp.c4x0,0,[5,101])],no,[4,6],@jp.c4,fun _ _ _ _=>jf jb (jf jb (jf jb jb))⟩
def jp.c6 (qubits:Int)(o0:Int)(o3:Int)(Z:Bool→Option ρ):Option ρ:=
  br (decide (o3<0))
   (Z true)
   (br (decide (o3≥qubits))
     (Z true)
     (br (o0==1)
       (Z (decide (o3>0)))
       (Z false)))
def jp.c6x0:Shape:=(jp.c3x0.s 61 sa11)
def jp.c6r:RC:=⟨jp.c3x0,[(jp.c6x0,0,[5,101])],no,[1,5,8],@jp.c6,fun _ _ _ _ _=>jf jb (jf jb (jf jb jb))⟩
def jp.c8 (o0:Int)(o2:List (Int))(Z:Bool→Option ρ):Option ρ:=
  br (decide ((o2.length:Int)>0))
   (br (o0 !=2)
     (br (o0 !=3)
       (Z (o0 !=4))
       (Z false))
     (Z false))
   (Z false)
def jp.c8x0:Shape:=(jp.c3x0.s 80 sa11)
def jp.c8r:RC:=⟨jp.c3x0,[(jp.c8x0,0,[5,101])],no,[5,7],@jp.c8,fun _ _ _ _=>jf (jf (jf jb jb) jb) jb⟩
def jp.c13 (qubits:Int)(i:Int)(o2:List (Int))(Z:Bool→Option ρ):Option ρ:=
  bnd (idx o2 i) fun y=>
  br (decide (y<0))
   (Z true)
   (bnd (idx o2 i) fun y1=>
    Z (decide (y1≥qubits)))
def jp.c13s:Shape:=(jp.c3x0.s 8 sa2)
def jp.c13x0:Shape:=(jp.c13s.s 102 sa11)
def jp.c13r:RC:=⟨jp.c13s,[(jp.c13x0,0,[6,101])],no,[1,5,8],@jp.c13,fun _ _ _ _ _=>ja fun _=>(jf jb (ja fun _=>jb))⟩
def jp.c15 (i:Int)(o2:List (Int))(o3:Int)(Z:Bool→Option ρ):Option ρ:=
  bnd (idx o2 i) fun y=>
  br (y==o3)
   (Z true)
   (bnd (okIf (decide ((0:Int)≤i)&&decide (i≤(o2.length:Int)))) fun y1=>
    bnd (idx o2 i) fun y2=>
    bnd (kF (List.take (Int.toNat i) o2) y2) fun y3=>
    Z y3)
def jp.c15x0:Shape:=(jp.c13s.s 122 sa11)
def jp.c15r:RC:=⟨jp.c13s,[(jp.c15x0,0,[6,101])],no,[5,8,9],@jp.c15,fun _ _ _ _ _=>ja fun _=>(jf jb (ja fun _=>(ja fun _=>(ja fun _=>jb))))⟩
def jp.cs_ (qubits:Int)(i:Int)(o2:List (Int))(o3:Int)(Z:(Int)⊕(((Int)×(Int))⊕(Int))→Option ρ):Option ρ:=
  br (decide (i<(o2.length:Int)))
   (bnd (jp.c13 qubits i o2 some) fun y=>
    br y
     (Z (.inr (.inl ((10:Int),i))))
     (bnd (jp.c15 i o2 o3 some) fun y1=>
      br y1
       (Z (.inr (.inl ((12:Int),i))))
       (Z (.inl (i64.wrap (i+1))))))
   (Z (.inr (.inr i)))
def jp.cs_r:LC:=⟨jp.c13s,[(jp.c13s,1,[3,201,1,201]),(jp.c13s,2,[5,201])],no,[5],[1,5,8,9],@jp.cs_,fun _ _ _ _ _ _=>jf (ja fun _=>(jf jb (ja fun _=>(jf jb jb)))) jb⟩
def jp.c18 (bits:Int)(o4:Int)(Z:Bool→Option ρ):Option ρ:=
  br (decide (o4<0))
   (Z true)
   (Z (decide (o4≥bits)))
def jp.c18x0:Shape:=(jp.c13s.s 134 sa11)
def jp.c18r:RC:=⟨jp.c13s,[(jp.c18x0,0,[6,101])],no,[2,10],@jp.c18,fun _ _ _ _=>jf jb jb⟩
def jp.cY_ (bits:Int)(o0:Int)(o4:Int)(Z:(Unit)⊕(Unit)→Option ρ):Option ρ:=
  br (o0==5)
   (bnd (jp.c18 bits o4 some) fun y=>
    br y
     (Z (.inl ()))
     (Z (.inr ())))
   (br (o4 !=0)
     (Z (.inl ()))
     (Z (.inr ())))
def jp.cY_r:RC:=⟨jp.c13s,[(jp.c13s,1,[3,400,301]),(jp.c13s,0,[])],fun X=>((13:Int),()),[2,6,10],@jp.cY_,fun _ _ _ _ _=>jf (ja fun _=>(jf jb jb)) (jf jb jb)⟩
def jp.c27 (bits:Int)(i_1:Int)(o5:List (Int))(Z:Bool→Option ρ):Option ρ:=
  bnd (idx o5 i_1) fun y=>
  br (y==0)
   (Z true)
   (bnd (idx o5 i_1) fun y1=>
    br (decide (y1>bits))
     (Z true)
     (bnd (idx o5 i_1) fun y2=>
      Z (decide (y2<i64.wrap ((0:Int)-bits)))))
def jp.c27s:Shape:=(jp.c13s.s 9 sa2)
def jp.c27x0:Shape:=(jp.c27s.s 173 sa11)
def jp.c27r:RC:=⟨jp.c27s,[(jp.c27x0,0,[7,101])],no,[2,6,12],@jp.c27,fun _ _ _ _ _=>ja fun _=>(jf jb (ja fun _=>(jf jb (ja fun _=>jb))))⟩
def jp.cw_ (bits:Int)(i_1:Int)(o5:List (Int))(Z:(Int)⊕((Int)⊕(Int))→Option ρ):Option ρ:=
  br (decide (i_1<(o5.length:Int)))
   (bnd (jp.c27 bits i_1 o5 some) fun y=>
    br y
     (Z (.inr (.inl i_1)))
     (Z (.inl (i64.wrap (i_1+1)))))
   (Z (.inr (.inr i_1)))
def jp.cw_r:LC:=⟨jp.c27s,[(jp.c27s,1,[3,400,301,2,201]),(jp.c27s,4,[6,201])],fun X=>((14:Int),()),[6],[2,6,12],@jp.cw_,fun _ _ _ _ _=>jf (ja fun _=>(jf jb jb)) jb⟩
def jp (o:YO) (qubits:Int) (bits:Int):Option (Int):=
  bnd (jp.c1 o.1 some) fun y=>
  br y
   (some (8:Int))
   (bnd (jp.c3 o.1 some) fun y1=>
    bnd (jp.c4 y1 o.2.1 some) fun y2=>
    br y2
     (some (9:Int))
     (bnd (jp.c6 qubits o.1 o.2.2.2.1 some) fun y3=>
      br y3
       (some (10:Int))
       (bnd (jp.c8 o.1 o.2.2.1 some) fun y4=>
        br y4
         (some (11:Int))
         (bnd (iter (fun s↦jp.cs_ qubits s o.2.2.1 o.2.2.2.1 some) (0:Int)) fun y5=>
          sel y5
           (fun u=>some u.1)
           (fun v=>bnd (jp.cY_ bits o.1 o.2.2.2.2.1 some) fun y6=>
            sel y6
             (fun u_1=>some (13:Int))
             (fun v_1=>br (decide ((↑(List.length o.2.2.2.2.2):Int)>24))
               (some (14:Int))
               (bnd (iter (fun s↦jp.cw_ bits s o.2.2.2.2.2 some) (0:Int)) fun y7=>
                sel y7
                 (fun u_2=>some (14:Int))
                 (fun v_2=>some (0:Int)))))))))
def jp.ce:=ceOf tab Tryz.f68 jp
def jp.G:EB Tryz.prog:=⟨tb,Tryz.f68,[⟨54,kF.ce,kF.ok⟩],[0,1,2,3,6,7,8,9,17,42,61,80,85,102,122,125,134,137,141,146,173],[],[(15,[])],[(100025,jp.cw_r.ck),(27,jp.c27r.ck),(269649,jp.cY_r.ck),(18,jp.c18r.ck),(100011,jp.cs_r.ck),(15,jp.c15r.ck),(13,jp.c13r.ck),(8,jp.c8r.ck),(6,jp.c6r.ck),(4,jp.c4r.ck),(3,jp.c3r.ck),(1,jp.c1r.ck)],[],[]⟩
theorem jp.ok:CalleeOk Tryz.prog 68 jp.ce:=fnB jp.G Tryz.func68 (m:=12) ⟨⟨⟨⟨⟨⟨⟨⟨⟨⟨⟨⟨trivial,kR jp.c1r (by kernel_rfl)⟩,kR jp.c3r (by kernel_rfl)⟩,kR jp.c4r (by kernel_rfl)⟩,kR jp.c6r (by kernel_rfl)⟩,kR jp.c8r (by kernel_rfl)⟩,kL jp.cs_r (by kernel_rfl)⟩,kR jp.c13r (by kernel_rfl)⟩,kR jp.c15r (by kernel_rfl)⟩,kJ jp.cY_r (by kernel_rfl)⟩,kR jp.c18r (by kernel_rfl)⟩,kL jp.cw_r (by kernel_rfl)⟩,kR jp.c27r (by kernel_rfl)⟩ (by kernel_rfl)
def Jf.c1 (c0:Int)(Z:Bool→Option ρ):Option ρ:=
  br (decide (c0<1))
   (Z true)
   (Z (decide (c0>12)))
def Jf.c1s:Shape:=⟨[(0,sa4),(1,sa5),(2,sa6)],[(1,sa8),(2,sa17)]⟩
def Jf.c1x0:Shape:=(Jf.c1s.s 12 sa11)
def Jf.c1r:RC:=⟨Jf.c1s,[(Jf.c1x0,0,[1,101])],no,[1],@Jf.c1,fun _ _ _=>jf jb jb⟩
def Jf.c3 (c1:Int)(Z:Bool→Option ρ):Option ρ:=
  br (decide (c1<0))
   (Z true)
   (Z (decide (c1>12)))
def Jf.c3x0:Shape:=(Jf.c1s.s 21 sa11)
def Jf.c3r:RC:=⟨Jf.c1s,[(Jf.c3x0,0,[1,101])],no,[2],@Jf.c3,fun _ _ _=>jf jb jb⟩
def Jf.c10 (i:Int)(c0:Int)(c1:Int)(c2:List YO)(Z:Int→Option ρ):Option ρ:=
  bnd (idx c2 i) fun y=>
  bnd (jp y c0 c1) fun y1=>
  Z y1
def Jf.c10s:Shape:=(Jf.c1s.s 3 sa2)
def Jf.c10x0:Shape:=(Jf.c10s.s 4 sa2)
def Jf.c10r:RC:=⟨Jf.c10s,[(Jf.c10x0,0,[2,101])],no,[1,2,3,4],@Jf.c10,fun _ _ _ _ _ _=>ja fun _=>(ja fun _=>jb)⟩
def Jf.cf_ (i:Int)(c0:Int)(c1:Int)(c2:List YO)(Z:(Int)⊕(((Int)×(Int)×(Int))⊕(Int))→Option ρ):Option ρ:=
  br (decide (i<(c2.length:Int)))
   (bnd (Jf.c10 i c0 c1 c2 some) fun y=>
    br (y !=0)
     (bnd (kA y i) fun y1=>
      Z (.inr (.inl (i,y1.1,y1.2))))
     (Z (.inl (i64.wrap (i+1)))))
   (Z (.inr (.inr i)))
def Jf.cf_r:LC:=⟨Jf.c10s,[(Jf.c10s,1,[1,201,3,202]),(Jf.c10s,2,[1,201])],no,[1],[1,2,3,4],@Jf.cf_,fun _ _ _ _ _ _=>jf (ja fun _=>(jf (ja fun _=>jb) jb)) jb⟩
def Jf (c:(Int)×((Int)×(List YO))):Option ((Int)×(Int)):=
  bnd (Jf.c1 c.1 some) fun y=>
  br y
   (bnd (kA (6:Int) (0:Int)) fun y1=>
    some (y1.1,y1.2))
   (bnd (Jf.c3 c.2.1 some) fun y2=>
    br y2
     (bnd (kA (7:Int) (0:Int)) fun y3=>
      some (y3.1,y3.2))
     (br (decide ((↑(List.length c.2.2):Int)>4096))
       (bnd (kA (2:Int) (0:Int)) fun y4=>
        some (y4.1,y4.2))
       (bnd (iter (fun s↦Jf.cf_ s c.1 c.2.1 c.2.2 some) (0:Int)) fun y5=>
        sel y5
         (fun u=>some (u.2.1,u.2.2))
         (fun v=>some ((0:Int),(0:Int))))))
def Jf.ce:=ceOf tab Tryz.f34 Jf
def Jf.G:EB Tryz.prog:=⟨tb,Tryz.f34,[⟨35,kA.ce,kA.ok⟩,⟨68,jp.ce,jp.ok⟩],[0,1,2,3,4,12,21,26,32,46],[],[(10,[])],[(100008,Jf.cf_r.ck),(10,Jf.c10r.ck),(3,Jf.c3r.ck),(1,Jf.c1r.ck)],[],[]⟩
theorem Jf.ok:CalleeOk Tryz.prog 34 Jf.ce:=fnB Jf.G Tryz.func34 (m:=4) ⟨⟨⟨⟨trivial,kR Jf.c1r (by kernel_rfl)⟩,kR Jf.c3r (by kernel_rfl)⟩,kL Jf.cf_r (by kernel_rfl)⟩,kR Jf.c10r (by kernel_rfl)⟩ (by kernel_rfl)
abbrev sa72:SO:=.box [.val .bool,.val (.sl (.int .i64))]
def Ju.c2 (d:List (Int))(n:Int)(Z:Bool→Option ρ):Option ρ:=
  br (decide (n>0))
   (bnd (idx d (i64.wrap (n-1))) fun y=>
    Z (y==0))
   (Z false)
def Ju.c2s:Shape:=⟨[(0,sa11),(1,sa0),(4,sa20),(5,sa2)],[(4,sa72)]⟩
def Ju.c2x0:Shape:=(Ju.c2s.s 17 sa11)
def Ju.c2r:RC:=⟨Ju.c2s,[(Ju.c2x0,0,[3,101])],no,[1,2],@Ju.c2,fun _ _ _ _=>jf (ja fun _=>jb) jb⟩
def Ju.cb_ (d:List (Int))(n:Int)(Z:(Int)⊕(Int)→Option ρ):Option ρ:=
  bnd (Ju.c2 d n some) fun y=>
  br y
   (Z (.inl (i64.wrap (n-1))))
   (Z (.inr n))
def Ju.cb_r:LC:=⟨Ju.c2s,[(Ju.c2s,2,[2,201])],no,[2],[1,2],@Ju.cb_,fun _ _ _ _=>ja fun _=>(jf jb jb)⟩
def Ju (neg:Bool) (d:List (Int)):Option (Bool×(List Int)):=
  bnd (iter (fun s↦Ju.cb_ d s some) ↑(d.length)) fun y=>
  br (y==0)
   (some (false,[]))
   (bnd (okIf (decide ((0:Int)≤y)&&decide (y≤(d.length:Int)))) fun y1=>
    some (neg,List.take (Int.toNat y) d))
def Ju.ce:=ceOf tab Tryz.f74 Ju
def Ju.G:EB Tryz.prog:=⟨tb,Tryz.f74,[],[0,1,4,5,17,21],[],[],[(100002,Ju.cb_r.ck),(2,Ju.c2r.ck)],[],[]⟩
theorem Ju.ok:CalleeOk Tryz.prog 74 Ju.ce:=fnB Ju.G Tryz.func74 (m:=2) ⟨⟨trivial,kL Ju.cb_r (by kernel_rfl)⟩,kR Ju.c2r (by kernel_rfl)⟩ (by kernel_rfl)
def kq.ci_ (n:Int)(u:Int)(Z:Int→Option ρ):Option ρ:=
  br (decide (n<0))
   (Z (u64.wrap ((0:Int)-u)))
   (Z u)
def kq.ci_s:Shape:=⟨[(0,sa2),(2,sa6),(3,sa22)],[(2,sa72)]⟩
def kq.ci_r:RC:=⟨kq.ci_s,[(kq.ci_s,0,[1,201])],no,[0,1],@kq.ci_,fun _ _ _ _=>jf jb jb⟩
def kq.cd_ (u:Int)(d:List (Int))(Z:((Int)×(List Int))⊕((Int)×(List Int))→Option ρ):Option ρ:=
  br (decide (u>0))
   (bnd (okIf (decide ((d.length+1)*8≤140737488355328)&&decide (d.length+1≤140737488355328))) fun y=>
    Z (.inl ((u64.wrap (Int.tdiv u (10000:Int))),(d++[i64.wrap (Int.tmod u (10000:Int))]))))
   (Z (.inr (u,d)))
def kq.cd_s:Shape:=((kq.ci_s.s 4 sa44).o 4 sa3)
def kq.cd_r:LC:=⟨kq.cd_s,[(kq.cd_s,2,[1,201,2,201])],no,[1,4],[1,4],@kq.cd_,fun _ _ _ _=>jf (ja fun _=>jb) jb⟩
def kq (n:Int):Option (Bool×(List Int)):=
  bnd (kq.ci_ n (IntKind.wrap IntKind.u64 n) some) fun y=>
  bnd (iter (fun s↦kq.cd_ s.1 s.2 some) (y,[])) fun y1=>
  bnd (Ju (decide (n<0)) y1.2) fun y2=>
  some (y2.1,y2.2)
def kq.ce:=ceOf tab Tryz.f41 kq
def kq.G:EB Tryz.prog:=⟨tb,Tryz.f41,[⟨74,Ju.ce,Ju.ok⟩],[0,2,3,4,8,12],[4],[],[(100005,kq.cd_r.ck),(208197,kq.ci_r.ck)],[],[]⟩
theorem kq.ok:CalleeOk Tryz.prog 41 kq.ce:=fnB kq.G Tryz.func41 (m:=2) ⟨⟨trivial,kJ kq.ci_r (by kernel_rfl)⟩,kL kq.cd_r (by kernel_rfl)⟩ (by kernel_rfl)
def Ur (n:Bool×(List Int)):Option YN:=
  bnd (idx (List.replicate (8:Nat) (false,([]:List (Ty.den (Ty.int IntKind.i64))))) (0:Int)) fun y=>
  some (List.set (List.replicate (8:Nat) (false,([]:List (Ty.den (Ty.int IntKind.i64))))) (0:Nat) (n.1,n.2),(0:Int))
def Ur.ce:=ceOf tab Tryz.f69 Ur
def Ur.G:EB Tryz.prog:=⟨tb,Tryz.f69,[],[0,1,2,3],[2,3,4],[],[],[],[]⟩
theorem Ur.ok:CalleeOk Tryz.prog 69 Ur.ce:=fnB Ur.G Tryz.func69 (m:=0) trivial (by kernel_rfl)
def Ua (qubits:Int) (t1:Int):Option (List YN):=
  bnd (okIf (decide ((0:Int)≤qubits))) fun y=>
  bnd (okIf (decide ((0:Int)≤i64.wrap ((1:Int)*2^Min.min (Int.toNat qubits) (64:Nat)))&&decide (i64.wrap ((1:Int)*2^Min.min (Int.toNat qubits) (64:Nat))≤i64.wrap ((1:Int)*2^Min.min (Int.toNat qubits) (64:Nat)))&&decide (i64.wrap ((1:Int)*2^Min.min (Int.toNat qubits) (64:Nat))*(↑(264:Nat):Int)≤140737488355328)&&decide (i64.wrap ((1:Int)*2^Min.min (Int.toNat qubits) (64:Nat))≤140737488355328))) fun y1=>
  bnd (kq (1:Int)) fun y2=>
  bnd (Ur y2) fun y3=>
  bnd (inR (List.length (List.replicate (Int.toNat (i64.wrap ((1:Int)*2^Min.min (Int.toNat qubits) (64:Nat)))) (List.replicate (8:Nat) (false,([]:List (Ty.den (Ty.int IntKind.i64)))),(0:Int)))) t1) fun y4=>
  bnd (idx (List.replicate (Int.toNat (i64.wrap ((1:Int)*2^Min.min (Int.toNat qubits) (64:Nat)))) (List.replicate (8:Nat) (false,([]:List (Ty.den (Ty.int IntKind.i64)))),(0:Int))) t1) fun y5=>
  some (List.set (List.replicate (Int.toNat (i64.wrap ((1:Int)*2^Min.min (Int.toNat qubits) (64:Nat)))) (List.replicate (8:Nat) (false,([]:List (Ty.den (Ty.int IntKind.i64)))),(0:Int))) (Int.toNat t1) y3)
def Ua.ce:=ceOf tab Tryz.f36 Ua
def Ua.G:EB Tryz.prog:=⟨tb,Tryz.f36,[⟨41,kq.ce,kq.ok⟩,⟨69,Ur.ce,Ur.ok⟩],[0,1,4,5],[8],[],[],[],[]⟩
theorem Ua.ok:CalleeOk Tryz.prog 36 Ua.ce:=fnB Ua.G Tryz.func36 (m:=0) trivial (by kernel_rfl)
def jU.c4 (bits:List (Int))(i:Int)(o5:List (Int))(Z:Bool→Option ρ):Option ρ:=
  bnd (idx o5 i) fun y=>
  br (decide (y>0))
   (bnd (idx o5 i) fun y1=>
    bnd (idx bits (i64.wrap (y1-1))) fun y2=>
    Z (y2 !=1))
   (Z false)
def jU.c4s:Shape:=⟨[(0,sa12),(1,sa0),(2,sa6),(4,sa11),(5,sa2)],[(2,sa14)]⟩
def jU.c4x0:Shape:=(jU.c4s.s 30 sa11)
def jU.c4r:RC:=⟨jU.c4s,[(jU.c4x0,0,[4,101])],no,[1,3,9],@jU.c4,fun _ _ _ _ _=>ja fun _=>(jf (ja fun _=>(ja fun _=>jb)) jb)⟩
def jU.c6 (bits:List (Int))(i:Int)(o5:List (Int))(Z:Bool→Option ρ):Option ρ:=
  bnd (idx o5 i) fun y=>
  br (decide (y<0))
   (bnd (idx o5 i) fun y1=>
    bnd (idx bits (i64.wrap (i64.wrap ((0:Int)-y1)-1))) fun y2=>
    Z (y2 !=0))
   (Z false)
def jU.c6x0:Shape:=(jU.c4s.s 49 sa11)
def jU.c6r:RC:=⟨jU.c4s,[(jU.c6x0,0,[4,101])],no,[1,3,9],@jU.c6,fun _ _ _ _ _=>ja fun _=>(jf (ja fun _=>(ja fun _=>jb)) jb)⟩
def jU.cb_ (bits:List (Int))(i:Int)(o5:List (Int))(Z:(Int)⊕((Int)⊕(Int))→Option ρ):Option ρ:=
  br (decide (i<(o5.length:Int)))
   (bnd (jU.c4 bits i o5 some) fun y=>
    br y
     (Z (.inr (.inl i)))
     (bnd (jU.c6 bits i o5 some) fun y1=>
      br y1
       (Z (.inr (.inl i)))
       (Z (.inl (i64.wrap (i+1))))))
   (Z (.inr (.inr i)))
def jU.cb_r:LC:=⟨jU.c4s,[(jU.c4s,1,[2,400,201,301]),(jU.c4s,2,[3,201])],fun X=>(false,()),[3],[1,3,9],@jU.cb_,fun _ _ _ _ _=>jf (ja fun _=>(jf jb (ja fun _=>(jf jb jb)))) jb⟩
def jU (o:YO) (bits:List (Int)):Option Bool:=
  bnd (iter (fun s↦jU.cb_ bits s o.2.2.2.2.2 some) (0:Int)) fun y=>
  sel y
   (fun u=>some false)
   (fun v=>some true)
def jU.ce:=ceOf tab Tryz.f37 jU
def jU.G:EB Tryz.prog:=⟨tb,Tryz.f37,[],[0,1,2,4,5,10,30,49],[],[],[(100002,jU.cb_r.ck),(6,jU.c6r.ck),(4,jU.c4r.ck)],[],[]⟩
theorem jU.ok:CalleeOk Tryz.prog 37 jU.ce:=fnB jU.G Tryz.func37 (m:=3) ⟨⟨⟨trivial,kL jU.cb_r (by kernel_rfl)⟩,kR jU.c4r (by kernel_rfl)⟩,kR jU.c6r (by kernel_rfl)⟩ (by kernel_rfl)
abbrev sa73:SD:=.one (.val (.st (.pair (.ar 8 (.st (.pair .bool (.sl (.int .i64))))) (.int .i64))))
abbrev sa74:SD:=.one (.fptr (.st (.pair (.ar 8 (.st (.pair .bool (.sl (.int .i64))))) (.int .i64))))
def Jp.cb_ (a_1:YN)(i:Int)(Z:(Int)⊕((Int)⊕(Int))→Option ρ):Option ρ:=
  br (decide (i<8))
   (bnd (idx a_1.1 i) fun y=>
    br (decide ((↑(List.length y.2):Int)>0))
     (Z (.inr (.inl i)))
     (Z (.inl (i64.wrap (i+1)))))
   (Z (.inr (.inr i)))
def Jp.cb_s:Shape:=⟨[(0,sa73),(1,sa74),(2,sa11),(3,sa2)],[]⟩
def Jp.cb_r:LC:=⟨Jp.cb_s,[(Jp.cb_s,1,[2,400,201,301]),(Jp.cb_s,2,[3,201])],fun X=>(false,()),[3],[1,3],@Jp.cb_,fun _ _ _ _=>jf (ja fun _=>(jf jb jb)) jb⟩
def Jp (a:YN):Option Bool:=
  bnd (iter (fun s↦Jp.cb_ a s some) (0:Int)) fun y=>
  sel y
   (fun u=>some false)
   (fun v=>some true)
def Jp.ce:=ceOf tab Tryz.f42 Jp
def Jp.G:EB Tryz.prog:=⟨tb,Tryz.f42,[],[0,1,2,3,5,14],[8000001],[],[(100002,Jp.cb_r.ck)],[],[]⟩
theorem Jp.ok:CalleeOk Tryz.prog 42 Jp.ce:=fnB Jp.G Tryz.func42 (m:=1) ⟨trivial,kL Jp.cb_r (by kernel_rfl)⟩ (by kernel_rfl)
def Yo (x:Int) (q:Int):Option (Int):=
  bnd (okIf (decide ((0:Int)≤q))) fun y=>
  some (ibits BinOp.and IntKind.i64 (Int.fdiv x ((2:Int)^Min.min (Int.toNat q) (64:Nat))) (1:Int))
def Yo.ce:=ceOf tab Tryz.f55 Yo
def Yo.G:EB Tryz.prog:=⟨tb,Tryz.f55,[],[0,1,4],[],[],[],[],[]⟩
theorem Yo.ok:CalleeOk Tryz.prog 55 Yo.ce:=fnB Yo.G Tryz.func55 (m:=0) trivial (by kernel_rfl)
def kE.cb_ (x:Int)(qs:List (Int))(i:Int)(Z:(Int)⊕((Int)⊕(Int))→Option ρ):Option ρ:=
  br (decide (i<(qs.length:Int)))
   (bnd (idx qs i) fun y=>
    bnd (Yo x y) fun y1=>
    br (y1==0)
     (Z (.inr (.inl i)))
     (Z (.inl (i64.wrap (i+1)))))
   (Z (.inr (.inr i)))
def kE.cb_s:Shape:=⟨[(0,sa2),(1,sa0),(4,sa11),(5,sa2)],[]⟩
def kE.cb_r:LC:=⟨kE.cb_s,[(kE.cb_s,1,[2,400,201,301]),(kE.cb_s,2,[3,201])],fun X=>(false,()),[3],[0,1,3],@kE.cb_,fun _ _ _ _ _=>jf (ja fun _=>(ja fun _=>(jf jb jb))) jb⟩
def kE (x:Int) (qs:List (Int)):Option Bool:=
  bnd (iter (fun s↦kE.cb_ x qs s some) (0:Int)) fun y=>
  sel y
   (fun u=>some false)
   (fun v=>some true)
def kE.ce:=ceOf tab Tryz.f70 kE
def kE.G:EB Tryz.prog:=⟨tb,Tryz.f70,[⟨55,Yo.ce,Yo.ok⟩],[0,1,4,5,9,18],[],[],[(100002,kE.cb_r.ck)],[],[]⟩
theorem kE.ok:CalleeOk Tryz.prog 70 kE.ce:=fnB kE.G Tryz.func70 (m:=1) ⟨trivial,kL kE.cb_r (by kernel_rfl)⟩ (by kernel_rfl)
abbrev sa75:SD:=.one (.val (.st (.pair .bool (.sl (.int .i64)))))
abbrev sa76:SD:=.one (.own 17 0)
def Jd.c7 (c:Int)(j:Int)(b1:List (Int))(Z:Bool→Option ρ):Option ρ:=
  br (decide (j<(b1.length:Int)))
   (Z true)
   (Z (decide (c>0)))
def Jd.c7s:Shape:=⟨[(0,sa75),(1,sa75),(2,sa6),(3,sa7),(4,sa20),(5,sa76),(6,sa2),(7,sa2),(8,sa2)],[(2,sa72),(3,sa72),(4,sa72),(17,sa3)]⟩
def Jd.c7x0:Shape:=(Jd.c7s.s 33 sa11)
def Jd.c7r:RC:=⟨Jd.c7s,[(Jd.c7x0,0,[5,101])],no,[3,4,8],@Jd.c7,fun _ _ _ _ _=>jf jb jb⟩
def Jd.c11 (i:Int)(c:Int)(j:Int)(a1:List (Int))(b1:List (Int))(Z:Int→Option ρ):Option ρ:=
  bnd (idx a1 i) fun y=>
  bnd (idx b1 j) fun y1=>
  Z (i64.wrap (c+i64.wrap (y*y1)))
def Jd.c11r:RC:=⟨Jd.c7s,[(Jd.c7s,0,[3,201])],no,[2,3,4,6,8],@Jd.c11,fun _ _ _ _ _ _ _=>ja fun _=>(ja fun _=>jb)⟩
def Jd.cp_ (i:Int)(c:Int)(j:Int)(a1:List (Int))(b1:List (Int))(Z:Int→Option ρ):Option ρ:=
  br (decide (j<(b1.length:Int)))
   (bnd (Jd.c11 i c j a1 b1 some) fun y=>
    Z y)
   (Z c)
def Jd.cp_r:RC:=⟨Jd.c7s,[(Jd.c7s,0,[3,201])],no,[2,3,4,6,8],@Jd.cp_,fun _ _ _ _ _ _ _=>jf (ja fun _=>jb) jb⟩
def Jd.cg_ (i:Int)(c:Int)(j:Int)(a1:List (Int))(b1:List (Int))(t17:List (Int))(Z:((Int)×(Int)×(List Int))⊕((Int)×(Int)×(List Int))→Option ρ):Option ρ:=
  bnd (Jd.c7 c j b1 some) fun y=>
  br y
   (bnd (inR (t17.length) (i64.wrap (i+j))) fun y1=>
    bnd (idx t17 (i64.wrap (i+j))) fun y2=>
    bnd (Jd.cp_ i (i64.wrap (c+y2)) j a1 b1 some) fun y3=>
    bnd (inR (t17.length) (i64.wrap (i+j))) fun y4=>
    bnd (idx t17 (i64.wrap (i+j))) fun y5=>
    Z (.inl ((i64.wrap (Int.tdiv y3 (10000:Int))),(i64.wrap (j+1)),(List.set t17 (Int.toNat (i64.wrap (i+j))) (Int.tmod y3 (10000:Int))))))
   (Z (.inr (c,j,t17)))
def Jd.cg_r:LC:=⟨Jd.c7s,[(Jd.c7s,4,[3,202,6,201])],no,[3,4,11],[2,3,4,6,8,11],@Jd.cg_,fun _ _ _ _ _ _ _ _=>ja fun _=>(jf (ja fun _=>(ja fun _=>(ja fun _=>(ja fun _=>(ja fun _=>jb))))) jb)⟩
def Jd.ca_ (i:Int)(a1:List (Int))(b1:List (Int))(t17:List (Int))(Z:((Int)×(List Int))⊕((Int)×(List Int))→Option ρ):Option ρ:=
  br (decide (i<(a1.length:Int)))
   (bnd (iter (fun s↦Jd.cg_ i s.1 s.2.1 a1 b1 s.2.2 some) ((0:Int),(0:Int),t17)) fun y=>
    Z (.inl ((i64.wrap (i+1)),y.2.2)))
   (Z (.inr (i,t17)))
def Jd.ca_s:Shape:=((Jd.c7s.d 7).d 8)
def Jd.ca_r:LC:=⟨Jd.ca_s,[(Jd.ca_s,2,[2,201,6,201])],no,[2,9],[2,4,6,9],@Jd.ca_,fun _ _ _ _ _ _=>jf (ja fun _=>jb) jb⟩
def Jd (a:Bool×(List Int)) (b:Bool×(List Int)):Option (Bool×(List Int)):=
  bnd (okIf (decide ((0:Int)≤i64.wrap (i64.wrap ((↑(List.length a.2):Int)+(↑(List.length b.2):Int))+1))&&decide (i64.wrap (i64.wrap ((↑(List.length a.2):Int)+(↑(List.length b.2):Int))+1)≤i64.wrap (i64.wrap ((↑(List.length a.2):Int)+(↑(List.length b.2):Int))+1))&&decide (i64.wrap (i64.wrap ((↑(List.length a.2):Int)+(↑(List.length b.2):Int))+1)*(↑(8:Nat):Int)≤140737488355328)&&decide (i64.wrap (i64.wrap ((↑(List.length a.2):Int)+(↑(List.length b.2):Int))+1)≤140737488355328))) fun y=>
  bnd (iter (fun s↦Jd.ca_ s.1 a.2 b.2 s.2 some) ((0:Int),List.replicate (Int.toNat (i64.wrap (i64.wrap ((↑(List.length a.2):Int)+(↑(List.length b.2):Int))+1))) (0:Int))) fun y1=>
  bnd (Ju (!a.1==b.1) y1.2) fun y2=>
  some (y2.1,y2.2)
def Jd.ce:=ceOf tab Tryz.f84 Jd
def Jd.G:EB Tryz.prog:=⟨tb,Tryz.f84,[⟨74,Ju.ce,Ju.ok⟩],[0,1,2,3,4,5,6,7,8,22,33,48],[17],[(11,[])],[(100003,Jd.ca_r.ck),(100007,Jd.cg_r.ck),(240965,Jd.cp_r.ck),(11,Jd.c11r.ck),(7,Jd.c7r.ck)],[],[]⟩
theorem Jd.ok:CalleeOk Tryz.prog 84 Jd.ce:=fnB Jd.G Tryz.func84 (m:=5) ⟨⟨⟨⟨⟨trivial,kL Jd.ca_r (by kernel_rfl)⟩,kL Jd.cg_r (by kernel_rfl)⟩,kR Jd.c7r (by kernel_rfl)⟩,kJ Jd.cp_r (by kernel_rfl)⟩,kR Jd.c11r (by kernel_rfl)⟩ (by kernel_rfl)
def kl.ct_ (n:Int)(out0:Bool)(out1:List (Int))(t40:Bool)(t41:List (Int))(Z:Bool×(List Int)→Option ρ):Option ρ:=
  br (Int.tmod n (2:Int)==1)
   (bnd (Jd (out0,out1) (t40,t41)) fun y=>
    Z (y.1,y.2))
   (Z (out0,out1))
def kl.ct_s:Shape:=⟨[(0,sa2),(2,sa6),(3,sa7),(4,sa20)],[(2,sa72),(3,sa72),(4,sa72)]⟩
def kl.ct_r:RC:=⟨kl.ct_s,[(kl.ct_s,0,[3,202])],no,[0,3,4,5,6],@kl.ct_,fun _ _ _ _ _ _ _=>jf (ja fun _=>jb) jb⟩
def kl.ca_ (n:Int)(out0:Bool)(out1:List (Int))(t40:Bool)(t41:List (Int))(Z:((Int)×Bool×(List Int)×Bool×(List Int))⊕((Int)×Bool×(List Int)×Bool×(List Int))→Option ρ):Option ρ:=
  br (decide (n>0))
   (bnd (kl.ct_ n out0 out1 t40 t41 some) fun y=>
    bnd (Jd (t40,t41) (t40,t41)) fun y1=>
    Z (.inl ((i64.wrap (Int.tdiv n (2:Int))),y.1,y.2,y1.1,y1.2)))
   (Z (.inr (n,out0,out1,t40,t41)))
def kl.ca_r:LC:=⟨kl.ct_s,[(kl.ct_s,2,[201,2,204])],no,[0,3,4,5,6],[0,3,4,5,6],@kl.ca_,fun _ _ _ _ _ _ _=>jf (ja fun _=>(ja fun _=>jb)) jb⟩
def kl (n:Int):Option (Bool×(List Int)):=
  bnd (kq (1:Int)) fun y=>
  bnd (kq (2:Int)) fun y1=>
  bnd (iter (fun s↦kl.ca_ s.1 s.2.1 s.2.2.1 s.2.2.2.1 s.2.2.2.2 some) (n,y.1,y.2,y1.1,y1.2)) fun y2=>
  some (y2.2.1,y2.2.2.1)
def kl.ce:=ceOf tab Tryz.f104 kl
def kl.G:EB Tryz.prog:=⟨tb,Tryz.f104,[⟨41,kq.ce,kq.ok⟩,⟨84,Jd.ce,Jd.ok⟩],[0,2,3,4,8,11],[],[],[(100003,kl.ca_r.ck),(216389,kl.ct_r.ck)],[],[]⟩
theorem kl.ok:CalleeOk Tryz.prog 104 kl.ce:=fnB kl.G Tryz.func104 (m:=2) ⟨⟨trivial,kL kl.ca_r (by kernel_rfl)⟩,kJ kl.ct_r (by kernel_rfl)⟩ (by kernel_rfl)
abbrev sa77:SO:=.arr 0 false 48 (.st (.pair (.ar 8 (.st (.pair .bool (.sl (.int .i64))))) (.int .i64)))
def kh.c6 (i:Int)(a_1:List YN)(t50:Bool)(t51:List (Int))(Z:List YN→Option ρ):Option ρ:=
  bnd (inR (a_1.length) (0:Int)) fun y=>
  bnd (okIf (decide ((0:Ty.den (Ty.int IntKind.i64))≤i)&&decide (i<(↑(8:Nat):Int)))) fun y1=>
  bnd (idx a_1 (0:Int)) fun y2=>
  bnd (idx y2.1 i) fun y3=>
  bnd (Jd y3 (t50,t51)) fun y4=>
  bnd (inR (a_1.length) (0:Int)) fun y5=>
  bnd (okIf (decide ((0:Ty.den (Ty.int IntKind.i64))≤i)&&decide (i<(↑(8:Nat):Int)))) fun y6=>
  bnd (idx a_1 (0:Int)) fun y7=>
  bnd (idx y7.1 i) fun y8=>
  Z (List.set a_1 (0:Nat) (List.set y7.1 (Int.toNat i) y4,y7.2))
def kh.c6s:Shape:=⟨[(0,sa73),(1,sa2),(2,sa54),(4,sa25),(5,sa34),(6,sa2)],[(2,sa77),(4,sa77),(5,sa72)]⟩
def kh.c6r:RC:=⟨kh.c6s,[(kh.c6s,0,[3,201])],no,[2,3,5,6],@kh.c6,fun _ _ _ _ _ _=>ja fun _=>(ja fun _=>(ja fun _=>(ja fun _=>(ja fun _=>(ja fun _=>(ja fun _=>(ja fun _=>(ja fun _=>jb))))))))⟩
def kh.cc_ (i:Int)(a_1:List YN)(t50:Bool)(t51:List (Int))(Z:((Int)×(List YN))⊕((Int)×(List YN))→Option ρ):Option ρ:=
  br (decide (i<8))
   (bnd (kh.c6 i a_1 t50 t51 some) fun y=>
    Z (.inl ((i64.wrap (i+1)),y)))
   (Z (.inr (i,a_1)))
def kh.cc_r:LC:=⟨kh.c6s,[(kh.c6s,2,[2,202])],no,[2,3],[2,3,5,6],@kh.cc_,fun _ _ _ _ _ _=>jf (ja fun _=>jb) jb⟩
def kh.cN_ (e:Int)(a_1:List YN)(Z:List YN→Option ρ):Option ρ:=
  bnd (inR (a_1.length) (0:Int)) fun y=>
  bnd (idx a_1 (0:Int)) fun y1=>
  br (decide (y1.2<e))
   (bnd (inR (a_1.length) (0:Int)) fun y2=>
    bnd (idx a_1 (0:Int)) fun y3=>
    bnd (kl (i64.wrap (e-y3.2))) fun y4=>
    bnd (iter (fun s↦kh.cc_ s.1 s.2 y4.1 y4.2 some) ((0:Int),a_1)) fun y5=>
    bnd (inR (List.length y5.2) (0:Int)) fun y6=>
    bnd (idx y5.2 (0:Int)) fun y7=>
    Z (List.set y5.2 (0:Nat) (y7.1,e)))
   (Z a_1)
def kh.cN_s:Shape:=(((kh.c6s.d 5).d 6).g 5)
def kh.cN_r:RC:=⟨kh.cN_s,[(kh.cN_s,0,[2,201])],no,[1,2],@kh.cN_,fun _ _ _ _=>ja fun _=>(ja fun _=>(jf (ja fun _=>(ja fun _=>(ja fun _=>(ja fun _=>(ja fun _=>(ja fun _=>jb)))))) jb))⟩
def kh (a:YN) (e:Int):Option YN:=
  bnd (kh.cN_ e [a] some) fun y=>
  bnd (idx y (0:Int)) fun y1=>
  some y1
def kh.ce:=ceOf tab Tryz.f75 kh
def kh.G:EB Tryz.prog:=⟨tb,Tryz.f75,[⟨104,kl.ce,kl.ok⟩,⟨84,Jd.ce,Jd.ok⟩],[0,1,2,4,5,6,10,17],[2,4],[(6,[(9,[2])])],[(204118,kh.cN_r.ck),(100004,kh.cc_r.ck),(6,kh.c6r.ck)],[],[]⟩
theorem kh.ok:CalleeOk Tryz.prog 75 kh.ce:=fnB kh.G Tryz.func75 (m:=3) ⟨⟨⟨trivial,kJ kh.cN_r (by kernel_rfl)⟩,kL kh.cc_r (by kernel_rfl)⟩,kR kh.c6r (by kernel_rfl)⟩ (by kernel_rfl)
abbrev sa78:SD:=.one (.own 5 0)
def JC.c4 (a:List (Int))(b:List (Int))(c:Int)(i:Int)(Z:Bool→Option ρ):Option ρ:=
  br (decide (i<(a.length:Int)))
   (Z true)
   (br (decide (i<(b.length:Int)))
     (Z true)
     (Z (decide (c>0))))
def JC.c4s:Shape:=⟨[(0,sa0),(1,sa0),(4,sa0),(5,sa78),(6,sa2),(7,sa2)],[(5,sa3)]⟩
def JC.c4x0:Shape:=(JC.c4s.s 21 sa11)
def JC.c4r:RC:=⟨JC.c4s,[(JC.c4x0,0,[5,101])],no,[0,1,3,4],@JC.c4,fun _ _ _ _ _ _=>jf jb (jf jb jb)⟩
def JC.cm_ (a:List (Int))(c:Int)(i:Int)(Z:Int→Option ρ):Option ρ:=
  br (decide (i<(a.length:Int)))
   (bnd (idx a i) fun y=>
    Z (i64.wrap (c+y)))
   (Z c)
def JC.cm_r:RC:=⟨JC.c4s,[(JC.c4s,0,[3,201])],no,[0,3,4],@JC.cm_,fun _ _ _ _ _=>jf (ja fun _=>jb) jb⟩
def JC.ck_ (b:List (Int))(c:Int)(i:Int)(Z:Int→Option ρ):Option ρ:=
  br (decide (i<(b.length:Int)))
   (bnd (idx b i) fun y=>
    Z (i64.wrap (c+y)))
   (Z c)
def JC.ck_r:RC:=⟨JC.c4s,[(JC.c4s,0,[3,201])],no,[1,3,4],@JC.ck_,fun _ _ _ _ _=>jf (ja fun _=>jb) jb⟩
def JC.cc_ (a:List (Int))(b:List (Int))(c:Int)(i:Int)(out:List (Int))(Z:((Int)×(Int)×(List Int))⊕((Int)×(Int)×(List Int))→Option ρ):Option ρ:=
  bnd (JC.c4 a b c i some) fun y=>
  br y
   (bnd (JC.cm_ a c i some) fun y1=>
    bnd (JC.ck_ b y1 i some) fun y2=>
    bnd (okIf (decide ((out.length+1)*8≤140737488355328)&&decide (out.length+1≤140737488355328))) fun y3=>
    Z (.inl ((i64.wrap (Int.tdiv y2 (10000:Int))),(i64.wrap (i+1)),(out++[Int.tmod y2 (10000:Int)]))))
   (Z (.inr (c,i,out)))
def JC.cc_r:LC:=⟨JC.c4s,[(JC.c4s,2,[3,203])],no,[3,4,5],[0,1,3,4,5],@JC.cc_,fun _ _ _ _ _ _ _=>ja fun _=>(jf (ja fun _=>(ja fun _=>(ja fun _=>jb))) jb)⟩
def JC (a:List (Int)) (b:List (Int)):Option (List Int):=
  bnd (iter (fun s↦JC.cc_ a b s.1 s.2.1 s.2.2 some) ((0:Int),(0:Int),[])) fun y=>
  some y.2.2
def JC.ce:=ceOf tab Tryz.f105 JC
def JC.G:EB Tryz.prog:=⟨tb,Tryz.f105,[],[0,1,4,5,6,7,21,27,37],[5],[],[(100004,JC.cc_r.ck),(232773,JC.ck_r.ck),(224581,JC.cm_r.ck),(4,JC.c4r.ck)],[],[]⟩
theorem JC.ok:CalleeOk Tryz.prog 105 JC.ce:=fnB JC.G Tryz.func105 (m:=4) ⟨⟨⟨⟨trivial,kL JC.cc_r (by kernel_rfl)⟩,kR JC.c4r (by kernel_rfl)⟩,kJ JC.cm_r (by kernel_rfl)⟩,kJ JC.ck_r (by kernel_rfl)⟩ (by kernel_rfl)
def JK.c8 (a:List (Int))(b:List (Int))(i:Int)(Z:Bool→Option ρ):Option ρ:=
  bnd (idx a i) fun y=>
  bnd (idx b i) fun y1=>
  Z (decide (y<y1))
def JK.c8s:Shape:=⟨[(0,sa0),(1,sa0),(4,sa2),(5,sa2)],[]⟩
def JK.c8x0:Shape:=(JK.c8s.s 31 sa11)
def JK.c8r:RC:=⟨JK.c8s,[(JK.c8x0,0,[4,101])],no,[0,1,3],@JK.c8,fun _ _ _ _ _=>ja fun _=>(ja fun _=>jb)⟩
def JK.c10 (a:List (Int))(b:List (Int))(i:Int)(Z:Bool→Option ρ):Option ρ:=
  bnd (idx a i) fun y=>
  bnd (idx b i) fun y1=>
  Z (decide (y>y1))
def JK.c10x0:Shape:=(JK.c8s.s 40 sa11)
def JK.c10r:RC:=⟨JK.c8s,[(JK.c10x0,0,[4,101])],no,[0,1,3],@JK.c10,fun _ _ _ _ _=>ja fun _=>(ja fun _=>jb)⟩
def JK.ch_ (a:List (Int))(b:List (Int))(i:Int)(Z:(Int)⊕(((Int)×(Int))⊕(Int))→Option ρ):Option ρ:=
  br (decide (i≥0))
   (bnd (JK.c8 a b i some) fun y=>
    br y
     (Z (.inr (.inl ((-1:Int),i))))
     (bnd (JK.c10 a b i some) fun y1=>
      br y1
       (Z (.inr (.inl ((1:Int),i))))
       (Z (.inl (i64.wrap (i-1))))))
   (Z (.inr (.inr i)))
def JK.ch_r:LC:=⟨JK.c8s,[(JK.c8s,1,[2,202]),(JK.c8s,2,[3,201])],no,[3],[0,1,3],@JK.ch_,fun _ _ _ _ _=>jf (ja fun _=>(jf jb (ja fun _=>(jf jb jb)))) jb⟩
def JK (a:List (Int)) (b:List (Int)):Option (Int):=
  br ((a.length:Int) !=(b.length:Int))
   (br (decide ((a.length:Int)<(b.length:Int)))
     (some (-1:Int))
     (some (1:Int)))
   (bnd (iter (fun s↦JK.ch_ a b s some) (i64.wrap ((a.length:Int)-1))) fun y=>
    sel y
     (fun u=>some u.1)
     (fun v=>some (0:Int)))
def JK.ce:=ceOf tab Tryz.f106 JK
def JK.G:EB Tryz.prog:=⟨tb,Tryz.f106,[],[0,1,4,5,10,15,20,31,40],[],[(10,[]),(8,[])],[(100006,JK.ch_r.ck),(10,JK.c10r.ck),(8,JK.c8r.ck)],[],[]⟩
theorem JK.ok:CalleeOk Tryz.prog 106 JK.ce:=fnB JK.G Tryz.func106 (m:=3) ⟨⟨⟨trivial,kL JK.ch_r (by kernel_rfl)⟩,kR JK.c8r (by kernel_rfl)⟩,kR JK.c10r (by kernel_rfl)⟩ (by kernel_rfl)
def JP.cl_ (b:List (Int))(i:Int)(x:Int)(Z:Int→Option ρ):Option ρ:=
  br (decide (i<(b.length:Int)))
   (bnd (idx b i) fun y=>
    Z (i64.wrap (x-y)))
   (Z x)
def JP.cl_s:Shape:=⟨[(0,sa0),(1,sa0),(4,sa0),(5,sa78),(6,sa2),(7,sa2),(8,sa2)],[(5,sa3)]⟩
def JP.cl_r:RC:=⟨JP.cl_s,[(JP.cl_s,0,[5,201])],no,[1,4,5],@JP.cl_,fun _ _ _ _ _=>jf (ja fun _=>jb) jb⟩
def JP.cU_ (c:Int)(x:Int)(Z:(Int)×(Int)→Option ρ):Option ρ:=
  br (decide (x<0))
   (Z ((1:Int),(i64.wrap (x+10000))))
   (Z (c,x))
def JP.cU_r:RC:=⟨JP.cl_s,[(JP.cl_s,0,[3,201,1,201])],no,[3,5],@JP.cU_,fun _ _ _ _=>jf jb jb⟩
def JP.cc_ (a:List (Int))(b:List (Int))(c:Int)(i:Int)(out:List (Int))(Z:((Int)×(Int)×(List Int))⊕((Int)×(Int)×(List Int))→Option ρ):Option ρ:=
  br (decide (i<(a.length:Int)))
   (bnd (idx a i) fun y=>
    bnd (JP.cl_ b i (i64.wrap (y-c)) some) fun y1=>
    bnd (JP.cU_ (0:Int) y1 some) fun y2=>
    bnd (okIf (decide ((out.length+1)*8≤140737488355328)&&decide (out.length+1≤140737488355328))) fun y3=>
    Z (.inl (y2.1,(i64.wrap (i+1)),(out++[y2.2]))))
   (Z (.inr (c,i,out)))
def JP.cc_s:Shape:=(JP.cl_s.d 8)
def JP.cc_r:LC:=⟨JP.cc_s,[(JP.cc_s,2,[3,203])],no,[3,4,5],[0,1,3,4,5],@JP.cc_,fun _ _ _ _ _ _ _=>jf (ja fun _=>(ja fun _=>(ja fun _=>(ja fun _=>jb)))) jb⟩
def JP (a:List (Int)) (b:List (Int)):Option (List Int):=
  bnd (iter (fun s↦JP.cc_ a b s.1 s.2.1 s.2.2 some) ((0:Int),(0:Int),[])) fun y=>
  some y.2.2
def JP.ce:=ceOf tab Tryz.f107 JP
def JP.G:EB Tryz.prog:=⟨tb,Tryz.f107,[],[0,1,4,5,6,7,8,12,24,32],[5],[],[(100004,JP.cc_r.ck),(240967,JP.cU_r.ck),(228677,JP.cl_r.ck)],[],[]⟩
theorem JP.ok:CalleeOk Tryz.prog 107 JP.ce:=fnB JP.G Tryz.func107 (m:=3) ⟨⟨⟨trivial,kL JP.cc_r (by kernel_rfl)⟩,kJ JP.cl_r (by kernel_rfl)⟩,kJ JP.cU_r (by kernel_rfl)⟩ (by kernel_rfl)
def JI.c6 (a0:Bool)(a1:List (Int))(b1:List (Int))(Z:Bool×(List Int)→Option ρ):Option ρ:=
  bnd (JC a1 b1) fun y=>
  bnd (Ju a0 y) fun y1=>
  Z (y1.1,y1.2)
def JI.c6s:Shape:=⟨[(0,sa75),(1,sa75),(2,sa6),(3,sa7),(4,sa20)],[(2,sa72),(3,sa72),(4,sa72)]⟩
def JI.c6r:RC:=⟨JI.c6s,[(JI.c6s,0,[6,202])],no,[2,3,5],@JI.c6,fun _ _ _ _ _=>ja fun _=>(ja fun _=>jb)⟩
def JI.c8 (a0:Bool)(a1:List (Int))(b1:List (Int))(Z:Bool×(List Int)→Option ρ):Option ρ:=
  bnd (JP a1 b1) fun y=>
  bnd (Ju a0 y) fun y1=>
  Z (y1.1,y1.2)
def JI.c8r:RC:=⟨JI.c6s,[(JI.c6s,0,[6,202])],no,[2,3,5],@JI.c8,fun _ _ _ _ _=>ja fun _=>(ja fun _=>jb)⟩
def JI.c9 (a1:List (Int))(b0:Bool)(b1:List (Int))(Z:Bool×(List Int)→Option ρ):Option ρ:=
  bnd (JP b1 a1) fun y=>
  bnd (Ju b0 y) fun y1=>
  Z (y1.1,y1.2)
def JI.c9r:RC:=⟨JI.c6s,[(JI.c6s,0,[6,202])],no,[3,4,5],@JI.c9,fun _ _ _ _ _=>ja fun _=>(ja fun _=>jb)⟩
def JI (a:Bool×(List Int)) (b:Bool×(List Int)):Option (Bool×(List Int)):=
  br ((↑(List.length a.2):Int)==0)
   (some (b.1,b.2))
   (br ((↑(List.length b.2):Int)==0)
     (some (a.1,a.2))
     (br (a.1==b.1)
       (bnd (JI.c6 a.1 a.2 b.2 some) fun y=>
        some (y.1,y.2))
       (bnd (JK a.2 b.2) fun y1=>
        br (decide (y1≥0))
         (bnd (JI.c8 a.1 a.2 b.2 some) fun y2=>
          some (y2.1,y2.2))
         (bnd (JI.c9 a.2 b.1 b.2 some) fun y3=>
          some (y3.1,y3.2)))))
def JI.ce:=ceOf tab Tryz.f76 JI
def JI.G:EB Tryz.prog:=⟨tb,Tryz.f76,[⟨105,JC.ce,JC.ok⟩,⟨74,Ju.ce,Ju.ok⟩,⟨106,JK.ce,JK.ok⟩,⟨107,JP.ce,JP.ok⟩],[0,1,2,3,4,8,13,19,33],[],[(9,[(8,[4])]),(8,[(8,[4])]),(6,[(8,[4])])],[(9,JI.c9r.ck),(8,JI.c8r.ck),(6,JI.c6r.ck)],[],[]⟩
theorem JI.ok:CalleeOk Tryz.prog 76 JI.ce:=fnB JI.G Tryz.func76 (m:=3) ⟨⟨⟨trivial,kR JI.c6r (by kernel_rfl)⟩,kR JI.c8r (by kernel_rfl)⟩,kR JI.c9r (by kernel_rfl)⟩ (by kernel_rfl)
def Yt.c1 (a1:List (Int))(Z:Bool→Option ρ):Option ρ:=
  br (decide ((a1.length:Int)>0))
   (bnd (idx a1 (0:Int)) fun y=>
    Z (Int.tmod y (2:Int)==1))
   (Z false)
def Yt.c1s:Shape:=⟨[(0,sa75),(1,sa5),(2,sa11)],[(1,sa72)]⟩
def Yt.c1r:RC:=⟨Yt.c1s,[(Yt.c1s,0,[1,201])],no,[3],@Yt.c1,fun _ _ _=>jf (ja fun _=>jb) jb⟩
def Yt (a:Bool×(List Int)):Option Bool:=
  bnd (Yt.c1 a.2 some) fun y=>
  some y
def Yt.ce:=ceOf tab Tryz.f108 Yt
def Yt.G:EB Tryz.prog:=⟨tb,Tryz.f108,[],[0,1,2],[],[],[(1,Yt.c1r.ck)],[],[]⟩
theorem Yt.ok:CalleeOk Tryz.prog 108 Yt.ce:=fnB Yt.G Tryz.func108 (m:=1) ⟨trivial,kR Yt.c1r (by kernel_rfl)⟩ (by kernel_rfl)
abbrev sa79:SD:=.one (.own 10 0)
def Ya.cc_ (c:Int)(i:Int)(a1:List (Int))(t10:List (Int))(Z:((Int)×(Int)×(List Int))⊕((Int)×(Int)×(List Int))→Option ρ):Option ρ:=
  br (decide (i≥0))
   (bnd (idx a1 i) fun y=>
    bnd (inR (t10.length) i) fun y1=>
    bnd (idx t10 i) fun y2=>
    Z (.inl ((Int.tmod (i64.wrap (i64.wrap (c*10000)+y)) (2:Int)),(i64.wrap (i-1)),(List.set t10 (Int.toNat i) (i64.wrap (Int.tdiv (i64.wrap (i64.wrap (c*10000)+y)) (2:Int)))))))
   (Z (.inr (c,i,t10)))
def Ya.cc_s:Shape:=⟨[(0,sa75),(1,sa5),(2,sa6),(3,sa11),(4,sa79),(5,sa2),(6,sa2)],[(1,sa72),(2,sa72),(10,sa3)]⟩
def Ya.cc_r:LC:=⟨Ya.cc_s,[(Ya.cc_s,2,[2,202,4,201])],no,[2,3,8],[2,3,5,8],@Ya.cc_,fun _ _ _ _ _ _=>jf (ja fun _=>(ja fun _=>(ja fun _=>jb))) jb⟩
def Ya (a:Bool×(List Int)):Option ((Bool×(List Int))×Bool):=
  bnd (okIf (decide ((0:Int)≤(↑(List.length a.2):Int))&&decide ((↑(List.length a.2):Int)≤(↑(List.length a.2):Int))&&decide ((↑(List.length a.2):Int)*(↑(8:Nat):Int)≤140737488355328)&&decide ((↑(List.length a.2):Int)≤140737488355328))) fun y=>
  bnd (iter (fun s↦Ya.cc_ s.1 s.2.1 a.2 s.2.2 some) ((0:Int),i64.wrap ((↑(List.length a.2):Int)-1),List.replicate (Int.toNat (↑(List.length a.2):Int)) (0:Int))) fun y1=>
  bnd (Ju a.1 y1.2.2) fun y2=>
  some ((y2.1,y2.2),decide (y1.1>0))
def Ya.ce:=ceOf tab Tryz.f109 Ya
def Ya.G:EB Tryz.prog:=⟨tb,Tryz.f109,[⟨74,Ju.ce,Ju.ok⟩],[0,1,2,3,4,5,6,16],[10],[],[(100004,Ya.cc_r.ck)],[],[]⟩
theorem Ya.ok:CalleeOk Tryz.prog 109 Ya.ce:=fnB Ya.G Tryz.func109 (m:=1) ⟨trivial,kL Ya.cc_r (by kernel_rfl)⟩ (by kernel_rfl)
abbrev sa80:SD:=.one (.aptr 1 0)
def Ja.ca_ (i:Int)(a_1:List YN)(t2:List YN)(Z:(Int)⊕(((Int)×(List YN))⊕(Int))→Option ρ):Option ρ:=
  br (decide (i<8))
   (bnd (inR (a_1.length) (0:Int)) fun y=>
    bnd (okIf (decide ((0:Ty.den (Ty.int IntKind.i64))≤i)&&decide (i<(↑(8:Nat):Int)))) fun y1=>
    bnd (idx a_1 (0:Int)) fun y2=>
    bnd (idx y2.1 i) fun y3=>
    bnd (Yt y3) fun y4=>
    br y4
     (bnd (idx a_1 (0:Int)) fun y5=>
      bnd (idx t2 (0:Int)) fun y6=>
      Z (.inr (.inl (i,(List.set t2 (0:Nat) y5)))))
     (Z (.inl (i64.wrap (i+1)))))
   (Z (.inr (.inr i)))
def Ja.ca_s:Shape:=⟨[(0,sa73),(1,sa80),(2,sa54),(3,sa2)],[(1,sa77),(2,sa77)]⟩
def Ja.ca_r:LC:=⟨Ja.ca_s,[(Ja.ca_s,1,[1,201,1,201]),(Ja.ca_s,4,[1,201])],no,[1],[1,2,3],@Ja.ca_,fun _ _ _ _ _=>jf (ja fun _=>(ja fun _=>(ja fun _=>(ja fun _=>(ja fun _=>(jf (ja fun _=>(ja fun _=>jb)) jb)))))) jb⟩
def Ja.cf_ (i_1:Int)(a_1:List YN)(Z:((Int)×(List YN))⊕((Int)×(List YN))→Option ρ):Option ρ:=
  br (decide (i_1<8))
   (bnd (inR (a_1.length) (0:Int)) fun y=>
    bnd (okIf (decide ((0:Ty.den (Ty.int IntKind.i64))≤i_1)&&decide (i_1<(↑(8:Nat):Int)))) fun y1=>
    bnd (idx a_1 (0:Int)) fun y2=>
    bnd (idx y2.1 i_1) fun y3=>
    bnd (Ya y3) fun y4=>
    bnd (inR (a_1.length) (0:Int)) fun y5=>
    bnd (okIf (decide ((0:Ty.den (Ty.int IntKind.i64))≤i_1)&&decide (i_1<(↑(8:Nat):Int)))) fun y6=>
    bnd (idx a_1 (0:Int)) fun y7=>
    bnd (idx y7.1 i_1) fun y8=>
    Z (.inl ((i64.wrap (i_1+1)),(List.set a_1 (0:Nat) (List.set y7.1 (Int.toNat i_1) y4.1,y7.2)))))
   (Z (.inr (i_1,a_1)))
def Ja.cf_s:Shape:=(Ja.ca_s.s 4 sa2)
def Ja.cf_r:LC:=⟨Ja.cf_s,[(Ja.cf_s,6,[2,202])],no,[2,3],[2,3],@Ja.cf_,fun _ _ _ _=>jf (ja fun _=>(ja fun _=>(ja fun _=>(ja fun _=>(ja fun _=>(ja fun _=>(ja fun _=>(ja fun _=>(ja fun _=>jb))))))))) jb⟩
def Ja.ce_ (a_1:List YN)(t2:List YN)(Z:(List YN)⊕(((List YN)×(List YN))⊕(List YN))→Option ρ):Option ρ:=
  bnd (inR (a_1.length) (0:Int)) fun y=>
  bnd (idx a_1 (0:Int)) fun y1=>
  br (decide (y1.2>0))
   (bnd (iter (fun s↦Ja.ca_ s a_1 t2 some) (0:Int)) fun y2=>
    sel y2
     (fun u=>Z (.inr (.inl (a_1,u.2))))
     (fun v=>bnd (iter (fun s↦Ja.cf_ s.1 s.2 some) ((0:Int),a_1)) fun y3=>
      bnd (idx y3.2 (0:Int)) fun y4=>
      bnd (Jp y4) fun y5=>
      br y5
       (bnd (idx t2 (0:Int)) fun y6=>
        Z (.inr (.inl (y3.2,(List.set t2 (0:Nat) (List.replicate (8:Nat) (false,[]),(0:Int)))))))
       (bnd (inR (List.length y3.2) (0:Int)) fun y7=>
        bnd (idx y3.2 (0:Int)) fun y8=>
        bnd (inR (List.length y3.2) (0:Int)) fun y9=>
        bnd (idx y3.2 (0:Int)) fun y10=>
        Z (.inl (List.set y3.2 (0:Nat) (y10.1,i64.wrap (y8.2-1)))))))
   (Z (.inr (.inr a_1)))
def Ja.ce_s:Shape:=(Ja.ca_s.d 3)
def Ja.ce_r:LC:=⟨Ja.ce_s,[(Ja.ce_s,1,[1,202]),(Ja.ce_s,2,[1,201])],no,[1],[1,2],@Ja.ce_,fun _ _ _ _=>ja fun _=>(ja fun _=>(jf (ja fun _=>(Yp (fun _=>jb) (fun _=>(ja fun _=>(ja fun _=>(ja fun _=>(jf (ja fun _=>jb) (ja fun _=>(ja fun _=>(ja fun _=>(ja fun _=>jb))))))))))) jb))⟩
def Ja (a:YN):Option YN:=
  bnd (iter (fun s↦Ja.ce_ s [(List.replicate (8:Nat) (false,[]),(0:Int))] some) [a]) fun y=>
  sel y
   (fun u=>bnd (idx u.2 (0:Int)) fun y1=>
    some y1)
   (fun v=>bnd (idx v (0:Int)) fun y2=>
    some y2)
def Ja.ce:=ceOf tab Tryz.f77 Ja
def Ja.G:EB Tryz.prog:=⟨tb,Tryz.f77,[⟨108,Yt.ce,Yt.ok⟩,⟨109,Ya.ce,Ya.ok⟩,⟨42,Jp.ce,Jp.ok⟩],[0,1,2,3,4,7,9,16,19,34],[1,2,35],[],[(100001,Ja.ce_r.ck),(100008,Ja.cf_r.ck),(100003,Ja.ca_r.ck)],[],[]⟩
theorem Ja.ok:CalleeOk Tryz.prog 77 Ja.ce:=fnB Ja.G Tryz.func77 (m:=3) ⟨⟨⟨trivial,kL Ja.ce_r (by kernel_rfl)⟩,kL Ja.ca_r (by kernel_rfl)⟩,kL Ja.cf_r (by kernel_rfl)⟩ (by kernel_rfl)
def JO.c10 (i:Int)(a_1:List YN)(b_1:List YN)(Z:List YN→Option ρ):Option ρ:=
  bnd (inR (a_1.length) (0:Int)) fun y=>
  bnd (okIf (decide ((0:Ty.den (Ty.int IntKind.i64))≤i)&&decide (i<(↑(8:Nat):Int)))) fun y1=>
  bnd (idx a_1 (0:Int)) fun y2=>
  bnd (idx y2.1 i) fun y3=>
  bnd (inR (b_1.length) (0:Int)) fun y4=>
  bnd (okIf (decide ((0:Ty.den (Ty.int IntKind.i64))≤i)&&decide (i<(↑(8:Nat):Int)))) fun y5=>
  bnd (idx b_1 (0:Int)) fun y6=>
  bnd (idx y6.1 i) fun y7=>
  bnd (JI y3 y7) fun y8=>
  bnd (inR (a_1.length) (0:Int)) fun y9=>
  bnd (okIf (decide ((0:Ty.den (Ty.int IntKind.i64))≤i)&&decide (i<(↑(8:Nat):Int)))) fun y10=>
  bnd (idx a_1 (0:Int)) fun y11=>
  bnd (idx y11.1 i) fun y12=>
  Z (List.set a_1 (0:Nat) (List.set y11.1 (Int.toNat i) y8,y11.2))
def JO.c10s:Shape:=⟨[(0,sa73),(1,sa73),(2,sa54),(3,sa55),(4,sa25),(5,sa2)],[(2,sa77),(3,sa77),(4,sa77)]⟩
def JO.c10r:RC:=⟨JO.c10s,[(JO.c10s,0,[3,201])],no,[2,3,4],@JO.c10,fun _ _ _ _ _=>ja fun _=>(ja fun _=>(ja fun _=>(ja fun _=>(ja fun _=>(ja fun _=>(ja fun _=>(ja fun _=>(ja fun _=>(ja fun _=>(ja fun _=>(ja fun _=>(ja fun _=>jb))))))))))))⟩
def JO.cf_ (i:Int)(a_1:List YN)(b_1:List YN)(Z:((Int)×(List YN))⊕((Int)×(List YN))→Option ρ):Option ρ:=
  br (decide (i<8))
   (bnd (JO.c10 i a_1 b_1 some) fun y=>
    Z (.inl ((i64.wrap (i+1)),y)))
   (Z (.inr (i,a_1)))
def JO.cf_r:LC:=⟨JO.c10s,[(JO.c10s,2,[2,202])],no,[2,3],[2,3,4],@JO.cf_,fun _ _ _ _ _=>jf (ja fun _=>jb) jb⟩
def JO (a:YN) (b:YN):Option YN:=
  bnd (Jp a) fun y=>
  br y
   (some b)
   (bnd (Jp b) fun y1=>
    br y1
     (some a)
     (bnd (kh a b.2) fun y2=>
      bnd (kh b y2.2) fun y3=>
      bnd (iter (fun s↦JO.cf_ s.1 s.2 [y3] some) ((0:Int),[y2])) fun y4=>
      bnd (idx y4.2 (0:Int)) fun y5=>
      bnd (Jp y5) fun y6=>
      br y6
       (some (List.replicate (8:Nat) (false,[]),(0:Int)))
       (bnd (idx y4.2 (0:Int)) fun y7=>
        bnd (Ja y7) fun y8=>
        some y8)))
def JO.ce:=ceOf tab Tryz.f43 JO
def JO.G:EB Tryz.prog:=⟨tb,Tryz.f43,[⟨42,Jp.ce,Jp.ok⟩,⟨75,kh.ce,kh.ok⟩,⟨76,JI.ce,JI.ok⟩,⟨77,Ja.ce,Ja.ok⟩],[0,1,2,3,4,5,7,10,21,37],[2,3,4,38],[(10,[(12,[2])])],[(100008,JO.cf_r.ck),(10,JO.c10r.ck)],[],[]⟩
theorem JO.ok:CalleeOk Tryz.prog 43 JO.ce:=fnB JO.G Tryz.func43 (m:=2) ⟨⟨trivial,kL JO.cf_r (by kernel_rfl)⟩,kR JO.c10r (by kernel_rfl)⟩ (by kernel_rfl)
def Vc (a:Bool×(List Int)):Option (Bool×(List Int)):=
  bnd (Ju (!a.1) a.2) fun y=>
  some (y.1,y.2)
def Vc.ce:=ceOf tab Tryz.f102 Vc
def Vc.G:EB Tryz.prog:=⟨tb,Tryz.f102,[⟨74,Ju.ce,Ju.ok⟩],[0,1,2],[],[],[],[],[]⟩
theorem Vc.ok:CalleeOk Tryz.prog 102 Vc.ce:=fnB Vc.G Tryz.func102 (m:=0) trivial (by kernel_rfl)
def Jt.ci_ (t1:Int)(Z:Int→Option ρ):Option ρ:=
  br (decide (t1<0))
   (Z (i64.wrap (t1+16)))
   (Z t1)
def Jt.ci_s:Shape:=⟨[(0,sa73),(1,sa2),(2,sa74),(4,sa25)],[(4,sa77)]⟩
def Jt.ci_r:RC:=⟨Jt.ci_s,[(Jt.ci_s,0,[1,201])],no,[1],@Jt.ci_,fun _ _ _=>jf jb jb⟩
def Jt.cL_ (t1:Int)(a_1:YN)(i:Int)(out:List YN)(Z:List YN→Option ρ):Option ρ:=
  br (decide (Int.tmod (i64.wrap (i+t1)) (16:Int)<8))
   (bnd (idx a_1.1 i) fun y=>
    bnd (inR (out.length) (0:Int)) fun y1=>
    bnd (okIf (decide ((0:Ty.den (Ty.int IntKind.i64))≤Int.tmod (i64.wrap (i+t1)) (16:Int))&&decide (Int.tmod (i64.wrap (i+t1)) (16:Int)<(↑(8:Nat):Int)))) fun y2=>
    bnd (idx out (0:Int)) fun y3=>
    bnd (idx y3.1 (Int.tmod (i64.wrap (i+t1)) (16:Int))) fun y4=>
    Z (List.set out (0:Nat) (List.set y3.1 (Int.toNat (Int.tmod (i64.wrap (i+t1)) (16:Int))) y,y3.2)))
   (bnd (idx a_1.1 i) fun y5=>
    bnd (Vc y5) fun y6=>
    bnd (inR (out.length) (0:Int)) fun y7=>
    bnd (okIf (decide ((0:Ty.den (Ty.int IntKind.i64))≤i64.wrap (Int.tmod (i64.wrap (i+t1)) (16:Int)-8))&&decide (i64.wrap (Int.tmod (i64.wrap (i+t1)) (16:Int)-8)<(↑(8:Nat):Int)))) fun y8=>
    bnd (idx out (0:Int)) fun y9=>
    bnd (idx y9.1 (i64.wrap (Int.tmod (i64.wrap (i+t1)) (16:Int)-8))) fun y10=>
    Z (List.set out (0:Nat) (List.set y9.1 (Int.toNat (i64.wrap (Int.tmod (i64.wrap (i+t1)) (16:Int)-8))) y6,y9.2)))
def Jt.cL_s:Shape:=(((Jt.ci_s.s 5 sa15).s 6 sa2).o 5 sa77)
def Jt.cL_r:RC:=⟨Jt.cL_s,[(Jt.cL_s,0,[5,201])],no,[1,2,3,5],@Jt.cL_,fun _ _ _ _ _ _=>jf (ja fun _=>(ja fun _=>(ja fun _=>(ja fun _=>(ja fun _=>jb))))) (ja fun _=>(ja fun _=>(ja fun _=>(ja fun _=>(ja fun _=>(ja fun _=>jb))))))⟩
def Jt.cg_ (t1:Int)(a_1:YN)(i:Int)(out:List YN)(Z:((Int)×(List YN))⊕((Int)×(List YN))→Option ρ):Option ρ:=
  br (decide (i<8))
   (bnd (Jt.cL_ t1 a_1 i out some) fun y=>
    Z (.inl ((i64.wrap (i+1)),y)))
   (Z (.inr (i,out)))
def Jt.cg_r:LC:=⟨Jt.cL_s,[(Jt.cL_s,2,[3,201,1,201])],no,[3,5],[1,2,3,5],@Jt.cg_,fun _ _ _ _ _ _=>jf (ja fun _=>jb) jb⟩
def Jt (a:YN) (t1:Int):Option YN:=
  bnd (Jt.ci_ (Int.tmod t1 (16:Int)) some) fun y=>
  bnd (iter (fun s↦Jt.cg_ y a s.1 s.2 some) ((0:Int),[(List.replicate (8:Nat) (false,[]),a.2)])) fun y1=>
  bnd (idx y1.2 (0:Int)) fun y2=>
  some y2
def Jt.ce:=ceOf tab Tryz.f71 Jt
def Jt.G:EB Tryz.prog:=⟨tb,Tryz.f71,[⟨102,Vc.ce,Vc.ok⟩],[0,1,2,4,5,6,7,11,19,27],[4,5,14,8000002],[],[(100007,Jt.cg_r.ck),(236872,Jt.cL_r.ck),(208197,Jt.ci_r.ck)],[],[]⟩
theorem Jt.ok:CalleeOk Tryz.prog 71 Jt.ce:=fnB Jt.G Tryz.func71 (m:=3) ⟨⟨⟨trivial,kJ Jt.ci_r (by kernel_rfl)⟩,kL Jt.cg_r (by kernel_rfl)⟩,kJ Jt.cL_r (by kernel_rfl)⟩ (by kernel_rfl)
def Yc.cb_ (i:Int)(a_1:List YN)(Z:((Int)×(List YN))⊕((Int)×(List YN))→Option ρ):Option ρ:=
  br (decide (i<8))
   (bnd (inR (a_1.length) (0:Int)) fun y=>
    bnd (okIf (decide ((0:Ty.den (Ty.int IntKind.i64))≤i)&&decide (i<(↑(8:Nat):Int)))) fun y1=>
    bnd (idx a_1 (0:Int)) fun y2=>
    bnd (idx y2.1 i) fun y3=>
    bnd (Vc y3) fun y4=>
    bnd (inR (a_1.length) (0:Int)) fun y5=>
    bnd (okIf (decide ((0:Ty.den (Ty.int IntKind.i64))≤i)&&decide (i<(↑(8:Nat):Int)))) fun y6=>
    bnd (idx a_1 (0:Int)) fun y7=>
    bnd (idx y7.1 i) fun y8=>
    Z (.inl ((i64.wrap (i+1)),(List.set a_1 (0:Nat) (List.set y7.1 (Int.toNat i) y4,y7.2)))))
   (Z (.inr (i,a_1)))
def Yc.cb_s:Shape:=⟨[(0,sa73),(1,sa80),(2,sa54),(3,sa2)],[(1,sa77),(2,sa77)]⟩
def Yc.cb_r:LC:=⟨Yc.cb_s,[(Yc.cb_s,2,[1,202])],no,[1,2],[1,2],@Yc.cb_,fun _ _ _ _=>jf (ja fun _=>(ja fun _=>(ja fun _=>(ja fun _=>(ja fun _=>(ja fun _=>(ja fun _=>(ja fun _=>(ja fun _=>jb))))))))) jb⟩
def Yc (a:YN):Option YN:=
  bnd (iter (fun s↦Yc.cb_ s.1 s.2 some) ((0:Int),[a])) fun y=>
  bnd (idx y.2 (0:Int)) fun y1=>
  some y1
def Yc.ce:=ceOf tab Tryz.f73 Yc
def Yc.G:EB Tryz.prog:=⟨tb,Tryz.f73,[⟨102,Vc.ce,Vc.ok⟩],[0,1,2,3,5],[1,2],[],[(100002,Yc.cb_r.ck)],[],[]⟩
theorem Yc.ok:CalleeOk Tryz.prog 73 Yc.ce:=fnB Yc.G Tryz.func73 (m:=1) ⟨trivial,kL Yc.cb_r (by kernel_rfl)⟩ (by kernel_rfl)
def Yr.c1 (a_1:YN)(b_1:YN)(t4:List YN)(Z:List YN→Option ρ):Option ρ:=
  bnd (Yc b_1) fun y=>
  bnd (JO a_1 y) fun y1=>
  bnd (idx t4 (0:Int)) fun y2=>
  Z (List.set t4 (0:Nat) y1)
def Yr.c1s:Shape:=⟨[(0,sa73),(1,sa73),(2,sa74),(3,sa74),(4,sa25)],[(4,sa77)]⟩
def Yr.c1r:RC:=⟨Yr.c1s,[(Yr.c1s,0,[4,201])],no,[2,3,4],@Yr.c1,fun _ _ _ _ _=>ja fun _=>(ja fun _=>(ja fun _=>jb))⟩
def Yr (a:YN) (b:YN):Option YN:=
  bnd (Yr.c1 a b [(List.replicate (8:Nat) (false,[]),(0:Int))] some) fun y=>
  bnd (idx y (0:Int)) fun y1=>
  some y1
def Yr.ce:=ceOf tab Tryz.f103 Yr
def Yr.G:EB Tryz.prog:=⟨tb,Tryz.f103,[⟨73,Yc.ce,Yc.ok⟩,⟨43,JO.ce,JO.ok⟩],[0,1,2,3,4],[4,8000002,8000003],[(1,[(4,[4])])],[(1,Yr.c1r.ck)],[],[]⟩
theorem Yr.ok:CalleeOk Tryz.prog 103 Yr.ce:=fnB Yr.G Tryz.func103 (m:=1) ⟨trivial,kR Yr.c1r (by kernel_rfl)⟩ (by kernel_rfl)
def kN.c1 (a_1:YN)(Z:List YN→Option ρ):Option ρ:=
  bnd (Jt a_1 (2:Int)) fun y=>
  bnd (Jt a_1 (6:Int)) fun y1=>
  bnd (Yr y y1) fun y2=>
  Z [y2]
def kN.c1s:Shape:=⟨[(0,sa73),(1,sa74),(2,sa54)],[(2,sa77)]⟩
def kN.c1x0:Shape:=((kN.c1s.s 3 sa55).o 3 sa77)
def kN.c1r:RC:=⟨kN.c1s,[(kN.c1x0,0,[3,101])],no,[1],@kN.c1,fun _ _ _=>ja fun _=>(ja fun _=>(ja fun _=>jb))⟩
def kN (a:YN):Option YN:=
  bnd (kN.c1 a some) fun y=>
  bnd (idx y (0:Int)) fun y1=>
  bnd (Jp y1) fun y2=>
  br y2
   (bnd (idx y (0:Int)) fun y3=>
    some y3)
   (bnd (inR (y.length) (0:Int)) fun y4=>
    bnd (idx y (0:Int)) fun y5=>
    bnd (inR (y.length) (0:Int)) fun y6=>
    bnd (idx y (0:Int)) fun y7=>
    bnd (idx (List.set y (0:Nat) (y7.1,i64.wrap (y5.2+1))) (0:Int)) fun y8=>
    bnd (Ja y8) fun y9=>
    some y9)
def kN.ce:=ceOf tab Tryz.f72 kN
def kN.G:EB Tryz.prog:=⟨tb,Tryz.f72,[⟨71,Jt.ce,Jt.ok⟩,⟨103,Yr.ce,Yr.ok⟩,⟨42,Jp.ce,Jp.ok⟩,⟨77,Ja.ce,Ja.ok⟩],[0,1,2,3,10],[2,3,8000001],[(1,[(5,[3]),(6,[3])])],[(1,kN.c1r.ck)],[],[]⟩
theorem kN.ok:CalleeOk Tryz.prog 72 kN.ce:=fnB kN.G Tryz.func72 (m:=1) ⟨trivial,kR kN.c1r (by kernel_rfl)⟩ (by kernel_rfl)
abbrev sa81:SD:=.one (.val (.sl (.st (.pair (.ar 8 (.st (.pair .bool (.sl (.int .i64))))) (.int .i64)))))
abbrev sa82:SD:=.one (.own 11 0)
abbrev sa83:SD:=.one (.aptr 8 0)
def jP.c7 (v:List YN)(x:Int)(t11:List YN)(Z:List YN→Option ρ):Option ρ:=
  bnd (inR (t11.length) x) fun y=>
  bnd (idx t11 x) fun y1=>
  bnd (idx v x) fun y2=>
  bnd (JO y1 y2) fun y3=>
  bnd (inR (t11.length) x) fun y4=>
  bnd (idx t11 x) fun y5=>
  Z (List.set t11 (Int.toNat x) y3)
def jP.c7s:Shape:=⟨[(0,sa81),(1,sa12),(3,sa7),(4,sa81),(5,sa82),(6,sa2)],[(3,sa14),(11,sa77)]⟩
def jP.c7r:RC:=⟨jP.c7s,[(jP.c7s,0,[10,201])],no,[0,3,10],@jP.c7,fun _ _ _ _ _=>ja fun _=>(ja fun _=>(ja fun _=>(ja fun _=>(ja fun _=>(ja fun _=>jb)))))⟩
def jP.c9 (x:Int)(o0:Int)(o3:Int)(Z:Bool→Option ρ):Option ρ:=
  br (o0==1)
   (Z true)
   (br (o0==4)
     (bnd (Yo x o3) fun y=>
      Z (y==1))
     (Z false))
def jP.c9s:Shape:=(jP.c7s.s 7 sa2)
def jP.c9x0:Shape:=(jP.c9s.s 59 sa11)
def jP.c9r:RC:=⟨jP.c9s,[(jP.c9x0,0,[5,101])],no,[3,5,8],@jP.c9,fun _ _ _ _ _=>jf jb (jf (ja fun _=>jb) jb)⟩
def jP.c10 (v:List YN)(x:Int)(o1:Int)(t11:List YN)(Z:List YN→Option ρ):Option ρ:=
  bnd (idx v x) fun y=>
  bnd (Jt y o1) fun y1=>
  bnd (inR (t11.length) x) fun y2=>
  bnd (idx t11 x) fun y3=>
  Z (List.set t11 (Int.toNat x) y1)
def jP.c10r:RC:=⟨jP.c9s,[(jP.c9s,0,[11,201])],no,[0,3,6,11],@jP.c10,fun _ _ _ _ _ _=>ja fun _=>(ja fun _=>(ja fun _=>(ja fun _=>jb)))⟩
def jP.c16 (other:Int)(half:List YN)(t11:List YN)(Z:List YN→Option ρ):Option ρ:=
  bnd (inR (t11.length) other) fun y=>
  bnd (idx t11 other) fun y1=>
  bnd (idx half (0:Int)) fun y2=>
  bnd (JO y1 y2) fun y3=>
  bnd (inR (t11.length) other) fun y4=>
  bnd (idx t11 other) fun y5=>
  Z (List.set t11 (Int.toNat other) y3)
def jP.c16s:Shape:=((jP.c9s.s 8 sa83).o 8 sa77)
def jP.c16r:RC:=⟨jP.c16s,[(jP.c16s,0,[12,201])],no,[4,11,12],@jP.c16,fun _ _ _ _ _=>ja fun _=>(ja fun _=>(ja fun _=>(ja fun _=>(ja fun _=>(ja fun _=>jb)))))⟩
def jP.cX_ (x:Int)(o3:Int)(half:List YN)(Z:List YN→Option ρ):Option ρ:=
  bnd (Yo x o3) fun y=>
  br (y==1)
   (bnd (idx half (0:Int)) fun y1=>
    bnd (Yc y1) fun y2=>
    bnd (idx half (0:Int)) fun y3=>
    Z (List.set half (0:Nat) y2))
   (Z half)
def jP.cX_r:RC:=⟨jP.c16s,[(jP.c16s,0,[11,201])],no,[3,8,11],@jP.cX_,fun _ _ _ _ _=>ja fun _=>(jf (ja fun _=>(ja fun _=>(ja fun _=>jb))) jb)⟩
def jP.c19 (x:Int)(half:List YN)(t11:List YN)(Z:List YN→Option ρ):Option ρ:=
  bnd (inR (t11.length) x) fun y=>
  bnd (idx t11 x) fun y1=>
  bnd (idx half (0:Int)) fun y2=>
  bnd (JO y1 y2) fun y3=>
  bnd (inR (t11.length) x) fun y4=>
  bnd (idx t11 x) fun y5=>
  Z (List.set t11 (Int.toNat x) y3)
def jP.c19r:RC:=⟨jP.c16s,[(jP.c16s,0,[12,201])],no,[3,11,12],@jP.c19,fun _ _ _ _ _=>ja fun _=>(ja fun _=>(ja fun _=>(ja fun _=>(ja fun _=>(ja fun _=>jb)))))⟩
def jP.cT_ (v:List YN)(x:Int)(o0:Int)(o1:Int)(o2:List (Int))(o3:Int)(t11:List YN)(Z:List YN→Option ρ):Option ρ:=
  bnd (idx v x) fun y=>
  bnd (Jp y) fun y1=>
  br y1
   (Z t11)
   (bnd (kE x o2) fun y2=>
    br (!y2)
     (bnd (jP.c7 v x t11 some) fun y3=>
      Z y3)
     (bnd (okIf (decide ((0:Int)≤o3))) fun y4=>
      bnd (jP.c9 x o0 o3 some) fun y5=>
      br y5
       (bnd (jP.c10 v x o1 t11 some) fun y6=>
        Z y6)
       (br (o0==4)
         (bnd (idx v x) fun y7=>
          bnd (inR (t11.length) x) fun y8=>
          bnd (idx t11 x) fun y9=>
          Z (List.set t11 (Int.toNat x) y7))
         (br (o0==2)
           (bnd (idx v x) fun y10=>
            bnd (inR (t11.length) (ibits BinOp.xor IntKind.i64 x (i64.wrap ((1:Int)*2^Min.min (Int.toNat o3) (64:Nat))))) fun y11=>
            bnd (idx t11 (ibits BinOp.xor IntKind.i64 x (i64.wrap ((1:Int)*2^Min.min (Int.toNat o3) (64:Nat))))) fun y12=>
            Z (List.set t11 (Int.toNat (ibits BinOp.xor IntKind.i64 x (i64.wrap ((1:Int)*2^Min.min (Int.toNat o3) (64:Nat))))) y10))
           (bnd (idx v x) fun y13=>
            bnd (kN y13) fun y14=>
            bnd (jP.c16 (ibits BinOp.xor IntKind.i64 x (i64.wrap ((1:Int)*2^Min.min (Int.toNat o3) (64:Nat)))) [y14] t11 some) fun y15=>
            bnd (jP.cX_ x o3 [y14] some) fun y16=>
            bnd (jP.c19 x y16 y15 some) fun y17=>
            Z y17)))))
def jP.cT_r:RC:=⟨jP.c7s,[(jP.c7s,0,[10,201])],no,[0,3,4,5,6,7,10],@jP.cT_,fun _ _ _ _ _ _ _ _ _=>ja fun _=>(ja fun _=>(jf jb (ja fun _=>(jf (ja fun _=>jb) (ja fun _=>(ja fun _=>(jf (ja fun _=>jb) (jf (ja fun _=>(ja fun _=>(ja fun _=>jb))) (jf (ja fun _=>(ja fun _=>(ja fun _=>jb))) (ja fun _=>(ja fun _=>(ja fun _=>(ja fun _=>(ja fun _=>jb))))))))))))))⟩
def jP.ca_ (v:List YN)(x:Int)(o0:Int)(o1:Int)(o2:List (Int))(o3:Int)(t11:List YN)(Z:((Int)×(List YN))⊕((Int)×(List YN))→Option ρ):Option ρ:=
  br (decide (x<(v.length:Int)))
   (bnd (jP.cT_ v x o0 o1 o2 o3 t11 some) fun y=>
    Z (.inl ((i64.wrap (x+1)),y)))
   (Z (.inr (x,t11)))
def jP.ca_r:LC:=⟨jP.c7s,[(jP.c7s,2,[3,201,6,201])],no,[3,10],[0,3,4,5,6,7,10],@jP.ca_,fun _ _ _ _ _ _ _ _ _=>jf (ja fun _=>jb) jb⟩
def jP (v:List YN) (o:YO):Option (List YN):=
  bnd (okIf (decide ((0:Int)≤(v.length:Int))&&decide ((v.length:Int)≤(v.length:Int))&&decide ((v.length:Int)*(↑(264:Nat):Int)≤140737488355328)&&decide ((v.length:Int)≤140737488355328))) fun y=>
  bnd (iter (fun s↦jP.ca_ v s.1 o.1 o.2.1 o.2.2.1 o.2.2.2.1 s.2 some) ((0:Int),List.replicate (Int.toNat (v.length:Int)) (List.replicate (8:Nat) (false,[]),(0:Int)))) fun y1=>
  some y1.2
def jP.ce:=ceOf tab Tryz.f38 jP
def jP.G:EB Tryz.prog:=⟨tb,Tryz.f38,[⟨42,Jp.ce,Jp.ok⟩,⟨70,kE.ce,kE.ok⟩,⟨43,JO.ce,JO.ok⟩,⟨55,Yo.ce,Yo.ok⟩,⟨71,Jt.ce,Jt.ok⟩,⟨72,kN.ce,kN.ok⟩,⟨73,Yc.ce,Yc.ok⟩],[0,1,3,4,5,6,7,8,15,22,27,59,72,82,108],[8,11],[(19,[(9,[11])]),(16,[(9,[11])]),(10,[(10,[11])]),(7,[(12,[11])])],[(100003,jP.ca_r.ck),(220520,jP.cT_r.ck),(19,jP.c19r.ck),(269637,jP.cX_r.ck),(16,jP.c16r.ck),(10,jP.c10r.ck),(9,jP.c9r.ck),(7,jP.c7r.ck)],[],[]⟩
theorem jP.ok:CalleeOk Tryz.prog 38 jP.ce:=fnB jP.G Tryz.func38 (m:=8) ⟨⟨⟨⟨⟨⟨⟨⟨trivial,kL jP.ca_r (by kernel_rfl)⟩,kJ jP.cT_r (by kernel_rfl)⟩,kR jP.c7r (by kernel_rfl)⟩,kR jP.c9r (by kernel_rfl)⟩,kR jP.c10r (by kernel_rfl)⟩,kR jP.c16r (by kernel_rfl)⟩,kJ jP.cX_r (by kernel_rfl)⟩,kR jP.c19r (by kernel_rfl)⟩ (by kernel_rfl)
def JJ.cn_ (v:List YN)(q:Int)(b:Int)(x:Int)(t11:List YN)(Z:List YN→Option ρ):Option ρ:=
  bnd (Yo x q) fun y=>
  br (y==b)
   (bnd (idx v x) fun y1=>
    bnd (inR (t11.length) x) fun y2=>
    bnd (idx t11 x) fun y3=>
    Z (List.set t11 (Int.toNat x) y1))
   (Z t11)
def JJ.cn_s:Shape:=⟨[(0,sa81),(1,sa2),(2,sa2),(6,sa81),(7,sa82),(8,sa2)],[(11,sa77)]⟩
def JJ.cn_r:RC:=⟨JJ.cn_s,[(JJ.cn_s,0,[5,201])],no,[0,1,2,4,5],@JJ.cn_,fun _ _ _ _ _ _ _=>ja fun _=>(jf (ja fun _=>(ja fun _=>(ja fun _=>jb))) jb)⟩
def JJ.ca_ (v:List YN)(q:Int)(b:Int)(x:Int)(t11:List YN)(Z:((Int)×(List YN))⊕((Int)×(List YN))→Option ρ):Option ρ:=
  br (decide (x<(v.length:Int)))
   (bnd (JJ.cn_ v q b x t11 some) fun y=>
    Z (.inl ((i64.wrap (x+1)),y)))
   (Z (.inr (x,t11)))
def JJ.ca_r:LC:=⟨JJ.cn_s,[(JJ.cn_s,2,[4,202])],no,[4,5],[0,1,2,4,5],@JJ.ca_,fun _ _ _ _ _ _ _=>jf (ja fun _=>jb) jb⟩
def JJ (v:List YN) (q:Int) (b:Int):Option (List YN):=
  bnd (okIf (decide ((0:Int)≤(v.length:Int))&&decide ((v.length:Int)≤(v.length:Int))&&decide ((v.length:Int)*(↑(264:Nat):Int)≤140737488355328)&&decide ((v.length:Int)≤140737488355328))) fun y=>
  bnd (iter (fun s↦JJ.ca_ v q b s.1 s.2 some) ((0:Int),List.replicate (Int.toNat (v.length:Int)) (List.replicate (8:Nat) (false,[]),(0:Int)))) fun y1=>
  some y1.2
def JJ.ce:=ceOf tab Tryz.f39 JJ
def JJ.G:EB Tryz.prog:=⟨tb,Tryz.f39,[⟨55,Yo.ce,Yo.ok⟩],[0,1,2,6,7,8,15,22],[11],[],[(100003,JJ.ca_r.ck),(220486,JJ.cn_r.ck)],[],[]⟩
theorem JJ.ok:CalleeOk Tryz.prog 39 JJ.ce:=fnB JJ.G Tryz.func39 (m:=2) ⟨⟨trivial,kL JJ.ca_r (by kernel_rfl)⟩,kJ JJ.cn_r (by kernel_rfl)⟩ (by kernel_rfl)
abbrev sa84:SD:=.one (.ref 9 0)
abbrev sa85:SD:=.one (.ref 10 0)
abbrev sa86:SD:=.one (.own 39 0)
abbrev sa87:SD:=.one (.ref 15 0)
def Jc.c3  (Z:Unit→Option ρ):Option ρ:=
  Z ()
def Jc.c3s:Shape:=⟨[(0,sa4),(1,sa2),(2,sa0),(3,sa7),(6,sa81),(7,sa0),(8,sa2),(9,sa84),(10,sa85)],[(3,sa8),(9,sa17),(10,sa17)]⟩
def Jc.c3r:RC:=⟨Jc.c3s,[(Jc.c3s,0,[3,400,401,402,303,3,302,2,403,404])],fun X=>([],[],(0:Int),(q8 X).2.2.2.1,(q4 (q8 X)).1,()),[],@Jc.c3,fun _ _=>jb⟩
def Jc.c4 (t1:Int)(c0:Int)(Z:Bool→Option ρ):Option ρ:=
  br (decide (t1<0))
   (Z true)
   (bnd (okIf (decide ((0:Int)≤c0))) fun y=>
    Z (decide (t1≥i64.wrap ((1:Int)*2^Min.min (Int.toNat c0) (64:Nat)))))
def Jc.c4x0:Shape:=(Jc.c3s.s 31 sa11)
def Jc.c4r:RC:=⟨Jc.c3s,[(Jc.c4x0,0,[6,101])],no,[1,6],@Jc.c4,fun _ _ _ _=>jf jb (ja fun _=>jb)⟩
def Jc.c19 (b:Int)(Z:Bool→Option ρ):Option ρ:=
  br (b !=0)
   (Z (b !=1))
   (Z false)
def Jc.c19s:Shape:=((((((((Jc.c3s.s 11 sa81).s 12 sa86).s 13 sa2).s 14 sa2).s 15 sa87).s 16 sa2).o 15 sa14).o 39 sa3)
def Jc.c19x0:Shape:=(Jc.c19s.s 77 sa11)
def Jc.c19r:RC:=⟨Jc.c19s,[(Jc.c19x0,0,[10,101])],no,[9],@Jc.c19,fun _ _ _=>jf jb jb⟩
def Jc.cE_ (tape:List (Int))(v:List YN)(used:Int)(i:Int)(c2:List YO)(t39:List (Int))(Z:((List YN)×(Int)×(List Int))⊕((Int)×(Int))→Option ρ):Option ρ:=
  bnd (idx c2 i) fun y=>
  bnd (jU (y.1,y.2.1,y.2.2.1,y.2.2.2.1,y.2.2.2.2.1,y.2.2.2.2.2) t39) fun y1=>
  br (!y1)
   (Z (.inl (v,used,t39)))
   (br (decide (y.1<5))
     (bnd (jP v (y.1,y.2.1,y.2.2.1,y.2.2.2.1,y.2.2.2.2.1,y.2.2.2.2.2)) fun y2=>
      Z (.inl (y2,used,t39)))
     (br (used==(tape.length:Int))
       (bnd (kA (19:Int) i) fun y3=>
        Z (.inr (y3.1,y3.2)))
       (bnd (idx tape used) fun y4=>
        bnd (Jc.c19 y4 some) fun y5=>
        br y5
         (bnd (kA (20:Int) i) fun y6=>
          Z (.inr (y6.1,y6.2)))
         (bnd (JJ v y.2.2.2.1 y4) fun y7=>
          br (y.1==5)
           (bnd (inR (t39.length) y.2.2.2.2.1) fun y8=>
            bnd (idx t39 y.2.2.2.2.1) fun y9=>
            Z (.inl (y7,(i64.wrap (used+1)),(List.set t39 (Int.toNat y.2.2.2.2.1) y4))))
           (br (y4==1)
             (bnd (jP y7 ((2:Int),(0:Int),[],y.2.2.2.1,(0:Int),[])) fun y10=>
              Z (.inl (y10,(i64.wrap (used+1)),t39)))
             (Z (.inl (y7,(i64.wrap (used+1)),t39))))))))
def Jc.cE_s:Shape:=(((Jc.c19s.d 15).d 16).g 15)
def Jc.cE_r:RC:=⟨Jc.cE_s,[(Jc.cE_s,0,[6,202,8,201]),(Jc.cE_s,1,[3,400,401,402,303,6,202])],fun X=>([],[],(0:Int),()),[2,6,7,8,11,16],@Jc.cE_,fun _ _ _ _ _ _ _ _=>ja fun _=>(ja fun _=>(jf jb (jf (ja fun _=>jb) (jf (ja fun _=>jb) (ja fun _=>(ja fun _=>(jf (ja fun _=>jb) (ja fun _=>(jf (ja fun _=>(ja fun _=>jb)) (jf (ja fun _=>jb) jb))))))))))⟩
def Jc.cv_ (tape:List (Int))(v:List YN)(used:Int)(i:Int)(c2:List YO)(t39:List (Int))(Z:((List YN)×(Int)×(Int)×(List Int))⊕(((List YN)×(Int)×(Int)×(Int)×(Int)×(List Int))⊕((List YN)×(Int)×(Int)×(List Int)))→Option ρ):Option ρ:=
  br (decide (i<(c2.length:Int)))
   (bnd (Jc.cE_ tape v used i c2 t39 some) fun y=>
    sel y
     (fun u=>Z (.inl (u.1,u.2.1,(i64.wrap (i+1)),u.2.2)))
     (fun v_1=>Z (.inr (.inl (v,used,i,v_1.1,v_1.2,t39)))))
   (Z (.inr (.inr (v,used,i,t39))))
def Jc.cv_r:LC:=⟨Jc.cE_s,[(Jc.cE_s,1,[3,400,401,402,203,303,3,202,2,201]),(Jc.cE_s,2,[6,203,7,201])],fun X=>([],[],(0:Int),()),[6,7,8,16],[2,6,7,8,11,16],@Jc.cv_,fun _ _ _ _ _ _ _ _=>jf (ja fun _=>(Yp (fun _=>jb) (fun _=>jb))) jb⟩
def Jc (c:(Int)×((Int)×(List YO))) (t1:Int) (tape:List (Int)):Option ((List YN)×(List Int)×(Int)×((Int)×(Int))):=
  bnd (Jf (c.1,c.2.1,c.2.2)) fun y=>
  br (y.1 !=0)
   (bnd (Jc.c3 some) fun y1=>
    some ([],[],(0:Int),y.1,y.2))
   (bnd (Jc.c4 t1 c.1 some) fun y2=>
    br y2
     (bnd (kA (18:Int) (0:Int)) fun y3=>
      some ([],[],(0:Int),y3.1,y3.2))
     (bnd (Ua c.1 t1) fun y4=>
      bnd (okIf (decide ((0:Int)≤c.2.1)&&decide (c.2.1≤c.2.1)&&decide (c.2.1*(↑(8:Nat):Int)≤140737488355328)&&decide (c.2.1≤140737488355328))) fun y5=>
      bnd (iter (fun s↦Jc.cv_ tape s.1 s.2.1 s.2.2.1 c.2.2 s.2.2.2 some) (y4,(0:Int),(0:Int),List.replicate (Int.toNat c.2.1) (0:Int))) fun y6=>
      sel y6
       (fun u=>some ([],[],(0:Int),u.2.2.2.1,u.2.2.2.2.1))
       (fun v=>some (v.1,v.2.2.2,v.2.1,(0:Int),(0:Int)))))
def Jc.ce:=ceOf tab Tryz.f15 Jc
def Jc.G:EB Tryz.prog:=⟨tb,Tryz.f15,[⟨34,Jf.ce,Jf.ok⟩,⟨35,kA.ce,kA.ok⟩,⟨36,Ua.ce,Ua.ok⟩,⟨37,jU.ce,jU.ok⟩,⟨38,jP.ce,jP.ok⟩,⟨39,JJ.ce,JJ.ok⟩],[0,1,2,3,6,7,8,9,10,11,12,13,14,15,16,21,31,44,55,58,65,77,89,96],[39],[(3,[(1,[6]),(2,[7]),(4,[9])])],[(100010,Jc.cv_r.ck),(249200,Jc.cE_r.ck),(19,Jc.c19r.ck),(4,Jc.c4r.ck),(3,Jc.c3r.ck)],[],[]⟩
theorem Jc.ok:CalleeOk Tryz.prog 15 Jc.ce:=fnB Jc.G Tryz.func15 (m:=5) ⟨⟨⟨⟨⟨trivial,kR Jc.c3r (by kernel_rfl)⟩,kR Jc.c4r (by kernel_rfl)⟩,kL Jc.cv_r (by kernel_rfl)⟩,kJ Jc.cE_r (by kernel_rfl)⟩,kR Jc.c19r (by kernel_rfl)⟩ (by kernel_rfl)
abbrev sa88:SD:=.one (.val (.sl (.int .u8)))
def jW.ct_ (text:List UInt8)(a0:Bool)(Z:List UInt8→Option ρ):Option ρ:=
  br a0
   (Z (Array.toList (ByteArray.data (ByteArray.mk #[45]))))
   (Z text)
def jW.ct_s:Shape:=⟨[(0,sa75),(1,sa5),(2,sa65),(3,sa65)],[(1,sa72)]⟩
def jW.ct_r:RC:=⟨jW.ct_s,[(jW.ct_s,0,[2,201])],no,[2,3],@jW.ct_,fun _ _ _ _=>jf jb jb⟩
def jW.c9 (i:Int)(a1:List (Int))(Z:List (Int)→Option ρ):Option ρ:=
  bnd (idx a1 i) fun y=>
  bnd (idx a1 i) fun y1=>
  bnd (idx a1 i) fun y2=>
  bnd (idx a1 i) fun y3=>
  Z ([u8.wrap (i64.wrap ((48:Int)+i64.wrap (Int.tdiv y (1000:Int)))),u8.wrap (i64.wrap ((48:Int)+Int.tmod (i64.wrap (Int.tdiv y1 (100:Int))) (10:Int))),u8.wrap (i64.wrap ((48:Int)+Int.tmod (i64.wrap (Int.tdiv y2 (10:Int))) (10:Int))),u8.wrap (i64.wrap ((48:Int)+Int.tmod y3 (10:Int)))])
def jW.c9s:Shape:=(jW.ct_s.s 4 sa2)
def jW.c9x0:Shape:=(jW.c9s.s 5 sa88)
def jW.c9r:RC:=⟨jW.c9s,[(jW.c9x0,0,[4,101])],no,[3,5],@jW.c9,fun _ _ _ _=>ja fun _=>(ja fun _=>(ja fun _=>(ja fun _=>jb)))⟩
def jW.c11 (i:Int)(four:List (Int))(t6:Int)(a1:List (Int))(Z:Bool→Option ρ):Option ρ:=
  br (i==i64.wrap ((a1.length:Int)-1))
   (br (decide (t6<3))
     (bnd (idx four t6) fun y=>
      Z (y==48))
     (Z false))
   (Z false)
def jW.c11s:Shape:=(jW.c9x0.s 6 sa2)
def jW.c11x0:Shape:=(jW.c11s.s 72 sa11)
def jW.c11r:RC:=⟨jW.c11s,[(jW.c11x0,0,[6,101])],no,[3,4,5,7],@jW.c11,fun _ _ _ _ _ _=>jf (jf (ja fun _=>jb) jb) jb⟩
def jW.cs_ (i:Int)(four:List (Int))(t6:Int)(a1:List (Int))(Z:(Int)⊕(Int)→Option ρ):Option ρ:=
  bnd (jW.c11 i four t6 a1 some) fun y=>
  br y
   (Z (.inl (i64.wrap (t6+1))))
   (Z (.inr t6))
def jW.cs_r:LC:=⟨jW.c11s,[(jW.c11s,4,[5,201])],no,[5],[3,4,5,7],@jW.cs_,fun _ _ _ _ _ _=>ja fun _=>(jf jb jb)⟩
def jW.cg_ (text:List UInt8)(i:Int)(a1:List (Int))(Z:((List UInt8)×(Int))⊕((List UInt8)×(Int))→Option ρ):Option ρ:=
  br (decide (i≥0))
   (bnd (jW.c9 i a1 some) fun y=>
    bnd (iter (fun s↦jW.cs_ i y s a1 some) (0:Int)) fun y1=>
    bnd (okIf (decide ((0:Int)≤y1)&&decide (y1≤(y.length:Int))&&decide ((y.length:Int)≤(y.length:Int)))) fun y2=>
    bnd (okIf (decide (text.length+List.length (List.map (fun n↦UInt8.ofNat (Int.toNat n)) (List.drop (Int.toNat y1) (List.take (Int.toNat (y.length:Int)) y)))≤9223372036854775807))) fun y3=>
    Z (.inl ((text++List.map (fun n↦UInt8.ofNat (Int.toNat n)) (List.drop (Int.toNat y1) (List.take (Int.toNat (y.length:Int)) y))),(i64.wrap (i-1)))))
   (Z (.inr (text,i)))
def jW.cg_r:LC:=⟨jW.c9s,[(jW.c9s,2,[2,202])],no,[2,3],[2,3,5],@jW.cg_,fun _ _ _ _ _=>jf (ja fun _=>(ja fun _=>(ja fun _=>(ja fun _=>jb)))) jb⟩
def jW (a:Bool×(List Int)):Option (List UInt8):=
  br ((↑(List.length a.2):Int)==0)
   (some (Array.toList (ByteArray.data (ByteArray.mk #[48]))))
   (bnd (jW.ct_ (Array.toList (ByteArray.data (ByteArray.mk #[]))) a.1 some) fun y=>
    bnd (iter (fun s↦jW.cg_ s.1 s.2 a.2 some) (y,i64.wrap ((↑(List.length a.2):Int)-1))) fun y1=>
    some y1.1)
def jW.ce:=ceOf tab Tryz.f40 jW
def jW.G:EB Tryz.prog:=⟨tb,Tryz.f40,[],[0,1,2,3,4,5,6,10,12,18,72],[],[(9,[(34,[55])])],[(100007,jW.cg_r.ck),(100011,jW.cs_r.ck),(11,jW.c11r.ck),(9,jW.c9r.ck),(216389,jW.ct_r.ck)],[],[]⟩
theorem jW.ok:CalleeOk Tryz.prog 40 jW.ce:=fnB jW.G Tryz.func40 (m:=5) ⟨⟨⟨⟨⟨trivial,kJ jW.ct_r (by kernel_rfl)⟩,kL jW.cg_r (by kernel_rfl)⟩,kR jW.c9r (by kernel_rfl)⟩,kL jW.cs_r (by kernel_rfl)⟩,kR jW.c11r (by kernel_rfl)⟩ (by kernel_rfl)
def Jo.cn_ (a_1:YN)(last:Int)(i:Int)(Z:Int→Option ρ):Option ρ:=
  bnd (idx a_1.1 i) fun y=>
  br (decide ((↑(List.length y.2):Int)>0))
   (Z i)
   (Z last)
def Jo.cn_s:Shape:=⟨[(0,sa73),(1,sa74),(2,sa65),(3,sa2),(4,sa2)],[]⟩
def Jo.cn_r:RC:=⟨Jo.cn_s,[(Jo.cn_s,0,[3,201])],no,[1,3,4],@Jo.cn_,fun _ _ _ _ _=>ja fun _=>(jf jb jb)⟩
def Jo.ca_ (a_1:YN)(last:Int)(i:Int)(Z:((Int)×(Int))⊕((Int)×(Int))→Option ρ):Option ρ:=
  br (decide (i<8))
   (bnd (Jo.cn_ a_1 last i some) fun y=>
    Z (.inl (y,(i64.wrap (i+1)))))
   (Z (.inr (last,i)))
def Jo.ca_r:LC:=⟨Jo.cn_s,[(Jo.cn_s,2,[3,202])],no,[3,4],[1,3,4],@Jo.ca_,fun _ _ _ _ _=>jf (ja fun _=>jb) jb⟩
def Jo.cq_ (a_1:YN)(last:Int)(text:List UInt8)(i_1:Int)(Z:((List UInt8)×(Int))⊕((List UInt8)×(Int))→Option ρ):Option ρ:=
  br (decide (i_1≤last))
   (bnd (idx a_1.1 i_1) fun y=>
    bnd (jW y) fun y1=>
    bnd (okIf (decide (List.length (Array.toList (ByteArray.data (ByteArray.mk #[44])))+y1.length≤9223372036854775807))) fun y2=>
    bnd (okIf (decide (text.length+List.length (Array.toList (ByteArray.data (ByteArray.mk #[44]))++y1)≤9223372036854775807))) fun y3=>
    Z (.inl ((text++(Array.toList (ByteArray.data (ByteArray.mk #[44]))++y1)),(i64.wrap (i_1+1)))))
   (Z (.inr (text,i_1)))
def Jo.cq_s:Shape:=((Jo.cn_s.s 5 sa65).s 6 sa2)
def Jo.cq_r:LC:=⟨Jo.cq_s,[(Jo.cq_s,4,[5,202])],no,[5,6],[1,3,5,6],@Jo.cq_,fun _ _ _ _ _ _=>jf (ja fun _=>(ja fun _=>(ja fun _=>(ja fun _=>jb)))) jb⟩
def Jo.cW_ (a_1:YN)(text:List UInt8)(Z:List UInt8→Option ρ):Option ρ:=
  br (decide (a_1.2>0))
   (bnd (kq a_1.2) fun y=>
    bnd (jW y) fun y1=>
    bnd (okIf (decide (List.length (Array.toList (ByteArray.data (ByteArray.mk #[47])))+y1.length≤9223372036854775807))) fun y2=>
    bnd (okIf (decide (text.length+List.length (Array.toList (ByteArray.data (ByteArray.mk #[47]))++y1)≤9223372036854775807))) fun y3=>
    Z (text++(Array.toList (ByteArray.data (ByteArray.mk #[47]))++y1)))
   (Z text)
def Jo.cW_r:RC:=⟨Jo.cq_s,[(Jo.cq_s,0,[5,201])],no,[1,5],@Jo.cW_,fun _ _ _ _=>jf (ja fun _=>(ja fun _=>(ja fun _=>(ja fun _=>jb)))) jb⟩
def Jo (a:YN):Option (List UInt8):=
  bnd (iter (fun s↦Jo.ca_ a s.1 s.2 some) ((0:Int),(0:Int))) fun y=>
  bnd (idx a.1 (0:Int)) fun y1=>
  bnd (jW y1) fun y2=>
  bnd (iter (fun s↦Jo.cq_ a y.1 s.1 s.2 some) (y2,(1:Int))) fun y3=>
  bnd (Jo.cW_ a y3.1 some) fun y4=>
  some y4
def Jo.ce:=ceOf tab Tryz.f16 Jo
def Jo.G:EB Tryz.prog:=⟨tb,Tryz.f16,[⟨40,jW.ce,jW.ok⟩,⟨41,kq.ce,kq.ok⟩],[0,1,2,3,4,5,6,8,17,25,38],[8000001],[],[(249157,Jo.cW_r.ck),(100009,Jo.cq_r.ck),(100003,Jo.ca_r.ck),(220486,Jo.cn_r.ck)],[],[]⟩
theorem Jo.ok:CalleeOk Tryz.prog 16 Jo.ce:=fnB Jo.G Tryz.func16 (m:=4) ⟨⟨⟨⟨trivial,kL Jo.ca_r (by kernel_rfl)⟩,kJ Jo.cn_r (by kernel_rfl)⟩,kL Jo.cq_r (by kernel_rfl)⟩,kJ Jo.cW_r (by kernel_rfl)⟩ (by kernel_rfl)
end
end W
end
