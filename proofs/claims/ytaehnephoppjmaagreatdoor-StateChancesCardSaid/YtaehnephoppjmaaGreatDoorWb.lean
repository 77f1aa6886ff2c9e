/- Lifted functions, part 2: each with its contract. -/
import Derived.Test.YtaehnephoppjmaaGreatDoorWa
import Derived.Test.YtaehnephoppjmaaGreatDoorLf
import Derived.Test.YtaehnephoppjmaaGreatDoorProg
set_option linter.all false
section
set_option maxHeartbeats 4000000
set_option maxRecDepth 100000
namespace W
open Go Go.Ql Go.Proofs Go.IntKind
noncomputable section
variable {ρ:Type}
def jy.pre:Shape:=⟨[(0,sa40),(1,sa2),(2,sa2)],[(2000000,sa28)]⟩
def jy.post:Shape:=⟨[],[(2000000,sa28)]⟩
def jy.cx_ (vlo:Int)(vn:Int)(q:Int)(b:Int)(t9:Int)(uf:List YN)(Z:List YN→Option ρ):Option ρ:=
  bnd (okIf (decide ((0:Int)≤q))) fun y=>
  br (ibits BinOp.and IntKind.i64 (Int.fdiv t9 ((2:Int)^Min.min (Int.toNat q) (64:Nat))) (1:Int) !=b)
   (bnd (okIf (decide ((0:Ty.den (Ty.int IntKind.i64))≤t9)&&decide (t9<vn))) fun y1=>
    bnd (idx uf (vlo+t9)) fun y2=>
    Z (List.set uf (Int.toNat (vlo+t9)) (List.replicate (8:Nat) (false,[]),(0:Int))))
   (Z uf)
def jy.cx_s:Shape:=((jy.pre.s 8 sa2).s 9 sa2)
def jy.cx_r:RC:=⟨jy.cx_s,[(jy.cx_s,0,[6,201])],no,[0,1,2,3,5,6],@jy.cx_,fun _ _ _ _ _ _ _ _=>jb fun _=>(jf (jb fun _=>(jb fun _=>jc)) jc)⟩
def jy.cd_ (vlo:Int)(vn:Int)(q:Int)(b:Int)(t8:Int)(t9:Int)(uf:List YN)(Z:((Int)×(List YN))⊕((Int)×(List YN))→Option ρ):Option ρ:=
  br (decide (t9<t8))
   (bnd (jy.cx_ vlo vn q b t9 uf some) fun y=>
    Z (.inl ((i64.wrap (t9+1)),y)))
   (Z (.inr (t9,uf)))
def jy.cd_r:LC:=⟨jy.cx_s,[(jy.cx_s,2,[5,202])],no,[5,6],[0,1,2,3,4,5,6],@jy.cd_,fun _ _ _ _ _ _ _ _ _=>jf (jb fun _=>jc) jc⟩
def jy (vlo:Int) (vn:Int) (q:Int) (b:Int) (uf:List YN):Option ((List YN)×Unit):=
  bnd (iter (fun s↦jy.cd_ vlo vn q b (↑(List.length (part vlo vn uf)):Int) s.1 s.2 some) ((0:Int),uf)) fun y=>
  some (y.2,())
def jy.mc:MCallee:=⟨101,jy.pre,jy.post,fun X=>jy X.1 X.2.1 X.2.2.1 X.2.2.2.1 (q4 X).1⟩
def jy.G:EB Tryz.prog:=⟨tb,Tryz.f101,[],[0,1,2,6,8,9,10,17],[2000000],[],[(100001,jy.cd_r.ck),(208200,jy.cx_r.ck)],[],[]⟩
theorem jy.ok:MOk Tryz.prog 101 jy.mc:=fnM jy.G (mc:=jy.mc) Tryz.func101 (m:=2) ⟨⟨trivial,kL jy.cd_r (by kernel_rfl)⟩,kJ jy.cx_r (by kernel_rfl)⟩ (by kernel_rfl)
def jm.pre:Shape:=⟨[(0,sa38),(1,sa2)],[(1000700,sa39),(2000701,sa28),(2000702,sa3)]⟩
def jm.post:Shape:=⟨[],[(1000700,sa39),(2000701,sa28),(2000702,sa3)]⟩
def jm.c0 (uc:List YO)(ue:Int)(Z:(Int)×(Int)×(List Int)×(Int)×(Int)×(List Int)→Option ρ):Option ρ:=
  bnd (idx uc ue) fun y=>
  Z (y.1,y.2.1,y.2.2.1,y.2.2.2.1,y.2.2.2.2.1,y.2.2.2.2.2)
def jm.c0x0:Shape:=((jm.pre.s 4 sa20).o 4 sa14)
def jm.c0r:RC:=⟨jm.pre,[(jm.c0x0,0,[1,106])],no,[3,5],@jm.c0,fun _ _ _ _=>jb fun _=>jc⟩
def jm.c1 (b:Int)(o3:Int)(ug:List YN)(Z:List YN→Option ρ):Option ρ:=
  bnd (jy (0:Int) (ug.length:Int) o3 b ug) fun y=>
  Z y.1
def jm.c1r:RC:=⟨jm.c0x0,[(jm.c0x0,0,[12,201])],no,[0,4,12],@jm.c1,fun _ _ _ _ _=>jb fun _=>jc⟩
def jm.c3 (o4:Int)(uh:List (Int))(Z:Unit→Option ρ):Option ρ:=
  bnd (inR (uh.length) o4) fun y=>
  bnd (idx uh o4) fun y1=>
  Z ()
def jm.c3r:RC:=⟨jm.c0x0,[(jm.c0x0,0,[13,400,301])],fun X=>((List.set (q4 (q8 X)).2.1 (Int.toNat (q4 X).2.1) X.1),()),[5,13],@jm.c3,fun _ _ _ _=>jb fun _=>(jb fun _=>jc)⟩
def jm.c5 (o3:Int)(ug:List YN)(Z:List YN→Option ρ):Option ρ:=
  bnd (jd (0:Int) (ug.length:Int) ((2:Int),(0:Int),[],o3,(0:Int),[]) ug) fun y=>
  Z y.1
def jm.c5r:RC:=⟨jm.c0x0,[(jm.c0x0,0,[12,201])],no,[4,12],@jm.c5,fun _ _ _ _=>jb fun _=>jc⟩
def jm.cS_ (b:Int)(o0:Int)(o3:Int)(o4:Int)(ug:List YN)(uh:List (Int))(Z:(List YN)×(List Int)→Option ρ):Option ρ:=
  br (o0==5)
   (bnd (jm.c3 o4 uh some) fun y=>
    Z (ug,(List.set uh (Int.toNat o4) b)))
   (br (b==1)
     (bnd (jm.c5 o3 ug some) fun y1=>
      Z (y1,uh))
     (Z (ug,uh)))
def jm.cS_r:RC:=⟨jm.c0x0,[(jm.c0x0,0,[12,202])],no,[0,1,4,5,12,13],@jm.cS_,fun _ _ _ _ _ _ _ _=>jf (jb fun _=>jc) (jf (jb fun _=>jc) jc)⟩
def jm (b:Int) (ua:Int) (ub:Int) (uc:List YO) (ud:Int) (ue:Int) (ug:List YN) (uh:List (Int)):Option ((Int)×(Int)×(List YO)×(Int)×(Int)×(List YN)×(List Int)×Unit):=
  bnd (jm.c0 uc ue some) fun y=>
  bnd (jm.c1 b y.2.2.2.1 ug some) fun y1=>
  bnd (jm.cS_ b y.1 y.2.2.2.1 y.2.2.2.2.1 y1 uh some) fun y2=>
  some (ua,ub,uc,i64.wrap (ud+1),i64.wrap (ue+1),y2.1,y2.2,())
def jm.mc:MCallee:=⟨65,jm.pre,jm.post,fun X=>jm X.1 X.2.1 X.2.2.1 X.2.2.2.1 (q4 X).1 (q4 X).2.1 (q4 X).2.2.1 (q4 X).2.2.2.1⟩
def jm.G:EB Tryz.prog:=⟨tb,Tryz.f65,[],[0,1,4,26,36],[1000700,2000701,2000702],[(5,[(7,[2000701])]),(3,[(8,[2000702])]),(1,[(7,[2000701])]),(0,[(11,[4]),(12,[4])])],[(208201,jm.cS_r.ck),(5,jm.c5r.ck),(3,jm.c3r.ck),(1,jm.c1r.ck),(0,jm.c0r.ck)],[⟨101,jy.mc,jy.ok⟩,⟨100,jd.mc,jd.ok⟩],[]⟩
theorem jm.ok:MOk Tryz.prog 65 jm.mc:=fnM jm.G (mc:=jm.mc) Tryz.func65 (m:=5) ⟨⟨⟨⟨⟨trivial,kR jm.c0r (by kernel_rfl)⟩,kR jm.c1r (by kernel_rfl)⟩,kJ jm.cS_r (by kernel_rfl)⟩,kR jm.c3r (by kernel_rfl)⟩,kR jm.c5r (by kernel_rfl)⟩ (by kernel_rfl)
def Jq.pre:Shape:=⟨[(0,sa19)],[]⟩
def Jq.post:Shape:=⟨[(0,sa29)],[(0,sa43)]⟩
def Jq (s:List (Int)):Option ((List Int)×Unit):=
  br (List.isEmpty s)
   (both
     (some ([],()))
     (bnd (okIf (decide (((0:Nat)+s.length)*4≤140737488355328)&&decide ((0:Nat)+s.length≤140737488355328))) fun y=>
      some (s,())))
   (bnd (okIf (decide (((0:Nat)+s.length)*4≤140737488355328)&&decide ((0:Nat)+s.length≤140737488355328))) fun y1=>
    some (s,()))
def Jq.mc:MCallee:=⟨93,Jq.pre,Jq.post,fun X=>Jq X.1⟩
def Jq.G:EB Tryz.prog:=⟨tb,Tryz.f93,[],[0,2,4],[2,5],[],[],[],[]⟩
theorem Jq.ok:MOk Tryz.prog 93 Jq.mc:=fnM Jq.G (mc:=Jq.mc) Tryz.func93 (m:=0) trivial (by kernel_rfl)
abbrev sa63:SD:=.one (.own 2000000 0)
abbrev sa64:SO:=.arr 0 false 5 (.int .u8)
def jw.pre:Shape:=⟨[(0,sa63)],[(2000000,sa64)]⟩
def jw.post:Shape:=⟨[],[(2000000,sa64)]⟩
def jw.c3 (i:Int)(j:Int)(uf:List (Int))(Z:List (Int)→Option ρ):Option ρ:=
  bnd (inR (uf.length) j) fun y=>
  bnd (idx uf j) fun y1=>
  bnd (inR (uf.length) i) fun y2=>
  bnd (idx uf i) fun y3=>
  bnd (inR (uf.length) i) fun y4=>
  bnd (idx uf i) fun y5=>
  bnd (inR (List.length (List.set uf (Int.toNat i) y1)) j) fun y6=>
  bnd (idx (List.set uf (Int.toNat i) y1) j) fun y7=>
  Z (List.set (List.set uf (Int.toNat i) y1) (Int.toNat j) y3)
def jw.c3s:Shape:=((jw.pre.s 2 sa2).s 3 sa2)
def jw.c3r:RC:=⟨jw.c3s,[(jw.c3s,0,[2,201])],no,[0,1,2],@jw.c3,fun _ _ _ _ _=>jb fun _=>(jb fun _=>(jb fun _=>(jb fun _=>(jb fun _=>(jb fun _=>(jb fun _=>(jb fun _=>jc)))))))⟩
def jw.cd_ (i:Int)(j:Int)(uf:List (Int))(Z:((Int)×(Int)×(List Int))⊕((Int)×(Int)×(List Int))→Option ρ):Option ρ:=
  br (decide (i<j))
   (bnd (jw.c3 i j uf some) fun y=>
    Z (.inl ((i64.wrap (i+1)),(i64.wrap (j-1)),y)))
   (Z (.inr (i,j,uf)))
def jw.cd_r:LC:=⟨jw.c3s,[(jw.c3s,2,[203])],no,[0,1,2],[0,1,2],@jw.cd_,fun _ _ _ _ _=>jf (jb fun _=>jc) jc⟩
def jw (uf:List (Int)):Option ((List Int)×Unit):=
  bnd (iter (fun s↦jw.cd_ s.1 s.2.1 s.2.2 some) ((0:Int),i64.wrap ((uf.length:Int)-1),uf)) fun y=>
  some (y.2.2,())
def jw.mc:MCallee:=⟨94,jw.pre,jw.post,fun X=>jw X.1⟩
def jw.G:EB Tryz.prog:=⟨tb,Tryz.f94,[],[0,2,3,9],[2000000],[(3,[(13,[2000000]),(15,[2000000])])],[(100001,jw.cd_r.ck),(3,jw.c3r.ck)],[],[]⟩
theorem jw.ok:MOk Tryz.prog 94 jw.mc:=fnM jw.G (mc:=jw.mc) Tryz.func94 (m:=2) ⟨⟨trivial,kL jw.cd_r (by kernel_rfl)⟩,kR jw.c3r (by kernel_rfl)⟩ (by kernel_rfl)
abbrev sa65:SD:=.one (.val .str)
abbrev sa66:SD:=.one (.own 14 0)
def whole_Int_Text.cg_ (part:Int)(i:Int)(t14:List (Int))(Z:((Int)×(Int)×(List Int))⊕((Int)×(Int)×(List Int))→Option ρ):Option ρ:=
  br (decide (i≥0))
   (bnd (inR (t14.length) i) fun y=>
    bnd (idx t14 i) fun y1=>
    bnd (inR (t14.length) i) fun y2=>
    bnd (idx t14 i) fun y3=>
    Z (.inl ((Int.tmod (ibits BinOp.or IntKind.u64 (u64.wrap (part*2 ^32)) (IntKind.wrap IntKind.u64 y1)) (1000000000:Int)),(i64.wrap (i-1)),(List.set t14 (Int.toNat i) (u32.wrap (u64.wrap (Int.tdiv (ibits BinOp.or IntKind.u64 (u64.wrap (part*2 ^32)) (IntKind.wrap IntKind.u64 y1)) (1000000000:Int))))))))
   (Z (.inr (part,i,t14)))
def whole_Int_Text.cg_s:Shape:=⟨[(0,sa50),(1,sa5),(2,sa65),(3,sa1),(4,sa66),(5,sa22),(6,sa2)],[(1,sa21),(3,sa64),(14,sa43)]⟩
def whole_Int_Text.cg_r:LC:=⟨whole_Int_Text.cg_s,[(whole_Int_Text.cg_s,4,[2,202,3,201])],no,[2,3,7],[2,3,7],@whole_Int_Text.cg_,fun _ _ _ _ _=>jf (jb fun _=>(jb fun _=>(jb fun _=>(jb fun _=>jc)))) jc⟩
def whole_Int_Text.cu_ (t14:List (Int))(Z:List (Int)→Option ρ):Option ρ:=
  bnd (inR (t14.length) (i64.wrap ((t14.length:Int)-1))) fun y=>
  bnd (idx t14 (i64.wrap ((t14.length:Int)-1))) fun y1=>
  br (y1==0)
   (bnd (okIf (decide ((0:Int)≤i64.wrap ((t14.length:Int)-1))&&decide (i64.wrap ((t14.length:Int)-1)≤(t14.length:Int)))) fun y2=>
    Z (List.take (Int.toNat (i64.wrap ((t14.length:Int)-1))) t14))
   (Z t14)
def whole_Int_Text.cu_r:RC:=⟨whole_Int_Text.cg_s,[(whole_Int_Text.cg_s,0,[7,201])],no,[7],@whole_Int_Text.cu_,fun _ _ _=>jb fun _=>(jb fun _=>(jf (jb fun _=>jc) jc))⟩
def whole_Int_Text.c16 (part:Int)(t7:Int)(t14:List (Int))(Z:Bool→Option ρ):Option ρ:=
  br (decide (t7<9))
   (br (decide (part>0))
     (Z true)
     (Z (decide ((t14.length:Int)>0))))
   (Z false)
def whole_Int_Text.c16s:Shape:=(whole_Int_Text.cg_s.s 7 sa2)
def whole_Int_Text.c16x0:Shape:=(whole_Int_Text.c16s.s 63 sa11)
def whole_Int_Text.c16r:RC:=⟨whole_Int_Text.c16s,[(whole_Int_Text.c16x0,0,[5,101])],no,[2,4,8],@whole_Int_Text.c16,fun _ _ _ _ _=>jf (jf jc jc) jc⟩
def whole_Int_Text.cI_ (part:Int)(t7:Int)(out:List (Int))(t14:List (Int))(Z:((Int)×(Int)×(List Int))⊕((Int)×(Int)×(List Int))→Option ρ):Option ρ:=
  bnd (whole_Int_Text.c16 part t7 t14 some) fun y=>
  br y
   (bnd (okIf (decide ((out.length+1)*1≤140737488355328)&&decide (out.length+1≤140737488355328))) fun y1=>
    Z (.inl ((u64.wrap (Int.tdiv part (10:Int))),(i64.wrap (t7+1)),(out++[u8.wrap (u64.wrap ((48:Int)+Int.tmod part (10:Int)))]))))
   (Z (.inr (part,t7,out)))
def whole_Int_Text.cI_r:LC:=⟨whole_Int_Text.c16s,[(whole_Int_Text.c16s,6,[2,201,1,201,2,201])],no,[2,4,7],[2,4,7,8],@whole_Int_Text.cI_,fun _ _ _ _ _ _=>jb fun _=>(jf (jb fun _=>jc) jc)⟩
def whole_Int_Text.cf_ (out:List (Int))(t14:List (Int))(Z:((List Int)×(List Int))⊕((List Int)×(List Int))→Option ρ):Option ρ:=
  br (decide ((t14.length:Int)>0))
   (bnd (iter (fun s↦whole_Int_Text.cg_ s.1 s.2.1 s.2.2 some) ((0:Int),i64.wrap ((t14.length:Int)-1),t14)) fun y=>
    bnd (whole_Int_Text.cu_ y.2.2 some) fun y1=>
    bnd (iter (fun s↦whole_Int_Text.cI_ s.1 s.2.1 s.2.2 y1 some) (y.1,(0:Int),out)) fun y2=>
    Z (.inl (y2.2.2,y1)))
   (Z (.inr (out,t14)))
def whole_Int_Text.cf_s:Shape:=((whole_Int_Text.cg_s.d 5).d 6)
def whole_Int_Text.cf_r:LC:=⟨whole_Int_Text.cf_s,[(whole_Int_Text.cf_s,2,[4,202])],no,[4,5],[4,5],@whole_Int_Text.cf_,fun _ _ _ _=>jf (jb fun _=>(jb fun _=>(jb fun _=>jc))) jc⟩
def whole_Int_Text.cR_ (a0:Bool)(out:List (Int))(Z:List (Int)→Option ρ):Option ρ:=
  br a0
   (bnd (okIf (decide ((out.length+1)*1≤140737488355328)&&decide (out.length+1≤140737488355328))) fun y=>
    Z (out++[(45:Int)]))
   (Z out)
def whole_Int_Text.cR_r:RC:=⟨whole_Int_Text.cf_s,[(whole_Int_Text.cf_s,0,[4,201])],no,[2,4],@whole_Int_Text.cR_,fun _ _ _ _=>jf (jb fun _=>jc) jc⟩
def whole_Int_Text (a:Bool×(List Int)):Option (List UInt8):=
  br ((↑(List.length a.2):Int)==0)
   (some (Array.toList (ByteArray.data (ByteArray.mk #[48]))))
   (bnd (Jq a.2) fun y=>
    bnd (iter (fun s↦whole_Int_Text.cf_ s.1 s.2 some) ([],y.1)) fun y1=>
    bnd (whole_Int_Text.cR_ a.1 y1.1 some) fun y2=>
    bnd (jw y2) fun y3=>
    some (List.map (fun n↦UInt8.ofNat (Int.toNat n)) y3.1))
def whole_Int_Text.ce:=ceOf tab Tryz.f61 whole_Int_Text
def whole_Int_Text.G:EB Tryz.prog:=⟨tb,Tryz.f61,[],[0,1,2,3,4,5,6,7,11,17,22,47,63,76],[3,14],[],[(281925,whole_Int_Text.cR_r.ck),(100005,whole_Int_Text.cf_r.ck),(100016,whole_Int_Text.cI_r.ck),(16,whole_Int_Text.c16r.ck),(253253,whole_Int_Text.cu_r.ck),(100008,whole_Int_Text.cg_r.ck)],[⟨93,Jq.mc,Jq.ok⟩,⟨94,jw.mc,jw.ok⟩],[]⟩
theorem whole_Int_Text.ok:CalleeOk Tryz.prog 61 whole_Int_Text.ce:=fnB whole_Int_Text.G Tryz.func61 (m:=6) ⟨⟨⟨⟨⟨⟨trivial,kL whole_Int_Text.cf_r (by kernel_rfl)⟩,kL whole_Int_Text.cg_r (by kernel_rfl)⟩,kJ whole_Int_Text.cu_r (by kernel_rfl)⟩,kL whole_Int_Text.cI_r (by kernel_rfl)⟩,kR whole_Int_Text.c16r (by kernel_rfl)⟩,kJ whole_Int_Text.cR_r (by kernel_rfl)⟩ (by kernel_rfl)
abbrev sa67:SD:=.one (.own 6 0)
abbrev sa68:SD:=.one (.val (.sl (.st (.pair .bool (.sl (.int .u32))))))
abbrev sa69:SO:=.arr 0 false 9 .str
def jn.ch_ (last:Int)(t11:List (Bool×(List Int)))(t12:Int)(Z:Int→Option ρ):Option ρ:=
  bnd (idx t11 t12) fun y=>
  bnd (whole_Int_Sign (y.1,y.2)) fun y1=>
  br (y1 !=0)
   (Z t12)
   (Z last)
def jn.ch_s:Shape:=⟨[(0,sa23),(1,sa24),(2,sa65),(3,sa2),(11,sa27),(12,sa2)],[]⟩
def jn.ch_r:RC:=⟨jn.ch_s,[(jn.ch_s,0,[3,201])],no,[3,4,5],@jn.ch_,fun _ _ _ _ _=>jb fun _=>(jb fun _=>(jf jc jc))⟩
def jn.ca_ (last:Int)(t11:List (Bool×(List Int)))(t12:Int)(Z:((Int)×(Int))⊕((Int)×(Int))→Option ρ):Option ρ:=
  br (decide (t12<8))
   (bnd (jn.ch_ last t11 t12 some) fun y=>
    Z (.inl (y,(i64.wrap (t12+1)))))
   (Z (.inr (last,t12)))
def jn.ca_r:LC:=⟨jn.ch_s,[(jn.ch_s,2,[3,201,1,201])],no,[3,5],[3,4,5],@jn.ca_,fun _ _ _ _ _=>jf (jb fun _=>jc) jc⟩
def jn.cp_ (t24:List (Bool×(List Int)))(t25:Int)(t26:Int)(parts:List (List UInt8))(Z:((Int)×(List (List UInt8)))⊕((Int)×(List (List UInt8)))→Option ρ):Option ρ:=
  br (decide (t26<t25))
   (bnd (idx t24 t26) fun y=>
    bnd (whole_Int_Text (y.1,y.2)) fun y1=>
    bnd (okIf (decide ((parts.length+1)*16≤140737488355328)&&decide (parts.length+1≤140737488355328))) fun y2=>
    Z (.inl ((i64.wrap (t26+1)),(parts++[y1]))))
   (Z (.inr (t26,parts)))
def jn.cp_s:Shape:=(((((jn.ch_s.s 6 sa67).s 24 sa68).s 25 sa2).s 26 sa2).o 6 sa69)
def jn.cp_r:LC:=⟨jn.cp_s,[(jn.cp_s,4,[8,202])],no,[8,9],[6,7,8,9],@jn.cp_,fun _ _ _ _ _ _=>jf (jb fun _=>(jb fun _=>(jb fun _=>jc))) jc⟩
def jn.cH_ (a_1:YN)(text:List UInt8)(Z:List UInt8→Option ρ):Option ρ:=
  br (decide (a_1.2>0))
   (bnd (strconv_Itoa a_1.2) fun y=>
    bnd (okIf (decide (List.length (Array.toList (ByteArray.data (ByteArray.mk #[47])))+y.length≤9223372036854775807))) fun y1=>
    bnd (okIf (decide (text.length+List.length (Array.toList (ByteArray.data (ByteArray.mk #[47]))++y)≤9223372036854775807))) fun y2=>
    Z (text++(Array.toList (ByteArray.data (ByteArray.mk #[47]))++y)))
   (Z text)
def jn.cH_s:Shape:=(jn.cp_s.s 9 sa65)
def jn.cH_r:RC:=⟨jn.cH_s,[(jn.cH_s,0,[4,201])],no,[1,4],@jn.cH_,fun _ _ _ _=>jf (jb fun _=>(jb fun _=>(jb fun _=>jc))) jc⟩
def jn (a:YN):Option (List UInt8):=
  bnd (iter (fun s↦jn.ca_ s.1 a.1 s.2 some) ((0:Int),(0:Int))) fun y=>
  bnd (okIf (decide ((0:Int)≤i64.wrap (y.1+1))&&decide (i64.wrap (y.1+1)≤(↑(8:Nat):Int)))) fun y1=>
  bnd (iter (fun s↦jn.cp_ (List.take (Int.toNat (i64.wrap (y.1+1))) a.1) (↑(List.length (List.take (Int.toNat (i64.wrap (y.1+1))) a.1)):Int) s.1 s.2 some) ((0:Int),[])) fun y2=>
  bnd (strings_Join y2.2 (Array.toList (ByteArray.data (ByteArray.mk #[44])))) fun y3=>
  bnd (jn.cH_ a y3 some) fun y4=>
  some y4
def jn.ce:=ceOf tab Tryz.f26 jn
def jn.G:EB Tryz.prog:=⟨tb,Tryz.f26,[⟨60,whole_Int_Sign.ce,whole_Int_Sign.ok⟩,⟨61,whole_Int_Text.ce,whole_Int_Text.ok⟩,⟨62,strings_Join.ce,strings_Join.ok⟩,⟨63,strconv_Itoa.ce,strconv_Itoa.ok⟩],[0,1,2,3,4,5,6,8,9,11,12,13,18,24,25,26,27,40],[6,8000001],[],[(261445,jn.cH_r.ck),(100010,jn.cp_r.ck),(100003,jn.ca_r.ck),(216392,jn.ch_r.ck)],[],[]⟩
theorem jn.ok:CalleeOk Tryz.prog 26 jn.ce:=fnB jn.G Tryz.func26 (m:=4) ⟨⟨⟨⟨trivial,kL jn.ca_r (by kernel_rfl)⟩,kJ jn.ch_r (by kernel_rfl)⟩,kL jn.cp_r (by kernel_rfl)⟩,kJ jn.cH_r (by kernel_rfl)⟩ (by kernel_rfl)
abbrev sa70:SD:=.one (.val (.sl .str))
abbrev sa71:SD:=.one (.own 8 0)
def jH.pre:Shape:=⟨[(0,sa40)],[(2000000,sa28)]⟩
def jH.post:Shape:=⟨[(0,sa70)],[(2000000,sa28)]⟩
def jH.ca_ (t9lo:Int)(t9n:Int)(t10:Int)(t11:Int)(t8:List (List UInt8))(uf:List YN)(Z:((Int)×(List (List UInt8)))⊕((Int)×(List (List UInt8)))→Option ρ):Option ρ:=
  br (decide (t11<t10))
   (bnd (okIf (decide ((0:Ty.den (Ty.int IntKind.i64))≤t11)&&decide (t11<t9n))) fun y=>
    bnd (idx uf (t9lo+t11)) fun y1=>
    bnd (jn y1) fun y2=>
    bnd (inR (t8.length) t11) fun y3=>
    bnd (idx t8 t11) fun y4=>
    Z (.inl ((i64.wrap (t11+1)),(List.set t8 (Int.toNat t11) y2))))
   (Z (.inr (t11,t8)))
def jH.ca_s:Shape:=((((((jH.pre.s 2 sa70).s 3 sa71).s 9 sa40).s 10 sa2).s 11 sa2).o 8 sa69)
def jH.ca_r:LC:=⟨jH.ca_s,[(jH.ca_s,2,[6,202])],no,[6,7],[3,4,5,6,7,8],@jH.ca_,fun _ _ _ _ _ _ _ _=>jf (jb fun _=>(jb fun _=>(jb fun _=>(jb fun _=>(jb fun _=>jc))))) jc⟩
def jH (vlo:Int) (vn:Int) (uf:List YN):Option ((List (List UInt8))×(List YN)×Unit):=
  bnd (okIf (decide ((0:Int)≤(↑(List.length (part vlo vn uf)):Int))&&decide ((↑(List.length (part vlo vn uf)):Int)≤(↑(List.length (part vlo vn uf)):Int))&&decide ((↑(List.length (part vlo vn uf)):Int)*(↑(16:Nat):Int)≤140737488355328)&&decide ((↑(List.length (part vlo vn uf)):Int)≤140737488355328))) fun y=>
  bnd (iter (fun s↦jH.ca_ vlo vn (↑(List.length (part vlo vn uf)):Int) s.1 s.2 uf some) ((0:Int),List.replicate (Int.toNat (↑(List.length (part vlo vn uf)):Int)) [])) fun y1=>
  some (y1.2,uf,())
def jH.mc:MCallee:=⟨29,jH.pre,jH.post,fun X=>jH X.1 X.2.1 X.2.2.1⟩
def jH.G:EB Tryz.prog:=⟨tb,Tryz.f29,[⟨26,jn.ce,jn.ok⟩],[0,2,3,4,5,9,10,11,12],[5,8,2000000],[],[(100003,jH.ca_r.ck)],[],[]⟩
theorem jH.ok:MOk Tryz.prog 29 jH.mc:=fnM jH.G (mc:=jH.mc) Tryz.func29 (m:=1) ⟨trivial,kL jH.ca_r (by kernel_rfl)⟩ (by kernel_rfl)
def kf (code:Int) (t1:Int):Option ((Int)×(Int)):=
  some (code,t1)
def kf.ce:=ceOf tab Tryz.f35 kf
def kf.G:EB Tryz.prog:=⟨tb,Tryz.f35,[],[0,1,4],[],[],[],[],[]⟩
theorem kf.ok:CalleeOk Tryz.prog 35 kf.ce:=fnB kf.G Tryz.func35 (m:=0) trivial (by kernel_rfl)
def JZ.cc_ (l:List (Int))(x:Int)(i:Int)(Z:(Int)⊕((Int)⊕(Int))→Option ρ):Option ρ:=
  br (decide (i<(l.length:Int)))
   (bnd (idx l i) fun y=>
    br (y==x)
     (Z (.inr (.inl i)))
     (Z (.inl (i64.wrap (i+1)))))
   (Z (.inr (.inr i)))
def JZ.cc_s:Shape:=⟨[(0,sa0),(1,sa2),(4,sa11),(5,sa2)],[]⟩
def JZ.cc_r:LC:=⟨JZ.cc_s,[(JZ.cc_s,1,[2,400,201,301]),(JZ.cc_s,2,[3,201])],fun X=>(true,()),[3],[0,1,3],@JZ.cc_,fun _ _ _ _ _=>jf (jb fun _=>(jf jc jc)) jc⟩
def JZ (l:List (Int)) (x:Int):Option Bool:=
  bnd (iter (fun s↦JZ.cc_ l x s some) (0:Int)) fun y=>
  sel y
   (fun u=>some true)
   (fun v=>some false)
def JZ.ce:=ceOf tab Tryz.f54 JZ
def JZ.G:EB Tryz.prog:=⟨tb,Tryz.f54,[],[0,1,4,5,9,17],[],[],[(100002,JZ.cc_r.ck)],[],[]⟩
theorem JZ.ok:CalleeOk Tryz.prog 54 JZ.ce:=fnB JZ.G Tryz.func54 (m:=1) ⟨trivial,kL JZ.cc_r (by kernel_rfl)⟩ (by kernel_rfl)
def jj.c1 (o0:Int)(Z:Bool→Option ρ):Option ρ:=
  br (decide (o0<1))
   (Z true)
   (Z (decide (o0>6)))
def jj.c1s:Shape:=⟨[(0,sa12),(1,sa2),(2,sa2),(3,sa7),(6,sa2)],[(3,sa14)]⟩
def jj.c1x0:Shape:=(jj.c1s.s 17 sa11)
def jj.c1r:RC:=⟨jj.c1s,[(jj.c1x0,0,[4,101])],no,[4],@jj.c1,fun _ _ _=>jf jc jc⟩
def jj.c3 (o0:Int)(Z:Bool→Option ρ):Option ρ:=
  br (o0==1)
   (Z true)
   (Z (o0==4))
def jj.c3x0:Shape:=(jj.c1s.s 7 sa11)
def jj.c3r:RC:=⟨jj.c1s,[(jj.c3x0,0,[4,101])],no,[4],@jj.c3,fun _ _ _=>jf jc jc⟩
def jj.c4 (angle:Bool)(o1:Int)(Z:Bool→Option ρ):Option ρ:=
  br (decide (o1<0))
   (Z true)
   (br (decide (o1>15))
     (Z true)
     (br (decide (o1>0))
       (Z (!angle))
       (Z false)))
def jj.c4x0:Shape:=(jj.c3x0.s 42 sa11)
def jj.c4r:RC:=⟨jj.c3x0,[(jj.c4x0,0,[5,101])],no,[4,6],@jj.c4,fun _ _ _ _=>jf jc (jf jc (jf jc jc))⟩
def jj.c6 (qubits:Int)(o0:Int)(o3:Int)(Z:Bool→Option ρ):Option ρ:=
  br (decide (o3<0))
   (Z true)
   (br (decide (o3≥qubits))
     (Z true)
     (br (o0==1)
       (Z (decide (o3>0)))
       (Z false)))
def jj.c6x0:Shape:=(jj.c3x0.s 61 sa11)
def jj.c6r:RC:=⟨jj.c3x0,[(jj.c6x0,0,[5,101])],no,[1,5,8],@jj.c6,fun _ _ _ _ _=>jf jc (jf jc (jf jc jc))⟩
def jj.c8 (o0:Int)(o2:List (Int))(Z:Bool→Option ρ):Option ρ:=
  br (decide ((o2.length:Int)>0))
   (br (o0 !=2)
     (br (o0 !=3)
       (Z (o0 !=4))
       (Z false))
     (Z false))
   (Z false)
def jj.c8x0:Shape:=(jj.c3x0.s 80 sa11)
def jj.c8r:RC:=⟨jj.c3x0,[(jj.c8x0,0,[5,101])],no,[5,7],@jj.c8,fun _ _ _ _=>jf (jf (jf jc jc) jc) jc⟩
def jj.c13 (qubits:Int)(i:Int)(o2:List (Int))(Z:Bool→Option ρ):Option ρ:=
  bnd (idx o2 i) fun y=>
  br (decide (y<0))
   (Z true)
   (bnd (idx o2 i) fun y1=>
    Z (decide (y1≥qubits)))
def jj.c13s:Shape:=(jj.c3x0.s 8 sa2)
def jj.c13x0:Shape:=(jj.c13s.s 102 sa11)
def jj.c13r:RC:=⟨jj.c13s,[(jj.c13x0,0,[6,101])],no,[1,5,8],@jj.c13,fun _ _ _ _ _=>jb fun _=>(jf jc (jb fun _=>jc))⟩
def jj.c15 (i:Int)(o2:List (Int))(o3:Int)(Z:Bool→Option ρ):Option ρ:=
  bnd (idx o2 i) fun y=>
  br (y==o3)
   (Z true)
   (bnd (okIf (decide ((0:Int)≤i)&&decide (i≤(o2.length:Int)))) fun y1=>
    bnd (idx o2 i) fun y2=>
    bnd (JZ (List.take (Int.toNat i) o2) y2) fun y3=>
    Z y3)
def jj.c15x0:Shape:=(jj.c13s.s 122 sa11)
def jj.c15r:RC:=⟨jj.c13s,[(jj.c15x0,0,[6,101])],no,[5,8,9],@jj.c15,fun _ _ _ _ _=>jb fun _=>(jf jc (jb fun _=>(jb fun _=>(jb fun _=>jc))))⟩
def jj.cm_ (qubits:Int)(i:Int)(o2:List (Int))(o3:Int)(Z:(Int)⊕(((Int)×(Int))⊕(Int))→Option ρ):Option ρ:=
  br (decide (i<(o2.length:Int)))
   (bnd (jj.c13 qubits i o2 some) fun y=>
    br y
     (Z (.inr (.inl ((10:Int),i))))
     (bnd (jj.c15 i o2 o3 some) fun y1=>
      br y1
       (Z (.inr (.inl ((12:Int),i))))
       (Z (.inl (i64.wrap (i+1))))))
   (Z (.inr (.inr i)))
def jj.cm_r:LC:=⟨jj.c13s,[(jj.c13s,1,[3,201,1,201]),(jj.c13s,2,[5,201])],no,[5],[1,5,8,9],@jj.cm_,fun _ _ _ _ _ _=>jf (jb fun _=>(jf jc (jb fun _=>(jf jc jc)))) jc⟩
def jj.c18 (bits:Int)(o4:Int)(Z:Bool→Option ρ):Option ρ:=
  br (decide (o4<0))
   (Z true)
   (Z (decide (o4≥bits)))
def jj.c18x0:Shape:=(jj.c13s.s 134 sa11)
def jj.c18r:RC:=⟨jj.c13s,[(jj.c18x0,0,[6,101])],no,[2,10],@jj.c18,fun _ _ _ _=>jf jc jc⟩
def jj.cJ_ (bits:Int)(o0:Int)(o4:Int)(Z:(Unit)⊕(Unit)→Option ρ):Option ρ:=
  br (o0==5)
   (bnd (jj.c18 bits o4 some) fun y=>
    br y
     (Z (.inl ()))
     (Z (.inr ())))
   (br (o4 !=0)
     (Z (.inl ()))
     (Z (.inr ())))
def jj.cJ_r:RC:=⟨jj.c13s,[(jj.c13s,1,[3,400,301]),(jj.c13s,0,[])],fun X=>((13:Int),()),[2,6,10],@jj.cJ_,fun _ _ _ _ _=>jf (jb fun _=>(jf jc jc)) (jf jc jc)⟩
def jj.c27 (bits:Int)(i_1:Int)(o5:List (Int))(Z:Bool→Option ρ):Option ρ:=
  bnd (idx o5 i_1) fun y=>
  br (y==0)
   (Z true)
   (bnd (idx o5 i_1) fun y1=>
    br (decide (y1>bits))
     (Z true)
     (bnd (idx o5 i_1) fun y2=>
      Z (decide (y2<i64.wrap ((0:Int)-bits)))))
def jj.c27s:Shape:=(jj.c13s.s 9 sa2)
def jj.c27x0:Shape:=(jj.c27s.s 173 sa11)
def jj.c27r:RC:=⟨jj.c27s,[(jj.c27x0,0,[7,101])],no,[2,6,12],@jj.c27,fun _ _ _ _ _=>jb fun _=>(jf jc (jb fun _=>(jf jc (jb fun _=>jc))))⟩
def jj.cq_ (bits:Int)(i_1:Int)(o5:List (Int))(Z:(Int)⊕((Int)⊕(Int))→Option ρ):Option ρ:=
  br (decide (i_1<(o5.length:Int)))
   (bnd (jj.c27 bits i_1 o5 some) fun y=>
    br y
     (Z (.inr (.inl i_1)))
     (Z (.inl (i64.wrap (i_1+1)))))
   (Z (.inr (.inr i_1)))
def jj.cq_r:LC:=⟨jj.c27s,[(jj.c27s,1,[3,400,301,2,201]),(jj.c27s,4,[6,201])],fun X=>((14:Int),()),[6],[2,6,12],@jj.cq_,fun _ _ _ _ _=>jf (jb fun _=>(jf jc jc)) jc⟩
def jj (o:YO) (qubits:Int) (bits:Int):Option (Int):=
  bnd (jj.c1 o.1 some) fun y=>
  br y
   (some (8:Int))
   (bnd (jj.c3 o.1 some) fun y1=>
    bnd (jj.c4 y1 o.2.1 some) fun y2=>
    br y2
     (some (9:Int))
     (bnd (jj.c6 qubits o.1 o.2.2.2.1 some) fun y3=>
      br y3
       (some (10:Int))
       (bnd (jj.c8 o.1 o.2.2.1 some) fun y4=>
        br y4
         (some (11:Int))
         (bnd (iter (fun s↦jj.cm_ qubits s o.2.2.1 o.2.2.2.1 some) (0:Int)) fun y5=>
          sel y5
           (fun u=>some u.1)
           (fun v=>bnd (jj.cJ_ bits o.1 o.2.2.2.2.1 some) fun y6=>
            sel y6
             (fun u_1=>some (13:Int))
             (fun v_1=>br (decide ((↑(List.length o.2.2.2.2.2):Int)>24))
               (some (14:Int))
               (bnd (iter (fun s↦jj.cq_ bits s o.2.2.2.2.2 some) (0:Int)) fun y7=>
                sel y7
                 (fun u_2=>some (14:Int))
                 (fun v_2=>some (0:Int)))))))))
def jj.ce:=ceOf tab Tryz.f68 jj
def jj.G:EB Tryz.prog:=⟨tb,Tryz.f68,[⟨54,JZ.ce,JZ.ok⟩],[0,1,2,3,6,7,8,9,17,42,61,80,85,102,122,125,134,137,141,146,173],[],[(15,[])],[(100025,jj.cq_r.ck),(27,jj.c27r.ck),(269649,jj.cJ_r.ck),(18,jj.c18r.ck),(100011,jj.cm_r.ck),(15,jj.c15r.ck),(13,jj.c13r.ck),(8,jj.c8r.ck),(6,jj.c6r.ck),(4,jj.c4r.ck),(3,jj.c3r.ck),(1,jj.c1r.ck)],[],[]⟩
theorem jj.ok:CalleeOk Tryz.prog 68 jj.ce:=fnB jj.G Tryz.func68 (m:=12) ⟨⟨⟨⟨⟨⟨⟨⟨⟨⟨⟨⟨trivial,kR jj.c1r (by kernel_rfl)⟩,kR jj.c3r (by kernel_rfl)⟩,kR jj.c4r (by kernel_rfl)⟩,kR jj.c6r (by kernel_rfl)⟩,kR jj.c8r (by kernel_rfl)⟩,kL jj.cm_r (by kernel_rfl)⟩,kR jj.c13r (by kernel_rfl)⟩,kR jj.c15r (by kernel_rfl)⟩,kJ jj.cJ_r (by kernel_rfl)⟩,kR jj.c18r (by kernel_rfl)⟩,kL jj.cq_r (by kernel_rfl)⟩,kR jj.c27r (by kernel_rfl)⟩ (by kernel_rfl)
def jX.c1 (c0:Int)(Z:Bool→Option ρ):Option ρ:=
  br (decide (c0<1))
   (Z true)
   (Z (decide (c0>12)))
def jX.c1s:Shape:=⟨[(0,sa4),(1,sa5),(2,sa6)],[(1,sa8),(2,sa17)]⟩
def jX.c1x0:Shape:=(jX.c1s.s 12 sa11)
def jX.c1r:RC:=⟨jX.c1s,[(jX.c1x0,0,[1,101])],no,[1],@jX.c1,fun _ _ _=>jf jc jc⟩
def jX.c3 (c1:Int)(Z:Bool→Option ρ):Option ρ:=
  br (decide (c1<0))
   (Z true)
   (Z (decide (c1>12)))
def jX.c3x0:Shape:=(jX.c1s.s 21 sa11)
def jX.c3r:RC:=⟨jX.c1s,[(jX.c3x0,0,[1,101])],no,[2],@jX.c3,fun _ _ _=>jf jc jc⟩
def jX.c10 (i:Int)(c0:Int)(c1:Int)(c2:List YO)(Z:Int→Option ρ):Option ρ:=
  bnd (idx c2 i) fun y=>
  bnd (jj y c0 c1) fun y1=>
  Z y1
def jX.c10s:Shape:=(jX.c1s.s 3 sa2)
def jX.c10x0:Shape:=(jX.c10s.s 4 sa2)
def jX.c10r:RC:=⟨jX.c10s,[(jX.c10x0,0,[2,101])],no,[1,2,3,4],@jX.c10,fun _ _ _ _ _ _=>jb fun _=>(jb fun _=>jc)⟩
def jX.cg_ (i:Int)(c0:Int)(c1:Int)(c2:List YO)(Z:(Int)⊕(((Int)×(Int)×(Int))⊕(Int))→Option ρ):Option ρ:=
  br (decide (i<(c2.length:Int)))
   (bnd (jX.c10 i c0 c1 c2 some) fun y=>
    br (y !=0)
     (bnd (kf y i) fun y1=>
      Z (.inr (.inl (i,y1.1,y1.2))))
     (Z (.inl (i64.wrap (i+1)))))
   (Z (.inr (.inr i)))
def jX.cg_r:LC:=⟨jX.c10s,[(jX.c10s,1,[1,201,3,202]),(jX.c10s,2,[1,201])],no,[1],[1,2,3,4],@jX.cg_,fun _ _ _ _ _ _=>jf (jb fun _=>(jf (jb fun _=>jc) jc)) jc⟩
def jX (c:(Int)×((Int)×(List YO))):Option ((Int)×(Int)):=
  bnd (jX.c1 c.1 some) fun y=>
  br y
   (bnd (kf (6:Int) (0:Int)) fun y1=>
    some (y1.1,y1.2))
   (bnd (jX.c3 c.2.1 some) fun y2=>
    br y2
     (bnd (kf (7:Int) (0:Int)) fun y3=>
      some (y3.1,y3.2))
     (br (decide ((↑(List.length c.2.2):Int)>4096))
       (bnd (kf (2:Int) (0:Int)) fun y4=>
        some (y4.1,y4.2))
       (bnd (iter (fun s↦jX.cg_ s c.1 c.2.1 c.2.2 some) (0:Int)) fun y5=>
        sel y5
         (fun u=>some (u.2.1,u.2.2))
         (fun v=>some ((0:Int),(0:Int))))))
def jX.ce:=ceOf tab Tryz.f34 jX
def jX.G:EB Tryz.prog:=⟨tb,Tryz.f34,[⟨35,kf.ce,kf.ok⟩,⟨68,jj.ce,jj.ok⟩],[0,1,2,3,4,12,21,26,32,46],[],[(10,[])],[(100008,jX.cg_r.ck),(10,jX.c10r.ck),(3,jX.c3r.ck),(1,jX.c1r.ck)],[],[]⟩
theorem jX.ok:CalleeOk Tryz.prog 34 jX.ce:=fnB jX.G Tryz.func34 (m:=4) ⟨⟨⟨⟨trivial,kR jX.c1r (by kernel_rfl)⟩,kR jX.c3r (by kernel_rfl)⟩,kL jX.cg_r (by kernel_rfl)⟩,kR jX.c10r (by kernel_rfl)⟩ (by kernel_rfl)
abbrev sa72:SO:=.box [.val .bool,.val (.sl (.int .i64))]
def Jj.c2 (d:List (Int))(n:Int)(Z:Bool→Option ρ):Option ρ:=
  br (decide (n>0))
   (bnd (idx d (i64.wrap (n-1))) fun y=>
    Z (y==0))
   (Z false)
def Jj.c2s:Shape:=⟨[(0,sa11),(1,sa0),(4,sa20),(5,sa2)],[(4,sa72)]⟩
def Jj.c2x0:Shape:=(Jj.c2s.s 17 sa11)
def Jj.c2r:RC:=⟨Jj.c2s,[(Jj.c2x0,0,[3,101])],no,[1,2],@Jj.c2,fun _ _ _ _=>jf (jb fun _=>jc) jc⟩
def Jj.cc_ (d:List (Int))(n:Int)(Z:(Int)⊕(Int)→Option ρ):Option ρ:=
  bnd (Jj.c2 d n some) fun y=>
  br y
   (Z (.inl (i64.wrap (n-1))))
   (Z (.inr n))
def Jj.cc_r:LC:=⟨Jj.c2s,[(Jj.c2s,2,[2,201])],no,[2],[1,2],@Jj.cc_,fun _ _ _ _=>jb fun _=>(jf jc jc)⟩
def Jj (neg:Bool) (d:List (Int)):Option (Bool×(List Int)):=
  bnd (iter (fun s↦Jj.cc_ d s some) ↑(d.length)) fun y=>
  br (y==0)
   (some (false,[]))
   (bnd (okIf (decide ((0:Int)≤y)&&decide (y≤(d.length:Int)))) fun y1=>
    some (neg,List.take (Int.toNat y) d))
def Jj.ce:=ceOf tab Tryz.f74 Jj
def Jj.G:EB Tryz.prog:=⟨tb,Tryz.f74,[],[0,1,4,5,17,21],[],[],[(100002,Jj.cc_r.ck),(2,Jj.c2r.ck)],[],[]⟩
theorem Jj.ok:CalleeOk Tryz.prog 74 Jj.ce:=fnB Jj.G Tryz.func74 (m:=2) ⟨⟨trivial,kL Jj.cc_r (by kernel_rfl)⟩,kR Jj.c2r (by kernel_rfl)⟩ (by kernel_rfl)
def JW.ci_ (n:Int)(u:Int)(Z:Int→Option ρ):Option ρ:=
  br (decide (n<0))
   (Z (u64.wrap ((0:Int)-u)))
   (Z u)
def JW.ci_s:Shape:=⟨[(0,sa2),(2,sa6),(3,sa22)],[(2,sa72)]⟩
def JW.ci_r:RC:=⟨JW.ci_s,[(JW.ci_s,0,[1,201])],no,[0,1],@JW.ci_,fun _ _ _ _=>jf jc jc⟩
def JW.cf_ (u:Int)(d:List (Int))(Z:((Int)×(List Int))⊕((Int)×(List Int))→Option ρ):Option ρ:=
  br (decide (u>0))
   (bnd (okIf (decide ((d.length+1)*8≤140737488355328)&&decide (d.length+1≤140737488355328))) fun y=>
    Z (.inl ((u64.wrap (Int.tdiv u (10000:Int))),(d++[i64.wrap (Int.tmod u (10000:Int))]))))
   (Z (.inr (u,d)))
def JW.cf_s:Shape:=((JW.ci_s.s 4 sa44).o 4 sa3)
def JW.cf_r:LC:=⟨JW.cf_s,[(JW.cf_s,2,[1,201,2,201])],no,[1,4],[1,4],@JW.cf_,fun _ _ _ _=>jf (jb fun _=>jc) jc⟩
def JW (n:Int):Option (Bool×(List Int)):=
  bnd (JW.ci_ n (IntKind.wrap IntKind.u64 n) some) fun y=>
  bnd (iter (fun s↦JW.cf_ s.1 s.2 some) (y,[])) fun y1=>
  bnd (Jj (decide (n<0)) y1.2) fun y2=>
  some (y2.1,y2.2)
def JW.ce:=ceOf tab Tryz.f41 JW
def JW.G:EB Tryz.prog:=⟨tb,Tryz.f41,[⟨74,Jj.ce,Jj.ok⟩],[0,2,3,4,8,12],[4],[],[(100005,JW.cf_r.ck),(208197,JW.ci_r.ck)],[],[]⟩
theorem JW.ok:CalleeOk Tryz.prog 41 JW.ce:=fnB JW.G Tryz.func41 (m:=2) ⟨⟨trivial,kJ JW.ci_r (by kernel_rfl)⟩,kL JW.cf_r (by kernel_rfl)⟩ (by kernel_rfl)
def VJ (n:Bool×(List Int)):Option YN:=
  bnd (idx (List.replicate (8:Nat) (false,([]:List (Ty.den (Ty.int IntKind.i64))))) (0:Int)) fun y=>
  some (List.set (List.replicate (8:Nat) (false,([]:List (Ty.den (Ty.int IntKind.i64))))) (0:Nat) (n.1,n.2),(0:Int))
def VJ.ce:=ceOf tab Tryz.f69 VJ
def VJ.G:EB Tryz.prog:=⟨tb,Tryz.f69,[],[0,1,2,3],[2,3,4],[],[],[],[]⟩
theorem VJ.ok:CalleeOk Tryz.prog 69 VJ.ce:=fnB VJ.G Tryz.func69 (m:=0) trivial (by kernel_rfl)
def Vw (qubits:Int) (t1:Int):Option (List YN):=
  bnd (okIf (decide ((0:Int)≤qubits))) fun y=>
  bnd (okIf (decide ((0:Int)≤i64.wrap ((1:Int)*2^Min.min (Int.toNat qubits) (64:Nat)))&&decide (i64.wrap ((1:Int)*2^Min.min (Int.toNat qubits) (64:Nat))≤i64.wrap ((1:Int)*2^Min.min (Int.toNat qubits) (64:Nat)))&&decide (i64.wrap ((1:Int)*2^Min.min (Int.toNat qubits) (64:Nat))*(↑(264:Nat):Int)≤140737488355328)&&decide (i64.wrap ((1:Int)*2^Min.min (Int.toNat qubits) (64:Nat))≤140737488355328))) fun y1=>
  bnd (JW (1:Int)) fun y2=>
  bnd (VJ y2) fun y3=>
  bnd (inR (List.length (List.replicate (Int.toNat (i64.wrap ((1:Int)*2^Min.min (Int.toNat qubits) (64:Nat)))) (List.replicate (8:Nat) (false,([]:List (Ty.den (Ty.int IntKind.i64)))),(0:Int)))) t1) fun y4=>
  bnd (idx (List.replicate (Int.toNat (i64.wrap ((1:Int)*2^Min.min (Int.toNat qubits) (64:Nat)))) (List.replicate (8:Nat) (false,([]:List (Ty.den (Ty.int IntKind.i64)))),(0:Int))) t1) fun y5=>
  some (List.set (List.replicate (Int.toNat (i64.wrap ((1:Int)*2^Min.min (Int.toNat qubits) (64:Nat)))) (List.replicate (8:Nat) (false,([]:List (Ty.den (Ty.int IntKind.i64)))),(0:Int))) (Int.toNat t1) y3)
def Vw.ce:=ceOf tab Tryz.f36 Vw
def Vw.G:EB Tryz.prog:=⟨tb,Tryz.f36,[⟨41,JW.ce,JW.ok⟩,⟨69,VJ.ce,VJ.ok⟩],[0,1,4,5],[8],[],[],[],[]⟩
theorem Vw.ok:CalleeOk Tryz.prog 36 Vw.ce:=fnB Vw.G Tryz.func36 (m:=0) trivial (by kernel_rfl)
def jJ.c4 (bits:List (Int))(i:Int)(o5:List (Int))(Z:Bool→Option ρ):Option ρ:=
  bnd (idx o5 i) fun y=>
  br (decide (y>0))
   (bnd (idx o5 i) fun y1=>
    bnd (idx bits (i64.wrap (y1-1))) fun y2=>
    Z (y2 !=1))
   (Z false)
def jJ.c4s:Shape:=⟨[(0,sa12),(1,sa0),(2,sa6),(4,sa11),(5,sa2)],[(2,sa14)]⟩
def jJ.c4x0:Shape:=(jJ.c4s.s 30 sa11)
def jJ.c4r:RC:=⟨jJ.c4s,[(jJ.c4x0,0,[4,101])],no,[1,3,9],@jJ.c4,fun _ _ _ _ _=>jb fun _=>(jf (jb fun _=>(jb fun _=>jc)) jc)⟩
def jJ.c6 (bits:List (Int))(i:Int)(o5:List (Int))(Z:Bool→Option ρ):Option ρ:=
  bnd (idx o5 i) fun y=>
  br (decide (y<0))
   (bnd (idx o5 i) fun y1=>
    bnd (idx bits (i64.wrap (i64.wrap ((0:Int)-y1)-1))) fun y2=>
    Z (y2 !=0))
   (Z false)
def jJ.c6x0:Shape:=(jJ.c4s.s 49 sa11)
def jJ.c6r:RC:=⟨jJ.c4s,[(jJ.c6x0,0,[4,101])],no,[1,3,9],@jJ.c6,fun _ _ _ _ _=>jb fun _=>(jf (jb fun _=>(jb fun _=>jc)) jc)⟩
def jJ.cc_ (bits:List (Int))(i:Int)(o5:List (Int))(Z:(Int)⊕((Int)⊕(Int))→Option ρ):Option ρ:=
  br (decide (i<(o5.length:Int)))
   (bnd (jJ.c4 bits i o5 some) fun y=>
    br y
     (Z (.inr (.inl i)))
     (bnd (jJ.c6 bits i o5 some) fun y1=>
      br y1
       (Z (.inr (.inl i)))
       (Z (.inl (i64.wrap (i+1))))))
   (Z (.inr (.inr i)))
def jJ.cc_r:LC:=⟨jJ.c4s,[(jJ.c4s,1,[2,400,201,301]),(jJ.c4s,2,[3,201])],fun X=>(false,()),[3],[1,3,9],@jJ.cc_,fun _ _ _ _ _=>jf (jb fun _=>(jf jc (jb fun _=>(jf jc jc)))) jc⟩
def jJ (o:YO) (bits:List (Int)):Option Bool:=
  bnd (iter (fun s↦jJ.cc_ bits s o.2.2.2.2.2 some) (0:Int)) fun y=>
  sel y
   (fun u=>some false)
   (fun v=>some true)
def jJ.ce:=ceOf tab Tryz.f37 jJ
def jJ.G:EB Tryz.prog:=⟨tb,Tryz.f37,[],[0,1,2,4,5,10,30,49],[],[],[(100002,jJ.cc_r.ck),(6,jJ.c6r.ck),(4,jJ.c4r.ck)],[],[]⟩
theorem jJ.ok:CalleeOk Tryz.prog 37 jJ.ce:=fnB jJ.G Tryz.func37 (m:=3) ⟨⟨⟨trivial,kL jJ.cc_r (by kernel_rfl)⟩,kR jJ.c4r (by kernel_rfl)⟩,kR jJ.c6r (by kernel_rfl)⟩ (by kernel_rfl)
abbrev sa73:SD:=.one (.val (.st (.pair (.ar 8 (.st (.pair .bool (.sl (.int .i64))))) (.int .i64))))
abbrev sa74:SD:=.one (.fptr (.st (.pair (.ar 8 (.st (.pair .bool (.sl (.int .i64))))) (.int .i64))))
def Je.cc_ (a_1:YN)(i:Int)(Z:(Int)⊕((Int)⊕(Int))→Option ρ):Option ρ:=
  br (decide (i<8))
   (bnd (idx a_1.1 i) fun y=>
    br (decide ((↑(List.length y.2):Int)>0))
     (Z (.inr (.inl i)))
     (Z (.inl (i64.wrap (i+1)))))
   (Z (.inr (.inr i)))
def Je.cc_s:Shape:=⟨[(0,sa73),(1,sa74),(2,sa11),(3,sa2)],[]⟩
def Je.cc_r:LC:=⟨Je.cc_s,[(Je.cc_s,1,[2,400,201,301]),(Je.cc_s,2,[3,201])],fun X=>(false,()),[3],[1,3],@Je.cc_,fun _ _ _ _=>jf (jb fun _=>(jf jc jc)) jc⟩
def Je (a:YN):Option Bool:=
  bnd (iter (fun s↦Je.cc_ a s some) (0:Int)) fun y=>
  sel y
   (fun u=>some false)
   (fun v=>some true)
def Je.ce:=ceOf tab Tryz.f42 Je
def Je.G:EB Tryz.prog:=⟨tb,Tryz.f42,[],[0,1,2,3,5,14],[8000001],[],[(100002,Je.cc_r.ck)],[],[]⟩
theorem Je.ok:CalleeOk Tryz.prog 42 Je.ce:=fnB Je.G Tryz.func42 (m:=1) ⟨trivial,kL Je.cc_r (by kernel_rfl)⟩ (by kernel_rfl)
def kH (x:Int) (q:Int):Option (Int):=
  bnd (okIf (decide ((0:Int)≤q))) fun y=>
  some (ibits BinOp.and IntKind.i64 (Int.fdiv x ((2:Int)^Min.min (Int.toNat q) (64:Nat))) (1:Int))
def kH.ce:=ceOf tab Tryz.f55 kH
def kH.G:EB Tryz.prog:=⟨tb,Tryz.f55,[],[0,1,4],[],[],[],[],[]⟩
theorem kH.ok:CalleeOk Tryz.prog 55 kH.ce:=fnB kH.G Tryz.func55 (m:=0) trivial (by kernel_rfl)
def JY.cc_ (x:Int)(qs:List (Int))(i:Int)(Z:(Int)⊕((Int)⊕(Int))→Option ρ):Option ρ:=
  br (decide (i<(qs.length:Int)))
   (bnd (idx qs i) fun y=>
    bnd (kH x y) fun y1=>
    br (y1==0)
     (Z (.inr (.inl i)))
     (Z (.inl (i64.wrap (i+1)))))
   (Z (.inr (.inr i)))
def JY.cc_s:Shape:=⟨[(0,sa2),(1,sa0),(4,sa11),(5,sa2)],[]⟩
def JY.cc_r:LC:=⟨JY.cc_s,[(JY.cc_s,1,[2,400,201,301]),(JY.cc_s,2,[3,201])],fun X=>(false,()),[3],[0,1,3],@JY.cc_,fun _ _ _ _ _=>jf (jb fun _=>(jb fun _=>(jf jc jc))) jc⟩
def JY (x:Int) (qs:List (Int)):Option Bool:=
  bnd (iter (fun s↦JY.cc_ x qs s some) (0:Int)) fun y=>
  sel y
   (fun u=>some false)
   (fun v=>some true)
def JY.ce:=ceOf tab Tryz.f70 JY
def JY.G:EB Tryz.prog:=⟨tb,Tryz.f70,[⟨55,kH.ce,kH.ok⟩],[0,1,4,5,9,18],[],[],[(100002,JY.cc_r.ck)],[],[]⟩
theorem JY.ok:CalleeOk Tryz.prog 70 JY.ce:=fnB JY.G Tryz.func70 (m:=1) ⟨trivial,kL JY.cc_r (by kernel_rfl)⟩ (by kernel_rfl)
abbrev sa75:SD:=.one (.val (.st (.pair .bool (.sl (.int .i64)))))
abbrev sa76:SD:=.one (.own 17 0)
def jT.c7 (c:Int)(j:Int)(b1:List (Int))(Z:Bool→Option ρ):Option ρ:=
  br (decide (j<(b1.length:Int)))
   (Z true)
   (Z (decide (c>0)))
def jT.c7s:Shape:=⟨[(0,sa75),(1,sa75),(2,sa6),(3,sa7),(4,sa20),(5,sa76),(6,sa2),(7,sa2),(8,sa2)],[(2,sa72),(3,sa72),(4,sa72),(17,sa3)]⟩
def jT.c7x0:Shape:=(jT.c7s.s 33 sa11)
def jT.c7r:RC:=⟨jT.c7s,[(jT.c7x0,0,[5,101])],no,[3,4,8],@jT.c7,fun _ _ _ _ _=>jf jc jc⟩
def jT.c11 (i:Int)(c:Int)(j:Int)(a1:List (Int))(b1:List (Int))(Z:Int→Option ρ):Option ρ:=
  bnd (idx a1 i) fun y=>
  bnd (idx b1 j) fun y1=>
  Z (i64.wrap (c+i64.wrap (y*y1)))
def jT.c11r:RC:=⟨jT.c7s,[(jT.c7s,0,[3,201])],no,[2,3,4,6,8],@jT.c11,fun _ _ _ _ _ _ _=>jb fun _=>(jb fun _=>jc)⟩
def jT.cr_ (i:Int)(c:Int)(j:Int)(a1:List (Int))(b1:List (Int))(Z:Int→Option ρ):Option ρ:=
  br (decide (j<(b1.length:Int)))
   (bnd (jT.c11 i c j a1 b1 some) fun y=>
    Z y)
   (Z c)
def jT.cr_r:RC:=⟨jT.c7s,[(jT.c7s,0,[3,201])],no,[2,3,4,6,8],@jT.cr_,fun _ _ _ _ _ _ _=>jf (jb fun _=>jc) jc⟩
def jT.ce_ (i:Int)(c:Int)(j:Int)(a1:List (Int))(b1:List (Int))(t17:List (Int))(Z:((Int)×(Int)×(List Int))⊕((Int)×(Int)×(List Int))→Option ρ):Option ρ:=
  bnd (jT.c7 c j b1 some) fun y=>
  br y
   (bnd (inR (t17.length) (i64.wrap (i+j))) fun y1=>
    bnd (idx t17 (i64.wrap (i+j))) fun y2=>
    bnd (jT.cr_ i (i64.wrap (c+y2)) j a1 b1 some) fun y3=>
    bnd (inR (t17.length) (i64.wrap (i+j))) fun y4=>
    bnd (idx t17 (i64.wrap (i+j))) fun y5=>
    Z (.inl ((i64.wrap (Int.tdiv y3 (10000:Int))),(i64.wrap (j+1)),(List.set t17 (Int.toNat (i64.wrap (i+j))) (Int.tmod y3 (10000:Int))))))
   (Z (.inr (c,j,t17)))
def jT.ce_r:LC:=⟨jT.c7s,[(jT.c7s,4,[3,202,6,201])],no,[3,4,11],[2,3,4,6,8,11],@jT.ce_,fun _ _ _ _ _ _ _ _=>jb fun _=>(jf (jb fun _=>(jb fun _=>(jb fun _=>(jb fun _=>(jb fun _=>jc))))) jc)⟩
def jT.ca_ (i:Int)(a1:List (Int))(b1:List (Int))(t17:List (Int))(Z:((Int)×(List Int))⊕((Int)×(List Int))→Option ρ):Option ρ:=
  br (decide (i<(a1.length:Int)))
   (bnd (iter (fun s↦jT.ce_ i s.1 s.2.1 a1 b1 s.2.2 some) ((0:Int),(0:Int),t17)) fun y=>
    Z (.inl ((i64.wrap (i+1)),y.2.2)))
   (Z (.inr (i,t17)))
def jT.ca_s:Shape:=((jT.c7s.d 7).d 8)
def jT.ca_r:LC:=⟨jT.ca_s,[(jT.ca_s,2,[2,201,6,201])],no,[2,9],[2,4,6,9],@jT.ca_,fun _ _ _ _ _ _=>jf (jb fun _=>jc) jc⟩
def jT (a:Bool×(List Int)) (b:Bool×(List Int)):Option (Bool×(List Int)):=
  bnd (okIf (decide ((0:Int)≤i64.wrap (i64.wrap ((↑(List.length a.2):Int)+(↑(List.length b.2):Int))+1))&&decide (i64.wrap (i64.wrap ((↑(List.length a.2):Int)+(↑(List.length b.2):Int))+1)≤i64.wrap (i64.wrap ((↑(List.length a.2):Int)+(↑(List.length b.2):Int))+1))&&decide (i64.wrap (i64.wrap ((↑(List.length a.2):Int)+(↑(List.length b.2):Int))+1)*(↑(8:Nat):Int)≤140737488355328)&&decide (i64.wrap (i64.wrap ((↑(List.length a.2):Int)+(↑(List.length b.2):Int))+1)≤140737488355328))) fun y=>
  bnd (iter (fun s↦jT.ca_ s.1 a.2 b.2 s.2 some) ((0:Int),List.replicate (Int.toNat (i64.wrap (i64.wrap ((↑(List.length a.2):Int)+(↑(List.length b.2):Int))+1))) (0:Int))) fun y1=>
  bnd (Jj (!a.1==b.1) y1.2) fun y2=>
  some (y2.1,y2.2)
def jT.ce:=ceOf tab Tryz.f84 jT
def jT.G:EB Tryz.prog:=⟨tb,Tryz.f84,[⟨74,Jj.ce,Jj.ok⟩],[0,1,2,3,4,5,6,7,8,22,33,48],[17],[(11,[])],[(100003,jT.ca_r.ck),(100007,jT.ce_r.ck),(240965,jT.cr_r.ck),(11,jT.c11r.ck),(7,jT.c7r.ck)],[],[]⟩
theorem jT.ok:CalleeOk Tryz.prog 84 jT.ce:=fnB jT.G Tryz.func84 (m:=5) ⟨⟨⟨⟨⟨trivial,kL jT.ca_r (by kernel_rfl)⟩,kL jT.ce_r (by kernel_rfl)⟩,kR jT.c7r (by kernel_rfl)⟩,kJ jT.cr_r (by kernel_rfl)⟩,kR jT.c11r (by kernel_rfl)⟩ (by kernel_rfl)
def JP.cn_ (n:Int)(out0:Bool)(out1:List (Int))(t40:Bool)(t41:List (Int))(Z:Bool×(List Int)→Option ρ):Option ρ:=
  br (Int.tmod n (2:Int)==1)
   (bnd (jT (out0,out1) (t40,t41)) fun y=>
    Z (y.1,y.2))
   (Z (out0,out1))
def JP.cn_s:Shape:=⟨[(0,sa2),(2,sa6),(3,sa7),(4,sa20)],[(2,sa72),(3,sa72),(4,sa72)]⟩
def JP.cn_r:RC:=⟨JP.cn_s,[(JP.cn_s,0,[3,202])],no,[0,3,4,5,6],@JP.cn_,fun _ _ _ _ _ _ _=>jf (jb fun _=>jc) jc⟩
def JP.ca_ (n:Int)(out0:Bool)(out1:List (Int))(t40:Bool)(t41:List (Int))(Z:((Int)×Bool×(List Int)×Bool×(List Int))⊕((Int)×Bool×(List Int)×Bool×(List Int))→Option ρ):Option ρ:=
  br (decide (n>0))
   (bnd (JP.cn_ n out0 out1 t40 t41 some) fun y=>
    bnd (jT (t40,t41) (t40,t41)) fun y1=>
    Z (.inl ((i64.wrap (Int.tdiv n (2:Int))),y.1,y.2,y1.1,y1.2)))
   (Z (.inr (n,out0,out1,t40,t41)))
def JP.ca_r:LC:=⟨JP.cn_s,[(JP.cn_s,2,[201,2,204])],no,[0,3,4,5,6],[0,3,4,5,6],@JP.ca_,fun _ _ _ _ _ _ _=>jf (jb fun _=>(jb fun _=>jc)) jc⟩
def JP (n:Int):Option (Bool×(List Int)):=
  bnd (JW (1:Int)) fun y=>
  bnd (JW (2:Int)) fun y1=>
  bnd (iter (fun s↦JP.ca_ s.1 s.2.1 s.2.2.1 s.2.2.2.1 s.2.2.2.2 some) (n,y.1,y.2,y1.1,y1.2)) fun y2=>
  some (y2.2.1,y2.2.2.1)
def JP.ce:=ceOf tab Tryz.f104 JP
def JP.G:EB Tryz.prog:=⟨tb,Tryz.f104,[⟨41,JW.ce,JW.ok⟩,⟨84,jT.ce,jT.ok⟩],[0,2,3,4,8,11],[],[],[(100003,JP.ca_r.ck),(216389,JP.cn_r.ck)],[],[]⟩
theorem JP.ok:CalleeOk Tryz.prog 104 JP.ce:=fnB JP.G Tryz.func104 (m:=2) ⟨⟨trivial,kL JP.ca_r (by kernel_rfl)⟩,kJ JP.cn_r (by kernel_rfl)⟩ (by kernel_rfl)
abbrev sa77:SO:=.arr 0 false 48 (.st (.pair (.ar 8 (.st (.pair .bool (.sl (.int .i64))))) (.int .i64)))
def JS.c6 (i:Int)(a_1:List YN)(t50:Bool)(t51:List (Int))(Z:List YN→Option ρ):Option ρ:=
  bnd (inR (a_1.length) (0:Int)) fun y=>
  bnd (okIf (decide ((0:Ty.den (Ty.int IntKind.i64))≤i)&&decide (i<(↑(8:Nat):Int)))) fun y1=>
  bnd (idx a_1 (0:Int)) fun y2=>
  bnd (idx y2.1 i) fun y3=>
  bnd (jT y3 (t50,t51)) fun y4=>
  bnd (inR (a_1.length) (0:Int)) fun y5=>
  bnd (okIf (decide ((0:Ty.den (Ty.int IntKind.i64))≤i)&&decide (i<(↑(8:Nat):Int)))) fun y6=>
  bnd (idx a_1 (0:Int)) fun y7=>
  bnd (idx y7.1 i) fun y8=>
  Z (List.set a_1 (0:Nat) (List.set y7.1 (Int.toNat i) y4,y7.2))
def JS.c6s:Shape:=⟨[(0,sa73),(1,sa2),(2,sa54),(4,sa25),(5,sa34),(6,sa2)],[(2,sa77),(4,sa77),(5,sa72)]⟩
def JS.c6r:RC:=⟨JS.c6s,[(JS.c6s,0,[3,201])],no,[2,3,5,6],@JS.c6,fun _ _ _ _ _ _=>jb fun _=>(jb fun _=>(jb fun _=>(jb fun _=>(jb fun _=>(jb fun _=>(jb fun _=>(jb fun _=>(jb fun _=>jc))))))))⟩
def JS.cb_ (i:Int)(a_1:List YN)(t50:Bool)(t51:List (Int))(Z:((Int)×(List YN))⊕((Int)×(List YN))→Option ρ):Option ρ:=
  br (decide (i<8))
   (bnd (JS.c6 i a_1 t50 t51 some) fun y=>
    Z (.inl ((i64.wrap (i+1)),y)))
   (Z (.inr (i,a_1)))
def JS.cb_r:LC:=⟨JS.c6s,[(JS.c6s,2,[2,202])],no,[2,3],[2,3,5,6],@JS.cb_,fun _ _ _ _ _ _=>jf (jb fun _=>jc) jc⟩
def JS.cG_ (e:Int)(a_1:List YN)(Z:List YN→Option ρ):Option ρ:=
  bnd (inR (a_1.length) (0:Int)) fun y=>
  bnd (idx a_1 (0:Int)) fun y1=>
  br (decide (y1.2<e))
   (bnd (inR (a_1.length) (0:Int)) fun y2=>
    bnd (idx a_1 (0:Int)) fun y3=>
    bnd (JP (i64.wrap (e-y3.2))) fun y4=>
    bnd (iter (fun s↦JS.cb_ s.1 s.2 y4.1 y4.2 some) ((0:Int),a_1)) fun y5=>
    bnd (inR (List.length y5.2) (0:Int)) fun y6=>
    bnd (idx y5.2 (0:Int)) fun y7=>
    Z (List.set y5.2 (0:Nat) (y7.1,e)))
   (Z a_1)
def JS.cG_s:Shape:=(((JS.c6s.d 5).d 6).g 5)
def JS.cG_r:RC:=⟨JS.cG_s,[(JS.cG_s,0,[2,201])],no,[1,2],@JS.cG_,fun _ _ _ _=>jb fun _=>(jb fun _=>(jf (jb fun _=>(jb fun _=>(jb fun _=>(jb fun _=>(jb fun _=>(jb fun _=>jc)))))) jc))⟩
def JS (a:YN) (e:Int):Option YN:=
  bnd (JS.cG_ e [a] some) fun y=>
  bnd (idx y (0:Int)) fun y1=>
  some y1
def JS.ce:=ceOf tab Tryz.f75 JS
def JS.G:EB Tryz.prog:=⟨tb,Tryz.f75,[⟨104,JP.ce,JP.ok⟩,⟨84,jT.ce,jT.ok⟩],[0,1,2,4,5,6,10,17],[2,4],[(6,[(9,[2])])],[(204118,JS.cG_r.ck),(100004,JS.cb_r.ck),(6,JS.c6r.ck)],[],[]⟩
theorem JS.ok:CalleeOk Tryz.prog 75 JS.ce:=fnB JS.G Tryz.func75 (m:=3) ⟨⟨⟨trivial,kJ JS.cG_r (by kernel_rfl)⟩,kL JS.cb_r (by kernel_rfl)⟩,kR JS.c6r (by kernel_rfl)⟩ (by kernel_rfl)
abbrev sa78:SD:=.one (.own 5 0)
def Jm.c4 (a:List (Int))(b:List (Int))(c:Int)(i:Int)(Z:Bool→Option ρ):Option ρ:=
  br (decide (i<(a.length:Int)))
   (Z true)
   (br (decide (i<(b.length:Int)))
     (Z true)
     (Z (decide (c>0))))
def Jm.c4s:Shape:=⟨[(0,sa0),(1,sa0),(4,sa0),(5,sa78),(6,sa2),(7,sa2)],[(5,sa3)]⟩
def Jm.c4x0:Shape:=(Jm.c4s.s 21 sa11)
def Jm.c4r:RC:=⟨Jm.c4s,[(Jm.c4x0,0,[5,101])],no,[0,1,3,4],@Jm.c4,fun _ _ _ _ _ _=>jf jc (jf jc jc)⟩
def Jm.cs_ (a:List (Int))(c:Int)(i:Int)(Z:Int→Option ρ):Option ρ:=
  br (decide (i<(a.length:Int)))
   (bnd (idx a i) fun y=>
    Z (i64.wrap (c+y)))
   (Z c)
def Jm.cs_r:RC:=⟨Jm.c4s,[(Jm.c4s,0,[3,201])],no,[0,3,4],@Jm.cs_,fun _ _ _ _ _=>jf (jb fun _=>jc) jc⟩
def Jm.cM_ (b:List (Int))(c:Int)(i:Int)(Z:Int→Option ρ):Option ρ:=
  br (decide (i<(b.length:Int)))
   (bnd (idx b i) fun y=>
    Z (i64.wrap (c+y)))
   (Z c)
def Jm.cM_r:RC:=⟨Jm.c4s,[(Jm.c4s,0,[3,201])],no,[1,3,4],@Jm.cM_,fun _ _ _ _ _=>jf (jb fun _=>jc) jc⟩
def Jm.cb_ (a:List (Int))(b:List (Int))(c:Int)(i:Int)(out:List (Int))(Z:((Int)×(Int)×(List Int))⊕((Int)×(Int)×(List Int))→Option ρ):Option ρ:=
  bnd (Jm.c4 a b c i some) fun y=>
  br y
   (bnd (Jm.cs_ a c i some) fun y1=>
    bnd (Jm.cM_ b y1 i some) fun y2=>
    bnd (okIf (decide ((out.length+1)*8≤140737488355328)&&decide (out.length+1≤140737488355328))) fun y3=>
    Z (.inl ((i64.wrap (Int.tdiv y2 (10000:Int))),(i64.wrap (i+1)),(out++[Int.tmod y2 (10000:Int)]))))
   (Z (.inr (c,i,out)))
def Jm.cb_r:LC:=⟨Jm.c4s,[(Jm.c4s,2,[3,203])],no,[3,4,5],[0,1,3,4,5],@Jm.cb_,fun _ _ _ _ _ _ _=>jb fun _=>(jf (jb fun _=>(jb fun _=>(jb fun _=>jc))) jc)⟩
def Jm (a:List (Int)) (b:List (Int)):Option (List Int):=
  bnd (iter (fun s↦Jm.cb_ a b s.1 s.2.1 s.2.2 some) ((0:Int),(0:Int),[])) fun y=>
  some y.2.2
def Jm.ce:=ceOf tab Tryz.f105 Jm
def Jm.G:EB Tryz.prog:=⟨tb,Tryz.f105,[],[0,1,4,5,6,7,21,27,37],[5],[],[(100004,Jm.cb_r.ck),(232773,Jm.cM_r.ck),(224581,Jm.cs_r.ck),(4,Jm.c4r.ck)],[],[]⟩
theorem Jm.ok:CalleeOk Tryz.prog 105 Jm.ce:=fnB Jm.G Tryz.func105 (m:=4) ⟨⟨⟨⟨trivial,kL Jm.cb_r (by kernel_rfl)⟩,kR Jm.c4r (by kernel_rfl)⟩,kJ Jm.cs_r (by kernel_rfl)⟩,kJ Jm.cM_r (by kernel_rfl)⟩ (by kernel_rfl)
def Jx.c8 (a:List (Int))(b:List (Int))(i:Int)(Z:Bool→Option ρ):Option ρ:=
  bnd (idx a i) fun y=>
  bnd (idx b i) fun y1=>
  Z (decide (y<y1))
def Jx.c8s:Shape:=⟨[(0,sa0),(1,sa0),(4,sa2),(5,sa2)],[]⟩
def Jx.c8x0:Shape:=(Jx.c8s.s 31 sa11)
def Jx.c8r:RC:=⟨Jx.c8s,[(Jx.c8x0,0,[4,101])],no,[0,1,3],@Jx.c8,fun _ _ _ _ _=>jb fun _=>(jb fun _=>jc)⟩
def Jx.c10 (a:List (Int))(b:List (Int))(i:Int)(Z:Bool→Option ρ):Option ρ:=
  bnd (idx a i) fun y=>
  bnd (idx b i) fun y1=>
  Z (decide (y>y1))
def Jx.c10x0:Shape:=(Jx.c8s.s 40 sa11)
def Jx.c10r:RC:=⟨Jx.c8s,[(Jx.c10x0,0,[4,101])],no,[0,1,3],@Jx.c10,fun _ _ _ _ _=>jb fun _=>(jb fun _=>jc)⟩
def Jx.cl_ (a:List (Int))(b:List (Int))(i:Int)(Z:(Int)⊕(((Int)×(Int))⊕(Int))→Option ρ):Option ρ:=
  br (decide (i≥0))
   (bnd (Jx.c8 a b i some) fun y=>
    br y
     (Z (.inr (.inl ((-1:Int),i))))
     (bnd (Jx.c10 a b i some) fun y1=>
      br y1
       (Z (.inr (.inl ((1:Int),i))))
       (Z (.inl (i64.wrap (i-1))))))
   (Z (.inr (.inr i)))
def Jx.cl_r:LC:=⟨Jx.c8s,[(Jx.c8s,1,[2,202]),(Jx.c8s,2,[3,201])],no,[3],[0,1,3],@Jx.cl_,fun _ _ _ _ _=>jf (jb fun _=>(jf jc (jb fun _=>(jf jc jc)))) jc⟩
def Jx (a:List (Int)) (b:List (Int)):Option (Int):=
  br ((a.length:Int) !=(b.length:Int))
   (br (decide ((a.length:Int)<(b.length:Int)))
     (some (-1:Int))
     (some (1:Int)))
   (bnd (iter (fun s↦Jx.cl_ a b s some) (i64.wrap ((a.length:Int)-1))) fun y=>
    sel y
     (fun u=>some u.1)
     (fun v=>some (0:Int)))
def Jx.ce:=ceOf tab Tryz.f106 Jx
def Jx.G:EB Tryz.prog:=⟨tb,Tryz.f106,[],[0,1,4,5,10,15,20,31,40],[],[(10,[]),(8,[])],[(100006,Jx.cl_r.ck),(10,Jx.c10r.ck),(8,Jx.c8r.ck)],[],[]⟩
theorem Jx.ok:CalleeOk Tryz.prog 106 Jx.ce:=fnB Jx.G Tryz.func106 (m:=3) ⟨⟨⟨trivial,kL Jx.cl_r (by kernel_rfl)⟩,kR Jx.c8r (by kernel_rfl)⟩,kR Jx.c10r (by kernel_rfl)⟩ (by kernel_rfl)
def JE.ck_ (b:List (Int))(i:Int)(x:Int)(Z:Int→Option ρ):Option ρ:=
  br (decide (i<(b.length:Int)))
   (bnd (idx b i) fun y=>
    Z (i64.wrap (x-y)))
   (Z x)
def JE.ck_s:Shape:=⟨[(0,sa0),(1,sa0),(4,sa0),(5,sa78),(6,sa2),(7,sa2),(8,sa2)],[(5,sa3)]⟩
def JE.ck_r:RC:=⟨JE.ck_s,[(JE.ck_s,0,[5,201])],no,[1,4,5],@JE.ck_,fun _ _ _ _ _=>jf (jb fun _=>jc) jc⟩
def JE.cN_ (c:Int)(x:Int)(Z:(Int)×(Int)→Option ρ):Option ρ:=
  br (decide (x<0))
   (Z ((1:Int),(i64.wrap (x+10000))))
   (Z (c,x))
def JE.cN_r:RC:=⟨JE.ck_s,[(JE.ck_s,0,[3,201,1,201])],no,[3,5],@JE.cN_,fun _ _ _ _=>jf jc jc⟩
def JE.cb_ (a:List (Int))(b:List (Int))(c:Int)(i:Int)(out:List (Int))(Z:((Int)×(Int)×(List Int))⊕((Int)×(Int)×(List Int))→Option ρ):Option ρ:=
  br (decide (i<(a.length:Int)))
   (bnd (idx a i) fun y=>
    bnd (JE.ck_ b i (i64.wrap (y-c)) some) fun y1=>
    bnd (JE.cN_ (0:Int) y1 some) fun y2=>
    bnd (okIf (decide ((out.length+1)*8≤140737488355328)&&decide (out.length+1≤140737488355328))) fun y3=>
    Z (.inl (y2.1,(i64.wrap (i+1)),(out++[y2.2]))))
   (Z (.inr (c,i,out)))
def JE.cb_s:Shape:=(JE.ck_s.d 8)
def JE.cb_r:LC:=⟨JE.cb_s,[(JE.cb_s,2,[3,203])],no,[3,4,5],[0,1,3,4,5],@JE.cb_,fun _ _ _ _ _ _ _=>jf (jb fun _=>(jb fun _=>(jb fun _=>(jb fun _=>jc)))) jc⟩
def JE (a:List (Int)) (b:List (Int)):Option (List Int):=
  bnd (iter (fun s↦JE.cb_ a b s.1 s.2.1 s.2.2 some) ((0:Int),(0:Int),[])) fun y=>
  some y.2.2
def JE.ce:=ceOf tab Tryz.f107 JE
def JE.G:EB Tryz.prog:=⟨tb,Tryz.f107,[],[0,1,4,5,6,7,8,12,24,32],[5],[],[(100004,JE.cb_r.ck),(240967,JE.cN_r.ck),(228677,JE.ck_r.ck)],[],[]⟩
theorem JE.ok:CalleeOk Tryz.prog 107 JE.ce:=fnB JE.G Tryz.func107 (m:=3) ⟨⟨⟨trivial,kL JE.cb_r (by kernel_rfl)⟩,kJ JE.ck_r (by kernel_rfl)⟩,kJ JE.cN_r (by kernel_rfl)⟩ (by kernel_rfl)
def JD.c6 (a0:Bool)(a1:List (Int))(b1:List (Int))(Z:Bool×(List Int)→Option ρ):Option ρ:=
  bnd (Jm a1 b1) fun y=>
  bnd (Jj a0 y) fun y1=>
  Z (y1.1,y1.2)
def JD.c6s:Shape:=⟨[(0,sa75),(1,sa75),(2,sa6),(3,sa7),(4,sa20)],[(2,sa72),(3,sa72),(4,sa72)]⟩
def JD.c6r:RC:=⟨JD.c6s,[(JD.c6s,0,[6,202])],no,[2,3,5],@JD.c6,fun _ _ _ _ _=>jb fun _=>(jb fun _=>jc)⟩
def JD.c8 (a0:Bool)(a1:List (Int))(b1:List (Int))(Z:Bool×(List Int)→Option ρ):Option ρ:=
  bnd (JE a1 b1) fun y=>
  bnd (Jj a0 y) fun y1=>
  Z (y1.1,y1.2)
def JD.c8r:RC:=⟨JD.c6s,[(JD.c6s,0,[6,202])],no,[2,3,5],@JD.c8,fun _ _ _ _ _=>jb fun _=>(jb fun _=>jc)⟩
def JD.c9 (a1:List (Int))(b0:Bool)(b1:List (Int))(Z:Bool×(List Int)→Option ρ):Option ρ:=
  bnd (JE b1 a1) fun y=>
  bnd (Jj b0 y) fun y1=>
  Z (y1.1,y1.2)
def JD.c9r:RC:=⟨JD.c6s,[(JD.c6s,0,[6,202])],no,[3,4,5],@JD.c9,fun _ _ _ _ _=>jb fun _=>(jb fun _=>jc)⟩
def JD (a:Bool×(List Int)) (b:Bool×(List Int)):Option (Bool×(List Int)):=
  br ((↑(List.length a.2):Int)==0)
   (some (b.1,b.2))
   (br ((↑(List.length b.2):Int)==0)
     (some (a.1,a.2))
     (br (a.1==b.1)
       (bnd (JD.c6 a.1 a.2 b.2 some) fun y=>
        some (y.1,y.2))
       (bnd (Jx a.2 b.2) fun y1=>
        br (decide (y1≥0))
         (bnd (JD.c8 a.1 a.2 b.2 some) fun y2=>
          some (y2.1,y2.2))
         (bnd (JD.c9 a.2 b.1 b.2 some) fun y3=>
          some (y3.1,y3.2)))))
def JD.ce:=ceOf tab Tryz.f76 JD
def JD.G:EB Tryz.prog:=⟨tb,Tryz.f76,[⟨105,Jm.ce,Jm.ok⟩,⟨74,Jj.ce,Jj.ok⟩,⟨106,Jx.ce,Jx.ok⟩,⟨107,JE.ce,JE.ok⟩],[0,1,2,3,4,8,13,19,33],[],[(9,[(8,[4])]),(8,[(8,[4])]),(6,[(8,[4])])],[(9,JD.c9r.ck),(8,JD.c8r.ck),(6,JD.c6r.ck)],[],[]⟩
theorem JD.ok:CalleeOk Tryz.prog 76 JD.ce:=fnB JD.G Tryz.func76 (m:=3) ⟨⟨⟨trivial,kR JD.c6r (by kernel_rfl)⟩,kR JD.c8r (by kernel_rfl)⟩,kR JD.c9r (by kernel_rfl)⟩ (by kernel_rfl)
def kX.c1 (a1:List (Int))(Z:Bool→Option ρ):Option ρ:=
  br (decide ((a1.length:Int)>0))
   (bnd (idx a1 (0:Int)) fun y=>
    Z (Int.tmod y (2:Int)==1))
   (Z false)
def kX.c1s:Shape:=⟨[(0,sa75),(1,sa5),(2,sa11)],[(1,sa72)]⟩
def kX.c1r:RC:=⟨kX.c1s,[(kX.c1s,0,[1,201])],no,[3],@kX.c1,fun _ _ _=>jf (jb fun _=>jc) jc⟩
def kX (a:Bool×(List Int)):Option Bool:=
  bnd (kX.c1 a.2 some) fun y=>
  some y
def kX.ce:=ceOf tab Tryz.f108 kX
def kX.G:EB Tryz.prog:=⟨tb,Tryz.f108,[],[0,1,2],[],[],[(1,kX.c1r.ck)],[],[]⟩
theorem kX.ok:CalleeOk Tryz.prog 108 kX.ce:=fnB kX.G Tryz.func108 (m:=1) ⟨trivial,kR kX.c1r (by kernel_rfl)⟩ (by kernel_rfl)
abbrev sa79:SD:=.one (.own 10 0)
def kA.cb_ (c:Int)(i:Int)(a1:List (Int))(t10:List (Int))(Z:((Int)×(Int)×(List Int))⊕((Int)×(Int)×(List Int))→Option ρ):Option ρ:=
  br (decide (i≥0))
   (bnd (idx a1 i) fun y=>
    bnd (inR (t10.length) i) fun y1=>
    bnd (idx t10 i) fun y2=>
    Z (.inl ((Int.tmod (i64.wrap (i64.wrap (c*10000)+y)) (2:Int)),(i64.wrap (i-1)),(List.set t10 (Int.toNat i) (i64.wrap (Int.tdiv (i64.wrap (i64.wrap (c*10000)+y)) (2:Int)))))))
   (Z (.inr (c,i,t10)))
def kA.cb_s:Shape:=⟨[(0,sa75),(1,sa5),(2,sa6),(3,sa11),(4,sa79),(5,sa2),(6,sa2)],[(1,sa72),(2,sa72),(10,sa3)]⟩
def kA.cb_r:LC:=⟨kA.cb_s,[(kA.cb_s,2,[2,202,4,201])],no,[2,3,8],[2,3,5,8],@kA.cb_,fun _ _ _ _ _ _=>jf (jb fun _=>(jb fun _=>(jb fun _=>jc))) jc⟩
def kA (a:Bool×(List Int)):Option ((Bool×(List Int))×Bool):=
  bnd (okIf (decide ((0:Int)≤(↑(List.length a.2):Int))&&decide ((↑(List.length a.2):Int)≤(↑(List.length a.2):Int))&&decide ((↑(List.length a.2):Int)*(↑(8:Nat):Int)≤140737488355328)&&decide ((↑(List.length a.2):Int)≤140737488355328))) fun y=>
  bnd (iter (fun s↦kA.cb_ s.1 s.2.1 a.2 s.2.2 some) ((0:Int),i64.wrap ((↑(List.length a.2):Int)-1),List.replicate (Int.toNat (↑(List.length a.2):Int)) (0:Int))) fun y1=>
  bnd (Jj a.1 y1.2.2) fun y2=>
  some ((y2.1,y2.2),decide (y1.1>0))
def kA.ce:=ceOf tab Tryz.f109 kA
def kA.G:EB Tryz.prog:=⟨tb,Tryz.f109,[⟨74,Jj.ce,Jj.ok⟩],[0,1,2,3,4,5,6,16],[10],[],[(100004,kA.cb_r.ck)],[],[]⟩
theorem kA.ok:CalleeOk Tryz.prog 109 kA.ce:=fnB kA.G Tryz.func109 (m:=1) ⟨trivial,kL kA.cb_r (by kernel_rfl)⟩ (by kernel_rfl)
abbrev sa80:SD:=.one (.aptr 1 0)
def jN.ca_ (i:Int)(a_1:List YN)(t2:List YN)(Z:(Int)⊕(((Int)×(List YN))⊕(Int))→Option ρ):Option ρ:=
  br (decide (i<8))
   (bnd (inR (a_1.length) (0:Int)) fun y=>
    bnd (okIf (decide ((0:Ty.den (Ty.int IntKind.i64))≤i)&&decide (i<(↑(8:Nat):Int)))) fun y1=>
    bnd (idx a_1 (0:Int)) fun y2=>
    bnd (idx y2.1 i) fun y3=>
    bnd (kX y3) fun y4=>
    br y4
     (bnd (idx a_1 (0:Int)) fun y5=>
      bnd (idx t2 (0:Int)) fun y6=>
      Z (.inr (.inl (i,(List.set t2 (0:Nat) y5)))))
     (Z (.inl (i64.wrap (i+1)))))
   (Z (.inr (.inr i)))
def jN.ca_s:Shape:=⟨[(0,sa73),(1,sa80),(2,sa54),(3,sa2)],[(1,sa77),(2,sa77)]⟩
def jN.ca_r:LC:=⟨jN.ca_s,[(jN.ca_s,1,[1,201,1,201]),(jN.ca_s,4,[1,201])],no,[1],[1,2,3],@jN.ca_,fun _ _ _ _ _=>jf (jb fun _=>(jb fun _=>(jb fun _=>(jb fun _=>(jb fun _=>(jf (jb fun _=>(jb fun _=>jc)) jc)))))) jc⟩
def jN.cg_ (i_1:Int)(a_1:List YN)(Z:((Int)×(List YN))⊕((Int)×(List YN))→Option ρ):Option ρ:=
  br (decide (i_1<8))
   (bnd (inR (a_1.length) (0:Int)) fun y=>
    bnd (okIf (decide ((0:Ty.den (Ty.int IntKind.i64))≤i_1)&&decide (i_1<(↑(8:Nat):Int)))) fun y1=>
    bnd (idx a_1 (0:Int)) fun y2=>
    bnd (idx y2.1 i_1) fun y3=>
    bnd (kA y3) fun y4=>
    bnd (inR (a_1.length) (0:Int)) fun y5=>
    bnd (okIf (decide ((0:Ty.den (Ty.int IntKind.i64))≤i_1)&&decide (i_1<(↑(8:Nat):Int)))) fun y6=>
    bnd (idx a_1 (0:Int)) fun y7=>
    bnd (idx y7.1 i_1) fun y8=>
    Z (.inl ((i64.wrap (i_1+1)),(List.set a_1 (0:Nat) (List.set y7.1 (Int.toNat i_1) y4.1,y7.2)))))
   (Z (.inr (i_1,a_1)))
def jN.cg_s:Shape:=(jN.ca_s.s 4 sa2)
def jN.cg_r:LC:=⟨jN.cg_s,[(jN.cg_s,6,[2,202])],no,[2,3],[2,3],@jN.cg_,fun _ _ _ _=>jf (jb fun _=>(jb fun _=>(jb fun _=>(jb fun _=>(jb fun _=>(jb fun _=>(jb fun _=>(jb fun _=>(jb fun _=>jc))))))))) jc⟩
def jN.cd_ (a_1:List YN)(t2:List YN)(Z:(List YN)⊕(((List YN)×(List YN))⊕(List YN))→Option ρ):Option ρ:=
  bnd (inR (a_1.length) (0:Int)) fun y=>
  bnd (idx a_1 (0:Int)) fun y1=>
  br (decide (y1.2>0))
   (bnd (iter (fun s↦jN.ca_ s a_1 t2 some) (0:Int)) fun y2=>
    sel y2
     (fun u=>Z (.inr (.inl (a_1,u.2))))
     (fun v=>bnd (iter (fun s↦jN.cg_ s.1 s.2 some) ((0:Int),a_1)) fun y3=>
      bnd (idx y3.2 (0:Int)) fun y4=>
      bnd (Je y4) fun y5=>
      br y5
       (bnd (idx t2 (0:Int)) fun y6=>
        Z (.inr (.inl (y3.2,(List.set t2 (0:Nat) (List.replicate (8:Nat) (false,[]),(0:Int)))))))
       (bnd (inR (List.length y3.2) (0:Int)) fun y7=>
        bnd (idx y3.2 (0:Int)) fun y8=>
        bnd (inR (List.length y3.2) (0:Int)) fun y9=>
        bnd (idx y3.2 (0:Int)) fun y10=>
        Z (.inl (List.set y3.2 (0:Nat) (y10.1,i64.wrap (y8.2-1)))))))
   (Z (.inr (.inr a_1)))
def jN.cd_s:Shape:=(jN.ca_s.d 3)
def jN.cd_r:LC:=⟨jN.cd_s,[(jN.cd_s,1,[1,202]),(jN.cd_s,2,[1,201])],no,[1],[1,2],@jN.cd_,fun _ _ _ _=>jb fun _=>(jb fun _=>(jf (jb fun _=>(Hn (fun _=>jc) (fun _=>(jb fun _=>(jb fun _=>(jb fun _=>(jf (jb fun _=>jc) (jb fun _=>(jb fun _=>(jb fun _=>(jb fun _=>jc))))))))))) jc))⟩
def jN (a:YN):Option YN:=
  bnd (iter (fun s↦jN.cd_ s [(List.replicate (8:Nat) (false,[]),(0:Int))] some) [a]) fun y=>
  sel y
   (fun u=>bnd (idx u.2 (0:Int)) fun y1=>
    some y1)
   (fun v=>bnd (idx v (0:Int)) fun y2=>
    some y2)
def jN.ce:=ceOf tab Tryz.f77 jN
def jN.G:EB Tryz.prog:=⟨tb,Tryz.f77,[⟨108,kX.ce,kX.ok⟩,⟨109,kA.ce,kA.ok⟩,⟨42,Je.ce,Je.ok⟩],[0,1,2,3,4,7,9,16,19,34],[1,2,35],[],[(100001,jN.cd_r.ck),(100008,jN.cg_r.ck),(100003,jN.ca_r.ck)],[],[]⟩
theorem jN.ok:CalleeOk Tryz.prog 77 jN.ce:=fnB jN.G Tryz.func77 (m:=3) ⟨⟨⟨trivial,kL jN.cd_r (by kernel_rfl)⟩,kL jN.ca_r (by kernel_rfl)⟩,kL jN.cg_r (by kernel_rfl)⟩ (by kernel_rfl)
def JC.c10 (i:Int)(a_1:List YN)(b_1:List YN)(Z:List YN→Option ρ):Option ρ:=
  bnd (inR (a_1.length) (0:Int)) fun y=>
  bnd (okIf (decide ((0:Ty.den (Ty.int IntKind.i64))≤i)&&decide (i<(↑(8:Nat):Int)))) fun y1=>
  bnd (idx a_1 (0:Int)) fun y2=>
  bnd (idx y2.1 i) fun y3=>
  bnd (inR (b_1.length) (0:Int)) fun y4=>
  bnd (okIf (decide ((0:Ty.den (Ty.int IntKind.i64))≤i)&&decide (i<(↑(8:Nat):Int)))) fun y5=>
  bnd (idx b_1 (0:Int)) fun y6=>
  bnd (idx y6.1 i) fun y7=>
  bnd (JD y3 y7) fun y8=>
  bnd (inR (a_1.length) (0:Int)) fun y9=>
  bnd (okIf (decide ((0:Ty.den (Ty.int IntKind.i64))≤i)&&decide (i<(↑(8:Nat):Int)))) fun y10=>
  bnd (idx a_1 (0:Int)) fun y11=>
  bnd (idx y11.1 i) fun y12=>
  Z (List.set a_1 (0:Nat) (List.set y11.1 (Int.toNat i) y8,y11.2))
def JC.c10s:Shape:=⟨[(0,sa73),(1,sa73),(2,sa54),(3,sa55),(4,sa25),(5,sa2)],[(2,sa77),(3,sa77),(4,sa77)]⟩
def JC.c10r:RC:=⟨JC.c10s,[(JC.c10s,0,[3,201])],no,[2,3,4],@JC.c10,fun _ _ _ _ _=>jb fun _=>(jb fun _=>(jb fun _=>(jb fun _=>(jb fun _=>(jb fun _=>(jb fun _=>(jb fun _=>(jb fun _=>(jb fun _=>(jb fun _=>(jb fun _=>(jb fun _=>jc))))))))))))⟩
def JC.cg_ (i:Int)(a_1:List YN)(b_1:List YN)(Z:((Int)×(List YN))⊕((Int)×(List YN))→Option ρ):Option ρ:=
  br (decide (i<8))
   (bnd (JC.c10 i a_1 b_1 some) fun y=>
    Z (.inl ((i64.wrap (i+1)),y)))
   (Z (.inr (i,a_1)))
def JC.cg_r:LC:=⟨JC.c10s,[(JC.c10s,2,[2,202])],no,[2,3],[2,3,4],@JC.cg_,fun _ _ _ _ _=>jf (jb fun _=>jc) jc⟩
def JC (a:YN) (b:YN):Option YN:=
  bnd (Je a) fun y=>
  br y
   (some b)
   (bnd (Je b) fun y1=>
    br y1
     (some a)
     (bnd (JS a b.2) fun y2=>
      bnd (JS b y2.2) fun y3=>
      bnd (iter (fun s↦JC.cg_ s.1 s.2 [y3] some) ((0:Int),[y2])) fun y4=>
      bnd (idx y4.2 (0:Int)) fun y5=>
      bnd (Je y5) fun y6=>
      br y6
       (some (List.replicate (8:Nat) (false,[]),(0:Int)))
       (bnd (idx y4.2 (0:Int)) fun y7=>
        bnd (jN y7) fun y8=>
        some y8)))
def JC.ce:=ceOf tab Tryz.f43 JC
def JC.G:EB Tryz.prog:=⟨tb,Tryz.f43,[⟨42,Je.ce,Je.ok⟩,⟨75,JS.ce,JS.ok⟩,⟨76,JD.ce,JD.ok⟩,⟨77,jN.ce,jN.ok⟩],[0,1,2,3,4,5,7,10,21,37],[2,3,4,38],[(10,[(12,[2])])],[(100008,JC.cg_r.ck),(10,JC.c10r.ck)],[],[]⟩
theorem JC.ok:CalleeOk Tryz.prog 43 JC.ce:=fnB JC.G Tryz.func43 (m:=2) ⟨⟨trivial,kL JC.cg_r (by kernel_rfl)⟩,kR JC.c10r (by kernel_rfl)⟩ (by kernel_rfl)
def Yz (a:Bool×(List Int)):Option (Bool×(List Int)):=
  bnd (Jj (!a.1) a.2) fun y=>
  some (y.1,y.2)
def Yz.ce:=ceOf tab Tryz.f102 Yz
def Yz.G:EB Tryz.prog:=⟨tb,Tryz.f102,[⟨74,Jj.ce,Jj.ok⟩],[0,1,2],[],[],[],[],[]⟩
theorem Yz.ok:CalleeOk Tryz.prog 102 Yz.ce:=fnB Yz.G Tryz.func102 (m:=0) trivial (by kernel_rfl)
def Jc.ci_ (t1:Int)(Z:Int→Option ρ):Option ρ:=
  br (decide (t1<0))
   (Z (i64.wrap (t1+16)))
   (Z t1)
def Jc.ci_s:Shape:=⟨[(0,sa73),(1,sa2),(2,sa74),(4,sa25)],[(4,sa77)]⟩
def Jc.ci_r:RC:=⟨Jc.ci_s,[(Jc.ci_s,0,[1,201])],no,[1],@Jc.ci_,fun _ _ _=>jf jc jc⟩
def Jc.cy_ (t1:Int)(a_1:YN)(i:Int)(out:List YN)(Z:List YN→Option ρ):Option ρ:=
  br (decide (Int.tmod (i64.wrap (i+t1)) (16:Int)<8))
   (bnd (idx a_1.1 i) fun y=>
    bnd (inR (out.length) (0:Int)) fun y1=>
    bnd (okIf (decide ((0:Ty.den (Ty.int IntKind.i64))≤Int.tmod (i64.wrap (i+t1)) (16:Int))&&decide (Int.tmod (i64.wrap (i+t1)) (16:Int)<(↑(8:Nat):Int)))) fun y2=>
    bnd (idx out (0:Int)) fun y3=>
    bnd (idx y3.1 (Int.tmod (i64.wrap (i+t1)) (16:Int))) fun y4=>
    Z (List.set out (0:Nat) (List.set y3.1 (Int.toNat (Int.tmod (i64.wrap (i+t1)) (16:Int))) y,y3.2)))
   (bnd (idx a_1.1 i) fun y5=>
    bnd (Yz y5) fun y6=>
    bnd (inR (out.length) (0:Int)) fun y7=>
    bnd (okIf (decide ((0:Ty.den (Ty.int IntKind.i64))≤i64.wrap (Int.tmod (i64.wrap (i+t1)) (16:Int)-8))&&decide (i64.wrap (Int.tmod (i64.wrap (i+t1)) (16:Int)-8)<(↑(8:Nat):Int)))) fun y8=>
    bnd (idx out (0:Int)) fun y9=>
    bnd (idx y9.1 (i64.wrap (Int.tmod (i64.wrap (i+t1)) (16:Int)-8))) fun y10=>
    Z (List.set out (0:Nat) (List.set y9.1 (Int.toNat (i64.wrap (Int.tmod (i64.wrap (i+t1)) (16:Int)-8))) y6,y9.2)))
def Jc.cy_s:Shape:=(((Jc.ci_s.s 5 sa15).s 6 sa2).o 5 sa77)
def Jc.cy_r:RC:=⟨Jc.cy_s,[(Jc.cy_s,0,[5,201])],no,[1,2,3,5],@Jc.cy_,fun _ _ _ _ _ _=>jf (jb fun _=>(jb fun _=>(jb fun _=>(jb fun _=>(jb fun _=>jc))))) (jb fun _=>(jb fun _=>(jb fun _=>(jb fun _=>(jb fun _=>(jb fun _=>jc))))))⟩
def Jc.ce_ (t1:Int)(a_1:YN)(i:Int)(out:List YN)(Z:((Int)×(List YN))⊕((Int)×(List YN))→Option ρ):Option ρ:=
  br (decide (i<8))
   (bnd (Jc.cy_ t1 a_1 i out some) fun y=>
    Z (.inl ((i64.wrap (i+1)),y)))
   (Z (.inr (i,out)))
def Jc.ce_r:LC:=⟨Jc.cy_s,[(Jc.cy_s,2,[3,201,1,201])],no,[3,5],[1,2,3,5],@Jc.ce_,fun _ _ _ _ _ _=>jf (jb fun _=>jc) jc⟩
def Jc (a:YN) (t1:Int):Option YN:=
  bnd (Jc.ci_ (Int.tmod t1 (16:Int)) some) fun y=>
  bnd (iter (fun s↦Jc.ce_ y a s.1 s.2 some) ((0:Int),[(List.replicate (8:Nat) (false,[]),a.2)])) fun y1=>
  bnd (idx y1.2 (0:Int)) fun y2=>
  some y2
def Jc.ce:=ceOf tab Tryz.f71 Jc
def Jc.G:EB Tryz.prog:=⟨tb,Tryz.f71,[⟨102,Yz.ce,Yz.ok⟩],[0,1,2,4,5,6,7,11,19,27],[4,5,14,8000002],[],[(100007,Jc.ce_r.ck),(236872,Jc.cy_r.ck),(208197,Jc.ci_r.ck)],[],[]⟩
theorem Jc.ok:CalleeOk Tryz.prog 71 Jc.ce:=fnB Jc.G Tryz.func71 (m:=3) ⟨⟨⟨trivial,kJ Jc.ci_r (by kernel_rfl)⟩,kL Jc.ce_r (by kernel_rfl)⟩,kJ Jc.cy_r (by kernel_rfl)⟩ (by kernel_rfl)
def kz.cc_ (i:Int)(a_1:List YN)(Z:((Int)×(List YN))⊕((Int)×(List YN))→Option ρ):Option ρ:=
  br (decide (i<8))
   (bnd (inR (a_1.length) (0:Int)) fun y=>
    bnd (okIf (decide ((0:Ty.den (Ty.int IntKind.i64))≤i)&&decide (i<(↑(8:Nat):Int)))) fun y1=>
    bnd (idx a_1 (0:Int)) fun y2=>
    bnd (idx y2.1 i) fun y3=>
    bnd (Yz y3) fun y4=>
    bnd (inR (a_1.length) (0:Int)) fun y5=>
    bnd (okIf (decide ((0:Ty.den (Ty.int IntKind.i64))≤i)&&decide (i<(↑(8:Nat):Int)))) fun y6=>
    bnd (idx a_1 (0:Int)) fun y7=>
    bnd (idx y7.1 i) fun y8=>
    Z (.inl ((i64.wrap (i+1)),(List.set a_1 (0:Nat) (List.set y7.1 (Int.toNat i) y4,y7.2)))))
   (Z (.inr (i,a_1)))
def kz.cc_s:Shape:=⟨[(0,sa73),(1,sa80),(2,sa54),(3,sa2)],[(1,sa77),(2,sa77)]⟩
def kz.cc_r:LC:=⟨kz.cc_s,[(kz.cc_s,2,[1,202])],no,[1,2],[1,2],@kz.cc_,fun _ _ _ _=>jf (jb fun _=>(jb fun _=>(jb fun _=>(jb fun _=>(jb fun _=>(jb fun _=>(jb fun _=>(jb fun _=>(jb fun _=>jc))))))))) jc⟩
def kz (a:YN):Option YN:=
  bnd (iter (fun s↦kz.cc_ s.1 s.2 some) ((0:Int),[a])) fun y=>
  bnd (idx y.2 (0:Int)) fun y1=>
  some y1
def kz.ce:=ceOf tab Tryz.f73 kz
def kz.G:EB Tryz.prog:=⟨tb,Tryz.f73,[⟨102,Yz.ce,Yz.ok⟩],[0,1,2,3,5],[1,2],[],[(100002,kz.cc_r.ck)],[],[]⟩
theorem kz.ok:CalleeOk Tryz.prog 73 kz.ce:=fnB kz.G Tryz.func73 (m:=1) ⟨trivial,kL kz.cc_r (by kernel_rfl)⟩ (by kernel_rfl)
def kV.c1 (a_1:YN)(b_1:YN)(t4:List YN)(Z:List YN→Option ρ):Option ρ:=
  bnd (kz b_1) fun y=>
  bnd (JC a_1 y) fun y1=>
  bnd (idx t4 (0:Int)) fun y2=>
  Z (List.set t4 (0:Nat) y1)
def kV.c1s:Shape:=⟨[(0,sa73),(1,sa73),(2,sa74),(3,sa74),(4,sa25)],[(4,sa77)]⟩
def kV.c1r:RC:=⟨kV.c1s,[(kV.c1s,0,[4,201])],no,[2,3,4],@kV.c1,fun _ _ _ _ _=>jb fun _=>(jb fun _=>(jb fun _=>jc))⟩
def kV (a:YN) (b:YN):Option YN:=
  bnd (kV.c1 a b [(List.replicate (8:Nat) (false,[]),(0:Int))] some) fun y=>
  bnd (idx y (0:Int)) fun y1=>
  some y1
def kV.ce:=ceOf tab Tryz.f103 kV
def kV.G:EB Tryz.prog:=⟨tb,Tryz.f103,[⟨73,kz.ce,kz.ok⟩,⟨43,JC.ce,JC.ok⟩],[0,1,2,3,4],[4,8000002,8000003],[(1,[(4,[4])])],[(1,kV.c1r.ck)],[],[]⟩
theorem kV.ok:CalleeOk Tryz.prog 103 kV.ce:=fnB kV.G Tryz.func103 (m:=1) ⟨trivial,kR kV.c1r (by kernel_rfl)⟩ (by kernel_rfl)
def kn.c1 (a_1:YN)(Z:List YN→Option ρ):Option ρ:=
  bnd (Jc a_1 (2:Int)) fun y=>
  bnd (Jc a_1 (6:Int)) fun y1=>
  bnd (kV y y1) fun y2=>
  Z [y2]
def kn.c1s:Shape:=⟨[(0,sa73),(1,sa74),(2,sa54)],[(2,sa77)]⟩
def kn.c1x0:Shape:=((kn.c1s.s 3 sa55).o 3 sa77)
def kn.c1r:RC:=⟨kn.c1s,[(kn.c1x0,0,[3,101])],no,[1],@kn.c1,fun _ _ _=>jb fun _=>(jb fun _=>(jb fun _=>jc))⟩
def kn (a:YN):Option YN:=
  bnd (kn.c1 a some) fun y=>
  bnd (idx y (0:Int)) fun y1=>
  bnd (Je y1) fun y2=>
  br y2
   (bnd (idx y (0:Int)) fun y3=>
    some y3)
   (bnd (inR (y.length) (0:Int)) fun y4=>
    bnd (idx y (0:Int)) fun y5=>
    bnd (inR (y.length) (0:Int)) fun y6=>
    bnd (idx y (0:Int)) fun y7=>
    bnd (idx (List.set y (0:Nat) (y7.1,i64.wrap (y5.2+1))) (0:Int)) fun y8=>
    bnd (jN y8) fun y9=>
    some y9)
def kn.ce:=ceOf tab Tryz.f72 kn
def kn.G:EB Tryz.prog:=⟨tb,Tryz.f72,[⟨71,Jc.ce,Jc.ok⟩,⟨103,kV.ce,kV.ok⟩,⟨42,Je.ce,Je.ok⟩,⟨77,jN.ce,jN.ok⟩],[0,1,2,3,10],[2,3,8000001],[(1,[(5,[3]),(6,[3])])],[(1,kn.c1r.ck)],[],[]⟩
theorem kn.ok:CalleeOk Tryz.prog 72 kn.ce:=fnB kn.G Tryz.func72 (m:=1) ⟨trivial,kR kn.c1r (by kernel_rfl)⟩ (by kernel_rfl)
abbrev sa81:SD:=.one (.val (.sl (.st (.pair (.ar 8 (.st (.pair .bool (.sl (.int .i64))))) (.int .i64)))))
abbrev sa82:SD:=.one (.own 11 0)
abbrev sa83:SD:=.one (.aptr 8 0)
def jF.c7 (v:List YN)(x:Int)(t11:List YN)(Z:List YN→Option ρ):Option ρ:=
  bnd (inR (t11.length) x) fun y=>
  bnd (idx t11 x) fun y1=>
  bnd (idx v x) fun y2=>
  bnd (JC y1 y2) fun y3=>
  bnd (inR (t11.length) x) fun y4=>
  bnd (idx t11 x) fun y5=>
  Z (List.set t11 (Int.toNat x) y3)
def jF.c7s:Shape:=⟨[(0,sa81),(1,sa12),(3,sa7),(4,sa81),(5,sa82),(6,sa2)],[(3,sa14),(11,sa77)]⟩
def jF.c7r:RC:=⟨jF.c7s,[(jF.c7s,0,[10,201])],no,[0,3,10],@jF.c7,fun _ _ _ _ _=>jb fun _=>(jb fun _=>(jb fun _=>(jb fun _=>(jb fun _=>(jb fun _=>jc)))))⟩
def jF.c9 (x:Int)(o0:Int)(o3:Int)(Z:Bool→Option ρ):Option ρ:=
  br (o0==1)
   (Z true)
   (br (o0==4)
     (bnd (kH x o3) fun y=>
      Z (y==1))
     (Z false))
def jF.c9s:Shape:=(jF.c7s.s 7 sa2)
def jF.c9x0:Shape:=(jF.c9s.s 59 sa11)
def jF.c9r:RC:=⟨jF.c9s,[(jF.c9x0,0,[5,101])],no,[3,5,8],@jF.c9,fun _ _ _ _ _=>jf jc (jf (jb fun _=>jc) jc)⟩
def jF.c10 (v:List YN)(x:Int)(o1:Int)(t11:List YN)(Z:List YN→Option ρ):Option ρ:=
  bnd (idx v x) fun y=>
  bnd (Jc y o1) fun y1=>
  bnd (inR (t11.length) x) fun y2=>
  bnd (idx t11 x) fun y3=>
  Z (List.set t11 (Int.toNat x) y1)
def jF.c10r:RC:=⟨jF.c9s,[(jF.c9s,0,[11,201])],no,[0,3,6,11],@jF.c10,fun _ _ _ _ _ _=>jb fun _=>(jb fun _=>(jb fun _=>(jb fun _=>jc)))⟩
def jF.c16 (other:Int)(half:List YN)(t11:List YN)(Z:List YN→Option ρ):Option ρ:=
  bnd (inR (t11.length) other) fun y=>
  bnd (idx t11 other) fun y1=>
  bnd (idx half (0:Int)) fun y2=>
  bnd (JC y1 y2) fun y3=>
  bnd (inR (t11.length) other) fun y4=>
  bnd (idx t11 other) fun y5=>
  Z (List.set t11 (Int.toNat other) y3)
def jF.c16s:Shape:=((jF.c9s.s 8 sa83).o 8 sa77)
def jF.c16r:RC:=⟨jF.c16s,[(jF.c16s,0,[12,201])],no,[4,11,12],@jF.c16,fun _ _ _ _ _=>jb fun _=>(jb fun _=>(jb fun _=>(jb fun _=>(jb fun _=>(jb fun _=>jc)))))⟩
def jF.cQ_ (x:Int)(o3:Int)(half:List YN)(Z:List YN→Option ρ):Option ρ:=
  bnd (kH x o3) fun y=>
  br (y==1)
   (bnd (idx half (0:Int)) fun y1=>
    bnd (kz y1) fun y2=>
    bnd (idx half (0:Int)) fun y3=>
    Z (List.set half (0:Nat) y2))
   (Z half)
def jF.cQ_r:RC:=⟨jF.c16s,[(jF.c16s,0,[11,201])],no,[3,8,11],@jF.cQ_,fun _ _ _ _ _=>jb fun _=>(jf (jb fun _=>(jb fun _=>(jb fun _=>jc))) jc)⟩
def jF.c19 (x:Int)(half:List YN)(t11:List YN)(Z:List YN→Option ρ):Option ρ:=
  bnd (inR (t11.length) x) fun y=>
  bnd (idx t11 x) fun y1=>
  bnd (idx half (0:Int)) fun y2=>
  bnd (JC y1 y2) fun y3=>
  bnd (inR (t11.length) x) fun y4=>
  bnd (idx t11 x) fun y5=>
  Z (List.set t11 (Int.toNat x) y3)
def jF.c19r:RC:=⟨jF.c16s,[(jF.c16s,0,[12,201])],no,[3,11,12],@jF.c19,fun _ _ _ _ _=>jb fun _=>(jb fun _=>(jb fun _=>(jb fun _=>(jb fun _=>(jb fun _=>jc)))))⟩
def jF.cL_ (v:List YN)(x:Int)(o0:Int)(o1:Int)(o2:List (Int))(o3:Int)(t11:List YN)(Z:List YN→Option ρ):Option ρ:=
  bnd (idx v x) fun y=>
  bnd (Je y) fun y1=>
  br y1
   (Z t11)
   (bnd (JY x o2) fun y2=>
    br (!y2)
     (bnd (jF.c7 v x t11 some) fun y3=>
      Z y3)
     (bnd (okIf (decide ((0:Int)≤o3))) fun y4=>
      bnd (jF.c9 x o0 o3 some) fun y5=>
      br y5
       (bnd (jF.c10 v x o1 t11 some) fun y6=>
        Z y6)
       (br (o0==4)
         (bnd (idx v x) fun y7=>
          bnd (inR (t11.length) x) fun y8=>
          bnd (idx t11 x) fun y9=>
          Z (List.set t11 (Int.toNat x) y7))
         (br (o0==2)
           (bnd (idx v x) fun y10=>
            bnd (inR (t11.length) (ibits BinOp.xor IntKind.i64 x (i64.wrap ((1:Int)*2^Min.min (Int.toNat o3) (64:Nat))))) fun y11=>
            bnd (idx t11 (ibits BinOp.xor IntKind.i64 x (i64.wrap ((1:Int)*2^Min.min (Int.toNat o3) (64:Nat))))) fun y12=>
            Z (List.set t11 (Int.toNat (ibits BinOp.xor IntKind.i64 x (i64.wrap ((1:Int)*2^Min.min (Int.toNat o3) (64:Nat))))) y10))
           (bnd (idx v x) fun y13=>
            bnd (kn y13) fun y14=>
            bnd (jF.c16 (ibits BinOp.xor IntKind.i64 x (i64.wrap ((1:Int)*2^Min.min (Int.toNat o3) (64:Nat)))) [y14] t11 some) fun y15=>
            bnd (jF.cQ_ x o3 [y14] some) fun y16=>
            bnd (jF.c19 x y16 y15 some) fun y17=>
            Z y17)))))
def jF.cL_r:RC:=⟨jF.c7s,[(jF.c7s,0,[10,201])],no,[0,3,4,5,6,7,10],@jF.cL_,fun _ _ _ _ _ _ _ _ _=>jb fun _=>(jb fun _=>(jf jc (jb fun _=>(jf (jb fun _=>jc) (jb fun _=>(jb fun _=>(jf (jb fun _=>jc) (jf (jb fun _=>(jb fun _=>(jb fun _=>jc))) (jf (jb fun _=>(jb fun _=>(jb fun _=>jc))) (jb fun _=>(jb fun _=>(jb fun _=>(jb fun _=>(jb fun _=>jc))))))))))))))⟩
def jF.ca_ (v:List YN)(x:Int)(o0:Int)(o1:Int)(o2:List (Int))(o3:Int)(t11:List YN)(Z:((Int)×(List YN))⊕((Int)×(List YN))→Option ρ):Option ρ:=
  br (decide (x<(v.length:Int)))
   (bnd (jF.cL_ v x o0 o1 o2 o3 t11 some) fun y=>
    Z (.inl ((i64.wrap (x+1)),y)))
   (Z (.inr (x,t11)))
def jF.ca_r:LC:=⟨jF.c7s,[(jF.c7s,2,[3,201,6,201])],no,[3,10],[0,3,4,5,6,7,10],@jF.ca_,fun _ _ _ _ _ _ _ _ _=>jf (jb fun _=>jc) jc⟩
def jF (v:List YN) (o:YO):Option (List YN):=
  bnd (okIf (decide ((0:Int)≤(v.length:Int))&&decide ((v.length:Int)≤(v.length:Int))&&decide ((v.length:Int)*(↑(264:Nat):Int)≤140737488355328)&&decide ((v.length:Int)≤140737488355328))) fun y=>
  bnd (iter (fun s↦jF.ca_ v s.1 o.1 o.2.1 o.2.2.1 o.2.2.2.1 s.2 some) ((0:Int),List.replicate (Int.toNat (v.length:Int)) (List.replicate (8:Nat) (false,[]),(0:Int)))) fun y1=>
  some y1.2
def jF.ce:=ceOf tab Tryz.f38 jF
def jF.G:EB Tryz.prog:=⟨tb,Tryz.f38,[⟨42,Je.ce,Je.ok⟩,⟨70,JY.ce,JY.ok⟩,⟨43,JC.ce,JC.ok⟩,⟨55,kH.ce,kH.ok⟩,⟨71,Jc.ce,Jc.ok⟩,⟨72,kn.ce,kn.ok⟩,⟨73,kz.ce,kz.ok⟩],[0,1,3,4,5,6,7,8,15,22,27,59,72,82,108],[8,11],[(19,[(9,[11])]),(16,[(9,[11])]),(10,[(10,[11])]),(7,[(12,[11])])],[(100003,jF.ca_r.ck),(220520,jF.cL_r.ck),(19,jF.c19r.ck),(269637,jF.cQ_r.ck),(16,jF.c16r.ck),(10,jF.c10r.ck),(9,jF.c9r.ck),(7,jF.c7r.ck)],[],[]⟩
theorem jF.ok:CalleeOk Tryz.prog 38 jF.ce:=fnB jF.G Tryz.func38 (m:=8) ⟨⟨⟨⟨⟨⟨⟨⟨trivial,kL jF.ca_r (by kernel_rfl)⟩,kJ jF.cL_r (by kernel_rfl)⟩,kR jF.c7r (by kernel_rfl)⟩,kR jF.c9r (by kernel_rfl)⟩,kR jF.c10r (by kernel_rfl)⟩,kR jF.c16r (by kernel_rfl)⟩,kJ jF.cQ_r (by kernel_rfl)⟩,kR jF.c19r (by kernel_rfl)⟩ (by kernel_rfl)
def Ju.cj_ (v:List YN)(q:Int)(b:Int)(x:Int)(t11:List YN)(Z:List YN→Option ρ):Option ρ:=
  bnd (kH x q) fun y=>
  br (y==b)
   (bnd (idx v x) fun y1=>
    bnd (inR (t11.length) x) fun y2=>
    bnd (idx t11 x) fun y3=>
    Z (List.set t11 (Int.toNat x) y1))
   (Z t11)
def Ju.cj_s:Shape:=⟨[(0,sa81),(1,sa2),(2,sa2),(6,sa81),(7,sa82),(8,sa2)],[(11,sa77)]⟩
def Ju.cj_r:RC:=⟨Ju.cj_s,[(Ju.cj_s,0,[5,201])],no,[0,1,2,4,5],@Ju.cj_,fun _ _ _ _ _ _ _=>jb fun _=>(jf (jb fun _=>(jb fun _=>(jb fun _=>jc))) jc)⟩
def Ju.ca_ (v:List YN)(q:Int)(b:Int)(x:Int)(t11:List YN)(Z:((Int)×(List YN))⊕((Int)×(List YN))→Option ρ):Option ρ:=
  br (decide (x<(v.length:Int)))
   (bnd (Ju.cj_ v q b x t11 some) fun y=>
    Z (.inl ((i64.wrap (x+1)),y)))
   (Z (.inr (x,t11)))
def Ju.ca_r:LC:=⟨Ju.cj_s,[(Ju.cj_s,2,[4,202])],no,[4,5],[0,1,2,4,5],@Ju.ca_,fun _ _ _ _ _ _ _=>jf (jb fun _=>jc) jc⟩
def Ju (v:List YN) (q:Int) (b:Int):Option (List YN):=
  bnd (okIf (decide ((0:Int)≤(v.length:Int))&&decide ((v.length:Int)≤(v.length:Int))&&decide ((v.length:Int)*(↑(264:Nat):Int)≤140737488355328)&&decide ((v.length:Int)≤140737488355328))) fun y=>
  bnd (iter (fun s↦Ju.ca_ v q b s.1 s.2 some) ((0:Int),List.replicate (Int.toNat (v.length:Int)) (List.replicate (8:Nat) (false,[]),(0:Int)))) fun y1=>
  some y1.2
def Ju.ce:=ceOf tab Tryz.f39 Ju
def Ju.G:EB Tryz.prog:=⟨tb,Tryz.f39,[⟨55,kH.ce,kH.ok⟩],[0,1,2,6,7,8,15,22],[11],[],[(100003,Ju.ca_r.ck),(220486,Ju.cj_r.ck)],[],[]⟩
theorem Ju.ok:CalleeOk Tryz.prog 39 Ju.ce:=fnB Ju.G Tryz.func39 (m:=2) ⟨⟨trivial,kL Ju.ca_r (by kernel_rfl)⟩,kJ Ju.cj_r (by kernel_rfl)⟩ (by kernel_rfl)
abbrev sa84:SD:=.one (.ref 9 0)
abbrev sa85:SD:=.one (.ref 10 0)
abbrev sa86:SD:=.one (.own 39 0)
abbrev sa87:SD:=.one (.ref 15 0)
def jR.c3  (Z:Unit→Option ρ):Option ρ:=
  Z ()
def jR.c3s:Shape:=⟨[(0,sa4),(1,sa2),(2,sa0),(3,sa7),(6,sa81),(7,sa0),(8,sa2),(9,sa84),(10,sa85)],[(3,sa8),(9,sa17),(10,sa17)]⟩
def jR.c3r:RC:=⟨jR.c3s,[(jR.c3s,0,[3,400,401,402,303,3,302,2,403,404])],fun X=>([],[],(0:Int),(q8 X).2.2.2.1,(q4 (q8 X)).1,()),[],@jR.c3,fun _ _=>jc⟩
def jR.c4 (t1:Int)(c0:Int)(Z:Bool→Option ρ):Option ρ:=
  br (decide (t1<0))
   (Z true)
   (bnd (okIf (decide ((0:Int)≤c0))) fun y=>
    Z (decide (t1≥i64.wrap ((1:Int)*2^Min.min (Int.toNat c0) (64:Nat)))))
def jR.c4x0:Shape:=(jR.c3s.s 31 sa11)
def jR.c4r:RC:=⟨jR.c3s,[(jR.c4x0,0,[6,101])],no,[1,6],@jR.c4,fun _ _ _ _=>jf jc (jb fun _=>jc)⟩
def jR.c19 (b:Int)(Z:Bool→Option ρ):Option ρ:=
  br (b !=0)
   (Z (b !=1))
   (Z false)
def jR.c19s:Shape:=((((((((jR.c3s.s 11 sa81).s 12 sa86).s 13 sa2).s 14 sa2).s 15 sa87).s 16 sa2).o 15 sa14).o 39 sa3)
def jR.c19x0:Shape:=(jR.c19s.s 77 sa11)
def jR.c19r:RC:=⟨jR.c19s,[(jR.c19x0,0,[10,101])],no,[9],@jR.c19,fun _ _ _=>jf jc jc⟩
def jR.cv_ (tape:List (Int))(v:List YN)(used:Int)(i:Int)(c2:List YO)(t39:List (Int))(Z:((List YN)×(Int)×(List Int))⊕((Int)×(Int))→Option ρ):Option ρ:=
  bnd (idx c2 i) fun y=>
  bnd (jJ (y.1,y.2.1,y.2.2.1,y.2.2.2.1,y.2.2.2.2.1,y.2.2.2.2.2) t39) fun y1=>
  br (!y1)
   (Z (.inl (v,used,t39)))
   (br (decide (y.1<5))
     (bnd (jF v (y.1,y.2.1,y.2.2.1,y.2.2.2.1,y.2.2.2.2.1,y.2.2.2.2.2)) fun y2=>
      Z (.inl (y2,used,t39)))
     (br (used==(tape.length:Int))
       (bnd (kf (19:Int) i) fun y3=>
        Z (.inr (y3.1,y3.2)))
       (bnd (idx tape used) fun y4=>
        bnd (jR.c19 y4 some) fun y5=>
        br y5
         (bnd (kf (20:Int) i) fun y6=>
          Z (.inr (y6.1,y6.2)))
         (bnd (Ju v y.2.2.2.1 y4) fun y7=>
          br (y.1==5)
           (bnd (inR (t39.length) y.2.2.2.2.1) fun y8=>
            bnd (idx t39 y.2.2.2.2.1) fun y9=>
            Z (.inl (y7,(i64.wrap (used+1)),(List.set t39 (Int.toNat y.2.2.2.2.1) y4))))
           (br (y4==1)
             (bnd (jF y7 ((2:Int),(0:Int),[],y.2.2.2.1,(0:Int),[])) fun y10=>
              Z (.inl (y10,(i64.wrap (used+1)),t39)))
             (Z (.inl (y7,(i64.wrap (used+1)),t39))))))))
def jR.cv_s:Shape:=(((jR.c19s.d 15).d 16).g 15)
def jR.cv_r:RC:=⟨jR.cv_s,[(jR.cv_s,0,[6,202,8,201]),(jR.cv_s,1,[3,400,401,402,303,6,202])],fun X=>([],[],(0:Int),()),[2,6,7,8,11,16],@jR.cv_,fun _ _ _ _ _ _ _ _=>jb fun _=>(jb fun _=>(jf jc (jf (jb fun _=>jc) (jf (jb fun _=>jc) (jb fun _=>(jb fun _=>(jf (jb fun _=>jc) (jb fun _=>(jf (jb fun _=>(jb fun _=>jc)) (jf (jb fun _=>jc) jc))))))))))⟩
def jR.cp_ (tape:List (Int))(v:List YN)(used:Int)(i:Int)(c2:List YO)(t39:List (Int))(Z:((List YN)×(Int)×(Int)×(List Int))⊕(((List YN)×(Int)×(Int)×(Int)×(Int)×(List Int))⊕((List YN)×(Int)×(Int)×(List Int)))→Option ρ):Option ρ:=
  br (decide (i<(c2.length:Int)))
   (bnd (jR.cv_ tape v used i c2 t39 some) fun y=>
    sel y
     (fun u=>Z (.inl (u.1,u.2.1,(i64.wrap (i+1)),u.2.2)))
     (fun v_1=>Z (.inr (.inl (v,used,i,v_1.1,v_1.2,t39)))))
   (Z (.inr (.inr (v,used,i,t39))))
def jR.cp_r:LC:=⟨jR.cv_s,[(jR.cv_s,1,[3,400,401,402,203,303,3,202,2,201]),(jR.cv_s,2,[6,203,7,201])],fun X=>([],[],(0:Int),()),[6,7,8,16],[2,6,7,8,11,16],@jR.cp_,fun _ _ _ _ _ _ _ _=>jf (jb fun _=>(Hn (fun _=>jc) (fun _=>jc))) jc⟩
def jR (c:(Int)×((Int)×(List YO))) (t1:Int) (tape:List (Int)):Option ((List YN)×(List Int)×(Int)×((Int)×(Int))):=
  bnd (jX (c.1,c.2.1,c.2.2)) fun y=>
  br (y.1 !=0)
   (bnd (jR.c3 some) fun y1=>
    some ([],[],(0:Int),y.1,y.2))
   (bnd (jR.c4 t1 c.1 some) fun y2=>
    br y2
     (bnd (kf (18:Int) (0:Int)) fun y3=>
      some ([],[],(0:Int),y3.1,y3.2))
     (bnd (Vw c.1 t1) fun y4=>
      bnd (okIf (decide ((0:Int)≤c.2.1)&&decide (c.2.1≤c.2.1)&&decide (c.2.1*(↑(8:Nat):Int)≤140737488355328)&&decide (c.2.1≤140737488355328))) fun y5=>
      bnd (iter (fun s↦jR.cp_ tape s.1 s.2.1 s.2.2.1 c.2.2 s.2.2.2 some) (y4,(0:Int),(0:Int),List.replicate (Int.toNat c.2.1) (0:Int))) fun y6=>
      sel y6
       (fun u=>some ([],[],(0:Int),u.2.2.2.1,u.2.2.2.2.1))
       (fun v=>some (v.1,v.2.2.2,v.2.1,(0:Int),(0:Int)))))
def jR.ce:=ceOf tab Tryz.f15 jR
def jR.G:EB Tryz.prog:=⟨tb,Tryz.f15,[⟨34,jX.ce,jX.ok⟩,⟨35,kf.ce,kf.ok⟩,⟨36,Vw.ce,Vw.ok⟩,⟨37,jJ.ce,jJ.ok⟩,⟨38,jF.ce,jF.ok⟩,⟨39,Ju.ce,Ju.ok⟩],[0,1,2,3,6,7,8,9,10,11,12,13,14,15,16,21,31,44,55,58,65,77,89,96],[39],[(3,[(1,[6]),(2,[7]),(4,[9])])],[(100010,jR.cp_r.ck),(249200,jR.cv_r.ck),(19,jR.c19r.ck),(4,jR.c4r.ck),(3,jR.c3r.ck)],[],[]⟩
theorem jR.ok:CalleeOk Tryz.prog 15 jR.ce:=fnB jR.G Tryz.func15 (m:=5) ⟨⟨⟨⟨⟨trivial,kR jR.c3r (by kernel_rfl)⟩,kR jR.c4r (by kernel_rfl)⟩,kL jR.cp_r (by kernel_rfl)⟩,kJ jR.cv_r (by kernel_rfl)⟩,kR jR.c19r (by kernel_rfl)⟩ (by kernel_rfl)
abbrev sa88:SD:=.one (.val (.sl (.int .u8)))
def jI.cn_ (text:List UInt8)(a0:Bool)(Z:List UInt8→Option ρ):Option ρ:=
  br a0
   (Z (Array.toList (ByteArray.data (ByteArray.mk #[45]))))
   (Z text)
def jI.cn_s:Shape:=⟨[(0,sa75),(1,sa5),(2,sa65),(3,sa65)],[(1,sa72)]⟩
def jI.cn_r:RC:=⟨jI.cn_s,[(jI.cn_s,0,[2,201])],no,[2,3],@jI.cn_,fun _ _ _ _=>jf jc jc⟩
def jI.c9 (i:Int)(a1:List (Int))(Z:List (Int)→Option ρ):Option ρ:=
  bnd (idx a1 i) fun y=>
  bnd (idx a1 i) fun y1=>
  bnd (idx a1 i) fun y2=>
  bnd (idx a1 i) fun y3=>
  Z ([u8.wrap (i64.wrap ((48:Int)+i64.wrap (Int.tdiv y (1000:Int)))),u8.wrap (i64.wrap ((48:Int)+Int.tmod (i64.wrap (Int.tdiv y1 (100:Int))) (10:Int))),u8.wrap (i64.wrap ((48:Int)+Int.tmod (i64.wrap (Int.tdiv y2 (10:Int))) (10:Int))),u8.wrap (i64.wrap ((48:Int)+Int.tmod y3 (10:Int)))])
def jI.c9s:Shape:=(jI.cn_s.s 4 sa2)
def jI.c9x0:Shape:=(jI.c9s.s 5 sa88)
def jI.c9r:RC:=⟨jI.c9s,[(jI.c9x0,0,[4,101])],no,[3,5],@jI.c9,fun _ _ _ _=>jb fun _=>(jb fun _=>(jb fun _=>(jb fun _=>jc)))⟩
def jI.c11 (i:Int)(four:List (Int))(t6:Int)(a1:List (Int))(Z:Bool→Option ρ):Option ρ:=
  br (i==i64.wrap ((a1.length:Int)-1))
   (br (decide (t6<3))
     (bnd (idx four t6) fun y=>
      Z (y==48))
     (Z false))
   (Z false)
def jI.c11s:Shape:=(jI.c9x0.s 6 sa2)
def jI.c11x0:Shape:=(jI.c11s.s 72 sa11)
def jI.c11r:RC:=⟨jI.c11s,[(jI.c11x0,0,[6,101])],no,[3,4,5,7],@jI.c11,fun _ _ _ _ _ _=>jf (jf (jb fun _=>jc) jc) jc⟩
def jI.cm_ (i:Int)(four:List (Int))(t6:Int)(a1:List (Int))(Z:(Int)⊕(Int)→Option ρ):Option ρ:=
  bnd (jI.c11 i four t6 a1 some) fun y=>
  br y
   (Z (.inl (i64.wrap (t6+1))))
   (Z (.inr t6))
def jI.cm_r:LC:=⟨jI.c11s,[(jI.c11s,4,[5,201])],no,[5],[3,4,5,7],@jI.cm_,fun _ _ _ _ _ _=>jb fun _=>(jf jc jc)⟩
def jI.ce_ (text:List UInt8)(i:Int)(a1:List (Int))(Z:((List UInt8)×(Int))⊕((List UInt8)×(Int))→Option ρ):Option ρ:=
  br (decide (i≥0))
   (bnd (jI.c9 i a1 some) fun y=>
    bnd (iter (fun s↦jI.cm_ i y s a1 some) (0:Int)) fun y1=>
    bnd (okIf (decide ((0:Int)≤y1)&&decide (y1≤(y.length:Int))&&decide ((y.length:Int)≤(y.length:Int)))) fun y2=>
    bnd (okIf (decide (text.length+List.length (List.map (fun n↦UInt8.ofNat (Int.toNat n)) (List.drop (Int.toNat y1) (List.take (Int.toNat (y.length:Int)) y)))≤9223372036854775807))) fun y3=>
    Z (.inl ((text++List.map (fun n↦UInt8.ofNat (Int.toNat n)) (List.drop (Int.toNat y1) (List.take (Int.toNat (y.length:Int)) y))),(i64.wrap (i-1)))))
   (Z (.inr (text,i)))
def jI.ce_r:LC:=⟨jI.c9s,[(jI.c9s,2,[2,202])],no,[2,3],[2,3,5],@jI.ce_,fun _ _ _ _ _=>jf (jb fun _=>(jb fun _=>(jb fun _=>(jb fun _=>jc)))) jc⟩
def jI (a:Bool×(List Int)):Option (List UInt8):=
  br ((↑(List.length a.2):Int)==0)
   (some (Array.toList (ByteArray.data (ByteArray.mk #[48]))))
   (bnd (jI.cn_ (Array.toList (ByteArray.data (ByteArray.mk #[]))) a.1 some) fun y=>
    bnd (iter (fun s↦jI.ce_ s.1 s.2 a.2 some) (y,i64.wrap ((↑(List.length a.2):Int)-1))) fun y1=>
    some y1.1)
def jI.ce:=ceOf tab Tryz.f40 jI
def jI.G:EB Tryz.prog:=⟨tb,Tryz.f40,[],[0,1,2,3,4,5,6,10,12,18,72],[],[(9,[(34,[55])])],[(100007,jI.ce_r.ck),(100011,jI.cm_r.ck),(11,jI.c11r.ck),(9,jI.c9r.ck),(216389,jI.cn_r.ck)],[],[]⟩
theorem jI.ok:CalleeOk Tryz.prog 40 jI.ce:=fnB jI.G Tryz.func40 (m:=5) ⟨⟨⟨⟨⟨trivial,kJ jI.cn_r (by kernel_rfl)⟩,kL jI.ce_r (by kernel_rfl)⟩,kR jI.c9r (by kernel_rfl)⟩,kL jI.cm_r (by kernel_rfl)⟩,kR jI.c11r (by kernel_rfl)⟩ (by kernel_rfl)
def Jb.cj_ (a_1:YN)(last:Int)(i:Int)(Z:Int→Option ρ):Option ρ:=
  bnd (idx a_1.1 i) fun y=>
  br (decide ((↑(List.length y.2):Int)>0))
   (Z i)
   (Z last)
def Jb.cj_s:Shape:=⟨[(0,sa73),(1,sa74),(2,sa65),(3,sa2),(4,sa2)],[]⟩
def Jb.cj_r:RC:=⟨Jb.cj_s,[(Jb.cj_s,0,[3,201])],no,[1,3,4],@Jb.cj_,fun _ _ _ _ _=>jb fun _=>(jf jc jc)⟩
def Jb.ca_ (a_1:YN)(last:Int)(i:Int)(Z:((Int)×(Int))⊕((Int)×(Int))→Option ρ):Option ρ:=
  br (decide (i<8))
   (bnd (Jb.cj_ a_1 last i some) fun y=>
    Z (.inl (y,(i64.wrap (i+1)))))
   (Z (.inr (last,i)))
def Jb.ca_r:LC:=⟨Jb.cj_s,[(Jb.cj_s,2,[3,202])],no,[3,4],[1,3,4],@Jb.ca_,fun _ _ _ _ _=>jf (jb fun _=>jc) jc⟩
def Jb.co_ (a_1:YN)(last:Int)(text:List UInt8)(i_1:Int)(Z:((List UInt8)×(Int))⊕((List UInt8)×(Int))→Option ρ):Option ρ:=
  br (decide (i_1≤last))
   (bnd (idx a_1.1 i_1) fun y=>
    bnd (jI y) fun y1=>
    bnd (okIf (decide (List.length (Array.toList (ByteArray.data (ByteArray.mk #[44])))+y1.length≤9223372036854775807))) fun y2=>
    bnd (okIf (decide (text.length+List.length (Array.toList (ByteArray.data (ByteArray.mk #[44]))++y1)≤9223372036854775807))) fun y3=>
    Z (.inl ((text++(Array.toList (ByteArray.data (ByteArray.mk #[44]))++y1)),(i64.wrap (i_1+1)))))
   (Z (.inr (text,i_1)))
def Jb.co_s:Shape:=((Jb.cj_s.s 5 sa65).s 6 sa2)
def Jb.co_r:LC:=⟨Jb.co_s,[(Jb.co_s,4,[5,202])],no,[5,6],[1,3,5,6],@Jb.co_,fun _ _ _ _ _ _=>jf (jb fun _=>(jb fun _=>(jb fun _=>(jb fun _=>jc)))) jc⟩
def Jb.cT_ (a_1:YN)(text:List UInt8)(Z:List UInt8→Option ρ):Option ρ:=
  br (decide (a_1.2>0))
   (bnd (JW a_1.2) fun y=>
    bnd (jI y) fun y1=>
    bnd (okIf (decide (List.length (Array.toList (ByteArray.data (ByteArray.mk #[47])))+y1.length≤9223372036854775807))) fun y2=>
    bnd (okIf (decide (text.length+List.length (Array.toList (ByteArray.data (ByteArray.mk #[47]))++y1)≤9223372036854775807))) fun y3=>
    Z (text++(Array.toList (ByteArray.data (ByteArray.mk #[47]))++y1)))
   (Z text)
def Jb.cT_r:RC:=⟨Jb.co_s,[(Jb.co_s,0,[5,201])],no,[1,5],@Jb.cT_,fun _ _ _ _=>jf (jb fun _=>(jb fun _=>(jb fun _=>(jb fun _=>jc)))) jc⟩
def Jb (a:YN):Option (List UInt8):=
  bnd (iter (fun s↦Jb.ca_ a s.1 s.2 some) ((0:Int),(0:Int))) fun y=>
  bnd (idx a.1 (0:Int)) fun y1=>
  bnd (jI y1) fun y2=>
  bnd (iter (fun s↦Jb.co_ a y.1 s.1 s.2 some) (y2,(1:Int))) fun y3=>
  bnd (Jb.cT_ a y3.1 some) fun y4=>
  some y4
def Jb.ce:=ceOf tab Tryz.f16 Jb
def Jb.G:EB Tryz.prog:=⟨tb,Tryz.f16,[⟨40,jI.ce,jI.ok⟩,⟨41,JW.ce,JW.ok⟩],[0,1,2,3,4,5,6,8,17,25,38],[8000001],[],[(249157,Jb.cT_r.ck),(100009,Jb.co_r.ck),(100003,Jb.ca_r.ck),(220486,Jb.cj_r.ck)],[],[]⟩
theorem Jb.ok:CalleeOk Tryz.prog 16 Jb.ce:=fnB Jb.G Tryz.func16 (m:=4) ⟨⟨⟨⟨trivial,kL Jb.ca_r (by kernel_rfl)⟩,kJ Jb.cj_r (by kernel_rfl)⟩,kL Jb.co_r (by kernel_rfl)⟩,kJ Jb.cT_r (by kernel_rfl)⟩ (by kernel_rfl)
end
end W
end
