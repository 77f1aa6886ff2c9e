/- Lifted functions, part 2: each with its contract. -/
import Derived.Test.YtaoipmnlocbaoaaGreatWa
import Derived.Test.YtaoipmnlocbaoaaGreatProg
set_option linter.all false
section
set_option maxHeartbeats 4000000
set_option maxRecDepth 100000
namespace W
open Go Go.Ql Go.Proofs
noncomputable section
variable {ρ:Type}
abbrev ff46:SD:=.one (.own 14 0)
def whole_Int_Text.ch_ (part:Int)(i:Int)(t14:List Int)(Z:(Int×Int×(List Int))⊕(Int×Int×(List Int))→Option ρ):Option ρ:=
 br (decide (i≥(0:Int)))
 (bnd (inR (List.length t14) i) fun y=>
 bnd (idx t14 i) fun y_1=>
 bnd (inR (List.length t14) i) fun y_2=>
 bnd (idx t14 i) fun y_3=>
 Z (.inl ((Int.tmod (ibits BinOp.or IntKind.u64 (IntKind.u64.wrap (part*(2:Int)^(32:Nat))) (IntKind.wrap IntKind.u64 y_1)) (1000000000:Int)),(IntKind.i64.wrap (i-(1:Int))),(List.set t14 (Int.toNat i) (IntKind.wrap IntKind.u32 (IntKind.u64.wrap (Int.tdiv (ibits BinOp.or IntKind.u64 (IntKind.u64.wrap (part*(2:Int)^(32:Nat))) (IntKind.wrap IntKind.u64 y_1)) (1000000000:Int))))))))
 (Z (.inr (part,i,t14)))
def whole_Int_Text.ch_s:Shape:=⟨[(0,ff40),(1,ff1),(2,ff4),(3,ff26),(4,ff46),(5,ff13),(6,ff5)],[(1,ff29),(3,ff45),(14,ff28)]⟩
def whole_Int_Text.ch_r:Ck:=Ck.ofLoop (S:=Int×Int×(List Int)) (T:=Int×Int×(List Int)) whole_Int_Text.ch_s (fun X=>(X.2.2.1,X.2.2.2.1,(q4 X).2.2.2.1)) (fun ρ X Q Z=>whole_Int_Text.ch_ Q.1 Q.2.1 Q.2.2 Z) (fun ρ X V Z=>Z 4 (Shape.inj whole_Int_Text.ch_s (X.1,X.2.1,V.1,V.2.1,(q4 X).1,(q4 X).2.1,(q4 X).2.2.1,V.2.2,())))
def whole_Int_Text.cu_ (t14:List Int)(Z:List Int→Option ρ):Option ρ:=
 bnd (inR (List.length t14) (IntKind.i64.wrap ((↑(List.length t14):Int)-(1:Int)))) fun y=>
 bnd (idx t14 (IntKind.i64.wrap ((↑(List.length t14):Int)-(1:Int)))) fun y_1=>
 br (y_1==(0:Int))
 (bnd (okIf (decide ((0:Int)≤IntKind.i64.wrap ((↑(List.length t14):Int)-(1:Int)))&&decide (IntKind.i64.wrap ((↑(List.length t14):Int)-(1:Int))≤(↑(List.length t14):Int)))) fun y_2=>
 Z (List.take (Int.toNat (IntKind.i64.wrap ((↑(List.length t14):Int)-(1:Int)))) t14))
 (Z t14)
def whole_Int_Text.cu_r:Ck:=Ck.of (T:=List Int) whole_Int_Text.ch_s (fun ρ X Z=>whole_Int_Text.cu_ (q4 X).2.2.2.1 Z) (fun ρ X V Z=>Z 0 (Shape.inj whole_Int_Text.ch_s (X.1,X.2.1,X.2.2.1,X.2.2.2.1,(q4 X).1,(q4 X).2.1,(q4 X).2.2.1,V,())))
def whole_Int_Text.c16 (part:Int)(t7:Int)(t14:List Int)(Z:Bool→Option ρ):Option ρ:=
 br (decide (t7<(9:Int)))
 (br (decide (part>(0:Int)))
 (Z true)
 (Z (decide ((↑(List.length t14):Int)>(0:Int)))))
 (Z false)
def whole_Int_Text.c16s:Shape:=⟨[(0,ff40),(1,ff1),(2,ff4),(3,ff26),(4,ff46),(5,ff13),(6,ff5),(7,ff5)],[(1,ff29),(3,ff45),(14,ff28)]⟩
def whole_Int_Text.c16x0:Shape:=⟨[(0,ff40),(1,ff1),(2,ff4),(3,ff26),(4,ff46),(5,ff13),(6,ff5),(7,ff5),(63,ff7)],[(1,ff29),(3,ff45),(14,ff28)]⟩
def whole_Int_Text.c16r:Ck:=Ck.of (T:=Bool) whole_Int_Text.c16s (fun ρ X Z=>whole_Int_Text.c16 X.2.2.1 (q4 X).1 (q8 X).1 Z) (fun ρ X V Z=>Z 0 (Shape.inj whole_Int_Text.c16x0 (X.1,X.2.1,X.2.2.1,X.2.2.2.1,(q4 X).1,V,(q4 X).2)))
def whole_Int_Text.ck_ (part:Int)(t7:Int)(out:List Int)(t14:List Int)(Z:(Int×Int×(List Int))⊕(Int×Int×(List Int))→Option ρ):Option ρ:=
 bnd (whole_Int_Text.c16 part t7 t14 some) fun y=>
 br y
 (bnd (okIf (decide ((List.length out+(1:Nat))*(1:Nat)≤(140737488355328:Nat))&&decide (List.length out+(1:Nat)≤(140737488355328:Nat)))) fun y_1=>
 Z (.inl ((IntKind.u64.wrap (Int.tdiv part (10:Int))),(IntKind.i64.wrap (t7+(1:Int))),(out++[IntKind.wrap IntKind.u8 (IntKind.u64.wrap ((48:Int)+Int.tmod part (10:Int)))]))))
 (Z (.inr (part,t7,out)))
def whole_Int_Text.ck_r:Ck:=Ck.ofLoop (S:=Int×Int×(List Int)) (T:=Int×Int×(List Int)) whole_Int_Text.c16s (fun X=>(X.2.2.1,(q4 X).1,(q4 X).2.2.2.1)) (fun ρ X Q Z=>whole_Int_Text.ck_ Q.1 Q.2.1 Q.2.2 (q8 X).1 Z) (fun ρ X V Z=>Z 6 (Shape.inj whole_Int_Text.c16s (X.1,X.2.1,V.1,X.2.2.2.1,V.2.1,(q4 X).2.1,(q4 X).2.2.1,V.2.2,(q8 X))))
def whole_Int_Text.cf_ (out:List Int)(t14:List Int)(Z:((List Int)×(List Int))⊕((List Int)×(List Int))→Option ρ):Option ρ:=
 br (decide ((↑(List.length t14):Int)>(0:Int)))
 (bnd (iter (fun s↦whole_Int_Text.ch_ s.1 s.2.1 s.2.2 some) ((0:Int),IntKind.i64.wrap ((↑(List.length t14):Int)-(1:Int)),t14)) fun y=>
 bnd (whole_Int_Text.cu_ y.2.2 some) fun y_1=>
 bnd (iter (fun s↦whole_Int_Text.ck_ s.1 s.2.1 s.2.2 y_1 some) (y.1,(0:Int),out)) fun y_2=>
 Z (.inl (y_2.2.2,y_1)))
 (Z (.inr (out,t14)))
def whole_Int_Text.cf_s:Shape:=⟨[(0,ff40),(1,ff1),(2,ff4),(3,ff26),(4,ff46)],[(1,ff29),(3,ff45),(14,ff28)]⟩
def whole_Int_Text.cf_r:Ck:=Ck.ofLoop (S:=(List Int)×(List Int)) (T:=(List Int)×(List Int)) whole_Int_Text.cf_s (fun X=>((q4 X).1,(q4 X).2.1)) (fun ρ X Q Z=>whole_Int_Text.cf_ Q.1 Q.2 Z) (fun ρ X V Z=>Z 2 (Shape.inj whole_Int_Text.cf_s (X.1,X.2.1,X.2.2.1,X.2.2.2.1,V.1,V.2,())))
def whole_Int_Text.cW_ (a0:Bool)(out:List Int)(Z:List Int→Option ρ):Option ρ:=
 br a0
 (bnd (okIf (decide ((List.length out+(1:Nat))*(1:Nat)≤(140737488355328:Nat))&&decide (List.length out+(1:Nat)≤(140737488355328:Nat)))) fun y=>
 Z (out++[(45:Int)]))
 (Z out)
def whole_Int_Text.cW_r:Ck:=Ck.of (T:=List Int) whole_Int_Text.cf_s (fun ρ X Z=>whole_Int_Text.cW_ X.2.2.1 (q4 X).1 Z) (fun ρ X V Z=>Z 0 (Shape.inj whole_Int_Text.cf_s (X.1,X.2.1,X.2.2.1,X.2.2.2.1,V,(q4 X).2)))
def whole_Int_Text (a:YD):Option (List UInt8):=
 br ((↑(List.length a.2):Int)==(0:Int))
 (some (Array.toList (ByteArray.data (ByteArray.mk #[48]))))
 (bnd (Jo a.2) fun y=>
 bnd (iter (fun s↦whole_Int_Text.cf_ s.1 s.2 some) ([],y.1)) fun y_1=>
 bnd (whole_Int_Text.cW_ a.1 y_1.1 some) fun y_2=>
 bnd (jt y_2) fun y_3=>
 some (List.map (fun n↦UInt8.ofNat (Int.toNat n)) y_3.1))
def whole_Int_Text.ce:Go.Ql.Callee:=⟨[(.st (.pair .bool (.sl (.int .u32))))],[.str],fun X=>whole_Int_Text X⟩
def whole_Int_Text.G:Env:=⟨84,tab,[],[0,1,2,3,4,5,6,7,11,17,22,47,63,76],[3,14],[],[(281925,whole_Int_Text.cW_r),(100005,whole_Int_Text.cf_r),(100016,whole_Int_Text.ck_r),(16,whole_Int_Text.c16r),(253253,whole_Int_Text.cu_r),(100008,whole_Int_Text.ch_r)],[(96,Jo.mc),(97,jt.mc)],jy⟩
theorem whole_Int_Text.p0:PcA whole_Int_Text.G Tryz.f76 0:=
 jW (s:=whole_Int_Text.cf_r) (by kernel_rfl) (by kernel_rfl) (jT (sh:=whole_Int_Text.cf_s) (I:=fun X Q=>(X.1,X.2.1,X.2.2.1,X.2.2.2.1,Q.1,Q.2,())) (fun X=>rfl) (fun ρ X Q Z=>(jl (jb fun _=>(jb fun _=>(jb fun _=>jc))) jc)) (fun ρ X t k=>(by kernel_rfl)) (fun X s=>by kernel_rfl))
theorem whole_Int_Text.p1:PcA whole_Int_Text.G Tryz.f76 1:=
 jW (s:=whole_Int_Text.ch_r) (by kernel_rfl) (by kernel_rfl) (jT (sh:=whole_Int_Text.ch_s) (I:=fun X Q=>(X.1,X.2.1,Q.1,Q.2.1,(q4 X).1,(q4 X).2.1,(q4 X).2.2.1,Q.2.2,())) (fun X=>rfl) (fun ρ X Q Z=>(jl (jb fun _=>(jb fun _=>(jb fun _=>(jb fun _=>jc)))) jc)) (fun ρ X t k=>(by kernel_rfl)) (fun X s=>by kernel_rfl))
theorem whole_Int_Text.p2:PcA whole_Int_Text.G Tryz.f76 2:=
 JE (s:=whole_Int_Text.cu_r) (by kernel_rfl) (by kernel_rfl) (jq (sh:=whole_Int_Text.ch_s) (fun ρ X Z=>(jb fun _=>(jb fun _=>(jl (jb fun _=>jc) jc)))) (fun ρ X t k=>(by kernel_rfl)) (fun X=>by kernel_rfl))
theorem whole_Int_Text.p3:PcA whole_Int_Text.G Tryz.f76 3:=
 jW (s:=whole_Int_Text.ck_r) (by kernel_rfl) (by kernel_rfl) (jT (sh:=whole_Int_Text.c16s) (I:=fun X Q=>(X.1,X.2.1,Q.1,X.2.2.2.1,Q.2.1,(q4 X).2.1,(q4 X).2.2.1,Q.2.2,(q8 X))) (fun X=>rfl) (fun ρ X Q Z=>(jb fun _=>(jl (jb fun _=>jc) jc))) (fun ρ X t k=>(by kernel_rfl)) (fun X s=>by kernel_rfl))
theorem whole_Int_Text.p4:PcA whole_Int_Text.G Tryz.f76 4:=
 js (s:=whole_Int_Text.c16r) (by kernel_rfl) (by kernel_rfl) (jq (sh:=whole_Int_Text.c16s) (fun ρ X Z=>(jl (jl jc jc) jc)) (fun ρ X t k=>(by kernel_rfl)) (fun X=>by kernel_rfl))
theorem whole_Int_Text.p5:PcA whole_Int_Text.G Tryz.f76 5:=
 JE (s:=whole_Int_Text.cW_r) (by kernel_rfl) (by kernel_rfl) (jq (sh:=whole_Int_Text.cf_s) (fun ρ X Z=>(jl (jb fun _=>jc) jc)) (fun ρ X t k=>(by kernel_rfl)) (fun X=>by kernel_rfl))
theorem whole_Int_Text.ok:CalleeOk Tryz.prog 76 whole_Int_Text.ce:=fn_ok (G:=whole_Int_Text.G) jG mixed Tryz.func76 ⟨jz,(kF Jo.ok (kF jt.ok jx)),jn⟩ (m:=6) (by kernel_rfl) ⟨⟨⟨⟨⟨⟨trivial,whole_Int_Text.p0⟩,whole_Int_Text.p1⟩,whole_Int_Text.p2⟩,whole_Int_Text.p3⟩,whole_Int_Text.p4⟩,whole_Int_Text.p5⟩ (by kernel_rfl) (fun _=>by kernel_rfl)
abbrev ff47:SD:=.one (.val (.st (.pair (.st (.pair .bool (.sl (.int .u32)))) (.st (.pair .bool (.sl (.int .u32)))))))
def whole_Frac_below.c1 (x2:Bool)(x3:List Int)(Z:YD→Option ρ):Option ρ:=
 bnd (whole_Of (1:Int)) fun y=>
 bnd (whole_Int_Add (x2,x3) y) fun y_1=>
 Z (y_1.1,y_1.2)
def whole_Frac_below.c1s:Shape:=⟨[(0,ff47),(1,ff1),(2,ff2)],[(1,ff44),(2,ff29)]⟩
def whole_Frac_below.c1r:Ck:=Ck.of (T:=YD) whole_Frac_below.c1s (fun ρ X Z=>whole_Frac_below.c1 X.2.2.2.1 (q4 X).1 Z) (fun ρ X V Z=>Z 0 (Shape.inj whole_Frac_below.c1s (X.1,X.2.1,X.2.2.1,X.2.2.2.1,(q4 X).1,V.1,V.2,())))
def whole_Frac_below (x:YD×YD):Option YD:=
 bnd (whole_Frac_below.c1 x.2.1 x.2.2 some) fun y=>
 some (y.1,y.2)
def whole_Frac_below.ce:Go.Ql.Callee:=⟨[(.st (.pair (.st (.pair .bool (.sl (.int .u32)))) (.st (.pair .bool (.sl (.int .u32))))))],[(.st (.pair .bool (.sl (.int .u32))))],fun X=>whole_Frac_below X⟩
def whole_Frac_below.G:Env:=⟨7,tab,[(17,whole_Of.ce),(75,whole_Int_Add.ce)],[0,1,2],[],[(1,[⟨[],[],[5],[]⟩,⟨[0],[],[5],[]⟩,⟨[],[],[3,4],[]⟩,⟨[1,0,2],[],[],[]⟩,⟨[3,1,0,2],[2],[],[]⟩])],[(1,whole_Frac_below.c1r)],[],jy⟩
theorem whole_Frac_below.p0:PcA whole_Frac_below.G Tryz.f69 0:=
 js (s:=whole_Frac_below.c1r) (by kernel_rfl) (by kernel_rfl) (jq (sh:=whole_Frac_below.c1s) (fun ρ X Z=>(jb fun _=>(jb fun _=>jc))) (fun ρ X t k=>(by kernel_rfl)) (fun X=>by kernel_rfl))
theorem whole_Frac_below.ok:CalleeOk Tryz.prog 69 whole_Frac_below.ce:=fn_ok (G:=whole_Frac_below.G) jG mixed Tryz.func69 ⟨(jj whole_Of.ok (jj whole_Int_Add.ok jz)),jx,jn⟩ (m:=1) (by kernel_rfl) ⟨trivial,whole_Frac_below.p0⟩ (by kernel_rfl) (fun _=>by kernel_rfl)
def whole_Frac_Text.c3 (x0:Bool)(x1:List Int)(x2:Bool)(x3:List Int)(Z:List UInt8→Option ρ):Option ρ:=
 bnd (whole_Int_Text (x0,x1)) fun y=>
 bnd (okIf (decide (List.length y+List.length (Array.toList (ByteArray.data (ByteArray.mk #[47])))≤(9223372036854775807:Nat)))) fun y_1=>
 bnd (whole_Frac_below ((x0,x1),x2,x3)) fun y_2=>
 bnd (whole_Int_Text y_2) fun y_3=>
 bnd (okIf (decide (List.length (y++Array.toList (ByteArray.data (ByteArray.mk #[47])))+List.length y_3≤(9223372036854775807:Nat)))) fun y4=>
 Z (y++Array.toList (ByteArray.data (ByteArray.mk #[47]))++y_3)
def whole_Frac_Text.c3s:Shape:=⟨[(0,ff47),(1,ff1),(2,ff4)],[(1,ff44)]⟩
def whole_Frac_Text.c3r:Ck:=Ck.of (T:=List UInt8) whole_Frac_Text.c3s (fun ρ X Z=>whole_Frac_Text.c3 X.2.2.1 X.2.2.2.1 (q4 X).1 (q4 X).2.1 Z) (fun ρ X V Z=>Z 0 (Shape.inj whole_Frac_Text.c3s (X.1,V,X.2.2)))
def whole_Frac_Text (x:YD×YD):Option (List UInt8):=
 bnd (whole_Int_Sign (x.2.1,x.2.2)) fun y=>
 br (y==(0:Int))
 (bnd (whole_Int_Text (x.1.1,x.1.2)) fun y_1=>
 some y_1)
 (bnd (whole_Frac_Text.c3 x.1.1 x.1.2 x.2.1 x.2.2 some) fun y_2=>
 some y_2)
def whole_Frac_Text.ce:Go.Ql.Callee:=⟨[(.st (.pair (.st (.pair .bool (.sl (.int .u32)))) (.st (.pair .bool (.sl (.int .u32))))))],[.str],fun X=>whole_Frac_Text X⟩
def whole_Frac_Text.G:Env:=⟨18,tab,[(66,whole_Int_Sign.ce),(76,whole_Int_Text.ce),(69,whole_Frac_below.ce)],[0,1,2,6],[],[(3,[⟨[],[],[14],[]⟩,⟨[0],[],[14],[]⟩,⟨[1,0],[],[14],[]⟩,⟨[2,1,0],[],[14,15,16],[]⟩,⟨[],[],[10,11,12,13],[]⟩,⟨[4,2,1,0],[],[13],[]⟩,⟨[5,4,2,1,0],[],[13],[]⟩,⟨[3,2,1,0,6,5,4],[],[],[]⟩,⟨[7,3,2,1,0,6,5,4],[],[],[]⟩])],[(3,whole_Frac_Text.c3r)],[],jy⟩
theorem whole_Frac_Text.p0:PcA whole_Frac_Text.G Tryz.f31 0:=
 js (s:=whole_Frac_Text.c3r) (by kernel_rfl) (by kernel_rfl) (jq (sh:=whole_Frac_Text.c3s) (fun ρ X Z=>(jb fun _=>(jb fun _=>(jb fun _=>(jb fun _=>(jb fun _=>jc)))))) (fun ρ X t k=>(by kernel_rfl)) (fun X=>by kernel_rfl))
theorem whole_Frac_Text.ok:CalleeOk Tryz.prog 31 whole_Frac_Text.ce:=fn_ok (G:=whole_Frac_Text.G) jG mixed Tryz.func31 ⟨(jj whole_Int_Sign.ok (jj whole_Int_Text.ok (jj whole_Frac_below.ok jz))),jx,jn⟩ (m:=1) (by kernel_rfl) ⟨trivial,whole_Frac_Text.p0⟩ (by kernel_rfl) (fun _=>by kernel_rfl)
def whole_ParseFrac.c3 (text:List UInt8)(n:Int)(ok:Bool)(Z:Bool→Option ρ):Option ρ:=
 br ok
 (br (decide (n<(↑(List.length text):Int)))
 (bnd (idx text n) fun y=>
 Z ((↑(UInt8.toNat y):Int)==(47:Int)))
 (Z false))
 (Z false)
def whole_ParseFrac.c3s:Shape:=⟨[(0,ff4),(2,ff2),(3,ff12),(4,ff5),(5,ff7),(6,ff4),(7,ff4),(8,ff7)],[(2,ff44),(3,ff19)]⟩
def whole_ParseFrac.c3x0:Shape:=⟨[(0,ff4),(2,ff2),(3,ff12),(4,ff5),(5,ff7),(6,ff4),(7,ff4),(8,ff7),(36,ff7)],[(2,ff44),(3,ff19)]⟩
def whole_ParseFrac.c3r:Ck:=Ck.of (T:=Bool) whole_ParseFrac.c3s (fun ρ X Z=>whole_ParseFrac.c3 X.1 X.2.1 X.2.2.1 Z) (fun ρ X V Z=>Z 0 (Shape.inj whole_ParseFrac.c3x0 (X.1,X.2.1,X.2.2.1,X.2.2.2.1,(q4 X).1,(q4 X).2.1,V,(q4 X).2.2)))
def whole_ParseFrac.cZ_ (text:List UInt8)(n:Int)(ok:Bool)(tail:List UInt8)(cut:Bool)(Z:Int×Bool×(List UInt8)×Bool→Option ρ):Option ρ:=
 bnd (whole_ParseFrac.c3 text n ok some) fun y=>
 br y
 (bnd (okIf (decide ((0:Int)≤IntKind.i64.wrap (n+(1:Int)))&&decide (IntKind.i64.wrap (n+(1:Int))≤(↑(List.length text):Int))&&decide ((↑(List.length text):Int)≤(↑(List.length text):Int)))) fun y_1=>
 bnd (whole_number (List.drop (Int.toNat (IntKind.i64.wrap (n+(1:Int)))) (List.take (Int.toNat (↑(List.length text):Int)) text)) false) fun y_2=>
 bnd (okIf (decide ((0:Int)≤IntKind.i64.wrap (n+(1:Int)))&&decide (IntKind.i64.wrap (n+(1:Int))≤IntKind.i64.wrap (IntKind.i64.wrap (n+(1:Int))+y_2.1))&&decide (IntKind.i64.wrap (IntKind.i64.wrap (n+(1:Int))+y_2.1)≤(↑(List.length text):Int)))) fun y_3=>
 Z ((IntKind.i64.wrap (IntKind.i64.wrap (n+(1:Int))+y_2.1)),y_2.2,(List.drop (Int.toNat (IntKind.i64.wrap (n+(1:Int)))) (List.take (Int.toNat (IntKind.i64.wrap (IntKind.i64.wrap (n+(1:Int))+y_2.1))) text)),true))
 (Z (n,ok,tail,cut))
def whole_ParseFrac.cZ_r:Ck:=Ck.of (T:=Int×Bool×(List UInt8)×Bool) whole_ParseFrac.c3s (fun ρ X Z=>whole_ParseFrac.cZ_ X.1 X.2.1 X.2.2.1 (q4 X).1 (q4 X).2.1 Z) (fun ρ X V Z=>Z 0 (Shape.inj whole_ParseFrac.c3s (X.1,V.1,V.2.1,X.2.2.2.1,V.2.2.1,V.2.2.2,(q4 X).2.2)))
def whole_ParseFrac.c6 (text:List UInt8)(n:Int)(ok:Bool)(Z:Bool→Option ρ):Option ρ:=
 br (!ok)
 (Z true)
 (Z (decide (n<(↑(List.length text):Int))))
def whole_ParseFrac.c6x0:Shape:=⟨[(0,ff4),(2,ff2),(3,ff12),(4,ff5),(5,ff7),(6,ff4),(7,ff4),(8,ff7),(65,ff7)],[(2,ff44),(3,ff19)]⟩
def whole_ParseFrac.c6r:Ck:=Ck.of (T:=Bool) whole_ParseFrac.c3s (fun ρ X Z=>whole_ParseFrac.c6 X.1 X.2.1 X.2.2.1 Z) (fun ρ X V Z=>Z 0 (Shape.inj whole_ParseFrac.c6x0 (X.1,X.2.1,X.2.2.1,X.2.2.2.1,(q4 X).1,(q4 X).2.1,V,(q4 X).2.2)))
def whole_ParseFrac.c8 (head:List UInt8)(tail:List UInt8)(Z:Bool→Option ρ):Option ρ:=
 bnd (Jq head (Array.toList (ByteArray.data (ByteArray.mk #[45])))) fun y=>
 br (decide ((↑(List.length y):Int)>(1000:Int)))
 (Z true)
 (Z (decide ((↑(List.length tail):Int)>(1000:Int))))
def whole_ParseFrac.c8x0:Shape:=⟨[(0,ff4),(2,ff2),(3,ff12),(4,ff5),(5,ff7),(6,ff4),(7,ff4),(8,ff7),(77,ff7)],[(2,ff44),(3,ff19)]⟩
def whole_ParseFrac.c8r:Ck:=Ck.of (T:=Bool) whole_ParseFrac.c3s (fun ρ X Z=>whole_ParseFrac.c8 X.2.2.2.1 (q4 X).1 Z) (fun ρ X V Z=>Z 0 (Shape.inj whole_ParseFrac.c8x0 (X.1,X.2.1,X.2.2.1,X.2.2.2.1,(q4 X).1,(q4 X).2.1,V,(q4 X).2.2)))
def whole_ParseFrac (text:List UInt8):Option ((YD×YD)×(Int×Int)):=
 bnd (whole_number text true) fun y=>
 bnd (okIf (decide ((0:Int)≤y.1)&&decide (y.1≤(↑(List.length text):Int)))) fun y_1=>
 bnd (whole_ParseFrac.cZ_ text y.1 y.2 (Array.toList (ByteArray.data (ByteArray.mk #[]))) false some) fun y_2=>
 bnd (whole_ParseFrac.c6 text y_2.1 y_2.2.1 some) fun y_3=>
 br y_3
 (some (((false,[]),false,[]),(1:Int),y_2.1))
 (bnd (whole_ParseFrac.c8 (List.take (Int.toNat y.1) text) y_2.2.2.1 some) fun y4=>
 br y4
 (some (((false,[]),false,[]),(2:Int),(0:Int)))
 (bnd (whole_Parse (List.take (Int.toNat y.1) text)) fun y5=>
 br (!y_2.2.2.2)
 (some (((y5.1.1,y5.1.2),false,[]),(0:Int),(0:Int)))
 (bnd (whole_Parse y_2.2.2.1) fun y6=>
 bnd (whole_lowest (y5.1.1,y5.1.2) (y6.1.1,y6.1.2)) fun y7=>
 bnd (whole_Frac_Text ((y7.1.1,y7.1.2),y7.2.1,y7.2.2)) fun y8=>
 br (!y8==text)
 (some (((false,[]),false,[]),(3:Int),(0:Int)))
 (some (((y7.1.1,y7.1.2),y7.2.1,y7.2.2),(0:Int),(0:Int))))))
def whole_ParseFrac.ce:Go.Ql.Callee:=⟨[.str],[(.st (.pair (.st (.pair .bool (.sl (.int .u32)))) (.st (.pair .bool (.sl (.int .u32)))))),(.st (.pair (.int .i64) (.int .i64)))],fun X=>whole_ParseFrac X⟩
def whole_ParseFrac.G:Env:=⟨106,tab,[(62,whole_number.ce),(63,Jq.ce),(64,whole_Parse.ce),(65,whole_lowest.ce),(31,whole_Frac_Text.ce)],[0,2,3,4,5,6,7,8,9,10,11,13,15,36,65,77,86,101],[],[],[(8,whole_ParseFrac.c8r),(6,whole_ParseFrac.c6r),(212295,whole_ParseFrac.cZ_r),(3,whole_ParseFrac.c3r)],[],jy⟩
theorem whole_ParseFrac.p0:PcA whole_ParseFrac.G Tryz.f15 0:=
 JE (s:=whole_ParseFrac.cZ_r) (by kernel_rfl) (by kernel_rfl) (jq (sh:=whole_ParseFrac.c3s) (fun ρ X Z=>(jb fun _=>(jl (jb fun _=>(jb fun _=>(jb fun _=>jc))) jc))) (fun ρ X t k=>(by kernel_rfl)) (fun X=>by kernel_rfl))
theorem whole_ParseFrac.p1:PcA whole_ParseFrac.G Tryz.f15 1:=
 js (s:=whole_ParseFrac.c3r) (by kernel_rfl) (by kernel_rfl) (jq (sh:=whole_ParseFrac.c3s) (fun ρ X Z=>(jl (jl (jb fun _=>jc) jc) jc)) (fun ρ X t k=>(by kernel_rfl)) (fun X=>by kernel_rfl))
theorem whole_ParseFrac.p2:PcA whole_ParseFrac.G Tryz.f15 2:=
 js (s:=whole_ParseFrac.c6r) (by kernel_rfl) (by kernel_rfl) (jq (sh:=whole_ParseFrac.c3s) (fun ρ X Z=>(jl jc jc)) (fun ρ X t k=>(by kernel_rfl)) (fun X=>by kernel_rfl))
theorem whole_ParseFrac.p3:PcA whole_ParseFrac.G Tryz.f15 3:=
 js (s:=whole_ParseFrac.c8r) (by kernel_rfl) (by kernel_rfl) (jq (sh:=whole_ParseFrac.c3s) (fun ρ X Z=>(jb fun _=>(jl jc jc))) (fun ρ X t k=>(by kernel_rfl)) (fun X=>by kernel_rfl))
theorem whole_ParseFrac.ok:CalleeOk Tryz.prog 15 whole_ParseFrac.ce:=fn_ok (G:=whole_ParseFrac.G) jG mixed Tryz.func15 ⟨(jj whole_number.ok (jj Jq.ok (jj whole_Parse.ok (jj whole_lowest.ok (jj whole_Frac_Text.ok jz))))),jx,jn⟩ (m:=4) (by kernel_rfl) ⟨⟨⟨⟨trivial,whole_ParseFrac.p0⟩,whole_ParseFrac.p1⟩,whole_ParseFrac.p2⟩,whole_ParseFrac.p3⟩ (by kernel_rfl) (fun _=>by kernel_rfl)
def whole_Over (a:YD) (b:YD):Option ((YD×YD)×(Int×Int)):=
 bnd (whole_Int_Sign (b.1,b.2)) fun y=>
 br (y==(0:Int))
 (some (((false,[]),false,[]),(4:Int),(0:Int)))
 (bnd (whole_lowest (a.1,a.2) (b.1,b.2)) fun y_1=>
 some (((y_1.1.1,y_1.1.2),y_1.2.1,y_1.2.2),(0:Int),(0:Int)))
def whole_Over.ce:Go.Ql.Callee:=⟨[(.st (.pair .bool (.sl (.int .u32)))),(.st (.pair .bool (.sl (.int .u32))))],[(.st (.pair (.st (.pair .bool (.sl (.int .u32)))) (.st (.pair .bool (.sl (.int .u32)))))),(.st (.pair (.int .i64) (.int .i64)))],fun X=>whole_Over X.1 X.2⟩
def whole_Over.G:Env:=⟨15,tab,[(66,whole_Int_Sign.ce),(65,whole_lowest.ce)],[0,1,2,3,4,5,8],[],[],[],[],jy⟩
theorem whole_Over.ok:CalleeOk Tryz.prog 16 whole_Over.ce:=fn_ok (G:=whole_Over.G) jG mixed Tryz.func16 ⟨(jj whole_Int_Sign.ok (jj whole_lowest.ok jz)),jx,jn⟩ (m:=0) (by kernel_rfl) trivial (by kernel_rfl) (fun _=>by kernel_rfl)
abbrev ff48:SD:=.one (.own 18 0)
def whole_Int_Mul.cd_ (i:Int)(x:Int)(carry:Int)(t28:List Int)(t29:Int)(t30:Int)(t18:List Int)(Z:(Int×Int×(List Int))⊕(Int×Int×(List Int))→Option ρ):Option ρ:=
 br (decide (t30<t29))
 (bnd (idx t28 t30) fun y=>
 bnd (inR (List.length t18) (IntKind.i64.wrap (i+t30))) fun y_1=>
 bnd (idx t18 (IntKind.i64.wrap (i+t30))) fun y_2=>
 bnd (inR (List.length t18) (IntKind.i64.wrap (i+t30))) fun y_3=>
 bnd (idx t18 (IntKind.i64.wrap (i+t30))) fun y4=>
 Z (.inl ((Int.fdiv (IntKind.u64.wrap (carry+IntKind.u64.wrap (IntKind.u64.wrap (IntKind.wrap IntKind.u64 x*IntKind.wrap IntKind.u64 y)+IntKind.wrap IntKind.u64 y_2))) ((2:Int)^(32:Nat))),(IntKind.i64.wrap (t30+(1:Int))),(List.set t18 (Int.toNat (IntKind.i64.wrap (i+t30))) (IntKind.wrap IntKind.u32 (IntKind.u64.wrap (carry+IntKind.u64.wrap (IntKind.u64.wrap (IntKind.wrap IntKind.u64 x*IntKind.wrap IntKind.u64 y)+IntKind.wrap IntKind.u64 y_2))))))))
 (Z (.inr (carry,t30,t18)))
def whole_Int_Mul.cd_s:Shape:=⟨[(0,ff40),(1,ff40),(2,ff2),(3,ff12),(4,ff6),(5,ff48),(6,ff5),(7,ff10),(8,ff13),(20,ff25),(21,ff5),(22,ff5),(28,ff25),(29,ff5),(30,ff5)],[(2,ff29),(3,ff29),(4,ff29),(18,ff28)]⟩
def whole_Int_Mul.cd_r:Ck:=Ck.ofLoop (S:=Int×Int×(List Int)) (T:=Int×Int×(List Int)) whole_Int_Mul.cd_s (fun X=>((q4 X).1,(q8 X).2.2.1,(q8 (q8 X)).2.1)) (fun ρ X Q Z=>whole_Int_Mul.cd_ X.2.2.1 X.2.2.2.1 Q.1 (q8 X).1 (q8 X).2.1 Q.2.1 Q.2.2 Z) (fun ρ X V Z=>Z 4 (Shape.inj whole_Int_Mul.cd_s (X.1,X.2.1,X.2.2.1,X.2.2.2.1,V.1,(q4 X).2.1,(q4 X).2.2.1,(q4 X).2.2.2.1,(q8 X).1,(q8 X).2.1,V.2.1,(q8 X).2.2.2.1,(q4 (q8 X)).1,(q4 (q8 X)).2.1,(q4 (q8 X)).2.2.1,(q4 (q8 X)).2.2.2.1,(q8 (q8 X)).1,V.2.2,())))
def whole_Int_Mul.ca_ (t20:List Int)(t21:Int)(t22:Int)(b1:List Int)(t18:List Int)(Z:(Int×(List Int))⊕(Int×(List Int))→Option ρ):Option ρ:=
 br (decide (t22<t21))
 (bnd (idx t20 t22) fun y=>
 bnd (iter (fun s↦whole_Int_Mul.cd_ t22 y s.1 b1 (↑(List.length b1):Int) s.2.1 s.2.2 some) ((0:Int),(0:Int),t18)) fun y_1=>
 bnd (inR (List.length y_1.2.2) (IntKind.i64.wrap (t22+(↑(List.length b1):Int)))) fun y_2=>
 bnd (idx y_1.2.2 (IntKind.i64.wrap (t22+(↑(List.length b1):Int)))) fun y_3=>
 Z (.inl ((IntKind.i64.wrap (t22+(1:Int))),(List.set y_1.2.2 (Int.toNat (IntKind.i64.wrap (t22+(↑(List.length b1):Int)))) (IntKind.wrap IntKind.u32 y_1.1)))))
 (Z (.inr (t22,t18)))
def whole_Int_Mul.ca_s:Shape:=⟨[(0,ff40),(1,ff40),(2,ff2),(3,ff12),(4,ff6),(5,ff48),(20,ff25),(21,ff5),(22,ff5)],[(2,ff29),(3,ff29),(4,ff29),(18,ff28)]⟩
def whole_Int_Mul.ca_r:Ck:=Ck.ofLoop (S:=Int×(List Int)) (T:=Int×(List Int)) whole_Int_Mul.ca_s (fun X=>((q4 X).1,(q8 X).2.2.2.1)) (fun ρ X Q Z=>whole_Int_Mul.ca_ X.2.2.1 X.2.2.2.1 Q.1 (q8 X).1 Q.2 Z) (fun ρ X V Z=>Z 2 (Shape.inj whole_Int_Mul.ca_s (X.1,X.2.1,X.2.2.1,X.2.2.2.1,V.1,(q4 X).2.1,(q4 X).2.2.1,(q4 X).2.2.2.1,(q8 X).1,(q8 X).2.1,(q8 X).2.2.1,V.2,())))
def whole_Int_Mul (a:YD) (b:YD):Option YD:=
 bnd (okIf (decide ((0:Int)≤IntKind.i64.wrap ((↑(List.length a.2):Int)+(↑(List.length b.2):Int)))&&decide (IntKind.i64.wrap ((↑(List.length a.2):Int)+(↑(List.length b.2):Int))≤IntKind.i64.wrap ((↑(List.length a.2):Int)+(↑(List.length b.2):Int)))&&decide (IntKind.i64.wrap ((↑(List.length a.2):Int)+(↑(List.length b.2):Int))*(↑(4:Nat):Int)≤(140737488355328:Int))&&decide (IntKind.i64.wrap ((↑(List.length a.2):Int)+(↑(List.length b.2):Int))≤(140737488355328:Int)))) fun y=>
 bnd (iter (fun s↦whole_Int_Mul.ca_ a.2 (↑(List.length a.2):Int) s.1 b.2 s.2 some) ((0:Int),List.replicate (Int.toNat (IntKind.i64.wrap ((↑(List.length a.2):Int)+(↑(List.length b.2):Int)))) (0:Int))) fun y_1=>
 bnd (whole_made (!a.1==b.1) y_1.2) fun y_2=>
 some (y_2.1,y_2.2)
def whole_Int_Mul.ce:Go.Ql.Callee:=⟨[(.st (.pair .bool (.sl (.int .u32)))),(.st (.pair .bool (.sl (.int .u32))))],[(.st (.pair .bool (.sl (.int .u32))))],fun X=>whole_Int_Mul X.1 X.2⟩
def whole_Int_Mul.G:Env:=⟨77,tab,[(67,whole_made.ce)],[0,1,2,3,4,5,6,7,8,9,10,20,21,22,23,28,29,30,31],[18],[],[(100003,whole_Int_Mul.ca_r),(100007,whole_Int_Mul.cd_r)],[],jy⟩
theorem whole_Int_Mul.p0:PcA whole_Int_Mul.G Tryz.f68 0:=
 jW (s:=whole_Int_Mul.ca_r) (by kernel_rfl) (by kernel_rfl) (jT (sh:=whole_Int_Mul.ca_s) (I:=fun X Q=>(X.1,X.2.1,X.2.2.1,X.2.2.2.1,Q.1,(q4 X).2.1,(q4 X).2.2.1,(q4 X).2.2.2.1,(q8 X).1,(q8 X).2.1,(q8 X).2.2.1,Q.2,())) (fun X=>rfl) (fun ρ X Q Z=>(jl (jb fun _=>(jb fun _=>(jb fun _=>(jb fun _=>jc)))) jc)) (fun ρ X t k=>(by kernel_rfl)) (fun X s=>by kernel_rfl))
theorem whole_Int_Mul.p1:PcA whole_Int_Mul.G Tryz.f68 1:=
 jW (s:=whole_Int_Mul.cd_r) (by kernel_rfl) (by kernel_rfl) (jT (sh:=whole_Int_Mul.cd_s) (I:=fun X Q=>(X.1,X.2.1,X.2.2.1,X.2.2.2.1,Q.1,(q4 X).2.1,(q4 X).2.2.1,(q4 X).2.2.2.1,(q8 X).1,(q8 X).2.1,Q.2.1,(q8 X).2.2.2.1,(q4 (q8 X)).1,(q4 (q8 X)).2.1,(q4 (q8 X)).2.2.1,(q4 (q8 X)).2.2.2.1,(q8 (q8 X)).1,Q.2.2,())) (fun X=>rfl) (fun ρ X Q Z=>(jl (jb fun _=>(jb fun _=>(jb fun _=>(jb fun _=>(jb fun _=>jc))))) jc)) (fun ρ X t k=>(by kernel_rfl)) (fun X s=>by kernel_rfl))
theorem whole_Int_Mul.ok:CalleeOk Tryz.prog 68 whole_Int_Mul.ce:=fn_ok (G:=whole_Int_Mul.G) jG mixed Tryz.func68 ⟨(jj whole_made.ok jz),jx,jn⟩ (m:=2) (by kernel_rfl) ⟨⟨trivial,whole_Int_Mul.p0⟩,whole_Int_Mul.p1⟩ (by kernel_rfl) (fun _=>by kernel_rfl)
def whole_Int_Cmp.c1 (a0:Bool)(a1:List Int)(b0:Bool)(b1:List Int)(Z:Int→Option ρ):Option ρ:=
 bnd (whole_Int_Sign (a0,a1)) fun y=>
 bnd (whole_Int_Sign (b0,b1)) fun y_1=>
 bnd (cmp_Compare_int y y_1) fun y_2=>
 Z y_2
def whole_Int_Cmp.c1s:Shape:=⟨[(0,ff40),(1,ff40),(2,ff2),(3,ff12),(4,ff5)],[(2,ff29),(3,ff29)]⟩
def whole_Int_Cmp.c1x0:Shape:=⟨[(0,ff40),(1,ff40),(2,ff2),(3,ff12),(4,ff5),(5,ff5)],[(2,ff29),(3,ff29)]⟩
def whole_Int_Cmp.c1r:Ck:=Ck.of (T:=Int) whole_Int_Cmp.c1s (fun ρ X Z=>whole_Int_Cmp.c1 X.2.2.2.1 (q4 X).1 (q4 X).2.1 (q4 X).2.2.1 Z) (fun ρ X V Z=>Z 0 (Shape.inj whole_Int_Cmp.c1x0 (X.1,X.2.1,X.2.2.1,V,X.2.2.2)))
def whole_Int_Cmp.c2 (c:Int)(a0:Bool)(a1:List Int)(Z:Bool→Option ρ):Option ρ:=
 br (c !=(0:Int))
 (Z true)
 (bnd (whole_Int_Sign (a0,a1)) fun y=>
 Z (y==(0:Int)))
def whole_Int_Cmp.c2x0:Shape:=⟨[(0,ff40),(1,ff40),(2,ff2),(3,ff12),(4,ff5),(5,ff5),(17,ff7)],[(2,ff29),(3,ff29)]⟩
def whole_Int_Cmp.c2r:Ck:=Ck.of (T:=Bool) whole_Int_Cmp.c1x0 (fun ρ X Z=>whole_Int_Cmp.c2 X.2.2.2.1 (q4 X).1 (q4 X).2.1 Z) (fun ρ X V Z=>Z 0 (Shape.inj whole_Int_Cmp.c2x0 (X.1,X.2.1,X.2.2.1,X.2.2.2.1,V,(q4 X))))
def whole_Int_Cmp.c4 (a0:Bool)(a1:List Int)(b1:List Int)(Z:Int→Option ρ):Option ρ:=
 bnd (whole_Int_Sign (a0,a1)) fun y=>
 bnd (whole_order a1 b1) fun y_1=>
 Z (IntKind.i64.wrap (y*y_1))
def whole_Int_Cmp.c4r:Ck:=Ck.of (T:=Int) whole_Int_Cmp.c1x0 (fun ρ X Z=>whole_Int_Cmp.c4 (q4 X).1 (q4 X).2.1 (q4 X).2.2.2.1 Z) (fun ρ X V Z=>Z 0 (Shape.inj whole_Int_Cmp.c1x0 (X.1,X.2.1,V,X.2.2.2)))
def whole_Int_Cmp (a:YD) (b:YD):Option Int:=
 bnd (whole_Int_Cmp.c1 a.1 a.2 b.1 b.2 some) fun y=>
 bnd (whole_Int_Cmp.c2 y a.1 a.2 some) fun y_1=>
 br y_1
 (some y)
 (bnd (whole_Int_Cmp.c4 a.1 a.2 b.2 some) fun y_2=>
 some y_2)
def whole_Int_Cmp.ce:Go.Ql.Callee:=⟨[(.st (.pair .bool (.sl (.int .u32)))),(.st (.pair .bool (.sl (.int .u32))))],[(.int .i64)],fun X=>whole_Int_Cmp X.1 X.2⟩
def whole_Int_Cmp.G:Env:=⟨27,tab,[(66,whole_Int_Sign.ce),(92,cmp_Compare_int.ce),(93,whole_order.ce)],[0,1,2,3,4,5,17],[],[(4,[⟨[],[],[21,22,23,24],[]⟩,⟨[0],[],[21,22,23,24],[]⟩,⟨[],[],[19,20,23,24],[]⟩,⟨[2],[],[19,20,23,24],[]⟩,⟨[],[],[19,20,21,22],[]⟩,⟨[4],[],[19,20,21,22],[]⟩,⟨[3,2,5,4,1,0],[],[],[]⟩,⟨[1,0,6,3,2,5,4],[],[],[]⟩,⟨[7,1,0,6,3,2,5,4],[],[],[]⟩]),
 (1,[⟨[],[],[8],[]⟩,⟨[0],[],[8],[]⟩,⟨[],[],[6,7],[]⟩,⟨[2,1,0],[],[],[]⟩,⟨[1,0,3,2],[],[],[]⟩,⟨[4,1,0,3,2],[],[],[]⟩])],[(4,whole_Int_Cmp.c4r),(2,whole_Int_Cmp.c2r),(1,whole_Int_Cmp.c1r)],[],jy⟩
theorem whole_Int_Cmp.p0:PcA whole_Int_Cmp.G Tryz.f70 0:=
 js (s:=whole_Int_Cmp.c1r) (by kernel_rfl) (by kernel_rfl) (jq (sh:=whole_Int_Cmp.c1s) (fun ρ X Z=>(jb fun _=>(jb fun _=>(jb fun _=>jc)))) (fun ρ X t k=>(by kernel_rfl)) (fun X=>by kernel_rfl))
theorem whole_Int_Cmp.p1:PcA whole_Int_Cmp.G Tryz.f70 1:=
 js (s:=whole_Int_Cmp.c2r) (by kernel_rfl) (by kernel_rfl) (jq (sh:=whole_Int_Cmp.c1x0) (fun ρ X Z=>(jl jc (jb fun _=>jc))) (fun ρ X t k=>(by kernel_rfl)) (fun X=>by kernel_rfl))
theorem whole_Int_Cmp.p2:PcA whole_Int_Cmp.G Tryz.f70 2:=
 js (s:=whole_Int_Cmp.c4r) (by kernel_rfl) (by kernel_rfl) (jq (sh:=whole_Int_Cmp.c1x0) (fun ρ X Z=>(jb fun _=>(jb fun _=>jc))) (fun ρ X t k=>(by kernel_rfl)) (fun X=>by kernel_rfl))
theorem whole_Int_Cmp.ok:CalleeOk Tryz.prog 70 whole_Int_Cmp.ce:=fn_ok (G:=whole_Int_Cmp.G) jG mixed Tryz.func70 ⟨(jj whole_Int_Sign.ok (jj cmp_Compare_int.ok (jj whole_order.ok jz))),jx,jn⟩ (m:=3) (by kernel_rfl) ⟨⟨⟨trivial,whole_Int_Cmp.p0⟩,whole_Int_Cmp.p1⟩,whole_Int_Cmp.p2⟩ (by kernel_rfl) (fun _=>by kernel_rfl)
def whole_Frac_Cmp.c1 (x0:Bool)(x1:List Int)(x2:Bool)(x3:List Int)(y0:Bool)(y1:List Int)(y2:Bool)(y3:List Int)(Z:Int→Option ρ):Option ρ:=
 bnd (whole_Frac_below ((y0,y1),y2,y3)) fun y_1=>
 bnd (whole_Int_Mul (x0,x1) y_1) fun y_2=>
 bnd (whole_Frac_below ((x0,x1),x2,x3)) fun y_3=>
 bnd (whole_Int_Mul (y0,y1) y_3) fun y4=>
 bnd (whole_Int_Cmp y_2 y4) fun y5=>
 Z y5
def whole_Frac_Cmp.c1s:Shape:=⟨[(0,ff47),(1,ff47),(2,ff2),(3,ff12),(4,ff5)],[(2,ff44),(3,ff44)]⟩
def whole_Frac_Cmp.c1r:Ck:=Ck.of (T:=Int) whole_Frac_Cmp.c1s (fun ρ X Z=>whole_Frac_Cmp.c1 X.2.2.2.1 (q4 X).1 (q4 X).2.1 (q4 X).2.2.1 (q4 X).2.2.2.1 (q8 X).1 (q8 X).2.1 (q8 X).2.2.1 Z) (fun ρ X V Z=>Z 0 (Shape.inj whole_Frac_Cmp.c1s (X.1,X.2.1,V,X.2.2.2)))
def whole_Frac_Cmp (x:YD×YD) (y:YD×YD):Option Int:=
 bnd (whole_Frac_Cmp.c1 x.1.1 x.1.2 x.2.1 x.2.2 y.1.1 y.1.2 y.2.1 y.2.2 some) fun y_1=>
 some y_1
def whole_Frac_Cmp.ce:Go.Ql.Callee:=⟨[(.st (.pair (.st (.pair .bool (.sl (.int .u32)))) (.st (.pair .bool (.sl (.int .u32)))))),(.st (.pair (.st (.pair .bool (.sl (.int .u32)))) (.st (.pair .bool (.sl (.int .u32))))))],[(.int .i64)],fun X=>whole_Frac_Cmp X.1 X.2⟩
def whole_Frac_Cmp.G:Env:=⟨16,tab,[(69,whole_Frac_below.ce),(68,whole_Int_Mul.ce),(70,whole_Int_Cmp.ce)],[0,1,2,3,4],[],[(1,[⟨[],[],[7,8,10,11,12],[]⟩,⟨[0],[],[7,8,10,11,12],[]⟩,⟨[],[],[5,6,10,11,12],[]⟩,⟨[2],[],[5,6,10,11,12],[]⟩,⟨[1,0,3,2],[],[10,11,12],[]⟩,⟨[],[],[5,6,7,8,9,12,13],[]⟩,⟨[5],[],[5,6,7,8,9,12,13],[]⟩,⟨[],[],[5,6,7,8,9,10,11],[]⟩,⟨[7,4,1,0,3,2],[],[10,11],[]⟩,⟨[6,5,8,7,4,1,0,3,2],[],[],[]⟩,⟨[4,1,0,3,2,9,6,5,8,7],[],[],[]⟩,⟨[10,4,1,0,3,2,9,6,5,8,7],[],[],[]⟩])],[(1,whole_Frac_Cmp.c1r)],[],jy⟩
theorem whole_Frac_Cmp.p0:PcA whole_Frac_Cmp.G Tryz.f18 0:=
 js (s:=whole_Frac_Cmp.c1r) (by kernel_rfl) (by kernel_rfl) (jq (sh:=whole_Frac_Cmp.c1s) (fun ρ X Z=>(jb fun _=>(jb fun _=>(jb fun _=>(jb fun _=>(jb fun _=>jc)))))) (fun ρ X t k=>(by kernel_rfl)) (fun X=>by kernel_rfl))
theorem whole_Frac_Cmp.ok:CalleeOk Tryz.prog 18 whole_Frac_Cmp.ce:=fn_ok (G:=whole_Frac_Cmp.G) jG mixed Tryz.func18 ⟨(jj whole_Frac_below.ok (jj whole_Int_Mul.ok (jj whole_Int_Cmp.ok jz))),jx,jn⟩ (m:=1) (by kernel_rfl) ⟨trivial,whole_Frac_Cmp.p0⟩ (by kernel_rfl) (fun _=>by kernel_rfl)
abbrev ff49:SD:=.one (.val (.sl (.int .i64)))
abbrev ff50:SD:=.one (.own 10 0)
abbrev ff51:SO:=.arr 0 false 3 (.int .i64)
def jV.cJ_ (t11:List YP)(t13:Int)(p0:Int)(p1:Int)(p2:Bool)(t10:List Int)(Z:List Int→Option ρ):Option ρ:=
 bnd (idx t11 t13) fun y=>
 bnd (Jl (y.1,y.2.1,y.2.2) (p0,p1,p2)) fun y_1=>
 br y_1
 (bnd (inR (List.length t10) t13) fun y_2=>
 bnd (idx t10 t13) fun y_3=>
 Z (List.set t10 (Int.toNat t13) (1:Int)))
 (Z t10)
def jV.cJ_s:Shape:=⟨[(0,ff17),(1,ff11),(3,ff12),(4,ff49),(5,ff50),(11,ff17),(12,ff5),(13,ff5)],[(3,ff9),(10,ff51)]⟩
def jV.cJ_r:Ck:=Ck.of (T:=List Int) jV.cJ_s (fun ρ X Z=>jV.cJ_ X.2.2.2.1 (q4 X).2.1 (q4 X).2.2.1 (q4 X).2.2.2.1 (q8 X).1 (q8 X).2.1 Z) (fun ρ X V Z=>Z 0 (Shape.inj jV.cJ_s (X.1,X.2.1,X.2.2.1,X.2.2.2.1,(q4 X).1,(q4 X).2.1,(q4 X).2.2.1,(q4 X).2.2.2.1,(q8 X).1,V,())))
def jV.ca_ (t11:List YP)(t12:Int)(t13:Int)(p0:Int)(p1:Int)(p2:Bool)(t10:List Int)(Z:(Int×(List Int))⊕(Int×(List Int))→Option ρ):Option ρ:=
 br (decide (t13<t12))
 (bnd (jV.cJ_ t11 t13 p0 p1 p2 t10 some) fun y=>
 Z (.inl ((IntKind.i64.wrap (t13+(1:Int))),y)))
 (Z (.inr (t13,t10)))
def jV.ca_r:Ck:=Ck.ofLoop (S:=Int×(List Int)) (T:=Int×(List Int)) jV.cJ_s (fun X=>((q4 X).2.1,(q8 X).2.1)) (fun ρ X Q Z=>jV.ca_ X.2.2.2.1 (q4 X).1 Q.1 (q4 X).2.2.1 (q4 X).2.2.2.1 (q8 X).1 Q.2 Z) (fun ρ X V Z=>Z 2 (Shape.inj jV.cJ_s (X.1,X.2.1,X.2.2.1,X.2.2.2.1,(q4 X).1,V.1,(q4 X).2.2.1,(q4 X).2.2.2.1,(q8 X).1,V.2,())))
def jV (l:List YP) (p:YP):Option (List Int):=
 bnd (okIf (decide ((0:Int)≤(↑(List.length l):Int))&&decide ((↑(List.length l):Int)≤(↑(List.length l):Int))&&decide ((↑(List.length l):Int)*(↑(8:Nat):Int)≤(140737488355328:Int))&&decide ((↑(List.length l):Int)≤(140737488355328:Int)))) fun y=>
 bnd (iter (fun s↦jV.ca_ l (↑(List.length l):Int) s.1 p.1 p.2.1 p.2.2 s.2 some) ((0:Int),List.replicate (Int.toNat (↑(List.length l):Int)) (0:Int))) fun y_1=>
 some y_1.2
def jV.ce:Go.Ql.Callee:=⟨[(.sl (.st (.pair (.int .u64) (.pair (.int .u64) .bool)))),(.st (.pair (.int .u64) (.pair (.int .u64) .bool)))],[(.sl (.int .i64))],fun X=>jV X.1 X.2⟩
def jV.G:Env:=⟨26,tab,[(60,Jl.ce)],[0,1,3,4,5,6,7,11,12,13,14,20],[10],[],[(100003,jV.ca_r),(216392,jV.cJ_r)],[],jy⟩
theorem jV.p0:PcA jV.G Tryz.f24 0:=
 jW (s:=jV.ca_r) (by kernel_rfl) (by kernel_rfl) (jT (sh:=jV.cJ_s) (I:=fun X Q=>(X.1,X.2.1,X.2.2.1,X.2.2.2.1,(q4 X).1,Q.1,(q4 X).2.2.1,(q4 X).2.2.2.1,(q8 X).1,Q.2,())) (fun X=>rfl) (fun ρ X Q Z=>(jl (jb fun _=>jc) jc)) (fun ρ X t k=>(by kernel_rfl)) (fun X s=>by kernel_rfl))
theorem jV.p1:PcA jV.G Tryz.f24 1:=
 JE (s:=jV.cJ_r) (by kernel_rfl) (by kernel_rfl) (jq (sh:=jV.cJ_s) (fun ρ X Z=>(jb fun _=>(jb fun _=>(jl (jb fun _=>(jb fun _=>jc)) jc)))) (fun ρ X t k=>(by kernel_rfl)) (fun X=>by kernel_rfl))
theorem jV.ok:CalleeOk Tryz.prog 24 jV.ce:=fn_ok (G:=jV.G) jG mixed Tryz.func24 ⟨(jj Jl.ok jz),jx,jn⟩ (m:=2) (by kernel_rfl) ⟨⟨trivial,jV.p0⟩,jV.p1⟩ (by kernel_rfl) (fun _=>by kernel_rfl)
def Jf.ca_ (n:Int)(t6:List Int)(t7:Int)(t8:Int)(Z:(Int×Int)⊕(Int×Int)→Option ρ):Option ρ:=
 br (decide (t8<t7))
 (bnd (idx t6 t8) fun y=>
 bnd (okIf (decide ((0:Int)≤t8))) fun y_1=>
 Z (.inl ((ibits BinOp.or IntKind.i64 n (IntKind.i64.wrap (y*(2:Int)^Min.min (Int.toNat t8) (64:Nat)))),(IntKind.i64.wrap (t8+(1:Int))))))
 (Z (.inr (n,t8)))
def Jf.ca_s:Shape:=⟨[(0,ff49),(2,ff5),(3,ff5),(6,ff49),(7,ff5),(8,ff5)],[]⟩
def Jf.ca_r:Ck:=Ck.ofLoop (S:=Int×Int) (T:=Int×Int) Jf.ca_s (fun X=>(X.2.2.1,(q4 X).2.1)) (fun ρ X Q Z=>Jf.ca_ Q.1 X.2.2.2.1 (q4 X).1 Q.2 Z) (fun ρ X V Z=>Z 2 (Shape.inj Jf.ca_s (X.1,X.2.1,V.1,X.2.2.2.1,(q4 X).1,V.2,())))
def Jf (s:List Int):Option Int:=
 bnd (iter (fun s_1↦Jf.ca_ s_1.1 s (↑(List.length s):Int) s_1.2 some) ((0:Int),(0:Int))) fun y=>
 some y.1
def Jf.ce:Go.Ql.Callee:=⟨[(.sl (.int .i64))],[(.int .i64)],fun X=>Jf X⟩
def Jf.G:Env:=⟨20,tab,[],[0,2,3,4,5,6,7,8,9],[],[],[(100003,Jf.ca_r)],[],jy⟩
theorem Jf.p0:PcA Jf.G Tryz.f23 0:=
 jW (s:=Jf.ca_r) (by kernel_rfl) (by kernel_rfl) (jT (sh:=Jf.ca_s) (I:=fun X Q=>(X.1,X.2.1,Q.1,X.2.2.2.1,(q4 X).1,Q.2,())) (fun X=>rfl) (fun ρ X Q Z=>(jl (jb fun _=>(jb fun _=>jc)) jc)) (fun ρ X t k=>(by kernel_rfl)) (fun X s=>by kernel_rfl))
theorem Jf.ok:CalleeOk Tryz.prog 23 Jf.ce:=fn_ok (G:=Jf.G) jG mixed Tryz.func23 ⟨jz,jx,jn⟩ (m:=1) (by kernel_rfl) ⟨trivial,Jf.p0⟩ (by kernel_rfl) (fun _=>by kernel_rfl)
abbrev ff52:SD:=.one (.ref 1000200 0)
abbrev ff53:SD:=.one (.ref 1000300 0)
abbrev ff54:SD:=.one (.ref 1000400 0)
abbrev ff55:SO:=.box [.val (.sl (.st (.pair (.int .u64) (.pair (.int .u64) .bool))))]
abbrev ff56:SO:=.box [.own 2000300 0]
abbrev ff57:SO:=.box [.own 2000400 0]
def Ji.pre:Shape:=⟨[(0,ff11),(1,ff5),(2,ff52),(3,ff53),(4,ff54)],[(1000200,ff55),(1000300,ff56),(1000400,ff57),(2000300,ff51),(2000400,ff22)]⟩
def Ji.post:Shape:=⟨[],[(1000200,ff55),(1000300,ff56),(1000400,ff57),(2000300,ff51),(2000400,ff22)]⟩
def Ji.c3 (s:Int)(ue:List Int)(uf:List YP)(Z:Unit→Option ρ):Option ρ:=
 bnd (inR (List.length uf) s) fun y=>
 bnd (idx uf s) fun y_1=>
 bnd (inR (List.length ue) s) fun y_2=>
 bnd (idx ue s) fun y_3=>
 Z ()
def Ji.c3s:Shape:=⟨[(0,ff11),(1,ff5),(2,ff52),(3,ff53),(4,ff54),(5,ff41),(7,ff5)],[(5,ff9),(1000200,ff55),(1000300,ff56),(1000400,ff57),(2000300,ff51),(2000400,ff22)]⟩
def Ji.c3r:Ck:=Ck.of (T:=Unit) Ji.c3s (fun ρ X Z=>Ji.c3 X.2.2.1 (q4 X).2.2.2.1 (q8 X).1 Z) (fun ρ X V Z=>Z 0 (Shape.inj Ji.c3s (X.1,X.2.1,X.2.2.1,X.2.2.2.1,(q4 X).1,(q4 X).2.1,(q4 X).2.2.1,(List.set (q4 X).2.2.2.1 (Int.toNat X.2.2.1) X.2.1),(List.set (q8 X).1 (Int.toNat X.2.2.1) (X.2.2.2.1,(q4 X).1,(q4 X).2.1)),())))
def Ji (p:YP) (weight:Int) (ub:List YP) (ue:List Int) (uf:List YP):Option ((List YP)×(List Int)×(List YP)×Unit):=
 bnd (jV ub (p.1,p.2.1,p.2.2)) fun y=>
 bnd (Jf y) fun y_1=>
 bnd (inR (List.length ue) y_1) fun y_2=>
 bnd (idx ue y_1) fun y_3=>
 br (decide (weight<y_3))
 (bnd (Ji.c3 y_1 ue uf some) fun y4=>
 some (ub,List.set ue (Int.toNat y_1) weight,List.set uf (Int.toNat y_1) (p.1,p.2.1,p.2.2),()))
 (some (ub,ue,uf,()))
def Ji.mc:MCallee:=⟨71,Ji.pre,Ji.post,fun X=>Ji X.1 X.2.1 X.2.2.1 X.2.2.2.1 (q4 X).1⟩
def Ji.G:Env:=⟨26,tab,[(24,jV.ce),(23,Jf.ce)],[0,1,2,3,4,5,7,17],[1000200,1000300,1000400,2000300,2000400],[(3,[⟨[],[],[19,20,21,22,23],[]⟩,⟨[],[],[18,20,21,22,23],[]⟩,⟨[],[],[18,19,21,22,23,24],[2000400]⟩,⟨[],[],[18,19,20,22,23,24],[2000400]⟩,⟨[],[],[18,19,20,21,23],[]⟩,⟨[],[],[18,19,20,21,22,24],[2000400]⟩,⟨[0,1,4],[],[20,21,23],[]⟩,⟨[6,0,1,4],[2000400],[20,21,23],[]⟩,⟨[2,3,0,1,4,5,6,7],[],[],[]⟩,⟨[8,2,3,0,1,4,5,6,7],[2000300],[],[]⟩])],[(3,Ji.c3r)],[],jy⟩
theorem Ji.p0:PcA Ji.G Tryz.f71 0:=
 js (s:=Ji.c3r) (by kernel_rfl) (by kernel_rfl) (jq (sh:=Ji.c3s) (fun ρ X Z=>(jb fun _=>(jb fun _=>(jb fun _=>(jb fun _=>jc))))) (fun ρ X t k=>(by kernel_rfl)) (fun X=>by kernel_rfl))
theorem Ji.ok:MOk Tryz.prog 71 Ji.mc:=YW (mc:=Ji.mc) (G:=Ji.G) jG mixed Tryz.func71 ⟨(jj jV.ok (jj Jf.ok jz)),jx,jn⟩ (m:=1) (by kernel_rfl) ⟨trivial,Ji.p0⟩ (by kernel_rfl) (fun _=>by kernel_rfl)
abbrev ff58:SD:=.one (.ref 1000100 0)
abbrev ff59:SD:=.one (.ref 1000110 0)
abbrev ff60:SD:=.one (.ref 1000120 0)
abbrev ff61:SD:=.one (.ref 1000130 0)
abbrev ff62:SO:=.box [.val (.int .i64)]
abbrev ff63:SO:=.box [.own 2000110 0]
abbrev ff64:SO:=.box [.clo 1000140]
abbrev ff65:SO:=.box [.clo 1000150]
abbrev ff66:SO:=.clo 71 [] [.ref 1000200 0,.ref 1000300 0,.ref 1000400 0]
abbrev ff67:SO:=.clo 72 [] [.ref 1000100 0,.ref 1000110 0,.ref 1000120 0,.ref 1000130 0]
abbrev ff68:SD:=.one (.val (.int .u8))
def jf.self.pre:Shape:=⟨[(0,ff5),(1,ff5),(2,ff58),(3,ff59),(4,ff60),(5,ff61)],[(1000100,ff62),(1000110,ff63),(1000120,ff64),(1000130,ff65),(1000140,ff66),(1000150,ff67),(1000200,ff55),(1000300,ff56),(1000400,ff57),(2000110,ff45),(2000300,ff51),(2000400,ff22)]⟩
def jf.self.post:Shape:=⟨[],[(1000100,ff62),(1000110,ff63),(1000120,ff64),(1000130,ff65),(1000140,ff66),(1000150,ff67),(1000200,ff55),(1000300,ff56),(1000400,ff57),(2000110,ff45),(2000300,ff51),(2000400,ff22)]⟩
class jf.Self where
 F:densU jf.self.pre.tys→Option (densU jf.self.post.tys)
 ok:MOk Tryz.prog 72 ⟨72,jf.self.pre,jf.self.post,F⟩
section
variable [jf.Self]
def jf.self (X:densU jf.self.pre.tys):Option (densU jf.self.post.tys):=jf.Self.F X
def jf.self.mc:MCallee:=⟨72,jf.self.pre,jf.self.post,fun X=>jf.self X⟩
theorem jf.self.ok:MOk Tryz.prog 72 jf.self.mc:=jf.Self.ok
def jf.pre:Shape:=⟨[(0,ff5),(1,ff5),(2,ff58),(3,ff59),(4,ff60),(5,ff61)],[(1000100,ff62),(1000110,ff63),(1000120,ff64),(1000130,ff65),(1000140,ff66),(1000150,ff67),(1000200,ff55),(1000300,ff56),(1000400,ff57),(2000110,ff45),(2000300,ff51),(2000400,ff22)]⟩
def jf.post:Shape:=⟨[],[(1000100,ff62),(1000110,ff63),(1000120,ff64),(1000130,ff65),(1000140,ff66),(1000150,ff67),(1000200,ff55),(1000300,ff56),(1000400,ff57),(2000110,ff45),(2000300,ff51),(2000400,ff22)]⟩
def jf.co_ {ρ:Type} (c:Int)(w:Int)(Z:Int→Option ρ):Option ρ:=
 br (c !=(73:Int))
 (Z (IntKind.i64.wrap (w+(1:Int))))
 (Z w)
def jf.co_s:Shape:=⟨[(0,ff5),(1,ff5),(2,ff58),(3,ff59),(4,ff60),(5,ff61),(11,ff68),(12,ff5),(28,ff27),(29,ff5),(30,ff5)],[(1000100,ff62),(1000110,ff63),(1000120,ff64),(1000130,ff65),(1000140,ff66),(1000150,ff67),(1000200,ff55),(1000300,ff56),(1000400,ff57),(2000110,ff45),(2000300,ff51),(2000400,ff22)]⟩
def jf.co_r:Ck:=Ck.of (T:=Int) jf.co_s (fun ρ X Z=>jf.co_ X.2.2.1 X.2.2.2.1 Z) (fun ρ X V Z=>Z 0 (Shape.inj jf.co_s (X.1,X.2.1,X.2.2.1,V,(q4 X))))
def jf.cb_ {ρ:Type} (q:Int)(weight:Int)(t28:List Int)(t29:Int)(t30:Int)(ua:Int)(ub:List YP)(ud:List Int)(ue:List Int)(uf:List YP)(Z:(Int×Int×(List YP)×(List Int)×(List Int)×(List YP))⊕(Int×Int×(List YP)×(List Int)×(List Int)×(List YP))→Option ρ):Option ρ:=
 br (decide (t30<t29))
 (bnd (idx t28 t30) fun y=>
 bnd (inR (List.length ud) (IntKind.i64.wrap (q+(1:Int)))) fun y_1=>
 bnd (idx ud (IntKind.i64.wrap (q+(1:Int)))) fun y_2=>
 bnd (jf.co_ y weight some) fun y_3=>
 bnd (jf.self (IntKind.i64.wrap (q+(1:Int)),y_3,ua,ub,List.set ud (Int.toNat (IntKind.i64.wrap (q+(1:Int)))) y,ue,uf,())) fun y4=>
 Z (.inl ((IntKind.i64.wrap (t30+(1:Int))),y4.1,y4.2.1,y4.2.2.1,y4.2.2.2.1,y4.2.2.2.2.1)))
 (Z (.inr (t30,ua,ub,ud,ue,uf)))
def jf.cb_s:Shape:=⟨[(0,ff5),(1,ff5),(2,ff58),(3,ff59),(4,ff60),(5,ff61),(28,ff27),(29,ff5),(30,ff5)],[(1000100,ff62),(1000110,ff63),(1000120,ff64),(1000130,ff65),(1000140,ff66),(1000150,ff67),(1000200,ff55),(1000300,ff56),(1000400,ff57),(2000110,ff45),(2000300,ff51),(2000400,ff22)]⟩
def jf.cb_r:Ck:=Ck.ofLoop (S:=Int×Int×(List YP)×(List Int)×(List Int)×(List YP)) (T:=Int×Int×(List YP)×(List Int)×(List Int)×(List YP)) jf.cb_s (fun X=>((q4 X).1,(q4 X).2.1,(q4 X).2.2.1,(q4 X).2.2.2.1,(q8 X).1,(q8 X).2.1)) (fun ρ X Q Z=>jf.cb_ X.1 X.2.1 X.2.2.1 X.2.2.2.1 Q.1 Q.2.1 Q.2.2.1 Q.2.2.2.1 Q.2.2.2.2.1 Q.2.2.2.2.2 Z) (fun ρ X V Z=>Z 2 (Shape.inj jf.cb_s (X.1,X.2.1,X.2.2.1,X.2.2.2.1,V.1,V.2.1,V.2.2.1,V.2.2.2.1,V.2.2.2.2.1,V.2.2.2.2.2,())))
def jf (q:Int) (weight:Int) (ua:Int) (ub:List YP) (ud:List Int) (ue:List Int) (uf:List YP):Option (Int×(List YP)×(List Int)×(List Int)×(List YP)×Unit):=
 br (q==ua)
 (bnd (JD (List.map (fun n↦UInt8.ofNat (Int.toNat n)) ud) ua) fun y=>
 bnd (Ji (y.1.1,y.1.2.1,y.1.2.2) weight ub ue uf) fun y_1=>
 some (ua,y_1.1,ud,y_1.2.1,y_1.2.2.1,()))
 (bnd (iter (fun s↦jf.cb_ q weight [(73:Int),(88:Int),(89:Int),(90:Int)] (↑(4:Nat):Int) s.1 s.2.1 s.2.2.1 s.2.2.2.1 s.2.2.2.2.1 s.2.2.2.2.2 some) ((0:Int),ua,ub,ud,ue,uf)) fun y_2=>
 some (y_2.2.1,y_2.2.2.1,y_2.2.2.2.1,y_2.2.2.2.2.1,y_2.2.2.2.2.2,()))
def jf.mc:MCallee:=⟨72,jf.pre,jf.post,fun X=>jf X.1 X.2.1 X.2.2.1 X.2.2.2.1 (q4 X).1 (q4 X).2.1 (q4 X).2.2.1⟩
def jf.G:Env:=⟨50,tab,[(59,JD.ce)],[0,1,2,3,4,5,8,11,12,15,28,29,30,31,41],[1000100,1000110,1000120,1000130,1000140,1000150,1000200,1000300,1000400,2000110,2000300,2000400],[],[(100004,jf.cb_r),(232773,jf.co_r)],[(71,Ji.mc),(72,jf.self.mc)],jy⟩
theorem jf.p0:PcA jf.G Tryz.f72 0:=
 jW (s:=jf.cb_r) (by kernel_rfl) (by kernel_rfl) (jT (sh:=jf.cb_s) (I:=fun X Q=>(X.1,X.2.1,X.2.2.1,X.2.2.2.1,Q.1,Q.2.1,Q.2.2.1,Q.2.2.2.1,Q.2.2.2.2.1,Q.2.2.2.2.2,())) (fun X=>rfl) (fun ρ X Q Z=>(jl (jb fun _=>(jb fun _=>(jb fun _=>(jb fun _=>(jb fun _=>jc))))) jc)) (fun ρ X t k=>(by kernel_rfl)) (fun X s=>by kernel_rfl))
theorem jf.p1:PcA jf.G Tryz.f72 1:=
 JE (s:=jf.co_r) (by kernel_rfl) (by kernel_rfl) (jq (sh:=jf.co_s) (fun ρ X Z=>(jl jc jc)) (fun ρ X t k=>(by kernel_rfl)) (fun X=>by kernel_rfl))
theorem jf.ok:MOk Tryz.prog 72 jf.mc:=YW (mc:=jf.mc) (G:=jf.G) jG mixed Tryz.func72 ⟨(jj JD.ok jz),(kF Ji.ok (kF jf.self.ok jx)),jn⟩ (m:=2) (by kernel_rfl) ⟨⟨trivial,jf.p0⟩,jf.p1⟩ (by kernel_rfl) (fun _=>by kernel_rfl)
end
@[reducible] def jf.fuel:Nat→jf.Self
 | 0=>⟨fun _=>none,⟨⟨Tryz.f72,Tryz.func72,by kernel_rfl,by kernel_rfl⟩,fun _ _ _ _ _ _ _ hy=>by cases hy⟩⟩
 | n+1=>⟨fun X=>(@jf.mc (jf.fuel n)).F X,@jf.ok (jf.fuel n)⟩
def kz (X:densU jf.self.pre.tys):Option (densU jf.self.post.tys):=(jf.fuel (16)).F X
def kz.mc:MCallee:=⟨72,jf.self.pre,jf.self.post,fun X=>kz X⟩
theorem kz.ok:MOk Tryz.prog 72 kz.mc:=mok_diag (F:=fun n=>(jf.fuel n).F) (fun n=>(jf.fuel n).ok) (fun X=>16)
abbrev ff69:SD:=.one (.clo 1000140)
def Jv.pre:Shape:=⟨[(0,ff5),(1,ff69)],[(1000140,ff66),(1000200,ff55),(1000300,ff56),(1000400,ff57),(2000300,ff51),(2000400,ff22)]⟩
def Jv.post:Shape:=⟨[],[(1000140,ff66),(1000200,ff55),(1000300,ff56),(1000400,ff57),(2000300,ff51),(2000400,ff22)]⟩
def Jv (n:Int) (ub:List YP) (ue:List Int) (uf:List YP):Option ((List YP)×(List Int)×(List YP)×Unit):=
 bnd (okIf (decide ((0:Int)≤IntKind.i64.wrap (n+(1:Int)))&&decide (IntKind.i64.wrap (n+(1:Int))≤IntKind.i64.wrap (n+(1:Int)))&&decide (IntKind.i64.wrap (n+(1:Int))*(↑(1:Nat):Int)≤(140737488355328:Int))&&decide (IntKind.i64.wrap (n+(1:Int))≤(140737488355328:Int)))) fun y=>
 bnd (inR (List.length (List.replicate (Int.toNat (IntKind.i64.wrap (n+(1:Int)))) (0:Int))) (0:Int)) fun y_1=>
 bnd (idx (List.replicate (Int.toNat (IntKind.i64.wrap (n+(1:Int)))) (0:Int)) (0:Int)) fun y_2=>
 bnd (kz ((0:Int),(0:Int),n,ub,List.set (List.replicate (Int.toNat (IntKind.i64.wrap (n+(1:Int)))) (0:Int)) (0:Nat) (43:Int),ue,uf,())) fun y_3=>
 some (y_3.2.1,y_3.2.2.2.1,y_3.2.2.2.2.1,())
def Jv.mc:MCallee:=⟨21,Jv.pre,Jv.post,fun X=>Jv X.1 X.2.1 X.2.2.1 X.2.2.2.1⟩
def Jv.G:Env:=⟨14,tab,[],[0,1,2,3,4,5],[3,4,5,8,1004,1000140,1000200,1000300,1000400,2000300,2000400],[],[],[(72,kz.mc)],jy⟩
theorem Jv.ok:MOk Tryz.prog 21 Jv.mc:=YW (mc:=Jv.mc) (G:=Jv.G) jG mixed Tryz.func21 ⟨jz,(kF kz.ok jx),jn⟩ (m:=0) (by kernel_rfl) trivial (by kernel_rfl) (fun _=>by kernel_rfl)
abbrev ff70:SO:=.box [.own 11 0]
abbrev ff71:SO:=.box [.own 14 0]
def Jx.cb_ (t16:Int)(t17:Int)(c0:Int)(t14:List Int)(Z:(Int×(List Int))⊕(Int×(List Int))→Option ρ):Option ρ:=
 br (decide (t17<t16))
 (bnd (inR (List.length t14) t17) fun y=>
 bnd (idx t14 t17) fun y_1=>
 Z (.inl ((IntKind.i64.wrap (t17+(1:Int))),(List.set t14 (Int.toNat t17) (IntKind.i64.wrap (c0+(1:Int)))))))
 (Z (.inr (t17,t14)))
def Jx.cb_s:Shape:=⟨[(0,ff0),(1,ff17),(2,ff2),(3,ff12),(4,ff17),(5,ff41),(6,ff8),(16,ff5),(17,ff5)],[(2,ff3),(3,ff55),(5,ff70),(6,ff71),(11,ff22),(14,ff51),(1005,ff22),(1006,ff51)]⟩
def Jx.cb_r:Ck:=Ck.ofLoop (S:=Int×(List Int)) (T:=Int×(List Int)) Jx.cb_s (fun X=>((q4 X).1,(q8 X).2.1)) (fun ρ X Q Z=>Jx.cb_ X.2.2.2.1 Q.1 (q4 X).2.1 Q.2 Z) (fun ρ X V Z=>Z 2 (Shape.inj Jx.cb_s (X.1,X.2.1,X.2.2.1,X.2.2.2.1,V.1,(q4 X).2.1,(q4 X).2.2.1,(q4 X).2.2.2.1,(q8 X).1,V.2,(q8 X).2.2)))
def Jx (c:Int×(List (List UInt8))) (l:List YP):Option (List YP):=
 bnd (okIf (decide ((0:Int)≤(↑(List.length l):Int)))) fun y=>
 bnd (okIf (decide ((0:Int)≤IntKind.i64.wrap ((1:Int)*(2:Int)^Min.min (Int.toNat (↑(List.length l):Int)) (64:Nat)))&&decide (IntKind.i64.wrap ((1:Int)*(2:Int)^Min.min (Int.toNat (↑(List.length l):Int)) (64:Nat))≤IntKind.i64.wrap ((1:Int)*(2:Int)^Min.min (Int.toNat (↑(List.length l):Int)) (64:Nat)))&&decide (IntKind.i64.wrap ((1:Int)*(2:Int)^Min.min (Int.toNat (↑(List.length l):Int)) (64:Nat))*(↑(24:Nat):Int)≤(140737488355328:Int))&&decide (IntKind.i64.wrap ((1:Int)*(2:Int)^Min.min (Int.toNat (↑(List.length l):Int)) (64:Nat))≤(140737488355328:Int)))) fun y_1=>
 bnd (okIf (decide ((0:Int)≤(↑(List.length (List.replicate (Int.toNat (IntKind.i64.wrap ((1:Int)*(2:Int)^Min.min (Int.toNat (↑(List.length l):Int)) (64:Nat)))) ((0:Int),(0:Int),false))):Int))&&decide ((↑(List.length (List.replicate (Int.toNat (IntKind.i64.wrap ((1:Int)*(2:Int)^Min.min (Int.toNat (↑(List.length l):Int)) (64:Nat)))) ((0:Int),(0:Int),false))):Int)≤(↑(List.length (List.replicate (Int.toNat (IntKind.i64.wrap ((1:Int)*(2:Int)^Min.min (Int.toNat (↑(List.length l):Int)) (64:Nat)))) ((0:Int),(0:Int),false))):Int))&&decide ((↑(List.length (List.replicate (Int.toNat (IntKind.i64.wrap ((1:Int)*(2:Int)^Min.min (Int.toNat (↑(List.length l):Int)) (64:Nat)))) ((0:Int),(0:Int),false))):Int)*(↑(8:Nat):Int)≤(140737488355328:Int))&&decide ((↑(List.length (List.replicate (Int.toNat (IntKind.i64.wrap ((1:Int)*(2:Int)^Min.min (Int.toNat (↑(List.length l):Int)) (64:Nat)))) ((0:Int),(0:Int),false))):Int)≤(140737488355328:Int)))) fun y_2=>
 bnd (iter (fun s↦Jx.cb_ (↑(List.length (List.replicate (Int.toNat (↑(List.length (List.replicate (Int.toNat (IntKind.i64.wrap ((1:Int)*(2:Int)^Min.min (Int.toNat (↑(List.length l):Int)) (64:Nat)))) ((0:Int),(0:Int),false))):Int)) (0:Int))):Int) s.1 c.1 s.2 some) ((0:Int),List.replicate (Int.toNat (↑(List.length (List.replicate (Int.toNat (IntKind.i64.wrap ((1:Int)*(2:Int)^Min.min (Int.toNat (↑(List.length l):Int)) (64:Nat)))) ((0:Int),(0:Int),false))):Int)) (0:Int))) fun y_3=>
 bnd (Jv c.1 l y_3.2 (List.replicate (Int.toNat (IntKind.i64.wrap ((1:Int)*(2:Int)^Min.min (Int.toNat (↑(List.length l):Int)) (64:Nat)))) ((0:Int),(0:Int),false))) fun y4=>
 some y4.2.2.1
def Jx.ce:Go.Ql.Callee:=⟨[(.st (.pair (.int .i64) (.sl .str))),(.sl (.st (.pair (.int .u64) (.pair (.int .u64) .bool))))],[(.sl (.st (.pair (.int .u64) (.pair (.int .u64) .bool))))],fun X=>Jx X.1 X.2⟩
def Jx.G:Env:=⟨32,tab,[],[0,1,2,3,4,5,6,7,16,17,18],[5,6,11,14,1005,1006],[],[(100004,Jx.cb_r)],[(21,Jv.mc)],jy⟩
theorem Jx.p0:PcA Jx.G Tryz.f19 0:=
 jW (s:=Jx.cb_r) (by kernel_rfl) (by kernel_rfl) (jT (sh:=Jx.cb_s) (I:=fun X Q=>(X.1,X.2.1,X.2.2.1,X.2.2.2.1,Q.1,(q4 X).2.1,(q4 X).2.2.1,(q4 X).2.2.2.1,(q8 X).1,Q.2,(q8 X).2.2)) (fun X=>rfl) (fun ρ X Q Z=>(jl (jb fun _=>(jb fun _=>jc)) jc)) (fun ρ X t k=>(by kernel_rfl)) (fun X s=>by kernel_rfl))
theorem Jx.ok:CalleeOk Tryz.prog 19 Jx.ce:=fn_ok (G:=Jx.G) jG mixed Tryz.func19 ⟨jz,(kF Jv.ok jx),jn⟩ (m:=1) (by kernel_rfl) ⟨trivial,Jx.p0⟩ (by kernel_rfl) (fun _=>by kernel_rfl)
abbrev ff72:SD:=.one (.val (.nilv 2))
abbrev ff73:SD:=.one (.own 6 0)
def JB.pre:Shape:=⟨[(0,ff17)],[]⟩
def JB.post:Shape:=⟨[(0,ff31)],[(0,ff15)]⟩
def JB.ca_ (t7:List YP)(t8:Int)(t9:Int)(t6:List (List (Int×Int)))(Z:(Int×(List (List (Int×Int))))⊕(Int×(List (List (Int×Int))))→Option ρ):Option ρ:=
 br (decide (t9<t8))
 (bnd (idx t7 t9) fun y=>
 bnd (Jc (y.1,y.2.1,y.2.2)) fun y_1=>
 bnd (Jw y_1 t6) fun y_2=>
 Z (.inl ((IntKind.i64.wrap (t9+(1:Int))),y_2.2.1)))
 (Z (.inr (t9,t6)))
def JB.ca_s:Shape:=⟨[(0,ff17),(2,ff72),(3,ff73),(7,ff17),(8,ff5),(9,ff5)],[(6,ff15)]⟩
def JB.ca_r:Ck:=Ck.ofLoop (S:=Int×(List (List (Int×Int)))) (T:=Int×(List (List (Int×Int)))) JB.ca_s (fun X=>((q4 X).1,(q4 X).2.1)) (fun ρ X Q Z=>JB.ca_ X.2.2.1 X.2.2.2.1 Q.1 Q.2 Z) (fun ρ X V Z=>Z 2 (Shape.inj JB.ca_s (X.1,X.2.1,X.2.2.1,X.2.2.2.1,V.1,V.2,())))
def JB (l:List YP):Option ((List (List (Int×Int)))×Unit):=
 bnd (iter (fun s↦JB.ca_ l (↑(List.length l):Int) s.1 s.2 some) ((0:Int),UJ)) fun y=>
 some (y.2,())
def JB.mc:MCallee:=⟨20,JB.pre,JB.post,fun X=>JB X.1⟩
def JB.G:Env:=⟨19,tab,[(25,Jc.ce)],[0,2,3,5,7,8,9,10],[6],[],[(100003,JB.ca_r)],[(61,Jw.mc)],jy⟩
theorem JB.p0:PcA JB.G Tryz.f20 0:=
 jW (s:=JB.ca_r) (by kernel_rfl) (by kernel_rfl) (jT (sh:=JB.ca_s) (I:=fun X Q=>(X.1,X.2.1,X.2.2.1,X.2.2.2.1,Q.1,Q.2,())) (fun X=>rfl) (fun ρ X Q Z=>(jl (jb fun _=>(jb fun _=>(jb fun _=>jc))) jc)) (fun ρ X t k=>(by kernel_rfl)) (fun X s=>by kernel_rfl))
theorem JB.ok:MOk Tryz.prog 20 JB.mc:=YW (mc:=JB.mc) (G:=JB.G) jG mixed Tryz.func20 ⟨(jj Jc.ok jz),(kF Jw.ok jx),jn⟩ (m:=1) (by kernel_rfl) ⟨trivial,JB.p0⟩ (by kernel_rfl) (fun _=>by kernel_rfl)
abbrev ff74:SD:=.one (.ref 1000500 0)
abbrev ff75:SO:=.box [.own 2000500 0]
abbrev ff76:SD:=.one (.aptr 8 0)
abbrev ff77:SO:=.arr 0 false 66 (.int .u64)
abbrev ff78:SD:=.one (.aptr 9 0)
def jP.pre:Shape:=⟨[(0,ff11),(1,ff5),(2,ff52),(3,ff53),(4,ff54),(5,ff74)],[(1000200,ff55),(1000300,ff55),(1000400,ff57),(1000500,ff75),(2000400,ff15),(2000500,ff51)]⟩
def jP.post:Shape:=⟨[],[(1000200,ff55),(1000300,ff55),(1000400,ff57),(1000500,ff75),(2000400,ff15),(2000500,ff51)]⟩
def jP.c1 (p0:Int)(p1:Int)(p2:Bool)(ub:List YP)(uc:List YP)(Z:List Int→Option ρ):Option ρ:=
 bnd (jV uc (p0,p1,p2)) fun y=>
 bnd (Jf y) fun y_1=>
 bnd (idx ub y_1) fun y_2=>
 bnd (Jc y_2) fun y_3=>
 bnd (okIf (decide (List.length y_3=List.length (List.replicate (2:Nat) (0:Int))))) fun y4=>
 Z y_3
def jP.c1s:Shape:=⟨[(0,ff11),(1,ff5),(2,ff52),(3,ff53),(4,ff54),(5,ff74),(6,ff8)],[(6,ff9),(1000200,ff55),(1000300,ff55),(1000400,ff57),(1000500,ff75),(2000400,ff15),(2000500,ff51)]⟩
def jP.c1x0:Shape:=⟨[(0,ff11),(1,ff5),(2,ff52),(3,ff53),(4,ff54),(5,ff74),(6,ff8),(8,ff76)],[(6,ff9),(8,ff77),(1000200,ff55),(1000300,ff55),(1000400,ff57),(1000500,ff75),(2000400,ff15),(2000500,ff51)]⟩
def jP.c1r:Ck:=Ck.of (T:=List Int) jP.c1s (fun ρ X Z=>jP.c1 X.2.2.1 X.2.2.2.1 (q4 X).1 (q4 X).2.1 (q4 X).2.2.1 Z) (fun ρ X V Z=>Z 0 (Shape.inj jP.c1x0 (X.1,X.2.1,X.2.2.1,X.2.2.2.1,(q4 X).1,V,(q4 X).2)))
def jP.c3 (d:List Int)(e:List Int)(uf:List (List (Int×Int)))(Z:Bool×(List (List (Int×Int)))→Option ρ):Option ρ:=
 bnd (inR (List.length d) (0:Int)) fun y=>
 bnd (idx d (0:Int)) fun y_1=>
 bnd (inR (List.length e) (0:Int)) fun y_2=>
 bnd (idx e (0:Int)) fun y_3=>
 bnd (inR (List.length d) (1:Int)) fun y4=>
 bnd (idx d (1:Int)) fun y5=>
 bnd (inR (List.length e) (1:Int)) fun y6=>
 bnd (idx e (1:Int)) fun y7=>
 bnd (JV (List.set (List.set (List.replicate (2:Nat) (0:Int)) (0:Nat) (ibits BinOp.xor IntKind.u64 y_1 y_3)) (1:Nat) (ibits BinOp.xor IntKind.u64 y5 y7))) fun y8=>
 bnd (jK y8 uf) fun y9=>
 Z ((y9.1 !=(0:Int)),y9.2.1)
def jP.c3s:Shape:=⟨[(0,ff11),(1,ff5),(2,ff52),(3,ff53),(4,ff54),(5,ff74),(6,ff8),(8,ff76),(9,ff78)],[(6,ff9),(8,ff77),(9,ff77),(1000200,ff55),(1000300,ff55),(1000400,ff57),(1000500,ff75),(2000400,ff15),(2000500,ff51)]⟩
def jP.c3x0:Shape:=⟨[(0,ff11),(1,ff5),(2,ff52),(3,ff53),(4,ff54),(5,ff74),(6,ff8),(8,ff76),(9,ff78),(34,ff7)],[(6,ff9),(8,ff77),(9,ff77),(1000200,ff55),(1000300,ff55),(1000400,ff57),(1000500,ff75),(2000400,ff15),(2000500,ff51)]⟩
def jP.c3r:Ck:=Ck.of (T:=Bool×(List (List (Int×Int)))) jP.c3s (fun ρ X Z=>jP.c3 (q4 X).2.1 (q4 X).2.2.1 (q8 X).2.1 Z) (fun ρ X V Z=>Z 0 (Shape.inj jP.c3x0 (X.1,X.2.1,V.1,X.2.2.1,X.2.2.2.1,(q4 X).1,(q4 X).2.1,(q4 X).2.2.1,(q4 X).2.2.2.1,(q8 X).1,V.2,(q8 X).2.2)))
def jP (p:YP) (weight:Int) (ub:List YP) (uc:List YP) (uf:List (List (Int×Int))) (ug:List Int):Option ((List YP)×(List YP)×(List (List (Int×Int)))×(List Int)×Unit):=
 bnd (jP.c1 p.1 p.2.1 p.2.2 ub uc some) fun y=>
 bnd (Jc (p.1,p.2.1,p.2.2)) fun y_1=>
 bnd (okIf (decide (List.length y_1=List.length (List.replicate (2:Nat) (0:Int))))) fun y_2=>
 bnd (jP.c3 y y_1 uf some) fun y_3=>
 br y_3.1
 (bnd (inR (List.length ug) weight) fun y4=>
 bnd (idx ug weight) fun y5=>
 bnd (inR (List.length ug) weight) fun y6=>
 bnd (idx ug weight) fun y7=>
 some (ub,uc,y_3.2,List.set ug (Int.toNat weight) (IntKind.i64.wrap (y5+(1:Int))),()))
 (some (ub,uc,y_3.2,ug,()))
def jP.mc:MCallee:=⟨22,jP.pre,jP.post,fun X=>jP X.1 X.2.1 X.2.2.1 X.2.2.2.1 (q4 X).1 (q4 X).2.1⟩
def jP.G:Env:=⟨41,tab,[(24,jV.ce),(23,Jf.ce),(25,Jc.ce),(27,JV.ce)],[0,1,2,3,4,5,6,8,9,34],[8,9,1000200,1000300,1000400,1000500,2000400,2000500],[(3,[⟨[],[],[21,22,23,24,25,26,27,28,29,30,31,32],[]⟩,⟨[],[],[20,23,24,26,27,28,29,30],[]⟩,⟨[1],[],[20,23,24,26,27,28,29,30],[]⟩,⟨[],[],[20,21,22,26,27,28,29,30],[]⟩,⟨[3],[],[20,21,22,26,27,28,29,30],[]⟩,⟨[2,1,4,3],[],[20,26,27,28,29,30],[]⟩,⟨[],[],[20,21,22,23,24,25,28,29],[]⟩,⟨[6],[],[20,21,22,23,24,25,28,29],[]⟩,⟨[],[],[20,21,22,23,24,25,26,27],[]⟩,⟨[8],[],[20,21,22,23,24,25,26,27],[]⟩,⟨[7,6,9,8],[],[20,21,22,23,24,25],[]⟩,⟨[5,2,1,4,3,10,7,6,9,8],[],[20],[]⟩,⟨[11,5,2,1,4,3,10,7,6,9,8],[],[20],[]⟩,⟨[0,12,11,5,2,1,4,3,10,7,6,9,8],[2000400],[],[]⟩,⟨[13,0,12,11,5,2,1,4,3,10,7,6,9,8],[],[],[]⟩]),
 (1,[⟨[],[],[11,12,13,14,8],[8]⟩,⟨[],[],[10,12,8],[8]⟩,⟨[],[],[10,11,8],[8]⟩,⟨[1,2],[],[10,8],[8]⟩,⟨[3,1,2],[],[10,8],[8]⟩,⟨[0,4,3,1,2],[],[8],[8]⟩,⟨[5,0,4,3,1,2],[],[8],[8]⟩,⟨[6,5,0,4,3,1,2],[],[8],[8]⟩,⟨[],[8],[10,11,12,13,14,15,16,17],[]⟩,⟨[8,7,6,5,0,4,3,1,2],[8],[],[]⟩])],[(3,jP.c3r),(1,jP.c1r)],[(26,jK.mc)],jy⟩
theorem jP.p0:PcA jP.G Tryz.f22 0:=
 js (s:=jP.c1r) (by kernel_rfl) (by kernel_rfl) (jq (sh:=jP.c1s) (fun ρ X Z=>(jb fun _=>(jb fun _=>(jb fun _=>(jb fun _=>(jb fun _=>jc)))))) (fun ρ X t k=>(by kernel_rfl)) (fun X=>by kernel_rfl))
theorem jP.p1:PcA jP.G Tryz.f22 1:=
 js (s:=jP.c3r) (by kernel_rfl) (by kernel_rfl) (jq (sh:=jP.c3s) (fun ρ X Z=>(jb fun _=>(jb fun _=>(jb fun _=>(jb fun _=>(jb fun _=>(jb fun _=>(jb fun _=>(jb fun _=>(jb fun _=>(jb fun _=>jc))))))))))) (fun ρ X t k=>(by kernel_rfl)) (fun X=>by kernel_rfl))
theorem jP.ok:MOk Tryz.prog 22 jP.mc:=YW (mc:=jP.mc) (G:=jP.G) jG mixed Tryz.func22 ⟨(jj jV.ok (jj Jf.ok (jj Jc.ok (jj JV.ok jz)))),(kF jK.ok jx),jn⟩ (m:=2) (by kernel_rfl) ⟨⟨trivial,jP.p0⟩,jP.p1⟩ (by kernel_rfl) (fun _=>by kernel_rfl)
abbrev ff79:SO:=.clo 22 [] [.ref 1000200 0,.ref 1000300 0,.ref 1000400 0,.ref 1000500 0]
def je.self.pre:Shape:=⟨[(0,ff5),(1,ff5),(2,ff58),(3,ff59),(4,ff60),(5,ff61)],[(1000100,ff62),(1000110,ff63),(1000120,ff64),(1000130,ff65),(1000140,ff79),(1000150,ff67),(1000200,ff55),(1000300,ff55),(1000400,ff57),(1000500,ff75),(2000110,ff45),(2000400,ff15),(2000500,ff51)]⟩
def je.self.post:Shape:=⟨[],[(1000100,ff62),(1000110,ff63),(1000120,ff64),(1000130,ff65),(1000140,ff79),(1000150,ff67),(1000200,ff55),(1000300,ff55),(1000400,ff57),(1000500,ff75),(2000110,ff45),(2000400,ff15),(2000500,ff51)]⟩
class je.Self where
 F:densU je.self.pre.tys→Option (densU je.self.post.tys)
 ok:MOk Tryz.prog 72 ⟨72,je.self.pre,je.self.post,F⟩
section
variable [je.Self]
def je.self (X:densU je.self.pre.tys):Option (densU je.self.post.tys):=je.Self.F X
def je.self.mc:MCallee:=⟨72,je.self.pre,je.self.post,fun X=>je.self X⟩
theorem je.self.ok:MOk Tryz.prog 72 je.self.mc:=je.Self.ok
def je.pre:Shape:=⟨[(0,ff5),(1,ff5),(2,ff58),(3,ff59),(4,ff60),(5,ff61)],[(1000100,ff62),(1000110,ff63),(1000120,ff64),(1000130,ff65),(1000140,ff79),(1000150,ff67),(1000200,ff55),(1000300,ff55),(1000400,ff57),(1000500,ff75),(2000110,ff45),(2000400,ff15),(2000500,ff51)]⟩
def je.post:Shape:=⟨[],[(1000100,ff62),(1000110,ff63),(1000120,ff64),(1000130,ff65),(1000140,ff79),(1000150,ff67),(1000200,ff55),(1000300,ff55),(1000400,ff57),(1000500,ff75),(2000110,ff45),(2000400,ff15),(2000500,ff51)]⟩
def je.co_ {ρ:Type} (c:Int)(w:Int)(Z:Int→Option ρ):Option ρ:=
 br (c !=(73:Int))
 (Z (IntKind.i64.wrap (w+(1:Int))))
 (Z w)
def je.co_s:Shape:=⟨[(0,ff5),(1,ff5),(2,ff58),(3,ff59),(4,ff60),(5,ff61),(11,ff68),(12,ff5),(28,ff27),(29,ff5),(30,ff5)],[(1000100,ff62),(1000110,ff63),(1000120,ff64),(1000130,ff65),(1000140,ff79),(1000150,ff67),(1000200,ff55),(1000300,ff55),(1000400,ff57),(1000500,ff75),(2000110,ff45),(2000400,ff15),(2000500,ff51)]⟩
def je.co_r:Ck:=Ck.of (T:=Int) je.co_s (fun ρ X Z=>je.co_ X.2.2.1 X.2.2.2.1 Z) (fun ρ X V Z=>Z 0 (Shape.inj je.co_s (X.1,X.2.1,X.2.2.1,V,(q4 X))))
def je.cb_ {ρ:Type} (q:Int)(weight:Int)(t28:List Int)(t29:Int)(t30:Int)(ua:Int)(ub:List YP)(uc:List YP)(ud:List Int)(uf:List (List (Int×Int)))(ug:List Int)(Z:(Int×Int×(List YP)×(List YP)×(List Int)×(List (List (Int×Int)))×(List Int))⊕(Int×Int×(List YP)×(List YP)×(List Int)×(List (List (Int×Int)))×(List Int))→Option ρ):Option ρ:=
 br (decide (t30<t29))
 (bnd (idx t28 t30) fun y=>
 bnd (inR (List.length ud) (IntKind.i64.wrap (q+(1:Int)))) fun y_1=>
 bnd (idx ud (IntKind.i64.wrap (q+(1:Int)))) fun y_2=>
 bnd (je.co_ y weight some) fun y_3=>
 bnd (je.self (IntKind.i64.wrap (q+(1:Int)),y_3,ua,ub,uc,List.set ud (Int.toNat (IntKind.i64.wrap (q+(1:Int)))) y,uf,ug,())) fun y4=>
 Z (.inl ((IntKind.i64.wrap (t30+(1:Int))),y4.1,y4.2.1,y4.2.2.1,y4.2.2.2.1,y4.2.2.2.2.1,y4.2.2.2.2.2.1)))
 (Z (.inr (t30,ua,ub,uc,ud,uf,ug)))
def je.cb_s:Shape:=⟨[(0,ff5),(1,ff5),(2,ff58),(3,ff59),(4,ff60),(5,ff61),(28,ff27),(29,ff5),(30,ff5)],[(1000100,ff62),(1000110,ff63),(1000120,ff64),(1000130,ff65),(1000140,ff79),(1000150,ff67),(1000200,ff55),(1000300,ff55),(1000400,ff57),(1000500,ff75),(2000110,ff45),(2000400,ff15),(2000500,ff51)]⟩
def je.cb_r:Ck:=Ck.ofLoop (S:=Int×Int×(List YP)×(List YP)×(List Int)×(List (List (Int×Int)))×(List Int)) (T:=Int×Int×(List YP)×(List YP)×(List Int)×(List (List (Int×Int)))×(List Int)) je.cb_s (fun X=>((q4 X).1,(q4 X).2.1,(q4 X).2.2.1,(q4 X).2.2.2.1,(q8 X).1,(q8 X).2.1,(q8 X).2.2.1)) (fun ρ X Q Z=>je.cb_ X.1 X.2.1 X.2.2.1 X.2.2.2.1 Q.1 Q.2.1 Q.2.2.1 Q.2.2.2.1 Q.2.2.2.2.1 Q.2.2.2.2.2.1 Q.2.2.2.2.2.2 Z) (fun ρ X V Z=>Z 2 (Shape.inj je.cb_s (X.1,X.2.1,X.2.2.1,X.2.2.2.1,V.1,V.2.1,V.2.2.1,V.2.2.2.1,V.2.2.2.2.1,V.2.2.2.2.2.1,V.2.2.2.2.2.2,())))
def je (q:Int) (weight:Int) (ua:Int) (ub:List YP) (uc:List YP) (ud:List Int) (uf:List (List (Int×Int))) (ug:List Int):Option (Int×(List YP)×(List YP)×(List Int)×(List (List (Int×Int)))×(List Int)×Unit):=
 br (q==ua)
 (bnd (JD (List.map (fun n↦UInt8.ofNat (Int.toNat n)) ud) ua) fun y=>
 bnd (jP (y.1.1,y.1.2.1,y.1.2.2) weight ub uc uf ug) fun y_1=>
 some (ua,y_1.1,y_1.2.1,ud,y_1.2.2.1,y_1.2.2.2.1,()))
 (bnd (iter (fun s↦je.cb_ q weight [(73:Int),(88:Int),(89:Int),(90:Int)] (↑(4:Nat):Int) s.1 s.2.1 s.2.2.1 s.2.2.2.1 s.2.2.2.2.1 s.2.2.2.2.2.1 s.2.2.2.2.2.2 some) ((0:Int),ua,ub,uc,ud,uf,ug)) fun y_2=>
 some (y_2.2.1,y_2.2.2.1,y_2.2.2.2.1,y_2.2.2.2.2.1,y_2.2.2.2.2.2.1,y_2.2.2.2.2.2.2,()))
def je.mc:MCallee:=⟨72,je.pre,je.post,fun X=>je X.1 X.2.1 X.2.2.1 X.2.2.2.1 (q4 X).1 (q4 X).2.1 (q4 X).2.2.1 (q4 X).2.2.2.1⟩
def je.G:Env:=⟨50,tab,[(59,JD.ce)],[0,1,2,3,4,5,8,11,12,15,28,29,30,31,41],[1000100,1000110,1000120,1000130,1000140,1000150,1000200,1000300,1000400,1000500,2000110,2000400,2000500],[],[(100004,je.cb_r),(232773,je.co_r)],[(22,jP.mc),(72,je.self.mc)],jy⟩
theorem je.p0:PcA je.G Tryz.f72 0:=
 jW (s:=je.cb_r) (by kernel_rfl) (by kernel_rfl) (jT (sh:=je.cb_s) (I:=fun X Q=>(X.1,X.2.1,X.2.2.1,X.2.2.2.1,Q.1,Q.2.1,Q.2.2.1,Q.2.2.2.1,Q.2.2.2.2.1,Q.2.2.2.2.2.1,Q.2.2.2.2.2.2,())) (fun X=>rfl) (fun ρ X Q Z=>(jl (jb fun _=>(jb fun _=>(jb fun _=>(jb fun _=>(jb fun _=>jc))))) jc)) (fun ρ X t k=>(by kernel_rfl)) (fun X s=>by kernel_rfl))
theorem je.p1:PcA je.G Tryz.f72 1:=
 JE (s:=je.co_r) (by kernel_rfl) (by kernel_rfl) (jq (sh:=je.co_s) (fun ρ X Z=>(jl jc jc)) (fun ρ X t k=>(by kernel_rfl)) (fun X=>by kernel_rfl))
theorem je.ok:MOk Tryz.prog 72 je.mc:=YW (mc:=je.mc) (G:=je.G) jG mixed Tryz.func72 ⟨(jj JD.ok jz),(kF jP.ok (kF je.self.ok jx)),jn⟩ (m:=2) (by kernel_rfl) ⟨⟨trivial,je.p0⟩,je.p1⟩ (by kernel_rfl) (fun _=>by kernel_rfl)
end
@[reducible] def je.fuel:Nat→je.Self
 | 0=>⟨fun _=>none,⟨⟨Tryz.f72,Tryz.func72,by kernel_rfl,by kernel_rfl⟩,fun _ _ _ _ _ _ _ hy=>by cases hy⟩⟩
 | n+1=>⟨fun X=>(@je.mc (je.fuel n)).F X,@je.ok (je.fuel n)⟩
def ky (X:densU je.self.pre.tys):Option (densU je.self.post.tys):=(je.fuel (16)).F X
def ky.mc:MCallee:=⟨72,je.self.pre,je.self.post,fun X=>ky X⟩
theorem ky.ok:MOk Tryz.prog 72 ky.mc:=mok_diag (F:=fun n=>(je.fuel n).F) (fun n=>(je.fuel n).ok) (fun X=>16)
def Ju.pre:Shape:=⟨[(0,ff5),(1,ff69)],[(1000140,ff79),(1000200,ff55),(1000300,ff55),(1000400,ff57),(1000500,ff75),(2000400,ff15),(2000500,ff51)]⟩
def Ju.post:Shape:=⟨[],[(1000140,ff79),(1000200,ff55),(1000300,ff55),(1000400,ff57),(1000500,ff75),(2000400,ff15),(2000500,ff51)]⟩
def Ju (n:Int) (ub:List YP) (uc:List YP) (uf:List (List (Int×Int))) (ug:List Int):Option ((List YP)×(List YP)×(List (List (Int×Int)))×(List Int)×Unit):=
 bnd (okIf (decide ((0:Int)≤IntKind.i64.wrap (n+(1:Int)))&&decide (IntKind.i64.wrap (n+(1:Int))≤IntKind.i64.wrap (n+(1:Int)))&&decide (IntKind.i64.wrap (n+(1:Int))*(↑(1:Nat):Int)≤(140737488355328:Int))&&decide (IntKind.i64.wrap (n+(1:Int))≤(140737488355328:Int)))) fun y=>
 bnd (inR (List.length (List.replicate (Int.toNat (IntKind.i64.wrap (n+(1:Int)))) (0:Int))) (0:Int)) fun y_1=>
 bnd (idx (List.replicate (Int.toNat (IntKind.i64.wrap (n+(1:Int)))) (0:Int)) (0:Int)) fun y_2=>
 bnd (ky ((0:Int),(0:Int),n,ub,uc,List.set (List.replicate (Int.toNat (IntKind.i64.wrap (n+(1:Int)))) (0:Int)) (0:Nat) (43:Int),uf,ug,())) fun y_3=>
 some (y_3.2.1,y_3.2.2.1,y_3.2.2.2.2.1,y_3.2.2.2.2.2.1,())
def Ju.mc:MCallee:=⟨21,Ju.pre,Ju.post,fun X=>Ju X.1 X.2.1 X.2.2.1 X.2.2.2.1 (q4 X).1⟩
def Ju.G:Env:=⟨14,tab,[],[0,1,2,3,4,5],[3,4,5,8,1004,1000140,1000200,1000300,1000400,1000500,2000400,2000500],[],[],[(72,ky.mc)],jy⟩
theorem Ju.ok:MOk Tryz.prog 21 Ju.mc:=YW (mc:=Ju.mc) (G:=Ju.G) jG mixed Tryz.func21 ⟨jz,(kF ky.ok jx),jn⟩ (m:=0) (by kernel_rfl) trivial (by kernel_rfl) (fun _=>by kernel_rfl)
def whole_Frac_Mul.c1 (x0:Bool)(x1:List Int)(x2:Bool)(x3:List Int)(y0:Bool)(y1:List Int)(y2:Bool)(y3:List Int)(Z:Bool×(List Int)×YD→Option ρ):Option ρ:=
 bnd (whole_Int_Mul (x0,x1) (y0,y1)) fun y_1=>
 bnd (whole_Frac_below ((x0,x1),x2,x3)) fun y_2=>
 bnd (whole_Frac_below ((y0,y1),y2,y3)) fun y_3=>
 bnd (whole_Int_Mul y_2 y_3) fun y4=>
 bnd (whole_lowest y_1 y4) fun y5=>
 Z (y5.1.1,y5.1.2,y5.2.1,y5.2.2)
def whole_Frac_Mul.c1s:Shape:=⟨[(0,ff47),(1,ff47),(2,ff2),(3,ff12),(4,ff6)],[(2,ff44),(3,ff44),(4,ff44)]⟩
def whole_Frac_Mul.c1r:Ck:=Ck.of (T:=Bool×(List Int)×YD) whole_Frac_Mul.c1s (fun ρ X Z=>whole_Frac_Mul.c1 X.2.2.1 X.2.2.2.1 (q4 X).1 (q4 X).2.1 (q4 X).2.2.1 (q4 X).2.2.2.1 (q8 X).1 (q8 X).2.1 Z) (fun ρ X V Z=>Z 0 (Shape.inj whole_Frac_Mul.c1s (X.1,X.2.1,X.2.2.1,X.2.2.2.1,(q4 X).1,(q4 X).2.1,(q4 X).2.2.1,(q4 X).2.2.2.1,(q8 X).1,(q8 X).2.1,V.1,V.2.1,V.2.2.1,V.2.2.2,())))
def whole_Frac_Mul (x:YD×YD) (y:YD×YD):Option (YD×YD):=
 bnd (whole_Frac_Mul.c1 x.1.1 x.1.2 x.2.1 x.2.2 y.1.1 y.1.2 y.2.1 y.2.2 some) fun y_1=>
 some ((y_1.1,y_1.2.1),y_1.2.2.1,y_1.2.2.2)
def whole_Frac_Mul.ce:Go.Ql.Callee:=⟨[(.st (.pair (.st (.pair .bool (.sl (.int .u32)))) (.st (.pair .bool (.sl (.int .u32)))))),(.st (.pair (.st (.pair .bool (.sl (.int .u32)))) (.st (.pair .bool (.sl (.int .u32))))))],[(.st (.pair (.st (.pair .bool (.sl (.int .u32)))) (.st (.pair .bool (.sl (.int .u32))))))],fun X=>whole_Frac_Mul X.1 X.2⟩
def whole_Frac_Mul.G:Env:=⟨16,tab,[(68,whole_Int_Mul.ce),(69,whole_Frac_below.ce),(65,whole_lowest.ce)],[0,1,2,3,4],[],[(1,[⟨[],[],[7,8,10,12],[]⟩,⟨[0],[],[7,8,10,12],[]⟩,⟨[],[],[5,6,10,12],[]⟩,⟨[2],[],[5,6,10,12],[]⟩,⟨[1,0,3,2],[],[10,12],[]⟩,⟨[],[],[5,6,7,8,9,12],[]⟩,⟨[5,4,1,0,3,2],[],[12],[]⟩,⟨[],[],[5,6,7,8,9,10,11],[]⟩,⟨[7,6,5,4,1,0,3,2],[],[],[]⟩,⟨[6,5,4,1,0,3,2,8,7],[],[],[]⟩,⟨[4,1,0,3,2,9,6,5,8,7],[],[],[]⟩,⟨[10,4,1,0,3,2,9,6,5,8,7],[4],[],[]⟩])],[(1,whole_Frac_Mul.c1r)],[],jy⟩
theorem whole_Frac_Mul.p0:PcA whole_Frac_Mul.G Tryz.f29 0:=
 js (s:=whole_Frac_Mul.c1r) (by kernel_rfl) (by kernel_rfl) (jq (sh:=whole_Frac_Mul.c1s) (fun ρ X Z=>(jb fun _=>(jb fun _=>(jb fun _=>(jb fun _=>(jb fun _=>jc)))))) (fun ρ X t k=>(by kernel_rfl)) (fun X=>by kernel_rfl))
theorem whole_Frac_Mul.ok:CalleeOk Tryz.prog 29 whole_Frac_Mul.ce:=fn_ok (G:=whole_Frac_Mul.G) jG mixed Tryz.func29 ⟨(jj whole_Int_Mul.ok (jj whole_Frac_below.ok (jj whole_lowest.ok jz))),jx,jn⟩ (m:=1) (by kernel_rfl) ⟨trivial,whole_Frac_Mul.p0⟩ (by kernel_rfl) (fun _=>by kernel_rfl)
def whole_Frac_Add.c1 (x0:Bool)(x1:List Int)(x2:Bool)(x3:List Int)(y0:Bool)(y1:List Int)(y2:Bool)(y3:List Int)(Z:Bool×(List Int)×YD→Option ρ):Option ρ:=
 bnd (whole_Frac_below ((y0,y1),y2,y3)) fun y_1=>
 bnd (whole_Int_Mul (x0,x1) y_1) fun y_2=>
 bnd (whole_Frac_below ((x0,x1),x2,x3)) fun y_3=>
 bnd (whole_Int_Mul (y0,y1) y_3) fun y4=>
 bnd (whole_Int_Add y_2 y4) fun y5=>
 bnd (whole_Frac_below ((x0,x1),x2,x3)) fun y6=>
 bnd (whole_Frac_below ((y0,y1),y2,y3)) fun y7=>
 bnd (whole_Int_Mul y6 y7) fun y8=>
 bnd (whole_lowest y5 y8) fun y9=>
 Z (y9.1.1,y9.1.2,y9.2.1,y9.2.2)
def whole_Frac_Add.c1s:Shape:=⟨[(0,ff47),(1,ff47),(2,ff2),(3,ff12),(4,ff6)],[(2,ff44),(3,ff44),(4,ff44)]⟩
def whole_Frac_Add.c1r:Ck:=Ck.of (T:=Bool×(List Int)×YD) whole_Frac_Add.c1s (fun ρ X Z=>whole_Frac_Add.c1 X.2.2.1 X.2.2.2.1 (q4 X).1 (q4 X).2.1 (q4 X).2.2.1 (q4 X).2.2.2.1 (q8 X).1 (q8 X).2.1 Z) (fun ρ X V Z=>Z 0 (Shape.inj whole_Frac_Add.c1s (X.1,X.2.1,X.2.2.1,X.2.2.2.1,(q4 X).1,(q4 X).2.1,(q4 X).2.2.1,(q4 X).2.2.2.1,(q8 X).1,(q8 X).2.1,V.1,V.2.1,V.2.2.1,V.2.2.2,())))
def whole_Frac_Add (x:YD×YD) (y:YD×YD):Option (YD×YD):=
 bnd (whole_Frac_Add.c1 x.1.1 x.1.2 x.2.1 x.2.2 y.1.1 y.1.2 y.2.1 y.2.2 some) fun y_1=>
 some ((y_1.1,y_1.2.1),y_1.2.2.1,y_1.2.2.2)
def whole_Frac_Add.ce:Go.Ql.Callee:=⟨[(.st (.pair (.st (.pair .bool (.sl (.int .u32)))) (.st (.pair .bool (.sl (.int .u32)))))),(.st (.pair (.st (.pair .bool (.sl (.int .u32)))) (.st (.pair .bool (.sl (.int .u32))))))],[(.st (.pair (.st (.pair .bool (.sl (.int .u32)))) (.st (.pair .bool (.sl (.int .u32))))))],fun X=>whole_Frac_Add X.1 X.2⟩
def whole_Frac_Add.G:Env:=⟨22,tab,[(69,whole_Frac_below.ce),(68,whole_Int_Mul.ce),(75,whole_Int_Add.ce),(65,whole_lowest.ce)],[0,1,2,3,4],[],[(1,[⟨[],[],[7,8,10,11,12,16,18],[]⟩,⟨[0],[],[7,8,10,11,12,16,18],[]⟩,⟨[],[],[5,6,10,11,12,16,18],[]⟩,⟨[2],[],[5,6,10,11,12,16,18],[]⟩,⟨[1,0,3,2],[],[10,11,12,16,18],[]⟩,⟨[],[],[5,6,7,8,9,12,13,16,18],[]⟩,⟨[5],[],[5,6,7,8,9,12,13,16,18],[]⟩,⟨[],[],[5,6,7,8,9,10,11,16,18],[]⟩,⟨[7,4,1,0,3,2],[],[10,11,16,18],[]⟩,⟨[6,5,8,7,4,1,0,3,2],[],[16,18],[]⟩,⟨[4,1,0,3,2,9,6,5,8,7],[],[16,18],[]⟩,⟨[],[],[5,6,7,8,9,10,11,12,13,14,15,18],[]⟩,⟨[11,10,4,1,0,3,2,9,6,5,8,7],[],[18],[]⟩,⟨[],[],[5,6,7,8,9,10,11,12,13,14,15,16,17],[]⟩,⟨[13,12,11,10,4,1,0,3,2,9,6,5,8,7],[],[],[]⟩,⟨[12,11,10,4,1,0,3,2,9,6,5,8,7,14,13],[],[],[]⟩,⟨[10,4,1,0,3,2,9,6,5,8,7,15,12,11,14,13],[],[],[]⟩,⟨[16,10,4,1,0,3,2,9,6,5,8,7,15,12,11,14,13],[4],[],[]⟩])],[(1,whole_Frac_Add.c1r)],[],jy⟩
theorem whole_Frac_Add.p0:PcA whole_Frac_Add.G Tryz.f30 0:=
 js (s:=whole_Frac_Add.c1r) (by kernel_rfl) (by kernel_rfl) (jq (sh:=whole_Frac_Add.c1s) (fun ρ X Z=>(jb fun _=>(jb fun _=>(jb fun _=>(jb fun _=>(jb fun _=>(jb fun _=>(jb fun _=>(jb fun _=>(jb fun _=>jc)))))))))) (fun ρ X t k=>(by kernel_rfl)) (fun X=>by kernel_rfl))
theorem whole_Frac_Add.ok:CalleeOk Tryz.prog 30 whole_Frac_Add.ce:=fn_ok (G:=whole_Frac_Add.G) jG mixed Tryz.func30 ⟨(jj whole_Frac_below.ok (jj whole_Int_Mul.ok (jj whole_Int_Add.ok (jj whole_lowest.ok jz)))),jx,jn⟩ (m:=1) (by kernel_rfl) ⟨trivial,whole_Frac_Add.p0⟩ (by kernel_rfl) (fun _=>by kernel_rfl)
def whole_Frac_Sub.c1 (x0:Bool)(x1:List Int)(x2:Bool)(x3:List Int)(y0:Bool)(y1:List Int)(y2:Bool)(y3:List Int)(Z:Bool×(List Int)×YD→Option ρ):Option ρ:=
 bnd (whole_Int_Neg (y0,y1)) fun y_1=>
 bnd (whole_Frac_Add ((x0,x1),x2,x3) ((y_1.1,y_1.2),y2,y3)) fun y_2=>
 Z (y_2.1.1,y_2.1.2,y_2.2.1,y_2.2.2)
def whole_Frac_Sub.c1s:Shape:=⟨[(0,ff47),(1,ff47),(2,ff2),(3,ff12),(4,ff6)],[(2,ff44),(3,ff44),(4,ff44)]⟩
def whole_Frac_Sub.c1r:Ck:=Ck.of (T:=Bool×(List Int)×YD) whole_Frac_Sub.c1s (fun ρ X Z=>whole_Frac_Sub.c1 X.2.2.1 X.2.2.2.1 (q4 X).1 (q4 X).2.1 (q4 X).2.2.1 (q4 X).2.2.2.1 (q8 X).1 (q8 X).2.1 Z) (fun ρ X V Z=>Z 0 (Shape.inj whole_Frac_Sub.c1s (X.1,X.2.1,X.2.2.1,X.2.2.2.1,(q4 X).1,(q4 X).2.1,(q4 X).2.2.1,(q4 X).2.2.2.1,(q8 X).1,(q8 X).2.1,V.1,V.2.1,V.2.2.1,V.2.2.2,())))
def whole_Frac_Sub (x:YD×YD) (y:YD×YD):Option (YD×YD):=
 bnd (whole_Frac_Sub.c1 x.1.1 x.1.2 x.2.1 x.2.2 y.1.1 y.1.2 y.2.1 y.2.2 some) fun y_1=>
 some ((y_1.1,y_1.2.1),y_1.2.2.1,y_1.2.2.2)
def whole_Frac_Sub.ce:Go.Ql.Callee:=⟨[(.st (.pair (.st (.pair .bool (.sl (.int .u32)))) (.st (.pair .bool (.sl (.int .u32)))))),(.st (.pair (.st (.pair .bool (.sl (.int .u32)))) (.st (.pair .bool (.sl (.int .u32))))))],[(.st (.pair (.st (.pair .bool (.sl (.int .u32)))) (.st (.pair .bool (.sl (.int .u32))))))],fun X=>whole_Frac_Sub X.1 X.2⟩
def whole_Frac_Sub.G:Env:=⟨13,tab,[(74,whole_Int_Neg.ce),(30,whole_Frac_Add.ce)],[0,1,2,3,4],[],[(1,[⟨[],[],[6,7,8,9,10,11],[]⟩,⟨[],[],[5,9,10],[]⟩,⟨[1],[],[5,9,10],[]⟩,⟨[2,1],[],[5,9,10],[]⟩,⟨[],[],[5,6,7,8],[]⟩,⟨[4],[],[5,6,7,8],[]⟩,⟨[3,2,1,5,4],[],[5],[]⟩,⟨[0,6,3,2,1,5,4],[],[],[]⟩,⟨[7,0,6,3,2,1,5,4],[4],[],[]⟩])],[(1,whole_Frac_Sub.c1r)],[],jy⟩
theorem whole_Frac_Sub.p0:PcA whole_Frac_Sub.G Tryz.f28 0:=
 js (s:=whole_Frac_Sub.c1r) (by kernel_rfl) (by kernel_rfl) (jq (sh:=whole_Frac_Sub.c1s) (fun ρ X Z=>(jb fun _=>(jb fun _=>jc))) (fun ρ X t k=>(by kernel_rfl)) (fun X=>by kernel_rfl))
theorem whole_Frac_Sub.ok:CalleeOk Tryz.prog 28 whole_Frac_Sub.ce:=fn_ok (G:=whole_Frac_Sub.G) jG mixed Tryz.func28 ⟨(jj whole_Int_Neg.ok (jj whole_Frac_Add.ok jz)),jx,jn⟩ (m:=1) (by kernel_rfl) ⟨trivial,whole_Frac_Sub.p0⟩ (by kernel_rfl) (fun _=>by kernel_rfl)
def kC (code:Int) (t1:Int):Option (Int×Int):=
 some (code,t1)
def kC.ce:Go.Ql.Callee:=⟨[(.int .i64),(.int .i64)],[(.st (.pair (.int .i64) (.int .i64)))],fun X=>kC X.1 X.2⟩
def kC.G:Env:=⟨8,tab,[],[0,1,4],[],[],[],[],jy⟩
theorem kC.ok:CalleeOk Tryz.prog 32 kC.ce:=fn_ok (G:=kC.G) jG mixed Tryz.func32 ⟨jz,jx,jn⟩ (m:=0) (by kernel_rfl) trivial (by kernel_rfl) (fun _=>by kernel_rfl)
abbrev ff80:SO:=.box [.val .bool,.val .str]
def jA.c1 (text:List UInt8)(n:Int)(Z:Bool→Option ρ):Option ρ:=
 br (decide (n<(1:Int)))
 (Z true)
 (br ((↑(List.length text):Int) !=IntKind.i64.wrap (n+(1:Int)))
 (Z true)
 (bnd (idx text (0:Int)) fun y=>
 br ((↑(UInt8.toNat y):Int) !=(43:Int))
 (bnd (idx text (0:Int)) fun y_1=>
 Z ((↑(UInt8.toNat y_1):Int) !=(45:Int)))
 (Z false)))
def jA.c1s:Shape:=⟨[(0,ff4),(1,ff5),(4,ff6),(5,ff7)],[(4,ff80)]⟩
def jA.c1x0:Shape:=⟨[(0,ff4),(1,ff5),(4,ff6),(5,ff7),(25,ff7)],[(4,ff80)]⟩
def jA.c1r:Ck:=Ck.of (T:=Bool) jA.c1s (fun ρ X Z=>jA.c1 X.1 X.2.1 Z) (fun ρ X V Z=>Z 0 (Shape.inj jA.c1x0 (X.1,X.2.1,X.2.2.1,V,X.2.2.2)))
def jA.c6 (text:List UInt8)(i:Int)(Z:Bool→Option ρ):Option ρ:=
 bnd (idx text i) fun y=>
 br ((↑(UInt8.toNat y):Int) !=(73:Int))
 (bnd (idx text i) fun y_1=>
 br ((↑(UInt8.toNat y_1):Int) !=(88:Int))
 (bnd (idx text i) fun y_2=>
 br ((↑(UInt8.toNat y_2):Int) !=(89:Int))
 (bnd (idx text i) fun y_3=>
 Z ((↑(UInt8.toNat y_3):Int) !=(90:Int)))
 (Z false))
 (Z false))
 (Z false)
def jA.c6s:Shape:=⟨[(0,ff4),(1,ff5),(4,ff6),(5,ff7),(6,ff5)],[(4,ff80)]⟩
def jA.c6x0:Shape:=⟨[(0,ff4),(1,ff5),(4,ff6),(5,ff7),(6,ff5),(53,ff7)],[(4,ff80)]⟩
def jA.c6r:Ck:=Ck.of (T:=Bool) jA.c6s (fun ρ X Z=>jA.c6 X.1 X.2.2.2.1 Z) (fun ρ X V Z=>Z 0 (Shape.inj jA.c6x0 (X.1,X.2.1,X.2.2.1,X.2.2.2.1,V,(q4 X))))
def jA.cb_ (text:List UInt8)(n:Int)(i:Int)(Z:Int⊕(Int⊕Int)→Option ρ):Option ρ:=
 br (decide (i≤n))
 (bnd (jA.c6 text i some) fun y=>
 br y
 (Z (.inr (.inl i)))
 (Z (.inl (IntKind.i64.wrap (i+(1:Int))))))
 (Z (.inr (.inr i)))
def jA.cb_r:Ck:=Ck.ofLoop (S:=Int) (T:=Int⊕Int) jA.c6s (fun X=>X.2.2.2.1) (fun ρ X Q Z=>jA.cb_ X.1 X.2.1 Q Z) (fun ρ X V Z=>sel V (fun V=>Z 1 (Shape.inj jA.c6s (X.1,X.2.1,false,V,false,[],()))) (fun V=>Z 2 (Shape.inj jA.c6s (X.1,X.2.1,X.2.2.1,V,(q4 X)))))
def jA.c8 (text:List UInt8)(Z:Bool→Option ρ):Option ρ:=
 bnd (idx text (0:Int)) fun y=>
 bnd (okIf (decide ((1:Int)≤(↑(List.length text):Int))&&decide ((↑(List.length text):Int)≤(↑(List.length text):Int)))) fun y_1=>
 Z ((↑(UInt8.toNat y):Int)==(45:Int))
def jA.c8r:Ck:=Ck.of (T:=Bool) jA.c6s (fun ρ X Z=>jA.c8 X.1 Z) (fun ρ X V Z=>Z 0 (Shape.inj jA.c6s (X.1,X.2.1,true,X.2.2.2.1,V,(List.drop (1:Nat) (List.take (Int.toNat (↑(List.length X.1):Int)) X.1)),())))
def jA (text:List UInt8) (n:Int):Option ((Bool×(List UInt8))×Bool):=
 bnd (jA.c1 text n some) fun y=>
 br y
 (some ((false,[]),false))
 (bnd (iter (fun s↦jA.cb_ text n s some) (1:Int)) fun y_1=>
 sel y_1
 (fun u=>some ((false,[]),false))
 (fun v=>bnd (jA.c8 text some) fun y_2=>
 some ((y_2,List.drop (1:Nat) (List.take (Int.toNat (↑(List.length text):Int)) text)),true)))
def jA.ce:Go.Ql.Callee:=⟨[.str,(.int .i64)],[(.st (.pair .bool .str)),.bool],fun X=>jA X.1 X.2⟩
def jA.G:Env:=⟨61,tab,[],[0,1,4,5,6,25,29,53],[],[(8,[⟨[],[],[58,59],[]⟩,⟨[0],[],[58,59],[]⟩,⟨[1,0],[],[58,59],[]⟩,⟨[],[],[55,56,57],[]⟩,⟨[3],[],[55,56,57],[]⟩,⟨[2,1,0,4,3],[],[],[]⟩,⟨[5,2,1,0,4,3],[4],[],[]⟩,⟨[6,5,2,1,0,4,3],[],[],[]⟩])],[(8,jA.c8r),(100004,jA.cb_r),(6,jA.c6r),(1,jA.c1r)],[],jy⟩
theorem jA.p0:PcA jA.G Tryz.f33 0:=
 js (s:=jA.c1r) (by kernel_rfl) (by kernel_rfl) (jq (sh:=jA.c1s) (fun ρ X Z=>(jl jc (jl jc (jb fun _=>(jl (jb fun _=>jc) jc))))) (fun ρ X t k=>(by kernel_rfl)) (fun X=>by kernel_rfl))
theorem jA.p1:PcA jA.G Tryz.f33 1:=
 jW (s:=jA.cb_r) (by kernel_rfl) (by kernel_rfl) (jT (sh:=jA.c6s) (I:=fun X Q=>(X.1,X.2.1,X.2.2.1,Q,(q4 X))) (fun X=>rfl) (fun ρ X Q Z=>(jl (jb fun _=>(jl jc jc)) jc)) (fun ρ X t k=>(kU (fun _=>(by kernel_rfl)) (fun _=>(by kernel_rfl)))) (fun X s=>by kernel_rfl))
theorem jA.p2:PcA jA.G Tryz.f33 2:=
 js (s:=jA.c6r) (by kernel_rfl) (by kernel_rfl) (jq (sh:=jA.c6s) (fun ρ X Z=>(jb fun _=>(jl (jb fun _=>(jl (jb fun _=>(jl (jb fun _=>jc) jc)) jc)) jc))) (fun ρ X t k=>(by kernel_rfl)) (fun X=>by kernel_rfl))
theorem jA.p3:PcA jA.G Tryz.f33 3:=
 js (s:=jA.c8r) (by kernel_rfl) (by kernel_rfl) (jq (sh:=jA.c6s) (fun ρ X Z=>(jb fun _=>(jb fun _=>jc))) (fun ρ X t k=>(by kernel_rfl)) (fun X=>by kernel_rfl))
theorem jA.ok:CalleeOk Tryz.prog 33 jA.ce:=fn_ok (G:=jA.G) jG mixed Tryz.func33 ⟨jz,jx,jn⟩ (m:=4) (by kernel_rfl) ⟨⟨⟨⟨trivial,jA.p0⟩,jA.p1⟩,jA.p2⟩,jA.p3⟩ (by kernel_rfl) (fun _=>by kernel_rfl)
abbrev ff81:SO:=.arr 0 false 9 .str
def kb.ca_ (gens:List (List UInt8))(i:Int)(out:List (List UInt8))(Z:(Int×(List (List UInt8)))⊕(Int×(List (List UInt8)))→Option ρ):Option ρ:=
 br (decide (i<(↑(List.length gens):Int)))
 (bnd (idx gens i) fun y=>
 bnd (okIf (decide ((1:Int)≤(↑(List.length y):Int))&&decide ((↑(List.length y):Int)≤(↑(List.length y):Int)))) fun y_1=>
 bnd (okIf (decide ((List.length out+(1:Nat))*(16:Nat)≤(140737488355328:Nat))&&decide (List.length out+(1:Nat)≤(140737488355328:Nat)))) fun y_2=>
 Z (.inl ((IntKind.i64.wrap (i+(1:Int))),(out++[List.drop (1:Nat) (List.take (Int.toNat (↑(List.length y):Int)) y)]))))
 (Z (.inr (i,out)))
def kb.ca_s:Shape:=⟨[(0,ff21),(2,ff21),(3,ff26),(4,ff5)],[(3,ff81)]⟩
def kb.ca_r:Ck:=Ck.ofLoop (S:=Int×(List (List UInt8))) (T:=Int×(List (List UInt8))) kb.ca_s (fun X=>(X.2.2.1,X.2.2.2.1)) (fun ρ X Q Z=>kb.ca_ X.1 Q.1 Q.2 Z) (fun ρ X V Z=>Z 2 (Shape.inj kb.ca_s (X.1,X.2.1,V.1,V.2,())))
def kb (gens:List (List UInt8)):Option (List (List UInt8)):=
 bnd (iter (fun s↦kb.ca_ gens s.1 s.2 some) ((0:Int),[])) fun y=>
 some y.2
def kb.ce:Go.Ql.Callee:=⟨[(.sl .str)],[(.sl .str)],fun X=>kb X⟩
def kb.G:Env:=⟨20,tab,[],[0,2,3,4,8],[3],[],[(100003,kb.ca_r)],[],jy⟩
theorem kb.p0:PcA kb.G Tryz.f34 0:=
 jW (s:=kb.ca_r) (by kernel_rfl) (by kernel_rfl) (jT (sh:=kb.ca_s) (I:=fun X Q=>(X.1,X.2.1,Q.1,Q.2,())) (fun X=>rfl) (fun ρ X Q Z=>(jl (jb fun _=>(jb fun _=>(jb fun _=>jc))) jc)) (fun ρ X t k=>(by kernel_rfl)) (fun X s=>by kernel_rfl))
theorem kb.ok:CalleeOk Tryz.prog 34 kb.ce:=fn_ok (G:=kb.G) jG mixed Tryz.func34 ⟨jz,jx,jn⟩ (m:=1) (by kernel_rfl) ⟨trivial,kb.p0⟩ (by kernel_rfl) (fun _=>by kernel_rfl)
def Jd.c5 (a:List UInt8)(b:List UInt8)(i:Int)(Z:Bool→Option ρ):Option ρ:=
 bnd (idx a i) fun y=>
 br ((↑(UInt8.toNat y):Int) !=(73:Int))
 (bnd (idx b i) fun y_1=>
 br ((↑(UInt8.toNat y_1):Int) !=(73:Int))
 (bnd (idx a i) fun y_2=>
 bnd (idx b i) fun y_3=>
 Z ((↑(UInt8.toNat y_2):Int) !=(↑(UInt8.toNat y_3):Int)))
 (Z false))
 (Z false)
def Jd.c5s:Shape:=⟨[(0,ff4),(1,ff4),(4,ff7),(5,ff5),(6,ff5)],[]⟩
def Jd.c5x0:Shape:=⟨[(0,ff4),(1,ff4),(4,ff7),(5,ff5),(6,ff5),(31,ff7)],[]⟩
def Jd.c5r:Ck:=Ck.of (T:=Bool) Jd.c5s (fun ρ X Z=>Jd.c5 X.1 X.2.1 (q4 X).1 Z) (fun ρ X V Z=>Z 0 (Shape.inj Jd.c5x0 (X.1,X.2.1,X.2.2.1,X.2.2.2.1,(q4 X).1,V,())))
def Jd.cn_ (a:List UInt8)(b:List UInt8)(n:Int)(i:Int)(Z:Int→Option ρ):Option ρ:=
 bnd (Jd.c5 a b i some) fun y=>
 br y
 (Z (IntKind.i64.wrap (n+(1:Int))))
 (Z n)
def Jd.cn_r:Ck:=Ck.of (T:=Int) Jd.c5s (fun ρ X Z=>Jd.cn_ X.1 X.2.1 X.2.2.2.1 (q4 X).1 Z) (fun ρ X V Z=>Z 0 (Shape.inj Jd.c5s (X.1,X.2.1,X.2.2.1,V,(q4 X))))
def Jd.ca_ (a:List UInt8)(b:List UInt8)(n:Int)(i:Int)(Z:(Int×Int)⊕(Int×Int)→Option ρ):Option ρ:=
 br (decide (i<(↑(List.length a):Int)))
 (bnd (Jd.cn_ a b n i some) fun y=>
 Z (.inl (y,(IntKind.i64.wrap (i+(1:Int))))))
 (Z (.inr (n,i)))
def Jd.ca_r:Ck:=Ck.ofLoop (S:=Int×Int) (T:=Int×Int) Jd.c5s (fun X=>(X.2.2.2.1,(q4 X).1)) (fun ρ X Q Z=>Jd.ca_ X.1 X.2.1 Q.1 Q.2 Z) (fun ρ X V Z=>Z 2 (Shape.inj Jd.c5s (X.1,X.2.1,X.2.2.1,V.1,V.2,())))
def Jd (a:List UInt8) (b:List UInt8):Option Bool:=
 bnd (iter (fun s↦Jd.ca_ a b s.1 s.2 some) ((0:Int),(0:Int))) fun y=>
 some (Int.tmod y.1 (2:Int)==(1:Int))
def Jd.ce:Go.Ql.Callee:=⟨[.str,.str],[.bool],fun X=>Jd X.1 X.2⟩
def Jd.G:Env:=⟨37,tab,[],[0,1,4,5,6,10,31],[],[(5,[⟨[],[],[14],[]⟩,⟨[],[],[13],[]⟩,⟨[0,1],[],[],[]⟩,⟨[2,0,1],[],[],[]⟩,⟨[3,2,0,1],[],[],[]⟩,⟨[4,3,2,0,1],[],[19],[]⟩,⟨[4,3,2,0,1],[],[18],[]⟩,⟨[5,4,3,2,0,1,6],[],[],[]⟩,⟨[7,5,4,3,2,0,1,6],[],[],[]⟩,⟨[4,3,2,0,1,8,7,5,6],[],[],[]⟩,⟨[9,4,3,2,0,1,8,7,5,6],[],[],[]⟩,⟨[10,9,4,3,2,0,1,8,7,5,6],[],[25,27,28,29],[]⟩,⟨[10,9,4,3,2,0,1,8,7,5,6],[],[24,27,28,29],[]⟩,⟨[11,10,9,4,3,2,0,1,8,7,5,6,12],[],[27,28,29],[]⟩,⟨[10,9,4,3,2,0,1,8,7,5,6],[],[24,25,26,28],[]⟩,⟨[10,9,4,3,2,0,1,8,7,5,6],[],[24,25,26,27],[]⟩,⟨[14,10,9,4,3,2,0,1,8,7,5,6,15],[],[24,25,26],[]⟩,⟨[13,11,10,9,4,3,2,0,1,8,7,5,6,12,16,14,15],[],[],[]⟩,⟨[10,9,4,3,2,0,1,8,7,5,6,17,13,11,12,16,14,15],[],[],[]⟩])],[(100003,Jd.ca_r),(220486,Jd.cn_r),(5,Jd.c5r)],[],jy⟩
theorem Jd.p0:PcA Jd.G Tryz.f35 0:=
 jW (s:=Jd.ca_r) (by kernel_rfl) (by kernel_rfl) (jT (sh:=Jd.c5s) (I:=fun X Q=>(X.1,X.2.1,X.2.2.1,Q.1,Q.2,())) (fun X=>rfl) (fun ρ X Q Z=>(jl (jb fun _=>jc) jc)) (fun ρ X t k=>(by kernel_rfl)) (fun X s=>by kernel_rfl))
theorem Jd.p1:PcA Jd.G Tryz.f35 1:=
 JE (s:=Jd.cn_r) (by kernel_rfl) (by kernel_rfl) (jq (sh:=Jd.c5s) (fun ρ X Z=>(jb fun _=>(jl jc jc))) (fun ρ X t k=>(by kernel_rfl)) (fun X=>by kernel_rfl))
theorem Jd.p2:PcA Jd.G Tryz.f35 2:=
 js (s:=Jd.c5r) (by kernel_rfl) (by kernel_rfl) (jq (sh:=Jd.c5s) (fun ρ X Z=>(jb fun _=>(jl (jb fun _=>(jl (jb fun _=>(jb fun _=>jc)) jc)) jc))) (fun ρ X t k=>(by kernel_rfl)) (fun X=>by kernel_rfl))
theorem Jd.ok:CalleeOk Tryz.prog 35 Jd.ce:=fn_ok (G:=Jd.G) jG mixed Tryz.func35 ⟨jz,jx,jn⟩ (m:=3) (by kernel_rfl) ⟨⟨⟨trivial,Jd.p0⟩,Jd.p1⟩,Jd.p2⟩ (by kernel_rfl) (fun _=>by kernel_rfl)
def jh.c8 (a:List UInt8)(b:List UInt8)(i:Int)(Z:Bool→Option ρ):Option ρ:=
 bnd (idx a i) fun y=>
 bnd (idx b i) fun y_1=>
 Z ((↑(UInt8.toNat y):Int)==(↑(UInt8.toNat y_1):Int))
def jh.c8s:Shape:=⟨[(0,ff4),(1,ff4),(4,ff4),(5,ff4),(6,ff5),(7,ff4)],[]⟩
def jh.c8x0:Shape:=⟨[(0,ff4),(1,ff4),(4,ff4),(5,ff4),(6,ff5),(7,ff4),(35,ff7)],[]⟩
def jh.c8r:Ck:=Ck.of (T:=Bool) jh.c8s (fun ρ X Z=>jh.c8 X.1 X.2.1 (q4 X).1 Z) (fun ρ X V Z=>Z 0 (Shape.inj jh.c8x0 (X.1,X.2.1,X.2.2.1,X.2.2.2.1,(q4 X).1,(q4 X).2.1,V,())))
def jh.c15 (a:List UInt8)(b:List UInt8)(i:Int)(t8:Int)(Z:Bool→Option ρ):Option ρ:=
 bnd (idx (Array.toList (ByteArray.data (ByteArray.mk #[88,89,90]))) t8) fun y=>
 bnd (idx a i) fun y_1=>
 br ((↑(UInt8.toNat y):Int) !=(↑(UInt8.toNat y_1):Int))
 (bnd (idx (Array.toList (ByteArray.data (ByteArray.mk #[88,89,90]))) t8) fun y_2=>
 bnd (idx b i) fun y_3=>
 Z ((↑(UInt8.toNat y_2):Int) !=(↑(UInt8.toNat y_3):Int)))
 (Z false)
def jh.c15s:Shape:=⟨[(0,ff4),(1,ff4),(4,ff4),(5,ff4),(6,ff5),(7,ff4),(8,ff5)],[]⟩
def jh.c15x0:Shape:=⟨[(0,ff4),(1,ff4),(4,ff4),(5,ff4),(6,ff5),(7,ff4),(8,ff5),(57,ff7)],[]⟩
def jh.c15r:Ck:=Ck.of (T:=Bool) jh.c15s (fun ρ X Z=>jh.c15 X.1 X.2.1 (q4 X).1 (q4 X).2.2.1 Z) (fun ρ X V Z=>Z 0 (Shape.inj jh.c15x0 (X.1,X.2.1,X.2.2.1,X.2.2.2.1,(q4 X).1,(q4 X).2.1,(q4 X).2.2.1,V,())))
def jh.cP_ (a:List UInt8)(b:List UInt8)(i:Int)(c:List UInt8)(t8:Int)(Z:List UInt8→Option ρ):Option ρ:=
 bnd (jh.c15 a b i t8 some) fun y=>
 br y
 (bnd (okIf (decide ((0:Int)≤t8)&&decide (t8≤IntKind.i64.wrap (t8+(1:Int)))&&decide (IntKind.i64.wrap (t8+(1:Int))≤(↑(List.length (Array.toList (ByteArray.data (ByteArray.mk #[88,89,90])))):Int)))) fun y_1=>
 Z (List.drop (Int.toNat t8) (List.take (Int.toNat (IntKind.i64.wrap (t8+(1:Int)))) (Array.toList (ByteArray.data (ByteArray.mk #[88,89,90]))))))
 (Z c)
def jh.cP_r:Ck:=Ck.of (T:=List UInt8) jh.c15s (fun ρ X Z=>jh.cP_ X.1 X.2.1 (q4 X).1 (q4 X).2.1 (q4 X).2.2.1 Z) (fun ρ X V Z=>Z 0 (Shape.inj jh.c15s (X.1,X.2.1,X.2.2.1,X.2.2.2.1,(q4 X).1,V,(q4 X).2.2)))
def jh.cl_ (a:List UInt8)(b:List UInt8)(i:Int)(c:List UInt8)(t8:Int)(Z:((List UInt8)×Int)⊕((List UInt8)×Int)→Option ρ):Option ρ:=
 br (decide (t8<(3:Int)))
 (bnd (jh.cP_ a b i c t8 some) fun y=>
 Z (.inl (y,(IntKind.i64.wrap (t8+(1:Int))))))
 (Z (.inr (c,t8)))
def jh.cl_r:Ck:=Ck.ofLoop (S:=(List UInt8)×Int) (T:=(List UInt8)×Int) jh.c15s (fun X=>((q4 X).2.1,(q4 X).2.2.1)) (fun ρ X Q Z=>jh.cl_ X.1 X.2.1 (q4 X).1 Q.1 Q.2 Z) (fun ρ X V Z=>Z 4 (Shape.inj jh.c15s (X.1,X.2.1,X.2.2.1,X.2.2.2.1,(q4 X).1,V.1,V.2,())))
def jh.cT_ (a:List UInt8)(b:List UInt8)(i:Int)(c:List UInt8)(Z:List UInt8→Option ρ):Option ρ:=
 bnd (idx a i) fun y=>
 br ((↑(UInt8.toNat y):Int)==(73:Int))
 (bnd (okIf (decide ((0:Int)≤i)&&decide (i≤IntKind.i64.wrap (i+(1:Int)))&&decide (IntKind.i64.wrap (i+(1:Int))≤(↑(List.length b):Int)))) fun y_1=>
 Z (List.drop (Int.toNat i) (List.take (Int.toNat (IntKind.i64.wrap (i+(1:Int)))) b)))
 (bnd (jh.c8 a b i some) fun y_2=>
 br y_2
 (Z (Array.toList (ByteArray.data (ByteArray.mk #[73]))))
 (bnd (idx b i) fun y_3=>
 br ((↑(UInt8.toNat y_3):Int) !=(73:Int))
 (bnd (iter (fun s↦jh.cl_ a b i s.1 s.2 some) (Array.toList (ByteArray.data (ByteArray.mk #[88])),(0:Int))) fun y4=>
 Z y4.1)
 (Z c)))
def jh.cT_r:Ck:=Ck.of (T:=List UInt8) jh.c8s (fun ρ X Z=>jh.cT_ X.1 X.2.1 (q4 X).1 (q4 X).2.1 Z) (fun ρ X V Z=>Z 0 (Shape.inj jh.c8s (X.1,X.2.1,X.2.2.1,X.2.2.2.1,(q4 X).1,V,())))
def jh.ca_ (a:List UInt8)(b:List UInt8)(out:List UInt8)(i:Int)(Z:((List UInt8)×Int)⊕((List UInt8)×Int)→Option ρ):Option ρ:=
 br (decide (i<(↑(List.length a):Int)))
 (bnd (okIf (decide ((0:Int)≤i)&&decide (i≤IntKind.i64.wrap (i+(1:Int)))&&decide (IntKind.i64.wrap (i+(1:Int))≤(↑(List.length a):Int)))) fun y=>
 bnd (jh.cT_ a b i (List.drop (Int.toNat i) (List.take (Int.toNat (IntKind.i64.wrap (i+(1:Int)))) a)) some) fun y_1=>
 bnd (okIf (decide (List.length out+List.length y_1≤(9223372036854775807:Nat)))) fun y_2=>
 Z (.inl ((out++y_1),(IntKind.i64.wrap (i+(1:Int))))))
 (Z (.inr (out,i)))
def jh.ca_s:Shape:=⟨[(0,ff4),(1,ff4),(4,ff4),(5,ff4),(6,ff5)],[]⟩
def jh.ca_r:Ck:=Ck.ofLoop (S:=(List UInt8)×Int) (T:=(List UInt8)×Int) jh.ca_s (fun X=>(X.2.2.2.1,(q4 X).1)) (fun ρ X Q Z=>jh.ca_ X.1 X.2.1 Q.1 Q.2 Z) (fun ρ X V Z=>Z 2 (Shape.inj jh.ca_s (X.1,X.2.1,X.2.2.1,V.1,V.2,())))
def jh (a:List UInt8) (b:List UInt8):Option (List UInt8):=
 bnd (iter (fun s↦jh.ca_ a b s.1 s.2 some) (Array.toList (ByteArray.data (ByteArray.mk #[])),(0:Int))) fun y=>
 some y.1
def jh.ce:Go.Ql.Callee:=⟨[.str,.str],[.str],fun X=>jh X.1 X.2⟩
def jh.G:Env:=⟨66,tab,[],[0,1,4,5,6,7,8,12,23,35,39,41,57],[],[(15,[⟨[],[],[46,47,48],[]⟩,⟨[0],[],[46,47,48],[]⟩,⟨[],[],[44,45,47],[]⟩,⟨[],[],[44,45,46],[]⟩,⟨[2,3],[],[44,45],[]⟩,⟨[1,0,4,2,3],[],[],[]⟩,⟨[5,1,0,4,2,3],[],[],[]⟩,⟨[6,5,1,0,4,2,3],[],[53,54,55],[]⟩,⟨[7,6,5,1,0,4,2,3],[],[53,54,55],[]⟩,⟨[6,5,1,0,4,2,3],[],[51,52,54],[]⟩,⟨[6,5,1,0,4,2,3],[],[51,52,53],[]⟩,⟨[9,6,5,1,0,4,2,3,10],[],[51,52],[]⟩,⟨[8,7,6,5,1,0,4,2,3,11,9,10],[],[],[]⟩,⟨[6,5,1,0,4,2,3,12,8,7,11,9,10],[],[],[]⟩]),
 (8,[⟨[],[],[30,32,33,34],[]⟩,⟨[],[],[29,32,33,34],[]⟩,⟨[0,1],[],[32,33,34],[]⟩,⟨[],[],[29,30,31,33],[]⟩,⟨[],[],[29,30,31,32],[]⟩,⟨[3,4],[],[29,30,31],[]⟩,⟨[2,0,1,5,3,4],[],[],[]⟩])],[(100003,jh.ca_r),(224608,jh.cT_r),(100013,jh.cl_r),(261446,jh.cP_r),(15,jh.c15r),(8,jh.c8r)],[],jy⟩
theorem jh.p0:PcA jh.G Tryz.f55 0:=
 jW (s:=jh.ca_r) (by kernel_rfl) (by kernel_rfl) (jT (sh:=jh.ca_s) (I:=fun X Q=>(X.1,X.2.1,X.2.2.1,Q.1,Q.2,())) (fun X=>rfl) (fun ρ X Q Z=>(jl (jb fun _=>(jb fun _=>(jb fun _=>jc))) jc)) (fun ρ X t k=>(by kernel_rfl)) (fun X s=>by kernel_rfl))
theorem jh.p1:PcA jh.G Tryz.f55 1:=
 JE (s:=jh.cT_r) (by kernel_rfl) (by kernel_rfl) (jq (sh:=jh.c8s) (fun ρ X Z=>(jb fun _=>(jl (jb fun _=>jc) (jb fun _=>(jl jc (jb fun _=>(jl (jb fun _=>jc) jc))))))) (fun ρ X t k=>(by kernel_rfl)) (fun X=>by kernel_rfl))
theorem jh.p2:PcA jh.G Tryz.f55 2:=
 js (s:=jh.c8r) (by kernel_rfl) (by kernel_rfl) (jq (sh:=jh.c8s) (fun ρ X Z=>(jb fun _=>(jb fun _=>jc))) (fun ρ X t k=>(by kernel_rfl)) (fun X=>by kernel_rfl))
theorem jh.p3:PcA jh.G Tryz.f55 3:=
 jW (s:=jh.cl_r) (by kernel_rfl) (by kernel_rfl) (jT (sh:=jh.c15s) (I:=fun X Q=>(X.1,X.2.1,X.2.2.1,X.2.2.2.1,(q4 X).1,Q.1,Q.2,())) (fun X=>rfl) (fun ρ X Q Z=>(jl (jb fun _=>jc) jc)) (fun ρ X t k=>(by kernel_rfl)) (fun X s=>by kernel_rfl))
theorem jh.p4:PcA jh.G Tryz.f55 4:=
 JE (s:=jh.cP_r) (by kernel_rfl) (by kernel_rfl) (jq (sh:=jh.c15s) (fun ρ X Z=>(jb fun _=>(jl (jb fun _=>jc) jc))) (fun ρ X t k=>(by kernel_rfl)) (fun X=>by kernel_rfl))
theorem jh.p5:PcA jh.G Tryz.f55 5:=
 js (s:=jh.c15r) (by kernel_rfl) (by kernel_rfl) (jq (sh:=jh.c15s) (fun ρ X Z=>(jb fun _=>(jb fun _=>(jl (jb fun _=>(jb fun _=>jc)) jc)))) (fun ρ X t k=>(by kernel_rfl)) (fun X=>by kernel_rfl))
theorem jh.ok:CalleeOk Tryz.prog 55 jh.ce:=fn_ok (G:=jh.G) jG mixed Tryz.func55 ⟨jz,jx,jn⟩ (m:=6) (by kernel_rfl) ⟨⟨⟨⟨⟨⟨trivial,jh.p0⟩,jh.p1⟩,jh.p2⟩,jh.p3⟩,jh.p4⟩,jh.p5⟩ (by kernel_rfl) (fun _=>by kernel_rfl)
abbrev ff82:SD:=.one (.own 30 0)
def jD.ch_ (gens:List (List UInt8))(one:List UInt8)(t6:Int)(Z:((List UInt8)×Int)⊕((List UInt8)×Int)→Option ρ):Option ρ:=
 bnd (idx gens (0:Int)) fun y=>
 br (decide (t6<(↑(List.length y):Int)))
 (bnd (okIf (decide (List.length one+List.length (Array.toList (ByteArray.data (ByteArray.mk #[73])))≤(9223372036854775807:Nat)))) fun y_1=>
 Z (.inl ((one++Array.toList (ByteArray.data (ByteArray.mk #[73]))),(IntKind.i64.wrap (t6+(1:Int))))))
 (Z (.inr (one,t6)))
def jD.ch_s:Shape:=⟨[(0,ff21),(2,ff21),(3,ff21),(4,ff5),(5,ff4),(6,ff5)],[]⟩
def jD.ch_r:Ck:=Ck.ofLoop (S:=(List UInt8)×Int) (T:=(List UInt8)×Int) jD.ch_s (fun X=>((q4 X).1,(q4 X).2.1)) (fun ρ X Q Z=>jD.ch_ X.1 Q.1 Q.2 Z) (fun ρ X V Z=>Z 4 (Shape.inj jD.ch_s (X.1,X.2.1,X.2.2.1,X.2.2.2.1,V.1,V.2,())))
def jD.cF_ (gens:List (List UInt8))(out:List (List UInt8))(i:Int)(Z:List (List UInt8)→Option ρ):Option ρ:=
 br (i==(0:Int))
 (bnd (iter (fun s↦jD.ch_ gens s.1 s.2 some) (Array.toList (ByteArray.data (ByteArray.mk #[])),(0:Int))) fun y=>
 Z ([y.1]))
 (Z out)
def jD.cF_s:Shape:=⟨[(0,ff21),(2,ff21),(3,ff21),(4,ff5)],[]⟩
def jD.cF_r:Ck:=Ck.of (T:=List (List UInt8)) jD.cF_s (fun ρ X Z=>jD.cF_ X.1 X.2.2.1 X.2.2.2.1 Z) (fun ρ X V Z=>Z 0 (Shape.inj jD.cF_s (X.1,X.2.1,V,X.2.2.2)))
def jD.c16 (gens:List (List UInt8))(out:List (List UInt8))(i:Int)(t8:Int)(t30:List (List UInt8))(Z:List (List UInt8)→Option ρ):Option ρ:=
 bnd (idx out t8) fun y=>
 bnd (idx gens i) fun y_1=>
 bnd (jh y y_1) fun y_2=>
 bnd (okIf (decide ((List.length t30+(1:Nat))*(16:Nat)≤(140737488355328:Nat))&&decide (List.length t30+(1:Nat)≤(140737488355328:Nat)))) fun y_3=>
 Z (t30++[y_2])
def jD.c16s:Shape:=⟨[(0,ff21),(2,ff21),(3,ff21),(4,ff5),(7,ff82),(8,ff5)],[(30,ff81)]⟩
def jD.c16r:Ck:=Ck.of (T:=List (List UInt8)) jD.c16s (fun ρ X Z=>jD.c16 X.1 X.2.2.1 X.2.2.2.1 (q4 X).1 (q4 X).2.1 Z) (fun ρ X V Z=>Z 0 (Shape.inj jD.c16s (X.1,X.2.1,X.2.2.1,X.2.2.2.1,(q4 X).1,V,())))
def jD.cs_ (gens:List (List UInt8))(out:List (List UInt8))(i:Int)(t8:Int)(t30:List (List UInt8))(Z:(Int×(List (List UInt8)))⊕(Int×(List (List UInt8)))→Option ρ):Option ρ:=
 br (decide (t8<(↑(List.length out):Int)))
 (bnd (jD.c16 gens out i t8 t30 some) fun y=>
 Z (.inl ((IntKind.i64.wrap (t8+(1:Int))),y)))
 (Z (.inr (t8,t30)))
def jD.cs_r:Ck:=Ck.ofLoop (S:=Int×(List (List UInt8))) (T:=Int×(List (List UInt8))) jD.c16s (fun X=>((q4 X).1,(q4 X).2.1)) (fun ρ X Q Z=>jD.cs_ X.1 X.2.2.1 X.2.2.2.1 Q.1 Q.2 Z) (fun ρ X V Z=>Z 6 (Shape.inj jD.c16s (X.1,X.2.1,X.2.2.1,X.2.2.2.1,V.1,V.2,())))
def jD.ca_ (gens:List (List UInt8))(out:List (List UInt8))(i:Int)(Z:((List (List UInt8))×Int)⊕((List (List UInt8))×Int)→Option ρ):Option ρ:=
 br (decide (i<(↑(List.length gens):Int)))
 (bnd (jD.cF_ gens out i some) fun y=>
 bnd (okIf (decide (((0:Nat)+List.length y)*(16:Nat)≤(140737488355328:Nat))&&decide ((0:Nat)+List.length y≤(140737488355328:Nat)))) fun y_1=>
 bnd (iter (fun s↦jD.cs_ gens y i s.1 s.2 some) ((0:Int),y)) fun y_2=>
 Z (.inl (y_2.2,(IntKind.i64.wrap (i+(1:Int))))))
 (Z (.inr (out,i)))
def jD.ca_r:Ck:=Ck.ofLoop (S:=(List (List UInt8))×Int) (T:=(List (List UInt8))×Int) jD.cF_s (fun X=>(X.2.2.1,X.2.2.2.1)) (fun ρ X Q Z=>jD.ca_ X.1 Q.1 Q.2 Z) (fun ρ X V Z=>Z 2 (Shape.inj jD.cF_s (X.1,X.2.1,V.1,V.2,())))
def jD (gens:List (List UInt8)):Option (List (List UInt8)):=
 bnd (iter (fun s↦jD.ca_ gens s.1 s.2 some) ([],(0:Int))) fun y=>
 some y.1
def jD.ce:Go.Ql.Callee:=⟨[(.sl .str)],[(.sl .str)],fun X=>jD X⟩
def jD.G:Env:=⟨51,tab,[(55,jh.ce)],[0,2,3,4,5,6,7,8,12,16,22,34],[30,5000049],[(16,[⟨[],[],[38,39,40,41,42,43,44,45,46,47],[47]⟩,⟨[],[],[37,39,42,43,44,45],[]⟩,⟨[],[],[37,38,42,43,44,45],[]⟩,⟨[1,2],[],[37,42,43,44,45],[]⟩,⟨[3,1,2],[],[37,42,43,44,45],[]⟩,⟨[],[],[37,38,39,40,41,43],[]⟩,⟨[],[],[37,38,39,40,41,42],[]⟩,⟨[5,6],[],[37,38,39,40,41],[]⟩,⟨[7,5,6],[],[37,38,39,40,41],[]⟩,⟨[4,3,1,2,8,7,5,6],[],[37],[]⟩,⟨[9,4,3,1,2,8,7,5,6],[47],[37],[]⟩,⟨[0,10,9,4,3,1,2,8,7,5,6],[30],[],[]⟩,⟨[11,0,10,9,4,3,1,2,8,7,5,6],[],[],[]⟩])],[(100003,jD.ca_r),(100014,jD.cs_r),(16,jD.c16r),(220502,jD.cF_r),(100008,jD.ch_r)],[],jy⟩
theorem jD.p0:PcA jD.G Tryz.f36 0:=
 jW (s:=jD.ca_r) (by kernel_rfl) (by kernel_rfl) (jT (sh:=jD.cF_s) (I:=fun X Q=>(X.1,X.2.1,Q.1,Q.2,())) (fun X=>rfl) (fun ρ X Q Z=>(jl (jb fun _=>(jb fun _=>(jb fun _=>jc))) jc)) (fun ρ X t k=>(by kernel_rfl)) (fun X s=>by kernel_rfl))
theorem jD.p1:PcA jD.G Tryz.f36 1:=
 JE (s:=jD.cF_r) (by kernel_rfl) (by kernel_rfl) (jq (sh:=jD.cF_s) (fun ρ X Z=>(jl (jb fun _=>jc) jc)) (fun ρ X t k=>(by kernel_rfl)) (fun X=>by kernel_rfl))
theorem jD.p2:PcA jD.G Tryz.f36 2:=
 jW (s:=jD.ch_r) (by kernel_rfl) (by kernel_rfl) (jT (sh:=jD.ch_s) (I:=fun X Q=>(X.1,X.2.1,X.2.2.1,X.2.2.2.1,Q.1,Q.2,())) (fun X=>rfl) (fun ρ X Q Z=>(jb fun _=>(jl (jb fun _=>jc) jc))) (fun ρ X t k=>(by kernel_rfl)) (fun X s=>by kernel_rfl))
theorem jD.p3:PcA jD.G Tryz.f36 3:=
 jW (s:=jD.cs_r) (by kernel_rfl) (by kernel_rfl) (jT (sh:=jD.c16s) (I:=fun X Q=>(X.1,X.2.1,X.2.2.1,X.2.2.2.1,Q.1,Q.2,())) (fun X=>rfl) (fun ρ X Q Z=>(jl (jb fun _=>jc) jc)) (fun ρ X t k=>(by kernel_rfl)) (fun X s=>by kernel_rfl))
theorem jD.p4:PcA jD.G Tryz.f36 4:=
 js (s:=jD.c16r) (by kernel_rfl) (by kernel_rfl) (jq (sh:=jD.c16s) (fun ρ X Z=>(jb fun _=>(jb fun _=>(jb fun _=>(jb fun _=>jc))))) (fun ρ X t k=>(by kernel_rfl)) (fun X=>by kernel_rfl))
theorem jD.ok:CalleeOk Tryz.prog 36 jD.ce:=fn_ok (G:=jD.G) jG mixed Tryz.func36 ⟨(jj jh.ok jz),jx,jn⟩ (m:=5) (by kernel_rfl) ⟨⟨⟨⟨⟨trivial,jD.p0⟩,jD.p1⟩,jD.p2⟩,jD.p3⟩,jD.p4⟩ (by kernel_rfl) (fun _=>by kernel_rfl)
def jd.c1 (c0:Int)(Z:Bool→Option ρ):Option ρ:=
 br (decide (c0<(1:Int)))
 (Z true)
 (Z (decide (c0>(12:Int))))
def jd.c1s:Shape:=⟨[(0,ff0),(1,ff1),(2,ff2)],[(1,ff3),(2,ff19)]⟩
def jd.c1x0:Shape:=⟨[(0,ff0),(1,ff1),(2,ff2),(22,ff7)],[(1,ff3),(2,ff19)]⟩
def jd.c1r:Ck:=Ck.of (T:=Bool) jd.c1s (fun ρ X Z=>jd.c1 X.2.1 Z) (fun ρ X V Z=>Z 0 (Shape.inj jd.c1x0 (X.1,V,X.2)))
def jd.c8 (i:Int)(c0:Int)(c1:List (List UInt8))(Z:Bool×Bool×(List UInt8)→Option ρ):Option ρ:=
 bnd (idx c1 i) fun y=>
 bnd (jA y c0) fun y_1=>
 Z (y_1.2,y_1.1.1,y_1.1.2)
def jd.c8s:Shape:=⟨[(0,ff0),(1,ff1),(2,ff2),(3,ff5)],[(1,ff3),(2,ff19)]⟩
def jd.c8x0:Shape:=⟨[(0,ff0),(1,ff1),(2,ff2),(3,ff5),(5,ff7)],[(1,ff3),(2,ff19),(4,ff80)]⟩
def jd.c8r:Ck:=Ck.of (T:=Bool×Bool×(List UInt8)) jd.c8s (fun ρ X Z=>jd.c8 X.2.1 X.2.2.1 X.2.2.2.1 Z) (fun ρ X V Z=>Z 0 (Shape.inj jd.c8x0 (X.1,X.2.1,V.1,X.2.2.1,X.2.2.2.1,(q4 X).1,(q4 X).2.1,V.2.1,V.2.2,())))
def jd.cc_ (i:Int)(c0:Int)(c1:List (List UInt8))(Z:Int⊕((Int×Int×Int)⊕Int)→Option ρ):Option ρ:=
 br (decide (i<(↑(List.length c1):Int)))
 (bnd (jd.c8 i c0 c1 some) fun y=>
 br (!y.1)
 (bnd (kC (33:Int) i) fun y_1=>
 Z (.inr (.inl (i,y_1.1,y_1.2))))
 (Z (.inl (IntKind.i64.wrap (i+(1:Int))))))
 (Z (.inr (.inr i)))
def jd.cc_r:Ck:=Ck.ofLoop (S:=Int) (T:=(Int×Int×Int)⊕Int) jd.c8s (fun X=>X.2.1) (fun ρ X Q Z=>jd.cc_ Q X.2.2.1 X.2.2.2.1 Z) (fun ρ X V Z=>sel V (fun V=>Z 1 (Shape.inj jd.c8s (X.1,V.1,X.2.2.1,X.2.2.2.1,V.2.1,V.2.2,()))) (fun V=>Z 2 (Shape.inj jd.c8s (X.1,V,X.2.2))))
def jd.c18 (l:List (List UInt8))(i_1:Int)(t8:Int)(Z:Bool→Option ρ):Option ρ:=
 bnd (idx l i_1) fun y=>
 bnd (idx l t8) fun y_1=>
 bnd (Jd y y_1) fun y_2=>
 Z y_2
def jd.c18s:Shape:=⟨[(0,ff0),(1,ff1),(2,ff2),(3,ff5),(6,ff21),(7,ff5),(8,ff5)],[(1,ff3),(2,ff19)]⟩
def jd.c18x0:Shape:=⟨[(0,ff0),(1,ff1),(2,ff2),(3,ff5),(6,ff21),(7,ff5),(8,ff5),(75,ff7)],[(1,ff3),(2,ff19)]⟩
def jd.c18r:Ck:=Ck.of (T:=Bool) jd.c18s (fun ρ X Z=>jd.c18 X.2.2.1 X.2.2.2.1 (q4 X).1 Z) (fun ρ X V Z=>Z 0 (Shape.inj jd.c18x0 (X.1,X.2.1,X.2.2.1,X.2.2.2.1,(q4 X).1,V,(q4 X).2)))
def jd.ck_ (l:List (List UInt8))(i_1:Int)(t8:Int)(Z:Int⊕((Int×Int×Int)⊕Int)→Option ρ):Option ρ:=
 br (decide (t8<i_1))
 (bnd (jd.c18 l i_1 t8 some) fun y=>
 br y
 (bnd (kC (34:Int) i_1) fun y_1=>
 Z (.inr (.inl (t8,y_1.1,y_1.2))))
 (Z (.inl (IntKind.i64.wrap (t8+(1:Int))))))
 (Z (.inr (.inr t8)))
def jd.ck_r:Ck:=Ck.ofLoop (S:=Int) (T:=(Int×Int×Int)⊕Int) jd.c18s (fun X=>(q4 X).1) (fun ρ X Q Z=>jd.ck_ X.2.2.1 X.2.2.2.1 Q Z) (fun ρ X V Z=>sel V (fun V=>Z 1 (Shape.inj jd.c18s (X.1,X.2.1,X.2.2.1,X.2.2.2.1,V.1,(q4 X).2.1,(q4 X).2.2.1,V.2.1,V.2.2,()))) (fun V=>Z 6 (Shape.inj jd.c18s (X.1,X.2.1,X.2.2.1,X.2.2.2.1,V,(q4 X).2))))
def jd.cl_ (l:List (List UInt8))(i_1:Int)(Z:Int⊕((Int×Int×Int)⊕Int)→Option ρ):Option ρ:=
 br (decide (i_1<(↑(List.length l):Int)))
 (bnd (iter (fun s↦jd.ck_ l i_1 s some) (0:Int)) fun y=>
 sel y
 (fun u=>Z (.inr (.inl (i_1,u.2.1,u.2.2))))
 (fun v=>Z (.inl (IntKind.i64.wrap (i_1+(1:Int))))))
 (Z (.inr (.inr i_1)))
def jd.cl_s:Shape:=⟨[(0,ff0),(1,ff1),(2,ff2),(3,ff5),(6,ff21),(7,ff5)],[(1,ff3),(2,ff19)]⟩
def jd.cl_r:Ck:=Ck.ofLoop (S:=Int) (T:=(Int×Int×Int)⊕Int) jd.cl_s (fun X=>X.2.2.2.1) (fun ρ X Q Z=>jd.cl_ X.2.2.1 Q Z) (fun ρ X V Z=>sel V (fun V=>Z 1 (Shape.inj jd.cl_s (X.1,X.2.1,X.2.2.1,V.1,(q4 X).1,(q4 X).2.1,V.2.1,V.2.2,()))) (fun V=>Z 4 (Shape.inj jd.cl_s (X.1,X.2.1,X.2.2.1,V,(q4 X)))))
def jd.cN_ (one:List UInt8)(i_2:Int)(c0:Int)(Z:((List UInt8)×Int)⊕((List UInt8)×Int)→Option ρ):Option ρ:=
 br (decide (i_2<c0))
 (bnd (okIf (decide (List.length one+List.length (Array.toList (ByteArray.data (ByteArray.mk #[73])))≤(9223372036854775807:Nat)))) fun y=>
 Z (.inl ((one++Array.toList (ByteArray.data (ByteArray.mk #[73]))),(IntKind.i64.wrap (i_2+(1:Int))))))
 (Z (.inr (one,i_2)))
def jd.cN_s:Shape:=⟨[(0,ff0),(1,ff1),(2,ff2),(3,ff5),(6,ff21),(7,ff5),(9,ff4),(10,ff5)],[(1,ff3),(2,ff19)]⟩
def jd.cN_r:Ck:=Ck.ofLoop (S:=(List UInt8)×Int) (T:=(List UInt8)×Int) jd.cN_s (fun X=>((q4 X).1,(q4 X).2.1)) (fun ρ X Q Z=>jd.cN_ Q.1 Q.2 (q4 X).2.2.1 Z) (fun ρ X V Z=>Z 8 (Shape.inj jd.cN_s (X.1,X.2.1,X.2.2.1,X.2.2.2.1,V.1,V.2,(q4 X).2.2)))
def jd.c33 (l:List (List UInt8))(i_3:Int)(known:Bool)(g:List (List UInt8))(t14:Int)(Z:Bool→Option ρ):Option ρ:=
 br known
 (Z true)
 (bnd (idx g t14) fun y=>
 bnd (idx l i_3) fun y_1=>
 Z (y==y_1))
def jd.c33s:Shape:=⟨[(0,ff0),(1,ff1),(2,ff2),(3,ff5),(6,ff21),(7,ff5),(9,ff4),(10,ff5),(11,ff5),(12,ff7),(13,ff21),(14,ff5)],[(1,ff3),(2,ff19)]⟩
def jd.c33r:Ck:=Ck.of (T:=Bool) jd.c33s (fun ρ X Z=>jd.c33 X.2.2.1 (q4 X).2.2.1 (q4 X).2.2.2.1 (q8 X).1 (q8 X).2.1 Z) (fun ρ X V Z=>Z 0 (Shape.inj jd.c33s (X.1,X.2.1,X.2.2.1,X.2.2.2.1,(q4 X).1,(q4 X).2.1,(q4 X).2.2.1,V,(q8 X))))
def jd.cO_ (l:List (List UInt8))(i_3:Int)(known:Bool)(g:List (List UInt8))(t14:Int)(Z:(Bool×Int)⊕(Bool×Int)→Option ρ):Option ρ:=
 br (decide (t14<(↑(List.length g):Int)))
 (bnd (jd.c33 l i_3 known g t14 some) fun y=>
 Z (.inl (y,(IntKind.i64.wrap (t14+(1:Int))))))
 (Z (.inr (known,t14)))
def jd.cO_r:Ck:=Ck.ofLoop (S:=Bool×Int) (T:=Bool×Int) jd.c33s (fun X=>((q4 X).2.2.2.1,(q8 X).2.1)) (fun ρ X Q Z=>jd.cO_ X.2.2.1 (q4 X).2.2.1 Q.1 (q8 X).1 Q.2 Z) (fun ρ X V Z=>Z 12 (Shape.inj jd.c33s (X.1,X.2.1,X.2.2.1,X.2.2.2.1,(q4 X).1,(q4 X).2.1,(q4 X).2.2.1,V.1,(q8 X).1,V.2,(q8 X).2.2)))
def jd.cB_ (l:List (List UInt8))(one:List UInt8)(i_3:Int)(Z:Int⊕((Int×Int×Int)⊕Int)→Option ρ):Option ρ:=
 br (decide (i_3<(↑(List.length l):Int)))
 (bnd (idx l i_3) fun y=>
 bnd (okIf (decide ((0:Int)≤i_3)&&decide (i_3≤(↑(List.length l):Int)))) fun y_1=>
 bnd (jD (List.take (Int.toNat i_3) l)) fun y_2=>
 bnd (iter (fun s↦jd.cO_ l i_3 s.1 y_2 s.2 some) (y==one,(0:Int))) fun y_3=>
 br y_3.1
 (bnd (kC (35:Int) i_3) fun y4=>
 Z (.inr (.inl (i_3,y4.1,y4.2))))
 (Z (.inl (IntKind.i64.wrap (i_3+(1:Int))))))
 (Z (.inr (.inr i_3)))
def jd.cB_s:Shape:=⟨[(0,ff0),(1,ff1),(2,ff2),(3,ff5),(6,ff21),(7,ff5),(9,ff4),(10,ff5),(11,ff5)],[(1,ff3),(2,ff19)]⟩
def jd.cB_r:Ck:=Ck.ofLoop (S:=Int) (T:=(Int×Int×Int)⊕Int) jd.cB_s (fun X=>(q4 X).2.2.1) (fun ρ X Q Z=>jd.cB_ X.2.2.1 (q4 X).1 Q Z) (fun ρ X V Z=>sel V (fun V=>Z 1 (Shape.inj jd.cB_s (X.1,X.2.1,X.2.2.1,X.2.2.2.1,(q4 X).1,(q4 X).2.1,V.1,(q4 X).2.2.2.1,(q8 X).1,V.2.1,V.2.2,()))) (fun V=>Z 10 (Shape.inj jd.cB_s (X.1,X.2.1,X.2.2.1,X.2.2.2.1,(q4 X).1,(q4 X).2.1,V,(q4 X).2.2.2))))
def jd (c:Int×(List (List UInt8))):Option (Int×Int):=
 bnd (jd.c1 c.1 some) fun y=>
 br y
 (bnd (kC (6:Int) (0:Int)) fun y_1=>
 some (y_1.1,y_1.2))
 (br (decide ((↑(List.length c.2):Int)>c.1))
 (bnd (kC (21:Int) (0:Int)) fun y_2=>
 some (y_2.1,y_2.2))
 (bnd (iter (fun s↦jd.cc_ s c.1 c.2 some) (0:Int)) fun y_3=>
 sel y_3
 (fun u=>some (u.2.1,u.2.2))
 (fun v=>bnd (kb c.2) fun y4=>
 bnd (iter (fun s↦jd.cl_ y4 s some) (0:Int)) fun y5=>
 sel y5
 (fun u_1=>some (u_1.2.1,u_1.2.2))
 (fun v_1=>bnd (iter (fun s↦jd.cN_ s.1 s.2 c.1 some) (Array.toList (ByteArray.data (ByteArray.mk #[])),(0:Int))) fun y6=>
 bnd (iter (fun s↦jd.cB_ y4 y6.1 s some) (0:Int)) fun y7=>
 sel y7
 (fun u_2=>some (u_2.2.1,u_2.2.2))
 (fun v_2=>some ((0:Int),(0:Int)))))))
def jd.ce:Go.Ql.Callee:=⟨[(.st (.pair (.int .i64) (.sl .str)))],[(.st (.pair (.int .i64) (.int .i64)))],fun X=>jd X⟩
def jd.G:Env:=⟨124,tab,[(32,kC.ce),(33,jA.ce),(34,kb.ce),(35,Jd.ce),(36,jD.ce)],[0,1,2,3,5,6,7,8,9,10,11,12,13,14,22,29,35,50,59,64,75,81,89,105,120],[],[(33,[⟨[],[],[],[]⟩,⟨[0],[],[],[]⟩,⟨[1,0],[],[111,114,115,116,117],[]⟩,⟨[1,0],[],[110,114,115,116,117],[]⟩,⟨[2,1,0,3],[],[114,115,116,117],[]⟩,⟨[4,2,1,0,3],[],[114,115,116,117],[]⟩,⟨[1,0],[],[110,111,112,113,115],[]⟩,⟨[1,0],[],[110,111,112,113,114],[]⟩,⟨[6,1,0,7],[],[110,111,112,113],[]⟩,⟨[8,6,1,0,7],[],[110,111,112,113],[]⟩,⟨[5,4,2,1,0,3,9,8,6,7],[],[],[]⟩,⟨[1,0,10,5,4,2,3,9,8,6,7],[],[],[]⟩,⟨[11,1,0,10,5,4,2,3,9,8,6,7],[],[],[]⟩]),
 (18,[⟨[],[],[68,71,72,73,74],[]⟩,⟨[],[],[67,71,72,73,74],[]⟩,⟨[0,1],[],[71,72,73,74],[]⟩,⟨[2,0,1],[],[71,72,73,74],[]⟩,⟨[],[],[67,68,69,70,72],[]⟩,⟨[],[],[67,68,69,70,71],[]⟩,⟨[4,5],[],[67,68,69,70],[]⟩,⟨[6,4,5],[],[67,68,69,70],[]⟩,⟨[3,2,0,1,7,6,4,5],[],[],[]⟩]),
 (8,[⟨[],[],[41,44,45,4],[4]⟩,⟨[0],[],[41,44,45,4],[4]⟩,⟨[],[],[39,40,44,45,4],[4]⟩,⟨[1,0,2],[],[44,45,4],[4]⟩,⟨[3,1,0,2],[],[44,45,4],[4]⟩,⟨[],[],[39,40,41,42,43,4],[4]⟩,⟨[5],[],[39,40,41,42,43,4],[4]⟩,⟨[4,3,1,0,2,6,5],[],[4],[4]⟩,⟨[7,4,3,1,0,2,6,5],[],[4],[4]⟩,⟨[8,7,4,3,1,0,2,6,5],[],[48,4],[4]⟩,⟨[8,7,4,3,1,0,2,6,5],[],[47,4],[4]⟩,⟨[],[4],[39,40,41,42,43,44,45,46,38,47,48],[]⟩,⟨[11,9,8,7,4,3,1,0,2,6,5],[4],[48],[]⟩,⟨[10,8,7,4,3,1,0,2,6,5,12,11,9],[],[],[]⟩])],[(100026,jd.cB_r),(100031,jd.cO_r),(33,jd.c33r),(100022,jd.cN_r),(100013,jd.cl_r),(100016,jd.ck_r),(18,jd.c18r),(100006,jd.cc_r),(8,jd.c8r),(1,jd.c1r)],[],jy⟩
theorem jd.p0:PcA jd.G Tryz.f6 0:=
 js (s:=jd.c1r) (by kernel_rfl) (by kernel_rfl) (jq (sh:=jd.c1s) (fun ρ X Z=>(jl jc jc)) (fun ρ X t k=>(by kernel_rfl)) (fun X=>by kernel_rfl))
theorem jd.p1:PcA jd.G Tryz.f6 1:=
 jW (s:=jd.cc_r) (by kernel_rfl) (by kernel_rfl) (jT (sh:=jd.c8s) (I:=fun X Q=>(X.1,Q,X.2.2)) (fun X=>rfl) (fun ρ X Q Z=>(jl (jb fun _=>(jl (jb fun _=>jc) jc)) jc)) (fun ρ X t k=>(kU (fun _=>(by kernel_rfl)) (fun _=>(by kernel_rfl)))) (fun X s=>by kernel_rfl))
theorem jd.p2:PcA jd.G Tryz.f6 2:=
 js (s:=jd.c8r) (by kernel_rfl) (by kernel_rfl) (jq (sh:=jd.c8s) (fun ρ X Z=>(jb fun _=>(jb fun _=>jc))) (fun ρ X t k=>(by kernel_rfl)) (fun X=>by kernel_rfl))
theorem jd.p3:PcA jd.G Tryz.f6 3:=
 jW (s:=jd.cl_r) (by kernel_rfl) (by kernel_rfl) (jT (sh:=jd.cl_s) (I:=fun X Q=>(X.1,X.2.1,X.2.2.1,Q,(q4 X))) (fun X=>rfl) (fun ρ X Q Z=>(jl (jb fun _=>(kU (fun _=>jc) (fun _=>jc))) jc)) (fun ρ X t k=>(kU (fun _=>(by kernel_rfl)) (fun _=>(by kernel_rfl)))) (fun X s=>by kernel_rfl))
theorem jd.p4:PcA jd.G Tryz.f6 4:=
 jW (s:=jd.ck_r) (by kernel_rfl) (by kernel_rfl) (jT (sh:=jd.c18s) (I:=fun X Q=>(X.1,X.2.1,X.2.2.1,X.2.2.2.1,Q,(q4 X).2)) (fun X=>rfl) (fun ρ X Q Z=>(jl (jb fun _=>(jl (jb fun _=>jc) jc)) jc)) (fun ρ X t k=>(kU (fun _=>(by kernel_rfl)) (fun _=>(by kernel_rfl)))) (fun X s=>by kernel_rfl))
theorem jd.p5:PcA jd.G Tryz.f6 5:=
 js (s:=jd.c18r) (by kernel_rfl) (by kernel_rfl) (jq (sh:=jd.c18s) (fun ρ X Z=>(jb fun _=>(jb fun _=>(jb fun _=>jc)))) (fun ρ X t k=>(by kernel_rfl)) (fun X=>by kernel_rfl))
theorem jd.p6:PcA jd.G Tryz.f6 6:=
 jW (s:=jd.cN_r) (by kernel_rfl) (by kernel_rfl) (jT (sh:=jd.cN_s) (I:=fun X Q=>(X.1,X.2.1,X.2.2.1,X.2.2.2.1,Q.1,Q.2,(q4 X).2.2)) (fun X=>rfl) (fun ρ X Q Z=>(jl (jb fun _=>jc) jc)) (fun ρ X t k=>(by kernel_rfl)) (fun X s=>by kernel_rfl))
theorem jd.p7:PcA jd.G Tryz.f6 7:=
 jW (s:=jd.cB_r) (by kernel_rfl) (by kernel_rfl) (jT (sh:=jd.cB_s) (I:=fun X Q=>(X.1,X.2.1,X.2.2.1,X.2.2.2.1,(q4 X).1,(q4 X).2.1,Q,(q4 X).2.2.2)) (fun X=>rfl) (fun ρ X Q Z=>(jl (jb fun _=>(jb fun _=>(jb fun _=>(jb fun _=>(jl (jb fun _=>jc) jc))))) jc)) (fun ρ X t k=>(kU (fun _=>(by kernel_rfl)) (fun _=>(by kernel_rfl)))) (fun X s=>by kernel_rfl))
theorem jd.p8:PcA jd.G Tryz.f6 8:=
 jW (s:=jd.cO_r) (by kernel_rfl) (by kernel_rfl) (jT (sh:=jd.c33s) (I:=fun X Q=>(X.1,X.2.1,X.2.2.1,X.2.2.2.1,(q4 X).1,(q4 X).2.1,(q4 X).2.2.1,Q.1,(q8 X).1,Q.2,(q8 X).2.2)) (fun X=>rfl) (fun ρ X Q Z=>(jl (jb fun _=>jc) jc)) (fun ρ X t k=>(by kernel_rfl)) (fun X s=>by kernel_rfl))
theorem jd.p9:PcA jd.G Tryz.f6 9:=
 js (s:=jd.c33r) (by kernel_rfl) (by kernel_rfl) (jq (sh:=jd.c33s) (fun ρ X Z=>(jl jc (jb fun _=>(jb fun _=>jc)))) (fun ρ X t k=>(by kernel_rfl)) (fun X=>by kernel_rfl))
theorem jd.ok:CalleeOk Tryz.prog 6 jd.ce:=fn_ok (G:=jd.G) jG mixed Tryz.func6 ⟨(jj kC.ok (jj jA.ok (jj kb.ok (jj Jd.ok (jj jD.ok jz))))),jx,jn⟩ (m:=10) (by kernel_rfl) ⟨⟨⟨⟨⟨⟨⟨⟨⟨⟨trivial,jd.p0⟩,jd.p1⟩,jd.p2⟩,jd.p3⟩,jd.p4⟩,jd.p5⟩,jd.p6⟩,jd.p7⟩,jd.p8⟩,jd.p9⟩ (by kernel_rfl) (fun _=>by kernel_rfl)
abbrev ff83:SO:=.box [.val .bool,.val (.sl (.int .i64))]
def Jb.c2 (d:List Int)(n:Int)(Z:Bool→Option ρ):Option ρ:=
 br (decide (n>(0:Int)))
 (bnd (idx d (IntKind.i64.wrap (n-(1:Int)))) fun y=>
 Z (y==(0:Int)))
 (Z false)
def Jb.c2s:Shape:=⟨[(0,ff7),(1,ff49),(4,ff6),(5,ff5)],[(4,ff83)]⟩
def Jb.c2x0:Shape:=⟨[(0,ff7),(1,ff49),(4,ff6),(5,ff5),(17,ff7)],[(4,ff83)]⟩
def Jb.c2r:Ck:=Ck.of (T:=Bool) Jb.c2s (fun ρ X Z=>Jb.c2 X.2.1 X.2.2.1 Z) (fun ρ X V Z=>Z 0 (Shape.inj Jb.c2x0 (X.1,X.2.1,X.2.2.1,V,X.2.2.2)))
def Jb.ce_ (d:List Int)(n:Int)(Z:Int⊕Int→Option ρ):Option ρ:=
 bnd (Jb.c2 d n some) fun y=>
 br y
 (Z (.inl (IntKind.i64.wrap (n-(1:Int)))))
 (Z (.inr n))
def Jb.ce_r:Ck:=Ck.ofLoop (S:=Int) (T:=Int) Jb.c2s (fun X=>X.2.2.1) (fun ρ X Q Z=>Jb.ce_ X.2.1 Q Z) (fun ρ X V Z=>Z 2 (Shape.inj Jb.c2s (X.1,X.2.1,V,X.2.2.2)))
def Jb (neg:Bool) (d:List Int):Option YD:=
 bnd (iter (fun s↦Jb.ce_ d s some) ↑(List.length d)) fun y=>
 br (y==(0:Int))
 (some (false,[]))
 (bnd (okIf (decide ((0:Int)≤y)&&decide (y≤(↑(List.length d):Int)))) fun y_1=>
 some (neg,List.take (Int.toNat y) d))
def Jb.ce:Go.Ql.Callee:=⟨[.bool,(.sl (.int .i64))],[(.st (.pair .bool (.sl (.int .i64))))],fun X=>Jb X.1 X.2⟩
def Jb.G:Env:=⟨28,tab,[],[0,1,4,5,17,21],[],[],[(100002,Jb.ce_r),(2,Jb.c2r)],[],jy⟩
theorem Jb.p0:PcA Jb.G Tryz.f41 0:=
 jW (s:=Jb.ce_r) (by kernel_rfl) (by kernel_rfl) (jT (sh:=Jb.c2s) (I:=fun X Q=>(X.1,X.2.1,Q,X.2.2.2)) (fun X=>rfl) (fun ρ X Q Z=>(jb fun _=>(jl jc jc))) (fun ρ X t k=>(by kernel_rfl)) (fun X s=>by kernel_rfl))
theorem Jb.p1:PcA Jb.G Tryz.f41 1:=
 js (s:=Jb.c2r) (by kernel_rfl) (by kernel_rfl) (jq (sh:=Jb.c2s) (fun ρ X Z=>(jl (jb fun _=>jc) jc)) (fun ρ X t k=>(by kernel_rfl)) (fun X=>by kernel_rfl))
theorem Jb.ok:CalleeOk Tryz.prog 41 Jb.ce:=fn_ok (G:=Jb.G) jG mixed Tryz.func41 ⟨jz,jx,jn⟩ (m:=2) (by kernel_rfl) ⟨⟨trivial,Jb.p0⟩,Jb.p1⟩ (by kernel_rfl) (fun _=>by kernel_rfl)
def Jt.cg_ (n:Int)(u:Int)(Z:Int→Option ρ):Option ρ:=
 br (decide (n<(0:Int)))
 (Z (IntKind.u64.wrap ((0:Int)-u)))
 (Z u)
def Jt.cg_s:Shape:=⟨[(0,ff5),(2,ff2),(3,ff13)],[(2,ff83)]⟩
def Jt.cg_r:Ck:=Ck.of (T:=Int) Jt.cg_s (fun ρ X Z=>Jt.cg_ X.1 X.2.1 Z) (fun ρ X V Z=>Z 0 (Shape.inj Jt.cg_s (X.1,V,X.2.2)))
def Jt.cf_ (u:Int)(d:List Int)(Z:(Int×(List Int))⊕(Int×(List Int))→Option ρ):Option ρ:=
 br (decide (u>(0:Int)))
 (bnd (okIf (decide ((List.length d+(1:Nat))*(8:Nat)≤(140737488355328:Nat))&&decide (List.length d+(1:Nat)≤(140737488355328:Nat)))) fun y=>
 Z (.inl ((IntKind.u64.wrap (Int.tdiv u (10000:Int))),(d++[IntKind.i64.wrap (Int.tmod u (10000:Int))]))))
 (Z (.inr (u,d)))
def Jt.cf_s:Shape:=⟨[(0,ff5),(2,ff2),(3,ff13),(4,ff32)],[(2,ff83),(4,ff51)]⟩
def Jt.cf_r:Ck:=Ck.ofLoop (S:=Int×(List Int)) (T:=Int×(List Int)) Jt.cf_s (fun X=>(X.2.1,(q4 X).1)) (fun ρ X Q Z=>Jt.cf_ Q.1 Q.2 Z) (fun ρ X V Z=>Z 2 (Shape.inj Jt.cf_s (X.1,V.1,X.2.2.1,X.2.2.2.1,V.2,())))
def Jt (n:Int):Option YD:=
 bnd (Jt.cg_ n (IntKind.wrap IntKind.u64 n) some) fun y=>
 bnd (iter (fun s↦Jt.cf_ s.1 s.2 some) (y,[])) fun y_1=>
 bnd (Jb (decide (n<(0:Int))) y_1.2) fun y_2=>
 some (y_2.1,y_2.2)
def Jt.ce:Go.Ql.Callee:=⟨[(.int .i64)],[(.st (.pair .bool (.sl (.int .i64))))],fun X=>Jt X⟩
def Jt.G:Env:=⟨25,tab,[(41,Jb.ce)],[0,2,3,4,8,12],[4],[],[(100005,Jt.cf_r),(208197,Jt.cg_r)],[],jy⟩
theorem Jt.p0:PcA Jt.G Tryz.f8 0:=
 JE (s:=Jt.cg_r) (by kernel_rfl) (by kernel_rfl) (jq (sh:=Jt.cg_s) (fun ρ X Z=>(jl jc jc)) (fun ρ X t k=>(by kernel_rfl)) (fun X=>by kernel_rfl))
theorem Jt.p1:PcA Jt.G Tryz.f8 1:=
 jW (s:=Jt.cf_r) (by kernel_rfl) (by kernel_rfl) (jT (sh:=Jt.cf_s) (I:=fun X Q=>(X.1,Q.1,X.2.2.1,X.2.2.2.1,Q.2,())) (fun X=>rfl) (fun ρ X Q Z=>(jl (jb fun _=>jc) jc)) (fun ρ X t k=>(by kernel_rfl)) (fun X s=>by kernel_rfl))
theorem Jt.ok:CalleeOk Tryz.prog 8 Jt.ce:=fn_ok (G:=Jt.G) jG mixed Tryz.func8 ⟨(jj Jb.ok jz),jx,jn⟩ (m:=2) (by kernel_rfl) ⟨⟨trivial,Jt.p0⟩,Jt.p1⟩ (by kernel_rfl) (fun _=>by kernel_rfl)
def jR.c2 (text:List UInt8)(sign:Bool)(Z:Bool→Option ρ):Option ρ:=
 br sign
 (br (decide ((↑(List.length text):Int)>(0:Int)))
 (bnd (idx text (0:Int)) fun y=>
 Z ((↑(UInt8.toNat y):Int)==(45:Int)))
 (Z false))
 (Z false)
def jR.c2s:Shape:=⟨[(0,ff4),(1,ff7),(2,ff7),(6,ff5),(7,ff7),(8,ff5)],[]⟩
def jR.c2x0:Shape:=⟨[(0,ff4),(1,ff7),(2,ff7),(6,ff5),(7,ff7),(8,ff5),(20,ff7)],[]⟩
def jR.c2r:Ck:=Ck.of (T:=Bool) jR.c2s (fun ρ X Z=>jR.c2 X.1 X.2.1 Z) (fun ρ X V Z=>Z 0 (Shape.inj jR.c2x0 (X.1,X.2.1,X.2.2.1,X.2.2.2.1,(q4 X).1,(q4 X).2.1,V,())))
def jR.cQ_ (text:List UInt8)(sign:Bool)(nought:Bool)(i:Int)(Z:Bool×Int→Option ρ):Option ρ:=
 bnd (jR.c2 text sign some) fun y=>
 br y
 (Z (false,(1:Int)))
 (Z (nought,i))
def jR.cQ_r:Ck:=Ck.of (T:=Bool×Int) jR.c2s (fun ρ X Z=>jR.cQ_ X.1 X.2.1 X.2.2.1 (q4 X).2.1 Z) (fun ρ X V Z=>Z 0 (Shape.inj jR.c2s (X.1,X.2.1,V.1,X.2.2.2.1,(q4 X).1,V.2,())))
def jR.c5 (text:List UInt8)(i:Int)(Z:Bool→Option ρ):Option ρ:=
 br (decide (i<(↑(List.length text):Int)))
 (bnd (idx text i) fun y=>
 Z ((↑(UInt8.toNat y):Int)==(48:Int)))
 (Z false)
def jR.c5x0:Shape:=⟨[(0,ff4),(1,ff7),(2,ff7),(6,ff5),(7,ff7),(8,ff5),(30,ff7)],[]⟩
def jR.c5r:Ck:=Ck.of (T:=Bool) jR.c2s (fun ρ X Z=>jR.c5 X.1 (q4 X).2.1 Z) (fun ρ X V Z=>Z 0 (Shape.inj jR.c5x0 (X.1,X.2.1,X.2.2.1,X.2.2.2.1,(q4 X).1,(q4 X).2.1,V,())))
def jR.c10 (text:List UInt8)(j:Int)(Z:Bool→Option ρ):Option ρ:=
 br (decide (j<(↑(List.length text):Int)))
 (bnd (idx text j) fun y=>
 br (decide ((↑(UInt8.toNat y):Int)≥(48:Int)))
 (bnd (idx text j) fun y_1=>
 Z (decide ((↑(UInt8.toNat y_1):Int)≤(57:Int))))
 (Z false))
 (Z false)
def jR.c10s:Shape:=⟨[(0,ff4),(1,ff7),(2,ff7),(6,ff5),(7,ff7),(8,ff5),(9,ff5)],[]⟩
def jR.c10x0:Shape:=⟨[(0,ff4),(1,ff7),(2,ff7),(6,ff5),(7,ff7),(8,ff5),(9,ff5),(51,ff7)],[]⟩
def jR.c10r:Ck:=Ck.of (T:=Bool) jR.c10s (fun ρ X Z=>jR.c10 X.1 (q4 X).2.2.1 Z) (fun ρ X V Z=>Z 0 (Shape.inj jR.c10x0 (X.1,X.2.1,X.2.2.1,X.2.2.2.1,(q4 X).1,(q4 X).2.1,(q4 X).2.2.1,V,())))
def jR.ci_ (text:List UInt8)(j:Int)(Z:Int⊕Int→Option ρ):Option ρ:=
 bnd (jR.c10 text j some) fun y=>
 br y
 (Z (.inl (IntKind.i64.wrap (j+(1:Int)))))
 (Z (.inr j))
def jR.ci_r:Ck:=Ck.ofLoop (S:=Int) (T:=Int) jR.c10s (fun X=>(q4 X).2.2.1) (fun ρ X Q Z=>jR.ci_ X.1 Q Z) (fun ρ X V Z=>Z 2 (Shape.inj jR.c10s (X.1,X.2.1,X.2.2.1,X.2.2.2.1,(q4 X).1,(q4 X).2.1,V,())))
def jR (text:List UInt8) (sign:Bool) (nought:Bool):Option (Int×Bool):=
 bnd (jR.cQ_ text sign nought (0:Int) some) fun y=>
 bnd (jR.c5 text y.2 some) fun y_1=>
 br y_1
 (br y.1
 (some (IntKind.i64.wrap (y.2+(1:Int)),true))
 (some (y.2,false)))
 (bnd (iter (fun s↦jR.ci_ text s some) y.2) fun y_2=>
 some (y_2,decide (y_2>y.2)))
def jR.ce:Go.Ql.Callee:=⟨[.str,.bool,.bool],[(.int .i64),.bool],fun X=>jR X.1 X.2.1 X.2.2⟩
def jR.G:Env:=⟨58,tab,[],[0,1,2,6,7,8,9,20,30,31,51],[],[],[(100010,jR.ci_r),(10,jR.c10r),(5,jR.c5r),(208199,jR.cQ_r),(2,jR.c2r)],[],jy⟩
theorem jR.p0:PcA jR.G Tryz.f37 0:=
 JE (s:=jR.cQ_r) (by kernel_rfl) (by kernel_rfl) (jq (sh:=jR.c2s) (fun ρ X Z=>(jb fun _=>(jl jc jc))) (fun ρ X t k=>(by kernel_rfl)) (fun X=>by kernel_rfl))
theorem jR.p1:PcA jR.G Tryz.f37 1:=
 js (s:=jR.c2r) (by kernel_rfl) (by kernel_rfl) (jq (sh:=jR.c2s) (fun ρ X Z=>(jl (jl (jb fun _=>jc) jc) jc)) (fun ρ X t k=>(by kernel_rfl)) (fun X=>by kernel_rfl))
theorem jR.p2:PcA jR.G Tryz.f37 2:=
 js (s:=jR.c5r) (by kernel_rfl) (by kernel_rfl) (jq (sh:=jR.c2s) (fun ρ X Z=>(jl (jb fun _=>jc) jc)) (fun ρ X t k=>(by kernel_rfl)) (fun X=>by kernel_rfl))
theorem jR.p3:PcA jR.G Tryz.f37 3:=
 jW (s:=jR.ci_r) (by kernel_rfl) (by kernel_rfl) (jT (sh:=jR.c10s) (I:=fun X Q=>(X.1,X.2.1,X.2.2.1,X.2.2.2.1,(q4 X).1,(q4 X).2.1,Q,())) (fun X=>rfl) (fun ρ X Q Z=>(jb fun _=>(jl jc jc))) (fun ρ X t k=>(by kernel_rfl)) (fun X s=>by kernel_rfl))
theorem jR.p4:PcA jR.G Tryz.f37 4:=
 js (s:=jR.c10r) (by kernel_rfl) (by kernel_rfl) (jq (sh:=jR.c10s) (fun ρ X Z=>(jl (jb fun _=>(jl (jb fun _=>jc) jc)) jc)) (fun ρ X t k=>(by kernel_rfl)) (fun X=>by kernel_rfl))
theorem jR.ok:CalleeOk Tryz.prog 37 jR.ce:=fn_ok (G:=jR.G) jG mixed Tryz.func37 ⟨jz,jx,jn⟩ (m:=5) (by kernel_rfl) ⟨⟨⟨⟨⟨trivial,jR.p0⟩,jR.p1⟩,jR.p2⟩,jR.p3⟩,jR.p4⟩ (by kernel_rfl) (fun _=>by kernel_rfl)
def JH.c1 (text:List UInt8)(Z:Bool→Option ρ):Option ρ:=
 br (decide ((↑(List.length text):Int)>(0:Int)))
 (bnd (idx text (0:Int)) fun y=>
 Z ((↑(UInt8.toNat y):Int)==(45:Int)))
 (Z false)
def JH.c1s:Shape:=⟨[(0,ff4),(2,ff5)],[]⟩
def JH.c1x0:Shape:=⟨[(0,ff4),(2,ff5),(10,ff7)],[]⟩
def JH.c1r:Ck:=Ck.of (T:=Bool) JH.c1s (fun ρ X Z=>JH.c1 X.1 Z) (fun ρ X V Z=>Z 0 (Shape.inj JH.c1x0 (X.1,X.2.1,V,())))
def JH (text:List UInt8):Option Int:=
 bnd (JH.c1 text some) fun y=>
 br y
 (some (IntKind.i64.wrap ((↑(List.length text):Int)-(1:Int))))
 (some (↑(List.length text):Int))
def JH.ce:Go.Ql.Callee:=⟨[.str],[(.int .i64)],fun X=>JH X⟩
def JH.G:Env:=⟨16,tab,[],[0,2,10],[],[],[(1,JH.c1r)],[],jy⟩
theorem JH.p0:PcA JH.G Tryz.f38 0:=
 js (s:=JH.c1r) (by kernel_rfl) (by kernel_rfl) (jq (sh:=JH.c1s) (fun ρ X Z=>(jl (jb fun _=>jc) jc)) (fun ρ X t k=>(by kernel_rfl)) (fun X=>by kernel_rfl))
theorem JH.ok:CalleeOk Tryz.prog 38 JH.ce:=fn_ok (G:=JH.G) jG mixed Tryz.func38 ⟨jz,jx,jn⟩ (m:=1) (by kernel_rfl) ⟨trivial,JH.p0⟩ (by kernel_rfl) (fun _=>by kernel_rfl)
def jC.c1 (text:List UInt8)(Z:Bool→Option ρ):Option ρ:=
 br (decide ((↑(List.length text):Int)>(0:Int)))
 (bnd (idx text (0:Int)) fun y=>
 Z ((↑(UInt8.toNat y):Int)==(45:Int)))
 (Z false)
def jC.c1s:Shape:=⟨[(0,ff4),(2,ff2)],[(2,ff83)]⟩
def jC.c1x0:Shape:=⟨[(0,ff4),(2,ff2),(3,ff7)],[(2,ff83)]⟩
def jC.c1r:Ck:=Ck.of (T:=Bool) jC.c1s (fun ρ X Z=>jC.c1 X.1 Z) (fun ρ X V Z=>Z 0 (Shape.inj jC.c1x0 (X.1,V,X.2)))
def jC.cg_ (text:List UInt8)(neg:Bool)(Z:List UInt8→Option ρ):Option ρ:=
 br neg
 (bnd (okIf (decide ((1:Int)≤(↑(List.length text):Int))&&decide ((↑(List.length text):Int)≤(↑(List.length text):Int)))) fun y=>
 Z (List.drop (1:Nat) (List.take (Int.toNat (↑(List.length text):Int)) text)))
 (Z text)
def jC.cg_r:Ck:=Ck.of (T:=List UInt8) jC.c1x0 (fun ρ X Z=>jC.cg_ X.1 X.2.1 Z) (fun ρ X V Z=>Z 0 (Shape.inj jC.c1x0 (V,X.2)))
def jC.cD_ (text:List UInt8)(n:Int)(j:Int)(Z:Int→Option ρ):Option ρ:=
 br (decide (j≥(0:Int)))
 (bnd (idx text j) fun y=>
 Z (IntKind.i64.wrap (IntKind.i64.wrap (n*(10:Int))+IntKind.i64.wrap (IntKind.wrap IntKind.u8 ((↑(UInt8.toNat y):Int)-(48:Int))))))
 (Z n)
def jC.cD_s:Shape:=⟨[(0,ff4),(2,ff2),(3,ff7),(4,ff32),(5,ff5),(6,ff5),(7,ff5)],[(2,ff83),(4,ff51)]⟩
def jC.cD_r:Ck:=Ck.of (T:=Int) jC.cD_s (fun ρ X Z=>jC.cD_ X.1 X.2.2.2.1 (q4 X).1 Z) (fun ρ X V Z=>Z 0 (Shape.inj jC.cD_s (X.1,X.2.1,X.2.2.1,V,(q4 X))))
def jC.ci_ (text:List UInt8)(i:Int)(n:Int)(j:Int)(Z:(Int×Int)⊕(Int×Int)→Option ρ):Option ρ:=
 br (decide (j<i))
 (bnd (jC.cD_ text n j some) fun y=>
 Z (.inl (y,(IntKind.i64.wrap (j+(1:Int))))))
 (Z (.inr (n,j)))
def jC.ci_r:Ck:=Ck.ofLoop (S:=Int×Int) (T:=Int×Int) jC.cD_s (fun X=>(X.2.2.2.1,(q4 X).1)) (fun ρ X Q Z=>jC.ci_ X.1 X.2.2.1 Q.1 Q.2 Z) (fun ρ X V Z=>Z 4 (Shape.inj jC.cD_s (X.1,X.2.1,X.2.2.1,V.1,V.2,(q4 X).2)))
def jC.cc_ (text:List UInt8)(i:Int)(d:List Int)(Z:(Int×(List Int))⊕(Int×(List Int))→Option ρ):Option ρ:=
 br (decide (i>(0:Int)))
 (bnd (iter (fun s↦jC.ci_ text i s.1 s.2 some) ((0:Int),IntKind.i64.wrap (i-(4:Int)))) fun y=>
 bnd (okIf (decide ((List.length d+(1:Nat))*(8:Nat)≤(140737488355328:Nat))&&decide (List.length d+(1:Nat)≤(140737488355328:Nat)))) fun y_1=>
 Z (.inl ((IntKind.i64.wrap (i-(4:Int))),(d++[y.1]))))
 (Z (.inr (i,d)))
def jC.cc_s:Shape:=⟨[(0,ff4),(2,ff2),(3,ff7),(4,ff32),(5,ff5)],[(2,ff83),(4,ff51)]⟩
def jC.cc_r:Ck:=Ck.ofLoop (S:=Int×(List Int)) (T:=Int×(List Int)) jC.cc_s (fun X=>(X.2.2.1,(q4 X).2.1)) (fun ρ X Q Z=>jC.cc_ X.1 Q.1 Q.2 Z) (fun ρ X V Z=>Z 2 (Shape.inj jC.cc_s (X.1,X.2.1,V.1,X.2.2.2.1,(q4 X).1,V.2,())))
def jC (text:List UInt8):Option YD:=
 bnd (jC.c1 text some) fun y=>
 bnd (jC.cg_ text y some) fun y_1=>
 bnd (iter (fun s↦jC.cc_ y_1 s.1 s.2 some) ((↑(List.length y_1):Int),[])) fun y_2=>
 bnd (Jb y y_2.2) fun y_3=>
 some (y_3.1,y_3.2)
def jC.ce:Go.Ql.Callee:=⟨[.str],[(.st (.pair .bool (.sl (.int .i64))))],fun X=>jC X⟩
def jC.G:Env:=⟨49,tab,[(41,Jb.ce)],[0,2,3,4,5,6,7,16,22,29,33],[4],[],[(100006,jC.cc_r),(100010,jC.ci_r),(249158,jC.cD_r),(208197,jC.cg_r),(1,jC.c1r)],[],jy⟩
theorem jC.p0:PcA jC.G Tryz.f39 0:=
 js (s:=jC.c1r) (by kernel_rfl) (by kernel_rfl) (jq (sh:=jC.c1s) (fun ρ X Z=>(jl (jb fun _=>jc) jc)) (fun ρ X t k=>(by kernel_rfl)) (fun X=>by kernel_rfl))
theorem jC.p1:PcA jC.G Tryz.f39 1:=
 JE (s:=jC.cg_r) (by kernel_rfl) (by kernel_rfl) (jq (sh:=jC.c1x0) (fun ρ X Z=>(jl (jb fun _=>jc) jc)) (fun ρ X t k=>(by kernel_rfl)) (fun X=>by kernel_rfl))
theorem jC.p2:PcA jC.G Tryz.f39 2:=
 jW (s:=jC.cc_r) (by kernel_rfl) (by kernel_rfl) (jT (sh:=jC.cc_s) (I:=fun X Q=>(X.1,X.2.1,Q.1,X.2.2.2.1,(q4 X).1,Q.2,())) (fun X=>rfl) (fun ρ X Q Z=>(jl (jb fun _=>(jb fun _=>jc)) jc)) (fun ρ X t k=>(by kernel_rfl)) (fun X s=>by kernel_rfl))
theorem jC.p3:PcA jC.G Tryz.f39 3:=
 jW (s:=jC.ci_r) (by kernel_rfl) (by kernel_rfl) (jT (sh:=jC.cD_s) (I:=fun X Q=>(X.1,X.2.1,X.2.2.1,Q.1,Q.2,(q4 X).2)) (fun X=>rfl) (fun ρ X Q Z=>(jl (jb fun _=>jc) jc)) (fun ρ X t k=>(by kernel_rfl)) (fun X s=>by kernel_rfl))
theorem jC.p4:PcA jC.G Tryz.f39 4:=
 JE (s:=jC.cD_r) (by kernel_rfl) (by kernel_rfl) (jq (sh:=jC.cD_s) (fun ρ X Z=>(jl (jb fun _=>jc) jc)) (fun ρ X t k=>(by kernel_rfl)) (fun X=>by kernel_rfl))
theorem jC.ok:CalleeOk Tryz.prog 39 jC.ce:=fn_ok (G:=jC.G) jG mixed Tryz.func39 ⟨(jj Jb.ok jz),jx,jn⟩ (m:=5) (by kernel_rfl) ⟨⟨⟨⟨⟨trivial,jC.p0⟩,jC.p1⟩,jC.p2⟩,jC.p3⟩,jC.p4⟩ (by kernel_rfl) (fun _=>by kernel_rfl)
def Jk.c8 (a:List Int)(b:List Int)(i:Int)(Z:Bool→Option ρ):Option ρ:=
 bnd (idx a i) fun y=>
 bnd (idx b i) fun y_1=>
 Z (decide (y<y_1))
def Jk.c8s:Shape:=⟨[(0,ff49),(1,ff49),(4,ff5),(5,ff5)],[]⟩
def Jk.c8x0:Shape:=⟨[(0,ff49),(1,ff49),(4,ff5),(5,ff5),(31,ff7)],[]⟩
def Jk.c8r:Ck:=Ck.of (T:=Bool) Jk.c8s (fun ρ X Z=>Jk.c8 X.1 X.2.1 X.2.2.2.1 Z) (fun ρ X V Z=>Z 0 (Shape.inj Jk.c8x0 (X.1,X.2.1,X.2.2.1,X.2.2.2.1,V,())))
def Jk.c10 (a:List Int)(b:List Int)(i:Int)(Z:Bool→Option ρ):Option ρ:=
 bnd (idx a i) fun y=>
 bnd (idx b i) fun y_1=>
 Z (decide (y>y_1))
def Jk.c10x0:Shape:=⟨[(0,ff49),(1,ff49),(4,ff5),(5,ff5),(40,ff7)],[]⟩
def Jk.c10r:Ck:=Ck.of (T:=Bool) Jk.c8s (fun ρ X Z=>Jk.c10 X.1 X.2.1 X.2.2.2.1 Z) (fun ρ X V Z=>Z 0 (Shape.inj Jk.c10x0 (X.1,X.2.1,X.2.2.1,X.2.2.2.1,V,())))
def Jk.cc_ (a:List Int)(b:List Int)(i:Int)(Z:Int⊕((Int×Int)⊕Int)→Option ρ):Option ρ:=
 br (decide (i≥(0:Int)))
 (bnd (Jk.c8 a b i some) fun y=>
 br y
 (Z (.inr (.inl ((-1:Int),i))))
 (bnd (Jk.c10 a b i some) fun y_1=>
 br y_1
 (Z (.inr (.inl ((1:Int),i))))
 (Z (.inl (IntKind.i64.wrap (i-(1:Int)))))))
 (Z (.inr (.inr i)))
def Jk.cc_r:Ck:=Ck.ofLoop (S:=Int) (T:=(Int×Int)⊕Int) Jk.c8s (fun X=>X.2.2.2.1) (fun ρ X Q Z=>Jk.cc_ X.1 X.2.1 Q Z) (fun ρ X V Z=>sel V (fun V=>Z 1 (Shape.inj Jk.c8s (X.1,X.2.1,V.1,V.2,()))) (fun V=>Z 2 (Shape.inj Jk.c8s (X.1,X.2.1,X.2.2.1,V,()))))
def Jk (a:List Int) (b:List Int):Option Int:=
 br ((↑(List.length a):Int) !=(↑(List.length b):Int))
 (br (decide ((↑(List.length a):Int)<(↑(List.length b):Int)))
 (some (-1:Int))
 (some (1:Int)))
 (bnd (iter (fun s↦Jk.cc_ a b s some) (IntKind.i64.wrap ((↑(List.length a):Int)-(1:Int)))) fun y=>
 sel y
 (fun u=>some u.1)
 (fun v=>some (0:Int)))
def Jk.ce:Go.Ql.Callee:=⟨[(.sl (.int .i64)),(.sl (.int .i64))],[(.int .i64)],fun X=>Jk X.1 X.2⟩
def Jk.G:Env:=⟨41,tab,[],[0,1,4,5,10,15,20,31,40],[],[(10,[⟨[],[],[33,36,37,38,39],[]⟩,⟨[],[],[32,36,37,38,39],[]⟩,⟨[0,1],[],[36,37,38,39],[]⟩,⟨[2,0,1],[],[36,37,38,39],[]⟩,⟨[],[],[32,33,34,35,37],[]⟩,⟨[],[],[32,33,34,35,36],[]⟩,⟨[4,5],[],[32,33,34,35],[]⟩,⟨[6,4,5],[],[32,33,34,35],[]⟩,⟨[3,2,0,1,7,6,4,5],[],[],[]⟩]),
 (8,[⟨[],[],[24,27,28,29,30],[]⟩,⟨[],[],[23,27,28,29,30],[]⟩,⟨[0,1],[],[27,28,29,30],[]⟩,⟨[2,0,1],[],[27,28,29,30],[]⟩,⟨[],[],[23,24,25,26,28],[]⟩,⟨[],[],[23,24,25,26,27],[]⟩,⟨[4,5],[],[23,24,25,26],[]⟩,⟨[6,4,5],[],[23,24,25,26],[]⟩,⟨[3,2,0,1,7,6,4,5],[],[],[]⟩])],[(100006,Jk.cc_r),(10,Jk.c10r),(8,Jk.c8r)],[],jy⟩
theorem Jk.p0:PcA Jk.G Tryz.f102 0:=
 jW (s:=Jk.cc_r) (by kernel_rfl) (by kernel_rfl) (jT (sh:=Jk.c8s) (I:=fun X Q=>(X.1,X.2.1,X.2.2.1,Q,())) (fun X=>rfl) (fun ρ X Q Z=>(jl (jb fun _=>(jl jc (jb fun _=>(jl jc jc)))) jc)) (fun ρ X t k=>(kU (fun _=>(by kernel_rfl)) (fun _=>(by kernel_rfl)))) (fun X s=>by kernel_rfl))
theorem Jk.p1:PcA Jk.G Tryz.f102 1:=
 js (s:=Jk.c8r) (by kernel_rfl) (by kernel_rfl) (jq (sh:=Jk.c8s) (fun ρ X Z=>(jb fun _=>(jb fun _=>jc))) (fun ρ X t k=>(by kernel_rfl)) (fun X=>by kernel_rfl))
theorem Jk.p2:PcA Jk.G Tryz.f102 2:=
 js (s:=Jk.c10r) (by kernel_rfl) (by kernel_rfl) (jq (sh:=Jk.c8s) (fun ρ X Z=>(jb fun _=>(jb fun _=>jc))) (fun ρ X t k=>(by kernel_rfl)) (fun X=>by kernel_rfl))
theorem Jk.ok:CalleeOk Tryz.prog 102 Jk.ce:=fn_ok (G:=Jk.G) jG mixed Tryz.func102 ⟨jz,jx,jn⟩ (m:=3) (by kernel_rfl) ⟨⟨⟨trivial,Jk.p0⟩,Jk.p1⟩,Jk.p2⟩ (by kernel_rfl) (fun _=>by kernel_rfl)
abbrev ff84:SD:=.one (.val (.st (.pair .bool (.sl (.int .i64)))))
abbrev ff85:SD:=.one (.own 17 0)
def jI.c7 (c:Int)(j:Int)(b1:List Int)(Z:Bool→Option ρ):Option ρ:=
 br (decide (j<(↑(List.length b1):Int)))
 (Z true)
 (Z (decide (c>(0:Int))))
def jI.c7s:Shape:=⟨[(0,ff84),(1,ff84),(2,ff2),(3,ff12),(4,ff6),(5,ff85),(6,ff5),(7,ff5),(8,ff5)],[(2,ff83),(3,ff83),(4,ff83),(17,ff51)]⟩
def jI.c7x0:Shape:=⟨[(0,ff84),(1,ff84),(2,ff2),(3,ff12),(4,ff6),(5,ff85),(6,ff5),(7,ff5),(8,ff5),(33,ff7)],[(2,ff83),(3,ff83),(4,ff83),(17,ff51)]⟩
def jI.c7r:Ck:=Ck.of (T:=Bool) jI.c7s (fun ρ X Z=>jI.c7 X.2.2.2.1 (q4 X).1 (q8 X).1 Z) (fun ρ X V Z=>Z 0 (Shape.inj jI.c7x0 (X.1,X.2.1,X.2.2.1,X.2.2.2.1,(q4 X).1,V,(q4 X).2)))
def jI.c11 (i:Int)(c:Int)(j:Int)(a1:List Int)(b1:List Int)(Z:Int→Option ρ):Option ρ:=
 bnd (idx a1 i) fun y=>
 bnd (idx b1 j) fun y_1=>
 Z (IntKind.i64.wrap (c+IntKind.i64.wrap (y*y_1)))
def jI.c11r:Ck:=Ck.of (T:=Int) jI.c7s (fun ρ X Z=>jI.c11 X.2.2.1 X.2.2.2.1 (q4 X).1 (q4 X).2.2.1 (q8 X).1 Z) (fun ρ X V Z=>Z 0 (Shape.inj jI.c7s (X.1,X.2.1,X.2.2.1,V,(q4 X))))
def jI.cU_ (i:Int)(c:Int)(j:Int)(a1:List Int)(b1:List Int)(Z:Int→Option ρ):Option ρ:=
 br (decide (j<(↑(List.length b1):Int)))
 (bnd (jI.c11 i c j a1 b1 some) fun y=>
 Z y)
 (Z c)
def jI.cU_r:Ck:=Ck.of (T:=Int) jI.c7s (fun ρ X Z=>jI.cU_ X.2.2.1 X.2.2.2.1 (q4 X).1 (q4 X).2.2.1 (q8 X).1 Z) (fun ρ X V Z=>Z 0 (Shape.inj jI.c7s (X.1,X.2.1,X.2.2.1,V,(q4 X))))
def jI.cd_ (i:Int)(c:Int)(j:Int)(a1:List Int)(b1:List Int)(t17:List Int)(Z:(Int×Int×(List Int))⊕(Int×Int×(List Int))→Option ρ):Option ρ:=
 bnd (jI.c7 c j b1 some) fun y=>
 br y
 (bnd (inR (List.length t17) (IntKind.i64.wrap (i+j))) fun y_1=>
 bnd (idx t17 (IntKind.i64.wrap (i+j))) fun y_2=>
 bnd (jI.cU_ i (IntKind.i64.wrap (c+y_2)) j a1 b1 some) fun y_3=>
 bnd (inR (List.length t17) (IntKind.i64.wrap (i+j))) fun y4=>
 bnd (idx t17 (IntKind.i64.wrap (i+j))) fun y5=>
 Z (.inl ((IntKind.i64.wrap (Int.tdiv y_3 (10000:Int))),(IntKind.i64.wrap (j+(1:Int))),(List.set t17 (Int.toNat (IntKind.i64.wrap (i+j))) (Int.tmod y_3 (10000:Int))))))
 (Z (.inr (c,j,t17)))
def jI.cd_r:Ck:=Ck.ofLoop (S:=Int×Int×(List Int)) (T:=Int×Int×(List Int)) jI.c7s (fun X=>(X.2.2.2.1,(q4 X).1,(q8 X).2.2.2.1)) (fun ρ X Q Z=>jI.cd_ X.2.2.1 Q.1 Q.2.1 (q4 X).2.2.1 (q8 X).1 Q.2.2 Z) (fun ρ X V Z=>Z 4 (Shape.inj jI.c7s (X.1,X.2.1,X.2.2.1,V.1,V.2.1,(q4 X).2.1,(q4 X).2.2.1,(q4 X).2.2.2.1,(q8 X).1,(q8 X).2.1,(q8 X).2.2.1,V.2.2,())))
def jI.ca_ (i:Int)(a1:List Int)(b1:List Int)(t17:List Int)(Z:(Int×(List Int))⊕(Int×(List Int))→Option ρ):Option ρ:=
 br (decide (i<(↑(List.length a1):Int)))
 (bnd (iter (fun s↦jI.cd_ i s.1 s.2.1 a1 b1 s.2.2 some) ((0:Int),(0:Int),t17)) fun y=>
 Z (.inl ((IntKind.i64.wrap (i+(1:Int))),y.2.2)))
 (Z (.inr (i,t17)))
def jI.ca_s:Shape:=⟨[(0,ff84),(1,ff84),(2,ff2),(3,ff12),(4,ff6),(5,ff85),(6,ff5)],[(2,ff83),(3,ff83),(4,ff83),(17,ff51)]⟩
def jI.ca_r:Ck:=Ck.ofLoop (S:=Int×(List Int)) (T:=Int×(List Int)) jI.ca_s (fun X=>(X.2.2.1,(q8 X).2.1)) (fun ρ X Q Z=>jI.ca_ Q.1 (q4 X).1 (q4 X).2.2.1 Q.2 Z) (fun ρ X V Z=>Z 2 (Shape.inj jI.ca_s (X.1,X.2.1,V.1,X.2.2.2.1,(q4 X).1,(q4 X).2.1,(q4 X).2.2.1,(q4 X).2.2.2.1,(q8 X).1,V.2,())))
def jI (a:YD) (b:YD):Option YD:=
 bnd (okIf (decide ((0:Int)≤IntKind.i64.wrap (IntKind.i64.wrap ((↑(List.length a.2):Int)+(↑(List.length b.2):Int))+(1:Int)))&&decide (IntKind.i64.wrap (IntKind.i64.wrap ((↑(List.length a.2):Int)+(↑(List.length b.2):Int))+(1:Int))≤IntKind.i64.wrap (IntKind.i64.wrap ((↑(List.length a.2):Int)+(↑(List.length b.2):Int))+(1:Int)))&&decide (IntKind.i64.wrap (IntKind.i64.wrap ((↑(List.length a.2):Int)+(↑(List.length b.2):Int))+(1:Int))*(↑(8:Nat):Int)≤(140737488355328:Int))&&decide (IntKind.i64.wrap (IntKind.i64.wrap ((↑(List.length a.2):Int)+(↑(List.length b.2):Int))+(1:Int))≤(140737488355328:Int)))) fun y=>
 bnd (iter (fun s↦jI.ca_ s.1 a.2 b.2 s.2 some) ((0:Int),List.replicate (Int.toNat (IntKind.i64.wrap (IntKind.i64.wrap ((↑(List.length a.2):Int)+(↑(List.length b.2):Int))+(1:Int)))) (0:Int))) fun y_1=>
 bnd (Jb (!a.1==b.1) y_1.2) fun y_2=>
 some (y_2.1,y_2.2)
def jI.ce:Go.Ql.Callee:=⟨[(.st (.pair .bool (.sl (.int .i64)))),(.st (.pair .bool (.sl (.int .i64))))],[(.st (.pair .bool (.sl (.int .i64))))],fun X=>jI X.1 X.2⟩
def jI.G:Env:=⟨78,tab,[(41,Jb.ce)],[0,1,2,3,4,5,6,7,8,22,33,48],[17],[(11,[⟨[],[],[50,51,52,53,54,55,56,57,58,59,60],[]⟩,⟨[],[],[49,52,55,56,57,58,59],[]⟩,⟨[1],[],[49,52,55,56,57,58,59],[]⟩,⟨[],[],[49,50,51,55,56,57,58,59],[]⟩,⟨[2,1,3],[],[49,55,56,57,58,59],[]⟩,⟨[4,2,1,3],[],[49,55,56,57,58,59],[]⟩,⟨[],[],[49,50,51,52,53,54,57],[]⟩,⟨[6],[],[49,50,51,52,53,54,57],[]⟩,⟨[],[],[49,50,51,52,53,54,55,56],[]⟩,⟨[7,6,8],[],[49,50,51,52,53,54],[]⟩,⟨[9,7,6,8],[],[49,50,51,52,53,54],[]⟩,⟨[5,4,2,1,3,10,9,7,6,8],[],[49],[]⟩,⟨[0,11,5,4,2,1,3,10,9,7,6,8],[],[],[]⟩,⟨[12,0,11,5,4,2,1,3,10,9,7,6,8],[],[],[]⟩])],[(100003,jI.ca_r),(100007,jI.cd_r),(240965,jI.cU_r),(11,jI.c11r),(7,jI.c7r)],[],jy⟩
theorem jI.p0:PcA jI.G Tryz.f44 0:=
 jW (s:=jI.ca_r) (by kernel_rfl) (by kernel_rfl) (jT (sh:=jI.ca_s) (I:=fun X Q=>(X.1,X.2.1,Q.1,X.2.2.2.1,(q4 X).1,(q4 X).2.1,(q4 X).2.2.1,(q4 X).2.2.2.1,(q8 X).1,Q.2,())) (fun X=>rfl) (fun ρ X Q Z=>(jl (jb fun _=>jc) jc)) (fun ρ X t k=>(by kernel_rfl)) (fun X s=>by kernel_rfl))
theorem jI.p1:PcA jI.G Tryz.f44 1:=
 jW (s:=jI.cd_r) (by kernel_rfl) (by kernel_rfl) (jT (sh:=jI.c7s) (I:=fun X Q=>(X.1,X.2.1,X.2.2.1,Q.1,Q.2.1,(q4 X).2.1,(q4 X).2.2.1,(q4 X).2.2.2.1,(q8 X).1,(q8 X).2.1,(q8 X).2.2.1,Q.2.2,())) (fun X=>rfl) (fun ρ X Q Z=>(jb fun _=>(jl (jb fun _=>(jb fun _=>(jb fun _=>(jb fun _=>(jb fun _=>jc))))) jc))) (fun ρ X t k=>(by kernel_rfl)) (fun X s=>by kernel_rfl))
theorem jI.p2:PcA jI.G Tryz.f44 2:=
 js (s:=jI.c7r) (by kernel_rfl) (by kernel_rfl) (jq (sh:=jI.c7s) (fun ρ X Z=>(jl jc jc)) (fun ρ X t k=>(by kernel_rfl)) (fun X=>by kernel_rfl))
theorem jI.p3:PcA jI.G Tryz.f44 3:=
 JE (s:=jI.cU_r) (by kernel_rfl) (by kernel_rfl) (jq (sh:=jI.c7s) (fun ρ X Z=>(jl (jb fun _=>jc) jc)) (fun ρ X t k=>(by kernel_rfl)) (fun X=>by kernel_rfl))
theorem jI.p4:PcA jI.G Tryz.f44 4:=
 js (s:=jI.c11r) (by kernel_rfl) (by kernel_rfl) (jq (sh:=jI.c7s) (fun ρ X Z=>(jb fun _=>(jb fun _=>jc))) (fun ρ X t k=>(by kernel_rfl)) (fun X=>by kernel_rfl))
theorem jI.ok:CalleeOk Tryz.prog 44 jI.ce:=fn_ok (G:=jI.G) jG mixed Tryz.func44 ⟨(jj Jb.ok jz),jx,jn⟩ (m:=5) (by kernel_rfl) ⟨⟨⟨⟨⟨trivial,jI.p0⟩,jI.p1⟩,jI.p2⟩,jI.p3⟩,jI.p4⟩ (by kernel_rfl) (fun _=>by kernel_rfl)
def kK (a:YD):Option YD:=
 bnd (Jb (!a.1) a.2) fun y=>
 some (y.1,y.2)
def kK.ce:Go.Ql.Callee:=⟨[(.st (.pair .bool (.sl (.int .i64))))],[(.st (.pair .bool (.sl (.int .i64))))],fun X=>kK X⟩
def kK.G:Env:=⟨9,tab,[(41,Jb.ce)],[0,1,2],[],[],[],[],jy⟩
theorem kK.ok:CalleeOk Tryz.prog 81 kK.ce:=fn_ok (G:=kK.G) jG mixed Tryz.func81 ⟨(jj Jb.ok jz),jx,jn⟩ (m:=0) (by kernel_rfl) trivial (by kernel_rfl) (fun _=>by kernel_rfl)
def jY.c4 (a:List Int)(b:List Int)(c:Int)(i:Int)(Z:Bool→Option ρ):Option ρ:=
 br (decide (i<(↑(List.length a):Int)))
 (Z true)
 (br (decide (i<(↑(List.length b):Int)))
 (Z true)
 (Z (decide (c>(0:Int)))))
def jY.c4s:Shape:=⟨[(0,ff49),(1,ff49),(4,ff49),(5,ff20),(6,ff5),(7,ff5)],[(5,ff51)]⟩
def jY.c4x0:Shape:=⟨[(0,ff49),(1,ff49),(4,ff49),(5,ff20),(6,ff5),(7,ff5),(21,ff7)],[(5,ff51)]⟩
def jY.c4r:Ck:=Ck.of (T:=Bool) jY.c4s (fun ρ X Z=>jY.c4 X.1 X.2.1 X.2.2.2.1 (q4 X).1 Z) (fun ρ X V Z=>Z 0 (Shape.inj jY.c4x0 (X.1,X.2.1,X.2.2.1,X.2.2.2.1,(q4 X).1,V,(q4 X).2)))
def jY.cx_ (a:List Int)(c:Int)(i:Int)(Z:Int→Option ρ):Option ρ:=
 br (decide (i<(↑(List.length a):Int)))
 (bnd (idx a i) fun y=>
 Z (IntKind.i64.wrap (c+y)))
 (Z c)
def jY.cx_r:Ck:=Ck.of (T:=Int) jY.c4s (fun ρ X Z=>jY.cx_ X.1 X.2.2.2.1 (q4 X).1 Z) (fun ρ X V Z=>Z 0 (Shape.inj jY.c4s (X.1,X.2.1,X.2.2.1,V,(q4 X))))
def jY.co_ (b:List Int)(c:Int)(i:Int)(Z:Int→Option ρ):Option ρ:=
 br (decide (i<(↑(List.length b):Int)))
 (bnd (idx b i) fun y=>
 Z (IntKind.i64.wrap (c+y)))
 (Z c)
def jY.co_r:Ck:=Ck.of (T:=Int) jY.c4s (fun ρ X Z=>jY.co_ X.2.1 X.2.2.2.1 (q4 X).1 Z) (fun ρ X V Z=>Z 0 (Shape.inj jY.c4s (X.1,X.2.1,X.2.2.1,V,(q4 X))))
def jY.cb_ (a:List Int)(b:List Int)(c:Int)(i:Int)(out:List Int)(Z:(Int×Int×(List Int))⊕(Int×Int×(List Int))→Option ρ):Option ρ:=
 bnd (jY.c4 a b c i some) fun y=>
 br y
 (bnd (jY.cx_ a c i some) fun y_1=>
 bnd (jY.co_ b y_1 i some) fun y_2=>
 bnd (okIf (decide ((List.length out+(1:Nat))*(8:Nat)≤(140737488355328:Nat))&&decide (List.length out+(1:Nat)≤(140737488355328:Nat)))) fun y_3=>
 Z (.inl ((IntKind.i64.wrap (Int.tdiv y_2 (10000:Int))),(IntKind.i64.wrap (i+(1:Int))),(out++[Int.tmod y_2 (10000:Int)]))))
 (Z (.inr (c,i,out)))
def jY.cb_r:Ck:=Ck.ofLoop (S:=Int×Int×(List Int)) (T:=Int×Int×(List Int)) jY.c4s (fun X=>(X.2.2.2.1,(q4 X).1,(q4 X).2.1)) (fun ρ X Q Z=>jY.cb_ X.1 X.2.1 Q.1 Q.2.1 Q.2.2 Z) (fun ρ X V Z=>Z 2 (Shape.inj jY.c4s (X.1,X.2.1,X.2.2.1,V.1,V.2.1,V.2.2,())))
def jY (a:List Int) (b:List Int):Option (List Int):=
 bnd (iter (fun s↦jY.cb_ a b s.1 s.2.1 s.2.2 some) ((0:Int),(0:Int),[])) fun y=>
 some y.2.2
def jY.ce:Go.Ql.Callee:=⟨[(.sl (.int .i64)),(.sl (.int .i64))],[(.sl (.int .i64))],fun X=>jY X.1 X.2⟩
def jY.G:Env:=⟨52,tab,[],[0,1,4,5,6,7,21,27,37],[5],[],[(100004,jY.cb_r),(232773,jY.co_r),(224581,jY.cx_r),(4,jY.c4r)],[],jy⟩
theorem jY.p0:PcA jY.G Tryz.f101 0:=
 jW (s:=jY.cb_r) (by kernel_rfl) (by kernel_rfl) (jT (sh:=jY.c4s) (I:=fun X Q=>(X.1,X.2.1,X.2.2.1,Q.1,Q.2.1,Q.2.2,())) (fun X=>rfl) (fun ρ X Q Z=>(jb fun _=>(jl (jb fun _=>(jb fun _=>(jb fun _=>jc))) jc))) (fun ρ X t k=>(by kernel_rfl)) (fun X s=>by kernel_rfl))
theorem jY.p1:PcA jY.G Tryz.f101 1:=
 js (s:=jY.c4r) (by kernel_rfl) (by kernel_rfl) (jq (sh:=jY.c4s) (fun ρ X Z=>(jl jc (jl jc jc))) (fun ρ X t k=>(by kernel_rfl)) (fun X=>by kernel_rfl))
theorem jY.p2:PcA jY.G Tryz.f101 2:=
 JE (s:=jY.cx_r) (by kernel_rfl) (by kernel_rfl) (jq (sh:=jY.c4s) (fun ρ X Z=>(jl (jb fun _=>jc) jc)) (fun ρ X t k=>(by kernel_rfl)) (fun X=>by kernel_rfl))
theorem jY.p3:PcA jY.G Tryz.f101 3:=
 JE (s:=jY.co_r) (by kernel_rfl) (by kernel_rfl) (jq (sh:=jY.c4s) (fun ρ X Z=>(jl (jb fun _=>jc) jc)) (fun ρ X t k=>(by kernel_rfl)) (fun X=>by kernel_rfl))
theorem jY.ok:CalleeOk Tryz.prog 101 jY.ce:=fn_ok (G:=jY.G) jG mixed Tryz.func101 ⟨jz,jx,jn⟩ (m:=4) (by kernel_rfl) ⟨⟨⟨⟨trivial,jY.p0⟩,jY.p1⟩,jY.p2⟩,jY.p3⟩ (by kernel_rfl) (fun _=>by kernel_rfl)
def Jp.cm_ (b:List Int)(i:Int)(x:Int)(Z:Int→Option ρ):Option ρ:=
 br (decide (i<(↑(List.length b):Int)))
 (bnd (idx b i) fun y=>
 Z (IntKind.i64.wrap (x-y)))
 (Z x)
def Jp.cm_s:Shape:=⟨[(0,ff49),(1,ff49),(4,ff49),(5,ff20),(6,ff5),(7,ff5),(8,ff5)],[(5,ff51)]⟩
def Jp.cm_r:Ck:=Ck.of (T:=Int) Jp.cm_s (fun ρ X Z=>Jp.cm_ X.2.1 (q4 X).1 (q4 X).2.1 Z) (fun ρ X V Z=>Z 0 (Shape.inj Jp.cm_s (X.1,X.2.1,X.2.2.1,X.2.2.2.1,(q4 X).1,V,(q4 X).2.2)))
def Jp.cV_ (c:Int)(x:Int)(Z:Int×Int→Option ρ):Option ρ:=
 br (decide (x<(0:Int)))
 (Z ((1:Int),(IntKind.i64.wrap (x+(10000:Int)))))
 (Z (c,x))
def Jp.cV_r:Ck:=Ck.of (T:=Int×Int) Jp.cm_s (fun ρ X Z=>Jp.cV_ X.2.2.2.1 (q4 X).2.1 Z) (fun ρ X V Z=>Z 0 (Shape.inj Jp.cm_s (X.1,X.2.1,X.2.2.1,V.1,(q4 X).1,V.2,(q4 X).2.2)))
def Jp.cb_ (a:List Int)(b:List Int)(c:Int)(i:Int)(out:List Int)(Z:(Int×Int×(List Int))⊕(Int×Int×(List Int))→Option ρ):Option ρ:=
 br (decide (i<(↑(List.length a):Int)))
 (bnd (idx a i) fun y=>
 bnd (Jp.cm_ b i (IntKind.i64.wrap (y-c)) some) fun y_1=>
 bnd (Jp.cV_ (0:Int) y_1 some) fun y_2=>
 bnd (okIf (decide ((List.length out+(1:Nat))*(8:Nat)≤(140737488355328:Nat))&&decide (List.length out+(1:Nat)≤(140737488355328:Nat)))) fun y_3=>
 Z (.inl (y_2.1,(IntKind.i64.wrap (i+(1:Int))),(out++[y_2.2]))))
 (Z (.inr (c,i,out)))
def Jp.cb_s:Shape:=⟨[(0,ff49),(1,ff49),(4,ff49),(5,ff20),(6,ff5),(7,ff5)],[(5,ff51)]⟩
def Jp.cb_r:Ck:=Ck.ofLoop (S:=Int×Int×(List Int)) (T:=Int×Int×(List Int)) Jp.cb_s (fun X=>(X.2.2.2.1,(q4 X).1,(q4 X).2.1)) (fun ρ X Q Z=>Jp.cb_ X.1 X.2.1 Q.1 Q.2.1 Q.2.2 Z) (fun ρ X V Z=>Z 2 (Shape.inj Jp.cb_s (X.1,X.2.1,X.2.2.1,V.1,V.2.1,V.2.2,())))
def Jp (a:List Int) (b:List Int):Option (List Int):=
 bnd (iter (fun s↦Jp.cb_ a b s.1 s.2.1 s.2.2 some) ((0:Int),(0:Int),[])) fun y=>
 some y.2.2
def Jp.ce:Go.Ql.Callee:=⟨[(.sl (.int .i64)),(.sl (.int .i64))],[(.sl (.int .i64))],fun X=>Jp X.1 X.2⟩
def Jp.G:Env:=⟨40,tab,[],[0,1,4,5,6,7,8,12,24,32],[5],[],[(100004,Jp.cb_r),(240967,Jp.cV_r),(228677,Jp.cm_r)],[],jy⟩
theorem Jp.p0:PcA Jp.G Tryz.f103 0:=
 jW (s:=Jp.cb_r) (by kernel_rfl) (by kernel_rfl) (jT (sh:=Jp.cb_s) (I:=fun X Q=>(X.1,X.2.1,X.2.2.1,Q.1,Q.2.1,Q.2.2,())) (fun X=>rfl) (fun ρ X Q Z=>(jl (jb fun _=>(jb fun _=>(jb fun _=>(jb fun _=>jc)))) jc)) (fun ρ X t k=>(by kernel_rfl)) (fun X s=>by kernel_rfl))
theorem Jp.p1:PcA Jp.G Tryz.f103 1:=
 JE (s:=Jp.cm_r) (by kernel_rfl) (by kernel_rfl) (jq (sh:=Jp.cm_s) (fun ρ X Z=>(jl (jb fun _=>jc) jc)) (fun ρ X t k=>(by kernel_rfl)) (fun X=>by kernel_rfl))
theorem Jp.p2:PcA Jp.G Tryz.f103 2:=
 JE (s:=Jp.cV_r) (by kernel_rfl) (by kernel_rfl) (jq (sh:=Jp.cm_s) (fun ρ X Z=>(jl jc jc)) (fun ρ X t k=>(by kernel_rfl)) (fun X=>by kernel_rfl))
theorem Jp.ok:CalleeOk Tryz.prog 103 Jp.ce:=fn_ok (G:=Jp.G) jG mixed Tryz.func103 ⟨jz,jx,jn⟩ (m:=3) (by kernel_rfl) ⟨⟨⟨trivial,Jp.p0⟩,Jp.p1⟩,Jp.p2⟩ (by kernel_rfl) (fun _=>by kernel_rfl)
def Jn.c6 (a0:Bool)(a1:List Int)(b1:List Int)(Z:YD→Option ρ):Option ρ:=
 bnd (jY a1 b1) fun y=>
 bnd (Jb a0 y) fun y_1=>
 Z (y_1.1,y_1.2)
def Jn.c6s:Shape:=⟨[(0,ff84),(1,ff84),(2,ff2),(3,ff12),(4,ff6)],[(2,ff83),(3,ff83),(4,ff83)]⟩
def Jn.c6r:Ck:=Ck.of (T:=YD) Jn.c6s (fun ρ X Z=>Jn.c6 X.2.2.1 X.2.2.2.1 (q4 X).2.1 Z) (fun ρ X V Z=>Z 0 (Shape.inj Jn.c6s (X.1,X.2.1,X.2.2.1,X.2.2.2.1,(q4 X).1,(q4 X).2.1,V.1,V.2,())))
def Jn.c8 (a0:Bool)(a1:List Int)(b1:List Int)(Z:YD→Option ρ):Option ρ:=
 bnd (Jp a1 b1) fun y=>
 bnd (Jb a0 y) fun y_1=>
 Z (y_1.1,y_1.2)
def Jn.c8r:Ck:=Ck.of (T:=YD) Jn.c6s (fun ρ X Z=>Jn.c8 X.2.2.1 X.2.2.2.1 (q4 X).2.1 Z) (fun ρ X V Z=>Z 0 (Shape.inj Jn.c6s (X.1,X.2.1,X.2.2.1,X.2.2.2.1,(q4 X).1,(q4 X).2.1,V.1,V.2,())))
def Jn.c9 (a1:List Int)(b0:Bool)(b1:List Int)(Z:YD→Option ρ):Option ρ:=
 bnd (Jp b1 a1) fun y=>
 bnd (Jb b0 y) fun y_1=>
 Z (y_1.1,y_1.2)
def Jn.c9r:Ck:=Ck.of (T:=YD) Jn.c6s (fun ρ X Z=>Jn.c9 X.2.2.2.1 (q4 X).1 (q4 X).2.1 Z) (fun ρ X V Z=>Z 0 (Shape.inj Jn.c6s (X.1,X.2.1,X.2.2.1,X.2.2.2.1,(q4 X).1,(q4 X).2.1,V.1,V.2,())))
def Jn (a:YD) (b:YD):Option YD:=
 br ((↑(List.length a.2):Int)==(0:Int))
 (some (b.1,b.2))
 (br ((↑(List.length b.2):Int)==(0:Int))
 (some (a.1,a.2))
 (br (a.1==b.1)
 (bnd (Jn.c6 a.1 a.2 b.2 some) fun y=>
 some (y.1,y.2))
 (bnd (Jk a.2 b.2) fun y_1=>
 br (decide (y_1≥(0:Int)))
 (bnd (Jn.c8 a.1 a.2 b.2 some) fun y_2=>
 some (y_2.1,y_2.2))
 (bnd (Jn.c9 a.2 b.1 b.2 some) fun y_3=>
 some (y_3.1,y_3.2)))))
def Jn.ce:Go.Ql.Callee:=⟨[(.st (.pair .bool (.sl (.int .i64)))),(.st (.pair .bool (.sl (.int .i64))))],[(.st (.pair .bool (.sl (.int .i64))))],fun X=>Jn X.1 X.2⟩
def Jn.G:Env:=⟨50,tab,[(101,jY.ce),(41,Jb.ce),(102,Jk.ce),(103,Jp.ce)],[0,1,2,3,4,8,13,19,33],[],[(9,[⟨[],[],[44,45,46,47,48],[]⟩,⟨[0],[],[44,45,46,47,48],[]⟩,⟨[],[],[42,43,46,47],[]⟩,⟨[2],[],[42,43,46,47],[]⟩,⟨[],[],[42,43,44,45],[]⟩,⟨[4],[],[42,43,44,45],[]⟩,⟨[3,2,5,4],[],[42,43],[]⟩,⟨[1,0,6,3,2,5,4],[],[],[]⟩,⟨[7,1,0,6,3,2,5,4],[4],[],[]⟩]),
 (8,[⟨[],[],[36,37,38,39,40],[]⟩,⟨[0],[],[36,37,38,39,40],[]⟩,⟨[],[],[34,35,38,39],[]⟩,⟨[2],[],[34,35,38,39],[]⟩,⟨[],[],[34,35,36,37],[]⟩,⟨[4],[],[34,35,36,37],[]⟩,⟨[3,2,5,4],[],[34,35],[]⟩,⟨[1,0,6,3,2,5,4],[],[],[]⟩,⟨[7,1,0,6,3,2,5,4],[4],[],[]⟩]),
 (6,[⟨[],[],[22,23,24,25,26],[]⟩,⟨[0],[],[22,23,24,25,26],[]⟩,⟨[],[],[20,21,24,25],[]⟩,⟨[2],[],[20,21,24,25],[]⟩,⟨[],[],[20,21,22,23],[]⟩,⟨[4],[],[20,21,22,23],[]⟩,⟨[3,2,5,4],[],[20,21],[]⟩,⟨[1,0,6,3,2,5,4],[],[],[]⟩,⟨[7,1,0,6,3,2,5,4],[4],[],[]⟩])],[(9,Jn.c9r),(8,Jn.c8r),(6,Jn.c6r)],[],jy⟩
theorem Jn.p0:PcA Jn.G Tryz.f83 0:=
 js (s:=Jn.c6r) (by kernel_rfl) (by kernel_rfl) (jq (sh:=Jn.c6s) (fun ρ X Z=>(jb fun _=>(jb fun _=>jc))) (fun ρ X t k=>(by kernel_rfl)) (fun X=>by kernel_rfl))
theorem Jn.p1:PcA Jn.G Tryz.f83 1:=
 js (s:=Jn.c8r) (by kernel_rfl) (by kernel_rfl) (jq (sh:=Jn.c6s) (fun ρ X Z=>(jb fun _=>(jb fun _=>jc))) (fun ρ X t k=>(by kernel_rfl)) (fun X=>by kernel_rfl))
theorem Jn.p2:PcA Jn.G Tryz.f83 2:=
 js (s:=Jn.c9r) (by kernel_rfl) (by kernel_rfl) (jq (sh:=Jn.c6s) (fun ρ X Z=>(jb fun _=>(jb fun _=>jc))) (fun ρ X t k=>(by kernel_rfl)) (fun X=>by kernel_rfl))
theorem Jn.ok:CalleeOk Tryz.prog 83 Jn.ce:=fn_ok (G:=Jn.G) jG mixed Tryz.func83 ⟨(jj jY.ok (jj Jb.ok (jj Jk.ok (jj Jp.ok jz)))),jx,jn⟩ (m:=3) (by kernel_rfl) ⟨⟨⟨trivial,Jn.p0⟩,Jn.p1⟩,Jn.p2⟩ (by kernel_rfl) (fun _=>by kernel_rfl)
def kc.c1 (a0:Bool)(a1:List Int)(b0:Bool)(b1:List Int)(Z:YD→Option ρ):Option ρ:=
 bnd (kK (b0,b1)) fun y=>
 bnd (Jn (a0,a1) y) fun y_1=>
 Z (y_1.1,y_1.2)
def kc.c1s:Shape:=⟨[(0,ff84),(1,ff84),(2,ff2),(3,ff12),(4,ff6)],[(2,ff83),(3,ff83),(4,ff83)]⟩
def kc.c1r:Ck:=Ck.of (T:=YD) kc.c1s (fun ρ X Z=>kc.c1 X.2.2.1 X.2.2.2.1 (q4 X).1 (q4 X).2.1 Z) (fun ρ X V Z=>Z 0 (Shape.inj kc.c1s (X.1,X.2.1,X.2.2.1,X.2.2.2.1,(q4 X).1,(q4 X).2.1,V.1,V.2,())))
def kc (a:YD) (b:YD):Option YD:=
 bnd (kc.c1 a.1 a.2 b.1 b.2 some) fun y=>
 some (y.1,y.2)
def kc.ce:Go.Ql.Callee:=⟨[(.st (.pair .bool (.sl (.int .i64)))),(.st (.pair .bool (.sl (.int .i64))))],[(.st (.pair .bool (.sl (.int .i64))))],fun X=>kc X.1 X.2⟩
def kc.G:Env:=⟨9,tab,[(81,kK.ce),(83,Jn.ce)],[0,1,2,3,4],[],[(1,[⟨[],[],[6,7],[]⟩,⟨[],[],[5],[]⟩,⟨[1],[],[5],[]⟩,⟨[0,2,1],[],[],[]⟩,⟨[3,0,2,1],[4],[],[]⟩])],[(1,kc.c1r)],[],jy⟩
theorem kc.p0:PcA kc.G Tryz.f78 0:=
 js (s:=kc.c1r) (by kernel_rfl) (by kernel_rfl) (jq (sh:=kc.c1s) (fun ρ X Z=>(jb fun _=>(jb fun _=>jc))) (fun ρ X t k=>(by kernel_rfl)) (fun X=>by kernel_rfl))
theorem kc.ok:CalleeOk Tryz.prog 78 kc.ce:=fn_ok (G:=kc.G) jG mixed Tryz.func78 ⟨(jj kK.ok (jj Jn.ok jz)),jx,jn⟩ (m:=1) (by kernel_rfl) ⟨trivial,kc.p0⟩ (by kernel_rfl) (fun _=>by kernel_rfl)
def kM (a:YD):Option Int:=
 br ((↑(List.length a.2):Int)==(0:Int))
 (some (0:Int))
 (br a.1
 (some (-1:Int))
 (some (1:Int)))
def kM.ce:Go.Ql.Callee:=⟨[(.st (.pair .bool (.sl (.int .i64))))],[(.int .i64)],fun X=>kM X⟩
def kM.G:Env:=⟨9,tab,[],[0,1,2,6,8],[],[],[],[],jy⟩
theorem kM.ok:CalleeOk Tryz.prog 42 kM.ce:=fn_ok (G:=kM.G) jG mixed Tryz.func42 ⟨jz,jx,jn⟩ (m:=0) (by kernel_rfl) trivial (by kernel_rfl) (fun _=>by kernel_rfl)
def kX (a:YD) (b:YD):Option Int:=
 bnd (kc (a.1,a.2) (b.1,b.2)) fun y=>
 bnd (kM y) fun y_1=>
 some y_1
def kX.ce:Go.Ql.Callee:=⟨[(.st (.pair .bool (.sl (.int .i64)))),(.st (.pair .bool (.sl (.int .i64))))],[(.int .i64)],fun X=>kX X.1 X.2⟩
def kX.G:Env:=⟨9,tab,[(78,kc.ce),(42,kM.ce)],[0,1,2,3,4],[],[],[],[],jy⟩
theorem kX.ok:CalleeOk Tryz.prog 43 kX.ce:=fn_ok (G:=kX.G) jG mixed Tryz.func43 ⟨(jj kc.ok (jj kM.ok jz)),jx,jn⟩ (m:=0) (by kernel_rfl) trivial (by kernel_rfl) (fun _=>by kernel_rfl)
end
end W
end
