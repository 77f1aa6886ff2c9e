/- Lifted functions, part 2: each with its contract. -/
import Derived.Test.YtjlbeiadpdgchaaWa
import Derived.Test.YtjlbeiadpdgchaaProg
set_option linter.all false
section
set_option maxHeartbeats 4000000
set_option maxRecDepth 100000
set_option linter.unusedVariables false
namespace W
open Go Go.Ql Go.Proofs
noncomputable section
abbrev tb49:SD:=.one (.own 10 0)
abbrev tb50:SO:=.arr 0 false 3 (.int .i64)
abbrev tb51:SD:=.one (.ref 1000200 0)
abbrev tb60:SO:=.box [.val (.int .i64)]
abbrev tb66:SO:=.arr 0 false 5 (.int .u8)
abbrev tb68:SD:=.one (.val (.sl (.int .u8)))
section
end
abbrev tb69:SD:=.one (.clo 1000140)
abbrev tb72:SD:=.one (.own 7 0)
def jr.c208197 {ρ:Type} (p2:Bool) (t7:List Int) (k_:List Int→Option ρ):Option ρ:=
 br p2
 (bnd (inR (List.length t7) (0:Int)) fun y=>
 bnd (idx t7 (0:Int)) fun y_1=>
 k_ (List.set t7 (0:Nat) (45:Int)))
 (k_ t7)
def jr.c208197s:Shape:=⟨[(0,tb11),(1,tb5),(2,tb2),(4,tb4),(5,tb72)],[(2,tb9),(7,tb66)]⟩
def jr.c208197x0:Shape:=jr.c208197s
def jr.c208197r:Ck:=Ck.of (T:=List Int) jr.c208197s (fun ρ x_ k_=>jr.c208197 x_.2.2.2.2.2.1 x_.2.2.2.2.2.2.1 k_) (fun ρ x_ r_ k_=>k_ 0 (Shape.inj jr.c208197x0 (x_.1,x_.2.1,x_.2.2.1,x_.2.2.2.1,x_.2.2.2.2.1,x_.2.2.2.2.2.1,r_,())))
def jr.c7 {ρ:Type} (q:Int) (p0:Int) (p1:Int) (t7:List Int) (k_:List Int→Option ρ):Option ρ:=
 bnd (okIf (decide ((0:Int)≤q))) fun y=>
 bnd (okIf (decide ((0:Int)≤q))) fun y_1=>
 bnd (idx (Array.toList (ByteArray.data (ByteArray.mk #[(73:UInt8),(88:UInt8),(90:UInt8),(89:UInt8)]))) (ibits BinOp.or IntKind.u64 (ibits BinOp.and IntKind.u64 (Int.fdiv p0 ((2:Int) ^ Min.min (Int.toNat q) (64:Nat))) (1:Int)) (IntKind.u64.wrap (ibits BinOp.and IntKind.u64 (Int.fdiv p1 ((2:Int) ^ Min.min (Int.toNat q) (64:Nat))) (1:Int)*(2:Int) ^ (1:Nat))))) fun y_2=>
 bnd (okIf (decide ((List.length t7+(1:Nat))*(1:Nat)≤(140737488355328:Nat)) && decide (List.length t7+(1:Nat)≤(140737488355328:Nat)))) fun y_3=>
 k_ (t7++[(↑(UInt8.toNat y_2):Int)])
def jr.c7s:Shape:=⟨[(0,tb11),(1,tb5),(2,tb2),(4,tb4),(5,tb72),(6,tb5),(12,tb5),(13,tb5)],[(2,tb9),(7,tb66)]⟩
def jr.c7x0:Shape:=jr.c7s
def jr.c7r:Ck:=Ck.of (T:=List Int) jr.c7s (fun ρ x_ k_=>jr.c7 x_.2.2.2.1 x_.2.2.2.2.2.2.1 x_.2.2.2.2.2.2.2.1 x_.2.2.2.2.2.2.2.2.2.1 k_) (fun ρ x_ r_ k_=>k_ 0 (Shape.inj jr.c7x0 (x_.1,x_.2.1,x_.2.2.1,x_.2.2.2.1,x_.2.2.2.2.1,x_.2.2.2.2.2.1,x_.2.2.2.2.2.2.1,x_.2.2.2.2.2.2.2.1,x_.2.2.2.2.2.2.2.2.1,r_,())))
def jr.c100005 {ρ:Type} (t12:Int) (t13:Int) (p0:Int) (p1:Int) (t7:List Int) (k_:(Int×(List Int))⊕(Int×(List Int))→Option ρ):Option ρ:=
 br (decide (t13 < t12))
 (bnd (W.jr.c7 t13 p0 p1 t7 some) fun y=>
 k_ (.inl ((IntKind.i64.wrap (t13+(1:Int))),y)))
 (k_ (.inr (t13,t7)))
def jr.c100005s:Shape:=⟨[(0,tb11),(1,tb5),(2,tb2),(4,tb4),(5,tb72),(12,tb5),(13,tb5)],[(2,tb9),(7,tb66)]⟩
def jr.c100005x0:Shape:=jr.c100005s
def jr.c100005r:Ck:=Ck.ofLoop (S:=Int×(List Int)) (T:=Int×(List Int)) jr.c100005s (fun x_=>(x_.2.2.2.2.1,x_.2.2.2.2.2.2.2.2.1)) (fun ρ x_ s_ k_=>jr.c100005 x_.2.2.2.1 s_.1 x_.2.2.2.2.2.1 x_.2.2.2.2.2.2.1 s_.2 k_) (fun ρ x_ r_ k_=>k_ 2 (Shape.inj jr.c100005x0 (x_.1,x_.2.1,x_.2.2.1,x_.2.2.2.1,r_.1,x_.2.2.2.2.2.1,x_.2.2.2.2.2.2.1,x_.2.2.2.2.2.2.2.1,r_.2,())))
def jr (p:YP) (n:Int):Option (List UInt8):=
 bnd (W.jr.c208197 p.2.2 [(43:Int)] some) fun y=>
 bnd (iter (fun s↦W.jr.c100005 n s.1 p.1 p.2.1 s.2 some) ((0:Int),y)) fun y_1=>
 some (List.map (fun n↦UInt8.ofNat (Int.toNat n)) y_1.2)
def jr.ce:Go.Ql.Callee:=⟨[(.st (.pair (.int .u64) (.pair (.int .u64) .bool))),(.int .i64)],[.str],fun x_=>jr x_.1 x_.2⟩
def jr.G:Env:=⟨35,tab,[],[0,1,2,4,5,6,9,12,13,14],[7],[(7,[⟨[],[],[17,18,19,20,21,22,23,24,25,26,27,28,29,30],[30]⟩,⟨[],[],[16,19,22,23,24,25,26,27],[]⟩,⟨[1],[],[16,19,22,23,24,25,26,27],[]⟩,⟨[],[],[16,17,18,22,23,24,25,26,27],[]⟩,⟨[2,1,3],[],[16,22,23,24,25,26,27],[]⟩,⟨[4,2,1,3],[],[16,22,23,24,25,26,27],[]⟩,⟨[],[],[16,17,18,19,20,21,24],[]⟩,⟨[6],[],[16,17,18,19,20,21,24],[]⟩,⟨[],[],[16,17,18,19,20,21,22,23],[]⟩,⟨[7,6,8],[],[16,17,18,19,20,21],[]⟩,⟨[9,7,6,8],[],[16,17,18,19,20,21],[]⟩,⟨[10,9,7,6,8],[],[16,17,18,19,20,21],[]⟩,⟨[5,4,2,1,3,11,10,9,7,6,8],[],[16],[]⟩,⟨[12,5,4,2,1,3,11,10,9,7,6,8],[],[16],[]⟩,⟨[13,12,5,4,2,1,3,11,10,9,7,6,8],[30],[16],[]⟩,⟨[0,14,13,12,5,4,2,1,3,11,10,9,7,6,8],[7],[],[]⟩,⟨[15,0,14,13,12,5,4,2,1,3,11,10,9,7,6,8],[],[],[]⟩])],[(100005,jr.c100005r),(7,jr.c7r),(208197,jr.c208197r)],[],jZ⟩
theorem jr.eq (x_:dens jr.ce.params):den jr.G Try.f43 jr.ce.params jr.ce.res x_=jr.ce.F x_:=by kernel_rfl
theorem jr.p0:PcA jr.G Try.f43 0:=
 JV (s:=jr.c208197r) (by kernel_rfl) (by kernel_rfl) (jt (sh:=jr.c208197s) (fun ρ x_ k_=>(jm (jc fun _=>(jc fun _=>jd)) jd)) (fun ρ x_ t k=>(by kernel_rfl)) (fun x_=>by kernel_rfl))
theorem jr.p1:PcA jr.G Try.f43 1:=
 Jk (s:=jr.c100005r) (by kernel_rfl) (by kernel_rfl) (Jc (sh:=jr.c100005s) (I:=fun x_ s_=>(x_.1,x_.2.1,x_.2.2.1,x_.2.2.2.1,s_.1,x_.2.2.2.2.2.1,x_.2.2.2.2.2.2.1,x_.2.2.2.2.2.2.2.1,s_.2,())) (fun x_=>rfl) (fun ρ x_ s_ k_=>(jm (jc fun _=>jd) jd)) (fun ρ x_ t k=>(by kernel_rfl)) (fun x_ s=>by kernel_rfl))
theorem jr.p2:PcA jr.G Try.f43 2:=
 ju (s:=jr.c7r) (by kernel_rfl) (by kernel_rfl) (jt (sh:=jr.c7s) (fun ρ x_ k_=>(jc fun _=>(jc fun _=>(jc fun _=>(jc fun _=>jd))))) (fun ρ x_ t k=>(by kernel_rfl)) (fun x_=>by kernel_rfl))
theorem jr.ok:CalleeOk Try.prog 43 jr.ce:=fn_ok (G:=jr.G) Jj mixed Try.func43 ⟨Ja,jR,jA⟩ (m:=3) (by kernel_rfl) ⟨⟨⟨trivial,jr.p0⟩,jr.p1⟩,jr.p2⟩ (by kernel_rfl) jr.eq
def jO.c6 {ρ:Type} (a:List Int) (b:List Int) (i:Int) (k_:Bool→Option ρ):Option ρ:=
 bnd (idx a i) fun y=>
 bnd (idx b i) fun y_1=>
 k_ (y != y_1)
def jO.c6s:Shape:=⟨[(0,tb36),(1,tb36),(4,tb7),(5,tb5)],[]⟩
def jO.c6x0:Shape:=⟨[(0,tb36),(1,tb36),(4,tb7),(5,tb5),(25,tb7)],[]⟩
def jO.c6r:Ck:=Ck.of (T:=Bool) jO.c6s (fun ρ x_ k_=>jO.c6 x_.1 x_.2.1 x_.2.2.2.1 k_) (fun ρ x_ r_ k_=>k_ 0 (Shape.inj jO.c6x0 (x_.1,x_.2.1,x_.2.2.1,x_.2.2.2.1,r_,())))
def jO.c100004 {ρ:Type} (a:List Int) (b:List Int) (i:Int) (k_:Int⊕(Int⊕Int)→Option ρ):Option ρ:=
 br (decide (i < (↑(List.length a):Int)))
 (bnd (W.jO.c6 a b i some) fun y=>
 br y
 (k_ (.inr (.inl i)))
 (k_ (.inl (IntKind.i64.wrap (i+(1:Int))))))
 (k_ (.inr (.inr i)))
def jO.c100004s:Shape:=jO.c6s
def jO.c100004x0:Shape:=jO.c6s
def jO.c100004x1:Shape:=jO.c6s
def jO.c100004r:Ck:=Ck.ofLoop (S:=Int) (T:=Int⊕Int) jO.c100004s (fun x_=>x_.2.2.2.1) (fun ρ x_ s_ k_=>jO.c100004 x_.1 x_.2.1 s_ k_) (fun ρ x_ r_ k_=>sel r_ (fun r_=>k_ 1 (Shape.inj jO.c100004x0 (x_.1,x_.2.1,false,r_,()))) (fun r_=>k_ 2 (Shape.inj jO.c100004x1 (x_.1,x_.2.1,x_.2.2.1,r_,()))))
def jO (a:List Int) (b:List Int):Option Bool:=
 br ((↑(List.length a):Int) != (↑(List.length b):Int))
 (some false)
 (bnd (iter (fun s↦W.jO.c100004 a b s some) (0:Int)) fun y=>
 sel y
 (fun u=>some false)
 (fun v=>some true))
def jO.ce:Go.Ql.Callee:=⟨[(.sl (.int .i64)),(.sl (.int .i64))],[.bool],fun x_=>jO x_.1 x_.2⟩
def jO.G:Env:=⟨26,tab,[],[0,1,4,5,10,14,25],[],[(6,[⟨[],[],[18,21,22,23,24],[]⟩,⟨[],[],[17,21,22,23,24],[]⟩,⟨[0,1],[],[21,22,23,24],[]⟩,⟨[2,0,1],[],[21,22,23,24],[]⟩,⟨[],[],[17,18,19,20,22],[]⟩,⟨[],[],[17,18,19,20,21],[]⟩,⟨[4,5],[],[17,18,19,20],[]⟩,⟨[6,4,5],[],[17,18,19,20],[]⟩,⟨[3,2,0,1,7,6,4,5],[],[],[]⟩])],[(100004,jO.c100004r),(6,jO.c6r)],[],jZ⟩
theorem jO.eq (x_:dens jO.ce.params):den jO.G Try.f12 jO.ce.params jO.ce.res x_=jO.ce.F x_:=by kernel_rfl
theorem jO.p0:PcA jO.G Try.f12 0:=
 Jk (s:=jO.c100004r) (by kernel_rfl) (by kernel_rfl) (Jc (sh:=jO.c100004s) (I:=fun x_ s_=>(x_.1,x_.2.1,x_.2.2.1,s_,())) (fun x_=>rfl) (fun ρ x_ s_ k_=>(jm (jc fun _=>(jm jd jd)) jd)) (fun ρ x_ t k=>(ka (fun _=>(by kernel_rfl)) (fun _=>(by kernel_rfl)))) (fun x_ s=>by kernel_rfl))
theorem jO.p1:PcA jO.G Try.f12 1:=
 ju (s:=jO.c6r) (by kernel_rfl) (by kernel_rfl) (jt (sh:=jO.c6s) (fun ρ x_ k_=>(jc fun _=>(jc fun _=>jd))) (fun ρ x_ t k=>(by kernel_rfl)) (fun x_=>by kernel_rfl))
theorem jO.ok:CalleeOk Try.prog 12 jO.ce:=fn_ok (G:=jO.G) Jj mixed Try.func12 ⟨Ja,jR,jA⟩ (m:=2) (by kernel_rfl) ⟨⟨trivial,jO.p0⟩,jO.p1⟩ (by kernel_rfl) jO.eq
def jy.c1 {ρ:Type} (a0:Int) (a1:Int) (a2:List YO) (b0:Int) (b1:Int) (b2:List YO) (k_:Bool→Option ρ):Option ρ:=
 br (a0 != b0)
 (k_ true)
 (br (a1 != b1)
 (k_ true)
 (k_ ((↑(List.length a2):Int) != (↑(List.length b2):Int))))
def jy.c1s:Shape:=⟨[(0,tb38),(1,tb38),(2,tb2),(3,tb12),(4,tb7)],[(2,tb34),(3,tb34)]⟩
def jy.c1x0:Shape:=⟨[(0,tb38),(1,tb38),(2,tb2),(3,tb12),(4,tb7),(28,tb7)],[(2,tb34),(3,tb34)]⟩
def jy.c1r:Ck:=Ck.of (T:=Bool) jy.c1s (fun ρ x_ k_=>jy.c1 x_.2.2.2.1 x_.2.2.2.2.1 x_.2.2.2.2.2.1 x_.2.2.2.2.2.2.1 x_.2.2.2.2.2.2.2.1 x_.2.2.2.2.2.2.2.2.1 k_) (fun ρ x_ r_ k_=>k_ 0 (Shape.inj jy.c1x0 (x_.1,x_.2.1,x_.2.2.1,r_,x_.2.2.2)))
def jy.c8 {ρ:Type} (x0:Int) (x1:Int) (x2:List Int) (x3:Int) (x4:Int) (x5:List Int) (y0:Int) (y1:Int) (y2:List Int) (y3:Int) (y4:Int) (y5:List Int) (k_:Bool→Option ρ):Option ρ:=
 br (x0 != y0)
 (k_ true)
 (br (x1 != y1)
 (k_ true)
 (br (x3 != y3)
 (k_ true)
 (br (x4 != y4)
 (k_ true)
 (bnd (W.jO x2 y2) fun y=>
 br (!y)
 (k_ true)
 (bnd (W.jO x5 y5) fun y_1=>
 k_ (!y_1))))))
def jy.c8s:Shape:=⟨[(0,tb38),(1,tb38),(2,tb2),(3,tb12),(4,tb7),(5,tb5),(6,tb8),(7,tb42)],[(2,tb34),(3,tb34),(6,tb26),(7,tb26)]⟩
def jy.c8x0:Shape:=⟨[(0,tb38),(1,tb38),(2,tb2),(3,tb12),(4,tb7),(5,tb5),(6,tb8),(7,tb42),(87,tb7)],[(2,tb34),(3,tb34),(6,tb26),(7,tb26)]⟩
def jy.c8r:Ck:=Ck.of (T:=Bool) jy.c8s (fun ρ x_ k_=>jy.c8 x_.2.2.2.2.2.2.2.2.2.2.1 x_.2.2.2.2.2.2.2.2.2.2.2.1 x_.2.2.2.2.2.2.2.2.2.2.2.2.1 x_.2.2.2.2.2.2.2.2.2.2.2.2.2.1 x_.2.2.2.2.2.2.2.2.2.2.2.2.2.2.1 x_.2.2.2.2.2.2.2.2.2.2.2.2.2.2.2.1 x_.2.2.2.2.2.2.2.2.2.2.2.2.2.2.2.2.1 x_.2.2.2.2.2.2.2.2.2.2.2.2.2.2.2.2.2.1 x_.2.2.2.2.2.2.2.2.2.2.2.2.2.2.2.2.2.2.1 x_.2.2.2.2.2.2.2.2.2.2.2.2.2.2.2.2.2.2.2.1 x_.2.2.2.2.2.2.2.2.2.2.2.2.2.2.2.2.2.2.2.2.1 x_.2.2.2.2.2.2.2.2.2.2.2.2.2.2.2.2.2.2.2.2.2.1 k_) (fun ρ x_ r_ k_=>k_ 0 (Shape.inj jy.c8x0 (x_.1,x_.2.1,x_.2.2.1,x_.2.2.2.1,r_,x_.2.2.2.2)))
def jy.c100004 {ρ:Type} (i:Int) (a2:List YO) (b2:List YO) (k_:Int⊕(Int⊕Int)→Option ρ):Option ρ:=
 br (decide (i < (↑(List.length a2):Int)))
 (bnd (idx a2 i) fun y=>
 bnd (idx b2 i) fun y_1=>
 bnd (W.jy.c8 y.1 y.2.1 y.2.2.1 y.2.2.2.1 y.2.2.2.2.1 y.2.2.2.2.2 y_1.1 y_1.2.1 y_1.2.2.1 y_1.2.2.2.1 y_1.2.2.2.2.1 y_1.2.2.2.2.2 some) fun y_2=>
 br y_2
 (k_ (.inr (.inl i)))
 (k_ (.inl (IntKind.i64.wrap (i+(1:Int))))))
 (k_ (.inr (.inr i)))
def jy.c100004s:Shape:=⟨[(0,tb38),(1,tb38),(2,tb2),(3,tb12),(4,tb7),(5,tb5)],[(2,tb34),(3,tb34)]⟩
def jy.c100004x0:Shape:=jy.c100004s
def jy.c100004x1:Shape:=jy.c100004s
def jy.c100004r:Ck:=Ck.ofLoop (S:=Int) (T:=Int⊕Int) jy.c100004s (fun x_=>x_.2.2.2.1) (fun ρ x_ s_ k_=>jy.c100004 s_ x_.2.2.2.2.2.2.1 x_.2.2.2.2.2.2.2.2.2.1 k_) (fun ρ x_ r_ k_=>sel r_ (fun r_=>k_ 1 (Shape.inj jy.c100004x0 (x_.1,x_.2.1,false,r_,x_.2.2.2.2))) (fun r_=>k_ 2 (Shape.inj jy.c100004x1 (x_.1,x_.2.1,x_.2.2.1,r_,x_.2.2.2.2))))
def jy (a:Int×(Int×(List YO))) (b:Int×(Int×(List YO))):Option Bool:=
 bnd (W.jy.c1 a.1 a.2.1 a.2.2 b.1 b.2.1 b.2.2 some) fun y=>
 br y
 (some false)
 (bnd (iter (fun s↦W.jy.c100004 s a.2.2 b.2.2 some) (0:Int)) fun y_1=>
 sel y_1
 (fun u=>some false)
 (fun v=>some true))
def jy.ce:Go.Ql.Callee:=⟨[(.st (.pair (.int .i64) (.pair (.int .i64) (.sl (.st (.pair (.int .i64) (.pair (.int .i64) (.pair (.sl (.int .i64)) (.pair (.int .i64) (.pair (.int .i64) (.sl (.int .i64)))))))))))),(.st (.pair (.int .i64) (.pair (.int .i64) (.sl (.st (.pair (.int .i64) (.pair (.int .i64) (.pair (.sl (.int .i64)) (.pair (.int .i64) (.pair (.int .i64) (.sl (.int .i64))))))))))))],[.bool],fun x_=>jy x_.1 x_.2⟩
def jy.G:Env:=⟨88,tab,[(12,jO.ce)],[0,1,2,3,4,5,6,7,28,33,87],[],[],[(100004,jy.c100004r),(8,jy.c8r),(1,jy.c1r)],[],jZ⟩
theorem jy.eq (x_:dens jy.ce.params):den jy.G Try.f11 jy.ce.params jy.ce.res x_=jy.ce.F x_:=by kernel_rfl
theorem jy.p0:PcA jy.G Try.f11 0:=
 ju (s:=jy.c1r) (by kernel_rfl) (by kernel_rfl) (jt (sh:=jy.c1s) (fun ρ x_ k_=>(jm jd (jm jd jd))) (fun ρ x_ t k=>(by kernel_rfl)) (fun x_=>by kernel_rfl))
theorem jy.p1:PcA jy.G Try.f11 1:=
 Jk (s:=jy.c100004r) (by kernel_rfl) (by kernel_rfl) (Jc (sh:=jy.c100004s) (I:=fun x_ s_=>(x_.1,x_.2.1,x_.2.2.1,s_,x_.2.2.2.2)) (fun x_=>rfl) (fun ρ x_ s_ k_=>(jm (jc fun _=>(jc fun _=>(jc fun _=>(jm jd jd)))) jd)) (fun ρ x_ t k=>(ka (fun _=>(by kernel_rfl)) (fun _=>(by kernel_rfl)))) (fun x_ s=>by kernel_rfl))
theorem jy.p2:PcA jy.G Try.f11 2:=
 ju (s:=jy.c8r) (by kernel_rfl) (by kernel_rfl) (jt (sh:=jy.c8s) (fun ρ x_ k_=>(jm jd (jm jd (jm jd (jm jd (jc fun _=>(jm jd (jc fun _=>jd)))))))) (fun ρ x_ t k=>(by kernel_rfl)) (fun x_=>by kernel_rfl))
theorem jy.ok:CalleeOk Try.prog 11 jy.ce:=fn_ok (G:=jy.G) Jj mixed Try.func11 ⟨(jx jO.ok Ja),jR,jA⟩ (m:=3) (by kernel_rfl) ⟨⟨⟨trivial,jy.p0⟩,jy.p1⟩,jy.p2⟩ (by kernel_rfl) jy.eq
def JH.c100002 {ρ:Type} (l:List Int) (x:Int) (i:Int) (k_:Int⊕(Int⊕Int)→Option ρ):Option ρ:=
 br (decide (i < (↑(List.length l):Int)))
 (bnd (idx l i) fun y=>
 br (y == x)
 (k_ (.inr (.inl i)))
 (k_ (.inl (IntKind.i64.wrap (i+(1:Int))))))
 (k_ (.inr (.inr i)))
def JH.c100002s:Shape:=⟨[(0,tb36),(1,tb5),(4,tb7),(5,tb5)],[]⟩
def JH.c100002x0:Shape:=JH.c100002s
def JH.c100002x1:Shape:=JH.c100002s
def JH.c100002r:Ck:=Ck.ofLoop (S:=Int) (T:=Int⊕Int) JH.c100002s (fun x_=>x_.2.2.2.1) (fun ρ x_ s_ k_=>JH.c100002 x_.1 x_.2.1 s_ k_) (fun ρ x_ r_ k_=>sel r_ (fun r_=>k_ 1 (Shape.inj JH.c100002x0 (x_.1,x_.2.1,true,r_,()))) (fun r_=>k_ 2 (Shape.inj JH.c100002x1 (x_.1,x_.2.1,x_.2.2.1,r_,()))))
def JH (l:List Int) (x:Int):Option Bool:=
 bnd (iter (fun s↦W.JH.c100002 l x s some) (0:Int)) fun y=>
 sel y
 (fun u=>some true)
 (fun v=>some false)
def JH.ce:Go.Ql.Callee:=⟨[(.sl (.int .i64)),(.int .i64)],[.bool],fun x_=>JH x_.1 x_.2⟩
def JH.G:Env:=⟨18,tab,[],[0,1,4,5,9,17],[],[],[(100002,JH.c100002r)],[],jZ⟩
theorem JH.eq (x_:dens JH.ce.params):den JH.G Try.f89 JH.ce.params JH.ce.res x_=JH.ce.F x_:=by kernel_rfl
theorem JH.p0:PcA JH.G Try.f89 0:=
 Jk (s:=JH.c100002r) (by kernel_rfl) (by kernel_rfl) (Jc (sh:=JH.c100002s) (I:=fun x_ s_=>(x_.1,x_.2.1,x_.2.2.1,s_,())) (fun x_=>rfl) (fun ρ x_ s_ k_=>(jm (jc fun _=>(jm jd jd)) jd)) (fun ρ x_ t k=>(ka (fun _=>(by kernel_rfl)) (fun _=>(by kernel_rfl)))) (fun x_ s=>by kernel_rfl))
theorem JH.ok:CalleeOk Try.prog 89 JH.ce:=fn_ok (G:=JH.G) Jj mixed Try.func89 ⟨Ja,jR,jA⟩ (m:=1) (by kernel_rfl) ⟨trivial,JH.p0⟩ (by kernel_rfl) JH.eq
def jl.c1 {ρ:Type} (o0:Int) (k_:Bool→Option ρ):Option ρ:=
 br (decide (o0 < (1:Int)))
 (k_ true)
 (k_ (decide (o0 > (6:Int))))
def jl.c1s:Shape:=⟨[(0,tb25),(1,tb5),(2,tb5),(3,tb12),(6,tb5)],[(3,tb26)]⟩
def jl.c1x0:Shape:=⟨[(0,tb25),(1,tb5),(2,tb5),(3,tb12),(6,tb5),(17,tb7)],[(3,tb26)]⟩
def jl.c1r:Ck:=Ck.of (T:=Bool) jl.c1s (fun ρ x_ k_=>jl.c1 x_.2.2.2.2.1 k_) (fun ρ x_ r_ k_=>k_ 0 (Shape.inj jl.c1x0 (x_.1,x_.2.1,x_.2.2.1,x_.2.2.2.1,r_,x_.2.2.2.2)))
def jl.c3 {ρ:Type} (o0:Int) (k_:Bool→Option ρ):Option ρ:=
 br (o0 == (1:Int))
 (k_ true)
 (k_ (o0 == (4:Int)))
def jl.c3s:Shape:=jl.c1s
def jl.c3x0:Shape:=⟨[(0,tb25),(1,tb5),(2,tb5),(3,tb12),(6,tb5),(7,tb7)],[(3,tb26)]⟩
def jl.c3r:Ck:=Ck.of (T:=Bool) jl.c3s (fun ρ x_ k_=>jl.c3 x_.2.2.2.2.1 k_) (fun ρ x_ r_ k_=>k_ 0 (Shape.inj jl.c3x0 (x_.1,x_.2.1,x_.2.2.1,x_.2.2.2.1,r_,x_.2.2.2.2)))
def jl.c4 {ρ:Type} (angle:Bool) (o1:Int) (k_:Bool→Option ρ):Option ρ:=
 br (decide (o1 < (0:Int)))
 (k_ true)
 (br (decide (o1 > (15:Int)))
 (k_ true)
 (br (decide (o1 > (0:Int)))
 (k_ (!angle))
 (k_ false)))
def jl.c4s:Shape:=jl.c3x0
def jl.c4x0:Shape:=⟨[(0,tb25),(1,tb5),(2,tb5),(3,tb12),(6,tb5),(7,tb7),(42,tb7)],[(3,tb26)]⟩
def jl.c4r:Ck:=Ck.of (T:=Bool) jl.c4s (fun ρ x_ k_=>jl.c4 x_.2.2.2.2.1 x_.2.2.2.2.2.2.1 k_) (fun ρ x_ r_ k_=>k_ 0 (Shape.inj jl.c4x0 (x_.1,x_.2.1,x_.2.2.1,x_.2.2.2.1,x_.2.2.2.2.1,r_,x_.2.2.2.2.2)))
def jl.c6 {ρ:Type} (qubits:Int) (o0:Int) (o3:Int) (k_:Bool→Option ρ):Option ρ:=
 br (decide (o3 < (0:Int)))
 (k_ true)
 (br (decide (o3≥qubits))
 (k_ true)
 (br (o0 == (1:Int))
 (k_ (decide (o3 > (0:Int))))
 (k_ false)))
def jl.c6s:Shape:=jl.c3x0
def jl.c6x0:Shape:=⟨[(0,tb25),(1,tb5),(2,tb5),(3,tb12),(6,tb5),(7,tb7),(61,tb7)],[(3,tb26)]⟩
def jl.c6r:Ck:=Ck.of (T:=Bool) jl.c6s (fun ρ x_ k_=>jl.c6 x_.2.1 x_.2.2.2.2.2.1 x_.2.2.2.2.2.2.2.2.1 k_) (fun ρ x_ r_ k_=>k_ 0 (Shape.inj jl.c6x0 (x_.1,x_.2.1,x_.2.2.1,x_.2.2.2.1,x_.2.2.2.2.1,r_,x_.2.2.2.2.2)))
def jl.c8 {ρ:Type} (o0:Int) (o2:List Int) (k_:Bool→Option ρ):Option ρ:=
 br (decide ((↑(List.length o2):Int) > (0:Int)))
 (br (o0 != (2:Int))
 (br (o0 != (3:Int))
 (k_ (o0 != (4:Int)))
 (k_ false))
 (k_ false))
 (k_ false)
def jl.c8s:Shape:=jl.c3x0
def jl.c8x0:Shape:=⟨[(0,tb25),(1,tb5),(2,tb5),(3,tb12),(6,tb5),(7,tb7),(80,tb7)],[(3,tb26)]⟩
def jl.c8r:Ck:=Ck.of (T:=Bool) jl.c8s (fun ρ x_ k_=>jl.c8 x_.2.2.2.2.2.1 x_.2.2.2.2.2.2.2.1 k_) (fun ρ x_ r_ k_=>k_ 0 (Shape.inj jl.c8x0 (x_.1,x_.2.1,x_.2.2.1,x_.2.2.2.1,x_.2.2.2.2.1,r_,x_.2.2.2.2.2)))
def jl.c13 {ρ:Type} (qubits:Int) (i:Int) (o2:List Int) (k_:Bool→Option ρ):Option ρ:=
 bnd (idx o2 i) fun y=>
 br (decide (y < (0:Int)))
 (k_ true)
 (bnd (idx o2 i) fun y_1=>
 k_ (decide (y_1≥qubits)))
def jl.c13s:Shape:=⟨[(0,tb25),(1,tb5),(2,tb5),(3,tb12),(6,tb5),(7,tb7),(8,tb5)],[(3,tb26)]⟩
def jl.c13x0:Shape:=⟨[(0,tb25),(1,tb5),(2,tb5),(3,tb12),(6,tb5),(7,tb7),(8,tb5),(102,tb7)],[(3,tb26)]⟩
def jl.c13r:Ck:=Ck.of (T:=Bool) jl.c13s (fun ρ x_ k_=>jl.c13 x_.2.1 x_.2.2.2.2.2.1 x_.2.2.2.2.2.2.2.2.1 k_) (fun ρ x_ r_ k_=>k_ 0 (Shape.inj jl.c13x0 (x_.1,x_.2.1,x_.2.2.1,x_.2.2.2.1,x_.2.2.2.2.1,x_.2.2.2.2.2.1,r_,x_.2.2.2.2.2.2)))
def jl.c15 {ρ:Type} (i:Int) (o2:List Int) (o3:Int) (k_:Bool→Option ρ):Option ρ:=
 bnd (idx o2 i) fun y=>
 br (y == o3)
 (k_ true)
 (bnd (okIf (decide ((0:Int)≤i) && decide (i≤(↑(List.length o2):Int)))) fun y_1=>
 bnd (idx o2 i) fun y_2=>
 bnd (W.JH (List.take (Int.toNat i) o2) y_2) fun y_3=>
 k_ y_3)
def jl.c15s:Shape:=jl.c13s
def jl.c15x0:Shape:=⟨[(0,tb25),(1,tb5),(2,tb5),(3,tb12),(6,tb5),(7,tb7),(8,tb5),(122,tb7)],[(3,tb26)]⟩
def jl.c15r:Ck:=Ck.of (T:=Bool) jl.c15s (fun ρ x_ k_=>jl.c15 x_.2.2.2.2.2.1 x_.2.2.2.2.2.2.2.2.1 x_.2.2.2.2.2.2.2.2.2.1 k_) (fun ρ x_ r_ k_=>k_ 0 (Shape.inj jl.c15x0 (x_.1,x_.2.1,x_.2.2.1,x_.2.2.2.1,x_.2.2.2.2.1,x_.2.2.2.2.2.1,r_,x_.2.2.2.2.2.2)))
def jl.c100011 {ρ:Type} (qubits:Int) (i:Int) (o2:List Int) (o3:Int) (k_:Int⊕((Int×Int)⊕Int)→Option ρ):Option ρ:=
 br (decide (i < (↑(List.length o2):Int)))
 (bnd (W.jl.c13 qubits i o2 some) fun y=>
 br y
 (k_ (.inr (.inl ((10:Int),i))))
 (bnd (W.jl.c15 i o2 o3 some) fun y_1=>
 br y_1
 (k_ (.inr (.inl ((12:Int),i))))
 (k_ (.inl (IntKind.i64.wrap (i+(1:Int)))))))
 (k_ (.inr (.inr i)))
def jl.c100011s:Shape:=jl.c13s
def jl.c100011x0:Shape:=jl.c13s
def jl.c100011x1:Shape:=jl.c13s
def jl.c100011r:Ck:=Ck.ofLoop (S:=Int) (T:=(Int×Int)⊕Int) jl.c100011s (fun x_=>x_.2.2.2.2.2.1) (fun ρ x_ s_ k_=>jl.c100011 x_.2.1 s_ x_.2.2.2.2.2.2.2.2.1 x_.2.2.2.2.2.2.2.2.2.1 k_) (fun ρ x_ r_ k_=>sel r_ (fun r_=>k_ 1 (Shape.inj jl.c100011x0 (x_.1,x_.2.1,x_.2.2.1,r_.1,x_.2.2.2.2.1,r_.2,x_.2.2.2.2.2.2))) (fun r_=>k_ 2 (Shape.inj jl.c100011x1 (x_.1,x_.2.1,x_.2.2.1,x_.2.2.2.1,x_.2.2.2.2.1,r_,x_.2.2.2.2.2.2))))
def jl.c18 {ρ:Type} (bits:Int) (o4:Int) (k_:Bool→Option ρ):Option ρ:=
 br (decide (o4 < (0:Int)))
 (k_ true)
 (k_ (decide (o4≥bits)))
def jl.c18s:Shape:=jl.c13s
def jl.c18x0:Shape:=⟨[(0,tb25),(1,tb5),(2,tb5),(3,tb12),(6,tb5),(7,tb7),(8,tb5),(134,tb7)],[(3,tb26)]⟩
def jl.c18r:Ck:=Ck.of (T:=Bool) jl.c18s (fun ρ x_ k_=>jl.c18 x_.2.2.1 x_.2.2.2.2.2.2.2.2.2.2.1 k_) (fun ρ x_ r_ k_=>k_ 0 (Shape.inj jl.c18x0 (x_.1,x_.2.1,x_.2.2.1,x_.2.2.2.1,x_.2.2.2.2.1,x_.2.2.2.2.2.1,r_,x_.2.2.2.2.2.2)))
def jl.c269649 {ρ:Type} (bits:Int) (o0:Int) (o4:Int) (k_:(Unit)⊕(Unit)→Option ρ):Option ρ:=
 br (o0 == (5:Int))
 (bnd (W.jl.c18 bits o4 some) fun y=>
 br y
 (k_ (.inl ()))
 (k_ (.inr ())))
 (br (o4 != (0:Int))
 (k_ (.inl ()))
 (k_ (.inr ())))
def jl.c269649s:Shape:=jl.c13s
def jl.c269649x0:Shape:=jl.c13s
def jl.c269649x1:Shape:=jl.c13s
def jl.c269649r:Ck:=Ck.of (T:=(Unit)⊕(Unit)) jl.c269649s (fun ρ x_ k_=>jl.c269649 x_.2.2.1 x_.2.2.2.2.2.2.1 x_.2.2.2.2.2.2.2.2.2.2.1 k_) (fun ρ x_ r_ k_=>sel r_ (fun r_=>k_ 1 (Shape.inj jl.c269649x0 (x_.1,x_.2.1,x_.2.2.1,(13:Int),x_.2.2.2.2))) (fun r_=>k_ 0 (Shape.inj jl.c269649x1 x_)))
def jl.c27 {ρ:Type} (bits:Int) (i_1:Int) (o5:List Int) (k_:Bool→Option ρ):Option ρ:=
 bnd (idx o5 i_1) fun y=>
 br (y == (0:Int))
 (k_ true)
 (bnd (idx o5 i_1) fun y_1=>
 br (decide (y_1 > bits))
 (k_ true)
 (bnd (idx o5 i_1) fun y_2=>
 k_ (decide (y_2 < IntKind.i64.wrap ((0:Int) - bits)))))
def jl.c27s:Shape:=⟨[(0,tb25),(1,tb5),(2,tb5),(3,tb12),(6,tb5),(7,tb7),(8,tb5),(9,tb5)],[(3,tb26)]⟩
def jl.c27x0:Shape:=⟨[(0,tb25),(1,tb5),(2,tb5),(3,tb12),(6,tb5),(7,tb7),(8,tb5),(9,tb5),(173,tb7)],[(3,tb26)]⟩
def jl.c27r:Ck:=Ck.of (T:=Bool) jl.c27s (fun ρ x_ k_=>jl.c27 x_.2.2.1 x_.2.2.2.2.2.2.1 x_.2.2.2.2.2.2.2.2.2.2.2.2.1 k_) (fun ρ x_ r_ k_=>k_ 0 (Shape.inj jl.c27x0 (x_.1,x_.2.1,x_.2.2.1,x_.2.2.2.1,x_.2.2.2.2.1,x_.2.2.2.2.2.1,x_.2.2.2.2.2.2.1,r_,x_.2.2.2.2.2.2.2)))
def jl.c100025 {ρ:Type} (bits:Int) (i_1:Int) (o5:List Int) (k_:Int⊕(Int⊕Int)→Option ρ):Option ρ:=
 br (decide (i_1 < (↑(List.length o5):Int)))
 (bnd (W.jl.c27 bits i_1 o5 some) fun y=>
 br y
 (k_ (.inr (.inl i_1)))
 (k_ (.inl (IntKind.i64.wrap (i_1+(1:Int))))))
 (k_ (.inr (.inr i_1)))
def jl.c100025s:Shape:=jl.c27s
def jl.c100025x0:Shape:=jl.c27s
def jl.c100025x1:Shape:=jl.c27s
def jl.c100025r:Ck:=Ck.ofLoop (S:=Int) (T:=Int⊕Int) jl.c100025s (fun x_=>x_.2.2.2.2.2.2.1) (fun ρ x_ s_ k_=>jl.c100025 x_.2.2.1 s_ x_.2.2.2.2.2.2.2.2.2.2.2.2.1 k_) (fun ρ x_ r_ k_=>sel r_ (fun r_=>k_ 1 (Shape.inj jl.c100025x0 (x_.1,x_.2.1,x_.2.2.1,(14:Int),x_.2.2.2.2.1,x_.2.2.2.2.2.1,r_,x_.2.2.2.2.2.2.2))) (fun r_=>k_ 4 (Shape.inj jl.c100025x1 (x_.1,x_.2.1,x_.2.2.1,x_.2.2.2.1,x_.2.2.2.2.1,x_.2.2.2.2.2.1,r_,x_.2.2.2.2.2.2.2))))
def jl (o:YO) (qubits:Int) (bits:Int):Option Int:=
 bnd (W.jl.c1 o.1 some) fun y=>
 br y
 (some (8:Int))
 (bnd (W.jl.c3 o.1 some) fun y_1=>
 bnd (W.jl.c4 y_1 o.2.1 some) fun y_2=>
 br y_2
 (some (9:Int))
 (bnd (W.jl.c6 qubits o.1 o.2.2.2.1 some) fun y_3=>
 br y_3
 (some (10:Int))
 (bnd (W.jl.c8 o.1 o.2.2.1 some) fun y_4=>
 br y_4
 (some (11:Int))
 (bnd (iter (fun s↦W.jl.c100011 qubits s o.2.2.1 o.2.2.2.1 some) (0:Int)) fun y_5=>
 sel y_5
 (fun u=>some u.1)
 (fun v=>bnd (W.jl.c269649 bits o.1 o.2.2.2.2.1 some) fun y_6=>
 sel y_6
 (fun u_1=>some (13:Int))
 (fun v_1=>br (decide ((↑(List.length o.2.2.2.2.2):Int) > (24:Int)))
 (some (14:Int))
 (bnd (iter (fun s↦W.jl.c100025 bits s o.2.2.2.2.2 some) (0:Int)) fun y_7=>
 sel y_7
 (fun u_2=>some (14:Int))
 (fun v_2=>some (0:Int)))))))))
def jl.ce:Go.Ql.Callee:=⟨[(.st (.pair (.int .i64) (.pair (.int .i64) (.pair (.sl (.int .i64)) (.pair (.int .i64) (.pair (.int .i64) (.sl (.int .i64)))))))),(.int .i64),(.int .i64)],[(.int .i64)],fun x_=>jl x_.1 x_.2.1 x_.2.2⟩
def jl.G:Env:=⟨174,tab,[(89,JH.ce)],[0,1,2,3,6,7,8,9,17,42,61,80,85,102,122,125,134,137,141,146,173],[],[(15,[⟨[],[],[105,108,109],[]⟩,⟨[0],[],[105,108,109],[]⟩,⟨[],[],[103,104,108,109],[]⟩,⟨[1,0,2],[],[108,109],[]⟩,⟨[3,1,0,2],[],[108,109],[]⟩,⟨[],[],[103,104,105,106,107],[]⟩,⟨[5],[],[103,104,105,106,107],[]⟩,⟨[4,3,1,0,2,6,5],[],[],[]⟩,⟨[7,4,3,1,0,2,6,5],[],[],[]⟩,⟨[8,7,4,3,1,0,2,6,5],[],[114,116,117,118,119,120],[]⟩,⟨[9,8,7,4,3,1,0,2,6,5],[],[114,116,117,118,119,120],[]⟩,⟨[8,7,4,3,1,0,2,6,5],[],[112,113,116,117,118,119,120],[]⟩,⟨[10,9,8,7,4,3,1,0,2,6,5,11],[],[116,117,118,119,120],[]⟩,⟨[8,7,4,3,1,0,2,6,5],[],[112,113,114,115,118],[]⟩,⟨[13,8,7,4,3,1,0,2,6,5],[],[112,113,114,115,118],[]⟩,⟨[8,7,4,3,1,0,2,6,5],[],[112,113,114,115,116,117],[]⟩,⟨[14,13,8,7,4,3,1,0,2,6,5,15],[],[112,113,114,115],[]⟩,⟨[16,14,13,8,7,4,3,1,0,2,6,5,15],[],[112,113,114,115],[]⟩,⟨[12,10,9,8,7,4,3,1,0,2,6,5,11,17,16,14,13,15],[],[],[]⟩,⟨[8,7,4,3,1,0,2,6,5,18,12,10,9,11,17,16,14,13,15],[],[],[]⟩])],[(100025,jl.c100025r),(27,jl.c27r),(269649,jl.c269649r),(18,jl.c18r),(100011,jl.c100011r),(15,jl.c15r),(13,jl.c13r),(8,jl.c8r),(6,jl.c6r),(4,jl.c4r),(3,jl.c3r),(1,jl.c1r)],[],jZ⟩
theorem jl.eq (x_:dens jl.ce.params):den jl.G Try.f45 jl.ce.params jl.ce.res x_=jl.ce.F x_:=by kernel_rfl
theorem jl.p0:PcA jl.G Try.f45 0:=
 ju (s:=jl.c1r) (by kernel_rfl) (by kernel_rfl) (jt (sh:=jl.c1s) (fun ρ x_ k_=>(jm jd jd)) (fun ρ x_ t k=>(by kernel_rfl)) (fun x_=>by kernel_rfl))
theorem jl.p1:PcA jl.G Try.f45 1:=
 ju (s:=jl.c3r) (by kernel_rfl) (by kernel_rfl) (jt (sh:=jl.c3s) (fun ρ x_ k_=>(jm jd jd)) (fun ρ x_ t k=>(by kernel_rfl)) (fun x_=>by kernel_rfl))
theorem jl.p2:PcA jl.G Try.f45 2:=
 ju (s:=jl.c4r) (by kernel_rfl) (by kernel_rfl) (jt (sh:=jl.c4s) (fun ρ x_ k_=>(jm jd (jm jd (jm jd jd)))) (fun ρ x_ t k=>(by kernel_rfl)) (fun x_=>by kernel_rfl))
theorem jl.p3:PcA jl.G Try.f45 3:=
 ju (s:=jl.c6r) (by kernel_rfl) (by kernel_rfl) (jt (sh:=jl.c6s) (fun ρ x_ k_=>(jm jd (jm jd (jm jd jd)))) (fun ρ x_ t k=>(by kernel_rfl)) (fun x_=>by kernel_rfl))
theorem jl.p4:PcA jl.G Try.f45 4:=
 ju (s:=jl.c8r) (by kernel_rfl) (by kernel_rfl) (jt (sh:=jl.c8s) (fun ρ x_ k_=>(jm (jm (jm jd jd) jd) jd)) (fun ρ x_ t k=>(by kernel_rfl)) (fun x_=>by kernel_rfl))
theorem jl.p5:PcA jl.G Try.f45 5:=
 Jk (s:=jl.c100011r) (by kernel_rfl) (by kernel_rfl) (Jc (sh:=jl.c100011s) (I:=fun x_ s_=>(x_.1,x_.2.1,x_.2.2.1,x_.2.2.2.1,x_.2.2.2.2.1,s_,x_.2.2.2.2.2.2)) (fun x_=>rfl) (fun ρ x_ s_ k_=>(jm (jc fun _=>(jm jd (jc fun _=>(jm jd jd)))) jd)) (fun ρ x_ t k=>(ka (fun _=>(by kernel_rfl)) (fun _=>(by kernel_rfl)))) (fun x_ s=>by kernel_rfl))
theorem jl.p6:PcA jl.G Try.f45 6:=
 ju (s:=jl.c13r) (by kernel_rfl) (by kernel_rfl) (jt (sh:=jl.c13s) (fun ρ x_ k_=>(jc fun _=>(jm jd (jc fun _=>jd)))) (fun ρ x_ t k=>(by kernel_rfl)) (fun x_=>by kernel_rfl))
theorem jl.p7:PcA jl.G Try.f45 7:=
 ju (s:=jl.c15r) (by kernel_rfl) (by kernel_rfl) (jt (sh:=jl.c15s) (fun ρ x_ k_=>(jc fun _=>(jm jd (jc fun _=>(jc fun _=>(jc fun _=>jd)))))) (fun ρ x_ t k=>(by kernel_rfl)) (fun x_=>by kernel_rfl))
theorem jl.p8:PcA jl.G Try.f45 8:=
 JV (s:=jl.c269649r) (by kernel_rfl) (by kernel_rfl) (jt (sh:=jl.c269649s) (fun ρ x_ k_=>(jm (jc fun _=>(jm jd jd)) (jm jd jd))) (fun ρ x_ t k=>(ka (fun _=>(by kernel_rfl)) (fun _=>(by kernel_rfl)))) (fun x_=>by kernel_rfl))
theorem jl.p9:PcA jl.G Try.f45 9:=
 ju (s:=jl.c18r) (by kernel_rfl) (by kernel_rfl) (jt (sh:=jl.c18s) (fun ρ x_ k_=>(jm jd jd)) (fun ρ x_ t k=>(by kernel_rfl)) (fun x_=>by kernel_rfl))
theorem jl.p10:PcA jl.G Try.f45 10:=
 Jk (s:=jl.c100025r) (by kernel_rfl) (by kernel_rfl) (Jc (sh:=jl.c100025s) (I:=fun x_ s_=>(x_.1,x_.2.1,x_.2.2.1,x_.2.2.2.1,x_.2.2.2.2.1,x_.2.2.2.2.2.1,s_,x_.2.2.2.2.2.2.2)) (fun x_=>rfl) (fun ρ x_ s_ k_=>(jm (jc fun _=>(jm jd jd)) jd)) (fun ρ x_ t k=>(ka (fun _=>(by kernel_rfl)) (fun _=>(by kernel_rfl)))) (fun x_ s=>by kernel_rfl))
theorem jl.p11:PcA jl.G Try.f45 11:=
 ju (s:=jl.c27r) (by kernel_rfl) (by kernel_rfl) (jt (sh:=jl.c27s) (fun ρ x_ k_=>(jc fun _=>(jm jd (jc fun _=>(jm jd (jc fun _=>jd)))))) (fun ρ x_ t k=>(by kernel_rfl)) (fun x_=>by kernel_rfl))
theorem jl.ok:CalleeOk Try.prog 45 jl.ce:=fn_ok (G:=jl.G) Jj mixed Try.func45 ⟨(jx JH.ok Ja),jR,jA⟩ (m:=12) (by kernel_rfl) ⟨⟨⟨⟨⟨⟨⟨⟨⟨⟨⟨⟨trivial,jl.p0⟩,jl.p1⟩,jl.p2⟩,jl.p3⟩,jl.p4⟩,jl.p5⟩,jl.p6⟩,jl.p7⟩,jl.p8⟩,jl.p9⟩,jl.p10⟩,jl.p11⟩ (by kernel_rfl) jl.eq
def jV.c1 {ρ:Type} (c0:Int) (k_:Bool→Option ρ):Option ρ:=
 br (decide (c0 < (1:Int)))
 (k_ true)
 (k_ (decide (c0 > (12:Int))))
def jV.c1s:Shape:=⟨[(0,tb38),(1,tb1),(2,tb2)],[(1,tb34),(2,tb19)]⟩
def jV.c1x0:Shape:=⟨[(0,tb38),(1,tb1),(2,tb2),(12,tb7)],[(1,tb34),(2,tb19)]⟩
def jV.c1r:Ck:=Ck.of (T:=Bool) jV.c1s (fun ρ x_ k_=>jV.c1 x_.2.1 k_) (fun ρ x_ r_ k_=>k_ 0 (Shape.inj jV.c1x0 (x_.1,r_,x_.2)))
def jV.c3 {ρ:Type} (c1:Int) (k_:Bool→Option ρ):Option ρ:=
 br (decide (c1 < (0:Int)))
 (k_ true)
 (k_ (decide (c1 > (12:Int))))
def jV.c3s:Shape:=jV.c1s
def jV.c3x0:Shape:=⟨[(0,tb38),(1,tb1),(2,tb2),(21,tb7)],[(1,tb34),(2,tb19)]⟩
def jV.c3r:Ck:=Ck.of (T:=Bool) jV.c3s (fun ρ x_ k_=>jV.c3 x_.2.2.1 k_) (fun ρ x_ r_ k_=>k_ 0 (Shape.inj jV.c3x0 (x_.1,r_,x_.2)))
def jV.c10 {ρ:Type} (i:Int) (c0:Int) (c1:Int) (c2:List YO) (k_:Int→Option ρ):Option ρ:=
 bnd (idx c2 i) fun y=>
 bnd (W.jl y c0 c1) fun y_1=>
 k_ y_1
def jV.c10s:Shape:=⟨[(0,tb38),(1,tb1),(2,tb2),(3,tb5)],[(1,tb34),(2,tb19)]⟩
def jV.c10x0:Shape:=⟨[(0,tb38),(1,tb1),(2,tb2),(3,tb5),(4,tb5)],[(1,tb34),(2,tb19)]⟩
def jV.c10r:Ck:=Ck.of (T:=Int) jV.c10s (fun ρ x_ k_=>jV.c10 x_.2.1 x_.2.2.1 x_.2.2.2.1 x_.2.2.2.2.1 k_) (fun ρ x_ r_ k_=>k_ 0 (Shape.inj jV.c10x0 (x_.1,x_.2.1,r_,x_.2.2)))
def jV.c100008 {ρ:Type} (i:Int) (c0:Int) (c1:Int) (c2:List YO) (k_:Int⊕((Int×Int×Int)⊕Int)→Option ρ):Option ρ:=
 br (decide (i < (↑(List.length c2):Int)))
 (bnd (W.jV.c10 i c0 c1 c2 some) fun y=>
 br (y != (0:Int))
 (bnd (W.JX y i) fun y_1=>
 k_ (.inr (.inl (i,y_1.1,y_1.2))))
 (k_ (.inl (IntKind.i64.wrap (i+(1:Int))))))
 (k_ (.inr (.inr i)))
def jV.c100008s:Shape:=jV.c10s
def jV.c100008x0:Shape:=jV.c10s
def jV.c100008x1:Shape:=jV.c10s
def jV.c100008r:Ck:=Ck.ofLoop (S:=Int) (T:=(Int×Int×Int)⊕Int) jV.c100008s (fun x_=>x_.2.1) (fun ρ x_ s_ k_=>jV.c100008 s_ x_.2.2.1 x_.2.2.2.1 x_.2.2.2.2.1 k_) (fun ρ x_ r_ k_=>sel r_ (fun r_=>k_ 1 (Shape.inj jV.c100008x0 (x_.1,r_.1,x_.2.2.1,x_.2.2.2.1,x_.2.2.2.2.1,r_.2.1,r_.2.2,()))) (fun r_=>k_ 2 (Shape.inj jV.c100008x1 (x_.1,r_,x_.2.2))))
def jV (c:Int×(Int×(List YO))):Option (Int×Int):=
 bnd (W.jV.c1 c.1 some) fun y=>
 br y
 (bnd (W.JX (6:Int) (0:Int)) fun y_1=>
 some (y_1.1,y_1.2))
 (bnd (W.jV.c3 c.2.1 some) fun y_2=>
 br y_2
 (bnd (W.JX (7:Int) (0:Int)) fun y_3=>
 some (y_3.1,y_3.2))
 (br (decide ((↑(List.length c.2.2):Int) > (4096:Int)))
 (bnd (W.JX (2:Int) (0:Int)) fun y_4=>
 some (y_4.1,y_4.2))
 (bnd (iter (fun s↦W.jV.c100008 s c.1 c.2.1 c.2.2 some) (0:Int)) fun y_5=>
 sel y_5
 (fun u=>some (u.2.1,u.2.2))
 (fun v=>some ((0:Int),(0:Int))))))
def jV.ce:Go.Ql.Callee:=⟨[(.st (.pair (.int .i64) (.pair (.int .i64) (.sl (.st (.pair (.int .i64) (.pair (.int .i64) (.pair (.sl (.int .i64)) (.pair (.int .i64) (.pair (.int .i64) (.sl (.int .i64))))))))))))],[(.st (.pair (.int .i64) (.int .i64)))],fun x_=>jV x_⟩
def jV.G:Env:=⟨51,tab,[(44,JX.ce),(45,jl.ce)],[0,1,2,3,4,12,21,26,32,46],[],[(10,[⟨[],[],[37,40,41,42,43],[]⟩,⟨[0],[],[37,40,41,42,43],[]⟩,⟨[],[],[35,36,40,41,42,43],[]⟩,⟨[1,0,2],[],[40,41,42,43],[]⟩,⟨[3,1,0,2],[],[40,41,42,43],[]⟩,⟨[],[],[35,36,37,38,39,42,43],[]⟩,⟨[5],[],[35,36,37,38,39,42,43],[]⟩,⟨[],[],[35,36,37,38,39,40,41],[]⟩,⟨[7],[],[35,36,37,38,39,40,41],[]⟩,⟨[4,3,1,0,2,6,5,8,7],[],[],[]⟩,⟨[9,4,3,1,0,2,6,5,8,7],[],[],[]⟩])],[(100008,jV.c100008r),(10,jV.c10r),(3,jV.c3r),(1,jV.c1r)],[],jZ⟩
theorem jV.eq (x_:dens jV.ce.params):den jV.G Try.f13 jV.ce.params jV.ce.res x_=jV.ce.F x_:=by kernel_rfl
theorem jV.p0:PcA jV.G Try.f13 0:=
 ju (s:=jV.c1r) (by kernel_rfl) (by kernel_rfl) (jt (sh:=jV.c1s) (fun ρ x_ k_=>(jm jd jd)) (fun ρ x_ t k=>(by kernel_rfl)) (fun x_=>by kernel_rfl))
theorem jV.p1:PcA jV.G Try.f13 1:=
 ju (s:=jV.c3r) (by kernel_rfl) (by kernel_rfl) (jt (sh:=jV.c3s) (fun ρ x_ k_=>(jm jd jd)) (fun ρ x_ t k=>(by kernel_rfl)) (fun x_=>by kernel_rfl))
theorem jV.p2:PcA jV.G Try.f13 2:=
 Jk (s:=jV.c100008r) (by kernel_rfl) (by kernel_rfl) (Jc (sh:=jV.c100008s) (I:=fun x_ s_=>(x_.1,s_,x_.2.2)) (fun x_=>rfl) (fun ρ x_ s_ k_=>(jm (jc fun _=>(jm (jc fun _=>jd) jd)) jd)) (fun ρ x_ t k=>(ka (fun _=>(by kernel_rfl)) (fun _=>(by kernel_rfl)))) (fun x_ s=>by kernel_rfl))
theorem jV.p3:PcA jV.G Try.f13 3:=
 ju (s:=jV.c10r) (by kernel_rfl) (by kernel_rfl) (jt (sh:=jV.c10s) (fun ρ x_ k_=>(jc fun _=>(jc fun _=>jd))) (fun ρ x_ t k=>(by kernel_rfl)) (fun x_=>by kernel_rfl))
theorem jV.ok:CalleeOk Try.prog 13 jV.ce:=fn_ok (G:=jV.G) Jj mixed Try.func13 ⟨(jx JX.ok (jx jl.ok Ja)),jR,jA⟩ (m:=4) (by kernel_rfl) ⟨⟨⟨⟨trivial,jV.p0⟩,jV.p1⟩,jV.p2⟩,jV.p3⟩ (by kernel_rfl) jV.eq
def JC.c6 {ρ:Type} (o1:Int) (o2:List Int) (k_:Bool→Option ρ):Option ρ:=
 br ((↑(List.length o2):Int) == (0:Int))
 (br (Int.tmod o1 (4:Int) == (0:Int))
 (k_ true)
 (br ((↑(List.length o2):Int) == (1:Int))
 (k_ (Int.tmod o1 (8:Int) == (0:Int)))
 (k_ false)))
 (br ((↑(List.length o2):Int) == (1:Int))
 (k_ (Int.tmod o1 (8:Int) == (0:Int)))
 (k_ false))
def JC.c6s:Shape:=⟨[(0,tb25),(1,tb1),(2,tb7)],[(1,tb26)]⟩
def JC.c6x0:Shape:=JC.c6s
def JC.c6r:Ck:=Ck.of (T:=Bool) JC.c6s (fun ρ x_ k_=>JC.c6 x_.2.2.2.1 x_.2.2.2.2.1 k_) (fun ρ x_ r_ k_=>k_ 0 (Shape.inj JC.c6x0 (x_.1,r_,x_.2.2)))
def JC (o:YO):Option Bool:=
 br (o.1 == (2:Int))
 (some (decide ((↑(List.length o.2.2.1):Int)≤(1:Int))))
 (br (o.1 == (3:Int))
 (some ((↑(List.length o.2.2.1):Int) == (0:Int)))
 (br (o.1 == (4:Int))
 (bnd (W.JC.c6 o.2.1 o.2.2.1 some) fun y=>
 some y)
 (some true)))
def JC.ce:Go.Ql.Callee:=⟨[(.st (.pair (.int .i64) (.pair (.int .i64) (.pair (.sl (.int .i64)) (.pair (.int .i64) (.pair (.int .i64) (.sl (.int .i64))))))))],[.bool],fun x_=>JC x_⟩
def JC.G:Env:=⟨42,tab,[],[0,1,2,5,12,19],[],[],[(6,JC.c6r)],[],jZ⟩
theorem JC.eq (x_:dens JC.ce.params):den JC.G Try.f58 JC.ce.params JC.ce.res x_=JC.ce.F x_:=by kernel_rfl
theorem JC.p0:PcA JC.G Try.f58 0:=
 ju (s:=JC.c6r) (by kernel_rfl) (by kernel_rfl) (jt (sh:=JC.c6s) (fun ρ x_ k_=>(jm (jm jd (jm jd jd)) (jm jd jd))) (fun ρ x_ t k=>(by kernel_rfl)) (fun x_=>by kernel_rfl))
theorem JC.ok:CalleeOk Try.prog 58 JC.ce:=fn_ok (G:=JC.G) Jj mixed Try.func58 ⟨Ja,jR,jA⟩ (m:=1) (by kernel_rfl) ⟨trivial,JC.p0⟩ (by kernel_rfl) JC.eq
def Jh.c100002 {ρ:Type} (i:Int) (c2:List YO) (k_:Int⊕((Int×Int×Int)⊕Int)→Option ρ):Option ρ:=
 br (decide (i < (↑(List.length c2):Int)))
 (bnd (idx c2 i) fun y=>
 bnd (W.JC y) fun y_1=>
 br (!y_1)
 (bnd (W.JX (41:Int) i) fun y_2=>
 k_ (.inr (.inl (i,y_2.1,y_2.2))))
 (k_ (.inl (IntKind.i64.wrap (i+(1:Int))))))
 (k_ (.inr (.inr i)))
def Jh.c100002s:Shape:=⟨[(0,tb38),(1,tb1),(2,tb2),(3,tb5)],[(1,tb34),(2,tb19)]⟩
def Jh.c100002x0:Shape:=Jh.c100002s
def Jh.c100002x1:Shape:=Jh.c100002s
def Jh.c100002r:Ck:=Ck.ofLoop (S:=Int) (T:=(Int×Int×Int)⊕Int) Jh.c100002s (fun x_=>x_.2.1) (fun ρ x_ s_ k_=>Jh.c100002 s_ x_.2.2.2.2.1 k_) (fun ρ x_ r_ k_=>sel r_ (fun r_=>k_ 1 (Shape.inj Jh.c100002x0 (x_.1,r_.1,x_.2.2.1,x_.2.2.2.1,x_.2.2.2.2.1,r_.2.1,r_.2.2,()))) (fun r_=>k_ 2 (Shape.inj Jh.c100002x1 (x_.1,r_,x_.2.2))))
def Jh (c:Int×(Int×(List YO))):Option (Int×Int):=
 bnd (iter (fun s↦W.Jh.c100002 s c.2.2 some) (0:Int)) fun y=>
 sel y
 (fun u=>some (u.2.1,u.2.2))
 (fun v=>some ((0:Int),(0:Int)))
def Jh.ce:Go.Ql.Callee:=⟨[(.st (.pair (.int .i64) (.pair (.int .i64) (.sl (.st (.pair (.int .i64) (.pair (.int .i64) (.pair (.sl (.int .i64)) (.pair (.int .i64) (.pair (.int .i64) (.sl (.int .i64))))))))))))],[(.st (.pair (.int .i64) (.int .i64)))],fun x_=>Jh x_⟩
def Jh.G:Env:=⟨21,tab,[(58,JC.ce),(44,JX.ce)],[0,1,2,3,8,17],[],[],[(100002,Jh.c100002r)],[],jZ⟩
theorem Jh.eq (x_:dens Jh.ce.params):den Jh.G Try.f22 Jh.ce.params Jh.ce.res x_=Jh.ce.F x_:=by kernel_rfl
theorem Jh.p0:PcA Jh.G Try.f22 0:=
 Jk (s:=Jh.c100002r) (by kernel_rfl) (by kernel_rfl) (Jc (sh:=Jh.c100002s) (I:=fun x_ s_=>(x_.1,s_,x_.2.2)) (fun x_=>rfl) (fun ρ x_ s_ k_=>(jm (jc fun _=>(jc fun _=>(jm (jc fun _=>jd) jd))) jd)) (fun ρ x_ t k=>(ka (fun _=>(by kernel_rfl)) (fun _=>(by kernel_rfl)))) (fun x_ s=>by kernel_rfl))
theorem Jh.ok:CalleeOk Try.prog 22 Jh.ce:=fn_ok (G:=Jh.G) Jj mixed Try.func22 ⟨(jx JC.ok (jx JX.ok Ja)),jR,jA⟩ (m:=1) (by kernel_rfl) ⟨trivial,Jh.p0⟩ (by kernel_rfl) Jh.eq
def Ji.c7 {ρ:Type} (o1:Int) (o2:List Int) (k_:Bool→Option ρ):Option ρ:=
 br ((↑(List.length o2):Int) == (0:Int))
 (br (Int.tmod o1 (4:Int) == (0:Int))
 (k_ true)
 (br ((↑(List.length o2):Int) == (1:Int))
 (k_ (Int.tmod o1 (8:Int) == (0:Int)))
 (k_ false)))
 (br ((↑(List.length o2):Int) == (1:Int))
 (k_ (Int.tmod o1 (8:Int) == (0:Int)))
 (k_ false))
def Ji.c7s:Shape:=⟨[(0,tb25),(1,tb1),(2,tb7),(4,tb5)],[(1,tb26)]⟩
def Ji.c7x0:Shape:=Ji.c7s
def Ji.c7r:Ck:=Ck.of (T:=Bool) Ji.c7s (fun ρ x_ k_=>Ji.c7 x_.2.2.2.2.1 x_.2.2.2.2.2.1 k_) (fun ρ x_ r_ k_=>k_ 0 (Shape.inj Ji.c7x0 (x_.1,r_,x_.2.2)))
def Ji (o:YO):Option Bool:=
 br (o.1 == (2:Int))
 (some (decide ((↑(List.length o.2.2.1):Int) < (2:Int))))
 (br (o.1 == (3:Int))
 (some ((↑(List.length o.2.2.1):Int) == (0:Int)))
 (br (o.1 == (4:Int))
 (bnd (W.Ji.c7 o.2.1 o.2.2.1 some) fun y=>
 some y)
 (some true)))
def Ji.ce:Go.Ql.Callee:=⟨[(.st (.pair (.int .i64) (.pair (.int .i64) (.pair (.sl (.int .i64)) (.pair (.int .i64) (.pair (.int .i64) (.sl (.int .i64))))))))],[.bool],fun x_=>Ji x_⟩
def Ji.G:Env:=⟨41,tab,[],[0,1,2,4,5,11,17],[],[],[(7,Ji.c7r)],[],jZ⟩
theorem Ji.eq (x_:dens Ji.ce.params):den Ji.G Try.f82 Ji.ce.params Ji.ce.res x_=Ji.ce.F x_:=by kernel_rfl
theorem Ji.p0:PcA Ji.G Try.f82 0:=
 ju (s:=Ji.c7r) (by kernel_rfl) (by kernel_rfl) (jt (sh:=Ji.c7s) (fun ρ x_ k_=>(jm (jm jd (jm jd jd)) (jm jd jd))) (fun ρ x_ t k=>(by kernel_rfl)) (fun x_=>by kernel_rfl))
theorem Ji.ok:CalleeOk Try.prog 82 Ji.ce:=fn_ok (G:=Ji.G) Jj mixed Try.func82 ⟨Ja,jR,jA⟩ (m:=1) (by kernel_rfl) ⟨trivial,Ji.p0⟩ (by kernel_rfl) Ji.eq
def jU.c100002 {ρ:Type} (t6:List YO) (t7:Int) (t8:Int) (k_:Int⊕((Int×Int)⊕Int)→Option ρ):Option ρ:=
 br (decide (t8 < t7))
 (bnd (idx t6 t8) fun y=>
 bnd (W.Ji (y.1,y.2.1,y.2.2.1,y.2.2.2.1,y.2.2.2.2.1,y.2.2.2.2.2)) fun y_1=>
 br (!y_1)
 (k_ (.inr (.inl (t8,t8))))
 (k_ (.inl (IntKind.i64.wrap (t8+(1:Int))))))
 (k_ (.inr (.inr t8)))
def jU.c100002s:Shape:=⟨[(0,tb38),(1,tb1),(2,tb2),(6,tb31),(7,tb5),(8,tb5)],[(1,tb34),(2,tb19)]⟩
def jU.c100002x0:Shape:=jU.c100002s
def jU.c100002x1:Shape:=jU.c100002s
def jU.c100002r:Ck:=Ck.ofLoop (S:=Int) (T:=(Int×Int)⊕Int) jU.c100002s (fun x_=>x_.2.2.2.1) (fun ρ x_ s_ k_=>jU.c100002 x_.2.1 x_.2.2.1 s_ k_) (fun ρ x_ r_ k_=>sel r_ (fun r_=>k_ 1 (Shape.inj jU.c100002x0 (x_.1,x_.2.1,x_.2.2.1,r_.1,x_.2.2.2.2.1,x_.2.2.2.2.2.1,x_.2.2.2.2.2.2.1,(41:Int),r_.2,()))) (fun r_=>k_ 2 (Shape.inj jU.c100002x1 (x_.1,x_.2.1,x_.2.2.1,r_,x_.2.2.2.2))))
def jU (c:Int×(Int×(List YO))):Option (Int×Int):=
 bnd (iter (fun s↦W.jU.c100002 c.2.2 (↑(List.length c.2.2):Int) s some) (0:Int)) fun y=>
 sel y
 (fun u=>some ((41:Int),u.2))
 (fun v=>some ((0:Int),(0:Int)))
def jU.ce:Go.Ql.Callee:=⟨[(.st (.pair (.int .i64) (.pair (.int .i64) (.sl (.st (.pair (.int .i64) (.pair (.int .i64) (.pair (.sl (.int .i64)) (.pair (.int .i64) (.pair (.int .i64) (.sl (.int .i64))))))))))))],[(.st (.pair (.int .i64) (.int .i64)))],fun x_=>jU x_⟩
def jU.G:Env:=⟨20,tab,[(82,Ji.ce)],[0,1,2,3,4,6,7,8,9,15],[],[],[(100002,jU.c100002r)],[],jZ⟩
theorem jU.eq (x_:dens jU.ce.params):den jU.G Try.f37 jU.ce.params jU.ce.res x_=jU.ce.F x_:=by kernel_rfl
theorem jU.p0:PcA jU.G Try.f37 0:=
 Jk (s:=jU.c100002r) (by kernel_rfl) (by kernel_rfl) (Jc (sh:=jU.c100002s) (I:=fun x_ s_=>(x_.1,x_.2.1,x_.2.2.1,s_,x_.2.2.2.2)) (fun x_=>rfl) (fun ρ x_ s_ k_=>(jm (jc fun _=>(jc fun _=>(jm jd jd))) jd)) (fun ρ x_ t k=>(ka (fun _=>(by kernel_rfl)) (fun _=>(by kernel_rfl)))) (fun x_ s=>by kernel_rfl))
theorem jU.ok:CalleeOk Try.prog 37 jU.ce:=fn_ok (G:=jU.G) Jj mixed Try.func37 ⟨(jx Ji.ok Ja),jR,jA⟩ (m:=1) (by kernel_rfl) ⟨trivial,jU.p0⟩ (by kernel_rfl) jU.eq
abbrev tb74:SD:=.one (.ref 12 0)
def Jx.c100003 {ρ:Type} (l:List Int) (i:Int) (out:List Int) (k_:(Int×(List Int))⊕(Int×(List Int))→Option ρ):Option ρ:=
 br (decide (i < (↑(List.length l):Int)))
 (bnd (idx l i) fun y=>
 bnd (okIf (decide ((List.length out+(1:Nat))*(8:Nat)≤(140737488355328:Nat)) && decide (List.length out+(1:Nat)≤(140737488355328:Nat)))) fun y_1=>
 k_ (.inl ((IntKind.i64.wrap (i+(1:Int))),(out++[y]))))
 (k_ (.inr (i,out)))
def Jx.c100003s:Shape:=⟨[(0,tb36),(2,tb36),(3,tb46),(4,tb5)],[(3,tb50)]⟩
def Jx.c100003x0:Shape:=Jx.c100003s
def Jx.c100003r:Ck:=Ck.ofLoop (S:=Int×(List Int)) (T:=Int×(List Int)) Jx.c100003s (fun x_=>(x_.2.2.1,x_.2.2.2.1)) (fun ρ x_ s_ k_=>Jx.c100003 x_.1 s_.1 s_.2 k_) (fun ρ x_ r_ k_=>k_ 2 (Shape.inj Jx.c100003x0 (x_.1,x_.2.1,r_.1,r_.2,())))
def Jx (l:List Int):Option (List Int):=
 bnd (iter (fun s↦W.Jx.c100003 l s.1 s.2 some) ((0:Int),[])) fun y=>
 some y.2
def Jx.ce:Go.Ql.Callee:=⟨[(.sl (.int .i64))],[(.sl (.int .i64))],fun x_=>Jx x_⟩
def Jx.G:Env:=⟨19,tab,[],[0,2,3,4,8],[3],[],[(100003,Jx.c100003r)],[],jZ⟩
theorem Jx.eq (x_:dens Jx.ce.params):den Jx.G Try.f79 Jx.ce.params Jx.ce.res x_=Jx.ce.F x_:=by kernel_rfl
theorem Jx.p0:PcA Jx.G Try.f79 0:=
 Jk (s:=Jx.c100003r) (by kernel_rfl) (by kernel_rfl) (Jc (sh:=Jx.c100003s) (I:=fun x_ s_=>(x_.1,x_.2.1,s_.1,s_.2,())) (fun x_=>rfl) (fun ρ x_ s_ k_=>(jm (jc fun _=>(jc fun _=>jd)) jd)) (fun ρ x_ t k=>(by kernel_rfl)) (fun x_ s=>by kernel_rfl))
theorem Jx.ok:CalleeOk Try.prog 79 Jx.ce:=fn_ok (G:=Jx.G) Jj mixed Try.func79 ⟨Ja,jR,jA⟩ (m:=1) (by kernel_rfl) ⟨trivial,Jx.p0⟩ (by kernel_rfl) Jx.eq
def kG (o:YO):Option YO:=
 bnd (W.Jx o.2.2.1) fun y=>
 bnd (W.Jx o.2.2.2.2.2) fun y_1=>
 some (o.1,o.2.1,y,o.2.2.2.1,o.2.2.2.2.1,y_1)
def kG.ce:Go.Ql.Callee:=⟨[(.st (.pair (.int .i64) (.pair (.int .i64) (.pair (.sl (.int .i64)) (.pair (.int .i64) (.pair (.int .i64) (.sl (.int .i64))))))))],[(.st (.pair (.int .i64) (.pair (.int .i64) (.pair (.sl (.int .i64)) (.pair (.int .i64) (.pair (.int .i64) (.sl (.int .i64))))))))],fun x_=>kG x_⟩
def kG.G:Env:=⟨12,tab,[(79,Jx.ce)],[0,1,2],[],[],[],[],jZ⟩
theorem kG.eq (x_:dens kG.ce.params):den kG.G Try.f34 kG.ce.params kG.ce.res x_=kG.ce.F x_:=by kernel_rfl
theorem kG.ok:CalleeOk Try.prog 34 kG.ce:=fn_ok (G:=kG.G) Jj mixed Try.func34 ⟨(jx Jx.ok Ja),jR,jA⟩ (m:=0) (by kernel_rfl) trivial (by kernel_rfl) kG.eq
abbrev tb75:SO:=.box [.val (.int .i64),.val (.int .i64),.own 3003 0]
def jM.c5 {ρ:Type} (i:Int) (c2:List YO) (t3003:List YO) (k_:List YO→Option ρ):Option ρ:=
 bnd (idx c2 i) fun y=>
 bnd (W.kG y) fun y_1=>
 bnd (okIf (decide ((List.length t3003+(1:Nat))*(80:Nat)≤(140737488355328:Nat)) && decide (List.length t3003+(1:Nat)≤(140737488355328:Nat)))) fun y_2=>
 k_ (t3003++[y_1])
def jM.c5s:Shape:=⟨[(0,tb38),(1,tb1),(2,tb2),(3,tb12),(4,tb5)],[(1,tb34),(2,tb34),(3,tb75),(3003,tb30)]⟩
def jM.c5x0:Shape:=jM.c5s
def jM.c5r:Ck:=Ck.of (T:=List YO) jM.c5s (fun ρ x_ k_=>jM.c5 x_.2.1 x_.2.2.2.2.1 x_.2.2.2.2.2.2.2.2.2.2.1 k_) (fun ρ x_ r_ k_=>k_ 0 (Shape.inj jM.c5x0 (x_.1,x_.2.1,x_.2.2.1,x_.2.2.2.1,x_.2.2.2.2.1,x_.2.2.2.2.2.1,x_.2.2.2.2.2.2.1,x_.2.2.2.2.2.2.2.1,x_.2.2.2.2.2.2.2.2.1,x_.2.2.2.2.2.2.2.2.2.1,r_,())))
def jM.c100003 {ρ:Type} (i:Int) (c2:List YO) (t3003:List YO) (k_:(Int×(List YO))⊕(Int×(List YO))→Option ρ):Option ρ:=
 br (decide (i < (↑(List.length c2):Int)))
 (bnd (W.jM.c5 i c2 t3003 some) fun y=>
 k_ (.inl ((IntKind.i64.wrap (i+(1:Int))),y)))
 (k_ (.inr (i,t3003)))
def jM.c100003s:Shape:=jM.c5s
def jM.c100003x0:Shape:=jM.c5s
def jM.c100003r:Ck:=Ck.ofLoop (S:=Int×(List YO)) (T:=Int×(List YO)) jM.c100003s (fun x_=>(x_.2.1,x_.2.2.2.2.2.2.2.2.2.2.1)) (fun ρ x_ s_ k_=>jM.c100003 s_.1 x_.2.2.2.2.1 s_.2 k_) (fun ρ x_ r_ k_=>k_ 2 (Shape.inj jM.c100003x0 (x_.1,r_.1,x_.2.2.1,x_.2.2.2.1,x_.2.2.2.2.1,x_.2.2.2.2.2.1,x_.2.2.2.2.2.2.1,x_.2.2.2.2.2.2.2.1,x_.2.2.2.2.2.2.2.2.1,x_.2.2.2.2.2.2.2.2.2.1,r_.2,())))
def jM (c:Int×(Int×(List YO))):Option (Int×(Int×(List YO))):=
 bnd (iter (fun s↦W.jM.c100003 s.1 c.2.2 s.2 some) ((0:Int),[])) fun y=>
 some (c.1,c.2.1,y.2)
def jM.ce:Go.Ql.Callee:=⟨[(.st (.pair (.int .i64) (.pair (.int .i64) (.sl (.st (.pair (.int .i64) (.pair (.int .i64) (.pair (.sl (.int .i64)) (.pair (.int .i64) (.pair (.int .i64) (.sl (.int .i64))))))))))))],[(.st (.pair (.int .i64) (.pair (.int .i64) (.sl (.st (.pair (.int .i64) (.pair (.int .i64) (.pair (.sl (.int .i64)) (.pair (.int .i64) (.pair (.int .i64) (.sl (.int .i64))))))))))))],fun x_=>jM x_⟩
def jM.G:Env:=⟨29,tab,[(34,kG.ce)],[0,1,2,3,4,14],[1,3,9,3001,3003],[(5,[⟨[],[],[19,20,21,22,23,24,25],[25]⟩,⟨[0],[],[19,20,21,22,23,24,25],[25]⟩,⟨[],[],[17,18,21],[]⟩,⟨[2],[],[17,18,21],[]⟩,⟨[],[],[17,18,19,20],[]⟩,⟨[3,2,4],[],[17,18],[]⟩,⟨[5,3,2,4],[],[17,18],[]⟩,⟨[6,5,3,2,4],[],[17,18],[]⟩,⟨[7,6,5,3,2,4],[25],[17,18],[]⟩,⟨[1,0,8,7,6,5,3,2,4],[3003],[],[]⟩,⟨[0,1,2,3,4,5,6,7,8,9],[],[],[]⟩,⟨[10,0,1,2,3,4,5,6,7,8,9],[3],[],[]⟩])],[(100003,jM.c100003r),(5,jM.c5r)],[],jZ⟩
theorem jM.eq (x_:dens jM.ce.params):den jM.G Try.f8 jM.ce.params jM.ce.res x_=jM.ce.F x_:=by kernel_rfl
theorem jM.p0:PcA jM.G Try.f8 0:=
 Jk (s:=jM.c100003r) (by kernel_rfl) (by kernel_rfl) (Jc (sh:=jM.c100003s) (I:=fun x_ s_=>(x_.1,s_.1,x_.2.2.1,x_.2.2.2.1,x_.2.2.2.2.1,x_.2.2.2.2.2.1,x_.2.2.2.2.2.2.1,x_.2.2.2.2.2.2.2.1,x_.2.2.2.2.2.2.2.2.1,x_.2.2.2.2.2.2.2.2.2.1,s_.2,())) (fun x_=>rfl) (fun ρ x_ s_ k_=>(jm (jc fun _=>jd) jd)) (fun ρ x_ t k=>(by kernel_rfl)) (fun x_ s=>by kernel_rfl))
theorem jM.p1:PcA jM.G Try.f8 1:=
 ju (s:=jM.c5r) (by kernel_rfl) (by kernel_rfl) (jt (sh:=jM.c5s) (fun ρ x_ k_=>(jc fun _=>(jc fun _=>(jc fun _=>jd)))) (fun ρ x_ t k=>(by kernel_rfl)) (fun x_=>by kernel_rfl))
theorem jM.ok:CalleeOk Try.prog 8 jM.ce:=fn_ok (G:=jM.G) Jj mixed Try.func8 ⟨(jx kG.ok Ja),jR,jA⟩ (m:=2) (by kernel_rfl) ⟨⟨trivial,jM.p0⟩,jM.p1⟩ (by kernel_rfl) jM.eq
abbrev tb76:SD:=.one (.ref 0 0)
abbrev tb77:SO:=.box [.val (.int .i64),.own 1 0,.own 2 0]
abbrev tb78:SD:=.one (.val (.nilv 0))
abbrev tb79:SD:=.one (.ref 9 0)
abbrev tb80:SO:=.box [.val (.int .i64),.own 2009 0,.own 3009 0]
def jw.pre:Shape:=⟨[(0,tb5),(1,tb5)],[]⟩
def jw.post:Shape:=⟨[(0,tb76)],[(0,tb77),(1,tb22),(2,tb22)]⟩
def jw.c5 {ρ:Type} (t1:Int) (q:Int) (t2009:List YP) (k_:Unit→Option ρ):Option ρ:=
 bnd (okIf (decide ((0:Int)≤q))) fun y=>
 bnd (okIf (decide ((0:Int)≤q))) fun y_1=>
 bnd (okIf (decide ((List.length t2009+(1:Nat))*(24:Nat)≤(140737488355328:Nat)) && decide (List.length t2009+(1:Nat)≤(140737488355328:Nat)))) fun y_2=>
 k_ ()
def jw.c5s:Shape:=⟨[(0,tb5),(1,tb5),(4,tb78),(5,tb79),(6,tb5),(10,tb5),(11,tb5)],[(9,tb80),(2009,tb22),(3009,tb22)]⟩
def jw.c5x0:Shape:=jw.c5s
def jw.c5r:Ck:=Ck.of (T:=Unit) jw.c5s (fun ρ x_ k_=>jw.c5 x_.2.1 x_.2.2.2.1 x_.2.2.2.2.2.2.2.1 k_) (fun ρ x_ r_ k_=>k_ 0 (Shape.inj jw.c5x0 (x_.1,x_.2.1,x_.2.2.1,x_.2.2.2.1,x_.2.2.2.2.1,x_.2.2.2.2.2.1,x_.2.2.2.2.2.2.1,(x_.2.2.2.2.2.2.2.1++[((0:Int),IntKind.u64.wrap ((1:Int)*(2:Int) ^ Min.min (Int.toNat x_.2.2.2.1) (64:Nat)),ibits BinOp.and IntKind.i64 (Int.fdiv x_.2.1 ((2:Int) ^ Min.min (Int.toNat x_.2.2.2.1) (64:Nat))) (1:Int) == (1:Int))]),x_.2.2.2.2.2.2.2.2)))
def jw.c6 {ρ:Type} (q:Int) (t3009:List YP) (k_:Unit→Option ρ):Option ρ:=
 bnd (okIf (decide ((0:Int)≤q))) fun y=>
 bnd (okIf (decide ((List.length t3009+(1:Nat))*(24:Nat)≤(140737488355328:Nat)) && decide (List.length t3009+(1:Nat)≤(140737488355328:Nat)))) fun y_1=>
 k_ ()
def jw.c6s:Shape:=jw.c5s
def jw.c6x0:Shape:=jw.c5s
def jw.c6r:Ck:=Ck.of (T:=Unit) jw.c6s (fun ρ x_ k_=>jw.c6 x_.2.2.2.1 x_.2.2.2.2.2.2.2.2.1 k_) (fun ρ x_ r_ k_=>k_ 0 (Shape.inj jw.c6x0 (x_.1,x_.2.1,x_.2.2.1,x_.2.2.2.1,x_.2.2.2.2.1,x_.2.2.2.2.2.1,x_.2.2.2.2.2.2.1,x_.2.2.2.2.2.2.2.1,(x_.2.2.2.2.2.2.2.2.1++[(IntKind.u64.wrap ((1:Int)*(2:Int) ^ Min.min (Int.toNat x_.2.2.2.1) (64:Nat)),(0:Int),false)]),())))
def jw.c100003 {ρ:Type} (t1:Int) (t10:Int) (t11:Int) (t2009:List YP) (t3009:List YP) (k_:(Int×(List YP)×(List YP))⊕(Int×(List YP)×(List YP))→Option ρ):Option ρ:=
 br (decide (t11 < t10))
 (bnd (W.jw.c5 t1 t11 t2009 some) fun y=>
 bnd (W.jw.c6 t11 t3009 some) fun y_1=>
 k_ (.inl ((IntKind.i64.wrap (t11+(1:Int))),(t2009++[((0:Int),IntKind.u64.wrap ((1:Int)*(2:Int) ^ Min.min (Int.toNat t11) (64:Nat)),ibits BinOp.and IntKind.i64 (Int.fdiv t1 ((2:Int) ^ Min.min (Int.toNat t11) (64:Nat))) (1:Int) == (1:Int))]),(t3009++[(IntKind.u64.wrap ((1:Int)*(2:Int) ^ Min.min (Int.toNat t11) (64:Nat)),(0:Int),false)]))))
 (k_ (.inr (t11,t2009,t3009)))
def jw.c100003s:Shape:=⟨[(0,tb5),(1,tb5),(4,tb78),(5,tb79),(10,tb5),(11,tb5)],[(9,tb80),(2009,tb22),(3009,tb22)]⟩
def jw.c100003x0:Shape:=jw.c100003s
def jw.c100003r:Ck:=Ck.ofLoop (S:=Int×(List YP)×(List YP)) (T:=Int×(List YP)×(List YP)) jw.c100003s (fun x_=>(x_.2.2.2.2.1,x_.2.2.2.2.2.2.1,x_.2.2.2.2.2.2.2.1)) (fun ρ x_ s_ k_=>jw.c100003 x_.2.1 x_.2.2.2.1 s_.1 s_.2.1 s_.2.2 k_) (fun ρ x_ r_ k_=>k_ 2 (Shape.inj jw.c100003x0 (x_.1,x_.2.1,x_.2.2.1,x_.2.2.2.1,r_.1,x_.2.2.2.2.2.1,r_.2.1,r_.2.2,())))
def jw (n:Int) (t1:Int):Option (Int×(List YP)×(List YP)×Unit):=
 bnd (iter (fun s↦W.jw.c100003 t1 n s.1 s.2.1 s.2.2 some) ((0:Int),[],[])) fun y=>
 some (n,y.2.1,y.2.2,())
def jw.mc:MCallee:=⟨38,jw.pre,jw.post,fun x_=>jw x_.1 x_.2.1⟩
def jw.G:Env:=⟨45,tab,[],[0,1,4,5,6,10,11,12],[8,9,2009,3009],[(6,[⟨[],[],[32,33,34,35,36,37,38,39,40],[39,3009]⟩,⟨[],[],[31,36,37,38,39],[39]⟩,⟨[1],[],[31,36,37,38,39],[39]⟩,⟨[2,1],[],[31,36,37,38,39],[39]⟩,⟨[3,2,1],[],[31,36,37,38,39],[39]⟩,⟨[],[],[31,32,33,34,35],[]⟩,⟨[5],[],[31,32,33,34,35],[]⟩,⟨[6,5],[],[31,32,33,34,35],[]⟩,⟨[7,6,5],[39],[31,32,33,34,35],[]⟩,⟨[4,3,2,1,8,7,6,5],[3009],[31],[]⟩,⟨[0,1,2,3,4,5,6,7,8,9],[],[],[]⟩,⟨[10,0,1,2,3,4,5,6,7,8,9],[],[],[]⟩,⟨[11,10,0,1,2,3,4,5,6,7,8,9],[9],[],[]⟩]),
 (5,[⟨[],[],[15,16,17,18,19,20,21,22,23,24,25,26,27,28],[27,2009]⟩,⟨[],[],[14,19,20,21,22,23,24,25,26,27],[27]⟩,⟨[1],[],[14,19,20,21,22,23,24,25,26,27],[27]⟩,⟨[2,1],[],[14,19,20,21,22,23,24,25,26,27],[27]⟩,⟨[3,2,1],[],[14,19,20,21,22,23,24,25,26,27],[27]⟩,⟨[],[],[14,15,16,17,18,21,22,23,24,25],[]⟩,⟨[5],[],[14,15,16,17,18,21,22,23,24,25],[]⟩,⟨[],[],[14,15,16,17,18,19,20,22],[]⟩,⟨[],[],[14,15,16,17,18,19,20,21],[]⟩,⟨[7,8],[],[14,15,16,17,18,19,20],[]⟩,⟨[9,7,8],[],[14,15,16,17,18,19,20],[]⟩,⟨[10,9,7,8],[],[14,15,16,17,18,19,20],[]⟩,⟨[6,5,11,10,9,7,8],[],[14,15,16,17,18],[]⟩,⟨[12,6,5,11,10,9,7,8],[27],[14,15,16,17,18],[]⟩,⟨[4,3,2,1,13,12,6,5,11,10,9,7,8],[2009],[14],[]⟩,⟨[0,1,2,3,4,5,6,7,8,9,10,11,12,13,14],[],[],[]⟩,⟨[15,0,1,2,3,4,5,6,7,8,9,10,11,12,13,14],[],[],[]⟩,⟨[16,15,0,1,2,3,4,5,6,7,8,9,10,11,12,13,14],[9],[],[]⟩])],[(100003,jw.c100003r),(6,jw.c6r),(5,jw.c5r)],[],jZ⟩
theorem jw.eq (x_:densU jw.mc.pre.tys):denM jw.G Try.f38 jw.mc.pre jw.mc.post x_=jw.mc.F x_:=by kernel_rfl
theorem jw.p0:PcA jw.G Try.f38 0:=
 Jk (s:=jw.c100003r) (by kernel_rfl) (by kernel_rfl) (Jc (sh:=jw.c100003s) (I:=fun x_ s_=>(x_.1,x_.2.1,x_.2.2.1,x_.2.2.2.1,s_.1,x_.2.2.2.2.2.1,s_.2.1,s_.2.2,())) (fun x_=>rfl) (fun ρ x_ s_ k_=>(jm (jc fun _=>(jc fun _=>jd)) jd)) (fun ρ x_ t k=>(by kernel_rfl)) (fun x_ s=>by kernel_rfl))
theorem jw.p1:PcA jw.G Try.f38 1:=
 ju (s:=jw.c5r) (by kernel_rfl) (by kernel_rfl) (jt (sh:=jw.c5s) (fun ρ x_ k_=>(jc fun _=>(jc fun _=>(jc fun _=>jd)))) (fun ρ x_ t k=>(by kernel_rfl)) (fun x_=>by kernel_rfl))
theorem jw.p2:PcA jw.G Try.f38 2:=
 ju (s:=jw.c6r) (by kernel_rfl) (by kernel_rfl) (jt (sh:=jw.c6s) (fun ρ x_ k_=>(jc fun _=>(jc fun _=>jd))) (fun ρ x_ t k=>(by kernel_rfl)) (fun x_=>by kernel_rfl))
theorem jw.ok:MOk Try.prog 38 jw.mc:=UI (G:=jw.G) Jj mixed Try.func38 ⟨Ja,jR,jA⟩ (m:=3) (by kernel_rfl) ⟨⟨⟨trivial,jw.p0⟩,jw.p1⟩,jw.p2⟩ (by kernel_rfl) jw.eq
def jI.c4 {ρ:Type} (bits:List Int) (c:Int) (k_:Bool→Option ρ):Option ρ:=
 br (decide (c > (0:Int)))
 (bnd (idx bits (IntKind.i64.wrap (c - (1:Int)))) fun y=>
 br (y == (0:Int))
 (k_ true)
 (br (decide (c < (0:Int)))
 (bnd (idx bits (IntKind.i64.wrap (IntKind.i64.wrap ((0:Int) - c) - (1:Int)))) fun y_1=>
 k_ (y_1 == (1:Int)))
 (k_ false)))
 (br (decide (c < (0:Int)))
 (bnd (idx bits (IntKind.i64.wrap (IntKind.i64.wrap ((0:Int) - c) - (1:Int)))) fun y_2=>
 k_ (y_2 == (1:Int)))
 (k_ false))
def jI.c4s:Shape:=⟨[(0,tb25),(1,tb36),(2,tb2),(4,tb7),(6,tb5),(8,tb36),(9,tb5),(10,tb5)],[(2,tb26)]⟩
def jI.c4x0:Shape:=⟨[(0,tb25),(1,tb36),(2,tb2),(4,tb7),(6,tb5),(8,tb36),(9,tb5),(10,tb5),(36,tb7)],[(2,tb26)]⟩
def jI.c4r:Ck:=Ck.of (T:=Bool) jI.c4s (fun ρ x_ k_=>jI.c4 x_.2.1 x_.2.2.2.1 k_) (fun ρ x_ r_ k_=>k_ 0 (Shape.inj jI.c4x0 (x_.1,x_.2.1,x_.2.2.1,x_.2.2.2.1,x_.2.2.2.2.1,x_.2.2.2.2.2.1,x_.2.2.2.2.2.2.1,r_,x_.2.2.2.2.2.2.2)))
def jI.c100002 {ρ:Type} (bits:List Int) (t8:List Int) (t9:Int) (t10:Int) (k_:Int⊕(Int⊕Int)→Option ρ):Option ρ:=
 br (decide (t10 < t9))
 (bnd (idx t8 t10) fun y=>
 bnd (W.jI.c4 bits y some) fun y_1=>
 br y_1
 (k_ (.inr (.inl t10)))
 (k_ (.inl (IntKind.i64.wrap (t10+(1:Int))))))
 (k_ (.inr (.inr t10)))
def jI.c100002s:Shape:=⟨[(0,tb25),(1,tb36),(2,tb2),(4,tb7),(8,tb36),(9,tb5),(10,tb5)],[(2,tb26)]⟩
def jI.c100002x0:Shape:=jI.c100002s
def jI.c100002x1:Shape:=jI.c100002s
def jI.c100002r:Ck:=Ck.ofLoop (S:=Int) (T:=Int⊕Int) jI.c100002s (fun x_=>x_.2.2.2.2.2.1) (fun ρ x_ s_ k_=>jI.c100002 x_.2.1 x_.2.2.2.1 x_.2.2.2.2.1 s_ k_) (fun ρ x_ r_ k_=>sel r_ (fun r_=>k_ 1 (Shape.inj jI.c100002x0 (x_.1,x_.2.1,false,x_.2.2.2.1,x_.2.2.2.2.1,r_,x_.2.2.2.2.2.2))) (fun r_=>k_ 2 (Shape.inj jI.c100002x1 (x_.1,x_.2.1,x_.2.2.1,x_.2.2.2.1,x_.2.2.2.2.1,r_,x_.2.2.2.2.2.2))))
def jI (o:YO) (bits:List Int):Option Bool:=
 bnd (iter (fun s↦W.jI.c100002 bits o.2.2.2.2.2 (↑(List.length o.2.2.2.2.2):Int) s some) (0:Int)) fun y=>
 sel y
 (fun u=>some false)
 (fun v=>some true)
def jI.ce:Go.Ql.Callee:=⟨[(.st (.pair (.int .i64) (.pair (.int .i64) (.pair (.sl (.int .i64)) (.pair (.int .i64) (.pair (.int .i64) (.sl (.int .i64)))))))),(.sl (.int .i64))],[.bool],fun x_=>jI x_.1 x_.2⟩
def jI.G:Env:=⟨38,tab,[],[0,1,2,4,6,8,9,10,11,36],[],[],[(100002,jI.c100002r),(4,jI.c4r)],[],jZ⟩
theorem jI.eq (x_:dens jI.ce.params):den jI.G Try.f39 jI.ce.params jI.ce.res x_=jI.ce.F x_:=by kernel_rfl
theorem jI.p0:PcA jI.G Try.f39 0:=
 Jk (s:=jI.c100002r) (by kernel_rfl) (by kernel_rfl) (Jc (sh:=jI.c100002s) (I:=fun x_ s_=>(x_.1,x_.2.1,x_.2.2.1,x_.2.2.2.1,x_.2.2.2.2.1,s_,x_.2.2.2.2.2.2)) (fun x_=>rfl) (fun ρ x_ s_ k_=>(jm (jc fun _=>(jc fun _=>(jm jd jd))) jd)) (fun ρ x_ t k=>(ka (fun _=>(by kernel_rfl)) (fun _=>(by kernel_rfl)))) (fun x_ s=>by kernel_rfl))
theorem jI.p1:PcA jI.G Try.f39 1:=
 ju (s:=jI.c4r) (by kernel_rfl) (by kernel_rfl) (jt (sh:=jI.c4s) (fun ρ x_ k_=>(jm (jc fun _=>(jm jd (jm (jc fun _=>jd) jd))) (jm (jc fun _=>jd) jd))) (fun ρ x_ t k=>(by kernel_rfl)) (fun x_=>by kernel_rfl))
theorem jI.ok:CalleeOk Try.prog 39 jI.ce:=fn_ok (G:=jI.G) Jj mixed Try.func39 ⟨Ja,jR,jA⟩ (m:=2) (by kernel_rfl) ⟨⟨trivial,jI.p0⟩,jI.p1⟩ (by kernel_rfl) jI.eq
abbrev tb81:SO:=.box [.val (.int .i64),.own 1000701 0,.own 1000702 0]
def jp.pre:Shape:=⟨[(0,tb28),(1,tb25)],[(1000700,tb81),(1000701,tb22),(1000702,tb22)]⟩
def jp.post:Shape:=⟨[],[(1000701,tb22),(1000702,tb22),(1000700,tb81)]⟩
def jp.c4 {ρ:Type} (i:Int) (o0:Int) (o1:Int) (o2:List Int) (o3:Int) (o4:Int) (o5:List Int) (t1000701:List YP) (k_:List YP→Option ρ):Option ρ:=
 bnd (inR (List.length t1000701) i) fun y=>
 bnd (idx t1000701 i) fun y_1=>
 bnd (W.kh (y_1,(o0,o1,o2,o3,o4,o5),())) fun y_2=>
 bnd (inR (List.length t1000701) i) fun y_3=>
 bnd (idx t1000701 i) fun y_4=>
 k_ (List.set t1000701 (Int.toNat i) y_2.1)
def jp.c4s:Shape:=⟨[(0,tb28),(1,tb25),(3,tb12),(4,tb5),(8,tb5),(9,tb5)],[(3,tb26),(1000700,tb81),(1000701,tb22),(1000702,tb22)]⟩
def jp.c4x0:Shape:=jp.c4s
def jp.c4r:Ck:=Ck.of (T:=List YP) jp.c4s (fun ρ x_ k_=>jp.c4 x_.2.1 x_.2.2.2.2.1 x_.2.2.2.2.2.1 x_.2.2.2.2.2.2.1 x_.2.2.2.2.2.2.2.1 x_.2.2.2.2.2.2.2.2.1 x_.2.2.2.2.2.2.2.2.2.1 x_.2.2.2.2.2.2.2.2.2.2.2.1 k_) (fun ρ x_ r_ k_=>k_ 0 (Shape.inj jp.c4x0 (x_.1,x_.2.1,x_.2.2.1,x_.2.2.2.1,x_.2.2.2.2.1,x_.2.2.2.2.2.1,x_.2.2.2.2.2.2.1,x_.2.2.2.2.2.2.2.1,x_.2.2.2.2.2.2.2.2.1,x_.2.2.2.2.2.2.2.2.2.1,x_.2.2.2.2.2.2.2.2.2.2.1,r_,x_.2.2.2.2.2.2.2.2.2.2.2.2)))
def jp.c5 {ρ:Type} (i:Int) (o0:Int) (o1:Int) (o2:List Int) (o3:Int) (o4:Int) (o5:List Int) (t1000702:List YP) (k_:List YP→Option ρ):Option ρ:=
 bnd (inR (List.length t1000702) i) fun y=>
 bnd (idx t1000702 i) fun y_1=>
 bnd (W.kh (y_1,(o0,o1,o2,o3,o4,o5),())) fun y_2=>
 bnd (inR (List.length t1000702) i) fun y_3=>
 bnd (idx t1000702 i) fun y_4=>
 k_ (List.set t1000702 (Int.toNat i) y_2.1)
def jp.c5s:Shape:=jp.c4s
def jp.c5x0:Shape:=jp.c4s
def jp.c5r:Ck:=Ck.of (T:=List YP) jp.c5s (fun ρ x_ k_=>jp.c5 x_.2.1 x_.2.2.2.2.1 x_.2.2.2.2.2.1 x_.2.2.2.2.2.2.1 x_.2.2.2.2.2.2.2.1 x_.2.2.2.2.2.2.2.2.1 x_.2.2.2.2.2.2.2.2.2.1 x_.2.2.2.2.2.2.2.2.2.2.2.2.1 k_) (fun ρ x_ r_ k_=>k_ 0 (Shape.inj jp.c5x0 (x_.1,x_.2.1,x_.2.2.1,x_.2.2.2.1,x_.2.2.2.2.1,x_.2.2.2.2.2.1,x_.2.2.2.2.2.2.1,x_.2.2.2.2.2.2.2.1,x_.2.2.2.2.2.2.2.2.1,x_.2.2.2.2.2.2.2.2.2.1,x_.2.2.2.2.2.2.2.2.2.2.1,x_.2.2.2.2.2.2.2.2.2.2.2.1,r_,())))
def jp.c100002 {ρ:Type} (t8:Int) (t9:Int) (o0:Int) (o1:Int) (o2:List Int) (o3:Int) (o4:Int) (o5:List Int) (t1000701:List YP) (t1000702:List YP) (k_:(Int×(List YP)×(List YP))⊕(Int×(List YP)×(List YP))→Option ρ):Option ρ:=
 br (decide (t9 < t8))
 (bnd (W.jp.c4 t9 o0 o1 o2 o3 o4 o5 t1000701 some) fun y=>
 bnd (W.jp.c5 t9 o0 o1 o2 o3 o4 o5 t1000702 some) fun y_1=>
 k_ (.inl ((IntKind.i64.wrap (t9+(1:Int))),y,y_1)))
 (k_ (.inr (t9,t1000701,t1000702)))
def jp.c100002s:Shape:=⟨[(0,tb28),(1,tb25),(3,tb12),(8,tb5),(9,tb5)],[(3,tb26),(1000700,tb81),(1000701,tb22),(1000702,tb22)]⟩
def jp.c100002x0:Shape:=jp.c100002s
def jp.c100002r:Ck:=Ck.ofLoop (S:=Int×(List YP)×(List YP)) (T:=Int×(List YP)×(List YP)) jp.c100002s (fun x_=>(x_.2.2.1,x_.2.2.2.2.2.2.2.2.2.2.1,x_.2.2.2.2.2.2.2.2.2.2.2.1)) (fun ρ x_ s_ k_=>jp.c100002 x_.2.1 s_.1 x_.2.2.2.1 x_.2.2.2.2.1 x_.2.2.2.2.2.1 x_.2.2.2.2.2.2.1 x_.2.2.2.2.2.2.2.1 x_.2.2.2.2.2.2.2.2.1 s_.2.1 s_.2.2 k_) (fun ρ x_ r_ k_=>k_ 2 (Shape.inj jp.c100002x0 (x_.1,x_.2.1,r_.1,x_.2.2.2.1,x_.2.2.2.2.1,x_.2.2.2.2.2.1,x_.2.2.2.2.2.2.1,x_.2.2.2.2.2.2.2.1,x_.2.2.2.2.2.2.2.2.1,x_.2.2.2.2.2.2.2.2.2.1,r_.2.1,r_.2.2,())))
def jp (o:YO) (t10007000:Int) (t1000701:List YP) (t1000702:List YP):Option ((List YP)×(List YP)×Int×Unit):=
 bnd (iter (fun s↦W.jp.c100002 t10007000 s.1 o.1 o.2.1 o.2.2.1 o.2.2.2.1 o.2.2.2.2.1 o.2.2.2.2.2 s.2.1 s.2.2 some) ((0:Int),t1000701,t1000702)) fun y=>
 some (y.2.1,y.2.2,t10007000,())
def jp.mc:MCallee:=⟨40,jp.pre,jp.post,fun x_=>jp x_.1 x_.2.1 x_.2.2.1 x_.2.2.2.1⟩
def jp.G:Env:=⟨43,tab,[],[0,1,3,4,8,9,10],[1000700,1000701,1000702],[(5,[⟨[],[],[31,32,33,34,35,36,37,38,39,40],[]⟩,⟨[0],[],[31,32,33,34,35,36,37,38,39,40],[]⟩,⟨[1,0],[],[31,32,33,34,35,36,37,38,39,40],[]⟩,⟨[2,1,0],[],[31,32,33,34,35,36,37,38,39,40],[]⟩,⟨[],[],[27,28,29,30,32,33,34,35,36,37,38,39,40],[]⟩,⟨[],[],[27,28,29,30,31,36,39],[]⟩,⟨[5],[],[27,28,29,30,31,36,39],[]⟩,⟨[6,5],[],[27,28,29,30,31,36,39],[]⟩,⟨[7,6,5],[],[27,28,29,30,31,36,39],[]⟩,⟨[],[],[27,28,29,30,31,32,33,34,35,39],[]⟩,⟨[8,7,6,5,9],[],[27,28,29,30,31,39],[]⟩,⟨[10,8,7,6,5,9],[],[27,28,29,30,31,39],[]⟩,⟨[],[],[27,28,29,30,31,32,33,34,35,36,37,38],[]⟩,⟨[11,10,8,7,6,5,9,12],[],[27,28,29,30,31],[]⟩,⟨[3,2,1,0,4,5,6,7,8,9,10,11,12,13],[],[],[]⟩,⟨[14,3,2,1,0,4,5,6,7,8,9,10,11,12,13],[1000702],[],[]⟩]),
 (4,[⟨[],[],[16,17,18,19,20,21,22,23,24,25],[]⟩,⟨[0],[],[16,17,18,19,20,21,22,23,24,25],[]⟩,⟨[1,0],[],[16,17,18,19,20,21,22,23,24,25],[]⟩,⟨[2,1,0],[],[16,17,18,19,20,21,22,23,24,25],[]⟩,⟨[],[],[12,13,14,15,17,18,19,20,21,22,23,24,25],[]⟩,⟨[],[],[12,13,14,15,16,21,24],[]⟩,⟨[5],[],[12,13,14,15,16,21,24],[]⟩,⟨[6,5],[],[12,13,14,15,16,21,24],[]⟩,⟨[7,6,5],[],[12,13,14,15,16,21,24],[]⟩,⟨[],[],[12,13,14,15,16,17,18,19,20,24],[]⟩,⟨[8,7,6,5,9],[],[12,13,14,15,16,24],[]⟩,⟨[10,8,7,6,5,9],[],[12,13,14,15,16,24],[]⟩,⟨[],[],[12,13,14,15,16,17,18,19,20,21,22,23],[]⟩,⟨[11,10,8,7,6,5,9,12],[],[12,13,14,15,16],[]⟩,⟨[3,2,1,0,4,5,6,7,8,9,10,11,12,13],[],[],[]⟩,⟨[14,3,2,1,0,4,5,6,7,8,9,10,11,12,13],[1000701],[],[]⟩])],[(100002,jp.c100002r),(5,jp.c5r),(4,jp.c4r)],[(57,kh.mc)],jZ⟩
theorem jp.eq (x_:densU jp.mc.pre.tys):denM jp.G Try.f40 jp.mc.pre jp.mc.post x_=jp.mc.F x_:=by kernel_rfl
theorem jp.p0:PcA jp.G Try.f40 0:=
 Jk (s:=jp.c100002r) (by kernel_rfl) (by kernel_rfl) (Jc (sh:=jp.c100002s) (I:=fun x_ s_=>(x_.1,x_.2.1,s_.1,x_.2.2.2.1,x_.2.2.2.2.1,x_.2.2.2.2.2.1,x_.2.2.2.2.2.2.1,x_.2.2.2.2.2.2.2.1,x_.2.2.2.2.2.2.2.2.1,x_.2.2.2.2.2.2.2.2.2.1,s_.2.1,s_.2.2,())) (fun x_=>rfl) (fun ρ x_ s_ k_=>(jm (jc fun _=>(jc fun _=>jd)) jd)) (fun ρ x_ t k=>(by kernel_rfl)) (fun x_ s=>by kernel_rfl))
theorem jp.p1:PcA jp.G Try.f40 1:=
 ju (s:=jp.c4r) (by kernel_rfl) (by kernel_rfl) (jt (sh:=jp.c4s) (fun ρ x_ k_=>(jc fun _=>(jc fun _=>(jc fun _=>(jc fun _=>(jc fun _=>jd)))))) (fun ρ x_ t k=>(by kernel_rfl)) (fun x_=>by kernel_rfl))
theorem jp.p2:PcA jp.G Try.f40 2:=
 ju (s:=jp.c5r) (by kernel_rfl) (by kernel_rfl) (jt (sh:=jp.c5s) (fun ρ x_ k_=>(jc fun _=>(jc fun _=>(jc fun _=>(jc fun _=>(jc fun _=>jd)))))) (fun ρ x_ t k=>(by kernel_rfl)) (fun x_=>by kernel_rfl))
theorem jp.ok:MOk Try.prog 40 jp.mc:=UI (G:=jp.G) Jj mixed Try.func40 ⟨Ja,(YT kh.ok jR),jA⟩ (m:=3) (by kernel_rfl) ⟨⟨⟨trivial,jp.p0⟩,jp.p1⟩,jp.p2⟩ (by kernel_rfl) jp.eq
def Jg.pre:Shape:=⟨[(0,tb11),(1,tb51)],[(1000200,tb9)]⟩
def Jg.post:Shape:=⟨[(0,tb7)],[(1000200,tb9)]⟩
def Jg (p:YP) (t10002000:Int) (t10002001:Int) (t10002002:Bool):Option (Bool×Int×Int×Bool×Unit):=
 bnd (W.jH (p.1,p.2.1,p.2.2) (t10002000,t10002001,t10002002)) fun y=>
 some (y,t10002000,t10002001,t10002002,())
def Jg.mc:MCallee:=⟨84,Jg.pre,Jg.post,fun x_=>Jg x_.1 x_.2.1 x_.2.2.1 x_.2.2.2.1⟩
def Jg.G:Env:=⟨7,tab,[(85,jH.ce)],[0,1,2,3],[1000200],[],[],[],jZ⟩
theorem Jg.eq (x_:densU Jg.mc.pre.tys):denM Jg.G Try.f84 Jg.mc.pre Jg.mc.post x_=Jg.mc.F x_:=by kernel_rfl
theorem Jg.ok:MOk Try.prog 84 Jg.mc:=UI (G:=Jg.G) Jj mixed Try.func84 ⟨(jx jH.ok Ja),jR,jA⟩ (m:=0) (by kernel_rfl) trivial (by kernel_rfl) Jg.eq
abbrev tb82:SD:=.one (.win 2000000 0)
abbrev tb83:SO:=.clo 84 [] [.ref 1000200 0]
def jk.pre:Shape:=⟨[(0,tb82),(1,tb69)],[(1000140,tb83),(1000200,tb9),(2000000,tb22)]⟩
def jk.post:Shape:=⟨[(0,tb5)],[(1000140,tb83),(1000200,tb9),(2000000,tb22)]⟩
def jk.c100002 {ρ:Type} (slo:Int) (sn:Int) (t7:Int) (t8:Int) (t10002000:Int) (t10002001:Int) (t10002002:Bool) (t2000000:List YP) (k_:(Int×Int×Int×Bool)⊕((Int×Int×Int×Int×Bool)⊕(Int×Int×Int×Bool))→Option ρ):Option ρ:=
 br (decide (t8 < t7))
 (bnd (okIf (decide ((0:Ty.den (Ty.int IntKind.i64))≤t8) && decide (t8 < sn))) fun y=>
 bnd (idx t2000000 (slo+t8)) fun y_1=>
 bnd (W.Jg y_1 t10002000 t10002001 t10002002) fun y_2=>
 br y_2.1
 (k_ (.inr (.inl (t8,t8,y_2.2.1,y_2.2.2.1,y_2.2.2.2.1))))
 (k_ (.inl ((IntKind.i64.wrap (t8+(1:Int))),y_2.2.1,y_2.2.2.1,y_2.2.2.2.1))))
 (k_ (.inr (.inr (t8,t10002000,t10002001,t10002002))))
def jk.c100002s:Shape:=⟨[(0,tb82),(1,tb69),(4,tb5),(7,tb5),(8,tb5)],[(1000140,tb83),(1000200,tb9),(2000000,tb22)]⟩
def jk.c100002x0:Shape:=jk.c100002s
def jk.c100002x1:Shape:=jk.c100002s
def jk.c100002r:Ck:=Ck.ofLoop (S:=Int×Int×Int×Bool) (T:=(Int×Int×Int×Int×Bool)⊕(Int×Int×Int×Bool)) jk.c100002s (fun x_=>(x_.2.2.2.2.1,x_.2.2.2.2.2.1,x_.2.2.2.2.2.2.1,x_.2.2.2.2.2.2.2.1)) (fun ρ x_ s_ k_=>jk.c100002 x_.1 x_.2.1 x_.2.2.2.1 s_.1 s_.2.1 s_.2.2.1 s_.2.2.2 x_.2.2.2.2.2.2.2.2.1 k_) (fun ρ x_ r_ k_=>sel r_ (fun r_=>k_ 1 (Shape.inj jk.c100002x0 (x_.1,x_.2.1,r_.1,x_.2.2.2.1,r_.2.1,r_.2.2.1,r_.2.2.2.1,r_.2.2.2.2,x_.2.2.2.2.2.2.2.2))) (fun r_=>k_ 2 (Shape.inj jk.c100002x1 (x_.1,x_.2.1,x_.2.2.1,x_.2.2.2.1,r_.1,r_.2.1,r_.2.2.1,r_.2.2.2,x_.2.2.2.2.2.2.2.2))))
def jk (slo:Int) (sn:Int) (t10002000:Int) (t10002001:Int) (t10002002:Bool) (t2000000:List YP):Option (Int×Int×Int×Bool×(List YP)×Unit):=
 bnd (iter (fun s↦W.jk.c100002 slo sn (↑(List.length (part slo sn t2000000)):Int) s.1 s.2.1 s.2.2.1 s.2.2.2 t2000000 some) ((0:Int),t10002000,t10002001,t10002002)) fun y=>
 sel y
 (fun u=>some (u.1,u.2.2.1,u.2.2.2.1,u.2.2.2.2,t2000000,()))
 (fun v=>some ((-1:Int),v.2.1,v.2.2.1,v.2.2.2,t2000000,()))
def jk.mc:MCallee:=⟨83,jk.pre,jk.post,fun x_=>jk x_.1 x_.2.1 x_.2.2.1 x_.2.2.2.1 x_.2.2.2.2.1 x_.2.2.2.2.2.1⟩
def jk.G:Env:=⟨19,tab,[],[0,1,4,5,7,8,9,16],[1000140,1000200,2000000],[],[(100002,jk.c100002r)],[(84,Jg.mc)],jZ⟩
theorem jk.eq (x_:densU jk.mc.pre.tys):denM jk.G Try.f83 jk.mc.pre jk.mc.post x_=jk.mc.F x_:=by kernel_rfl
theorem jk.p0:PcA jk.G Try.f83 0:=
 Jk (s:=jk.c100002r) (by kernel_rfl) (by kernel_rfl) (Jc (sh:=jk.c100002s) (I:=fun x_ s_=>(x_.1,x_.2.1,x_.2.2.1,x_.2.2.2.1,s_.1,s_.2.1,s_.2.2.1,s_.2.2.2,x_.2.2.2.2.2.2.2.2)) (fun x_=>rfl) (fun ρ x_ s_ k_=>(jm (jc fun _=>(jc fun _=>(jc fun _=>(jm jd jd)))) jd)) (fun ρ x_ t k=>(ka (fun _=>(by kernel_rfl)) (fun _=>(by kernel_rfl)))) (fun x_ s=>by kernel_rfl))
theorem jk.ok:MOk Try.prog 83 jk.mc:=UI (G:=jk.G) Jj mixed Try.func83 ⟨Ja,(YT Jg.ok jR),jA⟩ (m:=1) (by kernel_rfl) ⟨trivial,jk.p0⟩ (by kernel_rfl) jk.eq
def jJ.c1 {ρ:Type} (p0:Int) (p1:Int) (o0:Int) (o1:Int) (k_:Int→Option ρ):Option ρ:=
 bnd (W.JA (ibits BinOp.and IntKind.u64 p0 p1)) fun y=>
 bnd (W.JA (ibits BinOp.and IntKind.u64 o0 o1)) fun y_1=>
 bnd (W.JA (ibits BinOp.and IntKind.u64 p1 o0)) fun y_2=>
 k_ (IntKind.i64.wrap (IntKind.i64.wrap (y+y_1)+IntKind.i64.wrap ((2:Int)*y_2)))
def jJ.c1s:Shape:=⟨[(0,tb11),(1,tb11),(2,tb2),(3,tb12),(4,tb6)],[(2,tb9),(3,tb9),(4,tb9)]⟩
def jJ.c1x0:Shape:=⟨[(0,tb11),(1,tb11),(2,tb2),(3,tb12),(4,tb6),(5,tb5)],[(2,tb9),(3,tb9),(4,tb9)]⟩
def jJ.c1r:Ck:=Ck.of (T:=Int) jJ.c1s (fun ρ x_ k_=>jJ.c1 x_.2.2.1 x_.2.2.2.1 x_.2.2.2.2.2.1 x_.2.2.2.2.2.2.1 k_) (fun ρ x_ r_ k_=>k_ 0 (Shape.inj jJ.c1x0 (x_.1,x_.2.1,r_,x_.2.2)))
def jJ (p:YP) (o:YP):Option YP:=
 bnd (W.jJ.c1 p.1 p.2.1 o.1 o.2.1 some) fun y=>
 bnd (W.JA (ibits BinOp.and IntKind.u64 (ibits BinOp.xor IntKind.u64 p.1 o.1) (ibits BinOp.xor IntKind.u64 p.2.1 o.2.1))) fun y_1=>
 some (ibits BinOp.xor IntKind.u64 p.1 o.1,ibits BinOp.xor IntKind.u64 p.2.1 o.2.1,!(!p.2.2 == o.2.2) == (ibits BinOp.and IntKind.i64 (IntKind.i64.wrap (y - y_1)) (3:Int) == (2:Int)))
def jJ.ce:Go.Ql.Callee:=⟨[(.st (.pair (.int .u64) (.pair (.int .u64) .bool))),(.st (.pair (.int .u64) (.pair (.int .u64) .bool)))],[(.st (.pair (.int .u64) (.pair (.int .u64) .bool)))],fun x_=>jJ x_.1 x_.2⟩
def jJ.G:Env:=⟨58,tab,[(118,JA.ce)],[0,1,2,3,4,5,6],[],[(1,[⟨[],[],[9,10,13,14,15,16,17,20,21,22,23,24],[]⟩,⟨[0],[],[9,10,13,14,15,16,17,20,21,22,23,24],[]⟩,⟨[],[],[7,8,13,14,15,16,17,20,21,22,23,24],[]⟩,⟨[2],[],[7,8,13,14,15,16,17,20,21,22,23,24],[]⟩,⟨[1,0,3,2],[],[13,14,15,16,17,20,21,22,23,24],[]⟩,⟨[4,1,0,3,2],[],[13,14,15,16,17,20,21,22,23,24],[]⟩,⟨[],[],[7,8,9,10,11,12,15,16,20,21,22,23,24],[]⟩,⟨[6],[],[7,8,9,10,11,12,15,16,20,21,22,23,24],[]⟩,⟨[],[],[7,8,9,10,11,12,13,14,20,21,22,23,24],[]⟩,⟨[8],[],[7,8,9,10,11,12,13,14,20,21,22,23,24],[]⟩,⟨[7,6,9,8],[],[7,8,9,10,11,12,20,21,22,23,24],[]⟩,⟨[10,7,6,9,8,5,4,1,0,3,2],[],[20,21,22,23,24],[]⟩,⟨[5,4,1,0,3,2,11,10,7,6,9,8],[],[20,21,22,23,24,25,26],[]⟩,⟨[],[],[7,8,9,10,11,12,13,14,15,16,17,18,19,22,23],[]⟩,⟨[13],[],[7,8,9,10,11,12,13,14,15,16,17,18,19,22,23],[]⟩,⟨[],[],[7,8,9,10,11,12,13,14,15,16,17,18,19,20,21],[]⟩,⟨[15],[],[7,8,9,10,11,12,13,14,15,16,17,18,19,20,21],[]⟩,⟨[14,13,16,15],[],[7,8,9,10,11,12,13,14,15,16,17,18,19],[]⟩,⟨[17,14,13,16,15,11,10,7,6,9,8,5,4,1,0,3,2],[],[19],[]⟩,⟨[18,17,14,13,16,15,11,10,7,6,9,8,5,4,1,0,3,2],[],[19],[]⟩,⟨[12,5,4,1,0,3,2,11,10,7,6,9,8,19,18,17,14,13,16,15],[],[],[]⟩,⟨[20,12,5,4,1,0,3,2,11,10,7,6,9,8,19,18,17,14,13,16,15],[],[],[]⟩])],[(1,jJ.c1r)],[],jZ⟩
theorem jJ.eq (x_:dens jJ.ce.params):den jJ.G Try.f86 jJ.ce.params jJ.ce.res x_=jJ.ce.F x_:=by kernel_rfl
theorem jJ.p0:PcA jJ.G Try.f86 0:=
 ju (s:=jJ.c1r) (by kernel_rfl) (by kernel_rfl) (jt (sh:=jJ.c1s) (fun ρ x_ k_=>(jc fun _=>(jc fun _=>(jc fun _=>jd)))) (fun ρ x_ t k=>(by kernel_rfl)) (fun x_=>by kernel_rfl))
theorem jJ.ok:CalleeOk Try.prog 86 jJ.ce:=fn_ok (G:=jJ.G) Jj mixed Try.func86 ⟨(jx JA.ok Ja),jR,jA⟩ (m:=1) (by kernel_rfl) ⟨trivial,jJ.p0⟩ (by kernel_rfl) jJ.eq
def JT (a:YP) (b:YP):Option YP:=
 some (ibits BinOp.xor IntKind.u64 a.1 b.1,ibits BinOp.xor IntKind.u64 a.2.1 b.2.1,false)
def JT.ce:Go.Ql.Callee:=⟨[(.st (.pair (.int .u64) (.pair (.int .u64) .bool))),(.st (.pair (.int .u64) (.pair (.int .u64) .bool)))],[(.st (.pair (.int .u64) (.pair (.int .u64) .bool)))],fun x_=>JT x_.1 x_.2⟩
def JT.G:Env:=⟨16,tab,[],[0,1,2,3,4],[],[],[],[],jZ⟩
theorem JT.eq (x_:dens JT.ce.params):den JT.G Try.f87 JT.ce.params JT.ce.res x_=JT.ce.F x_:=by kernel_rfl
theorem JT.ok:CalleeOk Try.prog 87 JT.ce:=fn_ok (G:=JT.G) Jj mixed Try.func87 ⟨Ja,jR,jA⟩ (m:=0) (by kernel_rfl) trivial (by kernel_rfl) JT.eq
end
end W
end
