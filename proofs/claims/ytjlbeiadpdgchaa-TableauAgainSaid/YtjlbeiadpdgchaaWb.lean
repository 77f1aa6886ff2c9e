/- Lifted functions, part 2: each with its contract. -/
import Derived.Test.YtjlbeiadpdgchaaWa
import Derived.Test.YtjlbeiadpdgchaaProg
set_option linter.all false
section
set_option maxHeartbeats 4000000
set_option maxRecDepth 100000
set_option linter.unusedVariables false
namespace W
open Go Go.Ql Go.Proofs
noncomputable section
abbrev tb49:SD:=.one (.own 10 0)
abbrev tb50:SO:=.arr 0 false 3 (.int .i64)
abbrev tb51:SD:=.one (.ref 1000200 0)
abbrev tb60:SO:=.box [.val (.int .i64)]
abbrev tb66:SO:=.arr 0 false 5 (.int .u8)
abbrev tb68:SD:=.one (.val (.sl (.int .u8)))
section
end
abbrev tb69:SD:=.one (.clo 1000140)
abbrev tb72:SD:=.one (.own 7 0)
def jm.c208197 {ρ:Type} (p2:Bool) (t7:List Int) (k_:List Int→Option ρ):Option ρ:=
 br p2
 (bnd (inR (List.length t7) (0:Int)) fun y=>
 bnd (idx t7 (0:Int)) fun y_1=>
 k_ (List.set t7 (0:Nat) (45:Int)))
 (k_ t7)
def jm.c208197s:Shape:=⟨[(0,tb11),(1,tb5),(2,tb2),(4,tb4),(5,tb72)],[(2,tb9),(7,tb66)]⟩
def jm.c208197x0:Shape:=jm.c208197s
def jm.c208197r:Ck:=Ck.of (T:=List Int) jm.c208197s (fun ρ x_ k_=>jm.c208197 x_.2.2.2.2.2.1 x_.2.2.2.2.2.2.1 k_) (fun ρ x_ r_ k_=>k_ 0 (Shape.inj jm.c208197x0 (x_.1,x_.2.1,x_.2.2.1,x_.2.2.2.1,x_.2.2.2.2.1,x_.2.2.2.2.2.1,r_,())))
def jm.c7 {ρ:Type} (q:Int) (p0:Int) (p1:Int) (t7:List Int) (k_:List Int→Option ρ):Option ρ:=
 bnd (okIf (decide ((0:Int)≤q))) fun y=>
 bnd (okIf (decide ((0:Int)≤q))) fun y_1=>
 bnd (idx (Array.toList (ByteArray.data (ByteArray.mk #[(73:UInt8),(88:UInt8),(90:UInt8),(89:UInt8)]))) (ibits BinOp.or IntKind.u64 (ibits BinOp.and IntKind.u64 (Int.fdiv p0 ((2:Int) ^ Min.min (Int.toNat q) (64:Nat))) (1:Int)) (IntKind.wrap IntKind.u64 (ibits BinOp.and IntKind.u64 (Int.fdiv p1 ((2:Int) ^ Min.min (Int.toNat q) (64:Nat))) (1:Int)*(2:Int) ^ (1:Nat))))) fun y_2=>
 bnd (okIf (decide ((List.length t7+(1:Nat))*(1:Nat)≤(140737488355328:Nat)) && decide (List.length t7+(1:Nat)≤(140737488355328:Nat)))) fun y_3=>
 k_ (t7++[(↑(UInt8.toNat y_2):Int)])
def jm.c7s:Shape:=⟨[(0,tb11),(1,tb5),(2,tb2),(4,tb4),(5,tb72),(6,tb5),(12,tb5),(13,tb5)],[(2,tb9),(7,tb66)]⟩
def jm.c7x0:Shape:=jm.c7s
def jm.c7r:Ck:=Ck.of (T:=List Int) jm.c7s (fun ρ x_ k_=>jm.c7 x_.2.2.2.1 x_.2.2.2.2.2.2.1 x_.2.2.2.2.2.2.2.1 x_.2.2.2.2.2.2.2.2.2.1 k_) (fun ρ x_ r_ k_=>k_ 0 (Shape.inj jm.c7x0 (x_.1,x_.2.1,x_.2.2.1,x_.2.2.2.1,x_.2.2.2.2.1,x_.2.2.2.2.2.1,x_.2.2.2.2.2.2.1,x_.2.2.2.2.2.2.2.1,x_.2.2.2.2.2.2.2.2.1,r_,())))
def jm.c100005 {ρ:Type} (t12:Int) (t13:Int) (p0:Int) (p1:Int) (t7:List Int) (k_:(Int×(List Int))⊕(Int×(List Int))→Option ρ):Option ρ:=
 br (decide (t13 < t12))
 (bnd (W.jm.c7 t13 p0 p1 t7 some) fun y=>
 k_ (.inl ((IntKind.wrap IntKind.i64 (t13+(1:Int))),y)))
 (k_ (.inr (t13,t7)))
def jm.c100005s:Shape:=⟨[(0,tb11),(1,tb5),(2,tb2),(4,tb4),(5,tb72),(12,tb5),(13,tb5)],[(2,tb9),(7,tb66)]⟩
def jm.c100005x0:Shape:=jm.c100005s
def jm.c100005r:Ck:=Ck.ofLoop (S:=Int×(List Int)) (T:=Int×(List Int)) jm.c100005s (fun x_=>(x_.2.2.2.2.1,x_.2.2.2.2.2.2.2.2.1)) (fun ρ x_ s_ k_=>jm.c100005 x_.2.2.2.1 s_.1 x_.2.2.2.2.2.1 x_.2.2.2.2.2.2.1 s_.2 k_) (fun ρ x_ r_ k_=>k_ 2 (Shape.inj jm.c100005x0 (x_.1,x_.2.1,x_.2.2.1,x_.2.2.2.1,r_.1,x_.2.2.2.2.2.1,x_.2.2.2.2.2.2.1,x_.2.2.2.2.2.2.2.1,r_.2,())))
def jm (p:Int×(Int×(Bool))) (n:Int):Option (List UInt8):=
 bnd (W.jm.c208197 p.2.2 [(43:Int)] some) fun y=>
 bnd (iter (fun s↦W.jm.c100005 n s.1 p.1 p.2.1 s.2 some) ((0:Int),y)) fun y_1=>
 some (List.map (fun n↦UInt8.ofNat (Int.toNat n)) y_1.2)
def jm.ce:Go.Ql.Callee:=⟨[(.st (.pair (.int .u64) (.pair (.int .u64) .bool))),(.int .i64)],[.str],fun x_=>jm x_.1 x_.2⟩
def jm.G:Env:=⟨35,tab,[],[0,1,2,4,5,6,9,12,13,14],[7],[(7,[⟨[],[],[17,18,19,20,21,22,23,24,25,26,27,28,29,30],[30]⟩,⟨[],[],[16,19,22,23,24,25,26,27],[]⟩,⟨[1],[],[16,19,22,23,24,25,26,27],[]⟩,⟨[],[],[16,17,18,22,23,24,25,26,27],[]⟩,⟨[2,1,3],[],[16,22,23,24,25,26,27],[]⟩,⟨[4,2,1,3],[],[16,22,23,24,25,26,27],[]⟩,⟨[],[],[16,17,18,19,20,21,24],[]⟩,⟨[6],[],[16,17,18,19,20,21,24],[]⟩,⟨[],[],[16,17,18,19,20,21,22,23],[]⟩,⟨[7,6,8],[],[16,17,18,19,20,21],[]⟩,⟨[9,7,6,8],[],[16,17,18,19,20,21],[]⟩,⟨[10,9,7,6,8],[],[16,17,18,19,20,21],[]⟩,⟨[5,4,2,1,3,11,10,9,7,6,8],[],[16],[]⟩,⟨[12,5,4,2,1,3,11,10,9,7,6,8],[],[16],[]⟩,⟨[13,12,5,4,2,1,3,11,10,9,7,6,8],[30],[16],[]⟩,⟨[0,14,13,12,5,4,2,1,3,11,10,9,7,6,8],[7],[],[]⟩,⟨[15,0,14,13,12,5,4,2,1,3,11,10,9,7,6,8],[],[],[]⟩])],[(100005,jm.c100005r),(7,jm.c7r),(208197,jm.c208197r)],[],tab_eqs⟩
theorem jm.eq (x_:dens jm.ce.params):den jm.G Try.f43 jm.ce.params jm.ce.res x_=jm.ce.F x_:=by kernel_rfl
theorem jm.p0:PcA jm.G Try.f43 0:=
 join_ok (s:=jm.c208197r) (by kernel_rfl) (by kernel_rfl) (sums_of (sh:=jm.c208197s) (fun ρ x_ k_=>(nat_br (nat_bnd fun _=>(nat_bnd fun _=>nat_leaf)) nat_leaf)) (fun ρ x_ t k=>(by kernel_rfl)) (fun x_=>by kernel_rfl))
theorem jm.p1:PcA jm.G Try.f43 1:=
 loop_ok (s:=jm.c100005r) (by kernel_rfl) (by kernel_rfl) (loops_of (sh:=jm.c100005s) (I:=fun x_ s_=>(x_.1,x_.2.1,x_.2.2.1,x_.2.2.2.1,s_.1,x_.2.2.2.2.2.1,x_.2.2.2.2.2.2.1,x_.2.2.2.2.2.2.2.1,s_.2,())) (fun x_=>rfl) (fun ρ x_ s_ k_=>(nat_br (nat_bnd fun _=>nat_leaf) nat_leaf)) (fun ρ x_ t k=>(by kernel_rfl)) (fun x_ s=>by kernel_rfl))
theorem jm.p2:PcA jm.G Try.f43 2:=
 region_ok (s:=jm.c7r) (by kernel_rfl) (by kernel_rfl) (sums_of (sh:=jm.c7s) (fun ρ x_ k_=>(nat_bnd fun _=>(nat_bnd fun _=>(nat_bnd fun _=>(nat_bnd fun _=>nat_leaf))))) (fun ρ x_ t k=>(by kernel_rfl)) (fun x_=>by kernel_rfl))
theorem jm.ok:CalleeOk Try.prog 43 jm.ce:=fn_ok (G:=jm.G) tab_ok mixed Try.func43 ⟨fns_nil,mfns_nil,tab_eqs_ok⟩ (m:=3) (by kernel_rfl) ⟨⟨⟨trivial,jm.p0⟩,jm.p1⟩,jm.p2⟩ (by kernel_rfl) jm.eq
def jH.c6 {ρ:Type} (a:List Int) (b:List Int) (i:Int) (k_:Bool→Option ρ):Option ρ:=
 bnd (idx a i) fun y=>
 bnd (idx b i) fun y_1=>
 k_ (y != y_1)
def jH.c6s:Shape:=⟨[(0,tb36),(1,tb36),(4,tb7),(5,tb5)],[]⟩
def jH.c6x0:Shape:=⟨[(0,tb36),(1,tb36),(4,tb7),(5,tb5),(25,tb7)],[]⟩
def jH.c6r:Ck:=Ck.of (T:=Bool) jH.c6s (fun ρ x_ k_=>jH.c6 x_.1 x_.2.1 x_.2.2.2.1 k_) (fun ρ x_ r_ k_=>k_ 0 (Shape.inj jH.c6x0 (x_.1,x_.2.1,x_.2.2.1,x_.2.2.2.1,r_,())))
def jH.c100004 {ρ:Type} (a:List Int) (b:List Int) (i:Int) (k_:Int⊕(Int⊕Int)→Option ρ):Option ρ:=
 br (decide (i < (↑(List.length a):Int)))
 (bnd (W.jH.c6 a b i some) fun y=>
 br y
 (k_ (.inr (.inl i)))
 (k_ (.inl (IntKind.wrap IntKind.i64 (i+(1:Int))))))
 (k_ (.inr (.inr i)))
def jH.c100004s:Shape:=jH.c6s
def jH.c100004x0:Shape:=jH.c6s
def jH.c100004x1:Shape:=jH.c6s
def jH.c100004r:Ck:=Ck.ofLoop (S:=Int) (T:=Int⊕Int) jH.c100004s (fun x_=>x_.2.2.2.1) (fun ρ x_ s_ k_=>jH.c100004 x_.1 x_.2.1 s_ k_) (fun ρ x_ r_ k_=>sel r_ (fun r_=>k_ 1 (Shape.inj jH.c100004x0 (x_.1,x_.2.1,false,r_,()))) (fun r_=>k_ 2 (Shape.inj jH.c100004x1 (x_.1,x_.2.1,x_.2.2.1,r_,()))))
def jH (a:List Int) (b:List Int):Option (Bool):=
 br ((↑(List.length a):Int) != (↑(List.length b):Int))
 (some false)
 (bnd (iter (fun s↦W.jH.c100004 a b s some) (0:Int)) fun y=>
 sel y
 (fun u=>some false)
 (fun v=>some true))
def jH.ce:Go.Ql.Callee:=⟨[(.sl (.int .i64)),(.sl (.int .i64))],[.bool],fun x_=>jH x_.1 x_.2⟩
def jH.G:Env:=⟨26,tab,[],[0,1,4,5,10,14,25],[],[(6,[⟨[],[],[18,21,22,23,24],[]⟩,⟨[],[],[17,21,22,23,24],[]⟩,⟨[0,1],[],[21,22,23,24],[]⟩,⟨[2,0,1],[],[21,22,23,24],[]⟩,⟨[],[],[17,18,19,20,22],[]⟩,⟨[],[],[17,18,19,20,21],[]⟩,⟨[4,5],[],[17,18,19,20],[]⟩,⟨[6,4,5],[],[17,18,19,20],[]⟩,⟨[3,2,0,1,7,6,4,5],[],[],[]⟩])],[(100004,jH.c100004r),(6,jH.c6r)],[],tab_eqs⟩
theorem jH.eq (x_:dens jH.ce.params):den jH.G Try.f12 jH.ce.params jH.ce.res x_=jH.ce.F x_:=by kernel_rfl
theorem jH.p0:PcA jH.G Try.f12 0:=
 loop_ok (s:=jH.c100004r) (by kernel_rfl) (by kernel_rfl) (loops_of (sh:=jH.c100004s) (I:=fun x_ s_=>(x_.1,x_.2.1,x_.2.2.1,s_,())) (fun x_=>rfl) (fun ρ x_ s_ k_=>(nat_br (nat_bnd fun _=>(nat_br nat_leaf nat_leaf)) nat_leaf)) (fun ρ x_ t k=>(nat_sel (fun _=>(by kernel_rfl)) (fun _=>(by kernel_rfl)))) (fun x_ s=>by kernel_rfl))
theorem jH.p1:PcA jH.G Try.f12 1:=
 region_ok (s:=jH.c6r) (by kernel_rfl) (by kernel_rfl) (sums_of (sh:=jH.c6s) (fun ρ x_ k_=>(nat_bnd fun _=>(nat_bnd fun _=>nat_leaf))) (fun ρ x_ t k=>(by kernel_rfl)) (fun x_=>by kernel_rfl))
theorem jH.ok:CalleeOk Try.prog 12 jH.ce:=fn_ok (G:=jH.G) tab_ok mixed Try.func12 ⟨fns_nil,mfns_nil,tab_eqs_ok⟩ (m:=2) (by kernel_rfl) ⟨⟨trivial,jH.p0⟩,jH.p1⟩ (by kernel_rfl) jH.eq
def jq.c1 {ρ:Type} (a0:Int) (a1:Int) (a2:List (Int×(Int×((List Int)×(Int×(Int×(List Int))))))) (b0:Int) (b1:Int) (b2:List (Int×(Int×((List Int)×(Int×(Int×(List Int))))))) (k_:Bool→Option ρ):Option ρ:=
 br (a0 != b0)
 (k_ true)
 (br (a1 != b1)
 (k_ true)
 (k_ ((↑(List.length a2):Int) != (↑(List.length b2):Int))))
def jq.c1s:Shape:=⟨[(0,tb38),(1,tb38),(2,tb2),(3,tb12),(4,tb7)],[(2,tb34),(3,tb34)]⟩
def jq.c1x0:Shape:=⟨[(0,tb38),(1,tb38),(2,tb2),(3,tb12),(4,tb7),(28,tb7)],[(2,tb34),(3,tb34)]⟩
def jq.c1r:Ck:=Ck.of (T:=Bool) jq.c1s (fun ρ x_ k_=>jq.c1 x_.2.2.2.1 x_.2.2.2.2.1 x_.2.2.2.2.2.1 x_.2.2.2.2.2.2.1 x_.2.2.2.2.2.2.2.1 x_.2.2.2.2.2.2.2.2.1 k_) (fun ρ x_ r_ k_=>k_ 0 (Shape.inj jq.c1x0 (x_.1,x_.2.1,x_.2.2.1,r_,x_.2.2.2)))
def jq.c8 {ρ:Type} (x0:Int) (x1:Int) (x2:List Int) (x3:Int) (x4:Int) (x5:List Int) (y0:Int) (y1:Int) (y2:List Int) (y3:Int) (y4:Int) (y5:List Int) (k_:Bool→Option ρ):Option ρ:=
 br (x0 != y0)
 (k_ true)
 (br (x1 != y1)
 (k_ true)
 (br (x3 != y3)
 (k_ true)
 (br (x4 != y4)
 (k_ true)
 (bnd (W.jH x2 y2) fun y=>
 br (!y)
 (k_ true)
 (bnd (W.jH x5 y5) fun y_1=>
 k_ (!y_1))))))
def jq.c8s:Shape:=⟨[(0,tb38),(1,tb38),(2,tb2),(3,tb12),(4,tb7),(5,tb5),(6,tb8),(7,tb42)],[(2,tb34),(3,tb34),(6,tb26),(7,tb26)]⟩
def jq.c8x0:Shape:=⟨[(0,tb38),(1,tb38),(2,tb2),(3,tb12),(4,tb7),(5,tb5),(6,tb8),(7,tb42),(87,tb7)],[(2,tb34),(3,tb34),(6,tb26),(7,tb26)]⟩
def jq.c8r:Ck:=Ck.of (T:=Bool) jq.c8s (fun ρ x_ k_=>jq.c8 x_.2.2.2.2.2.2.2.2.2.2.1 x_.2.2.2.2.2.2.2.2.2.2.2.1 x_.2.2.2.2.2.2.2.2.2.2.2.2.1 x_.2.2.2.2.2.2.2.2.2.2.2.2.2.1 x_.2.2.2.2.2.2.2.2.2.2.2.2.2.2.1 x_.2.2.2.2.2.2.2.2.2.2.2.2.2.2.2.1 x_.2.2.2.2.2.2.2.2.2.2.2.2.2.2.2.2.1 x_.2.2.2.2.2.2.2.2.2.2.2.2.2.2.2.2.2.1 x_.2.2.2.2.2.2.2.2.2.2.2.2.2.2.2.2.2.2.1 x_.2.2.2.2.2.2.2.2.2.2.2.2.2.2.2.2.2.2.2.1 x_.2.2.2.2.2.2.2.2.2.2.2.2.2.2.2.2.2.2.2.2.1 x_.2.2.2.2.2.2.2.2.2.2.2.2.2.2.2.2.2.2.2.2.2.1 k_) (fun ρ x_ r_ k_=>k_ 0 (Shape.inj jq.c8x0 (x_.1,x_.2.1,x_.2.2.1,x_.2.2.2.1,r_,x_.2.2.2.2)))
def jq.c100004 {ρ:Type} (i:Int) (a2:List (Int×(Int×((List Int)×(Int×(Int×(List Int))))))) (b2:List (Int×(Int×((List Int)×(Int×(Int×(List Int))))))) (k_:Int⊕(Int⊕Int)→Option ρ):Option ρ:=
 br (decide (i < (↑(List.length a2):Int)))
 (bnd (idx a2 i) fun y=>
 bnd (idx b2 i) fun y_1=>
 bnd (W.jq.c8 y.1 y.2.1 y.2.2.1 y.2.2.2.1 y.2.2.2.2.1 y.2.2.2.2.2 y_1.1 y_1.2.1 y_1.2.2.1 y_1.2.2.2.1 y_1.2.2.2.2.1 y_1.2.2.2.2.2 some) fun y_2=>
 br y_2
 (k_ (.inr (.inl i)))
 (k_ (.inl (IntKind.wrap IntKind.i64 (i+(1:Int))))))
 (k_ (.inr (.inr i)))
def jq.c100004s:Shape:=⟨[(0,tb38),(1,tb38),(2,tb2),(3,tb12),(4,tb7),(5,tb5)],[(2,tb34),(3,tb34)]⟩
def jq.c100004x0:Shape:=jq.c100004s
def jq.c100004x1:Shape:=jq.c100004s
def jq.c100004r:Ck:=Ck.ofLoop (S:=Int) (T:=Int⊕Int) jq.c100004s (fun x_=>x_.2.2.2.1) (fun ρ x_ s_ k_=>jq.c100004 s_ x_.2.2.2.2.2.2.1 x_.2.2.2.2.2.2.2.2.2.1 k_) (fun ρ x_ r_ k_=>sel r_ (fun r_=>k_ 1 (Shape.inj jq.c100004x0 (x_.1,x_.2.1,false,r_,x_.2.2.2.2))) (fun r_=>k_ 2 (Shape.inj jq.c100004x1 (x_.1,x_.2.1,x_.2.2.1,r_,x_.2.2.2.2))))
def jq (a:Int×(Int×(List (Int×(Int×((List Int)×(Int×(Int×(List Int))))))))) (b:Int×(Int×(List (Int×(Int×((List Int)×(Int×(Int×(List Int))))))))):Option (Bool):=
 bnd (W.jq.c1 a.1 a.2.1 a.2.2 b.1 b.2.1 b.2.2 some) fun y=>
 br y
 (some false)
 (bnd (iter (fun s↦W.jq.c100004 s a.2.2 b.2.2 some) (0:Int)) fun y_1=>
 sel y_1
 (fun u=>some false)
 (fun v=>some true))
def jq.ce:Go.Ql.Callee:=⟨[(.st (.pair (.int .i64) (.pair (.int .i64) (.sl (.st (.pair (.int .i64) (.pair (.int .i64) (.pair (.sl (.int .i64)) (.pair (.int .i64) (.pair (.int .i64) (.sl (.int .i64)))))))))))),(.st (.pair (.int .i64) (.pair (.int .i64) (.sl (.st (.pair (.int .i64) (.pair (.int .i64) (.pair (.sl (.int .i64)) (.pair (.int .i64) (.pair (.int .i64) (.sl (.int .i64))))))))))))],[.bool],fun x_=>jq x_.1 x_.2⟩
def jq.G:Env:=⟨88,tab,[(12,jH.ce)],[0,1,2,3,4,5,6,7,28,33,87],[],[],[(100004,jq.c100004r),(8,jq.c8r),(1,jq.c1r)],[],tab_eqs⟩
theorem jq.eq (x_:dens jq.ce.params):den jq.G Try.f11 jq.ce.params jq.ce.res x_=jq.ce.F x_:=by kernel_rfl
theorem jq.p0:PcA jq.G Try.f11 0:=
 region_ok (s:=jq.c1r) (by kernel_rfl) (by kernel_rfl) (sums_of (sh:=jq.c1s) (fun ρ x_ k_=>(nat_br nat_leaf (nat_br nat_leaf nat_leaf))) (fun ρ x_ t k=>(by kernel_rfl)) (fun x_=>by kernel_rfl))
theorem jq.p1:PcA jq.G Try.f11 1:=
 loop_ok (s:=jq.c100004r) (by kernel_rfl) (by kernel_rfl) (loops_of (sh:=jq.c100004s) (I:=fun x_ s_=>(x_.1,x_.2.1,x_.2.2.1,s_,x_.2.2.2.2)) (fun x_=>rfl) (fun ρ x_ s_ k_=>(nat_br (nat_bnd fun _=>(nat_bnd fun _=>(nat_bnd fun _=>(nat_br nat_leaf nat_leaf)))) nat_leaf)) (fun ρ x_ t k=>(nat_sel (fun _=>(by kernel_rfl)) (fun _=>(by kernel_rfl)))) (fun x_ s=>by kernel_rfl))
theorem jq.p2:PcA jq.G Try.f11 2:=
 region_ok (s:=jq.c8r) (by kernel_rfl) (by kernel_rfl) (sums_of (sh:=jq.c8s) (fun ρ x_ k_=>(nat_br nat_leaf (nat_br nat_leaf (nat_br nat_leaf (nat_br nat_leaf (nat_bnd fun _=>(nat_br nat_leaf (nat_bnd fun _=>nat_leaf)))))))) (fun ρ x_ t k=>(by kernel_rfl)) (fun x_=>by kernel_rfl))
theorem jq.ok:CalleeOk Try.prog 11 jq.ce:=fn_ok (G:=jq.G) tab_ok mixed Try.func11 ⟨(fns_cons jH.ok fns_nil),mfns_nil,tab_eqs_ok⟩ (m:=3) (by kernel_rfl) ⟨⟨⟨trivial,jq.p0⟩,jq.p1⟩,jq.p2⟩ (by kernel_rfl) jq.eq
def Ji.c100002 {ρ:Type} (l:List Int) (x:Int) (i:Int) (k_:Int⊕(Int⊕Int)→Option ρ):Option ρ:=
 br (decide (i < (↑(List.length l):Int)))
 (bnd (idx l i) fun y=>
 br (y == x)
 (k_ (.inr (.inl i)))
 (k_ (.inl (IntKind.wrap IntKind.i64 (i+(1:Int))))))
 (k_ (.inr (.inr i)))
def Ji.c100002s:Shape:=⟨[(0,tb36),(1,tb5),(4,tb7),(5,tb5)],[]⟩
def Ji.c100002x0:Shape:=Ji.c100002s
def Ji.c100002x1:Shape:=Ji.c100002s
def Ji.c100002r:Ck:=Ck.ofLoop (S:=Int) (T:=Int⊕Int) Ji.c100002s (fun x_=>x_.2.2.2.1) (fun ρ x_ s_ k_=>Ji.c100002 x_.1 x_.2.1 s_ k_) (fun ρ x_ r_ k_=>sel r_ (fun r_=>k_ 1 (Shape.inj Ji.c100002x0 (x_.1,x_.2.1,true,r_,()))) (fun r_=>k_ 2 (Shape.inj Ji.c100002x1 (x_.1,x_.2.1,x_.2.2.1,r_,()))))
def Ji (l:List Int) (x:Int):Option (Bool):=
 bnd (iter (fun s↦W.Ji.c100002 l x s some) (0:Int)) fun y=>
 sel y
 (fun u=>some true)
 (fun v=>some false)
def Ji.ce:Go.Ql.Callee:=⟨[(.sl (.int .i64)),(.int .i64)],[.bool],fun x_=>Ji x_.1 x_.2⟩
def Ji.G:Env:=⟨18,tab,[],[0,1,4,5,9,17],[],[],[(100002,Ji.c100002r)],[],tab_eqs⟩
theorem Ji.eq (x_:dens Ji.ce.params):den Ji.G Try.f89 Ji.ce.params Ji.ce.res x_=Ji.ce.F x_:=by kernel_rfl
theorem Ji.p0:PcA Ji.G Try.f89 0:=
 loop_ok (s:=Ji.c100002r) (by kernel_rfl) (by kernel_rfl) (loops_of (sh:=Ji.c100002s) (I:=fun x_ s_=>(x_.1,x_.2.1,x_.2.2.1,s_,())) (fun x_=>rfl) (fun ρ x_ s_ k_=>(nat_br (nat_bnd fun _=>(nat_br nat_leaf nat_leaf)) nat_leaf)) (fun ρ x_ t k=>(nat_sel (fun _=>(by kernel_rfl)) (fun _=>(by kernel_rfl)))) (fun x_ s=>by kernel_rfl))
theorem Ji.ok:CalleeOk Try.prog 89 Ji.ce:=fn_ok (G:=Ji.G) tab_ok mixed Try.func89 ⟨fns_nil,mfns_nil,tab_eqs_ok⟩ (m:=1) (by kernel_rfl) ⟨trivial,Ji.p0⟩ (by kernel_rfl) Ji.eq
def jh.c1 {ρ:Type} (o0:Int) (k_:Bool→Option ρ):Option ρ:=
 br (decide (o0 < (1:Int)))
 (k_ true)
 (k_ (decide (o0 > (6:Int))))
def jh.c1s:Shape:=⟨[(0,tb25),(1,tb5),(2,tb5),(3,tb12),(6,tb5)],[(3,tb26)]⟩
def jh.c1x0:Shape:=⟨[(0,tb25),(1,tb5),(2,tb5),(3,tb12),(6,tb5),(17,tb7)],[(3,tb26)]⟩
def jh.c1r:Ck:=Ck.of (T:=Bool) jh.c1s (fun ρ x_ k_=>jh.c1 x_.2.2.2.2.1 k_) (fun ρ x_ r_ k_=>k_ 0 (Shape.inj jh.c1x0 (x_.1,x_.2.1,x_.2.2.1,x_.2.2.2.1,r_,x_.2.2.2.2)))
def jh.c3 {ρ:Type} (o0:Int) (k_:Bool→Option ρ):Option ρ:=
 br (o0 == (1:Int))
 (k_ true)
 (k_ (o0 == (4:Int)))
def jh.c3s:Shape:=jh.c1s
def jh.c3x0:Shape:=⟨[(0,tb25),(1,tb5),(2,tb5),(3,tb12),(6,tb5),(7,tb7)],[(3,tb26)]⟩
def jh.c3r:Ck:=Ck.of (T:=Bool) jh.c3s (fun ρ x_ k_=>jh.c3 x_.2.2.2.2.1 k_) (fun ρ x_ r_ k_=>k_ 0 (Shape.inj jh.c3x0 (x_.1,x_.2.1,x_.2.2.1,x_.2.2.2.1,r_,x_.2.2.2.2)))
def jh.c4 {ρ:Type} (angle:Bool) (o1:Int) (k_:Bool→Option ρ):Option ρ:=
 br (decide (o1 < (0:Int)))
 (k_ true)
 (br (decide (o1 > (15:Int)))
 (k_ true)
 (br (decide (o1 > (0:Int)))
 (k_ (!angle))
 (k_ false)))
def jh.c4s:Shape:=jh.c3x0
def jh.c4x0:Shape:=⟨[(0,tb25),(1,tb5),(2,tb5),(3,tb12),(6,tb5),(7,tb7),(42,tb7)],[(3,tb26)]⟩
def jh.c4r:Ck:=Ck.of (T:=Bool) jh.c4s (fun ρ x_ k_=>jh.c4 x_.2.2.2.2.1 x_.2.2.2.2.2.2.1 k_) (fun ρ x_ r_ k_=>k_ 0 (Shape.inj jh.c4x0 (x_.1,x_.2.1,x_.2.2.1,x_.2.2.2.1,x_.2.2.2.2.1,r_,x_.2.2.2.2.2)))
def jh.c6 {ρ:Type} (qubits:Int) (o0:Int) (o3:Int) (k_:Bool→Option ρ):Option ρ:=
 br (decide (o3 < (0:Int)))
 (k_ true)
 (br (decide (o3≥qubits))
 (k_ true)
 (br (o0 == (1:Int))
 (k_ (decide (o3 > (0:Int))))
 (k_ false)))
def jh.c6s:Shape:=jh.c3x0
def jh.c6x0:Shape:=⟨[(0,tb25),(1,tb5),(2,tb5),(3,tb12),(6,tb5),(7,tb7),(61,tb7)],[(3,tb26)]⟩
def jh.c6r:Ck:=Ck.of (T:=Bool) jh.c6s (fun ρ x_ k_=>jh.c6 x_.2.1 x_.2.2.2.2.2.1 x_.2.2.2.2.2.2.2.2.1 k_) (fun ρ x_ r_ k_=>k_ 0 (Shape.inj jh.c6x0 (x_.1,x_.2.1,x_.2.2.1,x_.2.2.2.1,x_.2.2.2.2.1,r_,x_.2.2.2.2.2)))
def jh.c8 {ρ:Type} (o0:Int) (o2:List Int) (k_:Bool→Option ρ):Option ρ:=
 br (decide ((↑(List.length o2):Int) > (0:Int)))
 (br (o0 != (2:Int))
 (br (o0 != (3:Int))
 (k_ (o0 != (4:Int)))
 (k_ false))
 (k_ false))
 (k_ false)
def jh.c8s:Shape:=jh.c3x0
def jh.c8x0:Shape:=⟨[(0,tb25),(1,tb5),(2,tb5),(3,tb12),(6,tb5),(7,tb7),(80,tb7)],[(3,tb26)]⟩
def jh.c8r:Ck:=Ck.of (T:=Bool) jh.c8s (fun ρ x_ k_=>jh.c8 x_.2.2.2.2.2.1 x_.2.2.2.2.2.2.2.1 k_) (fun ρ x_ r_ k_=>k_ 0 (Shape.inj jh.c8x0 (x_.1,x_.2.1,x_.2.2.1,x_.2.2.2.1,x_.2.2.2.2.1,r_,x_.2.2.2.2.2)))
def jh.c13 {ρ:Type} (qubits:Int) (i:Int) (o2:List Int) (k_:Bool→Option ρ):Option ρ:=
 bnd (idx o2 i) fun y=>
 br (decide (y < (0:Int)))
 (k_ true)
 (bnd (idx o2 i) fun y_1=>
 k_ (decide (y_1≥qubits)))
def jh.c13s:Shape:=⟨[(0,tb25),(1,tb5),(2,tb5),(3,tb12),(6,tb5),(7,tb7),(8,tb5)],[(3,tb26)]⟩
def jh.c13x0:Shape:=⟨[(0,tb25),(1,tb5),(2,tb5),(3,tb12),(6,tb5),(7,tb7),(8,tb5),(102,tb7)],[(3,tb26)]⟩
def jh.c13r:Ck:=Ck.of (T:=Bool) jh.c13s (fun ρ x_ k_=>jh.c13 x_.2.1 x_.2.2.2.2.2.1 x_.2.2.2.2.2.2.2.2.1 k_) (fun ρ x_ r_ k_=>k_ 0 (Shape.inj jh.c13x0 (x_.1,x_.2.1,x_.2.2.1,x_.2.2.2.1,x_.2.2.2.2.1,x_.2.2.2.2.2.1,r_,x_.2.2.2.2.2.2)))
def jh.c15 {ρ:Type} (i:Int) (o2:List Int) (o3:Int) (k_:Bool→Option ρ):Option ρ:=
 bnd (idx o2 i) fun y=>
 br (y == o3)
 (k_ true)
 (bnd (okIf (decide ((0:Int)≤i) && decide (i≤(↑(List.length o2):Int)))) fun y_1=>
 bnd (idx o2 i) fun y_2=>
 bnd (W.Ji (List.take (Int.toNat i) o2) y_2) fun y_3=>
 k_ y_3)
def jh.c15s:Shape:=jh.c13s
def jh.c15x0:Shape:=⟨[(0,tb25),(1,tb5),(2,tb5),(3,tb12),(6,tb5),(7,tb7),(8,tb5),(122,tb7)],[(3,tb26)]⟩
def jh.c15r:Ck:=Ck.of (T:=Bool) jh.c15s (fun ρ x_ k_=>jh.c15 x_.2.2.2.2.2.1 x_.2.2.2.2.2.2.2.2.1 x_.2.2.2.2.2.2.2.2.2.1 k_) (fun ρ x_ r_ k_=>k_ 0 (Shape.inj jh.c15x0 (x_.1,x_.2.1,x_.2.2.1,x_.2.2.2.1,x_.2.2.2.2.1,x_.2.2.2.2.2.1,r_,x_.2.2.2.2.2.2)))
def jh.c100011 {ρ:Type} (qubits:Int) (i:Int) (o2:List Int) (o3:Int) (k_:Int⊕((Int×Int)⊕Int)→Option ρ):Option ρ:=
 br (decide (i < (↑(List.length o2):Int)))
 (bnd (W.jh.c13 qubits i o2 some) fun y=>
 br y
 (k_ (.inr (.inl ((10:Int),i))))
 (bnd (W.jh.c15 i o2 o3 some) fun y_1=>
 br y_1
 (k_ (.inr (.inl ((12:Int),i))))
 (k_ (.inl (IntKind.wrap IntKind.i64 (i+(1:Int)))))))
 (k_ (.inr (.inr i)))
def jh.c100011s:Shape:=jh.c13s
def jh.c100011x0:Shape:=jh.c13s
def jh.c100011x1:Shape:=jh.c13s
def jh.c100011r:Ck:=Ck.ofLoop (S:=Int) (T:=(Int×Int)⊕Int) jh.c100011s (fun x_=>x_.2.2.2.2.2.1) (fun ρ x_ s_ k_=>jh.c100011 x_.2.1 s_ x_.2.2.2.2.2.2.2.2.1 x_.2.2.2.2.2.2.2.2.2.1 k_) (fun ρ x_ r_ k_=>sel r_ (fun r_=>k_ 1 (Shape.inj jh.c100011x0 (x_.1,x_.2.1,x_.2.2.1,r_.1,x_.2.2.2.2.1,r_.2,x_.2.2.2.2.2.2))) (fun r_=>k_ 2 (Shape.inj jh.c100011x1 (x_.1,x_.2.1,x_.2.2.1,x_.2.2.2.1,x_.2.2.2.2.1,r_,x_.2.2.2.2.2.2))))
def jh.c18 {ρ:Type} (bits:Int) (o4:Int) (k_:Bool→Option ρ):Option ρ:=
 br (decide (o4 < (0:Int)))
 (k_ true)
 (k_ (decide (o4≥bits)))
def jh.c18s:Shape:=jh.c13s
def jh.c18x0:Shape:=⟨[(0,tb25),(1,tb5),(2,tb5),(3,tb12),(6,tb5),(7,tb7),(8,tb5),(134,tb7)],[(3,tb26)]⟩
def jh.c18r:Ck:=Ck.of (T:=Bool) jh.c18s (fun ρ x_ k_=>jh.c18 x_.2.2.1 x_.2.2.2.2.2.2.2.2.2.2.1 k_) (fun ρ x_ r_ k_=>k_ 0 (Shape.inj jh.c18x0 (x_.1,x_.2.1,x_.2.2.1,x_.2.2.2.1,x_.2.2.2.2.1,x_.2.2.2.2.2.1,r_,x_.2.2.2.2.2.2)))
def jh.c269649 {ρ:Type} (bits:Int) (o0:Int) (o4:Int) (k_:(Unit)⊕(Unit)→Option ρ):Option ρ:=
 br (o0 == (5:Int))
 (bnd (W.jh.c18 bits o4 some) fun y=>
 br y
 (k_ (.inl ()))
 (k_ (.inr ())))
 (br (o4 != (0:Int))
 (k_ (.inl ()))
 (k_ (.inr ())))
def jh.c269649s:Shape:=jh.c13s
def jh.c269649x0:Shape:=jh.c13s
def jh.c269649x1:Shape:=jh.c13s
def jh.c269649r:Ck:=Ck.of (T:=(Unit)⊕(Unit)) jh.c269649s (fun ρ x_ k_=>jh.c269649 x_.2.2.1 x_.2.2.2.2.2.2.1 x_.2.2.2.2.2.2.2.2.2.2.1 k_) (fun ρ x_ r_ k_=>sel r_ (fun r_=>k_ 1 (Shape.inj jh.c269649x0 (x_.1,x_.2.1,x_.2.2.1,(13:Int),x_.2.2.2.2))) (fun r_=>k_ 0 (Shape.inj jh.c269649x1 x_)))
def jh.c27 {ρ:Type} (bits:Int) (i_1:Int) (o5:List Int) (k_:Bool→Option ρ):Option ρ:=
 bnd (idx o5 i_1) fun y=>
 br (y == (0:Int))
 (k_ true)
 (bnd (idx o5 i_1) fun y_1=>
 br (decide (y_1 > bits))
 (k_ true)
 (bnd (idx o5 i_1) fun y_2=>
 k_ (decide (y_2 < IntKind.wrap IntKind.i64 ((0:Int) - bits)))))
def jh.c27s:Shape:=⟨[(0,tb25),(1,tb5),(2,tb5),(3,tb12),(6,tb5),(7,tb7),(8,tb5),(9,tb5)],[(3,tb26)]⟩
def jh.c27x0:Shape:=⟨[(0,tb25),(1,tb5),(2,tb5),(3,tb12),(6,tb5),(7,tb7),(8,tb5),(9,tb5),(173,tb7)],[(3,tb26)]⟩
def jh.c27r:Ck:=Ck.of (T:=Bool) jh.c27s (fun ρ x_ k_=>jh.c27 x_.2.2.1 x_.2.2.2.2.2.2.1 x_.2.2.2.2.2.2.2.2.2.2.2.2.1 k_) (fun ρ x_ r_ k_=>k_ 0 (Shape.inj jh.c27x0 (x_.1,x_.2.1,x_.2.2.1,x_.2.2.2.1,x_.2.2.2.2.1,x_.2.2.2.2.2.1,x_.2.2.2.2.2.2.1,r_,x_.2.2.2.2.2.2.2)))
def jh.c100025 {ρ:Type} (bits:Int) (i_1:Int) (o5:List Int) (k_:Int⊕(Int⊕Int)→Option ρ):Option ρ:=
 br (decide (i_1 < (↑(List.length o5):Int)))
 (bnd (W.jh.c27 bits i_1 o5 some) fun y=>
 br y
 (k_ (.inr (.inl i_1)))
 (k_ (.inl (IntKind.wrap IntKind.i64 (i_1+(1:Int))))))
 (k_ (.inr (.inr i_1)))
def jh.c100025s:Shape:=jh.c27s
def jh.c100025x0:Shape:=jh.c27s
def jh.c100025x1:Shape:=jh.c27s
def jh.c100025r:Ck:=Ck.ofLoop (S:=Int) (T:=Int⊕Int) jh.c100025s (fun x_=>x_.2.2.2.2.2.2.1) (fun ρ x_ s_ k_=>jh.c100025 x_.2.2.1 s_ x_.2.2.2.2.2.2.2.2.2.2.2.2.1 k_) (fun ρ x_ r_ k_=>sel r_ (fun r_=>k_ 1 (Shape.inj jh.c100025x0 (x_.1,x_.2.1,x_.2.2.1,(14:Int),x_.2.2.2.2.1,x_.2.2.2.2.2.1,r_,x_.2.2.2.2.2.2.2))) (fun r_=>k_ 4 (Shape.inj jh.c100025x1 (x_.1,x_.2.1,x_.2.2.1,x_.2.2.2.1,x_.2.2.2.2.1,x_.2.2.2.2.2.1,r_,x_.2.2.2.2.2.2.2))))
def jh (o:Int×(Int×((List Int)×(Int×(Int×(List Int)))))) (qubits:Int) (bits:Int):Option Int:=
 bnd (W.jh.c1 o.1 some) fun y=>
 br y
 (some (8:Int))
 (bnd (W.jh.c3 o.1 some) fun y_1=>
 bnd (W.jh.c4 y_1 o.2.1 some) fun y_2=>
 br y_2
 (some (9:Int))
 (bnd (W.jh.c6 qubits o.1 o.2.2.2.1 some) fun y_3=>
 br y_3
 (some (10:Int))
 (bnd (W.jh.c8 o.1 o.2.2.1 some) fun y_4=>
 br y_4
 (some (11:Int))
 (bnd (iter (fun s↦W.jh.c100011 qubits s o.2.2.1 o.2.2.2.1 some) (0:Int)) fun y_5=>
 sel y_5
 (fun u=>some u.1)
 (fun v=>bnd (W.jh.c269649 bits o.1 o.2.2.2.2.1 some) fun y_6=>
 sel y_6
 (fun u_1=>some (13:Int))
 (fun v_1=>br (decide ((↑(List.length o.2.2.2.2.2):Int) > (24:Int)))
 (some (14:Int))
 (bnd (iter (fun s↦W.jh.c100025 bits s o.2.2.2.2.2 some) (0:Int)) fun y_7=>
 sel y_7
 (fun u_2=>some (14:Int))
 (fun v_2=>some (0:Int)))))))))
def jh.ce:Go.Ql.Callee:=⟨[(.st (.pair (.int .i64) (.pair (.int .i64) (.pair (.sl (.int .i64)) (.pair (.int .i64) (.pair (.int .i64) (.sl (.int .i64)))))))),(.int .i64),(.int .i64)],[(.int .i64)],fun x_=>jh x_.1 x_.2.1 x_.2.2⟩
def jh.G:Env:=⟨174,tab,[(89,Ji.ce)],[0,1,2,3,6,7,8,9,17,42,61,80,85,102,122,125,134,137,141,146,173],[],[(15,[⟨[],[],[105,108,109],[]⟩,⟨[0],[],[105,108,109],[]⟩,⟨[],[],[103,104,108,109],[]⟩,⟨[1,0,2],[],[108,109],[]⟩,⟨[3,1,0,2],[],[108,109],[]⟩,⟨[],[],[103,104,105,106,107],[]⟩,⟨[5],[],[103,104,105,106,107],[]⟩,⟨[4,3,1,0,2,6,5],[],[],[]⟩,⟨[7,4,3,1,0,2,6,5],[],[],[]⟩,⟨[8,7,4,3,1,0,2,6,5],[],[114,116,117,118,119,120],[]⟩,⟨[9,8,7,4,3,1,0,2,6,5],[],[114,116,117,118,119,120],[]⟩,⟨[8,7,4,3,1,0,2,6,5],[],[112,113,116,117,118,119,120],[]⟩,⟨[10,9,8,7,4,3,1,0,2,6,5,11],[],[116,117,118,119,120],[]⟩,⟨[8,7,4,3,1,0,2,6,5],[],[112,113,114,115,118],[]⟩,⟨[13,8,7,4,3,1,0,2,6,5],[],[112,113,114,115,118],[]⟩,⟨[8,7,4,3,1,0,2,6,5],[],[112,113,114,115,116,117],[]⟩,⟨[14,13,8,7,4,3,1,0,2,6,5,15],[],[112,113,114,115],[]⟩,⟨[16,14,13,8,7,4,3,1,0,2,6,5,15],[],[112,113,114,115],[]⟩,⟨[12,10,9,8,7,4,3,1,0,2,6,5,11,17,16,14,13,15],[],[],[]⟩,⟨[8,7,4,3,1,0,2,6,5,18,12,10,9,11,17,16,14,13,15],[],[],[]⟩])],[(100025,jh.c100025r),(27,jh.c27r),(269649,jh.c269649r),(18,jh.c18r),(100011,jh.c100011r),(15,jh.c15r),(13,jh.c13r),(8,jh.c8r),(6,jh.c6r),(4,jh.c4r),(3,jh.c3r),(1,jh.c1r)],[],tab_eqs⟩
theorem jh.eq (x_:dens jh.ce.params):den jh.G Try.f45 jh.ce.params jh.ce.res x_=jh.ce.F x_:=by kernel_rfl
theorem jh.p0:PcA jh.G Try.f45 0:=
 region_ok (s:=jh.c1r) (by kernel_rfl) (by kernel_rfl) (sums_of (sh:=jh.c1s) (fun ρ x_ k_=>(nat_br nat_leaf nat_leaf)) (fun ρ x_ t k=>(by kernel_rfl)) (fun x_=>by kernel_rfl))
theorem jh.p1:PcA jh.G Try.f45 1:=
 region_ok (s:=jh.c3r) (by kernel_rfl) (by kernel_rfl) (sums_of (sh:=jh.c3s) (fun ρ x_ k_=>(nat_br nat_leaf nat_leaf)) (fun ρ x_ t k=>(by kernel_rfl)) (fun x_=>by kernel_rfl))
theorem jh.p2:PcA jh.G Try.f45 2:=
 region_ok (s:=jh.c4r) (by kernel_rfl) (by kernel_rfl) (sums_of (sh:=jh.c4s) (fun ρ x_ k_=>(nat_br nat_leaf (nat_br nat_leaf (nat_br nat_leaf nat_leaf)))) (fun ρ x_ t k=>(by kernel_rfl)) (fun x_=>by kernel_rfl))
theorem jh.p3:PcA jh.G Try.f45 3:=
 region_ok (s:=jh.c6r) (by kernel_rfl) (by kernel_rfl) (sums_of (sh:=jh.c6s) (fun ρ x_ k_=>(nat_br nat_leaf (nat_br nat_leaf (nat_br nat_leaf nat_leaf)))) (fun ρ x_ t k=>(by kernel_rfl)) (fun x_=>by kernel_rfl))
theorem jh.p4:PcA jh.G Try.f45 4:=
 region_ok (s:=jh.c8r) (by kernel_rfl) (by kernel_rfl) (sums_of (sh:=jh.c8s) (fun ρ x_ k_=>(nat_br (nat_br (nat_br nat_leaf nat_leaf) nat_leaf) nat_leaf)) (fun ρ x_ t k=>(by kernel_rfl)) (fun x_=>by kernel_rfl))
theorem jh.p5:PcA jh.G Try.f45 5:=
 loop_ok (s:=jh.c100011r) (by kernel_rfl) (by kernel_rfl) (loops_of (sh:=jh.c100011s) (I:=fun x_ s_=>(x_.1,x_.2.1,x_.2.2.1,x_.2.2.2.1,x_.2.2.2.2.1,s_,x_.2.2.2.2.2.2)) (fun x_=>rfl) (fun ρ x_ s_ k_=>(nat_br (nat_bnd fun _=>(nat_br nat_leaf (nat_bnd fun _=>(nat_br nat_leaf nat_leaf)))) nat_leaf)) (fun ρ x_ t k=>(nat_sel (fun _=>(by kernel_rfl)) (fun _=>(by kernel_rfl)))) (fun x_ s=>by kernel_rfl))
theorem jh.p6:PcA jh.G Try.f45 6:=
 region_ok (s:=jh.c13r) (by kernel_rfl) (by kernel_rfl) (sums_of (sh:=jh.c13s) (fun ρ x_ k_=>(nat_bnd fun _=>(nat_br nat_leaf (nat_bnd fun _=>nat_leaf)))) (fun ρ x_ t k=>(by kernel_rfl)) (fun x_=>by kernel_rfl))
theorem jh.p7:PcA jh.G Try.f45 7:=
 region_ok (s:=jh.c15r) (by kernel_rfl) (by kernel_rfl) (sums_of (sh:=jh.c15s) (fun ρ x_ k_=>(nat_bnd fun _=>(nat_br nat_leaf (nat_bnd fun _=>(nat_bnd fun _=>(nat_bnd fun _=>nat_leaf)))))) (fun ρ x_ t k=>(by kernel_rfl)) (fun x_=>by kernel_rfl))
theorem jh.p8:PcA jh.G Try.f45 8:=
 join_ok (s:=jh.c269649r) (by kernel_rfl) (by kernel_rfl) (sums_of (sh:=jh.c269649s) (fun ρ x_ k_=>(nat_br (nat_bnd fun _=>(nat_br nat_leaf nat_leaf)) (nat_br nat_leaf nat_leaf))) (fun ρ x_ t k=>(nat_sel (fun _=>(by kernel_rfl)) (fun _=>(by kernel_rfl)))) (fun x_=>by kernel_rfl))
theorem jh.p9:PcA jh.G Try.f45 9:=
 region_ok (s:=jh.c18r) (by kernel_rfl) (by kernel_rfl) (sums_of (sh:=jh.c18s) (fun ρ x_ k_=>(nat_br nat_leaf nat_leaf)) (fun ρ x_ t k=>(by kernel_rfl)) (fun x_=>by kernel_rfl))
theorem jh.p10:PcA jh.G Try.f45 10:=
 loop_ok (s:=jh.c100025r) (by kernel_rfl) (by kernel_rfl) (loops_of (sh:=jh.c100025s) (I:=fun x_ s_=>(x_.1,x_.2.1,x_.2.2.1,x_.2.2.2.1,x_.2.2.2.2.1,x_.2.2.2.2.2.1,s_,x_.2.2.2.2.2.2.2)) (fun x_=>rfl) (fun ρ x_ s_ k_=>(nat_br (nat_bnd fun _=>(nat_br nat_leaf nat_leaf)) nat_leaf)) (fun ρ x_ t k=>(nat_sel (fun _=>(by kernel_rfl)) (fun _=>(by kernel_rfl)))) (fun x_ s=>by kernel_rfl))
theorem jh.p11:PcA jh.G Try.f45 11:=
 region_ok (s:=jh.c27r) (by kernel_rfl) (by kernel_rfl) (sums_of (sh:=jh.c27s) (fun ρ x_ k_=>(nat_bnd fun _=>(nat_br nat_leaf (nat_bnd fun _=>(nat_br nat_leaf (nat_bnd fun _=>nat_leaf)))))) (fun ρ x_ t k=>(by kernel_rfl)) (fun x_=>by kernel_rfl))
theorem jh.ok:CalleeOk Try.prog 45 jh.ce:=fn_ok (G:=jh.G) tab_ok mixed Try.func45 ⟨(fns_cons Ji.ok fns_nil),mfns_nil,tab_eqs_ok⟩ (m:=12) (by kernel_rfl) ⟨⟨⟨⟨⟨⟨⟨⟨⟨⟨⟨⟨trivial,jh.p0⟩,jh.p1⟩,jh.p2⟩,jh.p3⟩,jh.p4⟩,jh.p5⟩,jh.p6⟩,jh.p7⟩,jh.p8⟩,jh.p9⟩,jh.p10⟩,jh.p11⟩ (by kernel_rfl) jh.eq
def jF.c1 {ρ:Type} (c0:Int) (k_:Bool→Option ρ):Option ρ:=
 br (decide (c0 < (1:Int)))
 (k_ true)
 (k_ (decide (c0 > (12:Int))))
def jF.c1s:Shape:=⟨[(0,tb38),(1,tb1),(2,tb2)],[(1,tb34),(2,tb19)]⟩
def jF.c1x0:Shape:=⟨[(0,tb38),(1,tb1),(2,tb2),(12,tb7)],[(1,tb34),(2,tb19)]⟩
def jF.c1r:Ck:=Ck.of (T:=Bool) jF.c1s (fun ρ x_ k_=>jF.c1 x_.2.1 k_) (fun ρ x_ r_ k_=>k_ 0 (Shape.inj jF.c1x0 (x_.1,r_,x_.2)))
def jF.c3 {ρ:Type} (c1:Int) (k_:Bool→Option ρ):Option ρ:=
 br (decide (c1 < (0:Int)))
 (k_ true)
 (k_ (decide (c1 > (12:Int))))
def jF.c3s:Shape:=jF.c1s
def jF.c3x0:Shape:=⟨[(0,tb38),(1,tb1),(2,tb2),(21,tb7)],[(1,tb34),(2,tb19)]⟩
def jF.c3r:Ck:=Ck.of (T:=Bool) jF.c3s (fun ρ x_ k_=>jF.c3 x_.2.2.1 k_) (fun ρ x_ r_ k_=>k_ 0 (Shape.inj jF.c3x0 (x_.1,r_,x_.2)))
def jF.c10 {ρ:Type} (i:Int) (c0:Int) (c1:Int) (c2:List (Int×(Int×((List Int)×(Int×(Int×(List Int))))))) (k_:Int→Option ρ):Option ρ:=
 bnd (idx c2 i) fun y=>
 bnd (W.jh y c0 c1) fun y_1=>
 k_ y_1
def jF.c10s:Shape:=⟨[(0,tb38),(1,tb1),(2,tb2),(3,tb5)],[(1,tb34),(2,tb19)]⟩
def jF.c10x0:Shape:=⟨[(0,tb38),(1,tb1),(2,tb2),(3,tb5),(4,tb5)],[(1,tb34),(2,tb19)]⟩
def jF.c10r:Ck:=Ck.of (T:=Int) jF.c10s (fun ρ x_ k_=>jF.c10 x_.2.1 x_.2.2.1 x_.2.2.2.1 x_.2.2.2.2.1 k_) (fun ρ x_ r_ k_=>k_ 0 (Shape.inj jF.c10x0 (x_.1,x_.2.1,r_,x_.2.2)))
def jF.c100008 {ρ:Type} (i:Int) (c0:Int) (c1:Int) (c2:List (Int×(Int×((List Int)×(Int×(Int×(List Int))))))) (k_:Int⊕((Int×Int×Int)⊕Int)→Option ρ):Option ρ:=
 br (decide (i < (↑(List.length c2):Int)))
 (bnd (W.jF.c10 i c0 c1 c2 some) fun y=>
 br (y != (0:Int))
 (bnd (W.Jo y i) fun y_1=>
 k_ (.inr (.inl (i,y_1.1,y_1.2))))
 (k_ (.inl (IntKind.wrap IntKind.i64 (i+(1:Int))))))
 (k_ (.inr (.inr i)))
def jF.c100008s:Shape:=jF.c10s
def jF.c100008x0:Shape:=jF.c10s
def jF.c100008x1:Shape:=jF.c10s
def jF.c100008r:Ck:=Ck.ofLoop (S:=Int) (T:=(Int×Int×Int)⊕Int) jF.c100008s (fun x_=>x_.2.1) (fun ρ x_ s_ k_=>jF.c100008 s_ x_.2.2.1 x_.2.2.2.1 x_.2.2.2.2.1 k_) (fun ρ x_ r_ k_=>sel r_ (fun r_=>k_ 1 (Shape.inj jF.c100008x0 (x_.1,r_.1,x_.2.2.1,x_.2.2.2.1,x_.2.2.2.2.1,r_.2.1,r_.2.2,()))) (fun r_=>k_ 2 (Shape.inj jF.c100008x1 (x_.1,r_,x_.2.2))))
def jF (c:Int×(Int×(List (Int×(Int×((List Int)×(Int×(Int×(List Int))))))))):Option (Int×Int):=
 bnd (W.jF.c1 c.1 some) fun y=>
 br y
 (bnd (W.Jo (6:Int) (0:Int)) fun y_1=>
 some (y_1.1,y_1.2))
 (bnd (W.jF.c3 c.2.1 some) fun y_2=>
 br y_2
 (bnd (W.Jo (7:Int) (0:Int)) fun y_3=>
 some (y_3.1,y_3.2))
 (br (decide ((↑(List.length c.2.2):Int) > (4096:Int)))
 (bnd (W.Jo (2:Int) (0:Int)) fun y_4=>
 some (y_4.1,y_4.2))
 (bnd (iter (fun s↦W.jF.c100008 s c.1 c.2.1 c.2.2 some) (0:Int)) fun y_5=>
 sel y_5
 (fun u=>some (u.2.1,u.2.2))
 (fun v=>some ((0:Int),(0:Int))))))
def jF.ce:Go.Ql.Callee:=⟨[(.st (.pair (.int .i64) (.pair (.int .i64) (.sl (.st (.pair (.int .i64) (.pair (.int .i64) (.pair (.sl (.int .i64)) (.pair (.int .i64) (.pair (.int .i64) (.sl (.int .i64))))))))))))],[(.st (.pair (.int .i64) (.int .i64)))],fun x_=>jF x_⟩
def jF.G:Env:=⟨51,tab,[(44,Jo.ce),(45,jh.ce)],[0,1,2,3,4,12,21,26,32,46],[],[(10,[⟨[],[],[37,40,41,42,43],[]⟩,⟨[0],[],[37,40,41,42,43],[]⟩,⟨[],[],[35,36,40,41,42,43],[]⟩,⟨[1,0,2],[],[40,41,42,43],[]⟩,⟨[3,1,0,2],[],[40,41,42,43],[]⟩,⟨[],[],[35,36,37,38,39,42,43],[]⟩,⟨[5],[],[35,36,37,38,39,42,43],[]⟩,⟨[],[],[35,36,37,38,39,40,41],[]⟩,⟨[7],[],[35,36,37,38,39,40,41],[]⟩,⟨[4,3,1,0,2,6,5,8,7],[],[],[]⟩,⟨[9,4,3,1,0,2,6,5,8,7],[],[],[]⟩])],[(100008,jF.c100008r),(10,jF.c10r),(3,jF.c3r),(1,jF.c1r)],[],tab_eqs⟩
theorem jF.eq (x_:dens jF.ce.params):den jF.G Try.f13 jF.ce.params jF.ce.res x_=jF.ce.F x_:=by kernel_rfl
theorem jF.p0:PcA jF.G Try.f13 0:=
 region_ok (s:=jF.c1r) (by kernel_rfl) (by kernel_rfl) (sums_of (sh:=jF.c1s) (fun ρ x_ k_=>(nat_br nat_leaf nat_leaf)) (fun ρ x_ t k=>(by kernel_rfl)) (fun x_=>by kernel_rfl))
theorem jF.p1:PcA jF.G Try.f13 1:=
 region_ok (s:=jF.c3r) (by kernel_rfl) (by kernel_rfl) (sums_of (sh:=jF.c3s) (fun ρ x_ k_=>(nat_br nat_leaf nat_leaf)) (fun ρ x_ t k=>(by kernel_rfl)) (fun x_=>by kernel_rfl))
theorem jF.p2:PcA jF.G Try.f13 2:=
 loop_ok (s:=jF.c100008r) (by kernel_rfl) (by kernel_rfl) (loops_of (sh:=jF.c100008s) (I:=fun x_ s_=>(x_.1,s_,x_.2.2)) (fun x_=>rfl) (fun ρ x_ s_ k_=>(nat_br (nat_bnd fun _=>(nat_br (nat_bnd fun _=>nat_leaf) nat_leaf)) nat_leaf)) (fun ρ x_ t k=>(nat_sel (fun _=>(by kernel_rfl)) (fun _=>(by kernel_rfl)))) (fun x_ s=>by kernel_rfl))
theorem jF.p3:PcA jF.G Try.f13 3:=
 region_ok (s:=jF.c10r) (by kernel_rfl) (by kernel_rfl) (sums_of (sh:=jF.c10s) (fun ρ x_ k_=>(nat_bnd fun _=>(nat_bnd fun _=>nat_leaf))) (fun ρ x_ t k=>(by kernel_rfl)) (fun x_=>by kernel_rfl))
theorem jF.ok:CalleeOk Try.prog 13 jF.ce:=fn_ok (G:=jF.G) tab_ok mixed Try.func13 ⟨(fns_cons Jo.ok (fns_cons jh.ok fns_nil)),mfns_nil,tab_eqs_ok⟩ (m:=4) (by kernel_rfl) ⟨⟨⟨⟨trivial,jF.p0⟩,jF.p1⟩,jF.p2⟩,jF.p3⟩ (by kernel_rfl) jF.eq
def Jg.c7 {ρ:Type} (i:Int) (c2:List (Int×(Int×((List Int)×(Int×(Int×(List Int))))))) (k_:Bool→Option ρ):Option ρ:=
 bnd (idx c2 i) fun y=>
 br (decide (y.1≥(5:Int)))
 (k_ true)
 (bnd (idx c2 i) fun y_1=>
 k_ (decide ((↑(List.length y_1.2.2.2.2.2):Int) > (0:Int))))
def Jg.c7s:Shape:=⟨[(0,tb38),(1,tb1),(2,tb2),(3,tb12),(4,tb5)],[(1,tb34),(2,tb19),(3,tb19)]⟩
def Jg.c7x0:Shape:=⟨[(0,tb38),(1,tb1),(2,tb2),(3,tb12),(4,tb5),(34,tb7)],[(1,tb34),(2,tb19),(3,tb19)]⟩
def Jg.c7r:Ck:=Ck.of (T:=Bool) Jg.c7s (fun ρ x_ k_=>Jg.c7 x_.2.1 x_.2.2.2.2.1 k_) (fun ρ x_ r_ k_=>k_ 0 (Shape.inj Jg.c7x0 (x_.1,x_.2.1,r_,x_.2.2)))
def Jg.c100005 {ρ:Type} (i:Int) (c2:List (Int×(Int×((List Int)×(Int×(Int×(List Int))))))) (k_:Int⊕((Int×Int×Int)⊕Int)→Option ρ):Option ρ:=
 br (decide (i < (↑(List.length c2):Int)))
 (bnd (W.Jg.c7 i c2 some) fun y=>
 br y
 (bnd (W.Jo (15:Int) i) fun y_1=>
 k_ (.inr (.inl (i,y_1.1,y_1.2))))
 (k_ (.inl (IntKind.wrap IntKind.i64 (i+(1:Int))))))
 (k_ (.inr (.inr i)))
def Jg.c100005s:Shape:=Jg.c7s
def Jg.c100005x0:Shape:=Jg.c7s
def Jg.c100005x1:Shape:=Jg.c7s
def Jg.c100005r:Ck:=Ck.ofLoop (S:=Int) (T:=(Int×Int×Int)⊕Int) Jg.c100005s (fun x_=>x_.2.1) (fun ρ x_ s_ k_=>Jg.c100005 s_ x_.2.2.2.2.1 k_) (fun ρ x_ r_ k_=>sel r_ (fun r_=>k_ 1 (Shape.inj Jg.c100005x0 (x_.1,r_.1,x_.2.2.1,x_.2.2.2.1,x_.2.2.2.2.1,r_.2.1,r_.2.2,x_.2.2.2.2.2.2.2))) (fun r_=>k_ 2 (Shape.inj Jg.c100005x1 (x_.1,r_,x_.2.2))))
def Jg (c:Int×(Int×(List (Int×(Int×((List Int)×(Int×(Int×(List Int))))))))):Option (Int×Int):=
 bnd (W.jF (c.1,c.2.1,c.2.2)) fun y=>
 br (y.1 != (0:Int))
 (some (y.1,y.2))
 (bnd (iter (fun s↦W.Jg.c100005 s c.2.2 some) (0:Int)) fun y_1=>
 sel y_1
 (fun u=>some (u.2.1,u.2.2))
 (fun v=>some (y.1,y.2)))
def Jg.ce:Go.Ql.Callee:=⟨[(.st (.pair (.int .i64) (.pair (.int .i64) (.sl (.st (.pair (.int .i64) (.pair (.int .i64) (.pair (.sl (.int .i64)) (.pair (.int .i64) (.pair (.int .i64) (.sl (.int .i64))))))))))))],[(.st (.pair (.int .i64) (.int .i64)))],fun x_=>Jg x_⟩
def Jg.G:Env:=⟨38,tab,[(13,jF.ce),(44,Jo.ce)],[0,1,2,3,4,9,15,34],[],[],[(100005,Jg.c100005r),(7,Jg.c7r)],[],tab_eqs⟩
theorem Jg.eq (x_:dens Jg.ce.params):den Jg.G Try.f21 Jg.ce.params Jg.ce.res x_=Jg.ce.F x_:=by kernel_rfl
theorem Jg.p0:PcA Jg.G Try.f21 0:=
 loop_ok (s:=Jg.c100005r) (by kernel_rfl) (by kernel_rfl) (loops_of (sh:=Jg.c100005s) (I:=fun x_ s_=>(x_.1,s_,x_.2.2)) (fun x_=>rfl) (fun ρ x_ s_ k_=>(nat_br (nat_bnd fun _=>(nat_br (nat_bnd fun _=>nat_leaf) nat_leaf)) nat_leaf)) (fun ρ x_ t k=>(nat_sel (fun _=>(by kernel_rfl)) (fun _=>(by kernel_rfl)))) (fun x_ s=>by kernel_rfl))
theorem Jg.p1:PcA Jg.G Try.f21 1:=
 region_ok (s:=Jg.c7r) (by kernel_rfl) (by kernel_rfl) (sums_of (sh:=Jg.c7s) (fun ρ x_ k_=>(nat_bnd fun _=>(nat_br nat_leaf (nat_bnd fun _=>nat_leaf)))) (fun ρ x_ t k=>(by kernel_rfl)) (fun x_=>by kernel_rfl))
theorem Jg.ok:CalleeOk Try.prog 21 Jg.ce:=fn_ok (G:=Jg.G) tab_ok mixed Try.func21 ⟨(fns_cons jF.ok (fns_cons Jo.ok fns_nil)),mfns_nil,tab_eqs_ok⟩ (m:=2) (by kernel_rfl) ⟨⟨trivial,Jg.p0⟩,Jg.p1⟩ (by kernel_rfl) Jg.eq
def Jf.c6 {ρ:Type} (o1:Int) (o2:List Int) (k_:Bool→Option ρ):Option ρ:=
 br ((↑(List.length o2):Int) == (0:Int))
 (br (Int.tmod o1 (4:Int) == (0:Int))
 (k_ true)
 (br ((↑(List.length o2):Int) == (1:Int))
 (k_ (Int.tmod o1 (8:Int) == (0:Int)))
 (k_ false)))
 (br ((↑(List.length o2):Int) == (1:Int))
 (k_ (Int.tmod o1 (8:Int) == (0:Int)))
 (k_ false))
def Jf.c6s:Shape:=⟨[(0,tb25),(1,tb1),(2,tb7)],[(1,tb26)]⟩
def Jf.c6x0:Shape:=Jf.c6s
def Jf.c6r:Ck:=Ck.of (T:=Bool) Jf.c6s (fun ρ x_ k_=>Jf.c6 x_.2.2.2.1 x_.2.2.2.2.1 k_) (fun ρ x_ r_ k_=>k_ 0 (Shape.inj Jf.c6x0 (x_.1,r_,x_.2.2)))
def Jf (o:Int×(Int×((List Int)×(Int×(Int×(List Int)))))):Option (Bool):=
 br (o.1 == (2:Int))
 (some (decide ((↑(List.length o.2.2.1):Int)≤(1:Int))))
 (br (o.1 == (3:Int))
 (some ((↑(List.length o.2.2.1):Int) == (0:Int)))
 (br (o.1 == (4:Int))
 (bnd (W.Jf.c6 o.2.1 o.2.2.1 some) fun y=>
 some y)
 (some true)))
def Jf.ce:Go.Ql.Callee:=⟨[(.st (.pair (.int .i64) (.pair (.int .i64) (.pair (.sl (.int .i64)) (.pair (.int .i64) (.pair (.int .i64) (.sl (.int .i64))))))))],[.bool],fun x_=>Jf x_⟩
def Jf.G:Env:=⟨42,tab,[],[0,1,2,5,12,19],[],[],[(6,Jf.c6r)],[],tab_eqs⟩
theorem Jf.eq (x_:dens Jf.ce.params):den Jf.G Try.f58 Jf.ce.params Jf.ce.res x_=Jf.ce.F x_:=by kernel_rfl
theorem Jf.p0:PcA Jf.G Try.f58 0:=
 region_ok (s:=Jf.c6r) (by kernel_rfl) (by kernel_rfl) (sums_of (sh:=Jf.c6s) (fun ρ x_ k_=>(nat_br (nat_br nat_leaf (nat_br nat_leaf nat_leaf)) (nat_br nat_leaf nat_leaf))) (fun ρ x_ t k=>(by kernel_rfl)) (fun x_=>by kernel_rfl))
theorem Jf.ok:CalleeOk Try.prog 58 Jf.ce:=fn_ok (G:=Jf.G) tab_ok mixed Try.func58 ⟨fns_nil,mfns_nil,tab_eqs_ok⟩ (m:=1) (by kernel_rfl) ⟨trivial,Jf.p0⟩ (by kernel_rfl) Jf.eq
def jM.c100002 {ρ:Type} (i:Int) (c2:List (Int×(Int×((List Int)×(Int×(Int×(List Int))))))) (k_:Int⊕((Int×Int×Int)⊕Int)→Option ρ):Option ρ:=
 br (decide (i < (↑(List.length c2):Int)))
 (bnd (idx c2 i) fun y=>
 bnd (W.Jf y) fun y_1=>
 br (!y_1)
 (bnd (W.Jo (41:Int) i) fun y_2=>
 k_ (.inr (.inl (i,y_2.1,y_2.2))))
 (k_ (.inl (IntKind.wrap IntKind.i64 (i+(1:Int))))))
 (k_ (.inr (.inr i)))
def jM.c100002s:Shape:=⟨[(0,tb38),(1,tb1),(2,tb2),(3,tb5)],[(1,tb34),(2,tb19)]⟩
def jM.c100002x0:Shape:=jM.c100002s
def jM.c100002x1:Shape:=jM.c100002s
def jM.c100002r:Ck:=Ck.ofLoop (S:=Int) (T:=(Int×Int×Int)⊕Int) jM.c100002s (fun x_=>x_.2.1) (fun ρ x_ s_ k_=>jM.c100002 s_ x_.2.2.2.2.1 k_) (fun ρ x_ r_ k_=>sel r_ (fun r_=>k_ 1 (Shape.inj jM.c100002x0 (x_.1,r_.1,x_.2.2.1,x_.2.2.2.1,x_.2.2.2.2.1,r_.2.1,r_.2.2,()))) (fun r_=>k_ 2 (Shape.inj jM.c100002x1 (x_.1,r_,x_.2.2))))
def jM (c:Int×(Int×(List (Int×(Int×((List Int)×(Int×(Int×(List Int))))))))):Option (Int×Int):=
 bnd (iter (fun s↦W.jM.c100002 s c.2.2 some) (0:Int)) fun y=>
 sel y
 (fun u=>some (u.2.1,u.2.2))
 (fun v=>some ((0:Int),(0:Int)))
def jM.ce:Go.Ql.Callee:=⟨[(.st (.pair (.int .i64) (.pair (.int .i64) (.sl (.st (.pair (.int .i64) (.pair (.int .i64) (.pair (.sl (.int .i64)) (.pair (.int .i64) (.pair (.int .i64) (.sl (.int .i64))))))))))))],[(.st (.pair (.int .i64) (.int .i64)))],fun x_=>jM x_⟩
def jM.G:Env:=⟨21,tab,[(58,Jf.ce),(44,Jo.ce)],[0,1,2,3,8,17],[],[],[(100002,jM.c100002r)],[],tab_eqs⟩
theorem jM.eq (x_:dens jM.ce.params):den jM.G Try.f22 jM.ce.params jM.ce.res x_=jM.ce.F x_:=by kernel_rfl
theorem jM.p0:PcA jM.G Try.f22 0:=
 loop_ok (s:=jM.c100002r) (by kernel_rfl) (by kernel_rfl) (loops_of (sh:=jM.c100002s) (I:=fun x_ s_=>(x_.1,s_,x_.2.2)) (fun x_=>rfl) (fun ρ x_ s_ k_=>(nat_br (nat_bnd fun _=>(nat_bnd fun _=>(nat_br (nat_bnd fun _=>nat_leaf) nat_leaf))) nat_leaf)) (fun ρ x_ t k=>(nat_sel (fun _=>(by kernel_rfl)) (fun _=>(by kernel_rfl)))) (fun x_ s=>by kernel_rfl))
theorem jM.ok:CalleeOk Try.prog 22 jM.ce:=fn_ok (G:=jM.G) tab_ok mixed Try.func22 ⟨(fns_cons Jf.ok (fns_cons Jo.ok fns_nil)),mfns_nil,tab_eqs_ok⟩ (m:=1) (by kernel_rfl) ⟨trivial,jM.p0⟩ (by kernel_rfl) jM.eq
def JB (c:Int×(Int×(List (Int×(Int×((List Int)×(Int×(Int×(List Int))))))))):Option (Int×Int):=
 bnd (W.jK (c.1,c.2.1,c.2.2)) fun y=>
 some (y.1,y.2)
def JB.ce:Go.Ql.Callee:=⟨[(.st (.pair (.int .i64) (.pair (.int .i64) (.sl (.st (.pair (.int .i64) (.pair (.int .i64) (.pair (.sl (.int .i64)) (.pair (.int .i64) (.pair (.int .i64) (.sl (.int .i64))))))))))))],[(.st (.pair (.int .i64) (.int .i64)))],fun x_=>JB x_⟩
def JB.G:Env:=⟨5,tab,[(101,jK.ce)],[0,1,2],[],[],[],[],tab_eqs⟩
theorem JB.eq (x_:dens JB.ce.params):den JB.G Try.f93 JB.ce.params JB.ce.res x_=JB.ce.F x_:=by kernel_rfl
theorem JB.ok:CalleeOk Try.prog 93 JB.ce:=fn_ok (G:=JB.G) tab_ok mixed Try.func93 ⟨(fns_cons jK.ok fns_nil),mfns_nil,tab_eqs_ok⟩ (m:=0) (by kernel_rfl) trivial (by kernel_rfl) JB.eq
def jN.c7 {ρ:Type} (o1:Int) (o2:List Int) (k_:Bool→Option ρ):Option ρ:=
 br ((↑(List.length o2):Int) == (0:Int))
 (br (Int.tmod o1 (4:Int) == (0:Int))
 (k_ true)
 (br ((↑(List.length o2):Int) == (1:Int))
 (k_ (Int.tmod o1 (8:Int) == (0:Int)))
 (k_ false)))
 (br ((↑(List.length o2):Int) == (1:Int))
 (k_ (Int.tmod o1 (8:Int) == (0:Int)))
 (k_ false))
def jN.c7s:Shape:=⟨[(0,tb25),(1,tb1),(2,tb7),(4,tb5)],[(1,tb26)]⟩
def jN.c7x0:Shape:=jN.c7s
def jN.c7r:Ck:=Ck.of (T:=Bool) jN.c7s (fun ρ x_ k_=>jN.c7 x_.2.2.2.2.1 x_.2.2.2.2.2.1 k_) (fun ρ x_ r_ k_=>k_ 0 (Shape.inj jN.c7x0 (x_.1,r_,x_.2.2)))
def jN (o:Int×(Int×((List Int)×(Int×(Int×(List Int)))))):Option (Bool):=
 br (o.1 == (2:Int))
 (some (decide ((↑(List.length o.2.2.1):Int) < (2:Int))))
 (br (o.1 == (3:Int))
 (some ((↑(List.length o.2.2.1):Int) == (0:Int)))
 (br (o.1 == (4:Int))
 (bnd (W.jN.c7 o.2.1 o.2.2.1 some) fun y=>
 some y)
 (some true)))
def jN.ce:Go.Ql.Callee:=⟨[(.st (.pair (.int .i64) (.pair (.int .i64) (.pair (.sl (.int .i64)) (.pair (.int .i64) (.pair (.int .i64) (.sl (.int .i64))))))))],[.bool],fun x_=>jN x_⟩
def jN.G:Env:=⟨41,tab,[],[0,1,2,4,5,11,17],[],[],[(7,jN.c7r)],[],tab_eqs⟩
theorem jN.eq (x_:dens jN.ce.params):den jN.G Try.f82 jN.ce.params jN.ce.res x_=jN.ce.F x_:=by kernel_rfl
theorem jN.p0:PcA jN.G Try.f82 0:=
 region_ok (s:=jN.c7r) (by kernel_rfl) (by kernel_rfl) (sums_of (sh:=jN.c7s) (fun ρ x_ k_=>(nat_br (nat_br nat_leaf (nat_br nat_leaf nat_leaf)) (nat_br nat_leaf nat_leaf))) (fun ρ x_ t k=>(by kernel_rfl)) (fun x_=>by kernel_rfl))
theorem jN.ok:CalleeOk Try.prog 82 jN.ce:=fn_ok (G:=jN.G) tab_ok mixed Try.func82 ⟨fns_nil,mfns_nil,tab_eqs_ok⟩ (m:=1) (by kernel_rfl) ⟨trivial,jN.p0⟩ (by kernel_rfl) jN.eq
def jz.c100002 {ρ:Type} (t6:List (Int×(Int×((List Int)×(Int×(Int×(List Int))))))) (t7:Int) (t8:Int) (k_:Int⊕((Int×Int)⊕Int)→Option ρ):Option ρ:=
 br (decide (t8 < t7))
 (bnd (idx t6 t8) fun y=>
 bnd (W.jN (y.1,y.2.1,y.2.2.1,y.2.2.2.1,y.2.2.2.2.1,y.2.2.2.2.2)) fun y_1=>
 br (!y_1)
 (k_ (.inr (.inl (t8,t8))))
 (k_ (.inl (IntKind.wrap IntKind.i64 (t8+(1:Int))))))
 (k_ (.inr (.inr t8)))
def jz.c100002s:Shape:=⟨[(0,tb38),(1,tb1),(2,tb2),(6,tb31),(7,tb5),(8,tb5)],[(1,tb34),(2,tb19)]⟩
def jz.c100002x0:Shape:=jz.c100002s
def jz.c100002x1:Shape:=jz.c100002s
def jz.c100002r:Ck:=Ck.ofLoop (S:=Int) (T:=(Int×Int)⊕Int) jz.c100002s (fun x_=>x_.2.2.2.1) (fun ρ x_ s_ k_=>jz.c100002 x_.2.1 x_.2.2.1 s_ k_) (fun ρ x_ r_ k_=>sel r_ (fun r_=>k_ 1 (Shape.inj jz.c100002x0 (x_.1,x_.2.1,x_.2.2.1,r_.1,x_.2.2.2.2.1,x_.2.2.2.2.2.1,x_.2.2.2.2.2.2.1,(41:Int),r_.2,()))) (fun r_=>k_ 2 (Shape.inj jz.c100002x1 (x_.1,x_.2.1,x_.2.2.1,r_,x_.2.2.2.2))))
def jz (c:Int×(Int×(List (Int×(Int×((List Int)×(Int×(Int×(List Int))))))))):Option (Int×Int):=
 bnd (iter (fun s↦W.jz.c100002 c.2.2 (↑(List.length c.2.2):Int) s some) (0:Int)) fun y=>
 sel y
 (fun u=>some ((41:Int),u.2))
 (fun v=>some ((0:Int),(0:Int)))
def jz.ce:Go.Ql.Callee:=⟨[(.st (.pair (.int .i64) (.pair (.int .i64) (.sl (.st (.pair (.int .i64) (.pair (.int .i64) (.pair (.sl (.int .i64)) (.pair (.int .i64) (.pair (.int .i64) (.sl (.int .i64))))))))))))],[(.st (.pair (.int .i64) (.int .i64)))],fun x_=>jz x_⟩
def jz.G:Env:=⟨20,tab,[(82,jN.ce)],[0,1,2,3,4,6,7,8,9,15],[],[],[(100002,jz.c100002r)],[],tab_eqs⟩
theorem jz.eq (x_:dens jz.ce.params):den jz.G Try.f37 jz.ce.params jz.ce.res x_=jz.ce.F x_:=by kernel_rfl
theorem jz.p0:PcA jz.G Try.f37 0:=
 loop_ok (s:=jz.c100002r) (by kernel_rfl) (by kernel_rfl) (loops_of (sh:=jz.c100002s) (I:=fun x_ s_=>(x_.1,x_.2.1,x_.2.2.1,s_,x_.2.2.2.2)) (fun x_=>rfl) (fun ρ x_ s_ k_=>(nat_br (nat_bnd fun _=>(nat_bnd fun _=>(nat_br nat_leaf nat_leaf))) nat_leaf)) (fun ρ x_ t k=>(nat_sel (fun _=>(by kernel_rfl)) (fun _=>(by kernel_rfl)))) (fun x_ s=>by kernel_rfl))
theorem jz.ok:CalleeOk Try.prog 37 jz.ce:=fn_ok (G:=jz.G) tab_ok mixed Try.func37 ⟨(fns_cons jN.ok fns_nil),mfns_nil,tab_eqs_ok⟩ (m:=1) (by kernel_rfl) ⟨trivial,jz.p0⟩ (by kernel_rfl) jz.eq
def Jw (c:Int×(Int×(List (Int×(Int×((List Int)×(Int×(Int×(List Int))))))))):Option (Int×Int):=
 bnd (W.JB (c.1,c.2.1,c.2.2)) fun y=>
 br (y.1 != (0:Int))
 (some (y.1,y.2))
 (bnd (W.jz (c.1,c.2.1,c.2.2)) fun y_1=>
 some (y_1.1,y_1.2))
def Jw.ce:Go.Ql.Callee:=⟨[(.st (.pair (.int .i64) (.pair (.int .i64) (.sl (.st (.pair (.int .i64) (.pair (.int .i64) (.pair (.sl (.int .i64)) (.pair (.int .i64) (.pair (.int .i64) (.sl (.int .i64))))))))))))],[(.st (.pair (.int .i64) (.int .i64)))],fun x_=>Jw x_⟩
def Jw.G:Env:=⟨12,tab,[(93,JB.ce),(37,jz.ce)],[0,1,2,3,8],[],[],[],[],tab_eqs⟩
theorem Jw.eq (x_:dens Jw.ce.params):den Jw.G Try.f55 Jw.ce.params Jw.ce.res x_=Jw.ce.F x_:=by kernel_rfl
theorem Jw.ok:CalleeOk Try.prog 55 Jw.ce:=fn_ok (G:=Jw.G) tab_ok mixed Try.func55 ⟨(fns_cons JB.ok (fns_cons jz.ok fns_nil)),mfns_nil,tab_eqs_ok⟩ (m:=0) (by kernel_rfl) trivial (by kernel_rfl) Jw.eq
abbrev tb74:SD:=.one (.ref 12 0)
def jY.c100003 {ρ:Type} (l:List Int) (i:Int) (out:List Int) (k_:(Int×(List Int))⊕(Int×(List Int))→Option ρ):Option ρ:=
 br (decide (i < (↑(List.length l):Int)))
 (bnd (idx l i) fun y=>
 bnd (okIf (decide ((List.length out+(1:Nat))*(8:Nat)≤(140737488355328:Nat)) && decide (List.length out+(1:Nat)≤(140737488355328:Nat)))) fun y_1=>
 k_ (.inl ((IntKind.wrap IntKind.i64 (i+(1:Int))),(out++[y]))))
 (k_ (.inr (i,out)))
def jY.c100003s:Shape:=⟨[(0,tb36),(2,tb36),(3,tb46),(4,tb5)],[(3,tb50)]⟩
def jY.c100003x0:Shape:=jY.c100003s
def jY.c100003r:Ck:=Ck.ofLoop (S:=Int×(List Int)) (T:=Int×(List Int)) jY.c100003s (fun x_=>(x_.2.2.1,x_.2.2.2.1)) (fun ρ x_ s_ k_=>jY.c100003 x_.1 s_.1 s_.2 k_) (fun ρ x_ r_ k_=>k_ 2 (Shape.inj jY.c100003x0 (x_.1,x_.2.1,r_.1,r_.2,())))
def jY (l:List Int):Option (List Int):=
 bnd (iter (fun s↦W.jY.c100003 l s.1 s.2 some) ((0:Int),[])) fun y=>
 some y.2
def jY.ce:Go.Ql.Callee:=⟨[(.sl (.int .i64))],[(.sl (.int .i64))],fun x_=>jY x_⟩
def jY.G:Env:=⟨19,tab,[],[0,2,3,4,8],[3],[],[(100003,jY.c100003r)],[],tab_eqs⟩
theorem jY.eq (x_:dens jY.ce.params):den jY.G Try.f79 jY.ce.params jY.ce.res x_=jY.ce.F x_:=by kernel_rfl
theorem jY.p0:PcA jY.G Try.f79 0:=
 loop_ok (s:=jY.c100003r) (by kernel_rfl) (by kernel_rfl) (loops_of (sh:=jY.c100003s) (I:=fun x_ s_=>(x_.1,x_.2.1,s_.1,s_.2,())) (fun x_=>rfl) (fun ρ x_ s_ k_=>(nat_br (nat_bnd fun _=>(nat_bnd fun _=>nat_leaf)) nat_leaf)) (fun ρ x_ t k=>(by kernel_rfl)) (fun x_ s=>by kernel_rfl))
theorem jY.ok:CalleeOk Try.prog 79 jY.ce:=fn_ok (G:=jY.G) tab_ok mixed Try.func79 ⟨fns_nil,mfns_nil,tab_eqs_ok⟩ (m:=1) (by kernel_rfl) ⟨trivial,jY.p0⟩ (by kernel_rfl) jY.eq
def JC (o:Int×(Int×((List Int)×(Int×(Int×(List Int)))))):Option (Int×(Int×((List Int)×(Int×(Int×(List Int)))))):=
 bnd (W.jY o.2.2.1) fun y=>
 bnd (W.jY o.2.2.2.2.2) fun y_1=>
 some (o.1,o.2.1,y,o.2.2.2.1,o.2.2.2.2.1,y_1)
def JC.ce:Go.Ql.Callee:=⟨[(.st (.pair (.int .i64) (.pair (.int .i64) (.pair (.sl (.int .i64)) (.pair (.int .i64) (.pair (.int .i64) (.sl (.int .i64))))))))],[(.st (.pair (.int .i64) (.pair (.int .i64) (.pair (.sl (.int .i64)) (.pair (.int .i64) (.pair (.int .i64) (.sl (.int .i64))))))))],fun x_=>JC x_⟩
def JC.G:Env:=⟨12,tab,[(79,jY.ce)],[0,1,2],[],[],[],[],tab_eqs⟩
theorem JC.eq (x_:dens JC.ce.params):den JC.G Try.f34 JC.ce.params JC.ce.res x_=JC.ce.F x_:=by kernel_rfl
theorem JC.ok:CalleeOk Try.prog 34 JC.ce:=fn_ok (G:=JC.G) tab_ok mixed Try.func34 ⟨(fns_cons jY.ok fns_nil),mfns_nil,tab_eqs_ok⟩ (m:=0) (by kernel_rfl) trivial (by kernel_rfl) JC.eq
abbrev tb75:SO:=.box [.val (.int .i64),.val (.int .i64),.own 3003 0]
def jy.c5 {ρ:Type} (i:Int) (c2:List (Int×(Int×((List Int)×(Int×(Int×(List Int))))))) (t3003:List (Int×(Int×((List Int)×(Int×(Int×(List Int))))))) (k_:List (Int×(Int×((List Int)×(Int×(Int×(List Int))))))→Option ρ):Option ρ:=
 bnd (idx c2 i) fun y=>
 bnd (W.JC y) fun y_1=>
 bnd (okIf (decide ((List.length t3003+(1:Nat))*(80:Nat)≤(140737488355328:Nat)) && decide (List.length t3003+(1:Nat)≤(140737488355328:Nat)))) fun y_2=>
 k_ (t3003++[y_1])
def jy.c5s:Shape:=⟨[(0,tb38),(1,tb1),(2,tb2),(3,tb12),(4,tb5)],[(1,tb34),(2,tb34),(3,tb75),(3003,tb30)]⟩
def jy.c5x0:Shape:=jy.c5s
def jy.c5r:Ck:=Ck.of (T:=List (Int×(Int×((List Int)×(Int×(Int×(List Int))))))) jy.c5s (fun ρ x_ k_=>jy.c5 x_.2.1 x_.2.2.2.2.1 x_.2.2.2.2.2.2.2.2.2.2.1 k_) (fun ρ x_ r_ k_=>k_ 0 (Shape.inj jy.c5x0 (x_.1,x_.2.1,x_.2.2.1,x_.2.2.2.1,x_.2.2.2.2.1,x_.2.2.2.2.2.1,x_.2.2.2.2.2.2.1,x_.2.2.2.2.2.2.2.1,x_.2.2.2.2.2.2.2.2.1,x_.2.2.2.2.2.2.2.2.2.1,r_,())))
def jy.c100003 {ρ:Type} (i:Int) (c2:List (Int×(Int×((List Int)×(Int×(Int×(List Int))))))) (t3003:List (Int×(Int×((List Int)×(Int×(Int×(List Int))))))) (k_:(Int×(List (Int×(Int×((List Int)×(Int×(Int×(List Int))))))))⊕(Int×(List (Int×(Int×((List Int)×(Int×(Int×(List Int))))))))→Option ρ):Option ρ:=
 br (decide (i < (↑(List.length c2):Int)))
 (bnd (W.jy.c5 i c2 t3003 some) fun y=>
 k_ (.inl ((IntKind.wrap IntKind.i64 (i+(1:Int))),y)))
 (k_ (.inr (i,t3003)))
def jy.c100003s:Shape:=jy.c5s
def jy.c100003x0:Shape:=jy.c5s
def jy.c100003r:Ck:=Ck.ofLoop (S:=Int×(List (Int×(Int×((List Int)×(Int×(Int×(List Int)))))))) (T:=Int×(List (Int×(Int×((List Int)×(Int×(Int×(List Int)))))))) jy.c100003s (fun x_=>(x_.2.1,x_.2.2.2.2.2.2.2.2.2.2.1)) (fun ρ x_ s_ k_=>jy.c100003 s_.1 x_.2.2.2.2.1 s_.2 k_) (fun ρ x_ r_ k_=>k_ 2 (Shape.inj jy.c100003x0 (x_.1,r_.1,x_.2.2.1,x_.2.2.2.1,x_.2.2.2.2.1,x_.2.2.2.2.2.1,x_.2.2.2.2.2.2.1,x_.2.2.2.2.2.2.2.1,x_.2.2.2.2.2.2.2.2.1,x_.2.2.2.2.2.2.2.2.2.1,r_.2,())))
def jy (c:Int×(Int×(List (Int×(Int×((List Int)×(Int×(Int×(List Int))))))))):Option (Int×(Int×(List (Int×(Int×((List Int)×(Int×(Int×(List Int))))))))):=
 bnd (iter (fun s↦W.jy.c100003 s.1 c.2.2 s.2 some) ((0:Int),[])) fun y=>
 some (c.1,c.2.1,y.2)
def jy.ce:Go.Ql.Callee:=⟨[(.st (.pair (.int .i64) (.pair (.int .i64) (.sl (.st (.pair (.int .i64) (.pair (.int .i64) (.pair (.sl (.int .i64)) (.pair (.int .i64) (.pair (.int .i64) (.sl (.int .i64))))))))))))],[(.st (.pair (.int .i64) (.pair (.int .i64) (.sl (.st (.pair (.int .i64) (.pair (.int .i64) (.pair (.sl (.int .i64)) (.pair (.int .i64) (.pair (.int .i64) (.sl (.int .i64))))))))))))],fun x_=>jy x_⟩
def jy.G:Env:=⟨29,tab,[(34,JC.ce)],[0,1,2,3,4,14],[1,3,9,3001,3003],[(5,[⟨[],[],[19,20,21,22,23,24,25],[25]⟩,⟨[0],[],[19,20,21,22,23,24,25],[25]⟩,⟨[],[],[17,18,21],[]⟩,⟨[2],[],[17,18,21],[]⟩,⟨[],[],[17,18,19,20],[]⟩,⟨[3,2,4],[],[17,18],[]⟩,⟨[5,3,2,4],[],[17,18],[]⟩,⟨[6,5,3,2,4],[],[17,18],[]⟩,⟨[7,6,5,3,2,4],[25],[17,18],[]⟩,⟨[1,0,8,7,6,5,3,2,4],[3003],[],[]⟩,⟨[0,1,2,3,4,5,6,7,8,9],[],[],[]⟩,⟨[10,0,1,2,3,4,5,6,7,8,9],[3],[],[]⟩])],[(100003,jy.c100003r),(5,jy.c5r)],[],tab_eqs⟩
theorem jy.eq (x_:dens jy.ce.params):den jy.G Try.f8 jy.ce.params jy.ce.res x_=jy.ce.F x_:=by kernel_rfl
theorem jy.p0:PcA jy.G Try.f8 0:=
 loop_ok (s:=jy.c100003r) (by kernel_rfl) (by kernel_rfl) (loops_of (sh:=jy.c100003s) (I:=fun x_ s_=>(x_.1,s_.1,x_.2.2.1,x_.2.2.2.1,x_.2.2.2.2.1,x_.2.2.2.2.2.1,x_.2.2.2.2.2.2.1,x_.2.2.2.2.2.2.2.1,x_.2.2.2.2.2.2.2.2.1,x_.2.2.2.2.2.2.2.2.2.1,s_.2,())) (fun x_=>rfl) (fun ρ x_ s_ k_=>(nat_br (nat_bnd fun _=>nat_leaf) nat_leaf)) (fun ρ x_ t k=>(by kernel_rfl)) (fun x_ s=>by kernel_rfl))
theorem jy.p1:PcA jy.G Try.f8 1:=
 region_ok (s:=jy.c5r) (by kernel_rfl) (by kernel_rfl) (sums_of (sh:=jy.c5s) (fun ρ x_ k_=>(nat_bnd fun _=>(nat_bnd fun _=>(nat_bnd fun _=>nat_leaf)))) (fun ρ x_ t k=>(by kernel_rfl)) (fun x_=>by kernel_rfl))
theorem jy.ok:CalleeOk Try.prog 8 jy.ce:=fn_ok (G:=jy.G) tab_ok mixed Try.func8 ⟨(fns_cons JC.ok fns_nil),mfns_nil,tab_eqs_ok⟩ (m:=2) (by kernel_rfl) ⟨⟨trivial,jy.p0⟩,jy.p1⟩ (by kernel_rfl) jy.eq
abbrev tb76:SD:=.one (.ref 0 0)
abbrev tb77:SO:=.box [.val (.int .i64),.own 1 0,.own 2 0]
abbrev tb78:SD:=.one (.val (.nilv 0))
abbrev tb79:SD:=.one (.ref 9 0)
abbrev tb80:SO:=.box [.val (.int .i64),.own 2009 0,.own 3009 0]
def jr.pre:Shape:=⟨[(0,tb5),(1,tb5)],[]⟩
def jr.post:Shape:=⟨[(0,tb76)],[(0,tb77),(1,tb22),(2,tb22)]⟩
def jr.c5 {ρ:Type} (t1:Int) (q:Int) (t2009:List (Int×(Int×(Bool)))) (k_:Unit→Option ρ):Option ρ:=
 bnd (okIf (decide ((0:Int)≤q))) fun y=>
 bnd (okIf (decide ((0:Int)≤q))) fun y_1=>
 bnd (okIf (decide ((List.length t2009+(1:Nat))*(24:Nat)≤(140737488355328:Nat)) && decide (List.length t2009+(1:Nat)≤(140737488355328:Nat)))) fun y_2=>
 k_ ()
def jr.c5s:Shape:=⟨[(0,tb5),(1,tb5),(4,tb78),(5,tb79),(6,tb5),(10,tb5),(11,tb5)],[(9,tb80),(2009,tb22),(3009,tb22)]⟩
def jr.c5x0:Shape:=jr.c5s
def jr.c5r:Ck:=Ck.of (T:=Unit) jr.c5s (fun ρ x_ k_=>jr.c5 x_.2.1 x_.2.2.2.1 x_.2.2.2.2.2.2.2.1 k_) (fun ρ x_ r_ k_=>k_ 0 (Shape.inj jr.c5x0 (x_.1,x_.2.1,x_.2.2.1,x_.2.2.2.1,x_.2.2.2.2.1,x_.2.2.2.2.2.1,x_.2.2.2.2.2.2.1,(x_.2.2.2.2.2.2.2.1++[((0:Int),IntKind.wrap IntKind.u64 ((1:Int)*(2:Int) ^ Min.min (Int.toNat x_.2.2.2.1) (64:Nat)),ibits BinOp.and IntKind.i64 (Int.fdiv x_.2.1 ((2:Int) ^ Min.min (Int.toNat x_.2.2.2.1) (64:Nat))) (1:Int) == (1:Int))]),x_.2.2.2.2.2.2.2.2)))
def jr.c6 {ρ:Type} (q:Int) (t3009:List (Int×(Int×(Bool)))) (k_:Unit→Option ρ):Option ρ:=
 bnd (okIf (decide ((0:Int)≤q))) fun y=>
 bnd (okIf (decide ((List.length t3009+(1:Nat))*(24:Nat)≤(140737488355328:Nat)) && decide (List.length t3009+(1:Nat)≤(140737488355328:Nat)))) fun y_1=>
 k_ ()
def jr.c6s:Shape:=jr.c5s
def jr.c6x0:Shape:=jr.c5s
def jr.c6r:Ck:=Ck.of (T:=Unit) jr.c6s (fun ρ x_ k_=>jr.c6 x_.2.2.2.1 x_.2.2.2.2.2.2.2.2.1 k_) (fun ρ x_ r_ k_=>k_ 0 (Shape.inj jr.c6x0 (x_.1,x_.2.1,x_.2.2.1,x_.2.2.2.1,x_.2.2.2.2.1,x_.2.2.2.2.2.1,x_.2.2.2.2.2.2.1,x_.2.2.2.2.2.2.2.1,(x_.2.2.2.2.2.2.2.2.1++[(IntKind.wrap IntKind.u64 ((1:Int)*(2:Int) ^ Min.min (Int.toNat x_.2.2.2.1) (64:Nat)),(0:Int),false)]),())))
def jr.c100003 {ρ:Type} (t1:Int) (t10:Int) (t11:Int) (t2009:List (Int×(Int×(Bool)))) (t3009:List (Int×(Int×(Bool)))) (k_:(Int×(List (Int×(Int×(Bool))))×(List (Int×(Int×(Bool)))))⊕(Int×(List (Int×(Int×(Bool))))×(List (Int×(Int×(Bool)))))→Option ρ):Option ρ:=
 br (decide (t11 < t10))
 (bnd (W.jr.c5 t1 t11 t2009 some) fun y=>
 bnd (W.jr.c6 t11 t3009 some) fun y_1=>
 k_ (.inl ((IntKind.wrap IntKind.i64 (t11+(1:Int))),(t2009++[((0:Int),IntKind.wrap IntKind.u64 ((1:Int)*(2:Int) ^ Min.min (Int.toNat t11) (64:Nat)),ibits BinOp.and IntKind.i64 (Int.fdiv t1 ((2:Int) ^ Min.min (Int.toNat t11) (64:Nat))) (1:Int) == (1:Int))]),(t3009++[(IntKind.wrap IntKind.u64 ((1:Int)*(2:Int) ^ Min.min (Int.toNat t11) (64:Nat)),(0:Int),false)]))))
 (k_ (.inr (t11,t2009,t3009)))
def jr.c100003s:Shape:=⟨[(0,tb5),(1,tb5),(4,tb78),(5,tb79),(10,tb5),(11,tb5)],[(9,tb80),(2009,tb22),(3009,tb22)]⟩
def jr.c100003x0:Shape:=jr.c100003s
def jr.c100003r:Ck:=Ck.ofLoop (S:=Int×(List (Int×(Int×(Bool))))×(List (Int×(Int×(Bool))))) (T:=Int×(List (Int×(Int×(Bool))))×(List (Int×(Int×(Bool))))) jr.c100003s (fun x_=>(x_.2.2.2.2.1,x_.2.2.2.2.2.2.1,x_.2.2.2.2.2.2.2.1)) (fun ρ x_ s_ k_=>jr.c100003 x_.2.1 x_.2.2.2.1 s_.1 s_.2.1 s_.2.2 k_) (fun ρ x_ r_ k_=>k_ 2 (Shape.inj jr.c100003x0 (x_.1,x_.2.1,x_.2.2.1,x_.2.2.2.1,r_.1,x_.2.2.2.2.2.1,r_.2.1,r_.2.2,())))
def jr (n:Int) (t1:Int):Option (Int×(List (Int×(Int×(Bool))))×(List (Int×(Int×(Bool))))×Unit):=
 bnd (iter (fun s↦W.jr.c100003 t1 n s.1 s.2.1 s.2.2 some) ((0:Int),[],[])) fun y=>
 some (n,y.2.1,y.2.2,())
def jr.mc:MCallee:=⟨38,jr.pre,jr.post,fun x_=>jr x_.1 x_.2.1⟩
def jr.G:Env:=⟨45,tab,[],[0,1,4,5,6,10,11,12],[8,9,2009,3009],[(6,[⟨[],[],[32,33,34,35,36,37,38,39,40],[39,3009]⟩,⟨[],[],[31,36,37,38,39],[39]⟩,⟨[1],[],[31,36,37,38,39],[39]⟩,⟨[2,1],[],[31,36,37,38,39],[39]⟩,⟨[3,2,1],[],[31,36,37,38,39],[39]⟩,⟨[],[],[31,32,33,34,35],[]⟩,⟨[5],[],[31,32,33,34,35],[]⟩,⟨[6,5],[],[31,32,33,34,35],[]⟩,⟨[7,6,5],[39],[31,32,33,34,35],[]⟩,⟨[4,3,2,1,8,7,6,5],[3009],[31],[]⟩,⟨[0,1,2,3,4,5,6,7,8,9],[],[],[]⟩,⟨[10,0,1,2,3,4,5,6,7,8,9],[],[],[]⟩,⟨[11,10,0,1,2,3,4,5,6,7,8,9],[9],[],[]⟩]),
 (5,[⟨[],[],[15,16,17,18,19,20,21,22,23,24,25,26,27,28],[27,2009]⟩,⟨[],[],[14,19,20,21,22,23,24,25,26,27],[27]⟩,⟨[1],[],[14,19,20,21,22,23,24,25,26,27],[27]⟩,⟨[2,1],[],[14,19,20,21,22,23,24,25,26,27],[27]⟩,⟨[3,2,1],[],[14,19,20,21,22,23,24,25,26,27],[27]⟩,⟨[],[],[14,15,16,17,18,21,22,23,24,25],[]⟩,⟨[5],[],[14,15,16,17,18,21,22,23,24,25],[]⟩,⟨[],[],[14,15,16,17,18,19,20,22],[]⟩,⟨[],[],[14,15,16,17,18,19,20,21],[]⟩,⟨[7,8],[],[14,15,16,17,18,19,20],[]⟩,⟨[9,7,8],[],[14,15,16,17,18,19,20],[]⟩,⟨[10,9,7,8],[],[14,15,16,17,18,19,20],[]⟩,⟨[6,5,11,10,9,7,8],[],[14,15,16,17,18],[]⟩,⟨[12,6,5,11,10,9,7,8],[27],[14,15,16,17,18],[]⟩,⟨[4,3,2,1,13,12,6,5,11,10,9,7,8],[2009],[14],[]⟩,⟨[0,1,2,3,4,5,6,7,8,9,10,11,12,13,14],[],[],[]⟩,⟨[15,0,1,2,3,4,5,6,7,8,9,10,11,12,13,14],[],[],[]⟩,⟨[16,15,0,1,2,3,4,5,6,7,8,9,10,11,12,13,14],[9],[],[]⟩])],[(100003,jr.c100003r),(6,jr.c6r),(5,jr.c5r)],[],tab_eqs⟩
theorem jr.eq (x_:densU jr.mc.pre.tys):denM jr.G Try.f38 jr.mc.pre jr.mc.post x_=jr.mc.F x_:=by kernel_rfl
theorem jr.p0:PcA jr.G Try.f38 0:=
 loop_ok (s:=jr.c100003r) (by kernel_rfl) (by kernel_rfl) (loops_of (sh:=jr.c100003s) (I:=fun x_ s_=>(x_.1,x_.2.1,x_.2.2.1,x_.2.2.2.1,s_.1,x_.2.2.2.2.2.1,s_.2.1,s_.2.2,())) (fun x_=>rfl) (fun ρ x_ s_ k_=>(nat_br (nat_bnd fun _=>(nat_bnd fun _=>nat_leaf)) nat_leaf)) (fun ρ x_ t k=>(by kernel_rfl)) (fun x_ s=>by kernel_rfl))
theorem jr.p1:PcA jr.G Try.f38 1:=
 region_ok (s:=jr.c5r) (by kernel_rfl) (by kernel_rfl) (sums_of (sh:=jr.c5s) (fun ρ x_ k_=>(nat_bnd fun _=>(nat_bnd fun _=>(nat_bnd fun _=>nat_leaf)))) (fun ρ x_ t k=>(by kernel_rfl)) (fun x_=>by kernel_rfl))
theorem jr.p2:PcA jr.G Try.f38 2:=
 region_ok (s:=jr.c6r) (by kernel_rfl) (by kernel_rfl) (sums_of (sh:=jr.c6s) (fun ρ x_ k_=>(nat_bnd fun _=>(nat_bnd fun _=>nat_leaf))) (fun ρ x_ t k=>(by kernel_rfl)) (fun x_=>by kernel_rfl))
theorem jr.ok:MOk Try.prog 38 jr.mc:=fnm_ok (G:=jr.G) tab_ok mixed Try.func38 ⟨fns_nil,mfns_nil,tab_eqs_ok⟩ (m:=3) (by kernel_rfl) ⟨⟨⟨trivial,jr.p0⟩,jr.p1⟩,jr.p2⟩ (by kernel_rfl) jr.eq
def jC.c4 {ρ:Type} (bits:List Int) (c:Int) (k_:Bool→Option ρ):Option ρ:=
 br (decide (c > (0:Int)))
 (bnd (idx bits (IntKind.wrap IntKind.i64 (c - (1:Int)))) fun y=>
 br (y == (0:Int))
 (k_ true)
 (br (decide (c < (0:Int)))
 (bnd (idx bits (IntKind.wrap IntKind.i64 (IntKind.wrap IntKind.i64 ((0:Int) - c) - (1:Int)))) fun y_1=>
 k_ (y_1 == (1:Int)))
 (k_ false)))
 (br (decide (c < (0:Int)))
 (bnd (idx bits (IntKind.wrap IntKind.i64 (IntKind.wrap IntKind.i64 ((0:Int) - c) - (1:Int)))) fun y_2=>
 k_ (y_2 == (1:Int)))
 (k_ false))
def jC.c4s:Shape:=⟨[(0,tb25),(1,tb36),(2,tb2),(4,tb7),(6,tb5),(8,tb36),(9,tb5),(10,tb5)],[(2,tb26)]⟩
def jC.c4x0:Shape:=⟨[(0,tb25),(1,tb36),(2,tb2),(4,tb7),(6,tb5),(8,tb36),(9,tb5),(10,tb5),(36,tb7)],[(2,tb26)]⟩
def jC.c4r:Ck:=Ck.of (T:=Bool) jC.c4s (fun ρ x_ k_=>jC.c4 x_.2.1 x_.2.2.2.1 k_) (fun ρ x_ r_ k_=>k_ 0 (Shape.inj jC.c4x0 (x_.1,x_.2.1,x_.2.2.1,x_.2.2.2.1,x_.2.2.2.2.1,x_.2.2.2.2.2.1,x_.2.2.2.2.2.2.1,r_,x_.2.2.2.2.2.2.2)))
def jC.c100002 {ρ:Type} (bits:List Int) (t8:List Int) (t9:Int) (t10:Int) (k_:Int⊕(Int⊕Int)→Option ρ):Option ρ:=
 br (decide (t10 < t9))
 (bnd (idx t8 t10) fun y=>
 bnd (W.jC.c4 bits y some) fun y_1=>
 br y_1
 (k_ (.inr (.inl t10)))
 (k_ (.inl (IntKind.wrap IntKind.i64 (t10+(1:Int))))))
 (k_ (.inr (.inr t10)))
def jC.c100002s:Shape:=⟨[(0,tb25),(1,tb36),(2,tb2),(4,tb7),(8,tb36),(9,tb5),(10,tb5)],[(2,tb26)]⟩
def jC.c100002x0:Shape:=jC.c100002s
def jC.c100002x1:Shape:=jC.c100002s
def jC.c100002r:Ck:=Ck.ofLoop (S:=Int) (T:=Int⊕Int) jC.c100002s (fun x_=>x_.2.2.2.2.2.1) (fun ρ x_ s_ k_=>jC.c100002 x_.2.1 x_.2.2.2.1 x_.2.2.2.2.1 s_ k_) (fun ρ x_ r_ k_=>sel r_ (fun r_=>k_ 1 (Shape.inj jC.c100002x0 (x_.1,x_.2.1,false,x_.2.2.2.1,x_.2.2.2.2.1,r_,x_.2.2.2.2.2.2))) (fun r_=>k_ 2 (Shape.inj jC.c100002x1 (x_.1,x_.2.1,x_.2.2.1,x_.2.2.2.1,x_.2.2.2.2.1,r_,x_.2.2.2.2.2.2))))
def jC (o:Int×(Int×((List Int)×(Int×(Int×(List Int)))))) (bits:List Int):Option (Bool):=
 bnd (iter (fun s↦W.jC.c100002 bits o.2.2.2.2.2 (↑(List.length o.2.2.2.2.2):Int) s some) (0:Int)) fun y=>
 sel y
 (fun u=>some false)
 (fun v=>some true)
def jC.ce:Go.Ql.Callee:=⟨[(.st (.pair (.int .i64) (.pair (.int .i64) (.pair (.sl (.int .i64)) (.pair (.int .i64) (.pair (.int .i64) (.sl (.int .i64)))))))),(.sl (.int .i64))],[.bool],fun x_=>jC x_.1 x_.2⟩
def jC.G:Env:=⟨38,tab,[],[0,1,2,4,6,8,9,10,11,36],[],[],[(100002,jC.c100002r),(4,jC.c4r)],[],tab_eqs⟩
theorem jC.eq (x_:dens jC.ce.params):den jC.G Try.f39 jC.ce.params jC.ce.res x_=jC.ce.F x_:=by kernel_rfl
theorem jC.p0:PcA jC.G Try.f39 0:=
 loop_ok (s:=jC.c100002r) (by kernel_rfl) (by kernel_rfl) (loops_of (sh:=jC.c100002s) (I:=fun x_ s_=>(x_.1,x_.2.1,x_.2.2.1,x_.2.2.2.1,x_.2.2.2.2.1,s_,x_.2.2.2.2.2.2)) (fun x_=>rfl) (fun ρ x_ s_ k_=>(nat_br (nat_bnd fun _=>(nat_bnd fun _=>(nat_br nat_leaf nat_leaf))) nat_leaf)) (fun ρ x_ t k=>(nat_sel (fun _=>(by kernel_rfl)) (fun _=>(by kernel_rfl)))) (fun x_ s=>by kernel_rfl))
theorem jC.p1:PcA jC.G Try.f39 1:=
 region_ok (s:=jC.c4r) (by kernel_rfl) (by kernel_rfl) (sums_of (sh:=jC.c4s) (fun ρ x_ k_=>(nat_br (nat_bnd fun _=>(nat_br nat_leaf (nat_br (nat_bnd fun _=>nat_leaf) nat_leaf))) (nat_br (nat_bnd fun _=>nat_leaf) nat_leaf))) (fun ρ x_ t k=>(by kernel_rfl)) (fun x_=>by kernel_rfl))
theorem jC.ok:CalleeOk Try.prog 39 jC.ce:=fn_ok (G:=jC.G) tab_ok mixed Try.func39 ⟨fns_nil,mfns_nil,tab_eqs_ok⟩ (m:=2) (by kernel_rfl) ⟨⟨trivial,jC.p0⟩,jC.p1⟩ (by kernel_rfl) jC.eq
abbrev tb81:SO:=.box [.val (.int .i64),.own 1000701 0,.own 1000702 0]
def jn.pre:Shape:=⟨[(0,tb28),(1,tb25)],[(1000700,tb81),(1000701,tb22),(1000702,tb22)]⟩
def jn.post:Shape:=⟨[],[(1000701,tb22),(1000702,tb22),(1000700,tb81)]⟩
def jn.c4 {ρ:Type} (i:Int) (o0:Int) (o1:Int) (o2:List Int) (o3:Int) (o4:Int) (o5:List Int) (t1000701:List (Int×(Int×(Bool)))) (k_:List (Int×(Int×(Bool)))→Option ρ):Option ρ:=
 bnd (inR (List.length t1000701) i) fun y=>
 bnd (idx t1000701 i) fun y_1=>
 bnd (W.Js (y_1,(o0,o1,o2,o3,o4,o5),())) fun y_2=>
 bnd (inR (List.length t1000701) i) fun y_3=>
 bnd (idx t1000701 i) fun y_4=>
 k_ (List.set t1000701 (Int.toNat i) y_2.1)
def jn.c4s:Shape:=⟨[(0,tb28),(1,tb25),(3,tb12),(4,tb5),(8,tb5),(9,tb5)],[(3,tb26),(1000700,tb81),(1000701,tb22),(1000702,tb22)]⟩
def jn.c4x0:Shape:=jn.c4s
def jn.c4r:Ck:=Ck.of (T:=List (Int×(Int×(Bool)))) jn.c4s (fun ρ x_ k_=>jn.c4 x_.2.1 x_.2.2.2.2.1 x_.2.2.2.2.2.1 x_.2.2.2.2.2.2.1 x_.2.2.2.2.2.2.2.1 x_.2.2.2.2.2.2.2.2.1 x_.2.2.2.2.2.2.2.2.2.1 x_.2.2.2.2.2.2.2.2.2.2.2.1 k_) (fun ρ x_ r_ k_=>k_ 0 (Shape.inj jn.c4x0 (x_.1,x_.2.1,x_.2.2.1,x_.2.2.2.1,x_.2.2.2.2.1,x_.2.2.2.2.2.1,x_.2.2.2.2.2.2.1,x_.2.2.2.2.2.2.2.1,x_.2.2.2.2.2.2.2.2.1,x_.2.2.2.2.2.2.2.2.2.1,x_.2.2.2.2.2.2.2.2.2.2.1,r_,x_.2.2.2.2.2.2.2.2.2.2.2.2)))
def jn.c5 {ρ:Type} (i:Int) (o0:Int) (o1:Int) (o2:List Int) (o3:Int) (o4:Int) (o5:List Int) (t1000702:List (Int×(Int×(Bool)))) (k_:List (Int×(Int×(Bool)))→Option ρ):Option ρ:=
 bnd (inR (List.length t1000702) i) fun y=>
 bnd (idx t1000702 i) fun y_1=>
 bnd (W.Js (y_1,(o0,o1,o2,o3,o4,o5),())) fun y_2=>
 bnd (inR (List.length t1000702) i) fun y_3=>
 bnd (idx t1000702 i) fun y_4=>
 k_ (List.set t1000702 (Int.toNat i) y_2.1)
def jn.c5s:Shape:=jn.c4s
def jn.c5x0:Shape:=jn.c4s
def jn.c5r:Ck:=Ck.of (T:=List (Int×(Int×(Bool)))) jn.c5s (fun ρ x_ k_=>jn.c5 x_.2.1 x_.2.2.2.2.1 x_.2.2.2.2.2.1 x_.2.2.2.2.2.2.1 x_.2.2.2.2.2.2.2.1 x_.2.2.2.2.2.2.2.2.1 x_.2.2.2.2.2.2.2.2.2.1 x_.2.2.2.2.2.2.2.2.2.2.2.2.1 k_) (fun ρ x_ r_ k_=>k_ 0 (Shape.inj jn.c5x0 (x_.1,x_.2.1,x_.2.2.1,x_.2.2.2.1,x_.2.2.2.2.1,x_.2.2.2.2.2.1,x_.2.2.2.2.2.2.1,x_.2.2.2.2.2.2.2.1,x_.2.2.2.2.2.2.2.2.1,x_.2.2.2.2.2.2.2.2.2.1,x_.2.2.2.2.2.2.2.2.2.2.1,x_.2.2.2.2.2.2.2.2.2.2.2.1,r_,())))
def jn.c100002 {ρ:Type} (t8:Int) (t9:Int) (o0:Int) (o1:Int) (o2:List Int) (o3:Int) (o4:Int) (o5:List Int) (t1000701:List (Int×(Int×(Bool)))) (t1000702:List (Int×(Int×(Bool)))) (k_:(Int×(List (Int×(Int×(Bool))))×(List (Int×(Int×(Bool)))))⊕(Int×(List (Int×(Int×(Bool))))×(List (Int×(Int×(Bool)))))→Option ρ):Option ρ:=
 br (decide (t9 < t8))
 (bnd (W.jn.c4 t9 o0 o1 o2 o3 o4 o5 t1000701 some) fun y=>
 bnd (W.jn.c5 t9 o0 o1 o2 o3 o4 o5 t1000702 some) fun y_1=>
 k_ (.inl ((IntKind.wrap IntKind.i64 (t9+(1:Int))),y,y_1)))
 (k_ (.inr (t9,t1000701,t1000702)))
def jn.c100002s:Shape:=⟨[(0,tb28),(1,tb25),(3,tb12),(8,tb5),(9,tb5)],[(3,tb26),(1000700,tb81),(1000701,tb22),(1000702,tb22)]⟩
def jn.c100002x0:Shape:=jn.c100002s
def jn.c100002r:Ck:=Ck.ofLoop (S:=Int×(List (Int×(Int×(Bool))))×(List (Int×(Int×(Bool))))) (T:=Int×(List (Int×(Int×(Bool))))×(List (Int×(Int×(Bool))))) jn.c100002s (fun x_=>(x_.2.2.1,x_.2.2.2.2.2.2.2.2.2.2.1,x_.2.2.2.2.2.2.2.2.2.2.2.1)) (fun ρ x_ s_ k_=>jn.c100002 x_.2.1 s_.1 x_.2.2.2.1 x_.2.2.2.2.1 x_.2.2.2.2.2.1 x_.2.2.2.2.2.2.1 x_.2.2.2.2.2.2.2.1 x_.2.2.2.2.2.2.2.2.1 s_.2.1 s_.2.2 k_) (fun ρ x_ r_ k_=>k_ 2 (Shape.inj jn.c100002x0 (x_.1,x_.2.1,r_.1,x_.2.2.2.1,x_.2.2.2.2.1,x_.2.2.2.2.2.1,x_.2.2.2.2.2.2.1,x_.2.2.2.2.2.2.2.1,x_.2.2.2.2.2.2.2.2.1,x_.2.2.2.2.2.2.2.2.2.1,r_.2.1,r_.2.2,())))
def jn (o:Int×(Int×((List Int)×(Int×(Int×(List Int)))))) (t10007000:Int) (t1000701:List (Int×(Int×(Bool)))) (t1000702:List (Int×(Int×(Bool)))):Option ((List (Int×(Int×(Bool))))×(List (Int×(Int×(Bool))))×Int×Unit):=
 bnd (iter (fun s↦W.jn.c100002 t10007000 s.1 o.1 o.2.1 o.2.2.1 o.2.2.2.1 o.2.2.2.2.1 o.2.2.2.2.2 s.2.1 s.2.2 some) ((0:Int),t1000701,t1000702)) fun y=>
 some (y.2.1,y.2.2,t10007000,())
def jn.mc:MCallee:=⟨40,jn.pre,jn.post,fun x_=>jn x_.1 x_.2.1 x_.2.2.1 x_.2.2.2.1⟩
def jn.G:Env:=⟨43,tab,[],[0,1,3,4,8,9,10],[1000700,1000701,1000702],[(5,[⟨[],[],[31,32,33,34,35,36,37,38,39,40],[]⟩,⟨[0],[],[31,32,33,34,35,36,37,38,39,40],[]⟩,⟨[1,0],[],[31,32,33,34,35,36,37,38,39,40],[]⟩,⟨[2,1,0],[],[31,32,33,34,35,36,37,38,39,40],[]⟩,⟨[],[],[27,28,29,30,32,33,34,35,36,37,38,39,40],[]⟩,⟨[],[],[27,28,29,30,31,36,39],[]⟩,⟨[5],[],[27,28,29,30,31,36,39],[]⟩,⟨[6,5],[],[27,28,29,30,31,36,39],[]⟩,⟨[7,6,5],[],[27,28,29,30,31,36,39],[]⟩,⟨[],[],[27,28,29,30,31,32,33,34,35,39],[]⟩,⟨[8,7,6,5,9],[],[27,28,29,30,31,39],[]⟩,⟨[10,8,7,6,5,9],[],[27,28,29,30,31,39],[]⟩,⟨[],[],[27,28,29,30,31,32,33,34,35,36,37,38],[]⟩,⟨[11,10,8,7,6,5,9,12],[],[27,28,29,30,31],[]⟩,⟨[3,2,1,0,4,5,6,7,8,9,10,11,12,13],[],[],[]⟩,⟨[14,3,2,1,0,4,5,6,7,8,9,10,11,12,13],[1000702],[],[]⟩]),
 (4,[⟨[],[],[16,17,18,19,20,21,22,23,24,25],[]⟩,⟨[0],[],[16,17,18,19,20,21,22,23,24,25],[]⟩,⟨[1,0],[],[16,17,18,19,20,21,22,23,24,25],[]⟩,⟨[2,1,0],[],[16,17,18,19,20,21,22,23,24,25],[]⟩,⟨[],[],[12,13,14,15,17,18,19,20,21,22,23,24,25],[]⟩,⟨[],[],[12,13,14,15,16,21,24],[]⟩,⟨[5],[],[12,13,14,15,16,21,24],[]⟩,⟨[6,5],[],[12,13,14,15,16,21,24],[]⟩,⟨[7,6,5],[],[12,13,14,15,16,21,24],[]⟩,⟨[],[],[12,13,14,15,16,17,18,19,20,24],[]⟩,⟨[8,7,6,5,9],[],[12,13,14,15,16,24],[]⟩,⟨[10,8,7,6,5,9],[],[12,13,14,15,16,24],[]⟩,⟨[],[],[12,13,14,15,16,17,18,19,20,21,22,23],[]⟩,⟨[11,10,8,7,6,5,9,12],[],[12,13,14,15,16],[]⟩,⟨[3,2,1,0,4,5,6,7,8,9,10,11,12,13],[],[],[]⟩,⟨[14,3,2,1,0,4,5,6,7,8,9,10,11,12,13],[1000701],[],[]⟩])],[(100002,jn.c100002r),(5,jn.c5r),(4,jn.c4r)],[(57,Js.mc)],tab_eqs⟩
theorem jn.eq (x_:densU jn.mc.pre.tys):denM jn.G Try.f40 jn.mc.pre jn.mc.post x_=jn.mc.F x_:=by kernel_rfl
theorem jn.p0:PcA jn.G Try.f40 0:=
 loop_ok (s:=jn.c100002r) (by kernel_rfl) (by kernel_rfl) (loops_of (sh:=jn.c100002s) (I:=fun x_ s_=>(x_.1,x_.2.1,s_.1,x_.2.2.2.1,x_.2.2.2.2.1,x_.2.2.2.2.2.1,x_.2.2.2.2.2.2.1,x_.2.2.2.2.2.2.2.1,x_.2.2.2.2.2.2.2.2.1,x_.2.2.2.2.2.2.2.2.2.1,s_.2.1,s_.2.2,())) (fun x_=>rfl) (fun ρ x_ s_ k_=>(nat_br (nat_bnd fun _=>(nat_bnd fun _=>nat_leaf)) nat_leaf)) (fun ρ x_ t k=>(by kernel_rfl)) (fun x_ s=>by kernel_rfl))
theorem jn.p1:PcA jn.G Try.f40 1:=
 region_ok (s:=jn.c4r) (by kernel_rfl) (by kernel_rfl) (sums_of (sh:=jn.c4s) (fun ρ x_ k_=>(nat_bnd fun _=>(nat_bnd fun _=>(nat_bnd fun _=>(nat_bnd fun _=>(nat_bnd fun _=>nat_leaf)))))) (fun ρ x_ t k=>(by kernel_rfl)) (fun x_=>by kernel_rfl))
theorem jn.p2:PcA jn.G Try.f40 2:=
 region_ok (s:=jn.c5r) (by kernel_rfl) (by kernel_rfl) (sums_of (sh:=jn.c5s) (fun ρ x_ k_=>(nat_bnd fun _=>(nat_bnd fun _=>(nat_bnd fun _=>(nat_bnd fun _=>(nat_bnd fun _=>nat_leaf)))))) (fun ρ x_ t k=>(by kernel_rfl)) (fun x_=>by kernel_rfl))
theorem jn.ok:MOk Try.prog 40 jn.mc:=fnm_ok (G:=jn.G) tab_ok mixed Try.func40 ⟨fns_nil,(mfns_cons Js.ok mfns_nil),tab_eqs_ok⟩ (m:=3) (by kernel_rfl) ⟨⟨⟨trivial,jn.p0⟩,jn.p1⟩,jn.p2⟩ (by kernel_rfl) jn.eq
def jQ.pre:Shape:=⟨[(0,tb11),(1,tb51)],[(1000200,tb9)]⟩
def jQ.post:Shape:=⟨[(0,tb7)],[(1000200,tb9)]⟩
def jQ (p:Int×(Int×(Bool))) (t10002000:Int) (t10002001:Int) (t10002002:Bool):Option ((Bool)×Int×Int×(Bool)×Unit):=
 bnd (W.jx (p.1,p.2.1,p.2.2) (t10002000,t10002001,t10002002)) fun y=>
 some (y,t10002000,t10002001,t10002002,())
def jQ.mc:MCallee:=⟨84,jQ.pre,jQ.post,fun x_=>jQ x_.1 x_.2.1 x_.2.2.1 x_.2.2.2.1⟩
def jQ.G:Env:=⟨7,tab,[(85,jx.ce)],[0,1,2,3],[1000200],[],[],[],tab_eqs⟩
theorem jQ.eq (x_:densU jQ.mc.pre.tys):denM jQ.G Try.f84 jQ.mc.pre jQ.mc.post x_=jQ.mc.F x_:=by kernel_rfl
theorem jQ.ok:MOk Try.prog 84 jQ.mc:=fnm_ok (G:=jQ.G) tab_ok mixed Try.func84 ⟨(fns_cons jx.ok fns_nil),mfns_nil,tab_eqs_ok⟩ (m:=0) (by kernel_rfl) trivial (by kernel_rfl) jQ.eq
abbrev tb82:SD:=.one (.win 2000000 0)
abbrev tb83:SO:=.clo 84 [] [.ref 1000200 0]
def jk.pre:Shape:=⟨[(0,tb82),(1,tb69)],[(1000140,tb83),(1000200,tb9),(2000000,tb22)]⟩
def jk.post:Shape:=⟨[(0,tb5)],[(1000140,tb83),(1000200,tb9),(2000000,tb22)]⟩
def jk.c100002 {ρ:Type} (slo:Int) (sn:Int) (t7:Int) (t8:Int) (t10002000:Int) (t10002001:Int) (t10002002:Bool) (t2000000:List (Int×(Int×(Bool)))) (k_:(Int×Int×Int×(Bool))⊕((Int×Int×Int×Int×(Bool))⊕(Int×Int×Int×(Bool)))→Option ρ):Option ρ:=
 br (decide (t8 < t7))
 (bnd (okIf (decide ((0:Ty.den (Ty.int IntKind.i64))≤t8) && decide (t8 < sn))) fun y=>
 bnd (idx t2000000 (slo+t8)) fun y_1=>
 bnd (W.jQ y_1 t10002000 t10002001 t10002002) fun y_2=>
 br y_2.1
 (k_ (.inr (.inl (t8,t8,y_2.2.1,y_2.2.2.1,y_2.2.2.2.1))))
 (k_ (.inl ((IntKind.wrap IntKind.i64 (t8+(1:Int))),y_2.2.1,y_2.2.2.1,y_2.2.2.2.1))))
 (k_ (.inr (.inr (t8,t10002000,t10002001,t10002002))))
def jk.c100002s:Shape:=⟨[(0,tb82),(1,tb69),(4,tb5),(7,tb5),(8,tb5)],[(1000140,tb83),(1000200,tb9),(2000000,tb22)]⟩
def jk.c100002x0:Shape:=jk.c100002s
def jk.c100002x1:Shape:=jk.c100002s
def jk.c100002r:Ck:=Ck.ofLoop (S:=Int×Int×Int×(Bool)) (T:=(Int×Int×Int×Int×(Bool))⊕(Int×Int×Int×(Bool))) jk.c100002s (fun x_=>(x_.2.2.2.2.1,x_.2.2.2.2.2.1,x_.2.2.2.2.2.2.1,x_.2.2.2.2.2.2.2.1)) (fun ρ x_ s_ k_=>jk.c100002 x_.1 x_.2.1 x_.2.2.2.1 s_.1 s_.2.1 s_.2.2.1 s_.2.2.2 x_.2.2.2.2.2.2.2.2.1 k_) (fun ρ x_ r_ k_=>sel r_ (fun r_=>k_ 1 (Shape.inj jk.c100002x0 (x_.1,x_.2.1,r_.1,x_.2.2.2.1,r_.2.1,r_.2.2.1,r_.2.2.2.1,r_.2.2.2.2,x_.2.2.2.2.2.2.2.2))) (fun r_=>k_ 2 (Shape.inj jk.c100002x1 (x_.1,x_.2.1,x_.2.2.1,x_.2.2.2.1,r_.1,r_.2.1,r_.2.2.1,r_.2.2.2,x_.2.2.2.2.2.2.2.2))))
def jk (slo:Int) (sn:Int) (t10002000:Int) (t10002001:Int) (t10002002:Bool) (t2000000:List (Int×(Int×(Bool)))):Option (Int×Int×Int×(Bool)×(List (Int×(Int×(Bool))))×Unit):=
 bnd (iter (fun s↦W.jk.c100002 slo sn (↑(List.length (part slo sn t2000000)):Int) s.1 s.2.1 s.2.2.1 s.2.2.2 t2000000 some) ((0:Int),t10002000,t10002001,t10002002)) fun y=>
 sel y
 (fun u=>some (u.1,u.2.2.1,u.2.2.2.1,u.2.2.2.2,t2000000,()))
 (fun v=>some ((-1:Int),v.2.1,v.2.2.1,v.2.2.2,t2000000,()))
def jk.mc:MCallee:=⟨83,jk.pre,jk.post,fun x_=>jk x_.1 x_.2.1 x_.2.2.1 x_.2.2.2.1 x_.2.2.2.2.1 x_.2.2.2.2.2.1⟩
def jk.G:Env:=⟨19,tab,[],[0,1,4,5,7,8,9,16],[1000140,1000200,2000000],[],[(100002,jk.c100002r)],[(84,jQ.mc)],tab_eqs⟩
theorem jk.eq (x_:densU jk.mc.pre.tys):denM jk.G Try.f83 jk.mc.pre jk.mc.post x_=jk.mc.F x_:=by kernel_rfl
theorem jk.p0:PcA jk.G Try.f83 0:=
 loop_ok (s:=jk.c100002r) (by kernel_rfl) (by kernel_rfl) (loops_of (sh:=jk.c100002s) (I:=fun x_ s_=>(x_.1,x_.2.1,x_.2.2.1,x_.2.2.2.1,s_.1,s_.2.1,s_.2.2.1,s_.2.2.2,x_.2.2.2.2.2.2.2.2)) (fun x_=>rfl) (fun ρ x_ s_ k_=>(nat_br (nat_bnd fun _=>(nat_bnd fun _=>(nat_bnd fun _=>(nat_br nat_leaf nat_leaf)))) nat_leaf)) (fun ρ x_ t k=>(nat_sel (fun _=>(by kernel_rfl)) (fun _=>(by kernel_rfl)))) (fun x_ s=>by kernel_rfl))
theorem jk.ok:MOk Try.prog 83 jk.mc:=fnm_ok (G:=jk.G) tab_ok mixed Try.func83 ⟨fns_nil,(mfns_cons jQ.ok mfns_nil),tab_eqs_ok⟩ (m:=1) (by kernel_rfl) ⟨trivial,jk.p0⟩ (by kernel_rfl) jk.eq
def jA.c1 {ρ:Type} (p0:Int) (p1:Int) (o0:Int) (o1:Int) (k_:Int→Option ρ):Option ρ:=
 bnd (W.Jh (ibits BinOp.and IntKind.u64 p0 p1)) fun y=>
 bnd (W.Jh (ibits BinOp.and IntKind.u64 o0 o1)) fun y_1=>
 bnd (W.Jh (ibits BinOp.and IntKind.u64 p1 o0)) fun y_2=>
 k_ (IntKind.wrap IntKind.i64 (IntKind.wrap IntKind.i64 (y+y_1)+IntKind.wrap IntKind.i64 ((2:Int)*y_2)))
def jA.c1s:Shape:=⟨[(0,tb11),(1,tb11),(2,tb2),(3,tb12),(4,tb6)],[(2,tb9),(3,tb9),(4,tb9)]⟩
def jA.c1x0:Shape:=⟨[(0,tb11),(1,tb11),(2,tb2),(3,tb12),(4,tb6),(5,tb5)],[(2,tb9),(3,tb9),(4,tb9)]⟩
def jA.c1r:Ck:=Ck.of (T:=Int) jA.c1s (fun ρ x_ k_=>jA.c1 x_.2.2.1 x_.2.2.2.1 x_.2.2.2.2.2.1 x_.2.2.2.2.2.2.1 k_) (fun ρ x_ r_ k_=>k_ 0 (Shape.inj jA.c1x0 (x_.1,x_.2.1,r_,x_.2.2)))
def jA (p:Int×(Int×(Bool))) (o:Int×(Int×(Bool))):Option (Int×(Int×(Bool))):=
 bnd (W.jA.c1 p.1 p.2.1 o.1 o.2.1 some) fun y=>
 bnd (W.Jh (ibits BinOp.and IntKind.u64 (ibits BinOp.xor IntKind.u64 p.1 o.1) (ibits BinOp.xor IntKind.u64 p.2.1 o.2.1))) fun y_1=>
 some (ibits BinOp.xor IntKind.u64 p.1 o.1,ibits BinOp.xor IntKind.u64 p.2.1 o.2.1,!(!p.2.2 == o.2.2) == (ibits BinOp.and IntKind.i64 (IntKind.wrap IntKind.i64 (y - y_1)) (3:Int) == (2:Int)))
def jA.ce:Go.Ql.Callee:=⟨[(.st (.pair (.int .u64) (.pair (.int .u64) .bool))),(.st (.pair (.int .u64) (.pair (.int .u64) .bool)))],[(.st (.pair (.int .u64) (.pair (.int .u64) .bool)))],fun x_=>jA x_.1 x_.2⟩
def jA.G:Env:=⟨58,tab,[(118,Jh.ce)],[0,1,2,3,4,5,6],[],[(1,[⟨[],[],[9,10,13,14,15,16,17,20,21,22,23,24],[]⟩,⟨[0],[],[9,10,13,14,15,16,17,20,21,22,23,24],[]⟩,⟨[],[],[7,8,13,14,15,16,17,20,21,22,23,24],[]⟩,⟨[2],[],[7,8,13,14,15,16,17,20,21,22,23,24],[]⟩,⟨[1,0,3,2],[],[13,14,15,16,17,20,21,22,23,24],[]⟩,⟨[4,1,0,3,2],[],[13,14,15,16,17,20,21,22,23,24],[]⟩,⟨[],[],[7,8,9,10,11,12,15,16,20,21,22,23,24],[]⟩,⟨[6],[],[7,8,9,10,11,12,15,16,20,21,22,23,24],[]⟩,⟨[],[],[7,8,9,10,11,12,13,14,20,21,22,23,24],[]⟩,⟨[8],[],[7,8,9,10,11,12,13,14,20,21,22,23,24],[]⟩,⟨[7,6,9,8],[],[7,8,9,10,11,12,20,21,22,23,24],[]⟩,⟨[10,7,6,9,8,5,4,1,0,3,2],[],[20,21,22,23,24],[]⟩,⟨[5,4,1,0,3,2,11,10,7,6,9,8],[],[20,21,22,23,24,25,26],[]⟩,⟨[],[],[7,8,9,10,11,12,13,14,15,16,17,18,19,22,23],[]⟩,⟨[13],[],[7,8,9,10,11,12,13,14,15,16,17,18,19,22,23],[]⟩,⟨[],[],[7,8,9,10,11,12,13,14,15,16,17,18,19,20,21],[]⟩,⟨[15],[],[7,8,9,10,11,12,13,14,15,16,17,18,19,20,21],[]⟩,⟨[14,13,16,15],[],[7,8,9,10,11,12,13,14,15,16,17,18,19],[]⟩,⟨[17,14,13,16,15,11,10,7,6,9,8,5,4,1,0,3,2],[],[19],[]⟩,⟨[18,17,14,13,16,15,11,10,7,6,9,8,5,4,1,0,3,2],[],[19],[]⟩,⟨[12,5,4,1,0,3,2,11,10,7,6,9,8,19,18,17,14,13,16,15],[],[],[]⟩,⟨[20,12,5,4,1,0,3,2,11,10,7,6,9,8,19,18,17,14,13,16,15],[],[],[]⟩])],[(1,jA.c1r)],[],tab_eqs⟩
theorem jA.eq (x_:dens jA.ce.params):den jA.G Try.f86 jA.ce.params jA.ce.res x_=jA.ce.F x_:=by kernel_rfl
theorem jA.p0:PcA jA.G Try.f86 0:=
 region_ok (s:=jA.c1r) (by kernel_rfl) (by kernel_rfl) (sums_of (sh:=jA.c1s) (fun ρ x_ k_=>(nat_bnd fun _=>(nat_bnd fun _=>(nat_bnd fun _=>nat_leaf)))) (fun ρ x_ t k=>(by kernel_rfl)) (fun x_=>by kernel_rfl))
theorem jA.ok:CalleeOk Try.prog 86 jA.ce:=fn_ok (G:=jA.G) tab_ok mixed Try.func86 ⟨(fns_cons Jh.ok fns_nil),mfns_nil,tab_eqs_ok⟩ (m:=1) (by kernel_rfl) ⟨trivial,jA.p0⟩ (by kernel_rfl) jA.eq
def Jx (a:Int×(Int×(Bool))) (b:Int×(Int×(Bool))):Option (Int×(Int×(Bool))):=
 some (ibits BinOp.xor IntKind.u64 a.1 b.1,ibits BinOp.xor IntKind.u64 a.2.1 b.2.1,false)
def Jx.ce:Go.Ql.Callee:=⟨[(.st (.pair (.int .u64) (.pair (.int .u64) .bool))),(.st (.pair (.int .u64) (.pair (.int .u64) .bool)))],[(.st (.pair (.int .u64) (.pair (.int .u64) .bool)))],fun x_=>Jx x_.1 x_.2⟩
def Jx.G:Env:=⟨16,tab,[],[0,1,2,3,4],[],[],[],[],tab_eqs⟩
theorem Jx.eq (x_:dens Jx.ce.params):den Jx.G Try.f87 Jx.ce.params Jx.ce.res x_=Jx.ce.F x_:=by kernel_rfl
theorem Jx.ok:CalleeOk Try.prog 87 Jx.ce:=fn_ok (G:=Jx.G) tab_ok mixed Try.func87 ⟨fns_nil,mfns_nil,tab_eqs_ok⟩ (m:=0) (by kernel_rfl) trivial (by kernel_rfl) Jx.eq
end
end W
end
