/- Lifted functions, part 1: each with its contract. -/
import Derived.Test.YtjlmpaffhddmdaaDoorCa
import Derived.Test.YtjlmpaffhddmdaaDoorProg
set_option linter.all false
section
set_option maxHeartbeats 4000000
set_option maxRecDepth 100000
set_option linter.unusedVariables false
namespace W
open Go Go.Ql Go.Proofs
noncomputable section
abbrev nb0 : SD := .one (.val .bool)
abbrev nb1 : SD := .one (.val (.sl (.int .u32)))
abbrev nb2 : SD := .one (.ref 4 0)
abbrev nb3 : SD := .one (.val (.int .i64))
abbrev nb4 : SO := .box [.val .bool, .val (.sl (.int .u32))]
def whole_made.c2 {ρ : Type} (mag : List (Int)) (n : Int) (k_ : Bool → Option ρ) : Option ρ :=
  br (decide (n > (0 : Int)))
   (bnd (idx mag (IntKind.wrap IntKind.i64 (n - (1 : Int)))) fun y =>
    k_ (y == (0 : Int)))
   (k_ false)
def whole_made.c2s : Shape := ⟨[(0, nb0), (1, nb1), (4, nb2), (5, nb3)], [(4, nb4)]⟩
def whole_made.c2x0 : Shape := ⟨[(0, nb0), (1, nb1), (4, nb2), (5, nb3), (17, nb0)], [(4, nb4)]⟩
def whole_made.c2r : Ck := Ck.of (T := Bool) whole_made.c2s (fun ρ x_ k_ => whole_made.c2 x_.2.1 x_.2.2.1 k_) (fun ρ x_ r_ k_ => k_ 0 (Shape.inj whole_made.c2x0 (x_.1, x_.2.1, x_.2.2.1, r_, x_.2.2.2)))
def whole_made.c100002 {ρ : Type} (mag : List (Int)) (n : Int) (k_ : (Int) ⊕ (Int) → Option ρ) : Option ρ :=
  bnd (W.whole_made.c2 mag n some) fun y =>
  br y
   (k_ (.inl (IntKind.wrap IntKind.i64 (n - (1 : Int)))))
   (k_ (.inr n))
def whole_made.c100002s : Shape := whole_made.c2s
def whole_made.c100002x0 : Shape := whole_made.c2s
def whole_made.c100002r : Ck := Ck.ofLoop (S := Int) (T := Int) whole_made.c100002s (fun x_ => x_.2.2.1) (fun ρ x_ s_ k_ => whole_made.c100002 x_.2.1 s_ k_) (fun ρ x_ r_ k_ => k_ 2 (Shape.inj whole_made.c100002x0 (x_.1, x_.2.1, r_, x_.2.2.2)))
def whole_made (neg : Bool) (mag : List (Int)) : Option ((Bool) × (List Int)) :=
  bnd (iter (fun s ↦ W.whole_made.c100002 mag s some) ↑(List.length mag)) fun y =>
  br (y == (0 : Int))
   (some (false, []))
   (bnd (okIf (decide ((0 : Int) ≤ y) && decide (y ≤ y) && decide (y ≤ (↑(List.length mag) : Int)))) fun y_1 =>
    some (neg, List.take (Int.toNat y) mag))
def whole_made.ce : Go.Ql.Callee := ⟨[.bool, (.sl (.int .u32))], [(.st (.pair .bool (.sl (.int .u32))))], fun x_ => whole_made x_.1 x_.2⟩
def whole_made.G : Env := ⟨29, tab, [], [0, 1, 4, 5, 17, 21], [], [], [(100002, whole_made.c100002r), (2, whole_made.c2r)], [], tab_eqs, []⟩
theorem whole_made.eq (x_ : dens whole_made.ce.params) : den whole_made.G Tryd.f36 whole_made.ce.params whole_made.ce.res x_ = whole_made.ce.F x_ := by kernel_rfl
theorem whole_made.p0 : PcA whole_made.G Tryd.f36 0 :=
  loop_ok (s := whole_made.c100002r) (by kernel_rfl) (by kernel_rfl) (loops_of (sh := whole_made.c100002s) (I := fun x_ s_ => (x_.1, x_.2.1, s_, x_.2.2.2)) (fun x_ => rfl) (fun ρ x_ s_ k_ => (nat_bnd fun _ => (nat_br nat_leaf nat_leaf))) (fun ρ x_ t k => (by kernel_rfl)) (fun x_ s => by kernel_rfl))
theorem whole_made.p1 : PcA whole_made.G Tryd.f36 1 :=
  region_ok (s := whole_made.c2r) (by kernel_rfl) (by kernel_rfl) (sums_of (sh := whole_made.c2s) (fun ρ x_ k_ => (nat_br (nat_bnd fun _ => nat_leaf) nat_leaf)) (fun ρ x_ t k => (by kernel_rfl)) (fun x_ => by kernel_rfl))
theorem whole_made.ok : CalleeOk Tryd.prog 36 whole_made.ce := fn_ok (G := whole_made.G) tab_ok mixed Tryd.func36 ⟨fns_nil, mfns_nil, tab_eqs_ok, alts_nil⟩ (m := 2) (by kernel_rfl) ⟨⟨trivial, whole_made.p0⟩, whole_made.p1⟩ (by kernel_rfl) whole_made.eq
abbrev nb5 : SD := .one (.ref 2 0)
abbrev nb6 : SD := .one (.val (.int .u64))
def whole_Of.c208197 {ρ : Type} (n : Int) (u : Int) (k_ : Int → Option ρ) : Option ρ :=
  br (decide (n < (0 : Int)))
   (k_ (IntKind.wrap IntKind.u64 ((0 : Int) - u)))
   (k_ u)
def whole_Of.c208197s : Shape := ⟨[(0, nb3), (2, nb5), (3, nb6)], [(2, nb4)]⟩
def whole_Of.c208197x0 : Shape := whole_Of.c208197s
def whole_Of.c208197r : Ck := Ck.of (T := Int) whole_Of.c208197s (fun ρ x_ k_ => whole_Of.c208197 x_.1 x_.2.1 k_) (fun ρ x_ r_ k_ => k_ 0 (Shape.inj whole_Of.c208197x0 (x_.1, r_, x_.2.2)))
def whole_Of (n : Int) : Option ((Bool) × (List Int)) :=
  bnd (W.whole_Of.c208197 n (IntKind.wrap IntKind.u64 n) some) fun y =>
  bnd (W.whole_made (decide (n < (0 : Int))) [IntKind.wrap IntKind.u32 y, IntKind.wrap IntKind.u32 (Int.fdiv y ((2 : Int) ^ (32 : Nat)))]) fun y_1 =>
  some (Prod.fst y_1, Prod.snd y_1)
def whole_Of.ce : Go.Ql.Callee := ⟨[(.int .i64)], [(.st (.pair .bool (.sl (.int .u32))))], fun x_ => whole_Of x_⟩
def whole_Of.G : Env := ⟨19, tab, [(36, whole_made.ce)], [0, 2, 3, 7], [], [], [(208197, whole_Of.c208197r)], [], tab_eqs, []⟩
theorem whole_Of.eq (x_ : dens whole_Of.ce.params) : den whole_Of.G Tryd.f19 whole_Of.ce.params whole_Of.ce.res x_ = whole_Of.ce.F x_ := by kernel_rfl
theorem whole_Of.p0 : PcA whole_Of.G Tryd.f19 0 :=
  join_ok (s := whole_Of.c208197r) (by kernel_rfl) (by kernel_rfl) (sums_of (sh := whole_Of.c208197s) (fun ρ x_ k_ => (nat_br nat_leaf nat_leaf)) (fun ρ x_ t k => (by kernel_rfl)) (fun x_ => by kernel_rfl))
theorem whole_Of.ok : CalleeOk Tryd.prog 19 whole_Of.ce := fn_ok (G := whole_Of.G) tab_ok mixed Tryd.func19 ⟨(fns_cons whole_made.ok fns_nil), mfns_nil, tab_eqs_ok, alts_nil⟩ (m := 1) (by kernel_rfl) ⟨trivial, whole_Of.p0⟩ (by kernel_rfl) whole_Of.eq
def whole_Int_Neg (a : (Bool) × (List Int)) : Option ((Bool) × (List Int)) :=
  bnd (W.whole_made (!Prod.fst a) (Prod.snd a)) fun y =>
  some (Prod.fst y, Prod.snd y)
def whole_Int_Neg.ce : Go.Ql.Callee := ⟨[(.st (.pair .bool (.sl (.int .u32))))], [(.st (.pair .bool (.sl (.int .u32))))], fun x_ => whole_Int_Neg x_⟩
def whole_Int_Neg.G : Env := ⟨9, tab, [(36, whole_made.ce)], [0, 1, 2], [], [], [], [], tab_eqs, []⟩
theorem whole_Int_Neg.eq (x_ : dens whole_Int_Neg.ce.params) : den whole_Int_Neg.G Tryd.f20 whole_Int_Neg.ce.params whole_Int_Neg.ce.res x_ = whole_Int_Neg.ce.F x_ := by kernel_rfl
theorem whole_Int_Neg.ok : CalleeOk Tryd.prog 20 whole_Int_Neg.ce := fn_ok (G := whole_Int_Neg.G) tab_ok mixed Tryd.func20 ⟨(fns_cons whole_made.ok fns_nil), mfns_nil, tab_eqs_ok, alts_nil⟩ (m := 0) (by kernel_rfl) trivial (by kernel_rfl) whole_Int_Neg.eq
def bits_Add32 (x : Int) (y : Int) (carry : Int) : Option ((Int) × (Int)) :=
  some (IntKind.wrap IntKind.u32 (IntKind.wrap IntKind.u64 (IntKind.wrap IntKind.u64 (IntKind.wrap IntKind.u64 x + IntKind.wrap IntKind.u64 y) + IntKind.wrap IntKind.u64 carry)), IntKind.wrap IntKind.u32 (Int.fdiv (IntKind.wrap IntKind.u64 (IntKind.wrap IntKind.u64 (IntKind.wrap IntKind.u64 x + IntKind.wrap IntKind.u64 y) + IntKind.wrap IntKind.u64 carry)) ((2 : Int) ^ (32 : Nat))))
def bits_Add32.ce : Go.Ql.Callee := ⟨[(.int .u32), (.int .u32), (.int .u32)], [(.int .u32), (.int .u32)], fun x_ => bits_Add32 x_.1 x_.2.1 x_.2.2⟩
def bits_Add32.G : Env := ⟨22, tab, [], [0, 1, 2, 6, 7, 8], [], [], [], [], tab_eqs, []⟩
theorem bits_Add32.eq (x_ : dens bits_Add32.ce.params) : den bits_Add32.G Tryd.f56 bits_Add32.ce.params bits_Add32.ce.res x_ = bits_Add32.ce.F x_ := by kernel_rfl
theorem bits_Add32.ok : CalleeOk Tryd.prog 56 bits_Add32.ce := fn_ok (G := bits_Add32.G) tab_ok mixed Tryd.func56 ⟨fns_nil, mfns_nil, tab_eqs_ok, alts_nil⟩ (m := 0) (by kernel_rfl) trivial (by kernel_rfl) bits_Add32.eq
abbrev nb7 : SD := .one (.own 20 0)
abbrev nb8 : SD := .one (.val (.int .u32))
abbrev nb9 : SO := .arr 0 false 69 (.int .u32)
def whole_sum.c204101 {ρ : Type} (a : List (Int)) (b : List (Int)) (k_ : (List Int) × (List Int) → Option ρ) : Option ρ :=
  br (decide ((↑(List.length a) : Int) < (↑(List.length b) : Int)))
   (k_ (b, a))
   (k_ (a, b))
def whole_sum.c204101s : Shape := ⟨[(0, nb1), (1, nb1), (4, nb1)], []⟩
def whole_sum.c204101x0 : Shape := whole_sum.c204101s
def whole_sum.c204101r : Ck := Ck.of (T := (List Int) × (List Int)) whole_sum.c204101s (fun ρ x_ k_ => whole_sum.c204101 x_.1 x_.2.1 k_) (fun ρ x_ r_ k_ => k_ 0 (Shape.inj whole_sum.c204101x0 (r_.1, r_.2, x_.2.2)))
def whole_sum.c236869 {ρ : Type} (b : List (Int)) (i : Int) (y : Int) (k_ : Int → Option ρ) : Option ρ :=
  br (decide (i < (↑(List.length b) : Int)))
   (bnd (idx b i) fun y_1 =>
    k_ y_1)
   (k_ y)
def whole_sum.c236869s : Shape := ⟨[(0, nb1), (1, nb1), (4, nb1), (5, nb7), (6, nb8), (7, nb3), (8, nb8), (9, nb8), (21, nb1), (22, nb3), (23, nb3)], [(20, nb9)]⟩
def whole_sum.c236869x0 : Shape := whole_sum.c236869s
def whole_sum.c236869r : Ck := Ck.of (T := Int) whole_sum.c236869s (fun ρ x_ k_ => whole_sum.c236869 x_.2.1 x_.2.2.2.2.1 x_.2.2.2.2.2.2.1 k_) (fun ρ x_ r_ k_ => k_ 0 (Shape.inj whole_sum.c236869x0 (x_.1, x_.2.1, x_.2.2.1, x_.2.2.2.1, x_.2.2.2.2.1, x_.2.2.2.2.2.1, r_, x_.2.2.2.2.2.2.2)))
def whole_sum.c100006 {ρ : Type} (b : List (Int)) (c : Int) (t21 : List (Int)) (t22 : Int) (t23 : Int) (t20 : List (Int)) (k_ : ((Int) × (Int) × (List Int)) ⊕ ((Int) × (Int) × (List Int)) → Option ρ) : Option ρ :=
  br (decide (t23 < t22))
   (bnd (idx t21 t23) fun y =>
    bnd (W.whole_sum.c236869 b t23 (0 : Int) some) fun y_1 =>
    bnd (W.bits_Add32 y y_1 c) fun y_2 =>
    bnd (inR (List.length t20) t23) fun y_3 =>
    bnd (idx t20 t23) fun y_4 =>
    k_ (.inl ((Prod.snd y_2), (IntKind.wrap IntKind.i64 (t23 + (1 : Int))), (List.set t20 (Int.toNat t23) (Prod.fst y_2)))))
   (k_ (.inr (c, t23, t20)))
def whole_sum.c100006s : Shape := ⟨[(0, nb1), (1, nb1), (4, nb1), (5, nb7), (6, nb8), (21, nb1), (22, nb3), (23, nb3)], [(20, nb9)]⟩
def whole_sum.c100006x0 : Shape := whole_sum.c100006s
def whole_sum.c100006r : Ck := Ck.ofLoop (S := (Int) × (Int) × (List Int)) (T := (Int) × (Int) × (List Int)) whole_sum.c100006s (fun x_ => (x_.2.2.2.1, x_.2.2.2.2.2.2.1, x_.2.2.2.2.2.2.2.1)) (fun ρ x_ s_ k_ => whole_sum.c100006 x_.2.1 s_.1 x_.2.2.2.2.1 x_.2.2.2.2.2.1 s_.2.1 s_.2.2 k_) (fun ρ x_ r_ k_ => k_ 2 (Shape.inj whole_sum.c100006x0 (x_.1, x_.2.1, x_.2.2.1, r_.1, x_.2.2.2.2.1, x_.2.2.2.2.2.1, r_.2.1, r_.2.2, ())))
def whole_sum (a : List (Int)) (b : List (Int)) : Option (List Int) :=
  bnd (W.whole_sum.c204101 a b some) fun y =>
  bnd (okIf (decide ((0 : Int) ≤ IntKind.wrap IntKind.i64 ((↑(List.length (Prod.fst y)) : Int) + (1 : Int))) && decide (IntKind.wrap IntKind.i64 ((↑(List.length (Prod.fst y)) : Int) + (1 : Int)) ≤ IntKind.wrap IntKind.i64 ((↑(List.length (Prod.fst y)) : Int) + (1 : Int))) && decide (IntKind.wrap IntKind.i64 ((↑(List.length (Prod.fst y)) : Int) + (1 : Int)) * (↑(4 : Nat) : Int) ≤ (140737488355328 : Int)) && decide (IntKind.wrap IntKind.i64 ((↑(List.length (Prod.fst y)) : Int) + (1 : Int)) ≤ (140737488355328 : Int)))) fun y_1 =>
  bnd (iter (fun s ↦ W.whole_sum.c100006 (Prod.snd y) (Prod.fst s) (Prod.fst y) (↑(List.length (Prod.fst y)) : Int) (Prod.fst (Prod.snd s)) (Prod.snd (Prod.snd s)) some) ((0 : Int), (0 : Int), List.replicate (Int.toNat (IntKind.wrap IntKind.i64 ((↑(List.length (Prod.fst y)) : Int) + (1 : Int)))) (0 : Int))) fun y_2 =>
  bnd (inR (List.length (Prod.snd (Prod.snd y_2))) (↑(List.length (Prod.fst y)) : Int)) fun y_3 =>
  bnd (idx (Prod.snd (Prod.snd y_2)) (↑(List.length (Prod.fst y)) : Int)) fun y_4 =>
  some (List.set (Prod.snd (Prod.snd y_2)) (Int.toNat (↑(List.length (Prod.fst y)) : Int)) (Prod.fst y_2))
def whole_sum.ce : Go.Ql.Callee := ⟨[(.sl (.int .u32)), (.sl (.int .u32))], [(.sl (.int .u32))], fun x_ => whole_sum x_.1 x_.2⟩
def whole_sum.G : Env := ⟨53, tab, [(56, bits_Add32.ce)], [0, 1, 4, 5, 6, 7, 8, 9, 14, 21, 22, 23, 24, 31], [20], [], [(100006, whole_sum.c100006r), (236869, whole_sum.c236869r), (204101, whole_sum.c204101r)], [], tab_eqs, []⟩
theorem whole_sum.eq (x_ : dens whole_sum.ce.params) : den whole_sum.G Tryd.f37 whole_sum.ce.params whole_sum.ce.res x_ = whole_sum.ce.F x_ := by kernel_rfl
theorem whole_sum.p0 : PcA whole_sum.G Tryd.f37 0 :=
  join_ok (s := whole_sum.c204101r) (by kernel_rfl) (by kernel_rfl) (sums_of (sh := whole_sum.c204101s) (fun ρ x_ k_ => (nat_br nat_leaf nat_leaf)) (fun ρ x_ t k => (by kernel_rfl)) (fun x_ => by kernel_rfl))
theorem whole_sum.p1 : PcA whole_sum.G Tryd.f37 1 :=
  loop_ok (s := whole_sum.c100006r) (by kernel_rfl) (by kernel_rfl) (loops_of (sh := whole_sum.c100006s) (I := fun x_ s_ => (x_.1, x_.2.1, x_.2.2.1, s_.1, x_.2.2.2.2.1, x_.2.2.2.2.2.1, s_.2.1, s_.2.2, ())) (fun x_ => rfl) (fun ρ x_ s_ k_ => (nat_br (nat_bnd fun _ => (nat_bnd fun _ => (nat_bnd fun _ => (nat_bnd fun _ => (nat_bnd fun _ => nat_leaf))))) nat_leaf)) (fun ρ x_ t k => (by kernel_rfl)) (fun x_ s => by kernel_rfl))
theorem whole_sum.p2 : PcA whole_sum.G Tryd.f37 2 :=
  join_ok (s := whole_sum.c236869r) (by kernel_rfl) (by kernel_rfl) (sums_of (sh := whole_sum.c236869s) (fun ρ x_ k_ => (nat_br (nat_bnd fun _ => nat_leaf) nat_leaf)) (fun ρ x_ t k => (by kernel_rfl)) (fun x_ => by kernel_rfl))
theorem whole_sum.ok : CalleeOk Tryd.prog 37 whole_sum.ce := fn_ok (G := whole_sum.G) tab_ok mixed Tryd.func37 ⟨(fns_cons bits_Add32.ok fns_nil), mfns_nil, tab_eqs_ok, alts_nil⟩ (m := 3) (by kernel_rfl) ⟨⟨⟨trivial, whole_sum.p0⟩, whole_sum.p1⟩, whole_sum.p2⟩ (by kernel_rfl) whole_sum.eq
def cmp_isNaN_int (x : Int) : Option (Bool) :=
  some (x != x)
def cmp_isNaN_int.ce : Go.Ql.Callee := ⟨[(.int .i64)], [.bool], fun x_ => cmp_isNaN_int x_⟩
def cmp_isNaN_int.G : Env := ⟨6, tab, [], [0, 2], [], [], [], [], tab_eqs, []⟩
theorem cmp_isNaN_int.eq (x_ : dens cmp_isNaN_int.ce.params) : den cmp_isNaN_int.G Tryd.f63 cmp_isNaN_int.ce.params cmp_isNaN_int.ce.res x_ = cmp_isNaN_int.ce.F x_ := by kernel_rfl
theorem cmp_isNaN_int.ok : CalleeOk Tryd.prog 63 cmp_isNaN_int.ce := fn_ok (G := cmp_isNaN_int.G) tab_ok mixed Tryd.func63 ⟨fns_nil, mfns_nil, tab_eqs_ok, alts_nil⟩ (m := 0) (by kernel_rfl) trivial (by kernel_rfl) cmp_isNaN_int.eq
def cmp_Compare_int (x : Int) (y : Int) : Option (Int) :=
  bnd (W.cmp_isNaN_int x) fun y_1 =>
  bnd (W.cmp_isNaN_int y) fun y_2 =>
  br y_1
   (br y_2
     (some (0 : Int))
     (some (-1 : Int)))
   (br y_2
     (some (1 : Int))
     (br (decide (x < y))
       (some (-1 : Int))
       (br (decide (x > y))
         (some (1 : Int))
         (some (0 : Int)))))
def cmp_Compare_int.ce : Go.Ql.Callee := ⟨[(.int .i64), (.int .i64)], [(.int .i64)], fun x_ => cmp_Compare_int x_.1 x_.2⟩
def cmp_Compare_int.G : Env := ⟨20, tab, [(63, cmp_isNaN_int.ce)], [0, 1, 4, 5, 6, 11, 12, 13, 16, 19], [], [], [], [], tab_eqs, []⟩
theorem cmp_Compare_int.eq (x_ : dens cmp_Compare_int.ce.params) : den cmp_Compare_int.G Tryd.f42 cmp_Compare_int.ce.params cmp_Compare_int.ce.res x_ = cmp_Compare_int.ce.F x_ := by kernel_rfl
theorem cmp_Compare_int.ok : CalleeOk Tryd.prog 42 cmp_Compare_int.ce := fn_ok (G := cmp_Compare_int.G) tab_ok mixed Tryd.func42 ⟨(fns_cons cmp_isNaN_int.ok fns_nil), mfns_nil, tab_eqs_ok, alts_nil⟩ (m := 0) (by kernel_rfl) trivial (by kernel_rfl) cmp_Compare_int.eq
def cmp_isNaN_uint32 (x : Int) : Option (Bool) :=
  some (x != x)
def cmp_isNaN_uint32.ce : Go.Ql.Callee := ⟨[(.int .u32)], [.bool], fun x_ => cmp_isNaN_uint32 x_⟩
def cmp_isNaN_uint32.G : Env := ⟨6, tab, [], [0, 2], [], [], [], [], tab_eqs, []⟩
theorem cmp_isNaN_uint32.eq (x_ : dens cmp_isNaN_uint32.ce.params) : den cmp_isNaN_uint32.G Tryd.f74 cmp_isNaN_uint32.ce.params cmp_isNaN_uint32.ce.res x_ = cmp_isNaN_uint32.ce.F x_ := by kernel_rfl
theorem cmp_isNaN_uint32.ok : CalleeOk Tryd.prog 74 cmp_isNaN_uint32.ce := fn_ok (G := cmp_isNaN_uint32.G) tab_ok mixed Tryd.func74 ⟨fns_nil, mfns_nil, tab_eqs_ok, alts_nil⟩ (m := 0) (by kernel_rfl) trivial (by kernel_rfl) cmp_isNaN_uint32.eq
def cmp_Compare_uint32 (x : Int) (y : Int) : Option (Int) :=
  bnd (W.cmp_isNaN_uint32 x) fun y_1 =>
  bnd (W.cmp_isNaN_uint32 y) fun y_2 =>
  br y_1
   (br y_2
     (some (0 : Int))
     (some (-1 : Int)))
   (br y_2
     (some (1 : Int))
     (br (decide (x < y))
       (some (-1 : Int))
       (br (decide (x > y))
         (some (1 : Int))
         (some (0 : Int)))))
def cmp_Compare_uint32.ce : Go.Ql.Callee := ⟨[(.int .u32), (.int .u32)], [(.int .i64)], fun x_ => cmp_Compare_uint32 x_.1 x_.2⟩
def cmp_Compare_uint32.G : Env := ⟨20, tab, [(74, cmp_isNaN_uint32.ce)], [0, 1, 4, 5, 6, 11, 12, 13, 16, 19], [], [], [], [], tab_eqs, []⟩
theorem cmp_Compare_uint32.eq (x_ : dens cmp_Compare_uint32.ce.params) : den cmp_Compare_uint32.G Tryd.f57 cmp_Compare_uint32.ce.params cmp_Compare_uint32.ce.res x_ = cmp_Compare_uint32.ce.F x_ := by kernel_rfl
theorem cmp_Compare_uint32.ok : CalleeOk Tryd.prog 57 cmp_Compare_uint32.ce := fn_ok (G := cmp_Compare_uint32.G) tab_ok mixed Tryd.func57 ⟨(fns_cons cmp_isNaN_uint32.ok fns_nil), mfns_nil, tab_eqs_ok, alts_nil⟩ (m := 0) (by kernel_rfl) trivial (by kernel_rfl) cmp_Compare_uint32.eq
def whole_order.c7 {ρ : Type} (a : List (Int)) (b : List (Int)) (i : Int) (k_ : Int → Option ρ) : Option ρ :=
  bnd (idx a i) fun y =>
  bnd (idx b i) fun y_1 =>
  bnd (W.cmp_Compare_uint32 y y_1) fun y_2 =>
  k_ y_2
def whole_order.c7s : Shape := ⟨[(0, nb1), (1, nb1), (4, nb3), (5, nb3), (6, nb3)], []⟩
def whole_order.c7x0 : Shape := ⟨[(0, nb1), (1, nb1), (4, nb3), (5, nb3), (6, nb3), (7, nb3)], []⟩
def whole_order.c7r : Ck := Ck.of (T := Int) whole_order.c7s (fun ρ x_ k_ => whole_order.c7 x_.1 x_.2.1 x_.2.2.2.2.1 k_) (fun ρ x_ r_ k_ => k_ 0 (Shape.inj whole_order.c7x0 (x_.1, x_.2.1, x_.2.2.1, x_.2.2.2.1, x_.2.2.2.2.1, r_, ())))
def whole_order.c100005 {ρ : Type} (a : List (Int)) (b : List (Int)) (i : Int) (k_ : (Int) ⊕ (((Int) × (Int)) ⊕ (Int)) → Option ρ) : Option ρ :=
  br (decide (i ≥ (0 : Int)))
   (bnd (W.whole_order.c7 a b i some) fun y =>
    br (y != (0 : Int))
     (k_ (.inr (.inl (y, i))))
     (k_ (.inl (IntKind.wrap IntKind.i64 (i - (1 : Int))))))
   (k_ (.inr (.inr i)))
def whole_order.c100005s : Shape := whole_order.c7s
def whole_order.c100005x0 : Shape := whole_order.c7s
def whole_order.c100005x1 : Shape := whole_order.c7s
def whole_order.c100005r : Ck := Ck.ofLoop (S := Int) (T := ((Int) × (Int)) ⊕ (Int)) whole_order.c100005s (fun x_ => x_.2.2.2.2.1) (fun ρ x_ s_ k_ => whole_order.c100005 x_.1 x_.2.1 s_ k_) (fun ρ x_ r_ k_ => sel r_ (fun r_ => k_ 1 (Shape.inj whole_order.c100005x0 (x_.1, x_.2.1, r_.1, x_.2.2.2.1, r_.2, ()))) (fun r_ => k_ 2 (Shape.inj whole_order.c100005x1 (x_.1, x_.2.1, x_.2.2.1, x_.2.2.2.1, r_, ()))))
def whole_order (a : List (Int)) (b : List (Int)) : Option (Int) :=
  bnd (W.cmp_Compare_int (↑(List.length a) : Int) (↑(List.length b) : Int)) fun y =>
  br (y != (0 : Int))
   (some y)
   (bnd (iter (fun s ↦ W.whole_order.c100005 a b s some) (IntKind.wrap IntKind.i64 ((↑(List.length a) : Int) - (1 : Int)))) fun y_1 =>
    sel y_1
     (fun u => some (Prod.fst u))
     (fun v => some (0 : Int)))
def whole_order.ce : Go.Ql.Callee := ⟨[(.sl (.int .u32)), (.sl (.int .u32))], [(.int .i64)], fun x_ => whole_order x_.1 x_.2⟩
def whole_order.G : Env := ⟨35, tab, [(42, cmp_Compare_int.ce), (57, cmp_Compare_uint32.ce)], [0, 1, 4, 5, 6, 7, 14, 20, 33], [], [(7, [⟨[], [], [24, 27, 28, 29, 30], []⟩, ⟨[], [], [23, 27, 28, 29, 30], []⟩, ⟨[0, 1], [], [27, 28, 29, 30], []⟩, ⟨[2, 0, 1], [], [27, 28, 29, 30], []⟩, ⟨[], [], [23, 24, 25, 26, 28], []⟩, ⟨[], [], [23, 24, 25, 26, 27], []⟩, ⟨[4, 5], [], [23, 24, 25, 26], []⟩, ⟨[6, 4, 5], [], [23, 24, 25, 26], []⟩, ⟨[3, 2, 0, 1, 7, 6, 4, 5], [], [], []⟩, ⟨[8, 3, 2, 0, 1, 7, 6, 4, 5], [], [], []⟩])], [(100005, whole_order.c100005r), (7, whole_order.c7r)], [], tab_eqs, []⟩
theorem whole_order.eq (x_ : dens whole_order.ce.params) : den whole_order.G Tryd.f38 whole_order.ce.params whole_order.ce.res x_ = whole_order.ce.F x_ := by kernel_rfl
theorem whole_order.p0 : PcA whole_order.G Tryd.f38 0 :=
  loop_ok (s := whole_order.c100005r) (by kernel_rfl) (by kernel_rfl) (loops_of (sh := whole_order.c100005s) (I := fun x_ s_ => (x_.1, x_.2.1, x_.2.2.1, x_.2.2.2.1, s_, ())) (fun x_ => rfl) (fun ρ x_ s_ k_ => (nat_br (nat_bnd fun _ => (nat_br nat_leaf nat_leaf)) nat_leaf)) (fun ρ x_ t k => (nat_sel (fun _ => (by kernel_rfl)) (fun _ => (by kernel_rfl)))) (fun x_ s => by kernel_rfl))
theorem whole_order.p1 : PcA whole_order.G Tryd.f38 1 :=
  region_ok (s := whole_order.c7r) (by kernel_rfl) (by kernel_rfl) (sums_of (sh := whole_order.c7s) (fun ρ x_ k_ => (nat_bnd fun _ => (nat_bnd fun _ => (nat_bnd fun _ => nat_leaf)))) (fun ρ x_ t k => (by kernel_rfl)) (fun x_ => by kernel_rfl))
theorem whole_order.ok : CalleeOk Tryd.prog 38 whole_order.ce := fn_ok (G := whole_order.G) tab_ok mixed Tryd.func38 ⟨(fns_cons cmp_Compare_int.ok (fns_cons cmp_Compare_uint32.ok fns_nil)), mfns_nil, tab_eqs_ok, alts_nil⟩ (m := 2) (by kernel_rfl) ⟨⟨trivial, whole_order.p0⟩, whole_order.p1⟩ (by kernel_rfl) whole_order.eq
def bits_Sub32 (x : Int) (y : Int) (borrow : Int) : Option ((Int) × (Int)) :=
  some (IntKind.wrap IntKind.u32 (IntKind.wrap IntKind.u32 (x - y) - borrow), Int.fdiv (ibits BinOp.or IntKind.u32 (ibits BinOp.and IntKind.u32 (ibits BinOp.xor IntKind.u32 (Int.ofNat (nat_lit 2 ^ (32 : Nat) - Nat.succ (nat_lit 0))) x) y) (ibits BinOp.and IntKind.u32 (ibits BinOp.xor IntKind.u32 (Int.ofNat (nat_lit 2 ^ (32 : Nat) - Nat.succ (nat_lit 0))) (ibits BinOp.xor IntKind.u32 x y)) (IntKind.wrap IntKind.u32 (IntKind.wrap IntKind.u32 (x - y) - borrow)))) ((2 : Int) ^ (31 : Nat)))
def bits_Sub32.ce : Go.Ql.Callee := ⟨[(.int .u32), (.int .u32), (.int .u32)], [(.int .u32), (.int .u32)], fun x_ => bits_Sub32 x_.1 x_.2.1 x_.2.2⟩
def bits_Sub32.G : Env := ⟨25, tab, [], [0, 1, 2, 6, 7], [], [], [], [], tab_eqs, []⟩
theorem bits_Sub32.eq (x_ : dens bits_Sub32.ce.params) : den bits_Sub32.G Tryd.f58 bits_Sub32.ce.params bits_Sub32.ce.res x_ = bits_Sub32.ce.F x_ := by kernel_rfl
theorem bits_Sub32.ok : CalleeOk Tryd.prog 58 bits_Sub32.ce := fn_ok (G := bits_Sub32.G) tab_ok mixed Tryd.func58 ⟨fns_nil, mfns_nil, tab_eqs_ok, alts_nil⟩ (m := 0) (by kernel_rfl) trivial (by kernel_rfl) bits_Sub32.eq
abbrev nb10 : SD := .one (.own 12 0)
def whole_less.c228677 {ρ : Type} (b : List (Int)) (i : Int) (y : Int) (k_ : Int → Option ρ) : Option ρ :=
  br (decide (i < (↑(List.length b) : Int)))
   (bnd (idx b i) fun y_1 =>
    k_ y_1)
   (k_ y)
def whole_less.c228677s : Shape := ⟨[(0, nb1), (1, nb1), (4, nb1), (5, nb10), (6, nb8), (7, nb3), (8, nb8), (9, nb8), (13, nb1), (14, nb3), (15, nb3)], [(12, nb9)]⟩
def whole_less.c228677x0 : Shape := whole_less.c228677s
def whole_less.c228677r : Ck := Ck.of (T := Int) whole_less.c228677s (fun ρ x_ k_ => whole_less.c228677 x_.2.1 x_.2.2.2.2.1 x_.2.2.2.2.2.2.1 k_) (fun ρ x_ r_ k_ => k_ 0 (Shape.inj whole_less.c228677x0 (x_.1, x_.2.1, x_.2.2.1, x_.2.2.2.1, x_.2.2.2.2.1, x_.2.2.2.2.2.1, r_, x_.2.2.2.2.2.2.2)))
def whole_less.c100004 {ρ : Type} (b : List (Int)) (c : Int) (t13 : List (Int)) (t14 : Int) (t15 : Int) (t12 : List (Int)) (k_ : ((Int) × (Int) × (List Int)) ⊕ ((Int) × (Int) × (List Int)) → Option ρ) : Option ρ :=
  br (decide (t15 < t14))
   (bnd (idx t13 t15) fun y =>
    bnd (W.whole_less.c228677 b t15 (0 : Int) some) fun y_1 =>
    bnd (W.bits_Sub32 y y_1 c) fun y_2 =>
    bnd (inR (List.length t12) t15) fun y_3 =>
    bnd (idx t12 t15) fun y_4 =>
    k_ (.inl ((Prod.snd y_2), (IntKind.wrap IntKind.i64 (t15 + (1 : Int))), (List.set t12 (Int.toNat t15) (Prod.fst y_2)))))
   (k_ (.inr (c, t15, t12)))
def whole_less.c100004s : Shape := ⟨[(0, nb1), (1, nb1), (4, nb1), (5, nb10), (6, nb8), (13, nb1), (14, nb3), (15, nb3)], [(12, nb9)]⟩
def whole_less.c100004x0 : Shape := whole_less.c100004s
def whole_less.c100004r : Ck := Ck.ofLoop (S := (Int) × (Int) × (List Int)) (T := (Int) × (Int) × (List Int)) whole_less.c100004s (fun x_ => (x_.2.2.2.1, x_.2.2.2.2.2.2.1, x_.2.2.2.2.2.2.2.1)) (fun ρ x_ s_ k_ => whole_less.c100004 x_.2.1 s_.1 x_.2.2.2.2.1 x_.2.2.2.2.2.1 s_.2.1 s_.2.2 k_) (fun ρ x_ r_ k_ => k_ 2 (Shape.inj whole_less.c100004x0 (x_.1, x_.2.1, x_.2.2.1, r_.1, x_.2.2.2.2.1, x_.2.2.2.2.2.1, r_.2.1, r_.2.2, ())))
def whole_less (a : List (Int)) (b : List (Int)) : Option (List Int) :=
  bnd (okIf (decide ((0 : Int) ≤ (↑(List.length a) : Int)) && decide ((↑(List.length a) : Int) ≤ (↑(List.length a) : Int)) && decide ((↑(List.length a) : Int) * (↑(4 : Nat) : Int) ≤ (140737488355328 : Int)) && decide ((↑(List.length a) : Int) ≤ (140737488355328 : Int)))) fun y =>
  bnd (iter (fun s ↦ W.whole_less.c100004 b (Prod.fst s) a (↑(List.length a) : Int) (Prod.fst (Prod.snd s)) (Prod.snd (Prod.snd s)) some) ((0 : Int), (0 : Int), List.replicate (Int.toNat (↑(List.length a) : Int)) (0 : Int))) fun y_1 =>
  some (Prod.snd (Prod.snd y_1))
def whole_less.ce : Go.Ql.Callee := ⟨[(.sl (.int .u32)), (.sl (.int .u32))], [(.sl (.int .u32))], fun x_ => whole_less x_.1 x_.2⟩
def whole_less.G : Env := ⟨40, tab, [(58, bits_Sub32.ce)], [0, 1, 4, 5, 6, 7, 8, 9, 13, 14, 15, 16, 23], [12], [], [(100004, whole_less.c100004r), (228677, whole_less.c228677r)], [], tab_eqs, []⟩
theorem whole_less.eq (x_ : dens whole_less.ce.params) : den whole_less.G Tryd.f39 whole_less.ce.params whole_less.ce.res x_ = whole_less.ce.F x_ := by kernel_rfl
theorem whole_less.p0 : PcA whole_less.G Tryd.f39 0 :=
  loop_ok (s := whole_less.c100004r) (by kernel_rfl) (by kernel_rfl) (loops_of (sh := whole_less.c100004s) (I := fun x_ s_ => (x_.1, x_.2.1, x_.2.2.1, s_.1, x_.2.2.2.2.1, x_.2.2.2.2.2.1, s_.2.1, s_.2.2, ())) (fun x_ => rfl) (fun ρ x_ s_ k_ => (nat_br (nat_bnd fun _ => (nat_bnd fun _ => (nat_bnd fun _ => (nat_bnd fun _ => (nat_bnd fun _ => nat_leaf))))) nat_leaf)) (fun ρ x_ t k => (by kernel_rfl)) (fun x_ s => by kernel_rfl))
theorem whole_less.p1 : PcA whole_less.G Tryd.f39 1 :=
  join_ok (s := whole_less.c228677r) (by kernel_rfl) (by kernel_rfl) (sums_of (sh := whole_less.c228677s) (fun ρ x_ k_ => (nat_br (nat_bnd fun _ => nat_leaf) nat_leaf)) (fun ρ x_ t k => (by kernel_rfl)) (fun x_ => by kernel_rfl))
theorem whole_less.ok : CalleeOk Tryd.prog 39 whole_less.ce := fn_ok (G := whole_less.G) tab_ok mixed Tryd.func39 ⟨(fns_cons bits_Sub32.ok fns_nil), mfns_nil, tab_eqs_ok, alts_nil⟩ (m := 2) (by kernel_rfl) ⟨⟨trivial, whole_less.p0⟩, whole_less.p1⟩ (by kernel_rfl) whole_less.eq
abbrev nb11 : SD := .one (.val (.st (.pair .bool (.sl (.int .u32)))))
abbrev nb12 : SD := .one (.ref 3 0)
def whole_Int_Add.c2 {ρ : Type} (a0 : Bool) (a1 : List (Int)) (b1 : List (Int)) (k_ : (Bool) × (List Int) → Option ρ) : Option ρ :=
  bnd (W.whole_sum a1 b1) fun y =>
  bnd (W.whole_made a0 y) fun y_1 =>
  k_ ((Prod.fst y_1), (Prod.snd y_1))
def whole_Int_Add.c2s : Shape := ⟨[(0, nb11), (1, nb11), (2, nb5), (3, nb12), (4, nb2)], [(2, nb4), (3, nb4), (4, nb4)]⟩
def whole_Int_Add.c2x0 : Shape := whole_Int_Add.c2s
def whole_Int_Add.c2r : Ck := Ck.of (T := (Bool) × (List Int)) whole_Int_Add.c2s (fun ρ x_ k_ => whole_Int_Add.c2 x_.2.2.1 x_.2.2.2.1 x_.2.2.2.2.2.1 k_) (fun ρ x_ r_ k_ => k_ 0 (Shape.inj whole_Int_Add.c2x0 (x_.1, x_.2.1, x_.2.2.1, x_.2.2.2.1, x_.2.2.2.2.1, x_.2.2.2.2.2.1, r_.1, r_.2, ())))
def whole_Int_Add.c4 {ρ : Type} (a0 : Bool) (a1 : List (Int)) (b1 : List (Int)) (k_ : (Bool) × (List Int) → Option ρ) : Option ρ :=
  bnd (W.whole_less a1 b1) fun y =>
  bnd (W.whole_made a0 y) fun y_1 =>
  k_ ((Prod.fst y_1), (Prod.snd y_1))
def whole_Int_Add.c4s : Shape := whole_Int_Add.c2s
def whole_Int_Add.c4x0 : Shape := whole_Int_Add.c2s
def whole_Int_Add.c4r : Ck := Ck.of (T := (Bool) × (List Int)) whole_Int_Add.c4s (fun ρ x_ k_ => whole_Int_Add.c4 x_.2.2.1 x_.2.2.2.1 x_.2.2.2.2.2.1 k_) (fun ρ x_ r_ k_ => k_ 0 (Shape.inj whole_Int_Add.c4x0 (x_.1, x_.2.1, x_.2.2.1, x_.2.2.2.1, x_.2.2.2.2.1, x_.2.2.2.2.2.1, r_.1, r_.2, ())))
def whole_Int_Add.c5 {ρ : Type} (a1 : List (Int)) (b0 : Bool) (b1 : List (Int)) (k_ : (Bool) × (List Int) → Option ρ) : Option ρ :=
  bnd (W.whole_less b1 a1) fun y =>
  bnd (W.whole_made b0 y) fun y_1 =>
  k_ ((Prod.fst y_1), (Prod.snd y_1))
def whole_Int_Add.c5s : Shape := whole_Int_Add.c2s
def whole_Int_Add.c5x0 : Shape := whole_Int_Add.c2s
def whole_Int_Add.c5r : Ck := Ck.of (T := (Bool) × (List Int)) whole_Int_Add.c5s (fun ρ x_ k_ => whole_Int_Add.c5 x_.2.2.2.1 x_.2.2.2.2.1 x_.2.2.2.2.2.1 k_) (fun ρ x_ r_ k_ => k_ 0 (Shape.inj whole_Int_Add.c5x0 (x_.1, x_.2.1, x_.2.2.1, x_.2.2.2.1, x_.2.2.2.2.1, x_.2.2.2.2.2.1, r_.1, r_.2, ())))
def whole_Int_Add (a : (Bool) × (List Int)) (b : (Bool) × (List Int)) : Option ((Bool) × (List Int)) :=
  br (Prod.fst a == Prod.fst b)
   (bnd (W.whole_Int_Add.c2 (Prod.fst a) (Prod.snd a) (Prod.snd b) some) fun y =>
    some (Prod.fst y, Prod.snd y))
   (bnd (W.whole_order (Prod.snd a) (Prod.snd b)) fun y_1 =>
    br (decide (y_1 ≥ (0 : Int)))
     (bnd (W.whole_Int_Add.c4 (Prod.fst a) (Prod.snd a) (Prod.snd b) some) fun y_2 =>
      some (Prod.fst y_2, Prod.snd y_2))
     (bnd (W.whole_Int_Add.c5 (Prod.snd a) (Prod.fst b) (Prod.snd b) some) fun y_3 =>
      some (Prod.fst y_3, Prod.snd y_3)))
def whole_Int_Add.ce : Go.Ql.Callee := ⟨[(.st (.pair .bool (.sl (.int .u32)))), (.st (.pair .bool (.sl (.int .u32))))], [(.st (.pair .bool (.sl (.int .u32))))], fun x_ => whole_Int_Add x_.1 x_.2⟩
def whole_Int_Add.G : Env := ⟨40, tab, [(37, whole_sum.ce), (36, whole_made.ce), (38, whole_order.ce), (39, whole_less.ce)], [0, 1, 2, 3, 4, 9, 23], [], [(5, [⟨[], [], [34, 35, 36, 37, 38], []⟩, ⟨[0], [], [34, 35, 36, 37, 38], []⟩, ⟨[], [], [32, 33, 36, 37], []⟩, ⟨[2], [], [32, 33, 36, 37], []⟩, ⟨[], [], [32, 33, 34, 35], []⟩, ⟨[4], [], [32, 33, 34, 35], []⟩, ⟨[3, 2, 5, 4], [], [32, 33], []⟩, ⟨[1, 0, 6, 3, 2, 5, 4], [], [], []⟩, ⟨[7, 1, 0, 6, 3, 2, 5, 4], [4], [], []⟩]),
  (4, [⟨[], [], [26, 27, 28, 29, 30], []⟩, ⟨[0], [], [26, 27, 28, 29, 30], []⟩, ⟨[], [], [24, 25, 28, 29], []⟩, ⟨[2], [], [24, 25, 28, 29], []⟩, ⟨[], [], [24, 25, 26, 27], []⟩, ⟨[4], [], [24, 25, 26, 27], []⟩, ⟨[3, 2, 5, 4], [], [24, 25], []⟩, ⟨[1, 0, 6, 3, 2, 5, 4], [], [], []⟩, ⟨[7, 1, 0, 6, 3, 2, 5, 4], [4], [], []⟩]),
  (2, [⟨[], [], [12, 13, 14, 15, 16], []⟩, ⟨[0], [], [12, 13, 14, 15, 16], []⟩, ⟨[], [], [10, 11, 14, 15], []⟩, ⟨[2], [], [10, 11, 14, 15], []⟩, ⟨[], [], [10, 11, 12, 13], []⟩, ⟨[4], [], [10, 11, 12, 13], []⟩, ⟨[3, 2, 5, 4], [], [10, 11], []⟩, ⟨[1, 0, 6, 3, 2, 5, 4], [], [], []⟩, ⟨[7, 1, 0, 6, 3, 2, 5, 4], [4], [], []⟩])], [(5, whole_Int_Add.c5r), (4, whole_Int_Add.c4r), (2, whole_Int_Add.c2r)], [], tab_eqs, []⟩
theorem whole_Int_Add.eq (x_ : dens whole_Int_Add.ce.params) : den whole_Int_Add.G Tryd.f21 whole_Int_Add.ce.params whole_Int_Add.ce.res x_ = whole_Int_Add.ce.F x_ := by kernel_rfl
theorem whole_Int_Add.p0 : PcA whole_Int_Add.G Tryd.f21 0 :=
  region_ok (s := whole_Int_Add.c2r) (by kernel_rfl) (by kernel_rfl) (sums_of (sh := whole_Int_Add.c2s) (fun ρ x_ k_ => (nat_bnd fun _ => (nat_bnd fun _ => nat_leaf))) (fun ρ x_ t k => (by kernel_rfl)) (fun x_ => by kernel_rfl))
theorem whole_Int_Add.p1 : PcA whole_Int_Add.G Tryd.f21 1 :=
  region_ok (s := whole_Int_Add.c4r) (by kernel_rfl) (by kernel_rfl) (sums_of (sh := whole_Int_Add.c4s) (fun ρ x_ k_ => (nat_bnd fun _ => (nat_bnd fun _ => nat_leaf))) (fun ρ x_ t k => (by kernel_rfl)) (fun x_ => by kernel_rfl))
theorem whole_Int_Add.p2 : PcA whole_Int_Add.G Tryd.f21 2 :=
  region_ok (s := whole_Int_Add.c5r) (by kernel_rfl) (by kernel_rfl) (sums_of (sh := whole_Int_Add.c5s) (fun ρ x_ k_ => (nat_bnd fun _ => (nat_bnd fun _ => nat_leaf))) (fun ρ x_ t k => (by kernel_rfl)) (fun x_ => by kernel_rfl))
theorem whole_Int_Add.ok : CalleeOk Tryd.prog 21 whole_Int_Add.ce := fn_ok (G := whole_Int_Add.G) tab_ok mixed Tryd.func21 ⟨(fns_cons whole_sum.ok (fns_cons whole_made.ok (fns_cons whole_order.ok (fns_cons whole_less.ok fns_nil)))), mfns_nil, tab_eqs_ok, alts_nil⟩ (m := 3) (by kernel_rfl) ⟨⟨⟨trivial, whole_Int_Add.p0⟩, whole_Int_Add.p1⟩, whole_Int_Add.p2⟩ (by kernel_rfl) whole_Int_Add.eq
def whole_Int_Sign (a : (Bool) × (List Int)) : Option (Int) :=
  br ((↑(List.length (Prod.snd a)) : Int) == (0 : Int))
   (some (0 : Int))
   (br (Prod.fst a)
     (some (-1 : Int))
     (some (1 : Int)))
def whole_Int_Sign.ce : Go.Ql.Callee := ⟨[(.st (.pair .bool (.sl (.int .u32))))], [(.int .i64)], fun x_ => whole_Int_Sign x_⟩
def whole_Int_Sign.G : Env := ⟨11, tab, [], [0, 1, 2, 3, 8], [], [], [], [], tab_eqs, []⟩
theorem whole_Int_Sign.eq (x_ : dens whole_Int_Sign.ce.params) : den whole_Int_Sign.G Tryd.f24 whole_Int_Sign.ce.params whole_Int_Sign.ce.res x_ = whole_Int_Sign.ce.F x_ := by kernel_rfl
theorem whole_Int_Sign.ok : CalleeOk Tryd.prog 24 whole_Int_Sign.ce := fn_ok (G := whole_Int_Sign.G) tab_ok mixed Tryd.func24 ⟨fns_nil, mfns_nil, tab_eqs_ok, alts_nil⟩ (m := 0) (by kernel_rfl) trivial (by kernel_rfl) whole_Int_Sign.eq
abbrev nb13 : SD := .one (.ref 1 0)
def whole_Int_Twos.c100002 {ρ : Type} (t6 : List (Int)) (t7 : Int) (t8 : Int) (k_ : (Int) ⊕ (((Int) × (Int)) ⊕ (Int)) → Option ρ) : Option ρ :=
  br (decide (t8 < t7))
   (bnd (idx t6 t8) fun y =>
    br (y != (0 : Int))
     (bnd (W.bits_TrailingZeros32 y) fun y_1 =>
      k_ (.inr (.inl ((IntKind.wrap IntKind.i64 (IntKind.wrap IntKind.i64 ((32 : Int) * t8) + y_1)), t8))))
     (k_ (.inl (IntKind.wrap IntKind.i64 (t8 + (1 : Int))))))
   (k_ (.inr (.inr t8)))
def whole_Int_Twos.c100002s : Shape := ⟨[(0, nb11), (1, nb13), (2, nb3), (6, nb1), (7, nb3), (8, nb3)], [(1, nb4)]⟩
def whole_Int_Twos.c100002x0 : Shape := whole_Int_Twos.c100002s
def whole_Int_Twos.c100002x1 : Shape := whole_Int_Twos.c100002s
def whole_Int_Twos.c100002r : Ck := Ck.ofLoop (S := Int) (T := ((Int) × (Int)) ⊕ (Int)) whole_Int_Twos.c100002s (fun x_ => x_.2.2.2.2.1) (fun ρ x_ s_ k_ => whole_Int_Twos.c100002 x_.2.2.1 x_.2.2.2.1 s_ k_) (fun ρ x_ r_ k_ => sel r_ (fun r_ => k_ 1 (Shape.inj whole_Int_Twos.c100002x0 (x_.1, r_.1, x_.2.2.1, x_.2.2.2.1, r_.2, x_.2.2.2.2.2))) (fun r_ => k_ 2 (Shape.inj whole_Int_Twos.c100002x1 (x_.1, x_.2.1, x_.2.2.1, x_.2.2.2.1, r_, x_.2.2.2.2.2))))
def whole_Int_Twos (a : (Bool) × (List Int)) : Option (Int) :=
  bnd (iter (fun s ↦ W.whole_Int_Twos.c100002 (Prod.snd a) (↑(List.length (Prod.snd a)) : Int) s some) (0 : Int)) fun y =>
  sel y
   (fun u => some (Prod.fst u))
   (fun v => some (0 : Int))
def whole_Int_Twos.ce : Go.Ql.Callee := ⟨[(.st (.pair .bool (.sl (.int .u32))))], [(.int .i64)], fun x_ => whole_Int_Twos x_⟩
def whole_Int_Twos.G : Env := ⟨21, tab, [(59, bits_TrailingZeros32.ce)], [0, 1, 2, 3, 4, 6, 7, 8, 9, 14], [], [], [(100002, whole_Int_Twos.c100002r)], [], tab_eqs, []⟩
theorem whole_Int_Twos.eq (x_ : dens whole_Int_Twos.ce.params) : den whole_Int_Twos.G Tryd.f40 whole_Int_Twos.ce.params whole_Int_Twos.ce.res x_ = whole_Int_Twos.ce.F x_ := by kernel_rfl
theorem whole_Int_Twos.p0 : PcA whole_Int_Twos.G Tryd.f40 0 :=
  loop_ok (s := whole_Int_Twos.c100002r) (by kernel_rfl) (by kernel_rfl) (loops_of (sh := whole_Int_Twos.c100002s) (I := fun x_ s_ => (x_.1, x_.2.1, x_.2.2.1, x_.2.2.2.1, s_, x_.2.2.2.2.2)) (fun x_ => rfl) (fun ρ x_ s_ k_ => (nat_br (nat_bnd fun _ => (nat_br (nat_bnd fun _ => nat_leaf) nat_leaf)) nat_leaf)) (fun ρ x_ t k => (nat_sel (fun _ => (by kernel_rfl)) (fun _ => (by kernel_rfl)))) (fun x_ s => by kernel_rfl))
theorem whole_Int_Twos.ok : CalleeOk Tryd.prog 40 whole_Int_Twos.ce := fn_ok (G := whole_Int_Twos.G) tab_ok mixed Tryd.func40 ⟨(fns_cons bits_TrailingZeros32.ok fns_nil), mfns_nil, tab_eqs_ok, alts_nil⟩ (m := 1) (by kernel_rfl) ⟨trivial, whole_Int_Twos.p0⟩ (by kernel_rfl) whole_Int_Twos.eq
abbrev nb14 : SD := .one (.own 0 0)
abbrev nb15 : SD := .one (.own 4 0)
abbrev nb16 : SD := .one (.own 15 0)
def whole_left.pre : Shape := ⟨[(0, nb1), (1, nb3)], []⟩
def whole_left.post : Shape := ⟨[(0, nb14)], [(0, nb9)]⟩
def whole_left.c100003 {ρ : Type} (n : Int) (t16 : List (Int)) (t17 : Int) (t18 : Int) (t15 : List (Int)) (k_ : ((Int) × (List Int)) ⊕ ((Int) × (List Int)) → Option ρ) : Option ρ :=
  br (decide (t18 < t17))
   (bnd (idx t16 t18) fun y =>
    bnd (okIf (decide ((0 : Int) ≤ Int.tmod n (32 : Int)))) fun y_1 =>
    bnd (inR (List.length t15) (IntKind.wrap IntKind.i64 (t18 + IntKind.wrap IntKind.i64 (Int.tdiv n (32 : Int))))) fun y_2 =>
    bnd (idx t15 (IntKind.wrap IntKind.i64 (t18 + IntKind.wrap IntKind.i64 (Int.tdiv n (32 : Int))))) fun y_3 =>
    bnd (inR (List.length t15) (IntKind.wrap IntKind.i64 (t18 + IntKind.wrap IntKind.i64 (Int.tdiv n (32 : Int))))) fun y_4 =>
    bnd (idx t15 (IntKind.wrap IntKind.i64 (t18 + IntKind.wrap IntKind.i64 (Int.tdiv n (32 : Int))))) fun y_5 =>
    bnd (inR (List.length (List.set t15 (Int.toNat (IntKind.wrap IntKind.i64 (t18 + IntKind.wrap IntKind.i64 (Int.tdiv n (32 : Int))))) (ibits BinOp.or IntKind.u32 y_3 (IntKind.wrap IntKind.u32 (IntKind.wrap IntKind.u64 (IntKind.wrap IntKind.u64 y * (2 : Int) ^ Min.min (Int.toNat (Int.tmod n (32 : Int))) (64 : Nat))))))) (IntKind.wrap IntKind.i64 (IntKind.wrap IntKind.i64 (t18 + IntKind.wrap IntKind.i64 (Int.tdiv n (32 : Int))) + (1 : Int)))) fun y_6 =>
    bnd (idx (List.set t15 (Int.toNat (IntKind.wrap IntKind.i64 (t18 + IntKind.wrap IntKind.i64 (Int.tdiv n (32 : Int))))) (ibits BinOp.or IntKind.u32 y_3 (IntKind.wrap IntKind.u32 (IntKind.wrap IntKind.u64 (IntKind.wrap IntKind.u64 y * (2 : Int) ^ Min.min (Int.toNat (Int.tmod n (32 : Int))) (64 : Nat)))))) (IntKind.wrap IntKind.i64 (IntKind.wrap IntKind.i64 (t18 + IntKind.wrap IntKind.i64 (Int.tdiv n (32 : Int))) + (1 : Int)))) fun y_7 =>
    bnd (inR (List.length (List.set t15 (Int.toNat (IntKind.wrap IntKind.i64 (t18 + IntKind.wrap IntKind.i64 (Int.tdiv n (32 : Int))))) (ibits BinOp.or IntKind.u32 y_3 (IntKind.wrap IntKind.u32 (IntKind.wrap IntKind.u64 (IntKind.wrap IntKind.u64 y * (2 : Int) ^ Min.min (Int.toNat (Int.tmod n (32 : Int))) (64 : Nat))))))) (IntKind.wrap IntKind.i64 (IntKind.wrap IntKind.i64 (t18 + IntKind.wrap IntKind.i64 (Int.tdiv n (32 : Int))) + (1 : Int)))) fun y_8 =>
    bnd (idx (List.set t15 (Int.toNat (IntKind.wrap IntKind.i64 (t18 + IntKind.wrap IntKind.i64 (Int.tdiv n (32 : Int))))) (ibits BinOp.or IntKind.u32 y_3 (IntKind.wrap IntKind.u32 (IntKind.wrap IntKind.u64 (IntKind.wrap IntKind.u64 y * (2 : Int) ^ Min.min (Int.toNat (Int.tmod n (32 : Int))) (64 : Nat)))))) (IntKind.wrap IntKind.i64 (IntKind.wrap IntKind.i64 (t18 + IntKind.wrap IntKind.i64 (Int.tdiv n (32 : Int))) + (1 : Int)))) fun y_9 =>
    k_ (.inl ((IntKind.wrap IntKind.i64 (t18 + (1 : Int))), (List.set (List.set t15 (Int.toNat (IntKind.wrap IntKind.i64 (t18 + IntKind.wrap IntKind.i64 (Int.tdiv n (32 : Int))))) (ibits BinOp.or IntKind.u32 y_3 (IntKind.wrap IntKind.u32 (IntKind.wrap IntKind.u64 (IntKind.wrap IntKind.u64 y * (2 : Int) ^ Min.min (Int.toNat (Int.tmod n (32 : Int))) (64 : Nat)))))) (Int.toNat (IntKind.wrap IntKind.i64 (IntKind.wrap IntKind.i64 (t18 + IntKind.wrap IntKind.i64 (Int.tdiv n (32 : Int))) + (1 : Int)))) (ibits BinOp.or IntKind.u32 y_7 (IntKind.wrap IntKind.u32 (Int.fdiv (IntKind.wrap IntKind.u64 (IntKind.wrap IntKind.u64 y * (2 : Int) ^ Min.min (Int.toNat (Int.tmod n (32 : Int))) (64 : Nat))) ((2 : Int) ^ (32 : Nat)))))))))
   (k_ (.inr (t18, t15)))
def whole_left.c100003s : Shape := ⟨[(0, nb1), (1, nb3), (4, nb15), (5, nb16), (16, nb1), (17, nb3), (18, nb3)], [(4, nb9), (15, nb9)]⟩
def whole_left.c100003x0 : Shape := whole_left.c100003s
def whole_left.c100003r : Ck := Ck.ofLoop (S := (Int) × (List Int)) (T := (Int) × (List Int)) whole_left.c100003s (fun x_ => (x_.2.2.2.2.1, x_.2.2.2.2.2.2.1)) (fun ρ x_ s_ k_ => whole_left.c100003 x_.2.1 x_.2.2.1 x_.2.2.2.1 s_.1 s_.2 k_) (fun ρ x_ r_ k_ => k_ 2 (Shape.inj whole_left.c100003x0 (x_.1, x_.2.1, x_.2.2.1, x_.2.2.2.1, r_.1, x_.2.2.2.2.2.1, r_.2, ())))
def whole_left (a : List (Int)) (n : Int) : Option ((List Int) × Unit) :=
  bnd (okIf (decide ((0 : Int) ≤ IntKind.wrap IntKind.i64 (IntKind.wrap IntKind.i64 ((↑(List.length a) : Int) + IntKind.wrap IntKind.i64 (Int.tdiv n (32 : Int))) + (1 : Int))) && decide (IntKind.wrap IntKind.i64 (IntKind.wrap IntKind.i64 ((↑(List.length a) : Int) + IntKind.wrap IntKind.i64 (Int.tdiv n (32 : Int))) + (1 : Int)) ≤ IntKind.wrap IntKind.i64 (IntKind.wrap IntKind.i64 ((↑(List.length a) : Int) + IntKind.wrap IntKind.i64 (Int.tdiv n (32 : Int))) + (1 : Int))) && decide (IntKind.wrap IntKind.i64 (IntKind.wrap IntKind.i64 ((↑(List.length a) : Int) + IntKind.wrap IntKind.i64 (Int.tdiv n (32 : Int))) + (1 : Int)) * (↑(4 : Nat) : Int) ≤ (140737488355328 : Int)) && decide (IntKind.wrap IntKind.i64 (IntKind.wrap IntKind.i64 ((↑(List.length a) : Int) + IntKind.wrap IntKind.i64 (Int.tdiv n (32 : Int))) + (1 : Int)) ≤ (140737488355328 : Int)))) fun y =>
  bnd (iter (fun s ↦ W.whole_left.c100003 n a (↑(List.length a) : Int) (Prod.fst s) (Prod.snd s) some) ((0 : Int), List.replicate (Int.toNat (IntKind.wrap IntKind.i64 (IntKind.wrap IntKind.i64 ((↑(List.length a) : Int) + IntKind.wrap IntKind.i64 (Int.tdiv n (32 : Int))) + (1 : Int)))) (0 : Int))) fun y_1 =>
  some (Prod.snd y_1, ())
def whole_left.mc : MCallee := ⟨60, whole_left.pre, whole_left.post, fun x_ => whole_left x_.1 x_.2.1⟩
def whole_left.G : Env := ⟨54, tab, [], [0, 1, 4, 5, 6, 7, 8, 16, 17, 18, 19], [4, 15], [], [(100003, whole_left.c100003r)], [], tab_eqs, []⟩
theorem whole_left.eq (x_ : densU whole_left.mc.pre.tys) : denM whole_left.G Tryd.f60 whole_left.mc.pre whole_left.mc.post x_ = whole_left.mc.F x_ := by kernel_rfl
theorem whole_left.p0 : PcA whole_left.G Tryd.f60 0 :=
  loop_ok (s := whole_left.c100003r) (by kernel_rfl) (by kernel_rfl) (loops_of (sh := whole_left.c100003s) (I := fun x_ s_ => (x_.1, x_.2.1, x_.2.2.1, x_.2.2.2.1, s_.1, x_.2.2.2.2.2.1, s_.2, ())) (fun x_ => rfl) (fun ρ x_ s_ k_ => (nat_br (nat_bnd fun _ => (nat_bnd fun _ => (nat_bnd fun _ => (nat_bnd fun _ => (nat_bnd fun _ => (nat_bnd fun _ => (nat_bnd fun _ => (nat_bnd fun _ => (nat_bnd fun _ => (nat_bnd fun _ => nat_leaf)))))))))) nat_leaf)) (fun ρ x_ t k => (by kernel_rfl)) (fun x_ s => by kernel_rfl))
theorem whole_left.ok : MOk Tryd.prog 60 whole_left.mc := fnm_ok (G := whole_left.G) tab_ok mixed Tryd.func60 ⟨fns_nil, mfns_nil, tab_eqs_ok, alts_nil⟩ (m := 1) (by kernel_rfl) ⟨trivial, whole_left.p0⟩ (by kernel_rfl) whole_left.eq
abbrev nb17 : SD := .one (.own 54 0)
def whole_right.c3 {ρ : Type} (a : List (Int)) (n : Int) (k_ : Bool → Option ρ) : Option ρ :=
  bnd (idx a (IntKind.wrap IntKind.i64 (Int.tdiv n (32 : Int)))) fun y =>
  bnd (okIf (decide ((0 : Int) ≤ IntKind.wrap IntKind.i64 ((32 : Int) - Int.tmod n (32 : Int))))) fun y_1 =>
  br (IntKind.wrap IntKind.u32 (y * (2 : Int) ^ Min.min (Int.toNat (IntKind.wrap IntKind.i64 ((32 : Int) - Int.tmod n (32 : Int)))) (32 : Nat)) != (0 : Int))
   (k_ (decide (Int.tmod n (32 : Int) > (0 : Int))))
   (k_ false)
def whole_right.c3s : Shape := ⟨[(0, nb1), (1, nb3), (4, nb1), (5, nb0)], []⟩
def whole_right.c3x0 : Shape := ⟨[(0, nb1), (1, nb3), (4, nb1), (5, nb0), (6, nb0)], []⟩
def whole_right.c3r : Ck := Ck.of (T := Bool) whole_right.c3s (fun ρ x_ k_ => whole_right.c3 x_.1 x_.2.1 k_) (fun ρ x_ r_ k_ => k_ 0 (Shape.inj whole_right.c3x0 (x_.1, x_.2.1, x_.2.2.1, x_.2.2.2.1, r_, ())))
def whole_right.c7 {ρ : Type} (lost : Bool) (x : Int) (k_ : Bool → Option ρ) : Option ρ :=
  br lost
   (k_ true)
   (k_ (x != (0 : Int)))
def whole_right.c7s : Shape := ⟨[(0, nb1), (1, nb3), (4, nb1), (5, nb0), (6, nb0), (8, nb8), (37, nb1), (38, nb3), (39, nb3)], []⟩
def whole_right.c7x0 : Shape := whole_right.c7s
def whole_right.c7r : Ck := Ck.of (T := Bool) whole_right.c7s (fun ρ x_ k_ => whole_right.c7 x_.2.2.2.2.1 x_.2.2.2.2.2.1 k_) (fun ρ x_ r_ k_ => k_ 0 (Shape.inj whole_right.c7x0 (x_.1, x_.2.1, x_.2.2.1, x_.2.2.2.1, r_, x_.2.2.2.2.2)))
def whole_right.c100005 {ρ : Type} (lost : Bool) (t37 : List (Int)) (t38 : Int) (t39 : Int) (k_ : ((Bool) × (Int)) ⊕ ((Bool) × (Int)) → Option ρ) : Option ρ :=
  br (decide (t39 < t38))
   (bnd (idx t37 t39) fun y =>
    bnd (W.whole_right.c7 lost y some) fun y_1 =>
    k_ (.inl (y_1, (IntKind.wrap IntKind.i64 (t39 + (1 : Int))))))
   (k_ (.inr (lost, t39)))
def whole_right.c100005s : Shape := ⟨[(0, nb1), (1, nb3), (4, nb1), (5, nb0), (6, nb0), (37, nb1), (38, nb3), (39, nb3)], []⟩
def whole_right.c100005x0 : Shape := whole_right.c100005s
def whole_right.c100005r : Ck := Ck.ofLoop (S := (Bool) × (Int)) (T := (Bool) × (Int)) whole_right.c100005s (fun x_ => (x_.2.2.2.2.1, x_.2.2.2.2.2.2.2.1)) (fun ρ x_ s_ k_ => whole_right.c100005 s_.1 x_.2.2.2.2.2.1 x_.2.2.2.2.2.2.1 s_.2 k_) (fun ρ x_ r_ k_ => k_ 2 (Shape.inj whole_right.c100005x0 (x_.1, x_.2.1, x_.2.2.1, x_.2.2.2.1, r_.1, x_.2.2.2.2.2.1, x_.2.2.2.2.2.2.1, r_.2, ())))
def whole_right.c14 {ρ : Type} (a : List (Int)) (n : Int) (i : Int) (k_ : Bool → Option ρ) : Option ρ :=
  br (decide (IntKind.wrap IntKind.i64 (IntKind.wrap IntKind.i64 (i + IntKind.wrap IntKind.i64 (Int.tdiv n (32 : Int))) + (1 : Int)) < (↑(List.length a) : Int)))
   (k_ (decide (Int.tmod n (32 : Int) > (0 : Int))))
   (k_ false)
def whole_right.c14s : Shape := ⟨[(0, nb1), (1, nb3), (4, nb1), (5, nb0), (6, nb0), (9, nb17), (10, nb3), (37, nb1), (38, nb3), (39, nb3), (56, nb3), (57, nb3)], [(54, nb9)]⟩
def whole_right.c14x0 : Shape := ⟨[(0, nb1), (1, nb3), (4, nb1), (5, nb0), (6, nb0), (9, nb17), (10, nb3), (37, nb1), (38, nb3), (39, nb3), (56, nb3), (57, nb3), (85, nb0)], [(54, nb9)]⟩
def whole_right.c14r : Ck := Ck.of (T := Bool) whole_right.c14s (fun ρ x_ k_ => whole_right.c14 x_.1 x_.2.1 x_.2.2.2.2.2.1 k_) (fun ρ x_ r_ k_ => k_ 0 (Shape.inj whole_right.c14x0 (x_.1, x_.2.1, x_.2.2.1, x_.2.2.2.1, x_.2.2.2.2.1, x_.2.2.2.2.2.1, x_.2.2.2.2.2.2.1, x_.2.2.2.2.2.2.2.1, x_.2.2.2.2.2.2.2.2.1, x_.2.2.2.2.2.2.2.2.2.1, x_.2.2.2.2.2.2.2.2.2.2.1, r_, x_.2.2.2.2.2.2.2.2.2.2.2)))
def whole_right.c15 {ρ : Type} (a : List (Int)) (n : Int) (i : Int) (t54 : List (Int)) (k_ : List (Int) → Option ρ) : Option ρ :=
  bnd (inR (List.length t54) i) fun y =>
  bnd (idx t54 i) fun y_1 =>
  bnd (idx a (IntKind.wrap IntKind.i64 (IntKind.wrap IntKind.i64 (i + IntKind.wrap IntKind.i64 (Int.tdiv n (32 : Int))) + (1 : Int)))) fun y_2 =>
  bnd (okIf (decide ((0 : Int) ≤ IntKind.wrap IntKind.i64 ((32 : Int) - Int.tmod n (32 : Int))))) fun y_3 =>
  bnd (inR (List.length t54) i) fun y_4 =>
  bnd (idx t54 i) fun y_5 =>
  k_ (List.set t54 (Int.toNat i) (ibits BinOp.or IntKind.u32 y_1 (IntKind.wrap IntKind.u32 (y_2 * (2 : Int) ^ Min.min (Int.toNat (IntKind.wrap IntKind.i64 ((32 : Int) - Int.tmod n (32 : Int)))) (32 : Nat)))))
def whole_right.c15s : Shape := whole_right.c14s
def whole_right.c15x0 : Shape := whole_right.c14s
def whole_right.c15r : Ck := Ck.of (T := List (Int)) whole_right.c15s (fun ρ x_ k_ => whole_right.c15 x_.1 x_.2.1 x_.2.2.2.2.2.1 x_.2.2.2.2.2.2.2.2.2.2.2.1 k_) (fun ρ x_ r_ k_ => k_ 0 (Shape.inj whole_right.c15x0 (x_.1, x_.2.1, x_.2.2.1, x_.2.2.2.1, x_.2.2.2.2.1, x_.2.2.2.2.2.1, x_.2.2.2.2.2.2.1, x_.2.2.2.2.2.2.2.1, x_.2.2.2.2.2.2.2.2.1, x_.2.2.2.2.2.2.2.2.2.1, x_.2.2.2.2.2.2.2.2.2.2.1, r_, ())))
def whole_right.c249162 {ρ : Type} (a : List (Int)) (n : Int) (t57 : Int) (t54 : List (Int)) (k_ : List (Int) → Option ρ) : Option ρ :=
  bnd (idx a (IntKind.wrap IntKind.i64 (t57 + IntKind.wrap IntKind.i64 (Int.tdiv n (32 : Int))))) fun y =>
  bnd (okIf (decide ((0 : Int) ≤ Int.tmod n (32 : Int)))) fun y_1 =>
  bnd (inR (List.length t54) t57) fun y_2 =>
  bnd (idx t54 t57) fun y_3 =>
  bnd (W.whole_right.c14 a n t57 some) fun y_4 =>
  br y_4
   (bnd (W.whole_right.c15 a n t57 (List.set t54 (Int.toNat t57) (Int.fdiv y ((2 : Int) ^ Min.min (Int.toNat (Int.tmod n (32 : Int))) (32 : Nat)))) some) fun y_5 =>
    k_ y_5)
   (k_ (List.set t54 (Int.toNat t57) (Int.fdiv y ((2 : Int) ^ Min.min (Int.toNat (Int.tmod n (32 : Int))) (32 : Nat)))))
def whole_right.c249162s : Shape := ⟨[(0, nb1), (1, nb3), (4, nb1), (5, nb0), (6, nb0), (9, nb17), (37, nb1), (38, nb3), (39, nb3), (56, nb3), (57, nb3)], [(54, nb9)]⟩
def whole_right.c249162x0 : Shape := whole_right.c249162s
def whole_right.c249162r : Ck := Ck.of (T := List (Int)) whole_right.c249162s (fun ρ x_ k_ => whole_right.c249162 x_.1 x_.2.1 x_.2.2.2.2.2.2.2.2.2.1 x_.2.2.2.2.2.2.2.2.2.2.1 k_) (fun ρ x_ r_ k_ => k_ 0 (Shape.inj whole_right.c249162x0 (x_.1, x_.2.1, x_.2.2.1, x_.2.2.2.1, x_.2.2.2.2.1, x_.2.2.2.2.2.1, x_.2.2.2.2.2.2.1, x_.2.2.2.2.2.2.2.1, x_.2.2.2.2.2.2.2.2.1, x_.2.2.2.2.2.2.2.2.2.1, r_, ())))
def whole_right.c100011 {ρ : Type} (a : List (Int)) (n : Int) (t56 : Int) (t57 : Int) (t54 : List (Int)) (k_ : ((Int) × (List Int)) ⊕ ((Int) × (List Int)) → Option ρ) : Option ρ :=
  br (decide (t57 < t56))
   (bnd (W.whole_right.c249162 a n t57 t54 some) fun y =>
    k_ (.inl ((IntKind.wrap IntKind.i64 (t57 + (1 : Int))), y)))
   (k_ (.inr (t57, t54)))
def whole_right.c100011s : Shape := whole_right.c249162s
def whole_right.c100011x0 : Shape := whole_right.c249162s
def whole_right.c100011r : Ck := Ck.ofLoop (S := (Int) × (List Int)) (T := (Int) × (List Int)) whole_right.c100011s (fun x_ => (x_.2.2.2.2.2.2.2.2.2.1, x_.2.2.2.2.2.2.2.2.2.2.1)) (fun ρ x_ s_ k_ => whole_right.c100011 x_.1 x_.2.1 x_.2.2.2.2.2.2.2.2.1 s_.1 s_.2 k_) (fun ρ x_ r_ k_ => k_ 4 (Shape.inj whole_right.c100011x0 (x_.1, x_.2.1, x_.2.2.1, x_.2.2.2.1, x_.2.2.2.2.1, x_.2.2.2.2.2.1, x_.2.2.2.2.2.2.1, x_.2.2.2.2.2.2.2.1, x_.2.2.2.2.2.2.2.2.1, r_.1, r_.2, ())))
def whole_right (a : List (Int)) (n : Int) : Option ((List Int) × (Bool)) :=
  br (decide (IntKind.wrap IntKind.i64 (Int.tdiv n (32 : Int)) ≥ (↑(List.length a) : Int)))
   (some ([], decide ((↑(List.length a) : Int) > (0 : Int))))
   (bnd (W.whole_right.c3 a n some) fun y =>
    bnd (okIf (decide ((0 : Int) ≤ IntKind.wrap IntKind.i64 (Int.tdiv n (32 : Int))) && decide (IntKind.wrap IntKind.i64 (Int.tdiv n (32 : Int)) ≤ (↑(List.length a) : Int)))) fun y_1 =>
    bnd (iter (fun s ↦ W.whole_right.c100005 (Prod.fst s) (List.take (Int.toNat (IntKind.wrap IntKind.i64 (Int.tdiv n (32 : Int)))) a) (↑(List.length (List.take (Int.toNat (IntKind.wrap IntKind.i64 (Int.tdiv n (32 : Int)))) a)) : Int) (Prod.snd s) some) (y, (0 : Int))) fun y_2 =>
    bnd (okIf (decide ((0 : Int) ≤ IntKind.wrap IntKind.i64 ((↑(List.length a) : Int) - IntKind.wrap IntKind.i64 (Int.tdiv n (32 : Int)))) && decide (IntKind.wrap IntKind.i64 ((↑(List.length a) : Int) - IntKind.wrap IntKind.i64 (Int.tdiv n (32 : Int))) ≤ IntKind.wrap IntKind.i64 ((↑(List.length a) : Int) - IntKind.wrap IntKind.i64 (Int.tdiv n (32 : Int)))) && decide (IntKind.wrap IntKind.i64 ((↑(List.length a) : Int) - IntKind.wrap IntKind.i64 (Int.tdiv n (32 : Int))) * (↑(4 : Nat) : Int) ≤ (140737488355328 : Int)) && decide (IntKind.wrap IntKind.i64 ((↑(List.length a) : Int) - IntKind.wrap IntKind.i64 (Int.tdiv n (32 : Int))) ≤ (140737488355328 : Int)))) fun y_3 =>
    bnd (iter (fun s ↦ W.whole_right.c100011 a n (↑(List.length (List.replicate (Int.toNat (IntKind.wrap IntKind.i64 ((↑(List.length a) : Int) - IntKind.wrap IntKind.i64 (Int.tdiv n (32 : Int))))) (0 : Int))) : Int) (Prod.fst s) (Prod.snd s) some) ((0 : Int), List.replicate (Int.toNat (IntKind.wrap IntKind.i64 ((↑(List.length a) : Int) - IntKind.wrap IntKind.i64 (Int.tdiv n (32 : Int))))) (0 : Int))) fun y_4 =>
    some (Prod.snd y_4, Prod.fst y_2))
def whole_right.ce : Go.Ql.Callee := ⟨[(.sl (.int .u32)), (.int .i64)], [(.sl (.int .u32)), .bool], fun x_ => whole_right x_.1 x_.2⟩
def whole_right.G : Env := ⟨107, tab, [], [0, 1, 4, 5, 6, 8, 9, 10, 15, 37, 38, 39, 40, 56, 57, 58, 85], [54], [(15, [⟨[], [], [87, 90, 91, 92, 93, 94, 95, 96, 97, 98, 99, 100, 101], []⟩, ⟨[], [], [86, 90, 91, 92, 93, 94, 95, 96, 97, 98, 99, 100, 101], []⟩, ⟨[0, 1], [], [90, 91, 92, 93, 94, 95, 96, 97, 98, 99, 100, 101], []⟩, ⟨[2, 0, 1], [], [90, 91, 92, 93, 94, 95, 96, 97, 98, 99, 100, 101], []⟩, ⟨[], [], [86, 87, 88, 89, 91, 92, 93, 94, 95, 98, 99, 100], []⟩, ⟨[], [], [86, 87, 88, 89, 90, 92, 93, 98, 99, 100], []⟩, ⟨[], [], [86, 87, 88, 89, 90, 91, 98, 99, 100], []⟩, ⟨[6], [], [86, 87, 88, 89, 90, 91, 98, 99, 100], []⟩, ⟨[5, 7, 6], [], [86, 87, 88, 89, 90, 98, 99, 100], []⟩, ⟨[8, 5, 7, 6], [], [86, 87, 88, 89, 90, 98, 99, 100], []⟩, ⟨[4, 9, 8, 5, 7, 6], [], [86, 87, 88, 89, 98, 99, 100], []⟩, ⟨[10, 4, 9, 8, 5, 7, 6], [], [86, 87, 88, 89, 98, 99, 100], []⟩, ⟨[], [], [86, 87, 88, 89, 90, 91, 92, 93, 94, 95, 96, 97], []⟩, ⟨[12], [], [86, 87, 88, 89, 90, 91, 92, 93, 94, 95, 96, 97], []⟩, ⟨[13, 12], [], [86, 87, 88, 89, 90, 91, 92, 93, 94, 95, 96, 97], []⟩, ⟨[11, 10, 4, 9, 8, 5, 7, 6, 14, 13, 12], [], [86, 87, 88, 89], []⟩, ⟨[3, 2, 0, 1, 15, 11, 10, 4, 9, 8, 5, 7, 6, 14, 13, 12], [], [], []⟩, ⟨[0, 1, 2, 3, 4, 5, 6, 7, 8, 9, 10, 11, 12, 13, 14, 15, 16], [], [], []⟩, ⟨[17, 0, 1, 2, 3, 4, 5, 6, 7, 8, 9, 10, 11, 12, 13, 14, 15, 16], [54], [], []⟩])], [(100011, whole_right.c100011r), (249162, whole_right.c249162r), (15, whole_right.c15r), (14, whole_right.c14r), (100005, whole_right.c100005r), (7, whole_right.c7r), (3, whole_right.c3r)], [], tab_eqs, []⟩
theorem whole_right.eq (x_ : dens whole_right.ce.params) : den whole_right.G Tryd.f61 whole_right.ce.params whole_right.ce.res x_ = whole_right.ce.F x_ := by kernel_rfl
theorem whole_right.p0 : PcA whole_right.G Tryd.f61 0 :=
  region_ok (s := whole_right.c3r) (by kernel_rfl) (by kernel_rfl) (sums_of (sh := whole_right.c3s) (fun ρ x_ k_ => (nat_bnd fun _ => (nat_bnd fun _ => (nat_br nat_leaf nat_leaf)))) (fun ρ x_ t k => (by kernel_rfl)) (fun x_ => by kernel_rfl))
theorem whole_right.p1 : PcA whole_right.G Tryd.f61 1 :=
  loop_ok (s := whole_right.c100005r) (by kernel_rfl) (by kernel_rfl) (loops_of (sh := whole_right.c100005s) (I := fun x_ s_ => (x_.1, x_.2.1, x_.2.2.1, x_.2.2.2.1, s_.1, x_.2.2.2.2.2.1, x_.2.2.2.2.2.2.1, s_.2, ())) (fun x_ => rfl) (fun ρ x_ s_ k_ => (nat_br (nat_bnd fun _ => (nat_bnd fun _ => nat_leaf)) nat_leaf)) (fun ρ x_ t k => (by kernel_rfl)) (fun x_ s => by kernel_rfl))
theorem whole_right.p2 : PcA whole_right.G Tryd.f61 2 :=
  region_ok (s := whole_right.c7r) (by kernel_rfl) (by kernel_rfl) (sums_of (sh := whole_right.c7s) (fun ρ x_ k_ => (nat_br nat_leaf nat_leaf)) (fun ρ x_ t k => (by kernel_rfl)) (fun x_ => by kernel_rfl))
theorem whole_right.p3 : PcA whole_right.G Tryd.f61 3 :=
  loop_ok (s := whole_right.c100011r) (by kernel_rfl) (by kernel_rfl) (loops_of (sh := whole_right.c100011s) (I := fun x_ s_ => (x_.1, x_.2.1, x_.2.2.1, x_.2.2.2.1, x_.2.2.2.2.1, x_.2.2.2.2.2.1, x_.2.2.2.2.2.2.1, x_.2.2.2.2.2.2.2.1, x_.2.2.2.2.2.2.2.2.1, s_.1, s_.2, ())) (fun x_ => rfl) (fun ρ x_ s_ k_ => (nat_br (nat_bnd fun _ => nat_leaf) nat_leaf)) (fun ρ x_ t k => (by kernel_rfl)) (fun x_ s => by kernel_rfl))
theorem whole_right.p4 : PcA whole_right.G Tryd.f61 4 :=
  join_ok (s := whole_right.c249162r) (by kernel_rfl) (by kernel_rfl) (sums_of (sh := whole_right.c249162s) (fun ρ x_ k_ => (nat_bnd fun _ => (nat_bnd fun _ => (nat_bnd fun _ => (nat_bnd fun _ => (nat_bnd fun _ => (nat_br (nat_bnd fun _ => nat_leaf) nat_leaf))))))) (fun ρ x_ t k => (by kernel_rfl)) (fun x_ => by kernel_rfl))
theorem whole_right.p5 : PcA whole_right.G Tryd.f61 5 :=
  region_ok (s := whole_right.c14r) (by kernel_rfl) (by kernel_rfl) (sums_of (sh := whole_right.c14s) (fun ρ x_ k_ => (nat_br nat_leaf nat_leaf)) (fun ρ x_ t k => (by kernel_rfl)) (fun x_ => by kernel_rfl))
theorem whole_right.p6 : PcA whole_right.G Tryd.f61 6 :=
  region_ok (s := whole_right.c15r) (by kernel_rfl) (by kernel_rfl) (sums_of (sh := whole_right.c15s) (fun ρ x_ k_ => (nat_bnd fun _ => (nat_bnd fun _ => (nat_bnd fun _ => (nat_bnd fun _ => (nat_bnd fun _ => (nat_bnd fun _ => nat_leaf))))))) (fun ρ x_ t k => (by kernel_rfl)) (fun x_ => by kernel_rfl))
theorem whole_right.ok : CalleeOk Tryd.prog 61 whole_right.ce := fn_ok (G := whole_right.G) tab_ok mixed Tryd.func61 ⟨fns_nil, mfns_nil, tab_eqs_ok, alts_nil⟩ (m := 7) (by kernel_rfl) ⟨⟨⟨⟨⟨⟨⟨trivial, whole_right.p0⟩, whole_right.p1⟩, whole_right.p2⟩, whole_right.p3⟩, whole_right.p4⟩, whole_right.p5⟩, whole_right.p6⟩ (by kernel_rfl) whole_right.eq
def whole_Int_Sub.c1 {ρ : Type} (a0 : Bool) (a1 : List (Int)) (b0 : Bool) (b1 : List (Int)) (k_ : (Bool) × (List Int) → Option ρ) : Option ρ :=
  bnd (W.whole_Int_Neg (b0, b1)) fun y =>
  bnd (W.whole_Int_Add (a0, a1) y) fun y_1 =>
  k_ ((Prod.fst y_1), (Prod.snd y_1))
def whole_Int_Sub.c1s : Shape := ⟨[(0, nb11), (1, nb11), (2, nb5), (3, nb12), (4, nb2)], [(2, nb4), (3, nb4), (4, nb4)]⟩
def whole_Int_Sub.c1x0 : Shape := whole_Int_Sub.c1s
def whole_Int_Sub.c1r : Ck := Ck.of (T := (Bool) × (List Int)) whole_Int_Sub.c1s (fun ρ x_ k_ => whole_Int_Sub.c1 x_.2.2.1 x_.2.2.2.1 x_.2.2.2.2.1 x_.2.2.2.2.2.1 k_) (fun ρ x_ r_ k_ => k_ 0 (Shape.inj whole_Int_Sub.c1x0 (x_.1, x_.2.1, x_.2.2.1, x_.2.2.2.1, x_.2.2.2.2.1, x_.2.2.2.2.2.1, r_.1, r_.2, ())))
def whole_Int_Sub (a : (Bool) × (List Int)) (b : (Bool) × (List Int)) : Option ((Bool) × (List Int)) :=
  bnd (W.whole_Int_Sub.c1 (Prod.fst a) (Prod.snd a) (Prod.fst b) (Prod.snd b) some) fun y =>
  some (Prod.fst y, Prod.snd y)
def whole_Int_Sub.ce : Go.Ql.Callee := ⟨[(.st (.pair .bool (.sl (.int .u32)))), (.st (.pair .bool (.sl (.int .u32))))], [(.st (.pair .bool (.sl (.int .u32))))], fun x_ => whole_Int_Sub x_.1 x_.2⟩
def whole_Int_Sub.G : Env := ⟨9, tab, [(20, whole_Int_Neg.ce), (21, whole_Int_Add.ce)], [0, 1, 2, 3, 4], [], [(1, [⟨[], [], [6, 7], []⟩, ⟨[], [], [5], []⟩, ⟨[1], [], [5], []⟩, ⟨[0, 2, 1], [], [], []⟩, ⟨[3, 0, 2, 1], [4], [], []⟩])], [(1, whole_Int_Sub.c1r)], [], tab_eqs, []⟩
theorem whole_Int_Sub.eq (x_ : dens whole_Int_Sub.ce.params) : den whole_Int_Sub.G Tryd.f62 whole_Int_Sub.ce.params whole_Int_Sub.ce.res x_ = whole_Int_Sub.ce.F x_ := by kernel_rfl
theorem whole_Int_Sub.p0 : PcA whole_Int_Sub.G Tryd.f62 0 :=
  region_ok (s := whole_Int_Sub.c1r) (by kernel_rfl) (by kernel_rfl) (sums_of (sh := whole_Int_Sub.c1s) (fun ρ x_ k_ => (nat_bnd fun _ => (nat_bnd fun _ => nat_leaf))) (fun ρ x_ t k => (by kernel_rfl)) (fun x_ => by kernel_rfl))
theorem whole_Int_Sub.ok : CalleeOk Tryd.prog 62 whole_Int_Sub.ce := fn_ok (G := whole_Int_Sub.G) tab_ok mixed Tryd.func62 ⟨(fns_cons whole_Int_Neg.ok (fns_cons whole_Int_Add.ok fns_nil)), mfns_nil, tab_eqs_ok, alts_nil⟩ (m := 1) (by kernel_rfl) ⟨trivial, whole_Int_Sub.p0⟩ (by kernel_rfl) whole_Int_Sub.eq
abbrev nb18 : SD := .one (.ref 5 0)
abbrev nb19 : SO := .box [.val (.int .i64), .val (.int .i64)]
abbrev nb20 : SD := .one (.ref 8 0)
def whole_Int_Shift.c1 {ρ : Type} (n : Int) (k_ : Bool → Option ρ) : Option ρ :=
  br (decide (n < (-10000 : Int)))
   (k_ true)
   (k_ (decide (n > (10000 : Int))))
def whole_Int_Shift.c1s : Shape := ⟨[(0, nb11), (1, nb3), (2, nb5), (4, nb2), (5, nb18)], [(2, nb4), (4, nb4), (5, nb19)]⟩
def whole_Int_Shift.c1x0 : Shape := ⟨[(0, nb11), (1, nb3), (2, nb5), (4, nb2), (5, nb18), (14, nb0)], [(2, nb4), (4, nb4), (5, nb19)]⟩
def whole_Int_Shift.c1r : Ck := Ck.of (T := Bool) whole_Int_Shift.c1s (fun ρ x_ k_ => whole_Int_Shift.c1 x_.2.1 k_) (fun ρ x_ r_ k_ => k_ 0 (Shape.inj whole_Int_Shift.c1x0 (x_.1, x_.2.1, r_, x_.2.2)))
def whole_Int_Shift.c4 {ρ : Type} (n : Int) (a0 : Bool) (a1 : List (Int)) (k_ : (Bool) × (List Int) → Option ρ) : Option ρ :=
  bnd (W.whole_left a1 n) fun y =>
  bnd (W.whole_made a0 (Prod.fst y)) fun y_1 =>
  k_ ((Prod.fst y_1), (Prod.snd y_1))
def whole_Int_Shift.c4s : Shape := whole_Int_Shift.c1s
def whole_Int_Shift.c4x0 : Shape := whole_Int_Shift.c1s
def whole_Int_Shift.c4r : Ck := Ck.of (T := (Bool) × (List Int)) whole_Int_Shift.c4s (fun ρ x_ k_ => whole_Int_Shift.c4 x_.2.1 x_.2.2.1 x_.2.2.2.1 k_) (fun ρ x_ r_ k_ => k_ 0 (Shape.inj whole_Int_Shift.c4x0 (x_.1, x_.2.1, x_.2.2.1, x_.2.2.2.1, r_.1, r_.2, (0 : Int), (0 : Int), ())))
def whole_Int_Shift.c7 {ρ : Type} (lost : Bool) (a0 : Bool) (k_ : Bool → Option ρ) : Option ρ :=
  br lost
   (k_ a0)
   (k_ false)
def whole_Int_Shift.c7s : Shape := ⟨[(0, nb11), (1, nb3), (2, nb5), (4, nb2), (5, nb18), (6, nb1), (7, nb0), (8, nb20)], [(2, nb4), (4, nb4), (5, nb19), (8, nb4)]⟩
def whole_Int_Shift.c7x0 : Shape := ⟨[(0, nb11), (1, nb3), (2, nb5), (4, nb2), (5, nb18), (6, nb1), (7, nb0), (8, nb20), (43, nb0)], [(2, nb4), (4, nb4), (5, nb19), (8, nb4)]⟩
def whole_Int_Shift.c7r : Ck := Ck.of (T := Bool) whole_Int_Shift.c7s (fun ρ x_ k_ => whole_Int_Shift.c7 x_.2.2.2.1 x_.2.2.2.2.1 k_) (fun ρ x_ r_ k_ => k_ 0 (Shape.inj whole_Int_Shift.c7x0 (x_.1, x_.2.1, x_.2.2.1, x_.2.2.2.1, r_, x_.2.2.2.2)))
def whole_Int_Shift.c8 {ρ : Type} (out0 : Bool) (out1 : List (Int)) (k_ : (Bool) × (List Int) → Option ρ) : Option ρ :=
  bnd (W.whole_Of (1 : Int)) fun y =>
  bnd (W.whole_Int_Sub (out0, out1) y) fun y_1 =>
  k_ ((Prod.fst y_1), (Prod.snd y_1))
def whole_Int_Shift.c8s : Shape := whole_Int_Shift.c7s
def whole_Int_Shift.c8x0 : Shape := whole_Int_Shift.c7s
def whole_Int_Shift.c8r : Ck := Ck.of (T := (Bool) × (List Int)) whole_Int_Shift.c8s (fun ρ x_ k_ => whole_Int_Shift.c8 x_.2.2.2.2.2.2.2.2.2.2.1 x_.2.2.2.2.2.2.2.2.2.2.2.1 k_) (fun ρ x_ r_ k_ => k_ 0 (Shape.inj whole_Int_Shift.c8x0 (x_.1, x_.2.1, x_.2.2.1, x_.2.2.2.1, x_.2.2.2.2.1, x_.2.2.2.2.2.1, x_.2.2.2.2.2.2.1, x_.2.2.2.2.2.2.2.1, x_.2.2.2.2.2.2.2.2.1, x_.2.2.2.2.2.2.2.2.2.1, r_.1, r_.2, ())))
def whole_Int_Shift.c228677 {ρ : Type} (lost : Bool) (a0 : Bool) (out0 : Bool) (out1 : List (Int)) (k_ : (Bool) × (List Int) → Option ρ) : Option ρ :=
  bnd (W.whole_Int_Shift.c7 lost a0 some) fun y =>
  br y
   (bnd (W.whole_Int_Shift.c8 out0 out1 some) fun y_1 =>
    k_ ((Prod.fst y_1), (Prod.snd y_1)))
   (k_ (out0, out1))
def whole_Int_Shift.c228677s : Shape := whole_Int_Shift.c7s
def whole_Int_Shift.c228677x0 : Shape := whole_Int_Shift.c7s
def whole_Int_Shift.c228677r : Ck := Ck.of (T := (Bool) × (List Int)) whole_Int_Shift.c228677s (fun ρ x_ k_ => whole_Int_Shift.c228677 x_.2.2.2.1 x_.2.2.2.2.1 x_.2.2.2.2.2.2.2.2.2.2.1 x_.2.2.2.2.2.2.2.2.2.2.2.1 k_) (fun ρ x_ r_ k_ => k_ 0 (Shape.inj whole_Int_Shift.c228677x0 (x_.1, x_.2.1, x_.2.2.1, x_.2.2.2.1, x_.2.2.2.2.1, x_.2.2.2.2.2.1, x_.2.2.2.2.2.2.1, x_.2.2.2.2.2.2.2.1, x_.2.2.2.2.2.2.2.2.1, x_.2.2.2.2.2.2.2.2.2.1, r_.1, r_.2, ())))
def whole_Int_Shift (a : (Bool) × (List Int)) (n : Int) : Option (((Bool) × (List Int)) × ((Int) × (Int))) :=
  bnd (W.whole_Int_Shift.c1 n some) fun y =>
  br y
   (some ((false, []), (5 : Int), (0 : Int)))
   (br (decide (n ≥ (0 : Int)))
     (bnd (W.whole_Int_Shift.c4 n (Prod.fst a) (Prod.snd a) some) fun y_1 =>
      some ((Prod.fst y_1, Prod.snd y_1), (0 : Int), (0 : Int)))
     (bnd (W.whole_right (Prod.snd a) (IntKind.wrap IntKind.i64 ((0 : Int) - n))) fun y_2 =>
      bnd (W.whole_made (Prod.fst a) (Prod.fst y_2)) fun y_3 =>
      bnd (W.whole_Int_Shift.c228677 (Prod.snd y_2) (Prod.fst a) (Prod.fst y_3) (Prod.snd y_3) some) fun y_4 =>
      some ((Prod.fst y_4, Prod.snd y_4), (0 : Int), (0 : Int))))
def whole_Int_Shift.ce : Go.Ql.Callee := ⟨[(.st (.pair .bool (.sl (.int .u32)))), (.int .i64)], [(.st (.pair .bool (.sl (.int .u32)))), (.st (.pair (.int .i64) (.int .i64)))], fun x_ => whole_Int_Shift x_.1 x_.2⟩
def whole_Int_Shift.G : Env := ⟨49, tab, [(36, whole_made.ce), (61, whole_right.ce), (19, whole_Of.ce), (62, whole_Int_Sub.ce)], [0, 1, 2, 4, 5, 6, 7, 8, 14, 18, 43], [], [(8, [⟨[], [], [45], []⟩, ⟨[], [], [44], []⟩, ⟨[0, 1], [], [], []⟩, ⟨[2, 0, 1], [8], [], []⟩]),
  (4, [⟨[], [], [21, 22, 23, 24, 26], [24]⟩, ⟨[0], [], [21, 22, 23, 24, 26], [24]⟩, ⟨[], [], [19, 20, 23, 26], []⟩, ⟨[2], [], [19, 20, 23, 26], []⟩, ⟨[], [], [19, 20, 21, 22, 26], []⟩, ⟨[3, 2, 4], [24], [19, 20, 26], []⟩, ⟨[1, 0, 5, 3, 2, 4], [24], [26], []⟩, ⟨[], [], [19, 20, 21, 22, 23, 24, 25], [24, 4]⟩, ⟨[6, 1, 0, 5, 3, 2, 4], [4], [26], []⟩, ⟨[7, 8, 6, 1, 0, 5, 3, 2, 4], [5], [], []⟩])], [(228677, whole_Int_Shift.c228677r), (8, whole_Int_Shift.c8r), (7, whole_Int_Shift.c7r), (4, whole_Int_Shift.c4r), (1, whole_Int_Shift.c1r)], [(60, whole_left.mc)], tab_eqs, []⟩
theorem whole_Int_Shift.eq (x_ : dens whole_Int_Shift.ce.params) : den whole_Int_Shift.G Tryd.f41 whole_Int_Shift.ce.params whole_Int_Shift.ce.res x_ = whole_Int_Shift.ce.F x_ := by kernel_rfl
theorem whole_Int_Shift.p0 : PcA whole_Int_Shift.G Tryd.f41 0 :=
  region_ok (s := whole_Int_Shift.c1r) (by kernel_rfl) (by kernel_rfl) (sums_of (sh := whole_Int_Shift.c1s) (fun ρ x_ k_ => (nat_br nat_leaf nat_leaf)) (fun ρ x_ t k => (by kernel_rfl)) (fun x_ => by kernel_rfl))
theorem whole_Int_Shift.p1 : PcA whole_Int_Shift.G Tryd.f41 1 :=
  region_ok (s := whole_Int_Shift.c4r) (by kernel_rfl) (by kernel_rfl) (sums_of (sh := whole_Int_Shift.c4s) (fun ρ x_ k_ => (nat_bnd fun _ => (nat_bnd fun _ => nat_leaf))) (fun ρ x_ t k => (by kernel_rfl)) (fun x_ => by kernel_rfl))
theorem whole_Int_Shift.p2 : PcA whole_Int_Shift.G Tryd.f41 2 :=
  join_ok (s := whole_Int_Shift.c228677r) (by kernel_rfl) (by kernel_rfl) (sums_of (sh := whole_Int_Shift.c228677s) (fun ρ x_ k_ => (nat_bnd fun _ => (nat_br (nat_bnd fun _ => nat_leaf) nat_leaf))) (fun ρ x_ t k => (by kernel_rfl)) (fun x_ => by kernel_rfl))
theorem whole_Int_Shift.p3 : PcA whole_Int_Shift.G Tryd.f41 3 :=
  region_ok (s := whole_Int_Shift.c7r) (by kernel_rfl) (by kernel_rfl) (sums_of (sh := whole_Int_Shift.c7s) (fun ρ x_ k_ => (nat_br nat_leaf nat_leaf)) (fun ρ x_ t k => (by kernel_rfl)) (fun x_ => by kernel_rfl))
theorem whole_Int_Shift.p4 : PcA whole_Int_Shift.G Tryd.f41 4 :=
  region_ok (s := whole_Int_Shift.c8r) (by kernel_rfl) (by kernel_rfl) (sums_of (sh := whole_Int_Shift.c8s) (fun ρ x_ k_ => (nat_bnd fun _ => (nat_bnd fun _ => nat_leaf))) (fun ρ x_ t k => (by kernel_rfl)) (fun x_ => by kernel_rfl))
theorem whole_Int_Shift.ok : CalleeOk Tryd.prog 41 whole_Int_Shift.ce := fn_ok (G := whole_Int_Shift.G) tab_ok mixed Tryd.func41 ⟨(fns_cons whole_made.ok (fns_cons whole_right.ok (fns_cons whole_Of.ok (fns_cons whole_Int_Sub.ok fns_nil)))), (mfns_cons whole_left.ok mfns_nil), tab_eqs_ok, alts_nil⟩ (m := 5) (by kernel_rfl) ⟨⟨⟨⟨⟨trivial, whole_Int_Shift.p0⟩, whole_Int_Shift.p1⟩, whole_Int_Shift.p2⟩, whole_Int_Shift.p3⟩, whole_Int_Shift.p4⟩ (by kernel_rfl) whole_Int_Shift.eq
abbrev nb21 : SD := .one (.aptr 2000700 0)
abbrev nb22 : SO := .arr 0 false 26 (.st (.pair .bool (.sl (.int .u32))))
def ring_down.pre : Shape := ⟨[(0, nb21), (1, nb3)], [(2000700, nb22)]⟩
def ring_down.post : Shape := ⟨[], [(2000700, nb22)]⟩
def ring_down.c6 {ρ : Type} (i : Int) (t6 : Int) (t2000700 : List ((Bool) × (List Int))) (k_ : List ((Bool) × (List Int)) → Option ρ) : Option ρ :=
  bnd (okIf (decide ((0 : Ty.den (Ty.int IntKind.i64)) ≤ i) && decide (i < (↑(8 : Nat) : Int)))) fun y =>
  bnd (inR (List.length t2000700) i) fun y_1 =>
  bnd (idx t2000700 i) fun y_2 =>
  bnd (W.whole_Int_Shift y_2 (IntKind.wrap IntKind.i64 ((0 : Int) - t6))) fun y_3 =>
  bnd (okIf (decide ((0 : Ty.den (Ty.int IntKind.i64)) ≤ i) && decide (i < (↑(8 : Nat) : Int)))) fun y_4 =>
  bnd (inR (List.length t2000700) i) fun y_5 =>
  bnd (idx t2000700 i) fun y_6 =>
  k_ (List.set t2000700 (Int.toNat i) (Prod.fst y_3))
def ring_down.c6s : Shape := ⟨[(0, nb21), (1, nb3), (4, nb3), (5, nb3), (6, nb3), (7, nb3)], [(2000700, nb22)]⟩
def ring_down.c6x0 : Shape := ring_down.c6s
def ring_down.c6r : Ck := Ck.of (T := List ((Bool) × (List Int))) ring_down.c6s (fun ρ x_ k_ => ring_down.c6 x_.2.1 x_.2.2.2.1 x_.2.2.2.2.2.1 k_) (fun ρ x_ r_ k_ => k_ 0 (Shape.inj ring_down.c6x0 (x_.1, x_.2.1, x_.2.2.1, x_.2.2.2.1, x_.2.2.2.2.1, r_, ())))
def ring_down.c100004 {ρ : Type} (i : Int) (t5 : Int) (t2000700 : List ((Bool) × (List Int))) (k_ : ((Int) × (List ((Bool) × (List Int)))) ⊕ ((Int) × (List ((Bool) × (List Int)))) → Option ρ) : Option ρ :=
  br (t5 != (0 : Int))
   (bnd (W.ring_down.c6 i (Max.max (-10000 : Int) (Min.min (10000 : Int) t5)) t2000700 some) fun y =>
    k_ (.inl ((IntKind.wrap IntKind.i64 (t5 - Max.max (-10000 : Int) (Min.min (10000 : Int) t5))), y)))
   (k_ (.inr (t5, t2000700)))
def ring_down.c100004s : Shape := ⟨[(0, nb21), (1, nb3), (4, nb3), (5, nb3), (7, nb3)], [(2000700, nb22)]⟩
def ring_down.c100004x0 : Shape := ring_down.c100004s
def ring_down.c100004r : Ck := Ck.ofLoop (S := (Int) × (List ((Bool) × (List Int)))) (T := (Int) × (List ((Bool) × (List Int)))) ring_down.c100004s (fun x_ => (x_.2.2.1, x_.2.2.2.2.1)) (fun ρ x_ s_ k_ => ring_down.c100004 x_.2.1 s_.1 s_.2 k_) (fun ρ x_ r_ k_ => k_ 4 (Shape.inj ring_down.c100004x0 (x_.1, x_.2.1, r_.1, x_.2.2.2.1, r_.2, ())))
def ring_down.c100001 {ρ : Type} (n : Int) (t7 : Int) (t2000700 : List ((Bool) × (List Int))) (k_ : ((Int) × (List ((Bool) × (List Int)))) ⊕ ((Int) × (List ((Bool) × (List Int)))) → Option ρ) : Option ρ :=
  br (decide (t7 < (8 : Int)))
   (bnd (iter (fun s ↦ W.ring_down.c100004 t7 (Prod.fst s) (Prod.snd s) some) (n, t2000700)) fun y =>
    k_ (.inl ((IntKind.wrap IntKind.i64 (t7 + (1 : Int))), (Prod.snd y))))
   (k_ (.inr (t7, t2000700)))
def ring_down.c100001s : Shape := ⟨[(0, nb21), (1, nb3), (7, nb3)], [(2000700, nb22)]⟩
def ring_down.c100001x0 : Shape := ring_down.c100001s
def ring_down.c100001r : Ck := Ck.ofLoop (S := (Int) × (List ((Bool) × (List Int)))) (T := (Int) × (List ((Bool) × (List Int)))) ring_down.c100001s (fun x_ => (x_.2.1, x_.2.2.1)) (fun ρ x_ s_ k_ => ring_down.c100001 x_.1 s_.1 s_.2 k_) (fun ρ x_ r_ k_ => k_ 2 (Shape.inj ring_down.c100001x0 (x_.1, r_.1, r_.2, ())))
def ring_down (n : Int) (t2000700 : List ((Bool) × (List Int))) : Option ((List ((Bool) × (List Int))) × Unit) :=
  bnd (iter (fun s ↦ W.ring_down.c100001 n (Prod.fst s) (Prod.snd s) some) ((0 : Int), t2000700)) fun y =>
  some (Prod.snd y, ())
def ring_down.mc : MCallee := ⟨23, ring_down.pre, ring_down.post, fun x_ => ring_down x_.1 x_.2.1⟩
def ring_down.G : Env := ⟨35, tab, [(41, whole_Int_Shift.ce)], [0, 1, 4, 5, 6, 7, 8, 12], [2000700], [(6, [⟨[], [], [18, 19, 20, 21, 22, 23, 24, 25, 26, 16, 27, 28], []⟩, ⟨[], [], [17, 19, 20, 21, 22, 23, 24, 25, 26, 16, 27, 28, 29], []⟩, ⟨[], [], [17, 18, 20, 24, 25, 29], []⟩, ⟨[], [], [17, 18, 19, 21, 24, 25, 29], []⟩, ⟨[2], [], [17, 18, 20, 24, 25, 29], []⟩, ⟨[4, 2, 3], [], [17, 18, 24, 25, 29], []⟩, ⟨[5, 4, 2, 3], [], [17, 18, 24, 25, 29], []⟩, ⟨[], [], [17, 18, 19, 20, 21, 22, 23, 29], []⟩, ⟨[7], [], [17, 18, 19, 20, 21, 22, 23, 29], []⟩, ⟨[6, 5, 4, 2, 3, 8, 7], [], [17, 18, 29], []⟩, ⟨[9, 6, 5, 4, 2, 3, 8, 7], [], [17, 18, 29], []⟩, ⟨[10, 9, 6, 5, 4, 2, 3, 8, 7], [], [17, 18, 28, 29], []⟩, ⟨[10, 9, 6, 5, 4, 2, 3, 8, 7], [], [17, 18, 27, 29, 30], [2000700]⟩, ⟨[0], [], [18, 19, 20, 21, 22, 23, 24, 25, 26, 16, 27, 28], []⟩, ⟨[13, 0, 1, 2, 3, 4, 5, 6, 7, 8, 9, 10, 11], [], [28], []⟩, ⟨[14, 13, 0, 1, 2, 3, 4, 5, 6, 7, 8, 9, 10, 11], [2000700], [28], []⟩])], [(100001, ring_down.c100001r), (100004, ring_down.c100004r), (6, ring_down.c6r)], [], tab_eqs, []⟩
theorem ring_down.eq (x_ : densU ring_down.mc.pre.tys) : denM ring_down.G Tryd.f23 ring_down.mc.pre ring_down.mc.post x_ = ring_down.mc.F x_ := by kernel_rfl
theorem ring_down.p0 : PcA ring_down.G Tryd.f23 0 :=
  loop_ok (s := ring_down.c100001r) (by kernel_rfl) (by kernel_rfl) (loops_of (sh := ring_down.c100001s) (I := fun x_ s_ => (x_.1, s_.1, s_.2, ())) (fun x_ => rfl) (fun ρ x_ s_ k_ => (nat_br (nat_bnd fun _ => nat_leaf) nat_leaf)) (fun ρ x_ t k => (by kernel_rfl)) (fun x_ s => by kernel_rfl))
theorem ring_down.p1 : PcA ring_down.G Tryd.f23 1 :=
  loop_ok (s := ring_down.c100004r) (by kernel_rfl) (by kernel_rfl) (loops_of (sh := ring_down.c100004s) (I := fun x_ s_ => (x_.1, x_.2.1, s_.1, x_.2.2.2.1, s_.2, ())) (fun x_ => rfl) (fun ρ x_ s_ k_ => (nat_br (nat_bnd fun _ => nat_leaf) nat_leaf)) (fun ρ x_ t k => (by kernel_rfl)) (fun x_ s => by kernel_rfl))
theorem ring_down.p2 : PcA ring_down.G Tryd.f23 2 :=
  region_ok (s := ring_down.c6r) (by kernel_rfl) (by kernel_rfl) (sums_of (sh := ring_down.c6s) (fun ρ x_ k_ => (nat_bnd fun _ => (nat_bnd fun _ => (nat_bnd fun _ => (nat_bnd fun _ => (nat_bnd fun _ => (nat_bnd fun _ => (nat_bnd fun _ => nat_leaf)))))))) (fun ρ x_ t k => (by kernel_rfl)) (fun x_ => by kernel_rfl))
theorem ring_down.ok : MOk Tryd.prog 23 ring_down.mc := fnm_ok (G := ring_down.G) tab_ok mixed Tryd.func23 ⟨(fns_cons whole_Int_Shift.ok fns_nil), mfns_nil, tab_eqs_ok, alts_nil⟩ (m := 3) (by kernel_rfl) ⟨⟨⟨trivial, ring_down.p0⟩, ring_down.p1⟩, ring_down.p2⟩ (by kernel_rfl) ring_down.eq
abbrev nb23 : SD := .one (.val (.ar 8 (.st (.pair .bool (.sl (.int .u32))))))
abbrev nb24 : SD := .one (.aptr 2 0)
abbrev nb25 : SD := .one (.aptr 4 0)
abbrev nb26 : SO := .arr 0 false 28 (.st (.pair (.ar 8 (.st (.pair .bool (.sl (.int .u32))))) (.int .i64)))
def ring_least.c5 {ρ : Type} (twos : Int) (any : Bool) (x0 : Bool) (x1 : List (Int)) (k_ : Bool → Option ρ) : Option ρ :=
  bnd (W.whole_Int_Sign (x0, x1)) fun y =>
  br (y != (0 : Int))
   (br (!any)
     (k_ true)
     (bnd (W.whole_Int_Twos (x0, x1)) fun y_1 =>
      k_ (decide (y_1 < twos))))
   (k_ false)
def ring_least.c5s : Shape := ⟨[(0, nb23), (1, nb3), (2, nb24), (4, nb25), (5, nb3), (6, nb0), (8, nb20), (10, nb23), (11, nb3)], [(2, nb22), (4, nb26), (8, nb4)]⟩
def ring_least.c5x0 : Shape := ⟨[(0, nb23), (1, nb3), (2, nb24), (4, nb25), (5, nb3), (6, nb0), (8, nb20), (10, nb23), (11, nb3), (26, nb0)], [(2, nb22), (4, nb26), (8, nb4)]⟩
def ring_least.c5r : Ck := Ck.of (T := Bool) ring_least.c5s (fun ρ x_ k_ => ring_least.c5 x_.2.2.1 x_.2.2.2.1 x_.2.2.2.2.2.2.2.2.1 x_.2.2.2.2.2.2.2.2.2.1 k_) (fun ρ x_ r_ k_ => k_ 0 (Shape.inj ring_least.c5x0 (x_.1, x_.2.1, x_.2.2.1, x_.2.2.2.1, x_.2.2.2.2.1, x_.2.2.2.2.2.1, r_, x_.2.2.2.2.2.2)))
def ring_least.c216392 {ρ : Type} (twos : Int) (any : Bool) (t10 : List ((Bool) × (List Int))) (t11 : Int) (k_ : (Int) × (Bool) → Option ρ) : Option ρ :=
  bnd (idx t10 t11) fun y =>
  bnd (W.ring_least.c5 twos any (Prod.fst y) (Prod.snd y) some) fun y_1 =>
  br y_1
   (bnd (W.whole_Int_Twos (Prod.fst y, Prod.snd y)) fun y_2 =>
    k_ (y_2, true))
   (k_ (twos, any))
def ring_least.c216392s : Shape := ⟨[(0, nb23), (1, nb3), (2, nb24), (4, nb25), (5, nb3), (6, nb0), (10, nb23), (11, nb3)], [(2, nb22), (4, nb26)]⟩
def ring_least.c216392x0 : Shape := ring_least.c216392s
def ring_least.c216392r : Ck := Ck.of (T := (Int) × (Bool)) ring_least.c216392s (fun ρ x_ k_ => ring_least.c216392 x_.2.2.1 x_.2.2.2.1 x_.2.2.2.2.1 x_.2.2.2.2.2.1 k_) (fun ρ x_ r_ k_ => k_ 0 (Shape.inj ring_least.c216392x0 (x_.1, x_.2.1, r_.1, r_.2, x_.2.2.2.2)))
def ring_least.c100003 {ρ : Type} (twos : Int) (any : Bool) (t10 : List ((Bool) × (List Int))) (t11 : Int) (k_ : ((Int) × (Bool) × (Int)) ⊕ ((Int) × (Bool) × (Int)) → Option ρ) : Option ρ :=
  br (decide (t11 < (8 : Int)))
   (bnd (W.ring_least.c216392 twos any t10 t11 some) fun y =>
    k_ (.inl ((Prod.fst y), (Prod.snd y), (IntKind.wrap IntKind.i64 (t11 + (1 : Int))))))
   (k_ (.inr (twos, any, t11)))
def ring_least.c100003s : Shape := ring_least.c216392s
def ring_least.c100003x0 : Shape := ring_least.c216392s
def ring_least.c100003r : Ck := Ck.ofLoop (S := (Int) × (Bool) × (Int)) (T := (Int) × (Bool) × (Int)) ring_least.c100003s (fun x_ => (x_.2.2.1, x_.2.2.2.1, x_.2.2.2.2.2.1)) (fun ρ x_ s_ k_ => ring_least.c100003 s_.1 s_.2.1 x_.2.2.2.2.1 s_.2.2 k_) (fun ρ x_ r_ k_ => k_ 2 (Shape.inj ring_least.c100003x0 (x_.1, x_.2.1, r_.1, r_.2.1, x_.2.2.2.2.1, r_.2.2, x_.2.2.2.2.2.2)))
def ring_least.c240969 {ρ : Type} (e : Int) (twos : Int) (c_1 : List ((Bool) × (List Int))) (k_ : (Int) × (List ((Bool) × (List Int))) → Option ρ) : Option ρ :=
  br (Min.min twos e != (0 : Int))
   (bnd (W.ring_down (Min.min twos e) c_1) fun y =>
    k_ ((IntKind.wrap IntKind.i64 (e - Min.min twos e)), (Prod.fst y)))
   (k_ (e, c_1))
def ring_least.c240969s : Shape := ring_least.c216392s
def ring_least.c240969x0 : Shape := ring_least.c216392s
def ring_least.c240969r : Ck := Ck.of (T := (Int) × (List ((Bool) × (List Int)))) ring_least.c240969s (fun ρ x_ k_ => ring_least.c240969 x_.2.1 x_.2.2.1 x_.2.2.2.2.2.2.1 k_) (fun ρ x_ r_ k_ => k_ 0 (Shape.inj ring_least.c240969x0 (x_.1, r_.1, x_.2.2.1, x_.2.2.2.1, x_.2.2.2.2.1, x_.2.2.2.2.2.1, r_.2, x_.2.2.2.2.2.2.2)))
def ring_least (c : List ((Bool) × (List Int))) (e : Int) : Option ((List ((Bool) × (List Int))) × (Int)) :=
  bnd (okIf (decide (List.length c = (8 : Nat)))) fun y =>
  bnd (iter (fun s ↦ W.ring_least.c100003 (Prod.fst s) (Prod.fst (Prod.snd s)) c (Prod.snd (Prod.snd s)) some) ((0 : Int), false, (0 : Int))) fun y_1 =>
  br (!Prod.fst (Prod.snd y_1))
   (some (List.replicate (8 : Nat) (false, []), (0 : Int)))
   (bnd (W.ring_least.c240969 e (Prod.fst y_1) c some) fun y_2 =>
    bnd (okIf (decide (List.length (Prod.snd y_2) = (8 : Nat)))) fun y_3 =>
    some (Prod.snd y_2, Prod.fst y_2))
def ring_least.ce : Go.Ql.Callee := ⟨[(.ar 8 (.st (.pair .bool (.sl (.int .u32))))), (.int .i64)], [(.st (.pair (.ar 8 (.st (.pair .bool (.sl (.int .u32))))) (.int .i64)))], fun x_ => ring_least x_.1 x_.2⟩
def ring_least.G : Env := ⟨46, tab, [(24, whole_Int_Sign.ce), (40, whole_Int_Twos.ce)], [0, 1, 2, 4, 5, 6, 8, 9, 10, 11, 12, 26, 31, 37], [2, 4, 32, 45], [], [(240969, ring_least.c240969r), (100003, ring_least.c100003r), (216392, ring_least.c216392r), (5, ring_least.c5r)], [(23, ring_down.mc)], tab_eqs, []⟩
theorem ring_least.eq (x_ : dens ring_least.ce.params) : den ring_least.G Tryd.f22 ring_least.ce.params ring_least.ce.res x_ = ring_least.ce.F x_ := by kernel_rfl
theorem ring_least.p0 : PcA ring_least.G Tryd.f22 0 :=
  loop_ok (s := ring_least.c100003r) (by kernel_rfl) (by kernel_rfl) (loops_of (sh := ring_least.c100003s) (I := fun x_ s_ => (x_.1, x_.2.1, s_.1, s_.2.1, x_.2.2.2.2.1, s_.2.2, x_.2.2.2.2.2.2)) (fun x_ => rfl) (fun ρ x_ s_ k_ => (nat_br (nat_bnd fun _ => nat_leaf) nat_leaf)) (fun ρ x_ t k => (by kernel_rfl)) (fun x_ s => by kernel_rfl))
theorem ring_least.p1 : PcA ring_least.G Tryd.f22 1 :=
  join_ok (s := ring_least.c216392r) (by kernel_rfl) (by kernel_rfl) (sums_of (sh := ring_least.c216392s) (fun ρ x_ k_ => (nat_bnd fun _ => (nat_bnd fun _ => (nat_br (nat_bnd fun _ => nat_leaf) nat_leaf)))) (fun ρ x_ t k => (by kernel_rfl)) (fun x_ => by kernel_rfl))
theorem ring_least.p2 : PcA ring_least.G Tryd.f22 2 :=
  region_ok (s := ring_least.c5r) (by kernel_rfl) (by kernel_rfl) (sums_of (sh := ring_least.c5s) (fun ρ x_ k_ => (nat_bnd fun _ => (nat_br (nat_br nat_leaf (nat_bnd fun _ => nat_leaf)) nat_leaf))) (fun ρ x_ t k => (by kernel_rfl)) (fun x_ => by kernel_rfl))
theorem ring_least.p3 : PcA ring_least.G Tryd.f22 3 :=
  join_ok (s := ring_least.c240969r) (by kernel_rfl) (by kernel_rfl) (sums_of (sh := ring_least.c240969s) (fun ρ x_ k_ => (nat_br (nat_bnd fun _ => nat_leaf) nat_leaf)) (fun ρ x_ t k => (by kernel_rfl)) (fun x_ => by kernel_rfl))
theorem ring_least.ok : CalleeOk Tryd.prog 22 ring_least.ce := fn_ok (G := ring_least.G) tab_ok mixed Tryd.func22 ⟨(fns_cons whole_Int_Sign.ok (fns_cons whole_Int_Twos.ok fns_nil)), (mfns_cons ring_down.ok mfns_nil), tab_eqs_ok, alts_nil⟩ (m := 4) (by kernel_rfl) ⟨⟨⟨⟨trivial, ring_least.p0⟩, ring_least.p1⟩, ring_least.p2⟩, ring_least.p3⟩ (by kernel_rfl) ring_least.eq
abbrev nb27 : SD := .one (.val (.sl (.int .i64)))
abbrev nb28 : SD := .one (.aptr 6 0)
abbrev nb29 : SD := .one (.ref 9 0)
def ring_Make.c1 {ρ : Type} (e : Int) (k_ : Bool → Option ρ) : Option ρ :=
  br (decide (e < (-10000 : Int)))
   (k_ true)
   (k_ (decide (e > (10000 : Int))))
def ring_Make.c1s : Shape := ⟨[(0, nb27), (1, nb3), (4, nb25), (5, nb18)], [(4, nb26), (5, nb19)]⟩
def ring_Make.c1x0 : Shape := ⟨[(0, nb27), (1, nb3), (4, nb25), (5, nb18), (15, nb0)], [(4, nb26), (5, nb19)]⟩
def ring_Make.c1r : Ck := Ck.of (T := Bool) ring_Make.c1s (fun ρ x_ k_ => ring_Make.c1 x_.2.1 k_) (fun ρ x_ r_ k_ => k_ 0 (Shape.inj ring_Make.c1x0 (x_.1, x_.2.1, r_, x_.2.2)))
def ring_Make.c232773 {ρ : Type} (i : Int) (x0 : Bool) (x1 : List (Int)) (k_ : (Bool) × (List Int) → Option ρ) : Option ρ :=
  br (decide (Int.tmod i (16 : Int) ≥ (8 : Int)))
   (bnd (W.whole_Int_Neg (x0, x1)) fun y =>
    k_ ((Prod.fst y), (Prod.snd y)))
   (k_ (x0, x1))
def ring_Make.c232773s : Shape := ⟨[(0, nb27), (1, nb3), (4, nb25), (5, nb18), (6, nb28), (7, nb3), (8, nb3), (9, nb29), (18, nb27), (19, nb3), (20, nb3)], [(4, nb26), (5, nb19), (6, nb22), (9, nb4)]⟩
def ring_Make.c232773x0 : Shape := ring_Make.c232773s
def ring_Make.c232773r : Ck := Ck.of (T := (Bool) × (List Int)) ring_Make.c232773s (fun ρ x_ k_ => ring_Make.c232773 x_.2.2.1 x_.2.2.2.2.2.2.2.2.2.2.2.1 x_.2.2.2.2.2.2.2.2.2.2.2.2.1 k_) (fun ρ x_ r_ k_ => k_ 0 (Shape.inj ring_Make.c232773x0 (x_.1, x_.2.1, x_.2.2.1, x_.2.2.2.1, x_.2.2.2.2.1, x_.2.2.2.2.2.1, x_.2.2.2.2.2.2.1, x_.2.2.2.2.2.2.2.1, x_.2.2.2.2.2.2.2.2.1, x_.2.2.2.2.2.2.2.2.2.1, x_.2.2.2.2.2.2.2.2.2.2.1, r_.1, r_.2, ())))
def ring_Make.c10 {ρ : Type} (i : Int) (c : List ((Bool) × (List Int))) (x0 : Bool) (x1 : List (Int)) (k_ : List ((Bool) × (List Int)) → Option ρ) : Option ρ :=
  bnd (okIf (decide ((0 : Ty.den (Ty.int IntKind.i64)) ≤ Int.tmod i (8 : Int)) && decide (Int.tmod i (8 : Int) < (↑(8 : Nat) : Int)))) fun y =>
  bnd (inR (List.length c) (Int.tmod i (8 : Int))) fun y_1 =>
  bnd (idx c (Int.tmod i (8 : Int))) fun y_2 =>
  bnd (W.whole_Int_Add y_2 (x0, x1)) fun y_3 =>
  bnd (okIf (decide ((0 : Ty.den (Ty.int IntKind.i64)) ≤ Int.tmod i (8 : Int)) && decide (Int.tmod i (8 : Int) < (↑(8 : Nat) : Int)))) fun y_4 =>
  bnd (inR (List.length c) (Int.tmod i (8 : Int))) fun y_5 =>
  bnd (idx c (Int.tmod i (8 : Int))) fun y_6 =>
  k_ (List.set c (Int.toNat (Int.tmod i (8 : Int))) y_3)
def ring_Make.c10s : Shape := ring_Make.c232773s
def ring_Make.c10x0 : Shape := ring_Make.c232773s
def ring_Make.c10r : Ck := Ck.of (T := List ((Bool) × (List Int))) ring_Make.c10s (fun ρ x_ k_ => ring_Make.c10 x_.2.2.1 x_.2.2.2.2.2.2.2.2.2.2.1 x_.2.2.2.2.2.2.2.2.2.2.2.1 x_.2.2.2.2.2.2.2.2.2.2.2.2.1 k_) (fun ρ x_ r_ k_ => k_ 0 (Shape.inj ring_Make.c10x0 (x_.1, x_.2.1, x_.2.2.1, x_.2.2.2.1, x_.2.2.2.2.1, x_.2.2.2.2.2.1, x_.2.2.2.2.2.2.1, x_.2.2.2.2.2.2.2.1, x_.2.2.2.2.2.2.2.2.1, x_.2.2.2.2.2.2.2.2.2.1, r_, x_.2.2.2.2.2.2.2.2.2.2.2)))
def ring_Make.c100005 {ρ : Type} (t18 : List (Int)) (t19 : Int) (t20 : Int) (c : List ((Bool) × (List Int))) (k_ : ((Int) × (List ((Bool) × (List Int)))) ⊕ ((Int) × (List ((Bool) × (List Int)))) → Option ρ) : Option ρ :=
  br (decide (t20 < t19))
   (bnd (idx t18 t20) fun y =>
    bnd (W.whole_Of y) fun y_1 =>
    bnd (W.ring_Make.c232773 t20 (Prod.fst y_1) (Prod.snd y_1) some) fun y_2 =>
    bnd (W.ring_Make.c10 t20 c (Prod.fst y_2) (Prod.snd y_2) some) fun y_3 =>
    k_ (.inl ((IntKind.wrap IntKind.i64 (t20 + (1 : Int))), y_3)))
   (k_ (.inr (t20, c)))
def ring_Make.c100005s : Shape := ⟨[(0, nb27), (1, nb3), (4, nb25), (5, nb18), (6, nb28), (18, nb27), (19, nb3), (20, nb3)], [(4, nb26), (5, nb19), (6, nb22)]⟩
def ring_Make.c100005x0 : Shape := ring_Make.c100005s
def ring_Make.c100005r : Ck := Ck.ofLoop (S := (Int) × (List ((Bool) × (List Int)))) (T := (Int) × (List ((Bool) × (List Int)))) ring_Make.c100005s (fun x_ => (x_.2.2.2.2.1, x_.2.2.2.2.2.2.2.2.1)) (fun ρ x_ s_ k_ => ring_Make.c100005 x_.2.2.1 x_.2.2.2.1 s_.1 s_.2 k_) (fun ρ x_ r_ k_ => k_ 2 (Shape.inj ring_Make.c100005x0 (x_.1, x_.2.1, x_.2.2.1, x_.2.2.2.1, r_.1, x_.2.2.2.2.2.1, x_.2.2.2.2.2.2.1, x_.2.2.2.2.2.2.2.1, r_.2, ())))
def ring_Make (cs : List (Int)) (e : Int) : Option (((List ((Bool) × (List Int))) × (Int)) × ((Int) × (Int))) :=
  bnd (W.ring_Make.c1 e some) fun y =>
  br y
   (some ((List.replicate (8 : Nat) (false, []), (0 : Int)), (5 : Int), (0 : Int)))
   (bnd (iter (fun s ↦ W.ring_Make.c100005 cs (↑(List.length cs) : Int) (Prod.fst s) (Prod.snd s) some) ((0 : Int), List.replicate (8 : Nat) (false, []))) fun y_1 =>
    bnd (okIf (decide (List.length (Prod.snd y_1) = (8 : Nat)))) fun y_2 =>
    bnd (W.ring_least (Prod.snd y_1) e) fun y_3 =>
    some (y_3, (0 : Int), (0 : Int)))
def ring_Make.ce : Go.Ql.Callee := ⟨[(.sl (.int .i64)), (.int .i64)], [(.st (.pair (.ar 8 (.st (.pair .bool (.sl (.int .u32))))) (.int .i64))), (.st (.pair (.int .i64) (.int .i64)))], fun x_ => ring_Make x_.1 x_.2⟩
def ring_Make.G : Env := ⟨46, tab, [(19, whole_Of.ce), (20, whole_Int_Neg.ce), (21, whole_Int_Add.ce), (22, ring_least.ce)], [0, 1, 4, 5, 6, 7, 8, 9, 15, 18, 19, 20, 21, 29], [4, 6, 16], [(10, [⟨[], [], [34, 35, 36, 37, 38, 39], []⟩, ⟨[0], [], [34, 35, 36, 37, 38, 39], []⟩, ⟨[], [], [32, 33, 38], []⟩, ⟨[2], [], [32, 33, 38], []⟩, ⟨[3, 2], [], [32, 33, 38], []⟩, ⟨[4, 3, 2], [], [32, 33, 38], []⟩, ⟨[], [], [32, 33, 34, 35, 36, 37], []⟩, ⟨[5, 4, 3, 2, 6], [], [32, 33], []⟩, ⟨[1, 0, 2, 3, 4, 5, 6, 7], [], [], []⟩, ⟨[8, 1, 0, 2, 3, 4, 5, 6, 7], [6], [], []⟩])], [(100005, ring_Make.c100005r), (10, ring_Make.c10r), (232773, ring_Make.c232773r), (1, ring_Make.c1r)], [], tab_eqs, []⟩
theorem ring_Make.eq (x_ : dens ring_Make.ce.params) : den ring_Make.G Tryd.f4 ring_Make.ce.params ring_Make.ce.res x_ = ring_Make.ce.F x_ := by kernel_rfl
theorem ring_Make.p0 : PcA ring_Make.G Tryd.f4 0 :=
  region_ok (s := ring_Make.c1r) (by kernel_rfl) (by kernel_rfl) (sums_of (sh := ring_Make.c1s) (fun ρ x_ k_ => (nat_br nat_leaf nat_leaf)) (fun ρ x_ t k => (by kernel_rfl)) (fun x_ => by kernel_rfl))
theorem ring_Make.p1 : PcA ring_Make.G Tryd.f4 1 :=
  loop_ok (s := ring_Make.c100005r) (by kernel_rfl) (by kernel_rfl) (loops_of (sh := ring_Make.c100005s) (I := fun x_ s_ => (x_.1, x_.2.1, x_.2.2.1, x_.2.2.2.1, s_.1, x_.2.2.2.2.2.1, x_.2.2.2.2.2.2.1, x_.2.2.2.2.2.2.2.1, s_.2, ())) (fun x_ => rfl) (fun ρ x_ s_ k_ => (nat_br (nat_bnd fun _ => (nat_bnd fun _ => (nat_bnd fun _ => (nat_bnd fun _ => nat_leaf)))) nat_leaf)) (fun ρ x_ t k => (by kernel_rfl)) (fun x_ s => by kernel_rfl))
theorem ring_Make.p2 : PcA ring_Make.G Tryd.f4 2 :=
  join_ok (s := ring_Make.c232773r) (by kernel_rfl) (by kernel_rfl) (sums_of (sh := ring_Make.c232773s) (fun ρ x_ k_ => (nat_br (nat_bnd fun _ => nat_leaf) nat_leaf)) (fun ρ x_ t k => (by kernel_rfl)) (fun x_ => by kernel_rfl))
theorem ring_Make.p3 : PcA ring_Make.G Tryd.f4 3 :=
  region_ok (s := ring_Make.c10r) (by kernel_rfl) (by kernel_rfl) (sums_of (sh := ring_Make.c10s) (fun ρ x_ k_ => (nat_bnd fun _ => (nat_bnd fun _ => (nat_bnd fun _ => (nat_bnd fun _ => (nat_bnd fun _ => (nat_bnd fun _ => (nat_bnd fun _ => nat_leaf)))))))) (fun ρ x_ t k => (by kernel_rfl)) (fun x_ => by kernel_rfl))
theorem ring_Make.ok : CalleeOk Tryd.prog 4 ring_Make.ce := fn_ok (G := ring_Make.G) tab_ok mixed Tryd.func4 ⟨(fns_cons whole_Of.ok (fns_cons whole_Int_Neg.ok (fns_cons whole_Int_Add.ok (fns_cons ring_least.ok fns_nil)))), mfns_nil, tab_eqs_ok, alts_nil⟩ (m := 4) (by kernel_rfl) ⟨⟨⟨⟨trivial, ring_Make.p0⟩, ring_Make.p1⟩, ring_Make.p2⟩, ring_Make.p3⟩ (by kernel_rfl) ring_Make.eq
def ring_down__num.pre : Shape := ⟨[(0, nb21), (1, nb3)], [(2000700, nb26)]⟩
def ring_down__num.post : Shape := ⟨[], [(2000700, nb26)]⟩
def ring_down__num.c6 {ρ : Type} (i : Int) (t6 : Int) (t2000700 : List ((List ((Bool) × (List Int))) × (Int))) (k_ : List ((List ((Bool) × (List Int))) × (Int)) → Option ρ) : Option ρ :=
  bnd (okIf (decide ((0 : Ty.den (Ty.int IntKind.i64)) ≤ i) && decide (i < (↑(8 : Nat) : Int)))) fun y =>
  bnd (inR (List.length t2000700) (0 : Int)) fun y_1 =>
  bnd (idx t2000700 (0 : Int)) fun y_2 =>
  bnd (idx (Prod.fst y_2) i) fun y_3 =>
  bnd (W.whole_Int_Shift y_3 (IntKind.wrap IntKind.i64 ((0 : Int) - t6))) fun y_4 =>
  bnd (okIf (decide ((0 : Ty.den (Ty.int IntKind.i64)) ≤ i) && decide (i < (↑(8 : Nat) : Int)))) fun y_5 =>
  bnd (inR (List.length t2000700) (0 : Int)) fun y_6 =>
  bnd (idx t2000700 (0 : Int)) fun y_7 =>
  bnd (idx (Prod.fst y_7) i) fun y_8 =>
  k_ (List.set t2000700 (0 : Nat) (List.set (Prod.fst y_7) (Int.toNat i) (Prod.fst y_4), Prod.snd y_7))
def ring_down__num.c6s : Shape := ⟨[(0, nb21), (1, nb3), (4, nb3), (5, nb3), (6, nb3), (7, nb3)], [(2000700, nb26)]⟩
def ring_down__num.c6x0 : Shape := ring_down__num.c6s
def ring_down__num.c6r : Ck := Ck.of (T := List ((List ((Bool) × (List Int))) × (Int))) ring_down__num.c6s (fun ρ x_ k_ => ring_down__num.c6 x_.2.1 x_.2.2.2.1 x_.2.2.2.2.2.1 k_) (fun ρ x_ r_ k_ => k_ 0 (Shape.inj ring_down__num.c6x0 (x_.1, x_.2.1, x_.2.2.1, x_.2.2.2.1, x_.2.2.2.2.1, r_, ())))
def ring_down__num.c100004 {ρ : Type} (i : Int) (t5 : Int) (t2000700 : List ((List ((Bool) × (List Int))) × (Int))) (k_ : ((Int) × (List ((List ((Bool) × (List Int))) × (Int)))) ⊕ ((Int) × (List ((List ((Bool) × (List Int))) × (Int)))) → Option ρ) : Option ρ :=
  br (t5 != (0 : Int))
   (bnd (W.ring_down__num.c6 i (Max.max (-10000 : Int) (Min.min (10000 : Int) t5)) t2000700 some) fun y =>
    k_ (.inl ((IntKind.wrap IntKind.i64 (t5 - Max.max (-10000 : Int) (Min.min (10000 : Int) t5))), y)))
   (k_ (.inr (t5, t2000700)))
def ring_down__num.c100004s : Shape := ⟨[(0, nb21), (1, nb3), (4, nb3), (5, nb3), (7, nb3)], [(2000700, nb26)]⟩
def ring_down__num.c100004x0 : Shape := ring_down__num.c100004s
def ring_down__num.c100004r : Ck := Ck.ofLoop (S := (Int) × (List ((List ((Bool) × (List Int))) × (Int)))) (T := (Int) × (List ((List ((Bool) × (List Int))) × (Int)))) ring_down__num.c100004s (fun x_ => (x_.2.2.1, x_.2.2.2.2.1)) (fun ρ x_ s_ k_ => ring_down__num.c100004 x_.2.1 s_.1 s_.2 k_) (fun ρ x_ r_ k_ => k_ 4 (Shape.inj ring_down__num.c100004x0 (x_.1, x_.2.1, r_.1, x_.2.2.2.1, r_.2, ())))
def ring_down__num.c100001 {ρ : Type} (n : Int) (t7 : Int) (t2000700 : List ((List ((Bool) × (List Int))) × (Int))) (k_ : ((Int) × (List ((List ((Bool) × (List Int))) × (Int)))) ⊕ ((Int) × (List ((List ((Bool) × (List Int))) × (Int)))) → Option ρ) : Option ρ :=
  br (decide (t7 < (8 : Int)))
   (bnd (iter (fun s ↦ W.ring_down__num.c100004 t7 (Prod.fst s) (Prod.snd s) some) (n, t2000700)) fun y =>
    k_ (.inl ((IntKind.wrap IntKind.i64 (t7 + (1 : Int))), (Prod.snd y))))
   (k_ (.inr (t7, t2000700)))
def ring_down__num.c100001s : Shape := ⟨[(0, nb21), (1, nb3), (7, nb3)], [(2000700, nb26)]⟩
def ring_down__num.c100001x0 : Shape := ring_down__num.c100001s
def ring_down__num.c100001r : Ck := Ck.ofLoop (S := (Int) × (List ((List ((Bool) × (List Int))) × (Int)))) (T := (Int) × (List ((List ((Bool) × (List Int))) × (Int)))) ring_down__num.c100001s (fun x_ => (x_.2.1, x_.2.2.1)) (fun ρ x_ s_ k_ => ring_down__num.c100001 x_.1 s_.1 s_.2 k_) (fun ρ x_ r_ k_ => k_ 2 (Shape.inj ring_down__num.c100001x0 (x_.1, r_.1, r_.2, ())))
def ring_down__num (n : Int) (t2000700 : List ((List ((Bool) × (List Int))) × (Int))) : Option ((List ((List ((Bool) × (List Int))) × (Int))) × Unit) :=
  bnd (iter (fun s ↦ W.ring_down__num.c100001 n (Prod.fst s) (Prod.snd s) some) ((0 : Int), t2000700)) fun y =>
  some (Prod.snd y, ())
def ring_down__num.mc : MCallee := ⟨23, ring_down__num.pre, ring_down__num.post, fun x_ => ring_down__num x_.1 x_.2.1⟩
def ring_down__num.G : Env := ⟨35, tab, [(41, whole_Int_Shift.ce)], [0, 1, 4, 5, 6, 7, 8, 12], [2000700], [(6, [⟨[], [], [18, 19, 20, 21, 22, 23, 24, 25, 26, 16, 27, 28], []⟩, ⟨[], [], [17, 19, 20, 21, 22, 23, 24, 25, 26, 16, 27, 28, 29], []⟩, ⟨[], [], [17, 18, 20, 24, 25, 29], []⟩, ⟨[], [], [17, 18, 19, 21, 24, 25, 29], []⟩, ⟨[2], [], [17, 18, 20, 24, 25, 29], []⟩, ⟨[4, 2, 3], [], [17, 18, 24, 25, 29], []⟩, ⟨[5, 4, 2, 3], [], [17, 18, 24, 25, 29], []⟩, ⟨[], [], [17, 18, 19, 20, 21, 22, 23, 29], []⟩, ⟨[7], [], [17, 18, 19, 20, 21, 22, 23, 29], []⟩, ⟨[6, 5, 4, 2, 3, 8, 7], [], [17, 18, 29], []⟩, ⟨[9, 6, 5, 4, 2, 3, 8, 7], [], [17, 18, 29], []⟩, ⟨[10, 9, 6, 5, 4, 2, 3, 8, 7], [], [17, 18, 28, 29], []⟩, ⟨[10, 9, 6, 5, 4, 2, 3, 8, 7], [], [17, 18, 27, 29, 30], [2000700]⟩, ⟨[0], [], [18, 19, 20, 21, 22, 23, 24, 25, 26, 16, 27, 28], []⟩, ⟨[13, 0, 1, 2, 3, 4, 5, 6, 7, 8, 9, 10, 11], [], [28], []⟩, ⟨[14, 13, 0, 1, 2, 3, 4, 5, 6, 7, 8, 9, 10, 11], [2000700], [28], []⟩])], [(100001, ring_down__num.c100001r), (100004, ring_down__num.c100004r), (6, ring_down__num.c6r)], [], tab_eqs, []⟩
theorem ring_down__num.eq (x_ : densU ring_down__num.mc.pre.tys) : denM ring_down__num.G Tryd.f23 ring_down__num.mc.pre ring_down__num.mc.post x_ = ring_down__num.mc.F x_ := by kernel_rfl
theorem ring_down__num.p0 : PcA ring_down__num.G Tryd.f23 0 :=
  loop_ok (s := ring_down__num.c100001r) (by kernel_rfl) (by kernel_rfl) (loops_of (sh := ring_down__num.c100001s) (I := fun x_ s_ => (x_.1, s_.1, s_.2, ())) (fun x_ => rfl) (fun ρ x_ s_ k_ => (nat_br (nat_bnd fun _ => nat_leaf) nat_leaf)) (fun ρ x_ t k => (by kernel_rfl)) (fun x_ s => by kernel_rfl))
theorem ring_down__num.p1 : PcA ring_down__num.G Tryd.f23 1 :=
  loop_ok (s := ring_down__num.c100004r) (by kernel_rfl) (by kernel_rfl) (loops_of (sh := ring_down__num.c100004s) (I := fun x_ s_ => (x_.1, x_.2.1, s_.1, x_.2.2.2.1, s_.2, ())) (fun x_ => rfl) (fun ρ x_ s_ k_ => (nat_br (nat_bnd fun _ => nat_leaf) nat_leaf)) (fun ρ x_ t k => (by kernel_rfl)) (fun x_ s => by kernel_rfl))
theorem ring_down__num.p2 : PcA ring_down__num.G Tryd.f23 2 :=
  region_ok (s := ring_down__num.c6r) (by kernel_rfl) (by kernel_rfl) (sums_of (sh := ring_down__num.c6s) (fun ρ x_ k_ => (nat_bnd fun _ => (nat_bnd fun _ => (nat_bnd fun _ => (nat_bnd fun _ => (nat_bnd fun _ => (nat_bnd fun _ => (nat_bnd fun _ => (nat_bnd fun _ => (nat_bnd fun _ => nat_leaf)))))))))) (fun ρ x_ t k => (by kernel_rfl)) (fun x_ => by kernel_rfl))
theorem ring_down__num.ok : MOk Tryd.prog 23 ring_down__num.mc := fnm_ok (G := ring_down__num.G) tab_ok mixed Tryd.func23 ⟨(fns_cons whole_Int_Shift.ok fns_nil), mfns_nil, tab_eqs_ok, alts_nil⟩ (m := 3) (by kernel_rfl) ⟨⟨⟨trivial, ring_down__num.p0⟩, ring_down__num.p1⟩, ring_down__num.p2⟩ (by kernel_rfl) ring_down__num.eq
abbrev nb30 : SD := .one (.val (.st (.pair (.ar 8 (.st (.pair .bool (.sl (.int .u32))))) (.int .i64))))
abbrev nb31 : SD := .one (.aptr 3 0)
def ring_Num_Add.c204108 {ρ : Type} (a_1 : List ((List ((Bool) × (List Int))) × (Int))) (b_1 : List ((List ((Bool) × (List Int))) × (Int))) (k_ : (List ((List ((Bool) × (List Int))) × (Int))) × (List ((List ((Bool) × (List Int))) × (Int))) → Option ρ) : Option ρ :=
  bnd (inR (List.length a_1) (0 : Int)) fun y =>
  bnd (idx a_1 (0 : Int)) fun y_1 =>
  bnd (inR (List.length b_1) (0 : Int)) fun y_2 =>
  bnd (idx b_1 (0 : Int)) fun y_3 =>
  br (decide (Prod.snd y_1 < Prod.snd y_3))
   (bnd (inR (List.length a_1) (0 : Int)) fun y_4 =>
    bnd (inR (List.length a_1) (0 : Int)) fun y_5 =>
    bnd (idx a_1 (0 : Int)) fun y_6 =>
    bnd (inR (List.length b_1) (0 : Int)) fun y_7 =>
    bnd (idx b_1 (0 : Int)) fun y_8 =>
    bnd (W.ring_down__num (IntKind.wrap IntKind.i64 (Prod.snd y_6 - Prod.snd y_8)) a_1) fun y_9 =>
    bnd (inR (List.length b_1) (0 : Int)) fun y_10 =>
    bnd (idx b_1 (0 : Int)) fun y_11 =>
    bnd (inR (List.length (Prod.fst y_9)) (0 : Int)) fun y_12 =>
    bnd (idx (Prod.fst y_9) (0 : Int)) fun y_13 =>
    k_ ((List.set (Prod.fst y_9) (0 : Nat) (Prod.fst y_13, Prod.snd y_11)), b_1))
   (bnd (inR (List.length b_1) (0 : Int)) fun y_14 =>
    bnd (idx b_1 (0 : Int)) fun y_15 =>
    bnd (inR (List.length a_1) (0 : Int)) fun y_16 =>
    bnd (idx a_1 (0 : Int)) fun y_17 =>
    br (decide (Prod.snd y_15 < Prod.snd y_17))
     (bnd (inR (List.length b_1) (0 : Int)) fun y_18 =>
      bnd (inR (List.length b_1) (0 : Int)) fun y_19 =>
      bnd (idx b_1 (0 : Int)) fun y_20 =>
      bnd (inR (List.length a_1) (0 : Int)) fun y_21 =>
      bnd (idx a_1 (0 : Int)) fun y_22 =>
      bnd (W.ring_down__num (IntKind.wrap IntKind.i64 (Prod.snd y_20 - Prod.snd y_22)) b_1) fun y_23 =>
      k_ (a_1, (Prod.fst y_23)))
     (k_ (a_1, b_1)))
def ring_Num_Add.c204108s : Shape := ⟨[(0, nb30), (1, nb30), (2, nb24), (3, nb31), (4, nb25)], [(2, nb26), (3, nb26), (4, nb26)]⟩
def ring_Num_Add.c204108x0 : Shape := ring_Num_Add.c204108s
def ring_Num_Add.c204108r : Ck := Ck.of (T := (List ((List ((Bool) × (List Int))) × (Int))) × (List ((List ((Bool) × (List Int))) × (Int)))) ring_Num_Add.c204108s (fun ρ x_ k_ => ring_Num_Add.c204108 x_.2.2.1 x_.2.2.2.1 k_) (fun ρ x_ r_ k_ => k_ 0 (Shape.inj ring_Num_Add.c204108x0 (x_.1, x_.2.1, r_.1, r_.2, x_.2.2.2.2)))
def ring_Num_Add.c9 {ρ : Type} (i : Int) (a_1 : List ((List ((Bool) × (List Int))) × (Int))) (b_1 : List ((List ((Bool) × (List Int))) × (Int))) (k_ : List ((List ((Bool) × (List Int))) × (Int)) → Option ρ) : Option ρ :=
  bnd (inR (List.length a_1) (0 : Int)) fun y =>
  bnd (okIf (decide ((0 : Ty.den (Ty.int IntKind.i64)) ≤ i) && decide (i < (↑(8 : Nat) : Int)))) fun y_1 =>
  bnd (idx a_1 (0 : Int)) fun y_2 =>
  bnd (idx (Prod.fst y_2) i) fun y_3 =>
  bnd (inR (List.length b_1) (0 : Int)) fun y_4 =>
  bnd (okIf (decide ((0 : Ty.den (Ty.int IntKind.i64)) ≤ i) && decide (i < (↑(8 : Nat) : Int)))) fun y_5 =>
  bnd (idx b_1 (0 : Int)) fun y_6 =>
  bnd (idx (Prod.fst y_6) i) fun y_7 =>
  bnd (W.whole_Int_Add y_3 y_7) fun y_8 =>
  bnd (inR (List.length a_1) (0 : Int)) fun y_9 =>
  bnd (okIf (decide ((0 : Ty.den (Ty.int IntKind.i64)) ≤ i) && decide (i < (↑(8 : Nat) : Int)))) fun y_10 =>
  bnd (idx a_1 (0 : Int)) fun y_11 =>
  bnd (idx (Prod.fst y_11) i) fun y_12 =>
  k_ (List.set a_1 (0 : Nat) (List.set (Prod.fst y_11) (Int.toNat i) y_8, Prod.snd y_11))
def ring_Num_Add.c9s : Shape := ⟨[(0, nb30), (1, nb30), (2, nb24), (3, nb31), (4, nb25), (5, nb3), (35, nb3)], [(2, nb26), (3, nb26), (4, nb26)]⟩
def ring_Num_Add.c9x0 : Shape := ring_Num_Add.c9s
def ring_Num_Add.c9r : Ck := Ck.of (T := List ((List ((Bool) × (List Int))) × (Int))) ring_Num_Add.c9s (fun ρ x_ k_ => ring_Num_Add.c9 x_.2.2.1 x_.2.2.2.2.1 x_.2.2.2.2.2.1 k_) (fun ρ x_ r_ k_ => k_ 0 (Shape.inj ring_Num_Add.c9x0 (x_.1, x_.2.1, x_.2.2.1, x_.2.2.2.1, r_, x_.2.2.2.2.2)))
def ring_Num_Add.c100007 {ρ : Type} (t35 : Int) (a_1 : List ((List ((Bool) × (List Int))) × (Int))) (b_1 : List ((List ((Bool) × (List Int))) × (Int))) (k_ : ((Int) × (List ((List ((Bool) × (List Int))) × (Int)))) ⊕ ((Int) × (List ((List ((Bool) × (List Int))) × (Int)))) → Option ρ) : Option ρ :=
  br (decide (t35 < (8 : Int)))
   (bnd (W.ring_Num_Add.c9 t35 a_1 b_1 some) fun y =>
    k_ (.inl ((IntKind.wrap IntKind.i64 (t35 + (1 : Int))), y)))
   (k_ (.inr (t35, a_1)))
def ring_Num_Add.c100007s : Shape := ⟨[(0, nb30), (1, nb30), (2, nb24), (3, nb31), (4, nb25), (35, nb3)], [(2, nb26), (3, nb26), (4, nb26)]⟩
def ring_Num_Add.c100007x0 : Shape := ring_Num_Add.c100007s
def ring_Num_Add.c100007r : Ck := Ck.ofLoop (S := (Int) × (List ((List ((Bool) × (List Int))) × (Int)))) (T := (Int) × (List ((List ((Bool) × (List Int))) × (Int)))) ring_Num_Add.c100007s (fun x_ => (x_.2.2.1, x_.2.2.2.1)) (fun ρ x_ s_ k_ => ring_Num_Add.c100007 s_.1 s_.2 x_.2.2.2.2.1 k_) (fun ρ x_ r_ k_ => k_ 3 (Shape.inj ring_Num_Add.c100007x0 (x_.1, x_.2.1, r_.1, r_.2, x_.2.2.2.2)))
def ring_Num_Add (a : (List ((Bool) × (List Int))) × (Int)) (b : (List ((Bool) × (List Int))) × (Int)) : Option ((List ((Bool) × (List Int))) × (Int)) :=
  bnd (W.ring_Num_Add.c204108 [a] [b] some) fun y =>
  bnd (iter (fun s ↦ W.ring_Num_Add.c100007 (Prod.fst s) (Prod.snd s) (Prod.snd y) some) ((0 : Int), Prod.fst y)) fun y_1 =>
  bnd (inR (List.length (Prod.snd y_1)) (0 : Int)) fun y_2 =>
  bnd (idx (Prod.snd y_1) (0 : Int)) fun y_3 =>
  bnd (inR (List.length (Prod.snd y_1)) (0 : Int)) fun y_4 =>
  bnd (idx (Prod.snd y_1) (0 : Int)) fun y_5 =>
  bnd (W.ring_least (Prod.fst y_3) (Prod.snd y_5)) fun y_6 =>
  some y_6
def ring_Num_Add.ce : Go.Ql.Callee := ⟨[(.st (.pair (.ar 8 (.st (.pair .bool (.sl (.int .u32))))) (.int .i64))), (.st (.pair (.ar 8 (.st (.pair .bool (.sl (.int .u32))))) (.int .i64)))], [(.st (.pair (.ar 8 (.st (.pair .bool (.sl (.int .u32))))) (.int .i64)))], fun x_ => ring_Num_Add x_.1 x_.2⟩
def ring_Num_Add.G : Env := ⟨56, tab, [(21, whole_Int_Add.ce), (22, ring_least.ce)], [0, 1, 2, 3, 4, 5, 6, 22, 35, 36], [2, 3, 4], [(9, [⟨[], [], [39, 40, 41, 42, 43, 44, 45, 46, 47, 48], []⟩, ⟨[], [], [38, 40, 43, 44, 45, 46, 48], []⟩, ⟨[], [], [38, 39, 43, 44, 45, 46, 48], []⟩, ⟨[2, 1], [], [38, 43, 44, 45, 46, 48], []⟩, ⟨[3, 2, 1], [], [38, 43, 44, 45, 46, 48], []⟩, ⟨[], [], [38, 39, 40, 41, 42, 44, 48], []⟩, ⟨[], [], [38, 39, 40, 41, 42, 43, 48], []⟩, ⟨[6, 5], [], [38, 39, 40, 41, 42, 48], []⟩, ⟨[7, 6, 5], [], [38, 39, 40, 41, 42, 48], []⟩, ⟨[4, 3, 2, 1, 8, 7, 6, 5], [], [38, 48], []⟩, ⟨[], [], [38, 39, 40, 41, 42, 43, 44, 45, 46, 47], []⟩, ⟨[10, 0, 1, 2, 3, 4, 5, 6, 7, 8, 9], [], [], []⟩, ⟨[11, 10, 0, 1, 2, 3, 4, 5, 6, 7, 8, 9], [2], [], []⟩])], [(100007, ring_Num_Add.c100007r), (9, ring_Num_Add.c9r), (204108, ring_Num_Add.c204108r)], [(23, ring_down__num.mc)], tab_eqs, []⟩
theorem ring_Num_Add.eq (x_ : dens ring_Num_Add.ce.params) : den ring_Num_Add.G Tryd.f6 ring_Num_Add.ce.params ring_Num_Add.ce.res x_ = ring_Num_Add.ce.F x_ := by kernel_rfl
theorem ring_Num_Add.p0 : PcA ring_Num_Add.G Tryd.f6 0 :=
  join_ok (s := ring_Num_Add.c204108r) (by kernel_rfl) (by kernel_rfl) (sums_of (sh := ring_Num_Add.c204108s) (fun ρ x_ k_ => (nat_bnd fun _ => (nat_bnd fun _ => (nat_bnd fun _ => (nat_bnd fun _ => (nat_br (nat_bnd fun _ => (nat_bnd fun _ => (nat_bnd fun _ => (nat_bnd fun _ => (nat_bnd fun _ => (nat_bnd fun _ => (nat_bnd fun _ => (nat_bnd fun _ => (nat_bnd fun _ => (nat_bnd fun _ => nat_leaf)))))))))) (nat_bnd fun _ => (nat_bnd fun _ => (nat_bnd fun _ => (nat_bnd fun _ => (nat_br (nat_bnd fun _ => (nat_bnd fun _ => (nat_bnd fun _ => (nat_bnd fun _ => (nat_bnd fun _ => (nat_bnd fun _ => nat_leaf)))))) nat_leaf))))))))))) (fun ρ x_ t k => (by kernel_rfl)) (fun x_ => by kernel_rfl))
theorem ring_Num_Add.p1 : PcA ring_Num_Add.G Tryd.f6 1 :=
  loop_ok (s := ring_Num_Add.c100007r) (by kernel_rfl) (by kernel_rfl) (loops_of (sh := ring_Num_Add.c100007s) (I := fun x_ s_ => (x_.1, x_.2.1, s_.1, s_.2, x_.2.2.2.2)) (fun x_ => rfl) (fun ρ x_ s_ k_ => (nat_br (nat_bnd fun _ => nat_leaf) nat_leaf)) (fun ρ x_ t k => (by kernel_rfl)) (fun x_ s => by kernel_rfl))
theorem ring_Num_Add.p2 : PcA ring_Num_Add.G Tryd.f6 2 :=
  region_ok (s := ring_Num_Add.c9r) (by kernel_rfl) (by kernel_rfl) (sums_of (sh := ring_Num_Add.c9s) (fun ρ x_ k_ => (nat_bnd fun _ => (nat_bnd fun _ => (nat_bnd fun _ => (nat_bnd fun _ => (nat_bnd fun _ => (nat_bnd fun _ => (nat_bnd fun _ => (nat_bnd fun _ => (nat_bnd fun _ => (nat_bnd fun _ => (nat_bnd fun _ => (nat_bnd fun _ => (nat_bnd fun _ => nat_leaf)))))))))))))) (fun ρ x_ t k => (by kernel_rfl)) (fun x_ => by kernel_rfl))
theorem ring_Num_Add.ok : CalleeOk Tryd.prog 6 ring_Num_Add.ce := fn_ok (G := ring_Num_Add.G) tab_ok mixed Tryd.func6 ⟨(fns_cons whole_Int_Add.ok (fns_cons ring_least.ok fns_nil)), (mfns_cons ring_down__num.ok mfns_nil), tab_eqs_ok, alts_nil⟩ (m := 3) (by kernel_rfl) ⟨⟨⟨trivial, ring_Num_Add.p0⟩, ring_Num_Add.p1⟩, ring_Num_Add.p2⟩ (by kernel_rfl) ring_Num_Add.eq
abbrev nb32 : SD := .one (.own 18 0)
def whole_Int_Mul.c100007 {ρ : Type} (i : Int) (x : Int) (carry : Int) (t28 : List (Int)) (t29 : Int) (t30 : Int) (t18 : List (Int)) (k_ : ((Int) × (Int) × (List Int)) ⊕ ((Int) × (Int) × (List Int)) → Option ρ) : Option ρ :=
  br (decide (t30 < t29))
   (bnd (idx t28 t30) fun y =>
    bnd (inR (List.length t18) (IntKind.wrap IntKind.i64 (i + t30))) fun y_1 =>
    bnd (idx t18 (IntKind.wrap IntKind.i64 (i + t30))) fun y_2 =>
    bnd (inR (List.length t18) (IntKind.wrap IntKind.i64 (i + t30))) fun y_3 =>
    bnd (idx t18 (IntKind.wrap IntKind.i64 (i + t30))) fun y_4 =>
    k_ (.inl ((Int.fdiv (IntKind.wrap IntKind.u64 (carry + IntKind.wrap IntKind.u64 (IntKind.wrap IntKind.u64 (IntKind.wrap IntKind.u64 x * IntKind.wrap IntKind.u64 y) + IntKind.wrap IntKind.u64 y_2))) ((2 : Int) ^ (32 : Nat))), (IntKind.wrap IntKind.i64 (t30 + (1 : Int))), (List.set t18 (Int.toNat (IntKind.wrap IntKind.i64 (i + t30))) (IntKind.wrap IntKind.u32 (IntKind.wrap IntKind.u64 (carry + IntKind.wrap IntKind.u64 (IntKind.wrap IntKind.u64 (IntKind.wrap IntKind.u64 x * IntKind.wrap IntKind.u64 y) + IntKind.wrap IntKind.u64 y_2))))))))
   (k_ (.inr (carry, t30, t18)))
def whole_Int_Mul.c100007s : Shape := ⟨[(0, nb11), (1, nb11), (2, nb5), (3, nb12), (4, nb2), (5, nb32), (6, nb3), (7, nb8), (8, nb6), (20, nb1), (21, nb3), (22, nb3), (28, nb1), (29, nb3), (30, nb3)], [(2, nb4), (3, nb4), (4, nb4), (18, nb9)]⟩
def whole_Int_Mul.c100007x0 : Shape := whole_Int_Mul.c100007s
def whole_Int_Mul.c100007r : Ck := Ck.ofLoop (S := (Int) × (Int) × (List Int)) (T := (Int) × (Int) × (List Int)) whole_Int_Mul.c100007s (fun x_ => (x_.2.2.2.2.1, x_.2.2.2.2.2.2.2.2.2.2.1, x_.2.2.2.2.2.2.2.2.2.2.2.2.2.2.2.2.2.1)) (fun ρ x_ s_ k_ => whole_Int_Mul.c100007 x_.2.2.1 x_.2.2.2.1 s_.1 x_.2.2.2.2.2.2.2.2.1 x_.2.2.2.2.2.2.2.2.2.1 s_.2.1 s_.2.2 k_) (fun ρ x_ r_ k_ => k_ 4 (Shape.inj whole_Int_Mul.c100007x0 (x_.1, x_.2.1, x_.2.2.1, x_.2.2.2.1, r_.1, x_.2.2.2.2.2.1, x_.2.2.2.2.2.2.1, x_.2.2.2.2.2.2.2.1, x_.2.2.2.2.2.2.2.2.1, x_.2.2.2.2.2.2.2.2.2.1, r_.2.1, x_.2.2.2.2.2.2.2.2.2.2.2.1, x_.2.2.2.2.2.2.2.2.2.2.2.2.1, x_.2.2.2.2.2.2.2.2.2.2.2.2.2.1, x_.2.2.2.2.2.2.2.2.2.2.2.2.2.2.1, x_.2.2.2.2.2.2.2.2.2.2.2.2.2.2.2.1, x_.2.2.2.2.2.2.2.2.2.2.2.2.2.2.2.2.1, r_.2.2, ())))
def whole_Int_Mul.c100003 {ρ : Type} (t20 : List (Int)) (t21 : Int) (t22 : Int) (b1 : List (Int)) (t18 : List (Int)) (k_ : ((Int) × (List Int)) ⊕ ((Int) × (List Int)) → Option ρ) : Option ρ :=
  br (decide (t22 < t21))
   (bnd (idx t20 t22) fun y =>
    bnd (iter (fun s ↦ W.whole_Int_Mul.c100007 t22 y (Prod.fst s) b1 (↑(List.length b1) : Int) (Prod.fst (Prod.snd s)) (Prod.snd (Prod.snd s)) some) ((0 : Int), (0 : Int), t18)) fun y_1 =>
    bnd (inR (List.length (Prod.snd (Prod.snd y_1))) (IntKind.wrap IntKind.i64 (t22 + (↑(List.length b1) : Int)))) fun y_2 =>
    bnd (idx (Prod.snd (Prod.snd y_1)) (IntKind.wrap IntKind.i64 (t22 + (↑(List.length b1) : Int)))) fun y_3 =>
    k_ (.inl ((IntKind.wrap IntKind.i64 (t22 + (1 : Int))), (List.set (Prod.snd (Prod.snd y_1)) (Int.toNat (IntKind.wrap IntKind.i64 (t22 + (↑(List.length b1) : Int)))) (IntKind.wrap IntKind.u32 (Prod.fst y_1))))))
   (k_ (.inr (t22, t18)))
def whole_Int_Mul.c100003s : Shape := ⟨[(0, nb11), (1, nb11), (2, nb5), (3, nb12), (4, nb2), (5, nb32), (20, nb1), (21, nb3), (22, nb3)], [(2, nb4), (3, nb4), (4, nb4), (18, nb9)]⟩
def whole_Int_Mul.c100003x0 : Shape := whole_Int_Mul.c100003s
def whole_Int_Mul.c100003r : Ck := Ck.ofLoop (S := (Int) × (List Int)) (T := (Int) × (List Int)) whole_Int_Mul.c100003s (fun x_ => (x_.2.2.2.2.1, x_.2.2.2.2.2.2.2.2.2.2.2.1)) (fun ρ x_ s_ k_ => whole_Int_Mul.c100003 x_.2.2.1 x_.2.2.2.1 s_.1 x_.2.2.2.2.2.2.2.2.1 s_.2 k_) (fun ρ x_ r_ k_ => k_ 2 (Shape.inj whole_Int_Mul.c100003x0 (x_.1, x_.2.1, x_.2.2.1, x_.2.2.2.1, r_.1, x_.2.2.2.2.2.1, x_.2.2.2.2.2.2.1, x_.2.2.2.2.2.2.2.1, x_.2.2.2.2.2.2.2.2.1, x_.2.2.2.2.2.2.2.2.2.1, x_.2.2.2.2.2.2.2.2.2.2.1, r_.2, ())))
def whole_Int_Mul (a : (Bool) × (List Int)) (b : (Bool) × (List Int)) : Option ((Bool) × (List Int)) :=
  bnd (okIf (decide ((0 : Int) ≤ IntKind.wrap IntKind.i64 ((↑(List.length (Prod.snd a)) : Int) + (↑(List.length (Prod.snd b)) : Int))) && decide (IntKind.wrap IntKind.i64 ((↑(List.length (Prod.snd a)) : Int) + (↑(List.length (Prod.snd b)) : Int)) ≤ IntKind.wrap IntKind.i64 ((↑(List.length (Prod.snd a)) : Int) + (↑(List.length (Prod.snd b)) : Int))) && decide (IntKind.wrap IntKind.i64 ((↑(List.length (Prod.snd a)) : Int) + (↑(List.length (Prod.snd b)) : Int)) * (↑(4 : Nat) : Int) ≤ (140737488355328 : Int)) && decide (IntKind.wrap IntKind.i64 ((↑(List.length (Prod.snd a)) : Int) + (↑(List.length (Prod.snd b)) : Int)) ≤ (140737488355328 : Int)))) fun y =>
  bnd (iter (fun s ↦ W.whole_Int_Mul.c100003 (Prod.snd a) (↑(List.length (Prod.snd a)) : Int) (Prod.fst s) (Prod.snd b) (Prod.snd s) some) ((0 : Int), List.replicate (Int.toNat (IntKind.wrap IntKind.i64 ((↑(List.length (Prod.snd a)) : Int) + (↑(List.length (Prod.snd b)) : Int)))) (0 : Int))) fun y_1 =>
  bnd (W.whole_made (!Prod.fst a == Prod.fst b) (Prod.snd y_1)) fun y_2 =>
  some (Prod.fst y_2, Prod.snd y_2)
def whole_Int_Mul.ce : Go.Ql.Callee := ⟨[(.st (.pair .bool (.sl (.int .u32)))), (.st (.pair .bool (.sl (.int .u32))))], [(.st (.pair .bool (.sl (.int .u32))))], fun x_ => whole_Int_Mul x_.1 x_.2⟩
def whole_Int_Mul.G : Env := ⟨77, tab, [(36, whole_made.ce)], [0, 1, 2, 3, 4, 5, 6, 7, 8, 9, 10, 20, 21, 22, 23, 28, 29, 30, 31], [18], [], [(100003, whole_Int_Mul.c100003r), (100007, whole_Int_Mul.c100007r)], [], tab_eqs, []⟩
theorem whole_Int_Mul.eq (x_ : dens whole_Int_Mul.ce.params) : den whole_Int_Mul.G Tryd.f25 whole_Int_Mul.ce.params whole_Int_Mul.ce.res x_ = whole_Int_Mul.ce.F x_ := by kernel_rfl
theorem whole_Int_Mul.p0 : PcA whole_Int_Mul.G Tryd.f25 0 :=
  loop_ok (s := whole_Int_Mul.c100003r) (by kernel_rfl) (by kernel_rfl) (loops_of (sh := whole_Int_Mul.c100003s) (I := fun x_ s_ => (x_.1, x_.2.1, x_.2.2.1, x_.2.2.2.1, s_.1, x_.2.2.2.2.2.1, x_.2.2.2.2.2.2.1, x_.2.2.2.2.2.2.2.1, x_.2.2.2.2.2.2.2.2.1, x_.2.2.2.2.2.2.2.2.2.1, x_.2.2.2.2.2.2.2.2.2.2.1, s_.2, ())) (fun x_ => rfl) (fun ρ x_ s_ k_ => (nat_br (nat_bnd fun _ => (nat_bnd fun _ => (nat_bnd fun _ => (nat_bnd fun _ => nat_leaf)))) nat_leaf)) (fun ρ x_ t k => (by kernel_rfl)) (fun x_ s => by kernel_rfl))
theorem whole_Int_Mul.p1 : PcA whole_Int_Mul.G Tryd.f25 1 :=
  loop_ok (s := whole_Int_Mul.c100007r) (by kernel_rfl) (by kernel_rfl) (loops_of (sh := whole_Int_Mul.c100007s) (I := fun x_ s_ => (x_.1, x_.2.1, x_.2.2.1, x_.2.2.2.1, s_.1, x_.2.2.2.2.2.1, x_.2.2.2.2.2.2.1, x_.2.2.2.2.2.2.2.1, x_.2.2.2.2.2.2.2.2.1, x_.2.2.2.2.2.2.2.2.2.1, s_.2.1, x_.2.2.2.2.2.2.2.2.2.2.2.1, x_.2.2.2.2.2.2.2.2.2.2.2.2.1, x_.2.2.2.2.2.2.2.2.2.2.2.2.2.1, x_.2.2.2.2.2.2.2.2.2.2.2.2.2.2.1, x_.2.2.2.2.2.2.2.2.2.2.2.2.2.2.2.1, x_.2.2.2.2.2.2.2.2.2.2.2.2.2.2.2.2.1, s_.2.2, ())) (fun x_ => rfl) (fun ρ x_ s_ k_ => (nat_br (nat_bnd fun _ => (nat_bnd fun _ => (nat_bnd fun _ => (nat_bnd fun _ => (nat_bnd fun _ => nat_leaf))))) nat_leaf)) (fun ρ x_ t k => (by kernel_rfl)) (fun x_ s => by kernel_rfl))
theorem whole_Int_Mul.ok : CalleeOk Tryd.prog 25 whole_Int_Mul.ce := fn_ok (G := whole_Int_Mul.G) tab_ok mixed Tryd.func25 ⟨(fns_cons whole_made.ok fns_nil), mfns_nil, tab_eqs_ok, alts_nil⟩ (m := 2) (by kernel_rfl) ⟨⟨trivial, whole_Int_Mul.p0⟩, whole_Int_Mul.p1⟩ (by kernel_rfl) whole_Int_Mul.eq
abbrev nb33 : SD := .one (.fptr (.st (.pair (.ar 8 (.st (.pair .bool (.sl (.int .u32))))) (.int .i64))))
abbrev nb34 : SD := .one (.aptr 5 0)
abbrev nb35 : SD := .one (.ref 7 0)
abbrev nb36 : SD := .one (.ref 10 0)
def ring_Num_Mul.c240965 {ρ : Type} (i : Int) (j : Int) (z0 : Bool) (z1 : List (Int)) (k_ : (Bool) × (List Int) → Option ρ) : Option ρ :=
  br (decide (IntKind.wrap IntKind.i64 (i + j) ≥ (8 : Int)))
   (bnd (W.whole_Int_Neg (z0, z1)) fun y =>
    k_ ((Prod.fst y), (Prod.snd y)))
   (k_ (z0, z1))
def ring_Num_Mul.c240965s : Shape := ⟨[(0, nb30), (1, nb30), (2, nb33), (3, nb33), (4, nb25), (5, nb34), (6, nb3), (7, nb35), (8, nb3), (9, nb29), (10, nb36), (12, nb23), (13, nb3), (21, nb23), (22, nb3)], [(4, nb26), (5, nb22), (7, nb4), (9, nb4), (10, nb4)]⟩
def ring_Num_Mul.c240965x0 : Shape := ring_Num_Mul.c240965s
def ring_Num_Mul.c240965r : Ck := Ck.of (T := (Bool) × (List Int)) ring_Num_Mul.c240965s (fun ρ x_ k_ => ring_Num_Mul.c240965 x_.2.2.2.2.1 x_.2.2.2.2.2.1 x_.2.2.2.2.2.2.2.2.2.2.2.2.2.2.2.2.1 x_.2.2.2.2.2.2.2.2.2.2.2.2.2.2.2.2.2.1 k_) (fun ρ x_ r_ k_ => k_ 0 (Shape.inj ring_Num_Mul.c240965x0 (x_.1, x_.2.1, x_.2.2.1, x_.2.2.2.1, x_.2.2.2.2.1, x_.2.2.2.2.2.1, x_.2.2.2.2.2.2.1, x_.2.2.2.2.2.2.2.1, x_.2.2.2.2.2.2.2.2.1, x_.2.2.2.2.2.2.2.2.2.1, x_.2.2.2.2.2.2.2.2.2.2.1, x_.2.2.2.2.2.2.2.2.2.2.2.1, x_.2.2.2.2.2.2.2.2.2.2.2.2.1, x_.2.2.2.2.2.2.2.2.2.2.2.2.2.1, x_.2.2.2.2.2.2.2.2.2.2.2.2.2.2.1, x_.2.2.2.2.2.2.2.2.2.2.2.2.2.2.2.1, r_.1, r_.2, ())))
def ring_Num_Mul.c12 {ρ : Type} (i : Int) (j : Int) (out : List ((Bool) × (List Int))) (z0 : Bool) (z1 : List (Int)) (k_ : List ((Bool) × (List Int)) → Option ρ) : Option ρ :=
  bnd (okIf (decide ((0 : Ty.den (Ty.int IntKind.i64)) ≤ ibits BinOp.and IntKind.i64 (IntKind.wrap IntKind.i64 (i + j)) (7 : Int)) && decide (ibits BinOp.and IntKind.i64 (IntKind.wrap IntKind.i64 (i + j)) (7 : Int) < (↑(8 : Nat) : Int)))) fun y =>
  bnd (inR (List.length out) (ibits BinOp.and IntKind.i64 (IntKind.wrap IntKind.i64 (i + j)) (7 : Int))) fun y_1 =>
  bnd (idx out (ibits BinOp.and IntKind.i64 (IntKind.wrap IntKind.i64 (i + j)) (7 : Int))) fun y_2 =>
  bnd (W.whole_Int_Add y_2 (z0, z1)) fun y_3 =>
  bnd (okIf (decide ((0 : Ty.den (Ty.int IntKind.i64)) ≤ ibits BinOp.and IntKind.i64 (IntKind.wrap IntKind.i64 (i + j)) (7 : Int)) && decide (ibits BinOp.and IntKind.i64 (IntKind.wrap IntKind.i64 (i + j)) (7 : Int) < (↑(8 : Nat) : Int)))) fun y_4 =>
  bnd (inR (List.length out) (ibits BinOp.and IntKind.i64 (IntKind.wrap IntKind.i64 (i + j)) (7 : Int))) fun y_5 =>
  bnd (idx out (ibits BinOp.and IntKind.i64 (IntKind.wrap IntKind.i64 (i + j)) (7 : Int))) fun y_6 =>
  k_ (List.set out (Int.toNat (ibits BinOp.and IntKind.i64 (IntKind.wrap IntKind.i64 (i + j)) (7 : Int))) y_3)
def ring_Num_Mul.c12s : Shape := ring_Num_Mul.c240965s
def ring_Num_Mul.c12x0 : Shape := ring_Num_Mul.c240965s
def ring_Num_Mul.c12r : Ck := Ck.of (T := List ((Bool) × (List Int))) ring_Num_Mul.c12s (fun ρ x_ k_ => ring_Num_Mul.c12 x_.2.2.2.2.1 x_.2.2.2.2.2.1 x_.2.2.2.2.2.2.2.2.2.2.2.1 x_.2.2.2.2.2.2.2.2.2.2.2.2.2.2.2.2.1 x_.2.2.2.2.2.2.2.2.2.2.2.2.2.2.2.2.2.1 k_) (fun ρ x_ r_ k_ => k_ 0 (Shape.inj ring_Num_Mul.c12x0 (x_.1, x_.2.1, x_.2.2.1, x_.2.2.2.1, x_.2.2.2.2.1, x_.2.2.2.2.2.1, x_.2.2.2.2.2.2.1, x_.2.2.2.2.2.2.2.1, x_.2.2.2.2.2.2.2.2.1, x_.2.2.2.2.2.2.2.2.2.1, x_.2.2.2.2.2.2.2.2.2.2.1, r_, x_.2.2.2.2.2.2.2.2.2.2.2.2)))
def ring_Num_Mul.c100007 {ρ : Type} (i : Int) (t21 : List ((Bool) × (List Int))) (t22 : Int) (out : List ((Bool) × (List Int))) (x0 : Bool) (x1 : List (Int)) (k_ : ((Int) × (List ((Bool) × (List Int)))) ⊕ ((Int) × (List ((Bool) × (List Int)))) → Option ρ) : Option ρ :=
  br (decide (t22 < (8 : Int)))
   (bnd (idx t21 t22) fun y =>
    bnd (W.whole_Int_Mul (x0, x1) (Prod.fst y, Prod.snd y)) fun y_1 =>
    bnd (W.ring_Num_Mul.c240965 i t22 (Prod.fst y_1) (Prod.snd y_1) some) fun y_2 =>
    bnd (W.ring_Num_Mul.c12 i t22 out (Prod.fst y_2) (Prod.snd y_2) some) fun y_3 =>
    k_ (.inl ((IntKind.wrap IntKind.i64 (t22 + (1 : Int))), y_3)))
   (k_ (.inr (t22, out)))
def ring_Num_Mul.c100007s : Shape := ⟨[(0, nb30), (1, nb30), (2, nb33), (3, nb33), (4, nb25), (5, nb34), (6, nb3), (7, nb35), (12, nb23), (13, nb3), (21, nb23), (22, nb3)], [(4, nb26), (5, nb22), (7, nb4)]⟩
def ring_Num_Mul.c100007x0 : Shape := ring_Num_Mul.c100007s
def ring_Num_Mul.c100007r : Ck := Ck.ofLoop (S := (Int) × (List ((Bool) × (List Int)))) (T := (Int) × (List ((Bool) × (List Int)))) ring_Num_Mul.c100007s (fun x_ => (x_.2.2.2.2.2.2.2.2.1, x_.2.2.2.2.2.2.2.2.2.2.1)) (fun ρ x_ s_ k_ => ring_Num_Mul.c100007 x_.2.2.2.2.1 x_.2.2.2.2.2.2.2.1 s_.1 s_.2 x_.2.2.2.2.2.2.2.2.2.2.2.1 x_.2.2.2.2.2.2.2.2.2.2.2.2.1 k_) (fun ρ x_ r_ k_ => k_ 4 (Shape.inj ring_Num_Mul.c100007x0 (x_.1, x_.2.1, x_.2.2.1, x_.2.2.2.1, x_.2.2.2.2.1, x_.2.2.2.2.2.1, x_.2.2.2.2.2.2.1, x_.2.2.2.2.2.2.2.1, r_.1, x_.2.2.2.2.2.2.2.2.2.1, r_.2, x_.2.2.2.2.2.2.2.2.2.2.2)))
def ring_Num_Mul.c216417 {ρ : Type} (b_1 : (List ((Bool) × (List Int))) × (Int)) (t12 : List ((Bool) × (List Int))) (t13 : Int) (out : List ((Bool) × (List Int))) (k_ : List ((Bool) × (List Int)) → Option ρ) : Option ρ :=
  bnd (idx t12 t13) fun y =>
  bnd (W.whole_Int_Sign (Prod.fst y, Prod.snd y)) fun y_1 =>
  br (y_1 == (0 : Int))
   (k_ out)
   (bnd (iter (fun s ↦ W.ring_Num_Mul.c100007 t13 (Prod.fst b_1) (Prod.fst s) (Prod.snd s) (Prod.fst y) (Prod.snd y) some) ((0 : Int), out)) fun y_2 =>
    k_ (Prod.snd y_2))
def ring_Num_Mul.c216417s : Shape := ⟨[(0, nb30), (1, nb30), (2, nb33), (3, nb33), (4, nb25), (5, nb34), (12, nb23), (13, nb3)], [(4, nb26), (5, nb22)]⟩
def ring_Num_Mul.c216417x0 : Shape := ring_Num_Mul.c216417s
def ring_Num_Mul.c216417r : Ck := Ck.of (T := List ((Bool) × (List Int))) ring_Num_Mul.c216417s (fun ρ x_ k_ => ring_Num_Mul.c216417 x_.2.2.2.1 x_.2.2.2.2.1 x_.2.2.2.2.2.1 x_.2.2.2.2.2.2.2.1 k_) (fun ρ x_ r_ k_ => k_ 0 (Shape.inj ring_Num_Mul.c216417x0 (x_.1, x_.2.1, x_.2.2.1, x_.2.2.2.1, x_.2.2.2.2.1, x_.2.2.2.2.2.1, x_.2.2.2.2.2.2.1, r_, ())))
def ring_Num_Mul.c100003 {ρ : Type} (b_1 : (List ((Bool) × (List Int))) × (Int)) (t12 : List ((Bool) × (List Int))) (t13 : Int) (out : List ((Bool) × (List Int))) (k_ : ((Int) × (List ((Bool) × (List Int)))) ⊕ ((Int) × (List ((Bool) × (List Int)))) → Option ρ) : Option ρ :=
  br (decide (t13 < (8 : Int)))
   (bnd (W.ring_Num_Mul.c216417 b_1 t12 t13 out some) fun y =>
    k_ (.inl ((IntKind.wrap IntKind.i64 (t13 + (1 : Int))), y)))
   (k_ (.inr (t13, out)))
def ring_Num_Mul.c100003s : Shape := ring_Num_Mul.c216417s
def ring_Num_Mul.c100003x0 : Shape := ring_Num_Mul.c216417s
def ring_Num_Mul.c100003r : Ck := Ck.ofLoop (S := (Int) × (List ((Bool) × (List Int)))) (T := (Int) × (List ((Bool) × (List Int)))) ring_Num_Mul.c100003s (fun x_ => (x_.2.2.2.2.2.1, x_.2.2.2.2.2.2.2.1)) (fun ρ x_ s_ k_ => ring_Num_Mul.c100003 x_.2.2.2.1 x_.2.2.2.2.1 s_.1 s_.2 k_) (fun ρ x_ r_ k_ => k_ 2 (Shape.inj ring_Num_Mul.c100003x0 (x_.1, x_.2.1, x_.2.2.1, x_.2.2.2.1, x_.2.2.2.2.1, r_.1, x_.2.2.2.2.2.2.1, r_.2, ())))
def ring_Num_Mul (a : (List ((Bool) × (List Int))) × (Int)) (b : (List ((Bool) × (List Int))) × (Int)) : Option ((List ((Bool) × (List Int))) × (Int)) :=
  bnd (iter (fun s ↦ W.ring_Num_Mul.c100003 b (Prod.fst a) (Prod.fst s) (Prod.snd s) some) ((0 : Int), List.replicate (8 : Nat) (false, []))) fun y =>
  bnd (okIf (decide (List.length (Prod.snd y) = (8 : Nat)))) fun y_1 =>
  bnd (W.ring_least (Prod.snd y) (IntKind.wrap IntKind.i64 (Prod.snd a + Prod.snd b))) fun y_2 =>
  some y_2
def ring_Num_Mul.ce : Go.Ql.Callee := ⟨[(.st (.pair (.ar 8 (.st (.pair .bool (.sl (.int .u32))))) (.int .i64))), (.st (.pair (.ar 8 (.st (.pair .bool (.sl (.int .u32))))) (.int .i64)))], [(.st (.pair (.ar 8 (.st (.pair .bool (.sl (.int .u32))))) (.int .i64)))], fun x_ => ring_Num_Mul x_.1 x_.2⟩
def ring_Num_Mul.G : Env := ⟨57, tab, [(24, whole_Int_Sign.ce), (25, whole_Int_Mul.ce), (20, whole_Int_Neg.ce), (21, whole_Int_Add.ce), (22, ring_least.ce)], [0, 1, 2, 3, 4, 5, 6, 7, 8, 9, 10, 12, 13, 14, 19, 21, 22, 23, 32], [4, 5, 8000002, 8000003], [(12, [⟨[], [], [36, 39, 40, 41, 42, 43, 44, 45, 46], []⟩, ⟨[], [], [35, 39, 40, 41, 42, 43, 44, 45, 46], []⟩, ⟨[0, 1], [], [39, 40, 41, 42, 43, 44, 45, 46], []⟩, ⟨[2, 0, 1], [], [39, 40, 41, 42, 43, 44, 45, 46], []⟩, ⟨[], [], [35, 36, 37, 38, 40, 45], []⟩, ⟨[], [], [35, 36, 37, 38, 39, 45], []⟩, ⟨[4, 5], [], [35, 36, 37, 38, 45], []⟩, ⟨[6, 4, 5], [], [35, 36, 37, 38, 45], []⟩, ⟨[7, 6, 4, 5], [], [35, 36, 37, 38, 45], []⟩, ⟨[8, 7, 6, 4, 5], [], [35, 36, 37, 38, 45], []⟩, ⟨[], [], [35, 36, 37, 38, 39, 40, 41, 42, 43, 44], []⟩, ⟨[9, 8, 7, 6, 4, 5, 10], [], [35, 36, 37, 38], []⟩, ⟨[3, 2, 0, 1, 4, 5, 6, 7, 8, 9, 10, 11], [], [], []⟩, ⟨[12, 3, 2, 0, 1, 4, 5, 6, 7, 8, 9, 10, 11], [5], [], []⟩])], [(100003, ring_Num_Mul.c100003r), (216417, ring_Num_Mul.c216417r), (100007, ring_Num_Mul.c100007r), (12, ring_Num_Mul.c12r), (240965, ring_Num_Mul.c240965r)], [], tab_eqs, []⟩
theorem ring_Num_Mul.eq (x_ : dens ring_Num_Mul.ce.params) : den ring_Num_Mul.G Tryd.f7 ring_Num_Mul.ce.params ring_Num_Mul.ce.res x_ = ring_Num_Mul.ce.F x_ := by kernel_rfl
theorem ring_Num_Mul.p0 : PcA ring_Num_Mul.G Tryd.f7 0 :=
  loop_ok (s := ring_Num_Mul.c100003r) (by kernel_rfl) (by kernel_rfl) (loops_of (sh := ring_Num_Mul.c100003s) (I := fun x_ s_ => (x_.1, x_.2.1, x_.2.2.1, x_.2.2.2.1, x_.2.2.2.2.1, s_.1, x_.2.2.2.2.2.2.1, s_.2, ())) (fun x_ => rfl) (fun ρ x_ s_ k_ => (nat_br (nat_bnd fun _ => nat_leaf) nat_leaf)) (fun ρ x_ t k => (by kernel_rfl)) (fun x_ s => by kernel_rfl))
theorem ring_Num_Mul.p1 : PcA ring_Num_Mul.G Tryd.f7 1 :=
  join_ok (s := ring_Num_Mul.c216417r) (by kernel_rfl) (by kernel_rfl) (sums_of (sh := ring_Num_Mul.c216417s) (fun ρ x_ k_ => (nat_bnd fun _ => (nat_bnd fun _ => (nat_br nat_leaf (nat_bnd fun _ => nat_leaf))))) (fun ρ x_ t k => (by kernel_rfl)) (fun x_ => by kernel_rfl))
theorem ring_Num_Mul.p2 : PcA ring_Num_Mul.G Tryd.f7 2 :=
  loop_ok (s := ring_Num_Mul.c100007r) (by kernel_rfl) (by kernel_rfl) (loops_of (sh := ring_Num_Mul.c100007s) (I := fun x_ s_ => (x_.1, x_.2.1, x_.2.2.1, x_.2.2.2.1, x_.2.2.2.2.1, x_.2.2.2.2.2.1, x_.2.2.2.2.2.2.1, x_.2.2.2.2.2.2.2.1, s_.1, x_.2.2.2.2.2.2.2.2.2.1, s_.2, x_.2.2.2.2.2.2.2.2.2.2.2)) (fun x_ => rfl) (fun ρ x_ s_ k_ => (nat_br (nat_bnd fun _ => (nat_bnd fun _ => (nat_bnd fun _ => (nat_bnd fun _ => nat_leaf)))) nat_leaf)) (fun ρ x_ t k => (by kernel_rfl)) (fun x_ s => by kernel_rfl))
theorem ring_Num_Mul.p3 : PcA ring_Num_Mul.G Tryd.f7 3 :=
  join_ok (s := ring_Num_Mul.c240965r) (by kernel_rfl) (by kernel_rfl) (sums_of (sh := ring_Num_Mul.c240965s) (fun ρ x_ k_ => (nat_br (nat_bnd fun _ => nat_leaf) nat_leaf)) (fun ρ x_ t k => (by kernel_rfl)) (fun x_ => by kernel_rfl))
theorem ring_Num_Mul.p4 : PcA ring_Num_Mul.G Tryd.f7 4 :=
  region_ok (s := ring_Num_Mul.c12r) (by kernel_rfl) (by kernel_rfl) (sums_of (sh := ring_Num_Mul.c12s) (fun ρ x_ k_ => (nat_bnd fun _ => (nat_bnd fun _ => (nat_bnd fun _ => (nat_bnd fun _ => (nat_bnd fun _ => (nat_bnd fun _ => (nat_bnd fun _ => nat_leaf)))))))) (fun ρ x_ t k => (by kernel_rfl)) (fun x_ => by kernel_rfl))
theorem ring_Num_Mul.ok : CalleeOk Tryd.prog 7 ring_Num_Mul.ce := fn_ok (G := ring_Num_Mul.G) tab_ok mixed Tryd.func7 ⟨(fns_cons whole_Int_Sign.ok (fns_cons whole_Int_Mul.ok (fns_cons whole_Int_Neg.ok (fns_cons whole_Int_Add.ok (fns_cons ring_least.ok fns_nil))))), mfns_nil, tab_eqs_ok, alts_nil⟩ (m := 5) (by kernel_rfl) ⟨⟨⟨⟨⟨trivial, ring_Num_Mul.p0⟩, ring_Num_Mul.p1⟩, ring_Num_Mul.p2⟩, ring_Num_Mul.p3⟩, ring_Num_Mul.p4⟩ (by kernel_rfl) ring_Num_Mul.eq
def ring_Num_Turn.c224581 {ρ : Type} (t1 : Int) (i : Int) (x0 : Bool) (x1 : List (Int)) (k_ : (Bool) × (List Int) → Option ρ) : Option ρ :=
  br (ibits BinOp.and IntKind.i64 (IntKind.wrap IntKind.i64 (i + t1)) (8 : Int) != (0 : Int))
   (bnd (W.whole_Int_Neg (x0, x1)) fun y =>
    k_ ((Prod.fst y), (Prod.snd y)))
   (k_ (x0, x1))
def ring_Num_Turn.c224581s : Shape := ⟨[(0, nb30), (1, nb3), (2, nb33), (4, nb25), (5, nb34), (6, nb3), (7, nb35), (14, nb23), (15, nb3)], [(4, nb26), (5, nb26), (7, nb4)]⟩
def ring_Num_Turn.c224581x0 : Shape := ring_Num_Turn.c224581s
def ring_Num_Turn.c224581r : Ck := Ck.of (T := (Bool) × (List Int)) ring_Num_Turn.c224581s (fun ρ x_ k_ => ring_Num_Turn.c224581 x_.2.1 x_.2.2.2.1 x_.2.2.2.2.2.2.2.2.1 x_.2.2.2.2.2.2.2.2.2.1 k_) (fun ρ x_ r_ k_ => k_ 0 (Shape.inj ring_Num_Turn.c224581x0 (x_.1, x_.2.1, x_.2.2.1, x_.2.2.2.1, x_.2.2.2.2.1, x_.2.2.2.2.2.1, x_.2.2.2.2.2.2.1, x_.2.2.2.2.2.2.2.1, r_.1, r_.2, ())))
def ring_Num_Turn.c100004 {ρ : Type} (t1 : Int) (t14 : List ((Bool) × (List Int))) (t15 : Int) (out : List ((List ((Bool) × (List Int))) × (Int))) (k_ : ((Int) × (List ((List ((Bool) × (List Int))) × (Int)))) ⊕ ((Int) × (List ((List ((Bool) × (List Int))) × (Int)))) → Option ρ) : Option ρ :=
  br (decide (t15 < (8 : Int)))
   (bnd (idx t14 t15) fun y =>
    bnd (W.ring_Num_Turn.c224581 t1 t15 (Prod.fst y) (Prod.snd y) some) fun y_1 =>
    bnd (inR (List.length out) (0 : Int)) fun y_2 =>
    bnd (okIf (decide ((0 : Ty.den (Ty.int IntKind.i64)) ≤ ibits BinOp.and IntKind.i64 (IntKind.wrap IntKind.i64 (t15 + t1)) (7 : Int)) && decide (ibits BinOp.and IntKind.i64 (IntKind.wrap IntKind.i64 (t15 + t1)) (7 : Int) < (↑(8 : Nat) : Int)))) fun y_3 =>
    bnd (idx out (0 : Int)) fun y_4 =>
    bnd (idx (Prod.fst y_4) (ibits BinOp.and IntKind.i64 (IntKind.wrap IntKind.i64 (t15 + t1)) (7 : Int))) fun y_5 =>
    k_ (.inl ((IntKind.wrap IntKind.i64 (t15 + (1 : Int))), (List.set out (0 : Nat) (List.set (Prod.fst y_4) (Int.toNat (ibits BinOp.and IntKind.i64 (IntKind.wrap IntKind.i64 (t15 + t1)) (7 : Int))) (Prod.fst y_1, Prod.snd y_1), Prod.snd y_4)))))
   (k_ (.inr (t15, out)))
def ring_Num_Turn.c100004s : Shape := ⟨[(0, nb30), (1, nb3), (2, nb33), (4, nb25), (5, nb34), (14, nb23), (15, nb3)], [(4, nb26), (5, nb26)]⟩
def ring_Num_Turn.c100004x0 : Shape := ring_Num_Turn.c100004s
def ring_Num_Turn.c100004r : Ck := Ck.ofLoop (S := (Int) × (List ((List ((Bool) × (List Int))) × (Int)))) (T := (Int) × (List ((List ((Bool) × (List Int))) × (Int)))) ring_Num_Turn.c100004s (fun x_ => (x_.2.2.2.2.1, x_.2.2.2.2.2.2.1)) (fun ρ x_ s_ k_ => ring_Num_Turn.c100004 x_.2.1 x_.2.2.2.1 s_.1 s_.2 k_) (fun ρ x_ r_ k_ => k_ 2 (Shape.inj ring_Num_Turn.c100004x0 (x_.1, x_.2.1, x_.2.2.1, x_.2.2.2.1, r_.1, x_.2.2.2.2.2.1, r_.2, ())))
def ring_Num_Turn (a : (List ((Bool) × (List Int))) × (Int)) (t1 : Int) : Option ((List ((Bool) × (List Int))) × (Int)) :=
  bnd (iter (fun s ↦ W.ring_Num_Turn.c100004 (ibits BinOp.and IntKind.i64 t1 (15 : Int)) (Prod.fst a) (Prod.fst s) (Prod.snd s) some) ((0 : Int), [(List.replicate (8 : Nat) (false, []), Prod.snd a)])) fun y =>
  bnd (idx (Prod.snd y) (0 : Int)) fun y_1 =>
  some y_1
def ring_Num_Turn.ce : Go.Ql.Callee := ⟨[(.st (.pair (.ar 8 (.st (.pair .bool (.sl (.int .u32))))) (.int .i64))), (.int .i64)], [(.st (.pair (.ar 8 (.st (.pair .bool (.sl (.int .u32))))) (.int .i64)))], fun x_ => ring_Num_Turn x_.1 x_.2⟩
def ring_Num_Turn.G : Env := ⟨35, tab, [(20, whole_Int_Neg.ce)], [0, 1, 2, 4, 5, 6, 7, 14, 15, 16, 23], [4, 5, 12, 8000002], [], [(100004, ring_Num_Turn.c100004r), (224581, ring_Num_Turn.c224581r)], [], tab_eqs, []⟩
theorem ring_Num_Turn.eq (x_ : dens ring_Num_Turn.ce.params) : den ring_Num_Turn.G Tryd.f13 ring_Num_Turn.ce.params ring_Num_Turn.ce.res x_ = ring_Num_Turn.ce.F x_ := by kernel_rfl
theorem ring_Num_Turn.p0 : PcA ring_Num_Turn.G Tryd.f13 0 :=
  loop_ok (s := ring_Num_Turn.c100004r) (by kernel_rfl) (by kernel_rfl) (loops_of (sh := ring_Num_Turn.c100004s) (I := fun x_ s_ => (x_.1, x_.2.1, x_.2.2.1, x_.2.2.2.1, s_.1, x_.2.2.2.2.2.1, s_.2, ())) (fun x_ => rfl) (fun ρ x_ s_ k_ => (nat_br (nat_bnd fun _ => (nat_bnd fun _ => (nat_bnd fun _ => (nat_bnd fun _ => (nat_bnd fun _ => (nat_bnd fun _ => nat_leaf)))))) nat_leaf)) (fun ρ x_ t k => (by kernel_rfl)) (fun x_ s => by kernel_rfl))
theorem ring_Num_Turn.p1 : PcA ring_Num_Turn.G Tryd.f13 1 :=
  join_ok (s := ring_Num_Turn.c224581r) (by kernel_rfl) (by kernel_rfl) (sums_of (sh := ring_Num_Turn.c224581s) (fun ρ x_ k_ => (nat_br (nat_bnd fun _ => nat_leaf) nat_leaf)) (fun ρ x_ t k => (by kernel_rfl)) (fun x_ => by kernel_rfl))
theorem ring_Num_Turn.ok : CalleeOk Tryd.prog 13 ring_Num_Turn.ce := fn_ok (G := ring_Num_Turn.G) tab_ok mixed Tryd.func13 ⟨(fns_cons whole_Int_Neg.ok fns_nil), mfns_nil, tab_eqs_ok, alts_nil⟩ (m := 2) (by kernel_rfl) ⟨⟨trivial, ring_Num_Turn.p0⟩, ring_Num_Turn.p1⟩ (by kernel_rfl) ring_Num_Turn.eq
def ring_Num_Neg (a : (List ((Bool) × (List Int))) × (Int)) : Option ((List ((Bool) × (List Int))) × (Int)) :=
  bnd (W.ring_Num_Turn a (8 : Int)) fun y =>
  some y
def ring_Num_Neg.ce : Go.Ql.Callee := ⟨[(.st (.pair (.ar 8 (.st (.pair .bool (.sl (.int .u32))))) (.int .i64)))], [(.st (.pair (.ar 8 (.st (.pair .bool (.sl (.int .u32))))) (.int .i64)))], fun x_ => ring_Num_Neg x_⟩
def ring_Num_Neg.G : Env := ⟨5, tab, [(13, ring_Num_Turn.ce)], [0, 1, 2], [2, 8000001], [], [], [], tab_eqs, []⟩
theorem ring_Num_Neg.eq (x_ : dens ring_Num_Neg.ce.params) : den ring_Num_Neg.G Tryd.f27 ring_Num_Neg.ce.params ring_Num_Neg.ce.res x_ = ring_Num_Neg.ce.F x_ := by kernel_rfl
theorem ring_Num_Neg.ok : CalleeOk Tryd.prog 27 ring_Num_Neg.ce := fn_ok (G := ring_Num_Neg.G) tab_ok mixed Tryd.func27 ⟨(fns_cons ring_Num_Turn.ok fns_nil), mfns_nil, tab_eqs_ok, alts_nil⟩ (m := 0) (by kernel_rfl) trivial (by kernel_rfl) ring_Num_Neg.eq
def ring_Num_Sub.c1 {ρ : Type} (a_1 : (List ((Bool) × (List Int))) × (Int)) (b_1 : (List ((Bool) × (List Int))) × (Int)) (t4 : List ((List ((Bool) × (List Int))) × (Int))) (k_ : List ((List ((Bool) × (List Int))) × (Int)) → Option ρ) : Option ρ :=
  bnd (W.ring_Num_Neg b_1) fun y =>
  bnd (W.ring_Num_Add a_1 y) fun y_1 =>
  bnd (idx t4 (0 : Int)) fun y_2 =>
  k_ (List.set t4 (0 : Nat) y_1)
def ring_Num_Sub.c1s : Shape := ⟨[(0, nb30), (1, nb30), (2, nb33), (3, nb33), (4, nb25)], [(4, nb26)]⟩
def ring_Num_Sub.c1x0 : Shape := ring_Num_Sub.c1s
def ring_Num_Sub.c1r : Ck := Ck.of (T := List ((List ((Bool) × (List Int))) × (Int))) ring_Num_Sub.c1s (fun ρ x_ k_ => ring_Num_Sub.c1 x_.2.2.1 x_.2.2.2.1 x_.2.2.2.2.1 k_) (fun ρ x_ r_ k_ => k_ 0 (Shape.inj ring_Num_Sub.c1x0 (x_.1, x_.2.1, x_.2.2.1, x_.2.2.2.1, r_, ())))
def ring_Num_Sub (a : (List ((Bool) × (List Int))) × (Int)) (b : (List ((Bool) × (List Int))) × (Int)) : Option ((List ((Bool) × (List Int))) × (Int)) :=
  bnd (W.ring_Num_Sub.c1 a b [(List.replicate (8 : Nat) (false, []), (0 : Int))] some) fun y =>
  bnd (idx y (0 : Int)) fun y_1 =>
  some y_1
def ring_Num_Sub.ce : Go.Ql.Callee := ⟨[(.st (.pair (.ar 8 (.st (.pair .bool (.sl (.int .u32))))) (.int .i64))), (.st (.pair (.ar 8 (.st (.pair .bool (.sl (.int .u32))))) (.int .i64)))], [(.st (.pair (.ar 8 (.st (.pair .bool (.sl (.int .u32))))) (.int .i64)))], fun x_ => ring_Num_Sub x_.1 x_.2⟩
def ring_Num_Sub.G : Env := ⟨9, tab, [(27, ring_Num_Neg.ce), (6, ring_Num_Add.ce)], [0, 1, 2, 3, 4], [4, 8000002, 8000003], [(1, [⟨[], [], [6, 7], []⟩, ⟨[], [], [5], []⟩, ⟨[1], [], [5], []⟩, ⟨[0, 2, 1], [], [], []⟩, ⟨[3, 0, 2, 1], [4], [], []⟩])], [(1, ring_Num_Sub.c1r)], [], tab_eqs, []⟩
theorem ring_Num_Sub.eq (x_ : dens ring_Num_Sub.ce.params) : den ring_Num_Sub.G Tryd.f9 ring_Num_Sub.ce.params ring_Num_Sub.ce.res x_ = ring_Num_Sub.ce.F x_ := by kernel_rfl
theorem ring_Num_Sub.p0 : PcA ring_Num_Sub.G Tryd.f9 0 :=
  region_ok (s := ring_Num_Sub.c1r) (by kernel_rfl) (by kernel_rfl) (sums_of (sh := ring_Num_Sub.c1s) (fun ρ x_ k_ => (nat_bnd fun _ => (nat_bnd fun _ => (nat_bnd fun _ => nat_leaf)))) (fun ρ x_ t k => (by kernel_rfl)) (fun x_ => by kernel_rfl))
theorem ring_Num_Sub.ok : CalleeOk Tryd.prog 9 ring_Num_Sub.ce := fn_ok (G := ring_Num_Sub.G) tab_ok mixed Tryd.func9 ⟨(fns_cons ring_Num_Neg.ok (fns_cons ring_Num_Add.ok fns_nil)), mfns_nil, tab_eqs_ok, alts_nil⟩ (m := 1) (by kernel_rfl) ⟨trivial, ring_Num_Sub.p0⟩ (by kernel_rfl) ring_Num_Sub.eq
def ring_Num_Conj.c100004 {ρ : Type} (a_1 : (List ((Bool) × (List Int))) × (Int)) (t13 : Int) (out : List ((List ((Bool) × (List Int))) × (Int))) (k_ : ((Int) × (List ((List ((Bool) × (List Int))) × (Int)))) ⊕ ((Int) × (List ((List ((Bool) × (List Int))) × (Int)))) → Option ρ) : Option ρ :=
  br (decide (t13 < (7 : Int)))
   (bnd (idx (Prod.fst a_1) (IntKind.wrap IntKind.i64 (t13 + (1 : Int)))) fun y =>
    bnd (W.whole_Int_Neg y) fun y_1 =>
    bnd (inR (List.length out) (0 : Int)) fun y_2 =>
    bnd (okIf (decide ((0 : Ty.den (Ty.int IntKind.i64)) ≤ IntKind.wrap IntKind.i64 ((7 : Int) - t13)) && decide (IntKind.wrap IntKind.i64 ((7 : Int) - t13) < (↑(8 : Nat) : Int)))) fun y_3 =>
    bnd (idx out (0 : Int)) fun y_4 =>
    bnd (idx (Prod.fst y_4) (IntKind.wrap IntKind.i64 ((7 : Int) - t13))) fun y_5 =>
    k_ (.inl ((IntKind.wrap IntKind.i64 (t13 + (1 : Int))), (List.set out (0 : Nat) (List.set (Prod.fst y_4) (Int.toNat (IntKind.wrap IntKind.i64 ((7 : Int) - t13))) y_1, Prod.snd y_4)))))
   (k_ (.inr (t13, out)))
def ring_Num_Conj.c100004s : Shape := ⟨[(0, nb30), (1, nb33), (2, nb24), (3, nb31), (13, nb3)], [(2, nb26), (3, nb26)]⟩
def ring_Num_Conj.c100004x0 : Shape := ring_Num_Conj.c100004s
def ring_Num_Conj.c100004r : Ck := Ck.ofLoop (S := (Int) × (List ((List ((Bool) × (List Int))) × (Int)))) (T := (Int) × (List ((List ((Bool) × (List Int))) × (Int)))) ring_Num_Conj.c100004s (fun x_ => (x_.2.2.1, x_.2.2.2.2.1)) (fun ρ x_ s_ k_ => ring_Num_Conj.c100004 x_.2.1 s_.1 s_.2 k_) (fun ρ x_ r_ k_ => k_ 2 (Shape.inj ring_Num_Conj.c100004x0 (x_.1, x_.2.1, r_.1, x_.2.2.2.1, r_.2, ())))
def ring_Num_Conj (a : (List ((Bool) × (List Int))) × (Int)) : Option ((List ((Bool) × (List Int))) × (Int)) :=
  bnd (idx (Prod.fst a) (0 : Int)) fun y =>
  bnd (idx (List.replicate (8 : Nat) (false, ([] : List (Ty.den (Ty.int IntKind.u32))))) (0 : Int)) fun y_1 =>
  bnd (iter (fun s ↦ W.ring_Num_Conj.c100004 a (Prod.fst s) (Prod.snd s) some) ((0 : Int), (List.set (List.replicate (8 : Nat) (false, ([] : List (Ty.den (Ty.int IntKind.u32))))) (0 : Nat) y, Prod.snd a) :: ([] : List (Ty.den (Ty.st (Ty.pair (Ty.ar (nat_lit 8) (Ty.st (Ty.pair Ty.bool (Ty.sl (Ty.int IntKind.u32))))) (Ty.int IntKind.i64))))))) fun y_2 =>
  bnd (idx (Prod.snd y_2) (0 : Int)) fun y_3 =>
  some y_3
def ring_Num_Conj.ce : Go.Ql.Callee := ⟨[(.st (.pair (.ar 8 (.st (.pair .bool (.sl (.int .u32))))) (.int .i64)))], [(.st (.pair (.ar 8 (.st (.pair .bool (.sl (.int .u32))))) (.int .i64)))], fun x_ => ring_Num_Conj x_⟩
def ring_Num_Conj.G : Env := ⟨28, tab, [(20, whole_Int_Neg.ce)], [0, 1, 2, 3, 4, 13, 14], [2, 3, 7, 8000001], [], [(100004, ring_Num_Conj.c100004r)], [], tab_eqs, []⟩
theorem ring_Num_Conj.eq (x_ : dens ring_Num_Conj.ce.params) : den ring_Num_Conj.G Tryd.f10 ring_Num_Conj.ce.params ring_Num_Conj.ce.res x_ = ring_Num_Conj.ce.F x_ := by kernel_rfl
theorem ring_Num_Conj.p0 : PcA ring_Num_Conj.G Tryd.f10 0 :=
  loop_ok (s := ring_Num_Conj.c100004r) (by kernel_rfl) (by kernel_rfl) (loops_of (sh := ring_Num_Conj.c100004s) (I := fun x_ s_ => (x_.1, x_.2.1, s_.1, x_.2.2.2.1, s_.2, ())) (fun x_ => rfl) (fun ρ x_ s_ k_ => (nat_br (nat_bnd fun _ => (nat_bnd fun _ => (nat_bnd fun _ => (nat_bnd fun _ => (nat_bnd fun _ => (nat_bnd fun _ => nat_leaf)))))) nat_leaf)) (fun ρ x_ t k => (by kernel_rfl)) (fun x_ s => by kernel_rfl))
theorem ring_Num_Conj.ok : CalleeOk Tryd.prog 10 ring_Num_Conj.ce := fn_ok (G := ring_Num_Conj.G) tab_ok mixed Tryd.func10 ⟨(fns_cons whole_Int_Neg.ok fns_nil), mfns_nil, tab_eqs_ok, alts_nil⟩ (m := 1) (by kernel_rfl) ⟨trivial, ring_Num_Conj.p0⟩ (by kernel_rfl) ring_Num_Conj.eq
def ring_Num_Norm.c1 {ρ : Type} (a_1 : (List ((Bool) × (List Int))) × (Int)) (t2 : List ((List ((Bool) × (List Int))) × (Int))) (k_ : List ((List ((Bool) × (List Int))) × (Int)) → Option ρ) : Option ρ :=
  bnd (W.ring_Num_Conj a_1) fun y =>
  bnd (W.ring_Num_Mul a_1 y) fun y_1 =>
  bnd (idx t2 (0 : Int)) fun y_2 =>
  k_ (List.set t2 (0 : Nat) y_1)
def ring_Num_Norm.c1s : Shape := ⟨[(0, nb30), (1, nb33), (2, nb24)], [(2, nb26)]⟩
def ring_Num_Norm.c1x0 : Shape := ring_Num_Norm.c1s
def ring_Num_Norm.c1r : Ck := Ck.of (T := List ((List ((Bool) × (List Int))) × (Int))) ring_Num_Norm.c1s (fun ρ x_ k_ => ring_Num_Norm.c1 x_.2.1 x_.2.2.1 k_) (fun ρ x_ r_ k_ => k_ 0 (Shape.inj ring_Num_Norm.c1x0 (x_.1, x_.2.1, r_, ())))
def ring_Num_Norm (a : (List ((Bool) × (List Int))) × (Int)) : Option ((List ((Bool) × (List Int))) × (Int)) :=
  bnd (W.ring_Num_Norm.c1 a [(List.replicate (8 : Nat) (false, []), (0 : Int))] some) fun y =>
  bnd (idx y (0 : Int)) fun y_1 =>
  some y_1
def ring_Num_Norm.ce : Go.Ql.Callee := ⟨[(.st (.pair (.ar 8 (.st (.pair .bool (.sl (.int .u32))))) (.int .i64)))], [(.st (.pair (.ar 8 (.st (.pair .bool (.sl (.int .u32))))) (.int .i64)))], fun x_ => ring_Num_Norm x_⟩
def ring_Num_Norm.G : Env := ⟨7, tab, [(10, ring_Num_Conj.ce), (7, ring_Num_Mul.ce)], [0, 1, 2], [2, 8000001], [(1, [⟨[], [], [4, 5], []⟩, ⟨[], [], [3], []⟩, ⟨[1], [], [3], []⟩, ⟨[0, 2, 1], [], [], []⟩, ⟨[3, 0, 2, 1], [2], [], []⟩])], [(1, ring_Num_Norm.c1r)], [], tab_eqs, []⟩
theorem ring_Num_Norm.eq (x_ : dens ring_Num_Norm.ce.params) : den ring_Num_Norm.G Tryd.f11 ring_Num_Norm.ce.params ring_Num_Norm.ce.res x_ = ring_Num_Norm.ce.F x_ := by kernel_rfl
theorem ring_Num_Norm.p0 : PcA ring_Num_Norm.G Tryd.f11 0 :=
  region_ok (s := ring_Num_Norm.c1r) (by kernel_rfl) (by kernel_rfl) (sums_of (sh := ring_Num_Norm.c1s) (fun ρ x_ k_ => (nat_bnd fun _ => (nat_bnd fun _ => (nat_bnd fun _ => nat_leaf)))) (fun ρ x_ t k => (by kernel_rfl)) (fun x_ => by kernel_rfl))
theorem ring_Num_Norm.ok : CalleeOk Tryd.prog 11 ring_Num_Norm.ce := fn_ok (G := ring_Num_Norm.G) tab_ok mixed Tryd.func11 ⟨(fns_cons ring_Num_Conj.ok (fns_cons ring_Num_Mul.ok fns_nil)), mfns_nil, tab_eqs_ok, alts_nil⟩ (m := 1) (by kernel_rfl) ⟨trivial, ring_Num_Norm.p0⟩ (by kernel_rfl) ring_Num_Norm.eq
def ring_Num_Zero.c100002 {ρ : Type} (t6 : List ((Bool) × (List Int))) (t7 : Int) (k_ : (Int) ⊕ ((Int) ⊕ (Int)) → Option ρ) : Option ρ :=
  br (decide (t7 < (8 : Int)))
   (bnd (idx t6 t7) fun y =>
    bnd (W.whole_Int_Sign (Prod.fst y, Prod.snd y)) fun y_1 =>
    br (y_1 != (0 : Int))
     (k_ (.inr (.inl t7)))
     (k_ (.inl (IntKind.wrap IntKind.i64 (t7 + (1 : Int))))))
   (k_ (.inr (.inr t7)))
def ring_Num_Zero.c100002s : Shape := ⟨[(0, nb30), (1, nb33), (2, nb0), (6, nb23), (7, nb3)], []⟩
def ring_Num_Zero.c100002x0 : Shape := ring_Num_Zero.c100002s
def ring_Num_Zero.c100002x1 : Shape := ring_Num_Zero.c100002s
def ring_Num_Zero.c100002r : Ck := Ck.ofLoop (S := Int) (T := (Int) ⊕ (Int)) ring_Num_Zero.c100002s (fun x_ => x_.2.2.2.2.1) (fun ρ x_ s_ k_ => ring_Num_Zero.c100002 x_.2.2.2.1 s_ k_) (fun ρ x_ r_ k_ => sel r_ (fun r_ => k_ 1 (Shape.inj ring_Num_Zero.c100002x0 (x_.1, x_.2.1, false, x_.2.2.2.1, r_, ()))) (fun r_ => k_ 2 (Shape.inj ring_Num_Zero.c100002x1 (x_.1, x_.2.1, x_.2.2.1, x_.2.2.2.1, r_, ()))))
def ring_Num_Zero (a : (List ((Bool) × (List Int))) × (Int)) : Option (Bool) :=
  bnd (iter (fun s ↦ W.ring_Num_Zero.c100002 (Prod.fst a) s some) (0 : Int)) fun y =>
  sel y
   (fun u => some false)
   (fun v => some true)
def ring_Num_Zero.ce : Go.Ql.Callee := ⟨[(.st (.pair (.ar 8 (.st (.pair .bool (.sl (.int .u32))))) (.int .i64)))], [.bool], fun x_ => ring_Num_Zero x_⟩
def ring_Num_Zero.G : Env := ⟨14, tab, [(24, whole_Int_Sign.ce)], [0, 1, 2, 4, 6, 7, 8, 12], [8000001], [], [(100002, ring_Num_Zero.c100002r)], [], tab_eqs, []⟩
theorem ring_Num_Zero.eq (x_ : dens ring_Num_Zero.ce.params) : den ring_Num_Zero.G Tryd.f12 ring_Num_Zero.ce.params ring_Num_Zero.ce.res x_ = ring_Num_Zero.ce.F x_ := by kernel_rfl
theorem ring_Num_Zero.p0 : PcA ring_Num_Zero.G Tryd.f12 0 :=
  loop_ok (s := ring_Num_Zero.c100002r) (by kernel_rfl) (by kernel_rfl) (loops_of (sh := ring_Num_Zero.c100002s) (I := fun x_ s_ => (x_.1, x_.2.1, x_.2.2.1, x_.2.2.2.1, s_, ())) (fun x_ => rfl) (fun ρ x_ s_ k_ => (nat_br (nat_bnd fun _ => (nat_bnd fun _ => (nat_br nat_leaf nat_leaf))) nat_leaf)) (fun ρ x_ t k => (nat_sel (fun _ => (by kernel_rfl)) (fun _ => (by kernel_rfl)))) (fun x_ s => by kernel_rfl))
theorem ring_Num_Zero.ok : CalleeOk Tryd.prog 12 ring_Num_Zero.ce := fn_ok (G := ring_Num_Zero.G) tab_ok mixed Tryd.func12 ⟨(fns_cons whole_Int_Sign.ok fns_nil), mfns_nil, tab_eqs_ok, alts_nil⟩ (m := 1) (by kernel_rfl) ⟨trivial, ring_Num_Zero.p0⟩ (by kernel_rfl) ring_Num_Zero.eq
def whole_Int_Cmp.c1 {ρ : Type} (a0 : Bool) (a1 : List (Int)) (b0 : Bool) (b1 : List (Int)) (k_ : Int → Option ρ) : Option ρ :=
  bnd (W.whole_Int_Sign (a0, a1)) fun y =>
  bnd (W.whole_Int_Sign (b0, b1)) fun y_1 =>
  bnd (W.cmp_Compare_int y y_1) fun y_2 =>
  k_ y_2
def whole_Int_Cmp.c1s : Shape := ⟨[(0, nb11), (1, nb11), (2, nb5), (3, nb12), (4, nb3)], [(2, nb4), (3, nb4)]⟩
def whole_Int_Cmp.c1x0 : Shape := ⟨[(0, nb11), (1, nb11), (2, nb5), (3, nb12), (4, nb3), (5, nb3)], [(2, nb4), (3, nb4)]⟩
def whole_Int_Cmp.c1r : Ck := Ck.of (T := Int) whole_Int_Cmp.c1s (fun ρ x_ k_ => whole_Int_Cmp.c1 x_.2.2.2.1 x_.2.2.2.2.1 x_.2.2.2.2.2.1 x_.2.2.2.2.2.2.1 k_) (fun ρ x_ r_ k_ => k_ 0 (Shape.inj whole_Int_Cmp.c1x0 (x_.1, x_.2.1, x_.2.2.1, r_, x_.2.2.2)))
def whole_Int_Cmp.c2 {ρ : Type} (c : Int) (a0 : Bool) (a1 : List (Int)) (k_ : Bool → Option ρ) : Option ρ :=
  br (c != (0 : Int))
   (k_ true)
   (bnd (W.whole_Int_Sign (a0, a1)) fun y =>
    k_ (y == (0 : Int)))
def whole_Int_Cmp.c2s : Shape := whole_Int_Cmp.c1x0
def whole_Int_Cmp.c2x0 : Shape := ⟨[(0, nb11), (1, nb11), (2, nb5), (3, nb12), (4, nb3), (5, nb3), (17, nb0)], [(2, nb4), (3, nb4)]⟩
def whole_Int_Cmp.c2r : Ck := Ck.of (T := Bool) whole_Int_Cmp.c2s (fun ρ x_ k_ => whole_Int_Cmp.c2 x_.2.2.2.1 x_.2.2.2.2.1 x_.2.2.2.2.2.1 k_) (fun ρ x_ r_ k_ => k_ 0 (Shape.inj whole_Int_Cmp.c2x0 (x_.1, x_.2.1, x_.2.2.1, x_.2.2.2.1, r_, x_.2.2.2.2)))
def whole_Int_Cmp.c4 {ρ : Type} (a0 : Bool) (a1 : List (Int)) (b1 : List (Int)) (k_ : Int → Option ρ) : Option ρ :=
  bnd (W.whole_Int_Sign (a0, a1)) fun y =>
  bnd (W.whole_order a1 b1) fun y_1 =>
  k_ (IntKind.wrap IntKind.i64 (y * y_1))
def whole_Int_Cmp.c4s : Shape := whole_Int_Cmp.c1x0
def whole_Int_Cmp.c4x0 : Shape := whole_Int_Cmp.c1x0
def whole_Int_Cmp.c4r : Ck := Ck.of (T := Int) whole_Int_Cmp.c4s (fun ρ x_ k_ => whole_Int_Cmp.c4 x_.2.2.2.2.1 x_.2.2.2.2.2.1 x_.2.2.2.2.2.2.2.1 k_) (fun ρ x_ r_ k_ => k_ 0 (Shape.inj whole_Int_Cmp.c4x0 (x_.1, x_.2.1, r_, x_.2.2.2)))
def whole_Int_Cmp (a : (Bool) × (List Int)) (b : (Bool) × (List Int)) : Option (Int) :=
  bnd (W.whole_Int_Cmp.c1 (Prod.fst a) (Prod.snd a) (Prod.fst b) (Prod.snd b) some) fun y =>
  bnd (W.whole_Int_Cmp.c2 y (Prod.fst a) (Prod.snd a) some) fun y_1 =>
  br y_1
   (some y)
   (bnd (W.whole_Int_Cmp.c4 (Prod.fst a) (Prod.snd a) (Prod.snd b) some) fun y_2 =>
    some y_2)
def whole_Int_Cmp.ce : Go.Ql.Callee := ⟨[(.st (.pair .bool (.sl (.int .u32)))), (.st (.pair .bool (.sl (.int .u32))))], [(.int .i64)], fun x_ => whole_Int_Cmp x_.1 x_.2⟩
def whole_Int_Cmp.G : Env := ⟨27, tab, [(24, whole_Int_Sign.ce), (42, cmp_Compare_int.ce), (38, whole_order.ce)], [0, 1, 2, 3, 4, 5, 17], [], [(4, [⟨[], [], [21, 22, 23, 24], []⟩, ⟨[0], [], [21, 22, 23, 24], []⟩, ⟨[], [], [19, 20, 23, 24], []⟩, ⟨[2], [], [19, 20, 23, 24], []⟩, ⟨[], [], [19, 20, 21, 22], []⟩, ⟨[4], [], [19, 20, 21, 22], []⟩, ⟨[3, 2, 5, 4, 1, 0], [], [], []⟩, ⟨[1, 0, 6, 3, 2, 5, 4], [], [], []⟩, ⟨[7, 1, 0, 6, 3, 2, 5, 4], [], [], []⟩]),
  (1, [⟨[], [], [8], []⟩, ⟨[0], [], [8], []⟩, ⟨[], [], [6, 7], []⟩, ⟨[2, 1, 0], [], [], []⟩, ⟨[1, 0, 3, 2], [], [], []⟩, ⟨[4, 1, 0, 3, 2], [], [], []⟩])], [(4, whole_Int_Cmp.c4r), (2, whole_Int_Cmp.c2r), (1, whole_Int_Cmp.c1r)], [], tab_eqs, []⟩
theorem whole_Int_Cmp.eq (x_ : dens whole_Int_Cmp.ce.params) : den whole_Int_Cmp.G Tryd.f26 whole_Int_Cmp.ce.params whole_Int_Cmp.ce.res x_ = whole_Int_Cmp.ce.F x_ := by kernel_rfl
theorem whole_Int_Cmp.p0 : PcA whole_Int_Cmp.G Tryd.f26 0 :=
  region_ok (s := whole_Int_Cmp.c1r) (by kernel_rfl) (by kernel_rfl) (sums_of (sh := whole_Int_Cmp.c1s) (fun ρ x_ k_ => (nat_bnd fun _ => (nat_bnd fun _ => (nat_bnd fun _ => nat_leaf)))) (fun ρ x_ t k => (by kernel_rfl)) (fun x_ => by kernel_rfl))
theorem whole_Int_Cmp.p1 : PcA whole_Int_Cmp.G Tryd.f26 1 :=
  region_ok (s := whole_Int_Cmp.c2r) (by kernel_rfl) (by kernel_rfl) (sums_of (sh := whole_Int_Cmp.c2s) (fun ρ x_ k_ => (nat_br nat_leaf (nat_bnd fun _ => nat_leaf))) (fun ρ x_ t k => (by kernel_rfl)) (fun x_ => by kernel_rfl))
theorem whole_Int_Cmp.p2 : PcA whole_Int_Cmp.G Tryd.f26 2 :=
  region_ok (s := whole_Int_Cmp.c4r) (by kernel_rfl) (by kernel_rfl) (sums_of (sh := whole_Int_Cmp.c4s) (fun ρ x_ k_ => (nat_bnd fun _ => (nat_bnd fun _ => nat_leaf))) (fun ρ x_ t k => (by kernel_rfl)) (fun x_ => by kernel_rfl))
theorem whole_Int_Cmp.ok : CalleeOk Tryd.prog 26 whole_Int_Cmp.ce := fn_ok (G := whole_Int_Cmp.G) tab_ok mixed Tryd.func26 ⟨(fns_cons whole_Int_Sign.ok (fns_cons cmp_Compare_int.ok (fns_cons whole_order.ok fns_nil))), mfns_nil, tab_eqs_ok, alts_nil⟩ (m := 3) (by kernel_rfl) ⟨⟨⟨trivial, whole_Int_Cmp.p0⟩, whole_Int_Cmp.p1⟩, whole_Int_Cmp.p2⟩ (by kernel_rfl) whole_Int_Cmp.eq
def ring_Num_Same.c4 {ρ : Type} (a_1 : (List ((Bool) × (List Int))) × (Int)) (b_1 : (List ((Bool) × (List Int))) × (Int)) (i : Int) (k_ : Bool → Option ρ) : Option ρ :=
  bnd (idx (Prod.fst a_1) i) fun y =>
  bnd (idx (Prod.fst b_1) i) fun y_1 =>
  bnd (W.whole_Int_Cmp y y_1) fun y_2 =>
  k_ (y_2 != (0 : Int))
def ring_Num_Same.c4s : Shape := ⟨[(0, nb30), (1, nb30), (2, nb33), (3, nb33), (4, nb0), (5, nb3), (6, nb3)], []⟩
def ring_Num_Same.c4x0 : Shape := ⟨[(0, nb30), (1, nb30), (2, nb33), (3, nb33), (4, nb0), (5, nb3), (6, nb3), (18, nb0)], []⟩
def ring_Num_Same.c4r : Ck := Ck.of (T := Bool) ring_Num_Same.c4s (fun ρ x_ k_ => ring_Num_Same.c4 x_.2.2.1 x_.2.2.2.1 x_.2.2.2.2.2.1 k_) (fun ρ x_ r_ k_ => k_ 0 (Shape.inj ring_Num_Same.c4x0 (x_.1, x_.2.1, x_.2.2.1, x_.2.2.2.1, x_.2.2.2.2.1, x_.2.2.2.2.2.1, x_.2.2.2.2.2.2.1, r_, ())))
def ring_Num_Same.c100002 {ρ : Type} (a_1 : (List ((Bool) × (List Int))) × (Int)) (b_1 : (List ((Bool) × (List Int))) × (Int)) (t6 : Int) (k_ : (Int) ⊕ ((Int) ⊕ (Int)) → Option ρ) : Option ρ :=
  br (decide (t6 < (8 : Int)))
   (bnd (W.ring_Num_Same.c4 a_1 b_1 t6 some) fun y =>
    br y
     (k_ (.inr (.inl t6)))
     (k_ (.inl (IntKind.wrap IntKind.i64 (t6 + (1 : Int))))))
   (k_ (.inr (.inr t6)))
def ring_Num_Same.c100002s : Shape := ⟨[(0, nb30), (1, nb30), (2, nb33), (3, nb33), (4, nb0), (6, nb3)], []⟩
def ring_Num_Same.c100002x0 : Shape := ring_Num_Same.c100002s
def ring_Num_Same.c100002x1 : Shape := ring_Num_Same.c100002s
def ring_Num_Same.c100002r : Ck := Ck.ofLoop (S := Int) (T := (Int) ⊕ (Int)) ring_Num_Same.c100002s (fun x_ => x_.2.2.2.2.2.1) (fun ρ x_ s_ k_ => ring_Num_Same.c100002 x_.2.2.1 x_.2.2.2.1 s_ k_) (fun ρ x_ r_ k_ => sel r_ (fun r_ => k_ 1 (Shape.inj ring_Num_Same.c100002x0 (x_.1, x_.2.1, x_.2.2.1, x_.2.2.2.1, false, r_, ()))) (fun r_ => k_ 2 (Shape.inj ring_Num_Same.c100002x1 (x_.1, x_.2.1, x_.2.2.1, x_.2.2.2.1, x_.2.2.2.2.1, r_, ()))))
def ring_Num_Same (a : (List ((Bool) × (List Int))) × (Int)) (b : (List ((Bool) × (List Int))) × (Int)) : Option (Bool) :=
  bnd (iter (fun s ↦ W.ring_Num_Same.c100002 a b s some) (0 : Int)) fun y =>
  sel y
   (fun u => some false)
   (fun v => some (Prod.snd a == Prod.snd b))
def ring_Num_Same.ce : Go.Ql.Callee := ⟨[(.st (.pair (.ar 8 (.st (.pair .bool (.sl (.int .u32))))) (.int .i64))), (.st (.pair (.ar 8 (.st (.pair .bool (.sl (.int .u32))))) (.int .i64)))], [.bool], fun x_ => ring_Num_Same x_.1 x_.2⟩
def ring_Num_Same.G : Env := ⟨25, tab, [(26, whole_Int_Cmp.ce)], [0, 1, 2, 3, 4, 5, 6, 7, 18], [8000002, 8000003], [(4, [⟨[], [], [10, 13, 14, 15, 16], []⟩, ⟨[], [], [9, 13, 14, 15, 16], []⟩, ⟨[1, 0], [], [13, 14, 15, 16], []⟩, ⟨[2, 1, 0], [], [13, 14, 15, 16], []⟩, ⟨[], [], [9, 10, 11, 12, 14], []⟩, ⟨[], [], [9, 10, 11, 12, 13], []⟩, ⟨[5, 4], [], [9, 10, 11, 12], []⟩, ⟨[6, 5, 4], [], [9, 10, 11, 12], []⟩, ⟨[3, 2, 1, 0, 7, 6, 5, 4], [], [], []⟩, ⟨[8, 3, 2, 1, 0, 7, 6, 5, 4], [], [], []⟩])], [(100002, ring_Num_Same.c100002r), (4, ring_Num_Same.c4r)], [], tab_eqs, []⟩
theorem ring_Num_Same.eq (x_ : dens ring_Num_Same.ce.params) : den ring_Num_Same.G Tryd.f8 ring_Num_Same.ce.params ring_Num_Same.ce.res x_ = ring_Num_Same.ce.F x_ := by kernel_rfl
theorem ring_Num_Same.p0 : PcA ring_Num_Same.G Tryd.f8 0 :=
  loop_ok (s := ring_Num_Same.c100002r) (by kernel_rfl) (by kernel_rfl) (loops_of (sh := ring_Num_Same.c100002s) (I := fun x_ s_ => (x_.1, x_.2.1, x_.2.2.1, x_.2.2.2.1, x_.2.2.2.2.1, s_, ())) (fun x_ => rfl) (fun ρ x_ s_ k_ => (nat_br (nat_bnd fun _ => (nat_br nat_leaf nat_leaf)) nat_leaf)) (fun ρ x_ t k => (nat_sel (fun _ => (by kernel_rfl)) (fun _ => (by kernel_rfl)))) (fun x_ s => by kernel_rfl))
theorem ring_Num_Same.p1 : PcA ring_Num_Same.G Tryd.f8 1 :=
  region_ok (s := ring_Num_Same.c4r) (by kernel_rfl) (by kernel_rfl) (sums_of (sh := ring_Num_Same.c4s) (fun ρ x_ k_ => (nat_bnd fun _ => (nat_bnd fun _ => (nat_bnd fun _ => nat_leaf)))) (fun ρ x_ t k => (by kernel_rfl)) (fun x_ => by kernel_rfl))
theorem ring_Num_Same.ok : CalleeOk Tryd.prog 8 ring_Num_Same.ce := fn_ok (G := ring_Num_Same.G) tab_ok mixed Tryd.func8 ⟨(fns_cons whole_Int_Cmp.ok fns_nil), mfns_nil, tab_eqs_ok, alts_nil⟩ (m := 2) (by kernel_rfl) ⟨⟨trivial, ring_Num_Same.p0⟩, ring_Num_Same.p1⟩ (by kernel_rfl) ring_Num_Same.eq
def ring_Num_Half.c1 {ρ : Type} (a_1 : (List ((Bool) × (List Int))) × (Int)) (k_ : List ((List ((Bool) × (List Int))) × (Int)) → Option ρ) : Option ρ :=
  bnd (W.ring_Num_Turn a_1 (2 : Int)) fun y =>
  bnd (W.ring_Num_Turn a_1 (6 : Int)) fun y_1 =>
  bnd (W.ring_Num_Sub y y_1) fun y_2 =>
  k_ [y_2]
def ring_Num_Half.c1s : Shape := ⟨[(0, nb30), (1, nb33), (2, nb24)], [(2, nb26)]⟩
def ring_Num_Half.c1x0 : Shape := ⟨[(0, nb30), (1, nb33), (2, nb24), (3, nb31)], [(2, nb26), (3, nb26)]⟩
def ring_Num_Half.c1r : Ck := Ck.of (T := List ((List ((Bool) × (List Int))) × (Int))) ring_Num_Half.c1s (fun ρ x_ k_ => ring_Num_Half.c1 x_.2.1 k_) (fun ρ x_ r_ k_ => k_ 0 (Shape.inj ring_Num_Half.c1x0 (x_.1, x_.2.1, x_.2.2.1, r_, ())))
def ring_Num_Half (a : (List ((Bool) × (List Int))) × (Int)) : Option ((List ((Bool) × (List Int))) × (Int)) :=
  bnd (W.ring_Num_Half.c1 a some) fun y =>
  bnd (inR (List.length y) (0 : Int)) fun y_1 =>
  bnd (idx y (0 : Int)) fun y_2 =>
  bnd (inR (List.length y) (0 : Int)) fun y_3 =>
  bnd (idx y (0 : Int)) fun y_4 =>
  bnd (W.ring_least (Prod.fst y_2) (IntKind.wrap IntKind.i64 (Prod.snd y_4 + (1 : Int)))) fun y_5 =>
  some y_5
def ring_Num_Half.ce : Go.Ql.Callee := ⟨[(.st (.pair (.ar 8 (.st (.pair .bool (.sl (.int .u32))))) (.int .i64)))], [(.st (.pair (.ar 8 (.st (.pair .bool (.sl (.int .u32))))) (.int .i64)))], fun x_ => ring_Num_Half x_⟩
def ring_Num_Half.G : Env := ⟨15, tab, [(13, ring_Num_Turn.ce), (9, ring_Num_Sub.ce), (22, ring_least.ce)], [0, 1, 2, 3], [2, 3, 8000001], [(1, [⟨[], [], [6, 3], [3]⟩, ⟨[0], [], [6, 3], [3]⟩, ⟨[], [], [4, 5, 3], [3]⟩, ⟨[2, 1, 0], [], [3], [3]⟩, ⟨[1, 0, 3, 2], [], [3], [3]⟩, ⟨[], [3], [4, 5, 6, 7, 8], []⟩, ⟨[5, 4, 1, 0, 3, 2], [3], [], []⟩])], [(1, ring_Num_Half.c1r)], [], tab_eqs, []⟩
theorem ring_Num_Half.eq (x_ : dens ring_Num_Half.ce.params) : den ring_Num_Half.G Tryd.f15 ring_Num_Half.ce.params ring_Num_Half.ce.res x_ = ring_Num_Half.ce.F x_ := by kernel_rfl
theorem ring_Num_Half.p0 : PcA ring_Num_Half.G Tryd.f15 0 :=
  region_ok (s := ring_Num_Half.c1r) (by kernel_rfl) (by kernel_rfl) (sums_of (sh := ring_Num_Half.c1s) (fun ρ x_ k_ => (nat_bnd fun _ => (nat_bnd fun _ => (nat_bnd fun _ => nat_leaf)))) (fun ρ x_ t k => (by kernel_rfl)) (fun x_ => by kernel_rfl))
theorem ring_Num_Half.ok : CalleeOk Tryd.prog 15 ring_Num_Half.ce := fn_ok (G := ring_Num_Half.G) tab_ok mixed Tryd.func15 ⟨(fns_cons ring_Num_Turn.ok (fns_cons ring_Num_Sub.ok (fns_cons ring_least.ok fns_nil))), mfns_nil, tab_eqs_ok, alts_nil⟩ (m := 1) (by kernel_rfl) ⟨trivial, ring_Num_Half.p0⟩ (by kernel_rfl) ring_Num_Half.eq
def ring_one  : Option ((List ((Bool) × (List Int))) × (Int)) :=
  bnd (W.whole_Of (1 : Int)) fun y =>
  some (List.set (List.replicate (8 : Nat) (false, [])) (0 : Nat) y, (0 : Int))
def ring_one.ce : Go.Ql.Callee := ⟨[], [(.st (.pair (.ar 8 (.st (.pair .bool (.sl (.int .u32))))) (.int .i64)))], fun x_ => ring_one⟩
def ring_one.G : Env := ⟨4, tab, [(19, whole_Of.ce)], [0], [0, 3], [], [], [], tab_eqs, []⟩
theorem ring_one.eq (x_ : dens ring_one.ce.params) : den ring_one.G Tryd.f28 ring_one.ce.params ring_one.ce.res x_ = ring_one.ce.F x_ := by kernel_rfl
theorem ring_one.ok : CalleeOk Tryd.prog 28 ring_one.ce := fn_ok (G := ring_one.G) tab_ok mixed Tryd.func28 ⟨(fns_cons whole_Of.ok fns_nil), mfns_nil, tab_eqs_ok, alts_nil⟩ (m := 0) (by kernel_rfl) trivial (by kernel_rfl) ring_one.eq
def ring_Root (t0 : Int) : Option ((List ((Bool) × (List Int))) × (Int)) :=
  bnd W.ring_one fun y =>
  bnd (W.ring_Num_Turn y t0) fun y_1 =>
  some y_1
def ring_Root.ce : Go.Ql.Callee := ⟨[(.int .i64)], [(.st (.pair (.ar 8 (.st (.pair .bool (.sl (.int .u32))))) (.int .i64)))], fun x_ => ring_Root x_⟩
def ring_Root.G : Env := ⟨6, tab, [(28, ring_one.ce), (13, ring_Num_Turn.ce)], [0, 2], [2], [], [], [], tab_eqs, []⟩
theorem ring_Root.eq (x_ : dens ring_Root.ce.params) : den ring_Root.G Tryd.f14 ring_Root.ce.params ring_Root.ce.res x_ = ring_Root.ce.F x_ := by kernel_rfl
theorem ring_Root.ok : CalleeOk Tryd.prog 14 ring_Root.ce := fn_ok (G := ring_Root.G) tab_ok mixed Tryd.func14 ⟨(fns_cons ring_one.ok (fns_cons ring_Num_Turn.ok fns_nil)), mfns_nil, tab_eqs_ok, alts_nil⟩ (m := 0) (by kernel_rfl) trivial (by kernel_rfl) ring_Root.eq
def ring_Rt  : Option ((List ((Bool) × (List Int))) × (Int)) :=
  bnd (W.whole_Of (1 : Int)) fun y =>
  bnd (W.whole_Of (-1 : Int)) fun y_1 =>
  some (List.set (List.set (List.replicate (8 : Nat) (false, [])) (2 : Nat) y) (6 : Nat) y_1, (1 : Int))
def ring_Rt.ce : Go.Ql.Callee := ⟨[], [(.st (.pair (.ar 8 (.st (.pair .bool (.sl (.int .u32))))) (.int .i64)))], fun x_ => ring_Rt⟩
def ring_Rt.G : Env := ⟨5, tab, [(19, whole_Of.ce)], [0], [0, 4], [], [], [], tab_eqs, []⟩
theorem ring_Rt.eq (x_ : dens ring_Rt.ce.params) : den ring_Rt.G Tryd.f16 ring_Rt.ce.params ring_Rt.ce.res x_ = ring_Rt.ce.F x_ := by kernel_rfl
theorem ring_Rt.ok : CalleeOk Tryd.prog 16 ring_Rt.ce := fn_ok (G := ring_Rt.G) tab_ok mixed Tryd.func16 ⟨(fns_cons whole_Of.ok fns_nil), mfns_nil, tab_eqs_ok, alts_nil⟩ (m := 0) (by kernel_rfl) trivial (by kernel_rfl) ring_Rt.eq
def slices_Clone_uint32.pre : Shape := ⟨[(0, nb1)], []⟩
def slices_Clone_uint32.post : Shape := ⟨[(0, nb14)], [(0, nb9)]⟩
def slices_Clone_uint32 (s : List (Int)) : Option ((List Int) × Unit) :=
  br (List.isEmpty s)
   (both
     (some ([], ()))
     (bnd (okIf (decide (((0 : Nat) + List.length s) * (4 : Nat) ≤ (140737488355328 : Nat)) && decide ((0 : Nat) + List.length s ≤ (140737488355328 : Nat)))) fun y =>
      some (s, ())))
   (bnd (okIf (decide (((0 : Nat) + List.length s) * (4 : Nat) ≤ (140737488355328 : Nat)) && decide ((0 : Nat) + List.length s ≤ (140737488355328 : Nat)))) fun y_1 =>
    some (s, ()))
def slices_Clone_uint32.mc : MCallee := ⟨43, slices_Clone_uint32.pre, slices_Clone_uint32.post, fun x_ => slices_Clone_uint32 x_.1⟩
def slices_Clone_uint32.G : Env := ⟨8, tab, [], [0, 2, 4], [2, 5], [], [], [], tab_eqs, []⟩
theorem slices_Clone_uint32.eq (x_ : densU slices_Clone_uint32.mc.pre.tys) : denM slices_Clone_uint32.G Tryd.f43 slices_Clone_uint32.mc.pre slices_Clone_uint32.mc.post x_ = slices_Clone_uint32.mc.F x_ := by kernel_rfl
theorem slices_Clone_uint32.ok : MOk Tryd.prog 43 slices_Clone_uint32.mc := fnm_ok (G := slices_Clone_uint32.G) tab_ok mixed Tryd.func43 ⟨fns_nil, mfns_nil, tab_eqs_ok, alts_nil⟩ (m := 0) (by kernel_rfl) trivial (by kernel_rfl) slices_Clone_uint32.eq
abbrev nb37 : SD := .one (.own 2000000 0)
abbrev nb38 : SO := .arr 0 false 5 (.int .u8)
def slices_Reverse_byte.pre : Shape := ⟨[(0, nb37)], [(2000000, nb38)]⟩
def slices_Reverse_byte.post : Shape := ⟨[], [(2000000, nb38)]⟩
def slices_Reverse_byte.c3 {ρ : Type} (i : Int) (j : Int) (t2000000 : List (Int)) (k_ : List (Int) → Option ρ) : Option ρ :=
  bnd (inR (List.length t2000000) j) fun y =>
  bnd (idx t2000000 j) fun y_1 =>
  bnd (inR (List.length t2000000) i) fun y_2 =>
  bnd (idx t2000000 i) fun y_3 =>
  bnd (inR (List.length t2000000) i) fun y_4 =>
  bnd (idx t2000000 i) fun y_5 =>
  bnd (inR (List.length (List.set t2000000 (Int.toNat i) y_1)) j) fun y_6 =>
  bnd (idx (List.set t2000000 (Int.toNat i) y_1) j) fun y_7 =>
  k_ (List.set (List.set t2000000 (Int.toNat i) y_1) (Int.toNat j) y_3)
def slices_Reverse_byte.c3s : Shape := ⟨[(0, nb37), (2, nb3), (3, nb3)], [(2000000, nb38)]⟩
def slices_Reverse_byte.c3x0 : Shape := slices_Reverse_byte.c3s
def slices_Reverse_byte.c3r : Ck := Ck.of (T := List (Int)) slices_Reverse_byte.c3s (fun ρ x_ k_ => slices_Reverse_byte.c3 x_.1 x_.2.1 x_.2.2.1 k_) (fun ρ x_ r_ k_ => k_ 0 (Shape.inj slices_Reverse_byte.c3x0 (x_.1, x_.2.1, r_, ())))
def slices_Reverse_byte.c100001 {ρ : Type} (i : Int) (j : Int) (t2000000 : List (Int)) (k_ : ((Int) × (Int) × (List Int)) ⊕ ((Int) × (Int) × (List Int)) → Option ρ) : Option ρ :=
  br (decide (i < j))
   (bnd (W.slices_Reverse_byte.c3 i j t2000000 some) fun y =>
    k_ (.inl ((IntKind.wrap IntKind.i64 (i + (1 : Int))), (IntKind.wrap IntKind.i64 (j - (1 : Int))), y)))
   (k_ (.inr (i, j, t2000000)))
def slices_Reverse_byte.c100001s : Shape := slices_Reverse_byte.c3s
def slices_Reverse_byte.c100001x0 : Shape := slices_Reverse_byte.c3s
def slices_Reverse_byte.c100001r : Ck := Ck.ofLoop (S := (Int) × (Int) × (List Int)) (T := (Int) × (Int) × (List Int)) slices_Reverse_byte.c100001s (fun x_ => (x_.1, x_.2.1, x_.2.2.1)) (fun ρ x_ s_ k_ => slices_Reverse_byte.c100001 s_.1 s_.2.1 s_.2.2 k_) (fun ρ x_ r_ k_ => k_ 2 (Shape.inj slices_Reverse_byte.c100001x0 (r_.1, r_.2.1, r_.2.2, ())))
def slices_Reverse_byte (t2000000 : List (Int)) : Option ((List Int) × Unit) :=
  bnd (iter (fun s ↦ W.slices_Reverse_byte.c100001 (Prod.fst s) (Prod.fst (Prod.snd s)) (Prod.snd (Prod.snd s)) some) ((0 : Int), IntKind.wrap IntKind.i64 ((↑(List.length t2000000) : Int) - (1 : Int)), t2000000)) fun y =>
  some (Prod.snd (Prod.snd y), ())
def slices_Reverse_byte.mc : MCallee := ⟨44, slices_Reverse_byte.pre, slices_Reverse_byte.post, fun x_ => slices_Reverse_byte x_.1⟩
def slices_Reverse_byte.G : Env := ⟨28, tab, [], [0, 2, 3, 9], [2000000], [(3, [⟨[], [], [15, 16, 17, 18, 19, 20, 21, 22, 23, 24, 25], []⟩, ⟨[], [], [14, 16, 17, 18, 19, 20, 21, 22, 23, 24, 25], []⟩, ⟨[], [], [14, 15, 17, 18, 19, 20, 21, 22, 23, 24, 25, 26], [2000000]⟩, ⟨[], [], [14, 15, 16, 18, 19, 20, 21, 22, 23, 24, 25, 26], [2000000]⟩, ⟨[], [], [14, 15, 16, 17, 19, 22, 23, 24, 25], []⟩, ⟨[], [], [14, 15, 16, 17, 18, 22, 23, 24, 25], []⟩, ⟨[4, 5], [], [14, 15, 16, 17, 22, 23, 24, 25], []⟩, ⟨[6, 4, 5], [], [14, 15, 16, 17, 22, 23, 24, 25], []⟩, ⟨[], [], [14, 15, 16, 17, 18, 19, 20, 21, 23], []⟩, ⟨[], [], [14, 15, 16, 17, 18, 19, 20, 21, 22], []⟩, ⟨[8, 9], [], [14, 15, 16, 17, 18, 19, 20, 21], []⟩, ⟨[10, 8, 9], [], [14, 15, 16, 17, 18, 19, 20, 21], []⟩, ⟨[0, 1, 4, 5, 6, 7, 11, 10, 8, 9], [], [16, 17], []⟩, ⟨[12, 0, 1, 4, 5, 6, 7, 11, 10, 8, 9], [2000000], [16, 17], []⟩, ⟨[2, 3, 0, 1, 4, 5, 6, 7, 8, 9, 10, 11, 12, 13], [], [], []⟩, ⟨[14, 2, 3, 0, 1, 4, 5, 6, 7, 8, 9, 10, 11, 12, 13], [2000000], [], []⟩])], [(100001, slices_Reverse_byte.c100001r), (3, slices_Reverse_byte.c3r)], [], tab_eqs, []⟩
theorem slices_Reverse_byte.eq (x_ : densU slices_Reverse_byte.mc.pre.tys) : denM slices_Reverse_byte.G Tryd.f44 slices_Reverse_byte.mc.pre slices_Reverse_byte.mc.post x_ = slices_Reverse_byte.mc.F x_ := by kernel_rfl
theorem slices_Reverse_byte.p0 : PcA slices_Reverse_byte.G Tryd.f44 0 :=
  loop_ok (s := slices_Reverse_byte.c100001r) (by kernel_rfl) (by kernel_rfl) (loops_of (sh := slices_Reverse_byte.c100001s) (I := fun x_ s_ => (s_.1, s_.2.1, s_.2.2, ())) (fun x_ => rfl) (fun ρ x_ s_ k_ => (nat_br (nat_bnd fun _ => nat_leaf) nat_leaf)) (fun ρ x_ t k => (by kernel_rfl)) (fun x_ s => by kernel_rfl))
theorem slices_Reverse_byte.p1 : PcA slices_Reverse_byte.G Tryd.f44 1 :=
  region_ok (s := slices_Reverse_byte.c3r) (by kernel_rfl) (by kernel_rfl) (sums_of (sh := slices_Reverse_byte.c3s) (fun ρ x_ k_ => (nat_bnd fun _ => (nat_bnd fun _ => (nat_bnd fun _ => (nat_bnd fun _ => (nat_bnd fun _ => (nat_bnd fun _ => (nat_bnd fun _ => (nat_bnd fun _ => nat_leaf))))))))) (fun ρ x_ t k => (by kernel_rfl)) (fun x_ => by kernel_rfl))
theorem slices_Reverse_byte.ok : MOk Tryd.prog 44 slices_Reverse_byte.mc := fnm_ok (G := slices_Reverse_byte.G) tab_ok mixed Tryd.func44 ⟨fns_nil, mfns_nil, tab_eqs_ok, alts_nil⟩ (m := 2) (by kernel_rfl) ⟨⟨trivial, slices_Reverse_byte.p0⟩, slices_Reverse_byte.p1⟩ (by kernel_rfl) slices_Reverse_byte.eq
abbrev nb39 : SD := .one (.val .str)
abbrev nb40 : SD := .one (.own 3 0)
abbrev nb41 : SD := .one (.own 14 0)
def whole_Int_Text.c100008 {ρ : Type} (part : Int) (i : Int) (t14 : List (Int)) (k_ : ((Int) × (Int) × (List Int)) ⊕ ((Int) × (Int) × (List Int)) → Option ρ) : Option ρ :=
  br (decide (i ≥ (0 : Int)))
   (bnd (inR (List.length t14) i) fun y =>
    bnd (idx t14 i) fun y_1 =>
    bnd (inR (List.length t14) i) fun y_2 =>
    bnd (idx t14 i) fun y_3 =>
    k_ (.inl ((Int.tmod (ibits BinOp.or IntKind.u64 (IntKind.wrap IntKind.u64 (part * (2 : Int) ^ (32 : Nat))) (IntKind.wrap IntKind.u64 y_1)) (1000000000 : Int)), (IntKind.wrap IntKind.i64 (i - (1 : Int))), (List.set t14 (Int.toNat i) (IntKind.wrap IntKind.u32 (IntKind.wrap IntKind.u64 (Int.tdiv (ibits BinOp.or IntKind.u64 (IntKind.wrap IntKind.u64 (part * (2 : Int) ^ (32 : Nat))) (IntKind.wrap IntKind.u64 y_1)) (1000000000 : Int))))))))
   (k_ (.inr (part, i, t14)))
def whole_Int_Text.c100008s : Shape := ⟨[(0, nb11), (1, nb13), (2, nb39), (3, nb40), (4, nb41), (5, nb6), (6, nb3)], [(1, nb4), (3, nb38), (14, nb9)]⟩
def whole_Int_Text.c100008x0 : Shape := whole_Int_Text.c100008s
def whole_Int_Text.c100008r : Ck := Ck.ofLoop (S := (Int) × (Int) × (List Int)) (T := (Int) × (Int) × (List Int)) whole_Int_Text.c100008s (fun x_ => (x_.2.2.1, x_.2.2.2.1, x_.2.2.2.2.2.2.2.1)) (fun ρ x_ s_ k_ => whole_Int_Text.c100008 s_.1 s_.2.1 s_.2.2 k_) (fun ρ x_ r_ k_ => k_ 4 (Shape.inj whole_Int_Text.c100008x0 (x_.1, x_.2.1, r_.1, r_.2.1, x_.2.2.2.2.1, x_.2.2.2.2.2.1, x_.2.2.2.2.2.2.1, r_.2.2, ())))
def whole_Int_Text.c253253 {ρ : Type} (t14 : List (Int)) (k_ : List (Int) → Option ρ) : Option ρ :=
  bnd (inR (List.length t14) (IntKind.wrap IntKind.i64 ((↑(List.length t14) : Int) - (1 : Int)))) fun y =>
  bnd (idx t14 (IntKind.wrap IntKind.i64 ((↑(List.length t14) : Int) - (1 : Int)))) fun y_1 =>
  br (y_1 == (0 : Int))
   (bnd (okIf (decide ((0 : Int) ≤ IntKind.wrap IntKind.i64 ((↑(List.length t14) : Int) - (1 : Int))) && decide (IntKind.wrap IntKind.i64 ((↑(List.length t14) : Int) - (1 : Int)) ≤ (↑(List.length t14) : Int)))) fun y_2 =>
    k_ (List.take (Int.toNat (IntKind.wrap IntKind.i64 ((↑(List.length t14) : Int) - (1 : Int)))) t14))
   (k_ t14)
def whole_Int_Text.c253253s : Shape := whole_Int_Text.c100008s
def whole_Int_Text.c253253x0 : Shape := whole_Int_Text.c100008s
def whole_Int_Text.c253253r : Ck := Ck.of (T := List (Int)) whole_Int_Text.c253253s (fun ρ x_ k_ => whole_Int_Text.c253253 x_.2.2.2.2.2.2.2.1 k_) (fun ρ x_ r_ k_ => k_ 0 (Shape.inj whole_Int_Text.c253253x0 (x_.1, x_.2.1, x_.2.2.1, x_.2.2.2.1, x_.2.2.2.2.1, x_.2.2.2.2.2.1, x_.2.2.2.2.2.2.1, r_, ())))
def whole_Int_Text.c16 {ρ : Type} (part : Int) (t7 : Int) (t14 : List (Int)) (k_ : Bool → Option ρ) : Option ρ :=
  br (decide (t7 < (9 : Int)))
   (br (decide (part > (0 : Int)))
     (k_ true)
     (k_ (decide ((↑(List.length t14) : Int) > (0 : Int)))))
   (k_ false)
def whole_Int_Text.c16s : Shape := ⟨[(0, nb11), (1, nb13), (2, nb39), (3, nb40), (4, nb41), (5, nb6), (6, nb3), (7, nb3)], [(1, nb4), (3, nb38), (14, nb9)]⟩
def whole_Int_Text.c16x0 : Shape := ⟨[(0, nb11), (1, nb13), (2, nb39), (3, nb40), (4, nb41), (5, nb6), (6, nb3), (7, nb3), (63, nb0)], [(1, nb4), (3, nb38), (14, nb9)]⟩
def whole_Int_Text.c16r : Ck := Ck.of (T := Bool) whole_Int_Text.c16s (fun ρ x_ k_ => whole_Int_Text.c16 x_.2.2.1 x_.2.2.2.2.1 x_.2.2.2.2.2.2.2.2.1 k_) (fun ρ x_ r_ k_ => k_ 0 (Shape.inj whole_Int_Text.c16x0 (x_.1, x_.2.1, x_.2.2.1, x_.2.2.2.1, x_.2.2.2.2.1, r_, x_.2.2.2.2.2)))
def whole_Int_Text.c100016 {ρ : Type} (part : Int) (t7 : Int) (out : List (Int)) (t14 : List (Int)) (k_ : ((Int) × (Int) × (List Int)) ⊕ ((Int) × (Int) × (List Int)) → Option ρ) : Option ρ :=
  bnd (W.whole_Int_Text.c16 part t7 t14 some) fun y =>
  br y
   (bnd (okIf (decide ((List.length out + (1 : Nat)) * (1 : Nat) ≤ (140737488355328 : Nat)) && decide (List.length out + (1 : Nat) ≤ (140737488355328 : Nat)))) fun y_1 =>
    k_ (.inl ((IntKind.wrap IntKind.u64 (Int.tdiv part (10 : Int))), (IntKind.wrap IntKind.i64 (t7 + (1 : Int))), (out ++ [IntKind.wrap IntKind.u8 (IntKind.wrap IntKind.u64 ((48 : Int) + Int.tmod part (10 : Int)))]))))
   (k_ (.inr (part, t7, out)))
def whole_Int_Text.c100016s : Shape := whole_Int_Text.c16s
def whole_Int_Text.c100016x0 : Shape := whole_Int_Text.c16s
def whole_Int_Text.c100016r : Ck := Ck.ofLoop (S := (Int) × (Int) × (List Int)) (T := (Int) × (Int) × (List Int)) whole_Int_Text.c100016s (fun x_ => (x_.2.2.1, x_.2.2.2.2.1, x_.2.2.2.2.2.2.2.1)) (fun ρ x_ s_ k_ => whole_Int_Text.c100016 s_.1 s_.2.1 s_.2.2 x_.2.2.2.2.2.2.2.2.1 k_) (fun ρ x_ r_ k_ => k_ 6 (Shape.inj whole_Int_Text.c100016x0 (x_.1, x_.2.1, r_.1, x_.2.2.2.1, r_.2.1, x_.2.2.2.2.2.1, x_.2.2.2.2.2.2.1, r_.2.2, x_.2.2.2.2.2.2.2.2)))
def whole_Int_Text.c100005 {ρ : Type} (out : List (Int)) (t14 : List (Int)) (k_ : ((List Int) × (List Int)) ⊕ ((List Int) × (List Int)) → Option ρ) : Option ρ :=
  br (decide ((↑(List.length t14) : Int) > (0 : Int)))
   (bnd (iter (fun s ↦ W.whole_Int_Text.c100008 (Prod.fst s) (Prod.fst (Prod.snd s)) (Prod.snd (Prod.snd s)) some) ((0 : Int), IntKind.wrap IntKind.i64 ((↑(List.length t14) : Int) - (1 : Int)), t14)) fun y =>
    bnd (W.whole_Int_Text.c253253 (Prod.snd (Prod.snd y)) some) fun y_1 =>
    bnd (iter (fun s ↦ W.whole_Int_Text.c100016 (Prod.fst s) (Prod.fst (Prod.snd s)) (Prod.snd (Prod.snd s)) y_1 some) (Prod.fst y, (0 : Int), out)) fun y_2 =>
    k_ (.inl ((Prod.snd (Prod.snd y_2)), y_1)))
   (k_ (.inr (out, t14)))
def whole_Int_Text.c100005s : Shape := ⟨[(0, nb11), (1, nb13), (2, nb39), (3, nb40), (4, nb41)], [(1, nb4), (3, nb38), (14, nb9)]⟩
def whole_Int_Text.c100005x0 : Shape := whole_Int_Text.c100005s
def whole_Int_Text.c100005r : Ck := Ck.ofLoop (S := (List Int) × (List Int)) (T := (List Int) × (List Int)) whole_Int_Text.c100005s (fun x_ => (x_.2.2.2.2.1, x_.2.2.2.2.2.1)) (fun ρ x_ s_ k_ => whole_Int_Text.c100005 s_.1 s_.2 k_) (fun ρ x_ r_ k_ => k_ 2 (Shape.inj whole_Int_Text.c100005x0 (x_.1, x_.2.1, x_.2.2.1, x_.2.2.2.1, r_.1, r_.2, ())))
def whole_Int_Text.c281925 {ρ : Type} (a0 : Bool) (out : List (Int)) (k_ : List (Int) → Option ρ) : Option ρ :=
  br a0
   (bnd (okIf (decide ((List.length out + (1 : Nat)) * (1 : Nat) ≤ (140737488355328 : Nat)) && decide (List.length out + (1 : Nat) ≤ (140737488355328 : Nat)))) fun y =>
    k_ (out ++ [(45 : Int)]))
   (k_ out)
def whole_Int_Text.c281925s : Shape := whole_Int_Text.c100005s
def whole_Int_Text.c281925x0 : Shape := whole_Int_Text.c100005s
def whole_Int_Text.c281925r : Ck := Ck.of (T := List (Int)) whole_Int_Text.c281925s (fun ρ x_ k_ => whole_Int_Text.c281925 x_.2.2.1 x_.2.2.2.2.1 k_) (fun ρ x_ r_ k_ => k_ 0 (Shape.inj whole_Int_Text.c281925x0 (x_.1, x_.2.1, x_.2.2.1, x_.2.2.2.1, r_, x_.2.2.2.2.2)))
def whole_Int_Text (a : (Bool) × (List Int)) : Option (List UInt8) :=
  br ((↑(List.length (Prod.snd a)) : Int) == (0 : Int))
   (some (Array.toList (ByteArray.data (ByteArray.mk #[(48 : UInt8)]))))
   (bnd (W.slices_Clone_uint32 (Prod.snd a)) fun y =>
    bnd (iter (fun s ↦ W.whole_Int_Text.c100005 (Prod.fst s) (Prod.snd s) some) ([], Prod.fst y)) fun y_1 =>
    bnd (W.whole_Int_Text.c281925 (Prod.fst a) (Prod.fst y_1) some) fun y_2 =>
    bnd (W.slices_Reverse_byte y_2) fun y_3 =>
    some (List.map (fun n ↦ UInt8.ofNat (Int.toNat n)) (Prod.fst y_3)))
def whole_Int_Text.ce : Go.Ql.Callee := ⟨[(.st (.pair .bool (.sl (.int .u32))))], [.str], fun x_ => whole_Int_Text x_⟩
def whole_Int_Text.G : Env := ⟨84, tab, [], [0, 1, 2, 3, 4, 5, 6, 7, 11, 17, 22, 47, 63, 76], [3, 14], [], [(281925, whole_Int_Text.c281925r), (100005, whole_Int_Text.c100005r), (100016, whole_Int_Text.c100016r), (16, whole_Int_Text.c16r), (253253, whole_Int_Text.c253253r), (100008, whole_Int_Text.c100008r)], [(43, slices_Clone_uint32.mc), (44, slices_Reverse_byte.mc)], tab_eqs, []⟩
theorem whole_Int_Text.eq (x_ : dens whole_Int_Text.ce.params) : den whole_Int_Text.G Tryd.f29 whole_Int_Text.ce.params whole_Int_Text.ce.res x_ = whole_Int_Text.ce.F x_ := by kernel_rfl
theorem whole_Int_Text.p0 : PcA whole_Int_Text.G Tryd.f29 0 :=
  loop_ok (s := whole_Int_Text.c100005r) (by kernel_rfl) (by kernel_rfl) (loops_of (sh := whole_Int_Text.c100005s) (I := fun x_ s_ => (x_.1, x_.2.1, x_.2.2.1, x_.2.2.2.1, s_.1, s_.2, ())) (fun x_ => rfl) (fun ρ x_ s_ k_ => (nat_br (nat_bnd fun _ => (nat_bnd fun _ => (nat_bnd fun _ => nat_leaf))) nat_leaf)) (fun ρ x_ t k => (by kernel_rfl)) (fun x_ s => by kernel_rfl))
theorem whole_Int_Text.p1 : PcA whole_Int_Text.G Tryd.f29 1 :=
  loop_ok (s := whole_Int_Text.c100008r) (by kernel_rfl) (by kernel_rfl) (loops_of (sh := whole_Int_Text.c100008s) (I := fun x_ s_ => (x_.1, x_.2.1, s_.1, s_.2.1, x_.2.2.2.2.1, x_.2.2.2.2.2.1, x_.2.2.2.2.2.2.1, s_.2.2, ())) (fun x_ => rfl) (fun ρ x_ s_ k_ => (nat_br (nat_bnd fun _ => (nat_bnd fun _ => (nat_bnd fun _ => (nat_bnd fun _ => nat_leaf)))) nat_leaf)) (fun ρ x_ t k => (by kernel_rfl)) (fun x_ s => by kernel_rfl))
theorem whole_Int_Text.p2 : PcA whole_Int_Text.G Tryd.f29 2 :=
  join_ok (s := whole_Int_Text.c253253r) (by kernel_rfl) (by kernel_rfl) (sums_of (sh := whole_Int_Text.c253253s) (fun ρ x_ k_ => (nat_bnd fun _ => (nat_bnd fun _ => (nat_br (nat_bnd fun _ => nat_leaf) nat_leaf)))) (fun ρ x_ t k => (by kernel_rfl)) (fun x_ => by kernel_rfl))
theorem whole_Int_Text.p3 : PcA whole_Int_Text.G Tryd.f29 3 :=
  loop_ok (s := whole_Int_Text.c100016r) (by kernel_rfl) (by kernel_rfl) (loops_of (sh := whole_Int_Text.c100016s) (I := fun x_ s_ => (x_.1, x_.2.1, s_.1, x_.2.2.2.1, s_.2.1, x_.2.2.2.2.2.1, x_.2.2.2.2.2.2.1, s_.2.2, x_.2.2.2.2.2.2.2.2)) (fun x_ => rfl) (fun ρ x_ s_ k_ => (nat_bnd fun _ => (nat_br (nat_bnd fun _ => nat_leaf) nat_leaf))) (fun ρ x_ t k => (by kernel_rfl)) (fun x_ s => by kernel_rfl))
theorem whole_Int_Text.p4 : PcA whole_Int_Text.G Tryd.f29 4 :=
  region_ok (s := whole_Int_Text.c16r) (by kernel_rfl) (by kernel_rfl) (sums_of (sh := whole_Int_Text.c16s) (fun ρ x_ k_ => (nat_br (nat_br nat_leaf nat_leaf) nat_leaf)) (fun ρ x_ t k => (by kernel_rfl)) (fun x_ => by kernel_rfl))
theorem whole_Int_Text.p5 : PcA whole_Int_Text.G Tryd.f29 5 :=
  join_ok (s := whole_Int_Text.c281925r) (by kernel_rfl) (by kernel_rfl) (sums_of (sh := whole_Int_Text.c281925s) (fun ρ x_ k_ => (nat_br (nat_bnd fun _ => nat_leaf) nat_leaf)) (fun ρ x_ t k => (by kernel_rfl)) (fun x_ => by kernel_rfl))
theorem whole_Int_Text.ok : CalleeOk Tryd.prog 29 whole_Int_Text.ce := fn_ok (G := whole_Int_Text.G) tab_ok mixed Tryd.func29 ⟨fns_nil, (mfns_cons slices_Clone_uint32.ok (mfns_cons slices_Reverse_byte.ok mfns_nil)), tab_eqs_ok, alts_nil⟩ (m := 6) (by kernel_rfl) ⟨⟨⟨⟨⟨⟨trivial, whole_Int_Text.p0⟩, whole_Int_Text.p1⟩, whole_Int_Text.p2⟩, whole_Int_Text.p3⟩, whole_Int_Text.p4⟩, whole_Int_Text.p5⟩ (by kernel_rfl) whole_Int_Text.eq
abbrev nb42 : SD := .one (.own 6 0)
abbrev nb43 : SD := .one (.val (.sl (.st (.pair .bool (.sl (.int .u32))))))
abbrev nb44 : SO := .arr 0 false 9 .str
def ring_Num_Text.c216392 {ρ : Type} (last : Int) (t11 : List ((Bool) × (List Int))) (t12 : Int) (k_ : Int → Option ρ) : Option ρ :=
  bnd (idx t11 t12) fun y =>
  bnd (W.whole_Int_Sign (Prod.fst y, Prod.snd y)) fun y_1 =>
  br (y_1 != (0 : Int))
   (k_ t12)
   (k_ last)
def ring_Num_Text.c216392s : Shape := ⟨[(0, nb30), (1, nb33), (2, nb39), (3, nb3), (11, nb23), (12, nb3)], []⟩
def ring_Num_Text.c216392x0 : Shape := ring_Num_Text.c216392s
def ring_Num_Text.c216392r : Ck := Ck.of (T := Int) ring_Num_Text.c216392s (fun ρ x_ k_ => ring_Num_Text.c216392 x_.2.2.2.1 x_.2.2.2.2.1 x_.2.2.2.2.2.1 k_) (fun ρ x_ r_ k_ => k_ 0 (Shape.inj ring_Num_Text.c216392x0 (x_.1, x_.2.1, x_.2.2.1, r_, x_.2.2.2.2)))
def ring_Num_Text.c100003 {ρ : Type} (last : Int) (t11 : List ((Bool) × (List Int))) (t12 : Int) (k_ : ((Int) × (Int)) ⊕ ((Int) × (Int)) → Option ρ) : Option ρ :=
  br (decide (t12 < (8 : Int)))
   (bnd (W.ring_Num_Text.c216392 last t11 t12 some) fun y =>
    k_ (.inl (y, (IntKind.wrap IntKind.i64 (t12 + (1 : Int))))))
   (k_ (.inr (last, t12)))
def ring_Num_Text.c100003s : Shape := ring_Num_Text.c216392s
def ring_Num_Text.c100003x0 : Shape := ring_Num_Text.c216392s
def ring_Num_Text.c100003r : Ck := Ck.ofLoop (S := (Int) × (Int)) (T := (Int) × (Int)) ring_Num_Text.c100003s (fun x_ => (x_.2.2.2.1, x_.2.2.2.2.2.1)) (fun ρ x_ s_ k_ => ring_Num_Text.c100003 s_.1 x_.2.2.2.2.1 s_.2 k_) (fun ρ x_ r_ k_ => k_ 2 (Shape.inj ring_Num_Text.c100003x0 (x_.1, x_.2.1, x_.2.2.1, r_.1, x_.2.2.2.2.1, r_.2, ())))
def ring_Num_Text.c100010 {ρ : Type} (t24 : List ((Bool) × (List Int))) (t25 : Int) (t26 : Int) (parts : List (List UInt8)) (k_ : ((Int) × (List (List UInt8))) ⊕ ((Int) × (List (List UInt8))) → Option ρ) : Option ρ :=
  br (decide (t26 < t25))
   (bnd (idx t24 t26) fun y =>
    bnd (W.whole_Int_Text (Prod.fst y, Prod.snd y)) fun y_1 =>
    bnd (okIf (decide ((List.length parts + (1 : Nat)) * (16 : Nat) ≤ (140737488355328 : Nat)) && decide (List.length parts + (1 : Nat) ≤ (140737488355328 : Nat)))) fun y_2 =>
    k_ (.inl ((IntKind.wrap IntKind.i64 (t26 + (1 : Int))), (parts ++ [y_1]))))
   (k_ (.inr (t26, parts)))
def ring_Num_Text.c100010s : Shape := ⟨[(0, nb30), (1, nb33), (2, nb39), (3, nb3), (6, nb42), (11, nb23), (12, nb3), (24, nb43), (25, nb3), (26, nb3)], [(6, nb44)]⟩
def ring_Num_Text.c100010x0 : Shape := ring_Num_Text.c100010s
def ring_Num_Text.c100010r : Ck := Ck.ofLoop (S := (Int) × (List (List UInt8))) (T := (Int) × (List (List UInt8))) ring_Num_Text.c100010s (fun x_ => (x_.2.2.2.2.2.2.2.2.1, x_.2.2.2.2.2.2.2.2.2.1)) (fun ρ x_ s_ k_ => ring_Num_Text.c100010 x_.2.2.2.2.2.2.1 x_.2.2.2.2.2.2.2.1 s_.1 s_.2 k_) (fun ρ x_ r_ k_ => k_ 4 (Shape.inj ring_Num_Text.c100010x0 (x_.1, x_.2.1, x_.2.2.1, x_.2.2.2.1, x_.2.2.2.2.1, x_.2.2.2.2.2.1, x_.2.2.2.2.2.2.1, x_.2.2.2.2.2.2.2.1, r_.1, r_.2, ())))
def ring_Num_Text.c261445 {ρ : Type} (a_1 : (List ((Bool) × (List Int))) × (Int)) (text : List UInt8) (k_ : List UInt8 → Option ρ) : Option ρ :=
  br (decide (Prod.snd a_1 > (0 : Int)))
   (bnd (W.strconv_Itoa (Prod.snd a_1)) fun y =>
    bnd (okIf (decide (List.length (Array.toList (ByteArray.data (ByteArray.mk #[(47 : UInt8)]))) + List.length y ≤ (9223372036854775807 : Nat)))) fun y_1 =>
    bnd (okIf (decide (List.length text + List.length (Array.toList (ByteArray.data (ByteArray.mk #[(47 : UInt8)])) ++ y) ≤ (9223372036854775807 : Nat)))) fun y_2 =>
    k_ (text ++ (Array.toList (ByteArray.data (ByteArray.mk #[(47 : UInt8)])) ++ y)))
   (k_ text)
def ring_Num_Text.c261445s : Shape := ⟨[(0, nb30), (1, nb33), (2, nb39), (3, nb3), (6, nb42), (9, nb39), (11, nb23), (12, nb3), (24, nb43), (25, nb3), (26, nb3)], [(6, nb44)]⟩
def ring_Num_Text.c261445x0 : Shape := ring_Num_Text.c261445s
def ring_Num_Text.c261445r : Ck := Ck.of (T := List UInt8) ring_Num_Text.c261445s (fun ρ x_ k_ => ring_Num_Text.c261445 x_.2.1 x_.2.2.2.2.1 k_) (fun ρ x_ r_ k_ => k_ 0 (Shape.inj ring_Num_Text.c261445x0 (x_.1, x_.2.1, x_.2.2.1, x_.2.2.2.1, r_, x_.2.2.2.2.2)))
def ring_Num_Text (a : (List ((Bool) × (List Int))) × (Int)) : Option (List UInt8) :=
  bnd (iter (fun s ↦ W.ring_Num_Text.c100003 (Prod.fst s) (Prod.fst a) (Prod.snd s) some) ((0 : Int), (0 : Int))) fun y =>
  bnd (okIf (decide ((0 : Int) ≤ IntKind.wrap IntKind.i64 (Prod.fst y + (1 : Int))) && decide (IntKind.wrap IntKind.i64 (Prod.fst y + (1 : Int)) ≤ (↑(8 : Nat) : Int)))) fun y_1 =>
  bnd (iter (fun s ↦ W.ring_Num_Text.c100010 (List.take (Int.toNat (IntKind.wrap IntKind.i64 (Prod.fst y + (1 : Int)))) (Prod.fst a)) (↑(List.length (List.take (Int.toNat (IntKind.wrap IntKind.i64 (Prod.fst y + (1 : Int)))) (Prod.fst a))) : Int) (Prod.fst s) (Prod.snd s) some) ((0 : Int), [])) fun y_2 =>
  bnd (W.strings_Join (Prod.snd y_2) (Array.toList (ByteArray.data (ByteArray.mk #[(44 : UInt8)])))) fun y_3 =>
  bnd (W.ring_Num_Text.c261445 a y_3 some) fun y_4 =>
  some y_4
def ring_Num_Text.ce : Go.Ql.Callee := ⟨[(.st (.pair (.ar 8 (.st (.pair .bool (.sl (.int .u32))))) (.int .i64)))], [.str], fun x_ => ring_Num_Text x_⟩
def ring_Num_Text.G : Env := ⟨48, tab, [(24, whole_Int_Sign.ce), (29, whole_Int_Text.ce), (30, strings_Join.ce), (31, strconv_Itoa.ce)], [0, 1, 2, 3, 4, 5, 6, 8, 9, 11, 12, 13, 18, 24, 25, 26, 27, 40], [6, 8000001], [], [(261445, ring_Num_Text.c261445r), (100010, ring_Num_Text.c100010r), (100003, ring_Num_Text.c100003r), (216392, ring_Num_Text.c216392r)], [], tab_eqs, []⟩
theorem ring_Num_Text.eq (x_ : dens ring_Num_Text.ce.params) : den ring_Num_Text.G Tryd.f17 ring_Num_Text.ce.params ring_Num_Text.ce.res x_ = ring_Num_Text.ce.F x_ := by kernel_rfl
theorem ring_Num_Text.p0 : PcA ring_Num_Text.G Tryd.f17 0 :=
  loop_ok (s := ring_Num_Text.c100003r) (by kernel_rfl) (by kernel_rfl) (loops_of (sh := ring_Num_Text.c100003s) (I := fun x_ s_ => (x_.1, x_.2.1, x_.2.2.1, s_.1, x_.2.2.2.2.1, s_.2, ())) (fun x_ => rfl) (fun ρ x_ s_ k_ => (nat_br (nat_bnd fun _ => nat_leaf) nat_leaf)) (fun ρ x_ t k => (by kernel_rfl)) (fun x_ s => by kernel_rfl))
theorem ring_Num_Text.p1 : PcA ring_Num_Text.G Tryd.f17 1 :=
  join_ok (s := ring_Num_Text.c216392r) (by kernel_rfl) (by kernel_rfl) (sums_of (sh := ring_Num_Text.c216392s) (fun ρ x_ k_ => (nat_bnd fun _ => (nat_bnd fun _ => (nat_br nat_leaf nat_leaf)))) (fun ρ x_ t k => (by kernel_rfl)) (fun x_ => by kernel_rfl))
theorem ring_Num_Text.p2 : PcA ring_Num_Text.G Tryd.f17 2 :=
  loop_ok (s := ring_Num_Text.c100010r) (by kernel_rfl) (by kernel_rfl) (loops_of (sh := ring_Num_Text.c100010s) (I := fun x_ s_ => (x_.1, x_.2.1, x_.2.2.1, x_.2.2.2.1, x_.2.2.2.2.1, x_.2.2.2.2.2.1, x_.2.2.2.2.2.2.1, x_.2.2.2.2.2.2.2.1, s_.1, s_.2, ())) (fun x_ => rfl) (fun ρ x_ s_ k_ => (nat_br (nat_bnd fun _ => (nat_bnd fun _ => (nat_bnd fun _ => nat_leaf))) nat_leaf)) (fun ρ x_ t k => (by kernel_rfl)) (fun x_ s => by kernel_rfl))
theorem ring_Num_Text.p3 : PcA ring_Num_Text.G Tryd.f17 3 :=
  join_ok (s := ring_Num_Text.c261445r) (by kernel_rfl) (by kernel_rfl) (sums_of (sh := ring_Num_Text.c261445s) (fun ρ x_ k_ => (nat_br (nat_bnd fun _ => (nat_bnd fun _ => (nat_bnd fun _ => nat_leaf))) nat_leaf)) (fun ρ x_ t k => (by kernel_rfl)) (fun x_ => by kernel_rfl))
theorem ring_Num_Text.ok : CalleeOk Tryd.prog 17 ring_Num_Text.ce := fn_ok (G := ring_Num_Text.G) tab_ok mixed Tryd.func17 ⟨(fns_cons whole_Int_Sign.ok (fns_cons whole_Int_Text.ok (fns_cons strings_Join.ok (fns_cons strconv_Itoa.ok fns_nil)))), mfns_nil, tab_eqs_ok, alts_nil⟩ (m := 4) (by kernel_rfl) ⟨⟨⟨⟨trivial, ring_Num_Text.p0⟩, ring_Num_Text.p1⟩, ring_Num_Text.p2⟩, ring_Num_Text.p3⟩ (by kernel_rfl) ring_Num_Text.eq
def Law_ringBegun  : Option (Bool) :=
  bnd W.ring_Rt fun y =>
  bnd (W.ring_Num_Text y) fun y_1 =>
  some (y_1 == Array.toList (ByteArray.data (ByteArray.mk #[(48 : UInt8), (44 : UInt8), (48 : UInt8), (44 : UInt8), (49 : UInt8), (44 : UInt8), (48 : UInt8), (44 : UInt8), (48 : UInt8), (44 : UInt8), (48 : UInt8), (44 : UInt8), (45 : UInt8), (49 : UInt8), (47 : UInt8), (49 : UInt8)])))
def Law_ringBegun.ce : Go.Ql.Callee := ⟨[], [.bool], fun x_ => Law_ringBegun⟩
def Law_ringBegun.G : Env := ⟨4, tab, [(16, ring_Rt.ce), (17, ring_Num_Text.ce)], [0], [], [], [], [], tab_eqs, []⟩
theorem Law_ringBegun.eq (x_ : dens Law_ringBegun.ce.params) : den Law_ringBegun.G Tryd.f5 Law_ringBegun.ce.params Law_ringBegun.ce.res x_ = Law_ringBegun.ce.F x_ := by kernel_rfl
theorem Law_ringBegun.ok : CalleeOk Tryd.prog 5 Law_ringBegun.ce := fn_ok (G := Law_ringBegun.G) tab_ok mixed Tryd.func5 ⟨(fns_cons ring_Rt.ok (fns_cons ring_Num_Text.ok fns_nil)), mfns_nil, tab_eqs_ok, alts_nil⟩ (m := 0) (by kernel_rfl) trivial (by kernel_rfl) Law_ringBegun.eq
abbrev nb45 : SD := .one (.ref 1000000 0)
abbrev nb46 : SD := .one (.val (.int .u8))
abbrev nb47 : SO := .box [.val .str, .val (.int .i64)]
def ring_reader_meets.pre : Shape := ⟨[(0, nb45), (1, nb46)], [(1000000, nb47)]⟩
def ring_reader_meets.post : Shape := ⟨[(0, nb0)], [(1000000, nb47)]⟩
def ring_reader_meets.c1 {ρ : Type} (c : Int) (t10000000 : List UInt8) (t10000001 : Int) (k_ : Bool → Option ρ) : Option ρ :=
  br (decide (t10000001 < (↑(List.length t10000000) : Int)))
   (bnd (idx t10000000 t10000001) fun y =>
    k_ ((↑(UInt8.toNat y) : Int) == c))
   (k_ false)
def ring_reader_meets.c1s : Shape := ⟨[(0, nb45), (1, nb46), (4, nb0)], [(1000000, nb47)]⟩
def ring_reader_meets.c1x0 : Shape := ⟨[(0, nb45), (1, nb46), (4, nb0), (27, nb0)], [(1000000, nb47)]⟩
def ring_reader_meets.c1r : Ck := Ck.of (T := Bool) ring_reader_meets.c1s (fun ρ x_ k_ => ring_reader_meets.c1 x_.1 x_.2.2.1 x_.2.2.2.1 k_) (fun ρ x_ r_ k_ => k_ 0 (Shape.inj ring_reader_meets.c1x0 (x_.1, x_.2.1, r_, x_.2.2)))
def ring_reader_meets (c : Int) (t10000000 : List UInt8) (t10000001 : Int) : Option ((Bool) × (List UInt8) × (Int) × Unit) :=
  bnd (W.ring_reader_meets.c1 c t10000000 t10000001 some) fun y =>
  br y
   (some (true, t10000000, IntKind.wrap IntKind.i64 (t10000001 + (1 : Int)), ()))
   (some (false, t10000000, t10000001, ()))
def ring_reader_meets.mc : MCallee := ⟨49, ring_reader_meets.pre, ring_reader_meets.post, fun x_ => ring_reader_meets x_.1 x_.2.1 x_.2.2.1⟩
def ring_reader_meets.G : Env := ⟨35, tab, [], [0, 1, 4, 27], [], [(1, [⟨[], [], [9, 10, 11, 12, 13], []⟩, ⟨[0], [], [9, 10, 11, 12, 13], []⟩, ⟨[1, 0], [], [9, 10, 11, 12, 13], []⟩, ⟨[2, 1, 0], [], [9, 10, 11, 12, 13], []⟩, ⟨[], [], [5, 6, 7, 8], []⟩, ⟨[4], [], [5, 6, 7, 8], []⟩, ⟨[5, 4], [], [5, 6, 7, 8], []⟩, ⟨[6, 5, 4], [], [5, 6, 7, 8], []⟩, ⟨[7, 6, 5, 4], [], [5, 6, 7, 8], []⟩, ⟨[3, 2, 1, 0, 8, 7, 6, 5, 4], [], [], []⟩, ⟨[9, 3, 2, 1, 0, 8, 7, 6, 5, 4], [], [], []⟩, ⟨[10, 9, 3, 2, 1, 0, 8, 7, 6, 5, 4], [], [20, 21, 22, 23, 25], []⟩, ⟨[11, 10, 9, 3, 2, 1, 0, 8, 7, 6, 5, 4], [], [20, 21, 22, 23, 25], []⟩, ⟨[12, 11, 10, 9, 3, 2, 1, 0, 8, 7, 6, 5, 4], [], [20, 21, 22, 23, 25], []⟩, ⟨[13, 12, 11, 10, 9, 3, 2, 1, 0, 8, 7, 6, 5, 4], [], [20, 21, 22, 23, 25], []⟩, ⟨[10, 9, 3, 2, 1, 0, 8, 7, 6, 5, 4], [], [16, 17, 18, 19, 25], []⟩, ⟨[15, 10, 9, 3, 2, 1, 0, 8, 7, 6, 5, 4], [], [16, 17, 18, 19, 25], []⟩, ⟨[16, 15, 10, 9, 3, 2, 1, 0, 8, 7, 6, 5, 4], [], [16, 17, 18, 19, 25], []⟩, ⟨[17, 16, 15, 10, 9, 3, 2, 1, 0, 8, 7, 6, 5, 4], [], [16, 17, 18, 19, 25], []⟩, ⟨[14, 13, 12, 11, 10, 9, 3, 2, 1, 0, 8, 7, 6, 5, 4, 18, 17, 16, 15], [], [25], []⟩, ⟨[10, 9, 3, 2, 1, 0, 8, 7, 6, 5, 4], [], [16, 17, 18, 19, 20, 21, 22, 23, 24], []⟩, ⟨[19, 14, 13, 12, 11, 10, 9, 3, 2, 1, 0, 8, 7, 6, 5, 4, 18, 17, 16, 15, 20], [], [], []⟩, ⟨[10, 9, 3, 2, 1, 0, 8, 7, 6, 5, 4, 21, 19, 14, 13, 12, 11, 18, 17, 16, 15, 20], [], [], []⟩])], [(1, ring_reader_meets.c1r)], [], tab_eqs, []⟩
theorem ring_reader_meets.eq (x_ : densU ring_reader_meets.mc.pre.tys) : denM ring_reader_meets.G Tryd.f49 ring_reader_meets.mc.pre ring_reader_meets.mc.post x_ = ring_reader_meets.mc.F x_ := by kernel_rfl
theorem ring_reader_meets.p0 : PcA ring_reader_meets.G Tryd.f49 0 :=
  region_ok (s := ring_reader_meets.c1r) (by kernel_rfl) (by kernel_rfl) (sums_of (sh := ring_reader_meets.c1s) (fun ρ x_ k_ => (nat_br (nat_bnd fun _ => nat_leaf) nat_leaf)) (fun ρ x_ t k => (by kernel_rfl)) (fun x_ => by kernel_rfl))
theorem ring_reader_meets.ok : MOk Tryd.prog 49 ring_reader_meets.mc := fnm_ok (G := ring_reader_meets.G) tab_ok mixed Tryd.func49 ⟨fns_nil, mfns_nil, tab_eqs_ok, alts_nil⟩ (m := 1) (by kernel_rfl) ⟨trivial, ring_reader_meets.p0⟩ (by kernel_rfl) ring_reader_meets.eq
abbrev nb48 : SD := .one (.val (.ifc 54 (.st (.st (.pair (.int .i64) (.int .i64))))))
abbrev nb49 : SO := .clo 0 [] [.val (.ifc 54 (.st (.st (.pair (.int .i64) (.int .i64)))))]
def ring_reader_digits.pre : Shape := ⟨[(0, nb45), (1, nb0)], [(1000000, nb47)]⟩
def ring_reader_digits.post : Shape := ⟨[(0, nb39)], [(1000000, nb47)]⟩
def ring_reader_digits.post2 : Shape := ⟨[(0, nb48)], [(1000000, nb47)]⟩
def ring_reader_digits.c2 {ρ : Type} (t10000000 : List UInt8) (t10000001 : Int) (k_ : Bool → Option ρ) : Option ρ :=
  br (decide (t10000001 < (↑(List.length t10000000) : Int)))
   (bnd (idx t10000000 t10000001) fun y =>
    br (decide ((48 : Int) ≤ (↑(UInt8.toNat y) : Int)))
     (bnd (idx t10000000 t10000001) fun y_1 =>
      k_ (decide ((↑(UInt8.toNat y_1) : Int) ≤ (57 : Int))))
     (k_ false))
   (k_ false)
def ring_reader_digits.c2s : Shape := ⟨[(0, nb45), (1, nb0), (4, nb39), (5, nb3)], [(1000000, nb47)]⟩
def ring_reader_digits.c2x0 : Shape := ⟨[(0, nb45), (1, nb0), (4, nb39), (5, nb3), (43, nb0)], [(1000000, nb47)]⟩
def ring_reader_digits.c2r : Ck := Ck.of (T := Bool) ring_reader_digits.c2s (fun ρ x_ k_ => ring_reader_digits.c2 x_.2.2.2.1 x_.2.2.2.2.1 k_) (fun ρ x_ r_ k_ => k_ 0 (Shape.inj ring_reader_digits.c2x0 (x_.1, x_.2.1, x_.2.2.1, r_, x_.2.2.2)))
def ring_reader_digits.c3 {ρ : Type} (nought : Bool) (t5 : Int) (t10000000 : List UInt8) (t10000001 : Int) (k_ : Bool → Option ρ) : Option ρ :=
  bnd (idx t10000000 t5) fun y =>
  br ((↑(UInt8.toNat y) : Int) == (48 : Int))
   (br (!nought)
     (k_ true)
     (k_ (decide (t10000001 > t5))))
   (k_ false)
def ring_reader_digits.c3s : Shape := ring_reader_digits.c2s
def ring_reader_digits.c3x0 : Shape := ⟨[(0, nb45), (1, nb0), (4, nb39), (5, nb3), (62, nb0)], [(1000000, nb47)]⟩
def ring_reader_digits.c3r : Ck := Ck.of (T := Bool) ring_reader_digits.c3s (fun ρ x_ k_ => ring_reader_digits.c3 x_.1 x_.2.2.1 x_.2.2.2.1 x_.2.2.2.2.1 k_) (fun ρ x_ r_ k_ => k_ 0 (Shape.inj ring_reader_digits.c3x0 (x_.1, x_.2.1, x_.2.2.1, r_, x_.2.2.2)))
def ring_reader_digits.c100002 {ρ : Type} (nought : Bool) (t5 : Int) (t10000000 : List UInt8) (t10000001 : Int) (k_ : (Int) ⊕ (Int) → Option ρ) : Option ρ :=
  bnd (W.ring_reader_digits.c2 t10000000 t10000001 some) fun y =>
  br y
   (bnd (W.ring_reader_digits.c3 nought t5 t10000000 t10000001 some) fun y_1 =>
    br y_1
     (k_ (.inr t10000001))
     (k_ (.inl (IntKind.wrap IntKind.i64 (t10000001 + (1 : Int))))))
   (k_ (.inr t10000001))
def ring_reader_digits.c100002s : Shape := ring_reader_digits.c2s
def ring_reader_digits.c100002x0 : Shape := ring_reader_digits.c2s
def ring_reader_digits.c100002r : Ck := Ck.ofLoop (S := Int) (T := Int) ring_reader_digits.c100002s (fun x_ => x_.2.2.2.2.1) (fun ρ x_ s_ k_ => ring_reader_digits.c100002 x_.1 x_.2.2.1 x_.2.2.2.1 s_ k_) (fun ρ x_ r_ k_ => k_ 2 (Shape.inj ring_reader_digits.c100002x0 (x_.1, x_.2.1, x_.2.2.1, x_.2.2.2.1, r_, ())))
def ring_reader_digits.c220485 {ρ : Type} (t5 : Int) (t10000001 : Int) (k_ : (Unit) ⊕ (Unit) → Option ρ) : Option ρ :=
  br (t10000001 == t5)
   (k_ (.inl ()))
   (k_ (.inr ()))
def ring_reader_digits.c220485s : Shape := ring_reader_digits.c2s
def ring_reader_digits.c220485x0 : Shape := ⟨[(0, nb45), (1, nb0), (4, nb39), (5, nb3)], [(900001, nb49), (1000000, nb47)]⟩
def ring_reader_digits.c220485x1 : Shape := ring_reader_digits.c2s
def ring_reader_digits.c220485r : Ck := Ck.of (T := (Unit) ⊕ (Unit)) ring_reader_digits.c220485s (fun ρ x_ k_ => ring_reader_digits.c220485 x_.2.2.1 x_.2.2.2.2.1 k_) (fun ρ x_ r_ k_ => sel r_ (fun r_ => k_ 1000000 (Shape.inj ring_reader_digits.c220485x0 (x_.1, x_.2.1, x_.2.2.1, ((1 : Int), x_.2.2.2.2.1), x_.2.2.2))) (fun r_ => k_ 0 (Shape.inj ring_reader_digits.c220485x1 x_)))
def ring_reader_digits.c7 {ρ : Type} (t5 : Int) (t10000000 : List UInt8) (t10000001 : Int) (k_ : Unit → Option ρ) : Option ρ :=
  bnd (okIf (decide ((0 : Int) ≤ t5) && decide (t5 ≤ t10000001) && decide (t10000001 ≤ (↑(List.length t10000000) : Int)))) fun y =>
  k_ ()
def ring_reader_digits.c7s : Shape := ring_reader_digits.c2s
def ring_reader_digits.c7x0 : Shape := ring_reader_digits.c2s
def ring_reader_digits.c7r : Ck := Ck.of (T := Unit) ring_reader_digits.c7s (fun ρ x_ k_ => ring_reader_digits.c7 x_.2.2.1 x_.2.2.2.1 x_.2.2.2.2.1 k_) (fun ρ x_ r_ k_ => k_ 0 (Shape.inj ring_reader_digits.c7x0 (x_.1, (List.drop (Int.toNat x_.2.2.1) (List.take (Int.toNat x_.2.2.2.2.1) x_.2.2.2.1)), x_.2.2)))
def ring_reader_digits (nought : Bool) (t10000000 : List UInt8) (t10000001 : Int) : Option (((List UInt8) × (List UInt8) × (Int) × Unit) ⊕ (((Int) × (Int)) × (List UInt8) × (Int) × Unit)) :=
  bnd (iter (fun s ↦ W.ring_reader_digits.c100002 nought t10000001 t10000000 s some) t10000001) fun y =>
  bnd (W.ring_reader_digits.c220485 t10000001 y some) fun y_1 =>
  sel y_1
   (fun u => some (Sum.inr (((1 : Int), y), t10000000, y, ())))
   (fun v => bnd (W.ring_reader_digits.c7 t10000001 t10000000 y some) fun y_2 =>
    some (Sum.inl (List.drop (Int.toNat t10000001) (List.take (Int.toNat y) t10000000), t10000000, y, ())))
def ring_reader_digits.ma : MAlt := ⟨50, ring_reader_digits.pre, ring_reader_digits.post, true, ring_reader_digits.post2, fun x_ => ring_reader_digits x_.1 x_.2.1 x_.2.2.1⟩
def ring_reader_digits.G : Env := ⟨93, tab, [], [0, 1, 4, 5, 43, 62, 75], [], [(7, [⟨[], [], [87, 88, 89, 90, 91], []⟩, ⟨[0], [], [87, 88, 89, 90, 91], []⟩, ⟨[1, 0], [], [87, 88, 89, 90, 91], []⟩, ⟨[2, 1, 0], [], [87, 88, 89, 90, 91], []⟩, ⟨[], [], [83, 84, 85, 86, 88, 89, 90, 91], []⟩, ⟨[], [], [83, 84, 85, 86, 87], []⟩, ⟨[5], [], [83, 84, 85, 86, 87], []⟩, ⟨[6, 5], [], [83, 84, 85, 86, 87], []⟩, ⟨[7, 6, 5], [], [83, 84, 85, 86, 87], []⟩, ⟨[3, 2, 1, 0, 4, 8, 7, 6, 5], [], [], []⟩, ⟨[9, 3, 2, 1, 0, 4, 8, 7, 6, 5], [], [], []⟩]),
  (2, [⟨[], [], [14, 15, 16, 17, 18], []⟩, ⟨[0], [], [14, 15, 16, 17, 18], []⟩, ⟨[1, 0], [], [14, 15, 16, 17, 18], []⟩, ⟨[2, 1, 0], [], [14, 15, 16, 17, 18], []⟩, ⟨[], [], [10, 11, 12, 13], []⟩, ⟨[4], [], [10, 11, 12, 13], []⟩, ⟨[5, 4], [], [10, 11, 12, 13], []⟩, ⟨[6, 5, 4], [], [10, 11, 12, 13], []⟩, ⟨[7, 6, 5, 4], [], [10, 11, 12, 13], []⟩, ⟨[3, 2, 1, 0, 8, 7, 6, 5, 4], [], [], []⟩, ⟨[9, 3, 2, 1, 0, 8, 7, 6, 5, 4], [], [], []⟩, ⟨[10, 9, 3, 2, 1, 0, 8, 7, 6, 5, 4], [], [25, 26, 27, 28], []⟩, ⟨[11, 10, 9, 3, 2, 1, 0, 8, 7, 6, 5, 4], [], [25, 26, 27, 28], []⟩, ⟨[12, 11, 10, 9, 3, 2, 1, 0, 8, 7, 6, 5, 4], [], [25, 26, 27, 28], []⟩, ⟨[13, 12, 11, 10, 9, 3, 2, 1, 0, 8, 7, 6, 5, 4], [], [25, 26, 27, 28], []⟩, ⟨[10, 9, 3, 2, 1, 0, 8, 7, 6, 5, 4], [], [21, 22, 23, 24], []⟩, ⟨[15, 10, 9, 3, 2, 1, 0, 8, 7, 6, 5, 4], [], [21, 22, 23, 24], []⟩, ⟨[16, 15, 10, 9, 3, 2, 1, 0, 8, 7, 6, 5, 4], [], [21, 22, 23, 24], []⟩, ⟨[17, 16, 15, 10, 9, 3, 2, 1, 0, 8, 7, 6, 5, 4], [], [21, 22, 23, 24], []⟩, ⟨[14, 13, 12, 11, 10, 9, 3, 2, 1, 0, 8, 7, 6, 5, 4, 18, 17, 16, 15], [], [], []⟩, ⟨[19, 14, 13, 12, 11, 10, 9, 3, 2, 1, 0, 8, 7, 6, 5, 4, 18, 17, 16, 15], [], [], []⟩, ⟨[10, 9, 3, 2, 1, 0, 8, 7, 6, 5, 4, 20, 19, 14, 13, 12, 11, 18, 17, 16, 15], [], [], []⟩, ⟨[21, 10, 9, 3, 2, 1, 0, 8, 7, 6, 5, 4, 20, 19, 14, 13, 12, 11, 18, 17, 16, 15], [], [], []⟩, ⟨[22, 21, 10, 9, 3, 2, 1, 0, 8, 7, 6, 5, 4, 20, 19, 14, 13, 12, 11, 18, 17, 16, 15], [], [37, 38, 39, 40], []⟩, ⟨[23, 22, 21, 10, 9, 3, 2, 1, 0, 8, 7, 6, 5, 4, 20, 19, 14, 13, 12, 11, 18, 17, 16, 15], [], [37, 38, 39, 40], []⟩, ⟨[24, 23, 22, 21, 10, 9, 3, 2, 1, 0, 8, 7, 6, 5, 4, 20, 19, 14, 13, 12, 11, 18, 17, 16, 15], [], [37, 38, 39, 40], []⟩, ⟨[25, 24, 23, 22, 21, 10, 9, 3, 2, 1, 0, 8, 7, 6, 5, 4, 20, 19, 14, 13, 12, 11, 18, 17, 16, 15], [], [37, 38, 39, 40], []⟩, ⟨[22, 21, 10, 9, 3, 2, 1, 0, 8, 7, 6, 5, 4, 20, 19, 14, 13, 12, 11, 18, 17, 16, 15], [], [33, 34, 35, 36], []⟩, ⟨[27, 22, 21, 10, 9, 3, 2, 1, 0, 8, 7, 6, 5, 4, 20, 19, 14, 13, 12, 11, 18, 17, 16, 15], [], [33, 34, 35, 36], []⟩, ⟨[28, 27, 22, 21, 10, 9, 3, 2, 1, 0, 8, 7, 6, 5, 4, 20, 19, 14, 13, 12, 11, 18, 17, 16, 15], [], [33, 34, 35, 36], []⟩, ⟨[29, 28, 27, 22, 21, 10, 9, 3, 2, 1, 0, 8, 7, 6, 5, 4, 20, 19, 14, 13, 12, 11, 18, 17, 16, 15], [], [33, 34, 35, 36], []⟩, ⟨[26, 25, 24, 23, 22, 21, 10, 9, 3, 2, 1, 0, 8, 7, 6, 5, 4, 20, 19, 14, 13, 12, 11, 18, 17, 16, 15, 30, 29, 28, 27], [], [], []⟩, ⟨[31, 26, 25, 24, 23, 22, 21, 10, 9, 3, 2, 1, 0, 8, 7, 6, 5, 4, 20, 19, 14, 13, 12, 11, 18, 17, 16, 15, 30, 29, 28, 27], [], [], []⟩, ⟨[22, 21, 10, 9, 3, 2, 1, 0, 8, 7, 6, 5, 4, 20, 19, 14, 13, 12, 11, 18, 17, 16, 15, 32, 31, 26, 25, 24, 23, 30, 29, 28, 27], [], [], []⟩])], [(7, ring_reader_digits.c7r), (220485, ring_reader_digits.c220485r), (100002, ring_reader_digits.c100002r), (3, ring_reader_digits.c3r), (2, ring_reader_digits.c2r)], [], tab_eqs, []⟩
theorem ring_reader_digits.eq (x_ : densU ring_reader_digits.ma.pre.tys) : denA ring_reader_digits.G Tryd.f50 ring_reader_digits.ma.pre ring_reader_digits.ma.post ring_reader_digits.ma.pan ring_reader_digits.ma.post2 x_ = ring_reader_digits.ma.F x_ := by kernel_rfl
theorem ring_reader_digits.p0 : PcA ring_reader_digits.G Tryd.f50 0 :=
  loop_ok (s := ring_reader_digits.c100002r) (by kernel_rfl) (by kernel_rfl) (loops_of (sh := ring_reader_digits.c100002s) (I := fun x_ s_ => (x_.1, x_.2.1, x_.2.2.1, x_.2.2.2.1, s_, ())) (fun x_ => rfl) (fun ρ x_ s_ k_ => (nat_bnd fun _ => (nat_br (nat_bnd fun _ => (nat_br nat_leaf nat_leaf)) nat_leaf))) (fun ρ x_ t k => (by kernel_rfl)) (fun x_ s => by kernel_rfl))
theorem ring_reader_digits.p1 : PcA ring_reader_digits.G Tryd.f50 1 :=
  region_ok (s := ring_reader_digits.c2r) (by kernel_rfl) (by kernel_rfl) (sums_of (sh := ring_reader_digits.c2s) (fun ρ x_ k_ => (nat_br (nat_bnd fun _ => (nat_br (nat_bnd fun _ => nat_leaf) nat_leaf)) nat_leaf)) (fun ρ x_ t k => (by kernel_rfl)) (fun x_ => by kernel_rfl))
theorem ring_reader_digits.p2 : PcA ring_reader_digits.G Tryd.f50 2 :=
  region_ok (s := ring_reader_digits.c3r) (by kernel_rfl) (by kernel_rfl) (sums_of (sh := ring_reader_digits.c3s) (fun ρ x_ k_ => (nat_bnd fun _ => (nat_br (nat_br nat_leaf nat_leaf) nat_leaf))) (fun ρ x_ t k => (by kernel_rfl)) (fun x_ => by kernel_rfl))
theorem ring_reader_digits.p3 : PcA ring_reader_digits.G Tryd.f50 3 :=
  join_ok (s := ring_reader_digits.c220485r) (by kernel_rfl) (by kernel_rfl) (sums_of (sh := ring_reader_digits.c220485s) (fun ρ x_ k_ => (nat_br nat_leaf nat_leaf)) (fun ρ x_ t k => (nat_sel (fun _ => (by kernel_rfl)) (fun _ => (by kernel_rfl)))) (fun x_ => by kernel_rfl))
theorem ring_reader_digits.p4 : PcA ring_reader_digits.G Tryd.f50 4 :=
  region_ok (s := ring_reader_digits.c7r) (by kernel_rfl) (by kernel_rfl) (sums_of (sh := ring_reader_digits.c7s) (fun ρ x_ k_ => (nat_bnd fun _ => nat_leaf)) (fun ρ x_ t k => (by kernel_rfl)) (fun x_ => by kernel_rfl))
theorem ring_reader_digits.ok : AltOk Tryd.prog 50 ring_reader_digits.ma := fna_ok (G := ring_reader_digits.G) tab_ok mixed Tryd.func50 ⟨fns_nil, mfns_nil, tab_eqs_ok, alts_nil⟩ (m := 5) (by kernel_rfl) ⟨⟨⟨⟨⟨trivial, ring_reader_digits.p0⟩, ring_reader_digits.p1⟩, ring_reader_digits.p2⟩, ring_reader_digits.p3⟩, ring_reader_digits.p4⟩ (by kernel_rfl) ring_reader_digits.eq
abbrev nb50 : SD := .one (.val (.sl .str))
def ring_reader_all.pre : Shape := ⟨[(0, nb45)], [(1000000, nb47)]⟩
def ring_reader_all.post : Shape := ⟨[(0, nb50), (1, nb39)], [(1000000, nb47)]⟩
def ring_reader_all.post2 : Shape := ⟨[(0, nb48)], [(1000000, nb47)]⟩
def ring_reader_all.c212293 {ρ : Type} (sign : List UInt8) (t10000000 : List UInt8) (t10000001 : Int) (k_ : (List UInt8) × (List UInt8) × (Int) → Option ρ) : Option ρ :=
  bnd (W.ring_reader_meets (45 : Int) t10000000 t10000001) fun y =>
  br (Prod.fst y)
   (k_ ((Array.toList (ByteArray.data (ByteArray.mk #[(45 : UInt8)]))), (Prod.fst y.2), (Prod.fst y.2.2)))
   (k_ (sign, (Prod.fst y.2), (Prod.fst y.2.2)))
def ring_reader_all.c212293s : Shape := ⟨[(0, nb45), (2, nb50), (3, nb39), (4, nb15), (5, nb39)], [(4, nb44), (1000000, nb47)]⟩
def ring_reader_all.c212293x0 : Shape := ring_reader_all.c212293s
def ring_reader_all.c212293r : Ck := Ck.of (T := (List UInt8) × (List UInt8) × (Int)) ring_reader_all.c212293s (fun ρ x_ k_ => ring_reader_all.c212293 x_.2.2.1 x_.2.2.2.2.1 x_.2.2.2.2.2.1 k_) (fun ρ x_ r_ k_ => k_ 0 (Shape.inj ring_reader_all.c212293x0 (x_.1, x_.2.1, r_.1, x_.2.2.2.1, r_.2.1, r_.2.2, ())))
def ring_reader_all.c6 {ρ : Type} (cs : List (List UInt8)) (t10000000 : List UInt8) (t10000001 : Int) (k_ : (Bool) × (List UInt8) × (Int) → Option ρ) : Option ρ :=
  br ((↑(List.length cs) : Int) == (8 : Int))
   (k_ (true, t10000000, t10000001))
   (bnd (W.ring_reader_meets (44 : Int) t10000000 t10000001) fun y =>
    k_ ((!Prod.fst y), (Prod.fst y.2), (Prod.fst y.2.2)))
def ring_reader_all.c6s : Shape := ring_reader_all.c212293s
def ring_reader_all.c6x0 : Shape := ⟨[(0, nb45), (2, nb50), (3, nb39), (4, nb15), (5, nb39), (25, nb0)], [(4, nb44), (1000000, nb47)]⟩
def ring_reader_all.c6r : Ck := Ck.of (T := (Bool) × (List UInt8) × (Int)) ring_reader_all.c6s (fun ρ x_ k_ => ring_reader_all.c6 x_.2.2.2.1 x_.2.2.2.2.1 x_.2.2.2.2.2.1 k_) (fun ρ x_ r_ k_ => k_ 0 (Shape.inj ring_reader_all.c6x0 (x_.1, x_.2.1, x_.2.2.1, r_.1, x_.2.2.2.1, r_.2.1, r_.2.2, ())))
def ring_reader_all.c100002 {ρ : Type} (cs : List (List UInt8)) (t10000000 : List UInt8) (t10000001 : Int) (k_ : ((List (List UInt8)) × (List UInt8) × (Int)) ⊕ (((List (List UInt8)) × (List UInt8) × (Int)) ⊕ ((List (List UInt8)) × ((Int) × (Int)) × (List UInt8) × (Int))) → Option ρ) : Option ρ :=
  bnd (W.ring_reader_all.c212293 (Array.toList (ByteArray.data (ByteArray.mk #[]))) t10000000 t10000001 some) fun y =>
  bnd (W.ring_reader_digits (Prod.fst y == Array.toList (ByteArray.data (ByteArray.mk #[]))) (Prod.fst (Prod.snd y)) (Prod.snd (Prod.snd y))) fun y_1 =>
  sel y_1
   (fun u => bnd (okIf (decide (List.length (Prod.fst y) + List.length (Prod.fst u) ≤ (9223372036854775807 : Nat)))) fun y_2 =>
    bnd (okIf (decide ((List.length cs + (1 : Nat)) * (16 : Nat) ≤ (140737488355328 : Nat)) && decide (List.length cs + (1 : Nat) ≤ (140737488355328 : Nat)))) fun y_3 =>
    bnd (W.ring_reader_all.c6 (cs ++ [Prod.fst y ++ Prod.fst u]) (Prod.fst u.2) (Prod.fst u.2.2) some) fun y_4 =>
    br (Prod.fst y_4)
     (k_ (.inr (.inl ((cs ++ [Prod.fst y ++ Prod.fst u]), (Prod.fst (Prod.snd y_4)), (Prod.snd (Prod.snd y_4))))))
     (k_ (.inl ((cs ++ [Prod.fst y ++ Prod.fst u]), (Prod.fst (Prod.snd y_4)), (Prod.snd (Prod.snd y_4))))))
   (fun v => k_ (.inr (.inr (cs, (Prod.fst v), (Prod.fst v.2), (Prod.fst v.2.2)))))
def ring_reader_all.c100002s : Shape := ⟨[(0, nb45), (2, nb50), (3, nb39), (4, nb15)], [(4, nb44), (1000000, nb47)]⟩
def ring_reader_all.c100002x0 : Shape := ring_reader_all.c100002s
def ring_reader_all.c100002x1 : Shape := ⟨[(0, nb45), (2, nb50), (3, nb39), (4, nb15)], [(4, nb44), (900001, nb49), (1000000, nb47)]⟩
def ring_reader_all.c100002r : Ck := Ck.ofLoop (S := (List (List UInt8)) × (List UInt8) × (Int)) (T := ((List (List UInt8)) × (List UInt8) × (Int)) ⊕ ((List (List UInt8)) × ((Int) × (Int)) × (List UInt8) × (Int))) ring_reader_all.c100002s (fun x_ => (x_.2.2.1, x_.2.2.2.1, x_.2.2.2.2.1)) (fun ρ x_ s_ k_ => ring_reader_all.c100002 s_.1 s_.2.1 s_.2.2 k_) (fun ρ x_ r_ k_ => sel r_ (fun r_ => k_ 2 (Shape.inj ring_reader_all.c100002x0 (x_.1, x_.2.1, r_.1, r_.2.1, r_.2.2, ()))) (fun r_ => k_ 1000000 (Shape.inj ring_reader_all.c100002x1 (x_.1, x_.2.1, r_.1, r_.2.1, r_.2.2.1, r_.2.2.2, ()))))
def ring_reader_all.c232773 {ρ : Type} (e : List UInt8) (t10000000 : List UInt8) (t10000001 : Int) (k_ : ((List UInt8) × (List UInt8) × (Int)) ⊕ (((Int) × (Int)) × (List UInt8) × (Int)) → Option ρ) : Option ρ :=
  bnd (W.ring_reader_meets (47 : Int) t10000000 t10000001) fun y =>
  br (Prod.fst y)
   (bnd (W.ring_reader_digits false (Prod.fst y.2) (Prod.fst y.2.2)) fun y_1 =>
    sel y_1
     (fun u => k_ (.inl ((Prod.fst u), (Prod.fst u.2), (Prod.fst u.2.2))))
     (fun v => k_ (.inr ((Prod.fst v), (Prod.fst v.2), (Prod.fst v.2.2)))))
   (k_ (.inl (e, (Prod.fst y.2), (Prod.fst y.2.2))))
def ring_reader_all.c232773s : Shape := ⟨[(0, nb45), (2, nb50), (3, nb39), (4, nb15), (6, nb39)], [(4, nb44), (1000000, nb47)]⟩
def ring_reader_all.c232773x0 : Shape := ring_reader_all.c232773s
def ring_reader_all.c232773x1 : Shape := ⟨[(0, nb45), (2, nb50), (3, nb39), (4, nb15), (6, nb39)], [(4, nb44), (900001, nb49), (1000000, nb47)]⟩
def ring_reader_all.c232773r : Ck := Ck.of (T := ((List UInt8) × (List UInt8) × (Int)) ⊕ (((Int) × (Int)) × (List UInt8) × (Int))) ring_reader_all.c232773s (fun ρ x_ k_ => ring_reader_all.c232773 x_.2.2.1 x_.2.2.2.2.1 x_.2.2.2.2.2.1 k_) (fun ρ x_ r_ k_ => sel r_ (fun r_ => k_ 0 (Shape.inj ring_reader_all.c232773x0 (x_.1, x_.2.1, r_.1, x_.2.2.2.1, r_.2.1, r_.2.2, ()))) (fun r_ => k_ 1000000 (Shape.inj ring_reader_all.c232773x1 (x_.1, x_.2.1, x_.2.2.1, x_.2.2.2.1, r_.1, r_.2.1, r_.2.2, ()))))
def ring_reader_all.c10 {ρ : Type}  (k_ : Unit → Option ρ) : Option ρ :=
  k_ ()
def ring_reader_all.c10s : Shape := ring_reader_all.c232773s
def ring_reader_all.c10x0 : Shape := ⟨[(0, nb45), (2, nb50), (3, nb39), (4, nb15), (6, nb39), (39, nb0)], [(4, nb44), (1000000, nb47)]⟩
def ring_reader_all.c10r : Ck := Ck.of (T := Unit) ring_reader_all.c10s (fun ρ x_ k_ => ring_reader_all.c10  k_) (fun ρ x_ r_ k_ => k_ 0 (Shape.inj ring_reader_all.c10x0 (x_.1, x_.2.1, x_.2.2.1, (decide (x_.2.2.2.2.2.1 < (↑(List.length x_.2.2.2.2.1) : Int))), x_.2.2.2)))
def ring_reader_all.c240965 {ρ : Type} (t10000000 : List UInt8) (t10000001 : Int) (k_ : (Unit) ⊕ (Unit) → Option ρ) : Option ρ :=
  bnd (W.ring_reader_all.c10 some) fun y =>
  br (decide (t10000001 < (↑(List.length t10000000) : Int)))
   (k_ (.inl ()))
   (k_ (.inr ()))
def ring_reader_all.c240965s : Shape := ring_reader_all.c232773s
def ring_reader_all.c240965x0 : Shape := ring_reader_all.c232773x1
def ring_reader_all.c240965x1 : Shape := ring_reader_all.c232773s
def ring_reader_all.c240965r : Ck := Ck.of (T := (Unit) ⊕ (Unit)) ring_reader_all.c240965s (fun ρ x_ k_ => ring_reader_all.c240965 x_.2.2.2.2.1 x_.2.2.2.2.2.1 k_) (fun ρ x_ r_ k_ => sel r_ (fun r_ => k_ 1000000 (Shape.inj ring_reader_all.c240965x0 (x_.1, x_.2.1, x_.2.2.1, x_.2.2.2.1, ((1 : Int), x_.2.2.2.2.2.1), x_.2.2.2.2))) (fun r_ => k_ 0 (Shape.inj ring_reader_all.c240965x1 x_)))
def ring_reader_all (t10000000 : List UInt8) (t10000001 : Int) : Option (((List (List UInt8)) × (List UInt8) × (List UInt8) × (Int) × Unit) ⊕ (((Int) × (Int)) × (List UInt8) × (Int) × Unit)) :=
  bnd (iter (fun s ↦ W.ring_reader_all.c100002 (Prod.fst s) (Prod.fst (Prod.snd s)) (Prod.snd (Prod.snd s)) some) ([], t10000000, t10000001)) fun y =>
  sel y
   (fun u => bnd (W.ring_reader_all.c232773 (Array.toList (ByteArray.data (ByteArray.mk #[]))) (Prod.fst (Prod.snd u)) (Prod.snd (Prod.snd u)) some) fun y_1 =>
    sel y_1
     (fun u_1 => bnd (W.ring_reader_all.c240965 (Prod.fst (Prod.snd u_1)) (Prod.snd (Prod.snd u_1)) some) fun y_2 =>
      sel y_2
       (fun u_2 => some (Sum.inr (((1 : Int), Prod.snd (Prod.snd u_1)), Prod.fst (Prod.snd u_1), Prod.snd (Prod.snd u_1), ())))
       (fun v_2 => some (Sum.inl (Prod.fst u, Prod.fst u_1, Prod.fst (Prod.snd u_1), Prod.snd (Prod.snd u_1), ()))))
     (fun v_1 => some (Sum.inr (Prod.fst v_1, Prod.fst (Prod.snd v_1), Prod.snd (Prod.snd v_1), ()))))
   (fun v => some (Sum.inr (Prod.fst (Prod.snd v), Prod.fst (Prod.snd (Prod.snd v)), Prod.snd (Prod.snd (Prod.snd v)), ())))
def ring_reader_all.ma : MAlt := ⟨33, ring_reader_all.pre, ring_reader_all.post, true, ring_reader_all.post2, fun x_ => ring_reader_all x_.1 x_.2.1⟩
def ring_reader_all.G : Env := ⟨49, tab, [], [0, 2, 3, 4, 5, 6, 8, 25, 27, 39], [4], [(10, [⟨[], [], [34, 35, 36, 37, 38], []⟩, ⟨[0], [], [34, 35, 36, 37, 38], []⟩, ⟨[1, 0], [], [34, 35, 36, 37, 38], []⟩, ⟨[2, 1, 0], [], [34, 35, 36, 37, 38], []⟩, ⟨[], [], [30, 31, 32, 33], []⟩, ⟨[4], [], [30, 31, 32, 33], []⟩, ⟨[5, 4], [], [30, 31, 32, 33], []⟩, ⟨[6, 5, 4], [], [30, 31, 32, 33], []⟩, ⟨[7, 6, 5, 4], [], [30, 31, 32, 33], []⟩, ⟨[3, 2, 1, 0, 8, 7, 6, 5, 4], [], [], []⟩])], [(240965, ring_reader_all.c240965r), (10, ring_reader_all.c10r), (232773, ring_reader_all.c232773r), (100002, ring_reader_all.c100002r), (6, ring_reader_all.c6r), (212293, ring_reader_all.c212293r)], [(49, ring_reader_meets.mc)], tab_eqs, [(50, ring_reader_digits.ma)]⟩
theorem ring_reader_all.eq (x_ : densU ring_reader_all.ma.pre.tys) : denA ring_reader_all.G Tryd.f33 ring_reader_all.ma.pre ring_reader_all.ma.post ring_reader_all.ma.pan ring_reader_all.ma.post2 x_ = ring_reader_all.ma.F x_ := by kernel_rfl
theorem ring_reader_all.p0 : PcA ring_reader_all.G Tryd.f33 0 :=
  loop_ok (s := ring_reader_all.c100002r) (by kernel_rfl) (by kernel_rfl) (loops_of (sh := ring_reader_all.c100002s) (I := fun x_ s_ => (x_.1, x_.2.1, s_.1, s_.2.1, s_.2.2, ())) (fun x_ => rfl) (fun ρ x_ s_ k_ => (nat_bnd fun _ => (nat_bnd fun _ => (nat_sel (fun _ => (nat_bnd fun _ => (nat_bnd fun _ => (nat_bnd fun _ => (nat_br nat_leaf nat_leaf))))) (fun _ => nat_leaf))))) (fun ρ x_ t k => (nat_sel (fun _ => (by kernel_rfl)) (fun _ => (by kernel_rfl)))) (fun x_ s => by kernel_rfl))
theorem ring_reader_all.p1 : PcA ring_reader_all.G Tryd.f33 1 :=
  join_ok (s := ring_reader_all.c212293r) (by kernel_rfl) (by kernel_rfl) (sums_of (sh := ring_reader_all.c212293s) (fun ρ x_ k_ => (nat_bnd fun _ => (nat_br nat_leaf nat_leaf))) (fun ρ x_ t k => (by kernel_rfl)) (fun x_ => by kernel_rfl))
theorem ring_reader_all.p2 : PcA ring_reader_all.G Tryd.f33 2 :=
  region_ok (s := ring_reader_all.c6r) (by kernel_rfl) (by kernel_rfl) (sums_of (sh := ring_reader_all.c6s) (fun ρ x_ k_ => (nat_br nat_leaf (nat_bnd fun _ => nat_leaf))) (fun ρ x_ t k => (by kernel_rfl)) (fun x_ => by kernel_rfl))
theorem ring_reader_all.p3 : PcA ring_reader_all.G Tryd.f33 3 :=
  join_ok (s := ring_reader_all.c232773r) (by kernel_rfl) (by kernel_rfl) (sums_of (sh := ring_reader_all.c232773s) (fun ρ x_ k_ => (nat_bnd fun _ => (nat_br (nat_bnd fun _ => (nat_sel (fun _ => nat_leaf) (fun _ => nat_leaf))) nat_leaf))) (fun ρ x_ t k => (nat_sel (fun _ => (by kernel_rfl)) (fun _ => (by kernel_rfl)))) (fun x_ => by kernel_rfl))
theorem ring_reader_all.p4 : PcA ring_reader_all.G Tryd.f33 4 :=
  join_ok (s := ring_reader_all.c240965r) (by kernel_rfl) (by kernel_rfl) (sums_of (sh := ring_reader_all.c240965s) (fun ρ x_ k_ => (nat_bnd fun _ => (nat_br nat_leaf nat_leaf))) (fun ρ x_ t k => (nat_sel (fun _ => (by kernel_rfl)) (fun _ => (by kernel_rfl)))) (fun x_ => by kernel_rfl))
theorem ring_reader_all.p5 : PcA ring_reader_all.G Tryd.f33 5 :=
  region_ok (s := ring_reader_all.c10r) (by kernel_rfl) (by kernel_rfl) (sums_of (sh := ring_reader_all.c10s) (fun ρ x_ k_ => nat_leaf) (fun ρ x_ t k => (by kernel_rfl)) (fun x_ => by kernel_rfl))
theorem ring_reader_all.ok : AltOk Tryd.prog 33 ring_reader_all.ma := fna_ok (G := ring_reader_all.G) tab_ok mixed Tryd.func33 ⟨fns_nil, (mfns_cons ring_reader_meets.ok mfns_nil), tab_eqs_ok, (alts_cons ring_reader_digits.ok alts_nil)⟩ (m := 6) (by kernel_rfl) ⟨⟨⟨⟨⟨⟨trivial, ring_reader_all.p0⟩, ring_reader_all.p1⟩, ring_reader_all.p2⟩, ring_reader_all.p3⟩, ring_reader_all.p4⟩, ring_reader_all.p5⟩ (by kernel_rfl) ring_reader_all.eq
def stringslite_HasPrefix.c1 {ρ : Type} (s : List UInt8) (t1 : List UInt8) (k_ : Bool → Option ρ) : Option ρ :=
  br (decide ((↑(List.length s) : Int) ≥ (↑(List.length t1) : Int)))
   (bnd (okIf (decide ((0 : Int) ≤ (↑(List.length t1) : Int)) && decide ((↑(List.length t1) : Int) ≤ (↑(List.length s) : Int)))) fun y =>
    k_ (List.take (Int.toNat (↑(List.length t1) : Int)) s == t1))
   (k_ false)
def stringslite_HasPrefix.c1s : Shape := ⟨[(0, nb39), (1, nb39), (4, nb0)], []⟩
def stringslite_HasPrefix.c1x0 : Shape := stringslite_HasPrefix.c1s
def stringslite_HasPrefix.c1r : Ck := Ck.of (T := Bool) stringslite_HasPrefix.c1s (fun ρ x_ k_ => stringslite_HasPrefix.c1 x_.1 x_.2.1 k_) (fun ρ x_ r_ k_ => k_ 0 (Shape.inj stringslite_HasPrefix.c1x0 (x_.1, x_.2.1, r_, ())))
def stringslite_HasPrefix (s : List UInt8) (t1 : List UInt8) : Option (Bool) :=
  bnd (W.stringslite_HasPrefix.c1 s t1 some) fun y =>
  some y
def stringslite_HasPrefix.ce : Go.Ql.Callee := ⟨[.str, .str], [.bool], fun x_ => stringslite_HasPrefix x_.1 x_.2⟩
def stringslite_HasPrefix.G : Env := ⟨18, tab, [], [0, 1, 4], [], [], [(1, stringslite_HasPrefix.c1r)], [], tab_eqs, []⟩
theorem stringslite_HasPrefix.eq (x_ : dens stringslite_HasPrefix.ce.params) : den stringslite_HasPrefix.G Tryd.f81 stringslite_HasPrefix.ce.params stringslite_HasPrefix.ce.res x_ = stringslite_HasPrefix.ce.F x_ := by kernel_rfl
theorem stringslite_HasPrefix.p0 : PcA stringslite_HasPrefix.G Tryd.f81 0 :=
  region_ok (s := stringslite_HasPrefix.c1r) (by kernel_rfl) (by kernel_rfl) (sums_of (sh := stringslite_HasPrefix.c1s) (fun ρ x_ k_ => (nat_br (nat_bnd fun _ => nat_leaf) nat_leaf)) (fun ρ x_ t k => (by kernel_rfl)) (fun x_ => by kernel_rfl))
theorem stringslite_HasPrefix.ok : CalleeOk Tryd.prog 81 stringslite_HasPrefix.ce := fn_ok (G := stringslite_HasPrefix.G) tab_ok mixed Tryd.func81 ⟨fns_nil, mfns_nil, tab_eqs_ok, alts_nil⟩ (m := 1) (by kernel_rfl) ⟨trivial, stringslite_HasPrefix.p0⟩ (by kernel_rfl) stringslite_HasPrefix.eq
def strings_HasPrefix (s : List UInt8) (t1 : List UInt8) : Option (Bool) :=
  bnd (W.stringslite_HasPrefix s t1) fun y =>
  some y
def strings_HasPrefix.ce : Go.Ql.Callee := ⟨[.str, .str], [.bool], fun x_ => strings_HasPrefix x_.1 x_.2⟩
def strings_HasPrefix.G : Env := ⟨8, tab, [(81, stringslite_HasPrefix.ce)], [0, 1, 4], [], [], [], [], tab_eqs, []⟩
theorem strings_HasPrefix.eq (x_ : dens strings_HasPrefix.ce.params) : den strings_HasPrefix.G Tryd.f67 strings_HasPrefix.ce.params strings_HasPrefix.ce.res x_ = strings_HasPrefix.ce.F x_ := by kernel_rfl
theorem strings_HasPrefix.ok : CalleeOk Tryd.prog 67 strings_HasPrefix.ce := fn_ok (G := strings_HasPrefix.G) tab_ok mixed Tryd.func67 ⟨(fns_cons stringslite_HasPrefix.ok fns_nil), mfns_nil, tab_eqs_ok, alts_nil⟩ (m := 0) (by kernel_rfl) trivial (by kernel_rfl) strings_HasPrefix.eq
def whole_number.c2 {ρ : Type} (text : List UInt8) (signed : Bool) (k_ : Bool → Option ρ) : Option ρ :=
  br signed
   (bnd (W.strings_HasPrefix text (Array.toList (ByteArray.data (ByteArray.mk #[(45 : UInt8)])))) fun y =>
    k_ y)
   (k_ false)
def whole_number.c2s : Shape := ⟨[(0, nb39), (1, nb0), (4, nb3), (5, nb0), (6, nb3)], []⟩
def whole_number.c2x0 : Shape := ⟨[(0, nb39), (1, nb0), (4, nb3), (5, nb0), (6, nb3), (12, nb0)], []⟩
def whole_number.c2r : Ck := Ck.of (T := Bool) whole_number.c2s (fun ρ x_ k_ => whole_number.c2 x_.1 x_.2.1 k_) (fun ρ x_ r_ k_ => k_ 0 (Shape.inj whole_number.c2x0 (x_.1, x_.2.1, x_.2.2.1, x_.2.2.2.1, x_.2.2.2.2.1, r_, ())))
def whole_number.c208197 {ρ : Type} (text : List UInt8) (signed : Bool) (t6 : Int) (k_ : Int → Option ρ) : Option ρ :=
  bnd (W.whole_number.c2 text signed some) fun y =>
  br y
   (k_ (1 : Int))
   (k_ t6)
def whole_number.c208197s : Shape := whole_number.c2s
def whole_number.c208197x0 : Shape := whole_number.c2s
def whole_number.c208197r : Ck := Ck.of (T := Int) whole_number.c208197s (fun ρ x_ k_ => whole_number.c208197 x_.1 x_.2.1 x_.2.2.2.2.1 k_) (fun ρ x_ r_ k_ => k_ 0 (Shape.inj whole_number.c208197x0 (x_.1, x_.2.1, x_.2.2.1, x_.2.2.2.1, r_, ())))
def whole_number.c5 {ρ : Type} (signed : Bool) (t6 : Int) (k_ : Bool → Option ρ) : Option ρ :=
  br (!signed)
   (k_ true)
   (k_ (t6 == (1 : Int)))
def whole_number.c5s : Shape := whole_number.c2s
def whole_number.c5x0 : Shape := ⟨[(0, nb39), (1, nb0), (4, nb3), (5, nb0), (6, nb3), (22, nb0)], []⟩
def whole_number.c5r : Ck := Ck.of (T := Bool) whole_number.c5s (fun ρ x_ k_ => whole_number.c5 x_.2.1 x_.2.2.2.2.1 k_) (fun ρ x_ r_ k_ => k_ 0 (Shape.inj whole_number.c5x0 (x_.1, x_.2.1, x_.2.2.1, x_.2.2.2.1, x_.2.2.2.2.1, r_, ())))
def whole_number.c9 {ρ : Type} (text : List UInt8) (i : Int) (k_ : Bool → Option ρ) : Option ρ :=
  br (decide (i < (↑(List.length text) : Int)))
   (bnd (idx text i) fun y =>
    br (decide ((48 : Int) ≤ (↑(UInt8.toNat y) : Int)))
     (bnd (idx text i) fun y_1 =>
      k_ (decide ((↑(UInt8.toNat y_1) : Int) ≤ (57 : Int))))
     (k_ false))
   (k_ false)
def whole_number.c9s : Shape := ⟨[(0, nb39), (1, nb0), (4, nb3), (5, nb0), (6, nb3), (7, nb3)], []⟩
def whole_number.c9x0 : Shape := ⟨[(0, nb39), (1, nb0), (4, nb3), (5, nb0), (6, nb3), (7, nb3), (40, nb0)], []⟩
def whole_number.c9r : Ck := Ck.of (T := Bool) whole_number.c9s (fun ρ x_ k_ => whole_number.c9 x_.1 x_.2.2.2.2.2.1 k_) (fun ρ x_ r_ k_ => k_ 0 (Shape.inj whole_number.c9x0 (x_.1, x_.2.1, x_.2.2.1, x_.2.2.2.1, x_.2.2.2.2.1, x_.2.2.2.2.2.1, r_, ())))
def whole_number.c100009 {ρ : Type} (text : List UInt8) (i : Int) (k_ : (Int) ⊕ (Int) → Option ρ) : Option ρ :=
  bnd (W.whole_number.c9 text i some) fun y =>
  br y
   (k_ (.inl (IntKind.wrap IntKind.i64 (i + (1 : Int)))))
   (k_ (.inr i))
def whole_number.c100009s : Shape := whole_number.c9s
def whole_number.c100009x0 : Shape := whole_number.c9s
def whole_number.c100009r : Ck := Ck.ofLoop (S := Int) (T := Int) whole_number.c100009s (fun x_ => x_.2.2.2.2.2.1) (fun ρ x_ s_ k_ => whole_number.c100009 x_.1 s_ k_) (fun ρ x_ r_ k_ => k_ 2 (Shape.inj whole_number.c100009x0 (x_.1, x_.2.1, x_.2.2.1, x_.2.2.2.1, x_.2.2.2.2.1, r_, ())))
def whole_number (text : List UInt8) (signed : Bool) : Option ((Int) × (Bool)) :=
  bnd (W.whole_number.c208197 text signed (0 : Int) some) fun y =>
  bnd (okIf (decide ((0 : Int) ≤ y) && decide (y ≤ (↑(List.length text) : Int)) && decide ((↑(List.length text) : Int) ≤ (↑(List.length text) : Int)))) fun y_1 =>
  bnd (W.strings_HasPrefix (List.drop (Int.toNat y) (List.take (Int.toNat (↑(List.length text) : Int)) text)) (Array.toList (ByteArray.data (ByteArray.mk #[(48 : UInt8)])))) fun y_2 =>
  br y_2
   (bnd (W.whole_number.c5 signed y some) fun y_3 =>
    br y_3
     (some (y, false))
     (some ((1 : Int), true)))
   (bnd (iter (fun s ↦ W.whole_number.c100009 text s some) y) fun y_4 =>
    some (y_4, decide (y_4 > y)))
def whole_number.ce : Go.Ql.Callee := ⟨[.str, .bool], [(.int .i64), .bool], fun x_ => whole_number x_.1 x_.2⟩
def whole_number.G : Env := ⟨47, tab, [(67, strings_HasPrefix.ce)], [0, 1, 4, 5, 6, 7, 12, 16, 22, 40], [], [], [(100009, whole_number.c100009r), (9, whole_number.c9r), (5, whole_number.c5r), (208197, whole_number.c208197r), (2, whole_number.c2r)], [], tab_eqs, []⟩
theorem whole_number.eq (x_ : dens whole_number.ce.params) : den whole_number.G Tryd.f51 whole_number.ce.params whole_number.ce.res x_ = whole_number.ce.F x_ := by kernel_rfl
theorem whole_number.p0 : PcA whole_number.G Tryd.f51 0 :=
  join_ok (s := whole_number.c208197r) (by kernel_rfl) (by kernel_rfl) (sums_of (sh := whole_number.c208197s) (fun ρ x_ k_ => (nat_bnd fun _ => (nat_br nat_leaf nat_leaf))) (fun ρ x_ t k => (by kernel_rfl)) (fun x_ => by kernel_rfl))
theorem whole_number.p1 : PcA whole_number.G Tryd.f51 1 :=
  region_ok (s := whole_number.c2r) (by kernel_rfl) (by kernel_rfl) (sums_of (sh := whole_number.c2s) (fun ρ x_ k_ => (nat_br (nat_bnd fun _ => nat_leaf) nat_leaf)) (fun ρ x_ t k => (by kernel_rfl)) (fun x_ => by kernel_rfl))
theorem whole_number.p2 : PcA whole_number.G Tryd.f51 2 :=
  region_ok (s := whole_number.c5r) (by kernel_rfl) (by kernel_rfl) (sums_of (sh := whole_number.c5s) (fun ρ x_ k_ => (nat_br nat_leaf nat_leaf)) (fun ρ x_ t k => (by kernel_rfl)) (fun x_ => by kernel_rfl))
theorem whole_number.p3 : PcA whole_number.G Tryd.f51 3 :=
  loop_ok (s := whole_number.c100009r) (by kernel_rfl) (by kernel_rfl) (loops_of (sh := whole_number.c100009s) (I := fun x_ s_ => (x_.1, x_.2.1, x_.2.2.1, x_.2.2.2.1, x_.2.2.2.2.1, s_, ())) (fun x_ => rfl) (fun ρ x_ s_ k_ => (nat_bnd fun _ => (nat_br nat_leaf nat_leaf))) (fun ρ x_ t k => (by kernel_rfl)) (fun x_ s => by kernel_rfl))
theorem whole_number.p4 : PcA whole_number.G Tryd.f51 4 :=
  region_ok (s := whole_number.c9r) (by kernel_rfl) (by kernel_rfl) (sums_of (sh := whole_number.c9s) (fun ρ x_ k_ => (nat_br (nat_bnd fun _ => (nat_br (nat_bnd fun _ => nat_leaf) nat_leaf)) nat_leaf)) (fun ρ x_ t k => (by kernel_rfl)) (fun x_ => by kernel_rfl))
theorem whole_number.ok : CalleeOk Tryd.prog 51 whole_number.ce := fn_ok (G := whole_number.G) tab_ok mixed Tryd.func51 ⟨(fns_cons strings_HasPrefix.ok fns_nil), mfns_nil, tab_eqs_ok, alts_nil⟩ (m := 5) (by kernel_rfl) ⟨⟨⟨⟨⟨trivial, whole_number.p0⟩, whole_number.p1⟩, whole_number.p2⟩, whole_number.p3⟩, whole_number.p4⟩ (by kernel_rfl) whole_number.eq
def stringslite_TrimPrefix (s : List UInt8) (t1 : List UInt8) : Option (List UInt8) :=
  bnd (W.stringslite_HasPrefix s t1) fun y =>
  br y
   (bnd (okIf (decide ((0 : Int) ≤ (↑(List.length t1) : Int)) && decide ((↑(List.length t1) : Int) ≤ (↑(List.length s) : Int)) && decide ((↑(List.length s) : Int) ≤ (↑(List.length s) : Int)))) fun y_1 =>
    some (List.drop (Int.toNat (↑(List.length t1) : Int)) (List.take (Int.toNat (↑(List.length s) : Int)) s)))
   (some s)
def stringslite_TrimPrefix.ce : Go.Ql.Callee := ⟨[.str, .str], [.str], fun x_ => stringslite_TrimPrefix x_.1 x_.2⟩
def stringslite_TrimPrefix.G : Env := ⟨13, tab, [(81, stringslite_HasPrefix.ce)], [0, 1, 4, 7], [], [], [], [], tab_eqs, []⟩
theorem stringslite_TrimPrefix.eq (x_ : dens stringslite_TrimPrefix.ce.params) : den stringslite_TrimPrefix.G Tryd.f68 stringslite_TrimPrefix.ce.params stringslite_TrimPrefix.ce.res x_ = stringslite_TrimPrefix.ce.F x_ := by kernel_rfl
theorem stringslite_TrimPrefix.ok : CalleeOk Tryd.prog 68 stringslite_TrimPrefix.ce := fn_ok (G := stringslite_TrimPrefix.G) tab_ok mixed Tryd.func68 ⟨(fns_cons stringslite_HasPrefix.ok fns_nil), mfns_nil, tab_eqs_ok, alts_nil⟩ (m := 0) (by kernel_rfl) trivial (by kernel_rfl) stringslite_TrimPrefix.eq
def strings_TrimPrefix (s : List UInt8) (t1 : List UInt8) : Option (List UInt8) :=
  bnd (W.stringslite_TrimPrefix s t1) fun y =>
  some y
def strings_TrimPrefix.ce : Go.Ql.Callee := ⟨[.str, .str], [.str], fun x_ => strings_TrimPrefix x_.1 x_.2⟩
def strings_TrimPrefix.G : Env := ⟨8, tab, [(68, stringslite_TrimPrefix.ce)], [0, 1, 4], [], [], [], [], tab_eqs, []⟩
theorem strings_TrimPrefix.eq (x_ : dens strings_TrimPrefix.ce.params) : den strings_TrimPrefix.G Tryd.f52 strings_TrimPrefix.ce.params strings_TrimPrefix.ce.res x_ = strings_TrimPrefix.ce.F x_ := by kernel_rfl
theorem strings_TrimPrefix.ok : CalleeOk Tryd.prog 52 strings_TrimPrefix.ce := fn_ok (G := strings_TrimPrefix.G) tab_ok mixed Tryd.func52 ⟨(fns_cons stringslite_TrimPrefix.ok fns_nil), mfns_nil, tab_eqs_ok, alts_nil⟩ (m := 0) (by kernel_rfl) trivial (by kernel_rfl) strings_TrimPrefix.eq
end
end W
end
