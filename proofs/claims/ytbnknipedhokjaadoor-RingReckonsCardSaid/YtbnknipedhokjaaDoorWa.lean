/- Lifted functions, part 1: each with its contract. -/
import Derived.Test.YtbnknipedhokjaaDoorCa
import Derived.Test.YtbnknipedhokjaaDoorProg
set_option linter.all false
section
set_option maxHeartbeats 4000000
set_option maxRecDepth 100000
set_option linter.unusedVariables false
namespace W
open Go Go.Ql
noncomputable section
abbrev rb0 : SD := .one (.val .bool)
abbrev rb1 : SD := .one (.val (.sl (.int .u32)))
abbrev rb2 : SD := .one (.ref 4 0)
abbrev rb3 : SD := .one (.val (.int .i64))
abbrev rb4 : SO := .box [.val .bool, .val (.sl (.int .u32))]
def whole_made.c2 {ρ : Type} (mag : List (Int)) (n : Int) (k_ : Bool → Option ρ) : Option ρ :=
  br (decide (n > (0 : Int)))
   (bnd (idx mag (IntKind.wrap IntKind.i64 (n - (1 : Int)))) fun y =>
    k_ (y == (0 : Int)))
   (k_ false)
def whole_made.c2s : Shape := ⟨[(0, rb0), (1, rb1), (4, rb2), (5, rb3)], [(4, rb4)]⟩
def whole_made.c2x0 : Shape := ⟨[(0, rb0), (1, rb1), (4, rb2), (5, rb3), (17, rb0)], [(4, rb4)]⟩
def whole_made.c2r : Ck := Ck.of (T := Bool) whole_made.c2s (fun ρ x_ k_ => uP x_ fun neg x_ => uP x_ fun mag x_ => uP x_ fun n x_ => uP x_ fun t40 x_ => uP x_ fun t41 x_ => whole_made.c2 mag n k_) (fun ρ x_ r_ k_ => uP x_ fun neg x_ => uP x_ fun mag x_ => uP x_ fun n x_ => uP x_ fun t40 x_ => uP x_ fun t41 x_ => k_ 0 (Shape.inj whole_made.c2x0 (neg, mag, n, r_, t40, t41, ())))
def whole_made.c100002 {ρ : Type} (mag : List (Int)) (n : Int) (k_ : (Int) ⊕ (Int) → Option ρ) : Option ρ :=
  bnd (W.whole_made.c2 mag n some) fun y =>
  br y
   (k_ (.inl (IntKind.wrap IntKind.i64 (n - (1 : Int)))))
   (k_ (.inr n))
def whole_made.c100002s : Shape := ⟨[(0, rb0), (1, rb1), (4, rb2), (5, rb3)], [(4, rb4)]⟩
def whole_made.c100002x0 : Shape := ⟨[(0, rb0), (1, rb1), (4, rb2), (5, rb3)], [(4, rb4)]⟩
def whole_made.c100002r : Ck := Ck.ofLoop (S := Int) (T := Int) whole_made.c100002s (fun x_ => uP x_ fun neg x_ => uP x_ fun mag x_ => uP x_ fun n x_ => uP x_ fun t40 x_ => uP x_ fun t41 x_ => n) (fun ρ x_ s_ k_ => uP x_ fun neg x_ => uP x_ fun mag x_ => uP x_ fun n x_ => uP x_ fun t40 x_ => uP x_ fun t41 x_ => whole_made.c100002 mag s_ k_) (fun ρ x_ r_ k_ => uP x_ fun neg x_ => uP x_ fun mag x_ => uP x_ fun n x_ => uP x_ fun t40 x_ => uP x_ fun t41 x_ => k_ 2 (Shape.inj whole_made.c100002x0 (neg, mag, r_, t40, t41, ())))
def whole_made (neg : Bool) (mag : List (Int)) : Option ((Bool) × (List Int)) :=
  bnd (iter (fun s ↦ W.whole_made.c100002 mag s some) ↑(List.length mag)) fun y =>
  br (y == (0 : Int))
   (some (false, []))
   (bnd (okIf (decide ((0 : Int) ≤ y) && decide (y ≤ y) && decide (y ≤ (↑(List.length mag) : Int)))) fun y_1 =>
    some (neg, List.take (Int.toNat y) mag))
def whole_made.ce : Go.Ql.Callee := ⟨[.bool, (.sl (.int .u32))], [(.st (.pair .bool (.sl (.int .u32))))], fun x_ => whole_made x_.1 x_.2⟩
def whole_made.G : Env := ⟨29, tab, [], [0, 1, 4, 5, 17, 21], [], [], [(100002, whole_made.c100002r), (2, whole_made.c2r)], [], tab_eqs⟩
theorem whole_made.eq (x_ : dens [.bool, (.sl (.int .u32))]) : den whole_made.G Go.Proofs.Tryd.f54 [.bool, (.sl (.int .u32))] [(.st (.pair .bool (.sl (.int .u32))))] x_ = whole_made x_.1 x_.2 := by kernel_rfl
theorem whole_made.p0 : PieceOk whole_made.G (pieceAt (pieces whole_made.G.cks (bodyOf Go.Proofs.Tryd.f54)) 0).1 (pieceAt (pieces whole_made.G.cks (bodyOf Go.Proofs.Tryd.f54)) 0).2 :=
  loop_ok (s := whole_made.c100002r) (by kernel_rfl) (by kernel_rfl) (loops_of (sh := whole_made.c100002s) (I := fun x_ s_ => (x_.1, x_.2.1, s_, x_.2.2.2.1, x_.2.2.2.2.1, ())) (fun x_ => rfl) (fun ρ x_ s_ k_ => (nat_bnd fun _ => (nat_br nat_leaf nat_leaf))) (fun ρ x_ t k => (by kernel_rfl)) (fun x_ s => by kernel_rfl))
theorem whole_made.p1 : PieceOk whole_made.G (pieceAt (pieces whole_made.G.cks (bodyOf Go.Proofs.Tryd.f54)) 1).1 (pieceAt (pieces whole_made.G.cks (bodyOf Go.Proofs.Tryd.f54)) 1).2 :=
  region_ok (s := whole_made.c2r) (by kernel_rfl) (by kernel_rfl) (sums_of (sh := whole_made.c2s) (fun ρ x_ k_ => (nat_br (nat_bnd fun _ => nat_leaf) nat_leaf)) (fun ρ x_ t k => (by kernel_rfl)) (fun x_ => by kernel_rfl))
theorem whole_made.ok : CalleeOk Go.Proofs.Tryd.prog 54 whole_made.ce := fn_ok (G := whole_made.G) tab_ok mixed Go.Proofs.Tryd.func54 ⟨fns_nil, mfns_nil, tab_eqs_ok⟩ (m := 2) (by kernel_rfl) ⟨⟨trivial, whole_made.p0⟩, whole_made.p1⟩ (by kernel_rfl) whole_made.eq
abbrev rb5 : SD := .one (.ref 2 0)
abbrev rb6 : SD := .one (.val (.int .u64))
def whole_Of.c208197 {ρ : Type} (n : Int) (u : Int) (k_ : Int → Option ρ) : Option ρ :=
  br (decide (n < (0 : Int)))
   (k_ (IntKind.wrap IntKind.u64 ((0 : Int) - u)))
   (k_ u)
def whole_Of.c208197s : Shape := ⟨[(0, rb3), (2, rb5), (3, rb6)], [(2, rb4)]⟩
def whole_Of.c208197x0 : Shape := ⟨[(0, rb3), (2, rb5), (3, rb6)], [(2, rb4)]⟩
def whole_Of.c208197r : Ck := Ck.of (T := Int) whole_Of.c208197s (fun ρ x_ k_ => uP x_ fun n x_ => uP x_ fun u x_ => uP x_ fun t20 x_ => uP x_ fun t21 x_ => whole_Of.c208197 n u k_) (fun ρ x_ r_ k_ => uP x_ fun n x_ => uP x_ fun u x_ => uP x_ fun t20 x_ => uP x_ fun t21 x_ => k_ 0 (Shape.inj whole_Of.c208197x0 (n, r_, t20, t21, ())))
def whole_Of (n : Int) : Option ((Bool) × (List Int)) :=
  bnd (W.whole_Of.c208197 n (IntKind.wrap IntKind.u64 n) some) fun y =>
  bnd (W.whole_made (decide (n < (0 : Int))) [IntKind.wrap IntKind.u32 y, IntKind.wrap IntKind.u32 (Int.fdiv y ((2 : Int) ^ (32 : Nat)))]) fun y_1 =>
  some (Prod.fst y_1, Prod.snd y_1)
def whole_Of.ce : Go.Ql.Callee := ⟨[(.int .i64)], [(.st (.pair .bool (.sl (.int .u32))))], fun x_ => whole_Of x_⟩
def whole_Of.G : Env := ⟨19, tab, [(54, whole_made.ce)], [0, 2, 3, 7], [], [], [(208197, whole_Of.c208197r)], [], tab_eqs⟩
theorem whole_Of.eq (x_ : dens [(.int .i64)]) : den whole_Of.G Go.Proofs.Tryd.f25 [(.int .i64)] [(.st (.pair .bool (.sl (.int .u32))))] x_ = whole_Of x_ := by kernel_rfl
theorem whole_Of.p0 : PieceOk whole_Of.G (pieceAt (pieces whole_Of.G.cks (bodyOf Go.Proofs.Tryd.f25)) 0).1 (pieceAt (pieces whole_Of.G.cks (bodyOf Go.Proofs.Tryd.f25)) 0).2 :=
  join_ok (s := whole_Of.c208197r) (by kernel_rfl) (by kernel_rfl) (sums_of (sh := whole_Of.c208197s) (fun ρ x_ k_ => (nat_br nat_leaf nat_leaf)) (fun ρ x_ t k => (by kernel_rfl)) (fun x_ => by kernel_rfl))
theorem whole_Of.ok : CalleeOk Go.Proofs.Tryd.prog 25 whole_Of.ce := fn_ok (G := whole_Of.G) tab_ok mixed Go.Proofs.Tryd.func25 ⟨(fns_cons whole_made.ok fns_nil), mfns_nil, tab_eqs_ok⟩ (m := 1) (by kernel_rfl) ⟨trivial, whole_Of.p0⟩ (by kernel_rfl) whole_Of.eq
def whole_Int_Neg (a : (Bool) × (List Int)) : Option ((Bool) × (List Int)) :=
  bnd (W.whole_made (!Prod.fst a) (Prod.snd a)) fun y =>
  some (Prod.fst y, Prod.snd y)
def whole_Int_Neg.ce : Go.Ql.Callee := ⟨[(.st (.pair .bool (.sl (.int .u32))))], [(.st (.pair .bool (.sl (.int .u32))))], fun x_ => whole_Int_Neg x_⟩
def whole_Int_Neg.G : Env := ⟨9, tab, [(54, whole_made.ce)], [0, 1, 2], [], [], [], [], tab_eqs⟩
theorem whole_Int_Neg.eq (x_ : dens [(.st (.pair .bool (.sl (.int .u32))))]) : den whole_Int_Neg.G Go.Proofs.Tryd.f34 [(.st (.pair .bool (.sl (.int .u32))))] [(.st (.pair .bool (.sl (.int .u32))))] x_ = whole_Int_Neg x_ := by kernel_rfl
theorem whole_Int_Neg.ok : CalleeOk Go.Proofs.Tryd.prog 34 whole_Int_Neg.ce := fn_ok (G := whole_Int_Neg.G) tab_ok mixed Go.Proofs.Tryd.func34 ⟨(fns_cons whole_made.ok fns_nil), mfns_nil, tab_eqs_ok⟩ (m := 0) (by kernel_rfl) trivial (by kernel_rfl) whole_Int_Neg.eq
def bits_Add32 (x : Int) (y : Int) (carry : Int) : Option ((Int) × (Int)) :=
  some (IntKind.wrap IntKind.u32 (IntKind.wrap IntKind.u64 (IntKind.wrap IntKind.u64 (IntKind.wrap IntKind.u64 x + IntKind.wrap IntKind.u64 y) + IntKind.wrap IntKind.u64 carry)), IntKind.wrap IntKind.u32 (Int.fdiv (IntKind.wrap IntKind.u64 (IntKind.wrap IntKind.u64 (IntKind.wrap IntKind.u64 x + IntKind.wrap IntKind.u64 y) + IntKind.wrap IntKind.u64 carry)) ((2 : Int) ^ (32 : Nat))))
def bits_Add32.ce : Go.Ql.Callee := ⟨[(.int .u32), (.int .u32), (.int .u32)], [(.int .u32), (.int .u32)], fun x_ => bits_Add32 x_.1 x_.2.1 x_.2.2⟩
def bits_Add32.G : Env := ⟨22, tab, [], [0, 1, 2, 6, 7, 8], [], [], [], [], tab_eqs⟩
theorem bits_Add32.eq (x_ : dens [(.int .u32), (.int .u32), (.int .u32)]) : den bits_Add32.G Go.Proofs.Tryd.f85 [(.int .u32), (.int .u32), (.int .u32)] [(.int .u32), (.int .u32)] x_ = bits_Add32 x_.1 x_.2.1 x_.2.2 := by kernel_rfl
theorem bits_Add32.ok : CalleeOk Go.Proofs.Tryd.prog 85 bits_Add32.ce := fn_ok (G := bits_Add32.G) tab_ok mixed Go.Proofs.Tryd.func85 ⟨fns_nil, mfns_nil, tab_eqs_ok⟩ (m := 0) (by kernel_rfl) trivial (by kernel_rfl) bits_Add32.eq
abbrev rb7 : SD := .one (.own 20 0)
abbrev rb8 : SD := .one (.val (.int .u32))
abbrev rb9 : SO := .arr 0 false 75 (.int .u32)
def whole_sum.c204101 {ρ : Type} (a : List (Int)) (b : List (Int)) (k_ : (List Int) × (List Int) → Option ρ) : Option ρ :=
  br (decide ((↑(List.length a) : Int) < (↑(List.length b) : Int)))
   (k_ (b, a))
   (k_ (a, b))
def whole_sum.c204101s : Shape := ⟨[(0, rb1), (1, rb1), (4, rb1)], []⟩
def whole_sum.c204101x0 : Shape := ⟨[(0, rb1), (1, rb1), (4, rb1)], []⟩
def whole_sum.c204101r : Ck := Ck.of (T := (List Int) × (List Int)) whole_sum.c204101s (fun ρ x_ k_ => uP x_ fun a x_ => uP x_ fun b x_ => uP x_ fun t4 x_ => whole_sum.c204101 a b k_) (fun ρ x_ r_ k_ => uP x_ fun a x_ => uP x_ fun b x_ => uP x_ fun t4 x_ => k_ 0 (Shape.inj whole_sum.c204101x0 (r_.1, r_.2, t4, ())))
def whole_sum.c236869 {ρ : Type} (b : List (Int)) (i : Int) (y : Int) (k_ : Int → Option ρ) : Option ρ :=
  br (decide (i < (↑(List.length b) : Int)))
   (bnd (idx b i) fun y_1 =>
    k_ y_1)
   (k_ y)
def whole_sum.c236869s : Shape := ⟨[(0, rb1), (1, rb1), (4, rb1), (5, rb7), (6, rb8), (7, rb3), (8, rb8), (9, rb8), (21, rb1), (22, rb3), (23, rb3)], [(20, rb9)]⟩
def whole_sum.c236869x0 : Shape := ⟨[(0, rb1), (1, rb1), (4, rb1), (5, rb7), (6, rb8), (7, rb3), (8, rb8), (9, rb8), (21, rb1), (22, rb3), (23, rb3)], [(20, rb9)]⟩
def whole_sum.c236869r : Ck := Ck.of (T := Int) whole_sum.c236869s (fun ρ x_ k_ => uP x_ fun a x_ => uP x_ fun b x_ => uP x_ fun t4 x_ => uP x_ fun c x_ => uP x_ fun i x_ => uP x_ fun x x_ => uP x_ fun y x_ => uP x_ fun t21 x_ => uP x_ fun t22 x_ => uP x_ fun t23 x_ => uP x_ fun t20 x_ => whole_sum.c236869 b i y k_) (fun ρ x_ r_ k_ => uP x_ fun a x_ => uP x_ fun b x_ => uP x_ fun t4 x_ => uP x_ fun c x_ => uP x_ fun i x_ => uP x_ fun x x_ => uP x_ fun y x_ => uP x_ fun t21 x_ => uP x_ fun t22 x_ => uP x_ fun t23 x_ => uP x_ fun t20 x_ => k_ 0 (Shape.inj whole_sum.c236869x0 (a, b, t4, c, i, x, r_, t21, t22, t23, t20, ())))
def whole_sum.c100006 {ρ : Type} (b : List (Int)) (c : Int) (t21 : List (Int)) (t22 : Int) (t23 : Int) (t20 : List (Int)) (k_ : ((Int) × (Int) × (List Int)) ⊕ ((Int) × (Int) × (List Int)) → Option ρ) : Option ρ :=
  br (decide (t23 < t22))
   (bnd (idx t21 t23) fun y =>
    bnd (W.whole_sum.c236869 b t23 (0 : Int) some) fun y_1 =>
    bnd (W.bits_Add32 y y_1 c) fun y_2 =>
    bnd (inR (List.length t20) t23) fun y_3 =>
    bnd (idx t20 t23) fun y_4 =>
    k_ (.inl ((Prod.snd y_2), (IntKind.wrap IntKind.i64 (t23 + (1 : Int))), (List.set t20 (Int.toNat t23) (Prod.fst y_2)))))
   (k_ (.inr (c, t23, t20)))
def whole_sum.c100006s : Shape := ⟨[(0, rb1), (1, rb1), (4, rb1), (5, rb7), (6, rb8), (21, rb1), (22, rb3), (23, rb3)], [(20, rb9)]⟩
def whole_sum.c100006x0 : Shape := ⟨[(0, rb1), (1, rb1), (4, rb1), (5, rb7), (6, rb8), (21, rb1), (22, rb3), (23, rb3)], [(20, rb9)]⟩
def whole_sum.c100006r : Ck := Ck.ofLoop (S := (Int) × (Int) × (List Int)) (T := (Int) × (Int) × (List Int)) whole_sum.c100006s (fun x_ => uP x_ fun a x_ => uP x_ fun b x_ => uP x_ fun t4 x_ => uP x_ fun c x_ => uP x_ fun t21 x_ => uP x_ fun t22 x_ => uP x_ fun t23 x_ => uP x_ fun t20 x_ => (c, t23, t20)) (fun ρ x_ s_ k_ => uP x_ fun a x_ => uP x_ fun b x_ => uP x_ fun t4 x_ => uP x_ fun c x_ => uP x_ fun t21 x_ => uP x_ fun t22 x_ => uP x_ fun t23 x_ => uP x_ fun t20 x_ => whole_sum.c100006 b s_.1 t21 t22 s_.2.1 s_.2.2 k_) (fun ρ x_ r_ k_ => uP x_ fun a x_ => uP x_ fun b x_ => uP x_ fun t4 x_ => uP x_ fun c x_ => uP x_ fun t21 x_ => uP x_ fun t22 x_ => uP x_ fun t23 x_ => uP x_ fun t20 x_ => k_ 2 (Shape.inj whole_sum.c100006x0 (a, b, t4, r_.1, t21, t22, r_.2.1, r_.2.2, ())))
def whole_sum (a : List (Int)) (b : List (Int)) : Option (List Int) :=
  bnd (W.whole_sum.c204101 a b some) fun y =>
  bnd (okIf (decide ((0 : Int) ≤ IntKind.wrap IntKind.i64 ((↑(List.length (Prod.fst y)) : Int) + (1 : Int))) && decide (IntKind.wrap IntKind.i64 ((↑(List.length (Prod.fst y)) : Int) + (1 : Int)) ≤ IntKind.wrap IntKind.i64 ((↑(List.length (Prod.fst y)) : Int) + (1 : Int))) && decide (IntKind.wrap IntKind.i64 ((↑(List.length (Prod.fst y)) : Int) + (1 : Int)) * (↑(4 : Nat) : Int) ≤ (140737488355328 : Int)) && decide (IntKind.wrap IntKind.i64 ((↑(List.length (Prod.fst y)) : Int) + (1 : Int)) ≤ (140737488355328 : Int)))) fun y_1 =>
  bnd (iter (fun s ↦ W.whole_sum.c100006 (Prod.snd y) (Prod.fst s) (Prod.fst y) (↑(List.length (Prod.fst y)) : Int) (Prod.fst (Prod.snd s)) (Prod.snd (Prod.snd s)) some) ((0 : Int), (0 : Int), List.replicate (Int.toNat (IntKind.wrap IntKind.i64 ((↑(List.length (Prod.fst y)) : Int) + (1 : Int)))) (0 : Int))) fun y_2 =>
  bnd (inR (List.length (Prod.snd (Prod.snd y_2))) (↑(List.length (Prod.fst y)) : Int)) fun y_3 =>
  bnd (idx (Prod.snd (Prod.snd y_2)) (↑(List.length (Prod.fst y)) : Int)) fun y_4 =>
  some (List.set (Prod.snd (Prod.snd y_2)) (Int.toNat (↑(List.length (Prod.fst y)) : Int)) (Prod.fst y_2))
def whole_sum.ce : Go.Ql.Callee := ⟨[(.sl (.int .u32)), (.sl (.int .u32))], [(.sl (.int .u32))], fun x_ => whole_sum x_.1 x_.2⟩
def whole_sum.G : Env := ⟨53, tab, [(85, bits_Add32.ce)], [0, 1, 4, 5, 6, 7, 8, 9, 14, 21, 22, 23, 24, 31], [20], [], [(100006, whole_sum.c100006r), (236869, whole_sum.c236869r), (204101, whole_sum.c204101r)], [], tab_eqs⟩
theorem whole_sum.eq (x_ : dens [(.sl (.int .u32)), (.sl (.int .u32))]) : den whole_sum.G Go.Proofs.Tryd.f61 [(.sl (.int .u32)), (.sl (.int .u32))] [(.sl (.int .u32))] x_ = whole_sum x_.1 x_.2 := by kernel_rfl
theorem whole_sum.p0 : PieceOk whole_sum.G (pieceAt (pieces whole_sum.G.cks (bodyOf Go.Proofs.Tryd.f61)) 0).1 (pieceAt (pieces whole_sum.G.cks (bodyOf Go.Proofs.Tryd.f61)) 0).2 :=
  join_ok (s := whole_sum.c204101r) (by kernel_rfl) (by kernel_rfl) (sums_of (sh := whole_sum.c204101s) (fun ρ x_ k_ => (nat_br nat_leaf nat_leaf)) (fun ρ x_ t k => (by kernel_rfl)) (fun x_ => by kernel_rfl))
theorem whole_sum.p1 : PieceOk whole_sum.G (pieceAt (pieces whole_sum.G.cks (bodyOf Go.Proofs.Tryd.f61)) 1).1 (pieceAt (pieces whole_sum.G.cks (bodyOf Go.Proofs.Tryd.f61)) 1).2 :=
  loop_ok (s := whole_sum.c100006r) (by kernel_rfl) (by kernel_rfl) (loops_of (sh := whole_sum.c100006s) (I := fun x_ s_ => (x_.1, x_.2.1, x_.2.2.1, s_.1, x_.2.2.2.2.1, x_.2.2.2.2.2.1, s_.2.1, s_.2.2, ())) (fun x_ => rfl) (fun ρ x_ s_ k_ => (nat_br (nat_bnd fun _ => (nat_bnd fun _ => (nat_bnd fun _ => (nat_bnd fun _ => (nat_bnd fun _ => nat_leaf))))) nat_leaf)) (fun ρ x_ t k => (by kernel_rfl)) (fun x_ s => by kernel_rfl))
theorem whole_sum.p2 : PieceOk whole_sum.G (pieceAt (pieces whole_sum.G.cks (bodyOf Go.Proofs.Tryd.f61)) 2).1 (pieceAt (pieces whole_sum.G.cks (bodyOf Go.Proofs.Tryd.f61)) 2).2 :=
  join_ok (s := whole_sum.c236869r) (by kernel_rfl) (by kernel_rfl) (sums_of (sh := whole_sum.c236869s) (fun ρ x_ k_ => (nat_br (nat_bnd fun _ => nat_leaf) nat_leaf)) (fun ρ x_ t k => (by kernel_rfl)) (fun x_ => by kernel_rfl))
theorem whole_sum.ok : CalleeOk Go.Proofs.Tryd.prog 61 whole_sum.ce := fn_ok (G := whole_sum.G) tab_ok mixed Go.Proofs.Tryd.func61 ⟨(fns_cons bits_Add32.ok fns_nil), mfns_nil, tab_eqs_ok⟩ (m := 3) (by kernel_rfl) ⟨⟨⟨trivial, whole_sum.p0⟩, whole_sum.p1⟩, whole_sum.p2⟩ (by kernel_rfl) whole_sum.eq
def cmp_isNaN_int (x : Int) : Option (Bool) :=
  some (x != x)
def cmp_isNaN_int.ce : Go.Ql.Callee := ⟨[(.int .i64)], [.bool], fun x_ => cmp_isNaN_int x_⟩
def cmp_isNaN_int.G : Env := ⟨6, tab, [], [0, 2], [], [], [], [], tab_eqs⟩
theorem cmp_isNaN_int.eq (x_ : dens [(.int .i64)]) : den cmp_isNaN_int.G Go.Proofs.Tryd.f95 [(.int .i64)] [.bool] x_ = cmp_isNaN_int x_ := by kernel_rfl
theorem cmp_isNaN_int.ok : CalleeOk Go.Proofs.Tryd.prog 95 cmp_isNaN_int.ce := fn_ok (G := cmp_isNaN_int.G) tab_ok mixed Go.Proofs.Tryd.func95 ⟨fns_nil, mfns_nil, tab_eqs_ok⟩ (m := 0) (by kernel_rfl) trivial (by kernel_rfl) cmp_isNaN_int.eq
def cmp_Compare_int (x : Int) (y : Int) : Option (Int) :=
  bnd (W.cmp_isNaN_int x) fun y_1 =>
  bnd (W.cmp_isNaN_int y) fun y_2 =>
  br y_1
   (br y_2
     (some (0 : Int))
     (some (-1 : Int)))
   (br y_2
     (some (1 : Int))
     (br (decide (x < y))
       (some (-1 : Int))
       (br (decide (x > y))
         (some (1 : Int))
         (some (0 : Int)))))
def cmp_Compare_int.ce : Go.Ql.Callee := ⟨[(.int .i64), (.int .i64)], [(.int .i64)], fun x_ => cmp_Compare_int x_.1 x_.2⟩
def cmp_Compare_int.G : Env := ⟨20, tab, [(95, cmp_isNaN_int.ce)], [0, 1, 4, 5, 6, 11, 12, 13, 16, 19], [], [], [], [], tab_eqs⟩
theorem cmp_Compare_int.eq (x_ : dens [(.int .i64), (.int .i64)]) : den cmp_Compare_int.G Go.Proofs.Tryd.f77 [(.int .i64), (.int .i64)] [(.int .i64)] x_ = cmp_Compare_int x_.1 x_.2 := by kernel_rfl
theorem cmp_Compare_int.ok : CalleeOk Go.Proofs.Tryd.prog 77 cmp_Compare_int.ce := fn_ok (G := cmp_Compare_int.G) tab_ok mixed Go.Proofs.Tryd.func77 ⟨(fns_cons cmp_isNaN_int.ok fns_nil), mfns_nil, tab_eqs_ok⟩ (m := 0) (by kernel_rfl) trivial (by kernel_rfl) cmp_Compare_int.eq
def cmp_isNaN_uint32 (x : Int) : Option (Bool) :=
  some (x != x)
def cmp_isNaN_uint32.ce : Go.Ql.Callee := ⟨[(.int .u32)], [.bool], fun x_ => cmp_isNaN_uint32 x_⟩
def cmp_isNaN_uint32.G : Env := ⟨6, tab, [], [0, 2], [], [], [], [], tab_eqs⟩
theorem cmp_isNaN_uint32.eq (x_ : dens [(.int .u32)]) : den cmp_isNaN_uint32.G Go.Proofs.Tryd.f103 [(.int .u32)] [.bool] x_ = cmp_isNaN_uint32 x_ := by kernel_rfl
theorem cmp_isNaN_uint32.ok : CalleeOk Go.Proofs.Tryd.prog 103 cmp_isNaN_uint32.ce := fn_ok (G := cmp_isNaN_uint32.G) tab_ok mixed Go.Proofs.Tryd.func103 ⟨fns_nil, mfns_nil, tab_eqs_ok⟩ (m := 0) (by kernel_rfl) trivial (by kernel_rfl) cmp_isNaN_uint32.eq
def cmp_Compare_uint32 (x : Int) (y : Int) : Option (Int) :=
  bnd (W.cmp_isNaN_uint32 x) fun y_1 =>
  bnd (W.cmp_isNaN_uint32 y) fun y_2 =>
  br y_1
   (br y_2
     (some (0 : Int))
     (some (-1 : Int)))
   (br y_2
     (some (1 : Int))
     (br (decide (x < y))
       (some (-1 : Int))
       (br (decide (x > y))
         (some (1 : Int))
         (some (0 : Int)))))
def cmp_Compare_uint32.ce : Go.Ql.Callee := ⟨[(.int .u32), (.int .u32)], [(.int .i64)], fun x_ => cmp_Compare_uint32 x_.1 x_.2⟩
def cmp_Compare_uint32.G : Env := ⟨20, tab, [(103, cmp_isNaN_uint32.ce)], [0, 1, 4, 5, 6, 11, 12, 13, 16, 19], [], [], [], [], tab_eqs⟩
theorem cmp_Compare_uint32.eq (x_ : dens [(.int .u32), (.int .u32)]) : den cmp_Compare_uint32.G Go.Proofs.Tryd.f86 [(.int .u32), (.int .u32)] [(.int .i64)] x_ = cmp_Compare_uint32 x_.1 x_.2 := by kernel_rfl
theorem cmp_Compare_uint32.ok : CalleeOk Go.Proofs.Tryd.prog 86 cmp_Compare_uint32.ce := fn_ok (G := cmp_Compare_uint32.G) tab_ok mixed Go.Proofs.Tryd.func86 ⟨(fns_cons cmp_isNaN_uint32.ok fns_nil), mfns_nil, tab_eqs_ok⟩ (m := 0) (by kernel_rfl) trivial (by kernel_rfl) cmp_Compare_uint32.eq
def whole_order.c7 {ρ : Type} (a : List (Int)) (b : List (Int)) (i : Int) (k_ : Int → Option ρ) : Option ρ :=
  bnd (idx a i) fun y =>
  bnd (idx b i) fun y_1 =>
  bnd (W.cmp_Compare_uint32 y y_1) fun y_2 =>
  k_ y_2
def whole_order.c7s : Shape := ⟨[(0, rb1), (1, rb1), (4, rb3), (5, rb3), (6, rb3)], []⟩
def whole_order.c7x0 : Shape := ⟨[(0, rb1), (1, rb1), (4, rb3), (5, rb3), (6, rb3), (7, rb3)], []⟩
def whole_order.c7r : Ck := Ck.of (T := Int) whole_order.c7s (fun ρ x_ k_ => uP x_ fun a x_ => uP x_ fun b x_ => uP x_ fun t4 x_ => uP x_ fun c x_ => uP x_ fun i x_ => whole_order.c7 a b i k_) (fun ρ x_ r_ k_ => uP x_ fun a x_ => uP x_ fun b x_ => uP x_ fun t4 x_ => uP x_ fun c x_ => uP x_ fun i x_ => k_ 0 (Shape.inj whole_order.c7x0 (a, b, t4, c, i, r_, ())))
def whole_order.c100005 {ρ : Type} (a : List (Int)) (b : List (Int)) (i : Int) (k_ : (Int) ⊕ (((Int) × (Int)) ⊕ (Int)) → Option ρ) : Option ρ :=
  br (decide (i ≥ (0 : Int)))
   (bnd (W.whole_order.c7 a b i some) fun y =>
    br (y != (0 : Int))
     (k_ (.inr (.inl (y, i))))
     (k_ (.inl (IntKind.wrap IntKind.i64 (i - (1 : Int))))))
   (k_ (.inr (.inr i)))
def whole_order.c100005s : Shape := ⟨[(0, rb1), (1, rb1), (4, rb3), (5, rb3), (6, rb3)], []⟩
def whole_order.c100005x0 : Shape := ⟨[(0, rb1), (1, rb1), (4, rb3), (5, rb3), (6, rb3)], []⟩
def whole_order.c100005x1 : Shape := ⟨[(0, rb1), (1, rb1), (4, rb3), (5, rb3), (6, rb3)], []⟩
def whole_order.c100005r : Ck := Ck.ofLoop (S := Int) (T := ((Int) × (Int)) ⊕ (Int)) whole_order.c100005s (fun x_ => uP x_ fun a x_ => uP x_ fun b x_ => uP x_ fun t4 x_ => uP x_ fun c x_ => uP x_ fun i x_ => i) (fun ρ x_ s_ k_ => uP x_ fun a x_ => uP x_ fun b x_ => uP x_ fun t4 x_ => uP x_ fun c x_ => uP x_ fun i x_ => whole_order.c100005 a b s_ k_) (fun ρ x_ r_ k_ => uP x_ fun a x_ => uP x_ fun b x_ => uP x_ fun t4 x_ => uP x_ fun c x_ => uP x_ fun i x_ => sel r_ (fun r_ => k_ 1 (Shape.inj whole_order.c100005x0 (a, b, r_.1, c, r_.2, ()))) (fun r_ => k_ 2 (Shape.inj whole_order.c100005x1 (a, b, t4, c, r_, ()))))
def whole_order (a : List (Int)) (b : List (Int)) : Option (Int) :=
  bnd (W.cmp_Compare_int (↑(List.length a) : Int) (↑(List.length b) : Int)) fun y =>
  br (y != (0 : Int))
   (some y)
   (bnd (iter (fun s ↦ W.whole_order.c100005 a b s some) (IntKind.wrap IntKind.i64 ((↑(List.length a) : Int) - (1 : Int)))) fun y_1 =>
    sel y_1
     (fun u => some (Prod.fst u))
     (fun v => some (0 : Int)))
def whole_order.ce : Go.Ql.Callee := ⟨[(.sl (.int .u32)), (.sl (.int .u32))], [(.int .i64)], fun x_ => whole_order x_.1 x_.2⟩
def whole_order.G : Env := ⟨35, tab, [(77, cmp_Compare_int.ce), (86, cmp_Compare_uint32.ce)], [0, 1, 4, 5, 6, 7, 14, 20, 33], [], [(7, [⟨[], [], [24, 27, 28, 29, 30], []⟩, ⟨[], [], [23, 27, 28, 29, 30], []⟩, ⟨[0, 1], [], [27, 28, 29, 30], []⟩, ⟨[2, 0, 1], [], [27, 28, 29, 30], []⟩, ⟨[], [], [23, 24, 25, 26, 28], []⟩, ⟨[], [], [23, 24, 25, 26, 27], []⟩, ⟨[4, 5], [], [23, 24, 25, 26], []⟩, ⟨[6, 4, 5], [], [23, 24, 25, 26], []⟩, ⟨[3, 2, 0, 1, 7, 6, 4, 5], [], [], []⟩, ⟨[8, 3, 2, 0, 1, 7, 6, 4, 5], [], [], []⟩])], [(100005, whole_order.c100005r), (7, whole_order.c7r)], [], tab_eqs⟩
theorem whole_order.eq (x_ : dens [(.sl (.int .u32)), (.sl (.int .u32))]) : den whole_order.G Go.Proofs.Tryd.f62 [(.sl (.int .u32)), (.sl (.int .u32))] [(.int .i64)] x_ = whole_order x_.1 x_.2 := by kernel_rfl
theorem whole_order.p0 : PieceOk whole_order.G (pieceAt (pieces whole_order.G.cks (bodyOf Go.Proofs.Tryd.f62)) 0).1 (pieceAt (pieces whole_order.G.cks (bodyOf Go.Proofs.Tryd.f62)) 0).2 :=
  loop_ok (s := whole_order.c100005r) (by kernel_rfl) (by kernel_rfl) (loops_of (sh := whole_order.c100005s) (I := fun x_ s_ => (x_.1, x_.2.1, x_.2.2.1, x_.2.2.2.1, s_, ())) (fun x_ => rfl) (fun ρ x_ s_ k_ => (nat_br (nat_bnd fun _ => (nat_br nat_leaf nat_leaf)) nat_leaf)) (fun ρ x_ t k => (nat_sel (fun _ => (by kernel_rfl)) (fun _ => (by kernel_rfl)))) (fun x_ s => by kernel_rfl))
theorem whole_order.p1 : PieceOk whole_order.G (pieceAt (pieces whole_order.G.cks (bodyOf Go.Proofs.Tryd.f62)) 1).1 (pieceAt (pieces whole_order.G.cks (bodyOf Go.Proofs.Tryd.f62)) 1).2 :=
  region_ok (s := whole_order.c7r) (by kernel_rfl) (by kernel_rfl) (sums_of (sh := whole_order.c7s) (fun ρ x_ k_ => (nat_bnd fun _ => (nat_bnd fun _ => (nat_bnd fun _ => nat_leaf)))) (fun ρ x_ t k => (by kernel_rfl)) (fun x_ => by kernel_rfl))
theorem whole_order.ok : CalleeOk Go.Proofs.Tryd.prog 62 whole_order.ce := fn_ok (G := whole_order.G) tab_ok mixed Go.Proofs.Tryd.func62 ⟨(fns_cons cmp_Compare_int.ok (fns_cons cmp_Compare_uint32.ok fns_nil)), mfns_nil, tab_eqs_ok⟩ (m := 2) (by kernel_rfl) ⟨⟨trivial, whole_order.p0⟩, whole_order.p1⟩ (by kernel_rfl) whole_order.eq
def bits_Sub32 (x : Int) (y : Int) (borrow : Int) : Option ((Int) × (Int)) :=
  some (IntKind.wrap IntKind.u32 (IntKind.wrap IntKind.u32 (x - y) - borrow), Int.fdiv (ibits BinOp.or IntKind.u32 (ibits BinOp.and IntKind.u32 (ibits BinOp.xor IntKind.u32 (Int.ofNat (nat_lit 2 ^ (32 : Nat) - Nat.succ (nat_lit 0))) x) y) (ibits BinOp.and IntKind.u32 (ibits BinOp.xor IntKind.u32 (Int.ofNat (nat_lit 2 ^ (32 : Nat) - Nat.succ (nat_lit 0))) (ibits BinOp.xor IntKind.u32 x y)) (IntKind.wrap IntKind.u32 (IntKind.wrap IntKind.u32 (x - y) - borrow)))) ((2 : Int) ^ (31 : Nat)))
def bits_Sub32.ce : Go.Ql.Callee := ⟨[(.int .u32), (.int .u32), (.int .u32)], [(.int .u32), (.int .u32)], fun x_ => bits_Sub32 x_.1 x_.2.1 x_.2.2⟩
def bits_Sub32.G : Env := ⟨25, tab, [], [0, 1, 2, 6, 7], [], [], [], [], tab_eqs⟩
theorem bits_Sub32.eq (x_ : dens [(.int .u32), (.int .u32), (.int .u32)]) : den bits_Sub32.G Go.Proofs.Tryd.f87 [(.int .u32), (.int .u32), (.int .u32)] [(.int .u32), (.int .u32)] x_ = bits_Sub32 x_.1 x_.2.1 x_.2.2 := by kernel_rfl
theorem bits_Sub32.ok : CalleeOk Go.Proofs.Tryd.prog 87 bits_Sub32.ce := fn_ok (G := bits_Sub32.G) tab_ok mixed Go.Proofs.Tryd.func87 ⟨fns_nil, mfns_nil, tab_eqs_ok⟩ (m := 0) (by kernel_rfl) trivial (by kernel_rfl) bits_Sub32.eq
abbrev rb10 : SD := .one (.own 12 0)
def whole_less.c228677 {ρ : Type} (b : List (Int)) (i : Int) (y : Int) (k_ : Int → Option ρ) : Option ρ :=
  br (decide (i < (↑(List.length b) : Int)))
   (bnd (idx b i) fun y_1 =>
    k_ y_1)
   (k_ y)
def whole_less.c228677s : Shape := ⟨[(0, rb1), (1, rb1), (4, rb1), (5, rb10), (6, rb8), (7, rb3), (8, rb8), (9, rb8), (13, rb1), (14, rb3), (15, rb3)], [(12, rb9)]⟩
def whole_less.c228677x0 : Shape := ⟨[(0, rb1), (1, rb1), (4, rb1), (5, rb10), (6, rb8), (7, rb3), (8, rb8), (9, rb8), (13, rb1), (14, rb3), (15, rb3)], [(12, rb9)]⟩
def whole_less.c228677r : Ck := Ck.of (T := Int) whole_less.c228677s (fun ρ x_ k_ => uP x_ fun a x_ => uP x_ fun b x_ => uP x_ fun t4 x_ => uP x_ fun c x_ => uP x_ fun i x_ => uP x_ fun x x_ => uP x_ fun y x_ => uP x_ fun t13 x_ => uP x_ fun t14 x_ => uP x_ fun t15 x_ => uP x_ fun t12 x_ => whole_less.c228677 b i y k_) (fun ρ x_ r_ k_ => uP x_ fun a x_ => uP x_ fun b x_ => uP x_ fun t4 x_ => uP x_ fun c x_ => uP x_ fun i x_ => uP x_ fun x x_ => uP x_ fun y x_ => uP x_ fun t13 x_ => uP x_ fun t14 x_ => uP x_ fun t15 x_ => uP x_ fun t12 x_ => k_ 0 (Shape.inj whole_less.c228677x0 (a, b, t4, c, i, x, r_, t13, t14, t15, t12, ())))
def whole_less.c100004 {ρ : Type} (b : List (Int)) (c : Int) (t13 : List (Int)) (t14 : Int) (t15 : Int) (t12 : List (Int)) (k_ : ((Int) × (Int) × (List Int)) ⊕ ((Int) × (Int) × (List Int)) → Option ρ) : Option ρ :=
  br (decide (t15 < t14))
   (bnd (idx t13 t15) fun y =>
    bnd (W.whole_less.c228677 b t15 (0 : Int) some) fun y_1 =>
    bnd (W.bits_Sub32 y y_1 c) fun y_2 =>
    bnd (inR (List.length t12) t15) fun y_3 =>
    bnd (idx t12 t15) fun y_4 =>
    k_ (.inl ((Prod.snd y_2), (IntKind.wrap IntKind.i64 (t15 + (1 : Int))), (List.set t12 (Int.toNat t15) (Prod.fst y_2)))))
   (k_ (.inr (c, t15, t12)))
def whole_less.c100004s : Shape := ⟨[(0, rb1), (1, rb1), (4, rb1), (5, rb10), (6, rb8), (13, rb1), (14, rb3), (15, rb3)], [(12, rb9)]⟩
def whole_less.c100004x0 : Shape := ⟨[(0, rb1), (1, rb1), (4, rb1), (5, rb10), (6, rb8), (13, rb1), (14, rb3), (15, rb3)], [(12, rb9)]⟩
def whole_less.c100004r : Ck := Ck.ofLoop (S := (Int) × (Int) × (List Int)) (T := (Int) × (Int) × (List Int)) whole_less.c100004s (fun x_ => uP x_ fun a x_ => uP x_ fun b x_ => uP x_ fun t4 x_ => uP x_ fun c x_ => uP x_ fun t13 x_ => uP x_ fun t14 x_ => uP x_ fun t15 x_ => uP x_ fun t12 x_ => (c, t15, t12)) (fun ρ x_ s_ k_ => uP x_ fun a x_ => uP x_ fun b x_ => uP x_ fun t4 x_ => uP x_ fun c x_ => uP x_ fun t13 x_ => uP x_ fun t14 x_ => uP x_ fun t15 x_ => uP x_ fun t12 x_ => whole_less.c100004 b s_.1 t13 t14 s_.2.1 s_.2.2 k_) (fun ρ x_ r_ k_ => uP x_ fun a x_ => uP x_ fun b x_ => uP x_ fun t4 x_ => uP x_ fun c x_ => uP x_ fun t13 x_ => uP x_ fun t14 x_ => uP x_ fun t15 x_ => uP x_ fun t12 x_ => k_ 2 (Shape.inj whole_less.c100004x0 (a, b, t4, r_.1, t13, t14, r_.2.1, r_.2.2, ())))
def whole_less (a : List (Int)) (b : List (Int)) : Option (List Int) :=
  bnd (okIf (decide ((0 : Int) ≤ (↑(List.length a) : Int)) && decide ((↑(List.length a) : Int) ≤ (↑(List.length a) : Int)) && decide ((↑(List.length a) : Int) * (↑(4 : Nat) : Int) ≤ (140737488355328 : Int)) && decide ((↑(List.length a) : Int) ≤ (140737488355328 : Int)))) fun y =>
  bnd (iter (fun s ↦ W.whole_less.c100004 b (Prod.fst s) a (↑(List.length a) : Int) (Prod.fst (Prod.snd s)) (Prod.snd (Prod.snd s)) some) ((0 : Int), (0 : Int), List.replicate (Int.toNat (↑(List.length a) : Int)) (0 : Int))) fun y_1 =>
  some (Prod.snd (Prod.snd y_1))
def whole_less.ce : Go.Ql.Callee := ⟨[(.sl (.int .u32)), (.sl (.int .u32))], [(.sl (.int .u32))], fun x_ => whole_less x_.1 x_.2⟩
def whole_less.G : Env := ⟨40, tab, [(87, bits_Sub32.ce)], [0, 1, 4, 5, 6, 7, 8, 9, 13, 14, 15, 16, 23], [12], [], [(100004, whole_less.c100004r), (228677, whole_less.c228677r)], [], tab_eqs⟩
theorem whole_less.eq (x_ : dens [(.sl (.int .u32)), (.sl (.int .u32))]) : den whole_less.G Go.Proofs.Tryd.f63 [(.sl (.int .u32)), (.sl (.int .u32))] [(.sl (.int .u32))] x_ = whole_less x_.1 x_.2 := by kernel_rfl
theorem whole_less.p0 : PieceOk whole_less.G (pieceAt (pieces whole_less.G.cks (bodyOf Go.Proofs.Tryd.f63)) 0).1 (pieceAt (pieces whole_less.G.cks (bodyOf Go.Proofs.Tryd.f63)) 0).2 :=
  loop_ok (s := whole_less.c100004r) (by kernel_rfl) (by kernel_rfl) (loops_of (sh := whole_less.c100004s) (I := fun x_ s_ => (x_.1, x_.2.1, x_.2.2.1, s_.1, x_.2.2.2.2.1, x_.2.2.2.2.2.1, s_.2.1, s_.2.2, ())) (fun x_ => rfl) (fun ρ x_ s_ k_ => (nat_br (nat_bnd fun _ => (nat_bnd fun _ => (nat_bnd fun _ => (nat_bnd fun _ => (nat_bnd fun _ => nat_leaf))))) nat_leaf)) (fun ρ x_ t k => (by kernel_rfl)) (fun x_ s => by kernel_rfl))
theorem whole_less.p1 : PieceOk whole_less.G (pieceAt (pieces whole_less.G.cks (bodyOf Go.Proofs.Tryd.f63)) 1).1 (pieceAt (pieces whole_less.G.cks (bodyOf Go.Proofs.Tryd.f63)) 1).2 :=
  join_ok (s := whole_less.c228677r) (by kernel_rfl) (by kernel_rfl) (sums_of (sh := whole_less.c228677s) (fun ρ x_ k_ => (nat_br (nat_bnd fun _ => nat_leaf) nat_leaf)) (fun ρ x_ t k => (by kernel_rfl)) (fun x_ => by kernel_rfl))
theorem whole_less.ok : CalleeOk Go.Proofs.Tryd.prog 63 whole_less.ce := fn_ok (G := whole_less.G) tab_ok mixed Go.Proofs.Tryd.func63 ⟨(fns_cons bits_Sub32.ok fns_nil), mfns_nil, tab_eqs_ok⟩ (m := 2) (by kernel_rfl) ⟨⟨trivial, whole_less.p0⟩, whole_less.p1⟩ (by kernel_rfl) whole_less.eq
abbrev rb11 : SD := .one (.val (.st (.pair .bool (.sl (.int .u32)))))
abbrev rb12 : SD := .one (.ref 3 0)
def whole_Int_Add.c2 {ρ : Type} (a0 : Bool) (a1 : List (Int)) (b1 : List (Int)) (k_ : (Bool) × (List Int) → Option ρ) : Option ρ :=
  bnd (W.whole_sum a1 b1) fun y =>
  bnd (W.whole_made a0 y) fun y_1 =>
  k_ ((Prod.fst y_1), (Prod.snd y_1))
def whole_Int_Add.c2s : Shape := ⟨[(0, rb11), (1, rb11), (2, rb5), (3, rb12), (4, rb2)], [(2, rb4), (3, rb4), (4, rb4)]⟩
def whole_Int_Add.c2x0 : Shape := ⟨[(0, rb11), (1, rb11), (2, rb5), (3, rb12), (4, rb2)], [(2, rb4), (3, rb4), (4, rb4)]⟩
def whole_Int_Add.c2r : Ck := Ck.of (T := (Bool) × (List Int)) whole_Int_Add.c2s (fun ρ x_ k_ => uP x_ fun a x_ => uP x_ fun b x_ => uP x_ fun a0 x_ => uP x_ fun a1 x_ => uP x_ fun b0 x_ => uP x_ fun b1 x_ => uP x_ fun t40 x_ => uP x_ fun t41 x_ => whole_Int_Add.c2 a0 a1 b1 k_) (fun ρ x_ r_ k_ => uP x_ fun a x_ => uP x_ fun b x_ => uP x_ fun a0 x_ => uP x_ fun a1 x_ => uP x_ fun b0 x_ => uP x_ fun b1 x_ => uP x_ fun t40 x_ => uP x_ fun t41 x_ => k_ 0 (Shape.inj whole_Int_Add.c2x0 (a, b, a0, a1, b0, b1, r_.1, r_.2, ())))
def whole_Int_Add.c4 {ρ : Type} (a0 : Bool) (a1 : List (Int)) (b1 : List (Int)) (k_ : (Bool) × (List Int) → Option ρ) : Option ρ :=
  bnd (W.whole_less a1 b1) fun y =>
  bnd (W.whole_made a0 y) fun y_1 =>
  k_ ((Prod.fst y_1), (Prod.snd y_1))
def whole_Int_Add.c4s : Shape := ⟨[(0, rb11), (1, rb11), (2, rb5), (3, rb12), (4, rb2)], [(2, rb4), (3, rb4), (4, rb4)]⟩
def whole_Int_Add.c4x0 : Shape := ⟨[(0, rb11), (1, rb11), (2, rb5), (3, rb12), (4, rb2)], [(2, rb4), (3, rb4), (4, rb4)]⟩
def whole_Int_Add.c4r : Ck := Ck.of (T := (Bool) × (List Int)) whole_Int_Add.c4s (fun ρ x_ k_ => uP x_ fun a x_ => uP x_ fun b x_ => uP x_ fun a0 x_ => uP x_ fun a1 x_ => uP x_ fun b0 x_ => uP x_ fun b1 x_ => uP x_ fun t40 x_ => uP x_ fun t41 x_ => whole_Int_Add.c4 a0 a1 b1 k_) (fun ρ x_ r_ k_ => uP x_ fun a x_ => uP x_ fun b x_ => uP x_ fun a0 x_ => uP x_ fun a1 x_ => uP x_ fun b0 x_ => uP x_ fun b1 x_ => uP x_ fun t40 x_ => uP x_ fun t41 x_ => k_ 0 (Shape.inj whole_Int_Add.c4x0 (a, b, a0, a1, b0, b1, r_.1, r_.2, ())))
def whole_Int_Add.c5 {ρ : Type} (a1 : List (Int)) (b0 : Bool) (b1 : List (Int)) (k_ : (Bool) × (List Int) → Option ρ) : Option ρ :=
  bnd (W.whole_less b1 a1) fun y =>
  bnd (W.whole_made b0 y) fun y_1 =>
  k_ ((Prod.fst y_1), (Prod.snd y_1))
def whole_Int_Add.c5s : Shape := ⟨[(0, rb11), (1, rb11), (2, rb5), (3, rb12), (4, rb2)], [(2, rb4), (3, rb4), (4, rb4)]⟩
def whole_Int_Add.c5x0 : Shape := ⟨[(0, rb11), (1, rb11), (2, rb5), (3, rb12), (4, rb2)], [(2, rb4), (3, rb4), (4, rb4)]⟩
def whole_Int_Add.c5r : Ck := Ck.of (T := (Bool) × (List Int)) whole_Int_Add.c5s (fun ρ x_ k_ => uP x_ fun a x_ => uP x_ fun b x_ => uP x_ fun a0 x_ => uP x_ fun a1 x_ => uP x_ fun b0 x_ => uP x_ fun b1 x_ => uP x_ fun t40 x_ => uP x_ fun t41 x_ => whole_Int_Add.c5 a1 b0 b1 k_) (fun ρ x_ r_ k_ => uP x_ fun a x_ => uP x_ fun b x_ => uP x_ fun a0 x_ => uP x_ fun a1 x_ => uP x_ fun b0 x_ => uP x_ fun b1 x_ => uP x_ fun t40 x_ => uP x_ fun t41 x_ => k_ 0 (Shape.inj whole_Int_Add.c5x0 (a, b, a0, a1, b0, b1, r_.1, r_.2, ())))
def whole_Int_Add (a : (Bool) × (List Int)) (b : (Bool) × (List Int)) : Option ((Bool) × (List Int)) :=
  br (Prod.fst a == Prod.fst b)
   (bnd (W.whole_Int_Add.c2 (Prod.fst a) (Prod.snd a) (Prod.snd b) some) fun y =>
    some (Prod.fst y, Prod.snd y))
   (bnd (W.whole_order (Prod.snd a) (Prod.snd b)) fun y_1 =>
    br (decide (y_1 ≥ (0 : Int)))
     (bnd (W.whole_Int_Add.c4 (Prod.fst a) (Prod.snd a) (Prod.snd b) some) fun y_2 =>
      some (Prod.fst y_2, Prod.snd y_2))
     (bnd (W.whole_Int_Add.c5 (Prod.snd a) (Prod.fst b) (Prod.snd b) some) fun y_3 =>
      some (Prod.fst y_3, Prod.snd y_3)))
def whole_Int_Add.ce : Go.Ql.Callee := ⟨[(.st (.pair .bool (.sl (.int .u32)))), (.st (.pair .bool (.sl (.int .u32))))], [(.st (.pair .bool (.sl (.int .u32))))], fun x_ => whole_Int_Add x_.1 x_.2⟩
def whole_Int_Add.G : Env := ⟨40, tab, [(61, whole_sum.ce), (54, whole_made.ce), (62, whole_order.ce), (63, whole_less.ce)], [0, 1, 2, 3, 4, 9, 23], [], [(5, [⟨[], [], [34, 35, 36, 37, 38], []⟩, ⟨[0], [], [34, 35, 36, 37, 38], []⟩, ⟨[], [], [32, 33, 36, 37], []⟩, ⟨[2], [], [32, 33, 36, 37], []⟩, ⟨[], [], [32, 33, 34, 35], []⟩, ⟨[4], [], [32, 33, 34, 35], []⟩, ⟨[3, 2, 5, 4], [], [32, 33], []⟩, ⟨[1, 0, 6, 3, 2, 5, 4], [], [], []⟩, ⟨[7, 1, 0, 6, 3, 2, 5, 4], [4], [], []⟩]),
  (4, [⟨[], [], [26, 27, 28, 29, 30], []⟩, ⟨[0], [], [26, 27, 28, 29, 30], []⟩, ⟨[], [], [24, 25, 28, 29], []⟩, ⟨[2], [], [24, 25, 28, 29], []⟩, ⟨[], [], [24, 25, 26, 27], []⟩, ⟨[4], [], [24, 25, 26, 27], []⟩, ⟨[3, 2, 5, 4], [], [24, 25], []⟩, ⟨[1, 0, 6, 3, 2, 5, 4], [], [], []⟩, ⟨[7, 1, 0, 6, 3, 2, 5, 4], [4], [], []⟩]),
  (2, [⟨[], [], [12, 13, 14, 15, 16], []⟩, ⟨[0], [], [12, 13, 14, 15, 16], []⟩, ⟨[], [], [10, 11, 14, 15], []⟩, ⟨[2], [], [10, 11, 14, 15], []⟩, ⟨[], [], [10, 11, 12, 13], []⟩, ⟨[4], [], [10, 11, 12, 13], []⟩, ⟨[3, 2, 5, 4], [], [10, 11], []⟩, ⟨[1, 0, 6, 3, 2, 5, 4], [], [], []⟩, ⟨[7, 1, 0, 6, 3, 2, 5, 4], [4], [], []⟩])], [(5, whole_Int_Add.c5r), (4, whole_Int_Add.c4r), (2, whole_Int_Add.c2r)], [], tab_eqs⟩
theorem whole_Int_Add.eq (x_ : dens [(.st (.pair .bool (.sl (.int .u32)))), (.st (.pair .bool (.sl (.int .u32))))]) : den whole_Int_Add.G Go.Proofs.Tryd.f35 [(.st (.pair .bool (.sl (.int .u32)))), (.st (.pair .bool (.sl (.int .u32))))] [(.st (.pair .bool (.sl (.int .u32))))] x_ = whole_Int_Add x_.1 x_.2 := by kernel_rfl
theorem whole_Int_Add.p0 : PieceOk whole_Int_Add.G (pieceAt (pieces whole_Int_Add.G.cks (bodyOf Go.Proofs.Tryd.f35)) 0).1 (pieceAt (pieces whole_Int_Add.G.cks (bodyOf Go.Proofs.Tryd.f35)) 0).2 :=
  region_ok (s := whole_Int_Add.c2r) (by kernel_rfl) (by kernel_rfl) (sums_of (sh := whole_Int_Add.c2s) (fun ρ x_ k_ => (nat_bnd fun _ => (nat_bnd fun _ => nat_leaf))) (fun ρ x_ t k => (by kernel_rfl)) (fun x_ => by kernel_rfl))
theorem whole_Int_Add.p1 : PieceOk whole_Int_Add.G (pieceAt (pieces whole_Int_Add.G.cks (bodyOf Go.Proofs.Tryd.f35)) 1).1 (pieceAt (pieces whole_Int_Add.G.cks (bodyOf Go.Proofs.Tryd.f35)) 1).2 :=
  region_ok (s := whole_Int_Add.c4r) (by kernel_rfl) (by kernel_rfl) (sums_of (sh := whole_Int_Add.c4s) (fun ρ x_ k_ => (nat_bnd fun _ => (nat_bnd fun _ => nat_leaf))) (fun ρ x_ t k => (by kernel_rfl)) (fun x_ => by kernel_rfl))
theorem whole_Int_Add.p2 : PieceOk whole_Int_Add.G (pieceAt (pieces whole_Int_Add.G.cks (bodyOf Go.Proofs.Tryd.f35)) 2).1 (pieceAt (pieces whole_Int_Add.G.cks (bodyOf Go.Proofs.Tryd.f35)) 2).2 :=
  region_ok (s := whole_Int_Add.c5r) (by kernel_rfl) (by kernel_rfl) (sums_of (sh := whole_Int_Add.c5s) (fun ρ x_ k_ => (nat_bnd fun _ => (nat_bnd fun _ => nat_leaf))) (fun ρ x_ t k => (by kernel_rfl)) (fun x_ => by kernel_rfl))
theorem whole_Int_Add.ok : CalleeOk Go.Proofs.Tryd.prog 35 whole_Int_Add.ce := fn_ok (G := whole_Int_Add.G) tab_ok mixed Go.Proofs.Tryd.func35 ⟨(fns_cons whole_sum.ok (fns_cons whole_made.ok (fns_cons whole_order.ok (fns_cons whole_less.ok fns_nil)))), mfns_nil, tab_eqs_ok⟩ (m := 3) (by kernel_rfl) ⟨⟨⟨trivial, whole_Int_Add.p0⟩, whole_Int_Add.p1⟩, whole_Int_Add.p2⟩ (by kernel_rfl) whole_Int_Add.eq
def whole_Int_Sign (a : (Bool) × (List Int)) : Option (Int) :=
  br ((↑(List.length (Prod.snd a)) : Int) == (0 : Int))
   (some (0 : Int))
   (br (Prod.fst a)
     (some (-1 : Int))
     (some (1 : Int)))
def whole_Int_Sign.ce : Go.Ql.Callee := ⟨[(.st (.pair .bool (.sl (.int .u32))))], [(.int .i64)], fun x_ => whole_Int_Sign x_⟩
def whole_Int_Sign.G : Env := ⟨11, tab, [], [0, 1, 2, 3, 8], [], [], [], [], tab_eqs⟩
theorem whole_Int_Sign.eq (x_ : dens [(.st (.pair .bool (.sl (.int .u32))))]) : den whole_Int_Sign.G Go.Proofs.Tryd.f41 [(.st (.pair .bool (.sl (.int .u32))))] [(.int .i64)] x_ = whole_Int_Sign x_ := by kernel_rfl
theorem whole_Int_Sign.ok : CalleeOk Go.Proofs.Tryd.prog 41 whole_Int_Sign.ce := fn_ok (G := whole_Int_Sign.G) tab_ok mixed Go.Proofs.Tryd.func41 ⟨fns_nil, mfns_nil, tab_eqs_ok⟩ (m := 0) (by kernel_rfl) trivial (by kernel_rfl) whole_Int_Sign.eq
abbrev rb13 : SD := .one (.ref 1 0)
def whole_Int_Twos.c100002 {ρ : Type} (t6 : List (Int)) (t7 : Int) (t8 : Int) (k_ : (Int) ⊕ (((Int) × (Int)) ⊕ (Int)) → Option ρ) : Option ρ :=
  br (decide (t8 < t7))
   (bnd (idx t6 t8) fun y =>
    br (y != (0 : Int))
     (bnd (W.bits_TrailingZeros32 y) fun y_1 =>
      k_ (.inr (.inl ((IntKind.wrap IntKind.i64 (IntKind.wrap IntKind.i64 ((32 : Int) * t8) + y_1)), t8))))
     (k_ (.inl (IntKind.wrap IntKind.i64 (t8 + (1 : Int))))))
   (k_ (.inr (.inr t8)))
def whole_Int_Twos.c100002s : Shape := ⟨[(0, rb11), (1, rb13), (2, rb3), (6, rb1), (7, rb3), (8, rb3)], [(1, rb4)]⟩
def whole_Int_Twos.c100002x0 : Shape := ⟨[(0, rb11), (1, rb13), (2, rb3), (6, rb1), (7, rb3), (8, rb3)], [(1, rb4)]⟩
def whole_Int_Twos.c100002x1 : Shape := ⟨[(0, rb11), (1, rb13), (2, rb3), (6, rb1), (7, rb3), (8, rb3)], [(1, rb4)]⟩
def whole_Int_Twos.c100002r : Ck := Ck.ofLoop (S := Int) (T := ((Int) × (Int)) ⊕ (Int)) whole_Int_Twos.c100002s (fun x_ => uP x_ fun a x_ => uP x_ fun t2 x_ => uP x_ fun t6 x_ => uP x_ fun t7 x_ => uP x_ fun t8 x_ => uP x_ fun a0 x_ => uP x_ fun a1 x_ => t8) (fun ρ x_ s_ k_ => uP x_ fun a x_ => uP x_ fun t2 x_ => uP x_ fun t6 x_ => uP x_ fun t7 x_ => uP x_ fun t8 x_ => uP x_ fun a0 x_ => uP x_ fun a1 x_ => whole_Int_Twos.c100002 t6 t7 s_ k_) (fun ρ x_ r_ k_ => uP x_ fun a x_ => uP x_ fun t2 x_ => uP x_ fun t6 x_ => uP x_ fun t7 x_ => uP x_ fun t8 x_ => uP x_ fun a0 x_ => uP x_ fun a1 x_ => sel r_ (fun r_ => k_ 1 (Shape.inj whole_Int_Twos.c100002x0 (a, r_.1, t6, t7, r_.2, a0, a1, ()))) (fun r_ => k_ 2 (Shape.inj whole_Int_Twos.c100002x1 (a, t2, t6, t7, r_, a0, a1, ()))))
def whole_Int_Twos (a : (Bool) × (List Int)) : Option (Int) :=
  bnd (iter (fun s ↦ W.whole_Int_Twos.c100002 (Prod.snd a) (↑(List.length (Prod.snd a)) : Int) s some) (0 : Int)) fun y =>
  sel y
   (fun u => some (Prod.fst u))
   (fun v => some (0 : Int))
def whole_Int_Twos.ce : Go.Ql.Callee := ⟨[(.st (.pair .bool (.sl (.int .u32))))], [(.int .i64)], fun x_ => whole_Int_Twos x_⟩
def whole_Int_Twos.G : Env := ⟨21, tab, [(88, bits_TrailingZeros32.ce)], [0, 1, 2, 3, 4, 6, 7, 8, 9, 14], [], [], [(100002, whole_Int_Twos.c100002r)], [], tab_eqs⟩
theorem whole_Int_Twos.eq (x_ : dens [(.st (.pair .bool (.sl (.int .u32))))]) : den whole_Int_Twos.G Go.Proofs.Tryd.f64 [(.st (.pair .bool (.sl (.int .u32))))] [(.int .i64)] x_ = whole_Int_Twos x_ := by kernel_rfl
theorem whole_Int_Twos.p0 : PieceOk whole_Int_Twos.G (pieceAt (pieces whole_Int_Twos.G.cks (bodyOf Go.Proofs.Tryd.f64)) 0).1 (pieceAt (pieces whole_Int_Twos.G.cks (bodyOf Go.Proofs.Tryd.f64)) 0).2 :=
  loop_ok (s := whole_Int_Twos.c100002r) (by kernel_rfl) (by kernel_rfl) (loops_of (sh := whole_Int_Twos.c100002s) (I := fun x_ s_ => (x_.1, x_.2.1, x_.2.2.1, x_.2.2.2.1, s_, x_.2.2.2.2.2.1, x_.2.2.2.2.2.2.1, ())) (fun x_ => rfl) (fun ρ x_ s_ k_ => (nat_br (nat_bnd fun _ => (nat_br (nat_bnd fun _ => nat_leaf) nat_leaf)) nat_leaf)) (fun ρ x_ t k => (nat_sel (fun _ => (by kernel_rfl)) (fun _ => (by kernel_rfl)))) (fun x_ s => by kernel_rfl))
theorem whole_Int_Twos.ok : CalleeOk Go.Proofs.Tryd.prog 64 whole_Int_Twos.ce := fn_ok (G := whole_Int_Twos.G) tab_ok mixed Go.Proofs.Tryd.func64 ⟨(fns_cons bits_TrailingZeros32.ok fns_nil), mfns_nil, tab_eqs_ok⟩ (m := 1) (by kernel_rfl) ⟨trivial, whole_Int_Twos.p0⟩ (by kernel_rfl) whole_Int_Twos.eq
abbrev rb14 : SD := .one (.own 0 0)
abbrev rb15 : SD := .one (.own 4 0)
abbrev rb16 : SD := .one (.own 15 0)
def whole_left.pre : Shape := ⟨[(0, rb1), (1, rb3)], []⟩
def whole_left.post : Shape := ⟨[(0, rb14)], [(0, rb9)]⟩
def whole_left.c100003 {ρ : Type} (n : Int) (t16 : List (Int)) (t17 : Int) (t18 : Int) (t15 : List (Int)) (k_ : ((Int) × (List Int)) ⊕ ((Int) × (List Int)) → Option ρ) : Option ρ :=
  br (decide (t18 < t17))
   (bnd (idx t16 t18) fun y =>
    bnd (okIf (decide ((0 : Int) ≤ Int.tmod n (32 : Int)))) fun y_1 =>
    bnd (inR (List.length t15) (IntKind.wrap IntKind.i64 (t18 + IntKind.wrap IntKind.i64 (Int.tdiv n (32 : Int))))) fun y_2 =>
    bnd (idx t15 (IntKind.wrap IntKind.i64 (t18 + IntKind.wrap IntKind.i64 (Int.tdiv n (32 : Int))))) fun y_3 =>
    bnd (inR (List.length t15) (IntKind.wrap IntKind.i64 (t18 + IntKind.wrap IntKind.i64 (Int.tdiv n (32 : Int))))) fun y_4 =>
    bnd (idx t15 (IntKind.wrap IntKind.i64 (t18 + IntKind.wrap IntKind.i64 (Int.tdiv n (32 : Int))))) fun y_5 =>
    bnd (inR (List.length (List.set t15 (Int.toNat (IntKind.wrap IntKind.i64 (t18 + IntKind.wrap IntKind.i64 (Int.tdiv n (32 : Int))))) (ibits BinOp.or IntKind.u32 y_3 (IntKind.wrap IntKind.u32 (IntKind.wrap IntKind.u64 (IntKind.wrap IntKind.u64 y * (2 : Int) ^ Min.min (Int.toNat (Int.tmod n (32 : Int))) (64 : Nat))))))) (IntKind.wrap IntKind.i64 (IntKind.wrap IntKind.i64 (t18 + IntKind.wrap IntKind.i64 (Int.tdiv n (32 : Int))) + (1 : Int)))) fun y_6 =>
    bnd (idx (List.set t15 (Int.toNat (IntKind.wrap IntKind.i64 (t18 + IntKind.wrap IntKind.i64 (Int.tdiv n (32 : Int))))) (ibits BinOp.or IntKind.u32 y_3 (IntKind.wrap IntKind.u32 (IntKind.wrap IntKind.u64 (IntKind.wrap IntKind.u64 y * (2 : Int) ^ Min.min (Int.toNat (Int.tmod n (32 : Int))) (64 : Nat)))))) (IntKind.wrap IntKind.i64 (IntKind.wrap IntKind.i64 (t18 + IntKind.wrap IntKind.i64 (Int.tdiv n (32 : Int))) + (1 : Int)))) fun y_7 =>
    bnd (inR (List.length (List.set t15 (Int.toNat (IntKind.wrap IntKind.i64 (t18 + IntKind.wrap IntKind.i64 (Int.tdiv n (32 : Int))))) (ibits BinOp.or IntKind.u32 y_3 (IntKind.wrap IntKind.u32 (IntKind.wrap IntKind.u64 (IntKind.wrap IntKind.u64 y * (2 : Int) ^ Min.min (Int.toNat (Int.tmod n (32 : Int))) (64 : Nat))))))) (IntKind.wrap IntKind.i64 (IntKind.wrap IntKind.i64 (t18 + IntKind.wrap IntKind.i64 (Int.tdiv n (32 : Int))) + (1 : Int)))) fun y_8 =>
    bnd (idx (List.set t15 (Int.toNat (IntKind.wrap IntKind.i64 (t18 + IntKind.wrap IntKind.i64 (Int.tdiv n (32 : Int))))) (ibits BinOp.or IntKind.u32 y_3 (IntKind.wrap IntKind.u32 (IntKind.wrap IntKind.u64 (IntKind.wrap IntKind.u64 y * (2 : Int) ^ Min.min (Int.toNat (Int.tmod n (32 : Int))) (64 : Nat)))))) (IntKind.wrap IntKind.i64 (IntKind.wrap IntKind.i64 (t18 + IntKind.wrap IntKind.i64 (Int.tdiv n (32 : Int))) + (1 : Int)))) fun y_9 =>
    k_ (.inl ((IntKind.wrap IntKind.i64 (t18 + (1 : Int))), (List.set (List.set t15 (Int.toNat (IntKind.wrap IntKind.i64 (t18 + IntKind.wrap IntKind.i64 (Int.tdiv n (32 : Int))))) (ibits BinOp.or IntKind.u32 y_3 (IntKind.wrap IntKind.u32 (IntKind.wrap IntKind.u64 (IntKind.wrap IntKind.u64 y * (2 : Int) ^ Min.min (Int.toNat (Int.tmod n (32 : Int))) (64 : Nat)))))) (Int.toNat (IntKind.wrap IntKind.i64 (IntKind.wrap IntKind.i64 (t18 + IntKind.wrap IntKind.i64 (Int.tdiv n (32 : Int))) + (1 : Int)))) (ibits BinOp.or IntKind.u32 y_7 (IntKind.wrap IntKind.u32 (Int.fdiv (IntKind.wrap IntKind.u64 (IntKind.wrap IntKind.u64 y * (2 : Int) ^ Min.min (Int.toNat (Int.tmod n (32 : Int))) (64 : Nat))) ((2 : Int) ^ (32 : Nat)))))))))
   (k_ (.inr (t18, t15)))
def whole_left.c100003s : Shape := ⟨[(0, rb1), (1, rb3), (4, rb15), (5, rb16), (16, rb1), (17, rb3), (18, rb3)], [(4, rb9), (15, rb9)]⟩
def whole_left.c100003x0 : Shape := ⟨[(0, rb1), (1, rb3), (4, rb15), (5, rb16), (16, rb1), (17, rb3), (18, rb3)], [(4, rb9), (15, rb9)]⟩
def whole_left.c100003r : Ck := Ck.ofLoop (S := (Int) × (List Int)) (T := (Int) × (List Int)) whole_left.c100003s (fun x_ => uP x_ fun a x_ => uP x_ fun n x_ => uP x_ fun t16 x_ => uP x_ fun t17 x_ => uP x_ fun t18 x_ => uP x_ fun t4 x_ => uP x_ fun t15 x_ => (t18, t15)) (fun ρ x_ s_ k_ => uP x_ fun a x_ => uP x_ fun n x_ => uP x_ fun t16 x_ => uP x_ fun t17 x_ => uP x_ fun t18 x_ => uP x_ fun t4 x_ => uP x_ fun t15 x_ => whole_left.c100003 n t16 t17 s_.1 s_.2 k_) (fun ρ x_ r_ k_ => uP x_ fun a x_ => uP x_ fun n x_ => uP x_ fun t16 x_ => uP x_ fun t17 x_ => uP x_ fun t18 x_ => uP x_ fun t4 x_ => uP x_ fun t15 x_ => k_ 2 (Shape.inj whole_left.c100003x0 (a, n, t16, t17, r_.1, t4, r_.2, ())))
def whole_left (a : List (Int)) (n : Int) : Option ((List Int) × Unit) :=
  bnd (okIf (decide ((0 : Int) ≤ IntKind.wrap IntKind.i64 (IntKind.wrap IntKind.i64 ((↑(List.length a) : Int) + IntKind.wrap IntKind.i64 (Int.tdiv n (32 : Int))) + (1 : Int))) && decide (IntKind.wrap IntKind.i64 (IntKind.wrap IntKind.i64 ((↑(List.length a) : Int) + IntKind.wrap IntKind.i64 (Int.tdiv n (32 : Int))) + (1 : Int)) ≤ IntKind.wrap IntKind.i64 (IntKind.wrap IntKind.i64 ((↑(List.length a) : Int) + IntKind.wrap IntKind.i64 (Int.tdiv n (32 : Int))) + (1 : Int))) && decide (IntKind.wrap IntKind.i64 (IntKind.wrap IntKind.i64 ((↑(List.length a) : Int) + IntKind.wrap IntKind.i64 (Int.tdiv n (32 : Int))) + (1 : Int)) * (↑(4 : Nat) : Int) ≤ (140737488355328 : Int)) && decide (IntKind.wrap IntKind.i64 (IntKind.wrap IntKind.i64 ((↑(List.length a) : Int) + IntKind.wrap IntKind.i64 (Int.tdiv n (32 : Int))) + (1 : Int)) ≤ (140737488355328 : Int)))) fun y =>
  bnd (iter (fun s ↦ W.whole_left.c100003 n a (↑(List.length a) : Int) (Prod.fst s) (Prod.snd s) some) ((0 : Int), List.replicate (Int.toNat (IntKind.wrap IntKind.i64 (IntKind.wrap IntKind.i64 ((↑(List.length a) : Int) + IntKind.wrap IntKind.i64 (Int.tdiv n (32 : Int))) + (1 : Int)))) (0 : Int))) fun y_1 =>
  some (Prod.snd y_1, ())
def whole_left.mc : MCallee := ⟨92, whole_left.pre, whole_left.post, fun x_ => whole_left x_.1 x_.2.1⟩
def whole_left.G : Env := ⟨54, tab, [], [0, 1, 4, 5, 6, 7, 8, 16, 17, 18, 19], [4, 15], [], [(100003, whole_left.c100003r)], [], tab_eqs⟩
theorem whole_left.eq (x_ : densU whole_left.mc.pre.tys) : denM whole_left.G Go.Proofs.Tryd.f92 whole_left.mc.pre whole_left.mc.post x_ = whole_left.mc.F x_ := by kernel_rfl
theorem whole_left.p0 : PieceOk whole_left.G (pieceAt (pieces whole_left.G.cks (bodyOf Go.Proofs.Tryd.f92)) 0).1 (pieceAt (pieces whole_left.G.cks (bodyOf Go.Proofs.Tryd.f92)) 0).2 :=
  loop_ok (s := whole_left.c100003r) (by kernel_rfl) (by kernel_rfl) (loops_of (sh := whole_left.c100003s) (I := fun x_ s_ => (x_.1, x_.2.1, x_.2.2.1, x_.2.2.2.1, s_.1, x_.2.2.2.2.2.1, s_.2, ())) (fun x_ => rfl) (fun ρ x_ s_ k_ => (nat_br (nat_bnd fun _ => (nat_bnd fun _ => (nat_bnd fun _ => (nat_bnd fun _ => (nat_bnd fun _ => (nat_bnd fun _ => (nat_bnd fun _ => (nat_bnd fun _ => (nat_bnd fun _ => (nat_bnd fun _ => nat_leaf)))))))))) nat_leaf)) (fun ρ x_ t k => (by kernel_rfl)) (fun x_ s => by kernel_rfl))
theorem whole_left.ok : MOk Go.Proofs.Tryd.prog 92 whole_left.mc := fnm_ok (G := whole_left.G) tab_ok mixed Go.Proofs.Tryd.func92 ⟨fns_nil, mfns_nil, tab_eqs_ok⟩ (m := 1) (by kernel_rfl) ⟨trivial, whole_left.p0⟩ (by kernel_rfl) whole_left.eq
abbrev rb17 : SD := .one (.own 54 0)
def whole_right.c3 {ρ : Type} (a : List (Int)) (n : Int) (k_ : Bool → Option ρ) : Option ρ :=
  bnd (idx a (IntKind.wrap IntKind.i64 (Int.tdiv n (32 : Int)))) fun y =>
  bnd (okIf (decide ((0 : Int) ≤ IntKind.wrap IntKind.i64 ((32 : Int) - Int.tmod n (32 : Int))))) fun y_1 =>
  br (IntKind.wrap IntKind.u32 (y * (2 : Int) ^ Min.min (Int.toNat (IntKind.wrap IntKind.i64 ((32 : Int) - Int.tmod n (32 : Int)))) (32 : Nat)) != (0 : Int))
   (k_ (decide (Int.tmod n (32 : Int) > (0 : Int))))
   (k_ false)
def whole_right.c3s : Shape := ⟨[(0, rb1), (1, rb3), (4, rb1), (5, rb0)], []⟩
def whole_right.c3x0 : Shape := ⟨[(0, rb1), (1, rb3), (4, rb1), (5, rb0), (6, rb0)], []⟩
def whole_right.c3r : Ck := Ck.of (T := Bool) whole_right.c3s (fun ρ x_ k_ => uP x_ fun a x_ => uP x_ fun n x_ => uP x_ fun t4 x_ => uP x_ fun t5 x_ => whole_right.c3 a n k_) (fun ρ x_ r_ k_ => uP x_ fun a x_ => uP x_ fun n x_ => uP x_ fun t4 x_ => uP x_ fun t5 x_ => k_ 0 (Shape.inj whole_right.c3x0 (a, n, t4, t5, r_, ())))
def whole_right.c7 {ρ : Type} (lost : Bool) (x : Int) (k_ : Bool → Option ρ) : Option ρ :=
  br lost
   (k_ true)
   (k_ (x != (0 : Int)))
def whole_right.c7s : Shape := ⟨[(0, rb1), (1, rb3), (4, rb1), (5, rb0), (6, rb0), (8, rb8), (37, rb1), (38, rb3), (39, rb3)], []⟩
def whole_right.c7x0 : Shape := ⟨[(0, rb1), (1, rb3), (4, rb1), (5, rb0), (6, rb0), (8, rb8), (37, rb1), (38, rb3), (39, rb3)], []⟩
def whole_right.c7r : Ck := Ck.of (T := Bool) whole_right.c7s (fun ρ x_ k_ => uP x_ fun a x_ => uP x_ fun n x_ => uP x_ fun t4 x_ => uP x_ fun t5 x_ => uP x_ fun lost x_ => uP x_ fun x x_ => uP x_ fun t37 x_ => uP x_ fun t38 x_ => uP x_ fun t39 x_ => whole_right.c7 lost x k_) (fun ρ x_ r_ k_ => uP x_ fun a x_ => uP x_ fun n x_ => uP x_ fun t4 x_ => uP x_ fun t5 x_ => uP x_ fun lost x_ => uP x_ fun x x_ => uP x_ fun t37 x_ => uP x_ fun t38 x_ => uP x_ fun t39 x_ => k_ 0 (Shape.inj whole_right.c7x0 (a, n, t4, t5, r_, x, t37, t38, t39, ())))
def whole_right.c100005 {ρ : Type} (lost : Bool) (t37 : List (Int)) (t38 : Int) (t39 : Int) (k_ : ((Bool) × (Int)) ⊕ ((Bool) × (Int)) → Option ρ) : Option ρ :=
  br (decide (t39 < t38))
   (bnd (idx t37 t39) fun y =>
    bnd (W.whole_right.c7 lost y some) fun y_1 =>
    k_ (.inl (y_1, (IntKind.wrap IntKind.i64 (t39 + (1 : Int))))))
   (k_ (.inr (lost, t39)))
def whole_right.c100005s : Shape := ⟨[(0, rb1), (1, rb3), (4, rb1), (5, rb0), (6, rb0), (37, rb1), (38, rb3), (39, rb3)], []⟩
def whole_right.c100005x0 : Shape := ⟨[(0, rb1), (1, rb3), (4, rb1), (5, rb0), (6, rb0), (37, rb1), (38, rb3), (39, rb3)], []⟩
def whole_right.c100005r : Ck := Ck.ofLoop (S := (Bool) × (Int)) (T := (Bool) × (Int)) whole_right.c100005s (fun x_ => uP x_ fun a x_ => uP x_ fun n x_ => uP x_ fun t4 x_ => uP x_ fun t5 x_ => uP x_ fun lost x_ => uP x_ fun t37 x_ => uP x_ fun t38 x_ => uP x_ fun t39 x_ => (lost, t39)) (fun ρ x_ s_ k_ => uP x_ fun a x_ => uP x_ fun n x_ => uP x_ fun t4 x_ => uP x_ fun t5 x_ => uP x_ fun lost x_ => uP x_ fun t37 x_ => uP x_ fun t38 x_ => uP x_ fun t39 x_ => whole_right.c100005 s_.1 t37 t38 s_.2 k_) (fun ρ x_ r_ k_ => uP x_ fun a x_ => uP x_ fun n x_ => uP x_ fun t4 x_ => uP x_ fun t5 x_ => uP x_ fun lost x_ => uP x_ fun t37 x_ => uP x_ fun t38 x_ => uP x_ fun t39 x_ => k_ 2 (Shape.inj whole_right.c100005x0 (a, n, t4, t5, r_.1, t37, t38, r_.2, ())))
def whole_right.c14 {ρ : Type} (a : List (Int)) (n : Int) (i : Int) (k_ : Bool → Option ρ) : Option ρ :=
  br (decide (IntKind.wrap IntKind.i64 (IntKind.wrap IntKind.i64 (i + IntKind.wrap IntKind.i64 (Int.tdiv n (32 : Int))) + (1 : Int)) < (↑(List.length a) : Int)))
   (k_ (decide (Int.tmod n (32 : Int) > (0 : Int))))
   (k_ false)
def whole_right.c14s : Shape := ⟨[(0, rb1), (1, rb3), (4, rb1), (5, rb0), (6, rb0), (9, rb17), (10, rb3), (37, rb1), (38, rb3), (39, rb3), (56, rb3), (57, rb3)], [(54, rb9)]⟩
def whole_right.c14x0 : Shape := ⟨[(0, rb1), (1, rb3), (4, rb1), (5, rb0), (6, rb0), (9, rb17), (10, rb3), (37, rb1), (38, rb3), (39, rb3), (56, rb3), (57, rb3), (85, rb0)], [(54, rb9)]⟩
def whole_right.c14r : Ck := Ck.of (T := Bool) whole_right.c14s (fun ρ x_ k_ => uP x_ fun a x_ => uP x_ fun n x_ => uP x_ fun t4 x_ => uP x_ fun t5 x_ => uP x_ fun lost x_ => uP x_ fun i x_ => uP x_ fun t37 x_ => uP x_ fun t38 x_ => uP x_ fun t39 x_ => uP x_ fun t56 x_ => uP x_ fun t57 x_ => uP x_ fun t54 x_ => whole_right.c14 a n i k_) (fun ρ x_ r_ k_ => uP x_ fun a x_ => uP x_ fun n x_ => uP x_ fun t4 x_ => uP x_ fun t5 x_ => uP x_ fun lost x_ => uP x_ fun i x_ => uP x_ fun t37 x_ => uP x_ fun t38 x_ => uP x_ fun t39 x_ => uP x_ fun t56 x_ => uP x_ fun t57 x_ => uP x_ fun t54 x_ => k_ 0 (Shape.inj whole_right.c14x0 (a, n, t4, t5, lost, i, t37, t38, t39, t56, t57, r_, t54, ())))
def whole_right.c15 {ρ : Type} (a : List (Int)) (n : Int) (i : Int) (t54 : List (Int)) (k_ : List (Int) → Option ρ) : Option ρ :=
  bnd (inR (List.length t54) i) fun y =>
  bnd (idx t54 i) fun y_1 =>
  bnd (idx a (IntKind.wrap IntKind.i64 (IntKind.wrap IntKind.i64 (i + IntKind.wrap IntKind.i64 (Int.tdiv n (32 : Int))) + (1 : Int)))) fun y_2 =>
  bnd (okIf (decide ((0 : Int) ≤ IntKind.wrap IntKind.i64 ((32 : Int) - Int.tmod n (32 : Int))))) fun y_3 =>
  bnd (inR (List.length t54) i) fun y_4 =>
  bnd (idx t54 i) fun y_5 =>
  k_ (List.set t54 (Int.toNat i) (ibits BinOp.or IntKind.u32 y_1 (IntKind.wrap IntKind.u32 (y_2 * (2 : Int) ^ Min.min (Int.toNat (IntKind.wrap IntKind.i64 ((32 : Int) - Int.tmod n (32 : Int)))) (32 : Nat)))))
def whole_right.c15s : Shape := ⟨[(0, rb1), (1, rb3), (4, rb1), (5, rb0), (6, rb0), (9, rb17), (10, rb3), (37, rb1), (38, rb3), (39, rb3), (56, rb3), (57, rb3)], [(54, rb9)]⟩
def whole_right.c15x0 : Shape := ⟨[(0, rb1), (1, rb3), (4, rb1), (5, rb0), (6, rb0), (9, rb17), (10, rb3), (37, rb1), (38, rb3), (39, rb3), (56, rb3), (57, rb3)], [(54, rb9)]⟩
def whole_right.c15r : Ck := Ck.of (T := List (Int)) whole_right.c15s (fun ρ x_ k_ => uP x_ fun a x_ => uP x_ fun n x_ => uP x_ fun t4 x_ => uP x_ fun t5 x_ => uP x_ fun lost x_ => uP x_ fun i x_ => uP x_ fun t37 x_ => uP x_ fun t38 x_ => uP x_ fun t39 x_ => uP x_ fun t56 x_ => uP x_ fun t57 x_ => uP x_ fun t54 x_ => whole_right.c15 a n i t54 k_) (fun ρ x_ r_ k_ => uP x_ fun a x_ => uP x_ fun n x_ => uP x_ fun t4 x_ => uP x_ fun t5 x_ => uP x_ fun lost x_ => uP x_ fun i x_ => uP x_ fun t37 x_ => uP x_ fun t38 x_ => uP x_ fun t39 x_ => uP x_ fun t56 x_ => uP x_ fun t57 x_ => uP x_ fun t54 x_ => k_ 0 (Shape.inj whole_right.c15x0 (a, n, t4, t5, lost, i, t37, t38, t39, t56, t57, r_, ())))
def whole_right.c249162 {ρ : Type} (a : List (Int)) (n : Int) (t57 : Int) (t54 : List (Int)) (k_ : List (Int) → Option ρ) : Option ρ :=
  bnd (idx a (IntKind.wrap IntKind.i64 (t57 + IntKind.wrap IntKind.i64 (Int.tdiv n (32 : Int))))) fun y =>
  bnd (okIf (decide ((0 : Int) ≤ Int.tmod n (32 : Int)))) fun y_1 =>
  bnd (inR (List.length t54) t57) fun y_2 =>
  bnd (idx t54 t57) fun y_3 =>
  bnd (W.whole_right.c14 a n t57 some) fun y_4 =>
  br y_4
   (bnd (W.whole_right.c15 a n t57 (List.set t54 (Int.toNat t57) (Int.fdiv y ((2 : Int) ^ Min.min (Int.toNat (Int.tmod n (32 : Int))) (32 : Nat)))) some) fun y_5 =>
    k_ y_5)
   (k_ (List.set t54 (Int.toNat t57) (Int.fdiv y ((2 : Int) ^ Min.min (Int.toNat (Int.tmod n (32 : Int))) (32 : Nat)))))
def whole_right.c249162s : Shape := ⟨[(0, rb1), (1, rb3), (4, rb1), (5, rb0), (6, rb0), (9, rb17), (37, rb1), (38, rb3), (39, rb3), (56, rb3), (57, rb3)], [(54, rb9)]⟩
def whole_right.c249162x0 : Shape := ⟨[(0, rb1), (1, rb3), (4, rb1), (5, rb0), (6, rb0), (9, rb17), (37, rb1), (38, rb3), (39, rb3), (56, rb3), (57, rb3)], [(54, rb9)]⟩
def whole_right.c249162r : Ck := Ck.of (T := List (Int)) whole_right.c249162s (fun ρ x_ k_ => uP x_ fun a x_ => uP x_ fun n x_ => uP x_ fun t4 x_ => uP x_ fun t5 x_ => uP x_ fun lost x_ => uP x_ fun t37 x_ => uP x_ fun t38 x_ => uP x_ fun t39 x_ => uP x_ fun t56 x_ => uP x_ fun t57 x_ => uP x_ fun t54 x_ => whole_right.c249162 a n t57 t54 k_) (fun ρ x_ r_ k_ => uP x_ fun a x_ => uP x_ fun n x_ => uP x_ fun t4 x_ => uP x_ fun t5 x_ => uP x_ fun lost x_ => uP x_ fun t37 x_ => uP x_ fun t38 x_ => uP x_ fun t39 x_ => uP x_ fun t56 x_ => uP x_ fun t57 x_ => uP x_ fun t54 x_ => k_ 0 (Shape.inj whole_right.c249162x0 (a, n, t4, t5, lost, t37, t38, t39, t56, t57, r_, ())))
def whole_right.c100011 {ρ : Type} (a : List (Int)) (n : Int) (t56 : Int) (t57 : Int) (t54 : List (Int)) (k_ : ((Int) × (List Int)) ⊕ ((Int) × (List Int)) → Option ρ) : Option ρ :=
  br (decide (t57 < t56))
   (bnd (W.whole_right.c249162 a n t57 t54 some) fun y =>
    k_ (.inl ((IntKind.wrap IntKind.i64 (t57 + (1 : Int))), y)))
   (k_ (.inr (t57, t54)))
def whole_right.c100011s : Shape := ⟨[(0, rb1), (1, rb3), (4, rb1), (5, rb0), (6, rb0), (9, rb17), (37, rb1), (38, rb3), (39, rb3), (56, rb3), (57, rb3)], [(54, rb9)]⟩
def whole_right.c100011x0 : Shape := ⟨[(0, rb1), (1, rb3), (4, rb1), (5, rb0), (6, rb0), (9, rb17), (37, rb1), (38, rb3), (39, rb3), (56, rb3), (57, rb3)], [(54, rb9)]⟩
def whole_right.c100011r : Ck := Ck.ofLoop (S := (Int) × (List Int)) (T := (Int) × (List Int)) whole_right.c100011s (fun x_ => uP x_ fun a x_ => uP x_ fun n x_ => uP x_ fun t4 x_ => uP x_ fun t5 x_ => uP x_ fun lost x_ => uP x_ fun t37 x_ => uP x_ fun t38 x_ => uP x_ fun t39 x_ => uP x_ fun t56 x_ => uP x_ fun t57 x_ => uP x_ fun t54 x_ => (t57, t54)) (fun ρ x_ s_ k_ => uP x_ fun a x_ => uP x_ fun n x_ => uP x_ fun t4 x_ => uP x_ fun t5 x_ => uP x_ fun lost x_ => uP x_ fun t37 x_ => uP x_ fun t38 x_ => uP x_ fun t39 x_ => uP x_ fun t56 x_ => uP x_ fun t57 x_ => uP x_ fun t54 x_ => whole_right.c100011 a n t56 s_.1 s_.2 k_) (fun ρ x_ r_ k_ => uP x_ fun a x_ => uP x_ fun n x_ => uP x_ fun t4 x_ => uP x_ fun t5 x_ => uP x_ fun lost x_ => uP x_ fun t37 x_ => uP x_ fun t38 x_ => uP x_ fun t39 x_ => uP x_ fun t56 x_ => uP x_ fun t57 x_ => uP x_ fun t54 x_ => k_ 4 (Shape.inj whole_right.c100011x0 (a, n, t4, t5, lost, t37, t38, t39, t56, r_.1, r_.2, ())))
def whole_right (a : List (Int)) (n : Int) : Option ((List Int) × (Bool)) :=
  br (decide (IntKind.wrap IntKind.i64 (Int.tdiv n (32 : Int)) ≥ (↑(List.length a) : Int)))
   (some ([], decide ((↑(List.length a) : Int) > (0 : Int))))
   (bnd (W.whole_right.c3 a n some) fun y =>
    bnd (okIf (decide ((0 : Int) ≤ IntKind.wrap IntKind.i64 (Int.tdiv n (32 : Int))) && decide (IntKind.wrap IntKind.i64 (Int.tdiv n (32 : Int)) ≤ (↑(List.length a) : Int)))) fun y_1 =>
    bnd (iter (fun s ↦ W.whole_right.c100005 (Prod.fst s) (List.take (Int.toNat (IntKind.wrap IntKind.i64 (Int.tdiv n (32 : Int)))) a) (↑(List.length (List.take (Int.toNat (IntKind.wrap IntKind.i64 (Int.tdiv n (32 : Int)))) a)) : Int) (Prod.snd s) some) (y, (0 : Int))) fun y_2 =>
    bnd (okIf (decide ((0 : Int) ≤ IntKind.wrap IntKind.i64 ((↑(List.length a) : Int) - IntKind.wrap IntKind.i64 (Int.tdiv n (32 : Int)))) && decide (IntKind.wrap IntKind.i64 ((↑(List.length a) : Int) - IntKind.wrap IntKind.i64 (Int.tdiv n (32 : Int))) ≤ IntKind.wrap IntKind.i64 ((↑(List.length a) : Int) - IntKind.wrap IntKind.i64 (Int.tdiv n (32 : Int)))) && decide (IntKind.wrap IntKind.i64 ((↑(List.length a) : Int) - IntKind.wrap IntKind.i64 (Int.tdiv n (32 : Int))) * (↑(4 : Nat) : Int) ≤ (140737488355328 : Int)) && decide (IntKind.wrap IntKind.i64 ((↑(List.length a) : Int) - IntKind.wrap IntKind.i64 (Int.tdiv n (32 : Int))) ≤ (140737488355328 : Int)))) fun y_3 =>
    bnd (iter (fun s ↦ W.whole_right.c100011 a n (↑(List.length (List.replicate (Int.toNat (IntKind.wrap IntKind.i64 ((↑(List.length a) : Int) - IntKind.wrap IntKind.i64 (Int.tdiv n (32 : Int))))) (0 : Int))) : Int) (Prod.fst s) (Prod.snd s) some) ((0 : Int), List.replicate (Int.toNat (IntKind.wrap IntKind.i64 ((↑(List.length a) : Int) - IntKind.wrap IntKind.i64 (Int.tdiv n (32 : Int))))) (0 : Int))) fun y_4 =>
    some (Prod.snd y_4, Prod.fst y_2))
def whole_right.ce : Go.Ql.Callee := ⟨[(.sl (.int .u32)), (.int .i64)], [(.sl (.int .u32)), .bool], fun x_ => whole_right x_.1 x_.2⟩
def whole_right.G : Env := ⟨107, tab, [], [0, 1, 4, 5, 6, 8, 9, 10, 15, 37, 38, 39, 40, 56, 57, 58, 85], [54], [(15, [⟨[], [], [87, 90, 91, 92, 93, 94, 95, 96, 97, 98, 99, 100, 101], []⟩, ⟨[], [], [86, 90, 91, 92, 93, 94, 95, 96, 97, 98, 99, 100, 101], []⟩, ⟨[0, 1], [], [90, 91, 92, 93, 94, 95, 96, 97, 98, 99, 100, 101], []⟩, ⟨[2, 0, 1], [], [90, 91, 92, 93, 94, 95, 96, 97, 98, 99, 100, 101], []⟩, ⟨[], [], [86, 87, 88, 89, 91, 92, 93, 94, 95, 98, 99, 100], []⟩, ⟨[], [], [86, 87, 88, 89, 90, 92, 93, 98, 99, 100], []⟩, ⟨[], [], [86, 87, 88, 89, 90, 91, 98, 99, 100], []⟩, ⟨[6], [], [86, 87, 88, 89, 90, 91, 98, 99, 100], []⟩, ⟨[5, 7, 6], [], [86, 87, 88, 89, 90, 98, 99, 100], []⟩, ⟨[8, 5, 7, 6], [], [86, 87, 88, 89, 90, 98, 99, 100], []⟩, ⟨[4, 9, 8, 5, 7, 6], [], [86, 87, 88, 89, 98, 99, 100], []⟩, ⟨[10, 4, 9, 8, 5, 7, 6], [], [86, 87, 88, 89, 98, 99, 100], []⟩, ⟨[], [], [86, 87, 88, 89, 90, 91, 92, 93, 94, 95, 96, 97], []⟩, ⟨[12], [], [86, 87, 88, 89, 90, 91, 92, 93, 94, 95, 96, 97], []⟩, ⟨[13, 12], [], [86, 87, 88, 89, 90, 91, 92, 93, 94, 95, 96, 97], []⟩, ⟨[11, 10, 4, 9, 8, 5, 7, 6, 14, 13, 12], [], [86, 87, 88, 89], []⟩, ⟨[3, 2, 0, 1, 15, 11, 10, 4, 9, 8, 5, 7, 6, 14, 13, 12], [], [], []⟩, ⟨[0, 1, 2, 3, 4, 5, 6, 7, 8, 9, 10, 11, 12, 13, 14, 15, 16], [], [], []⟩, ⟨[17, 0, 1, 2, 3, 4, 5, 6, 7, 8, 9, 10, 11, 12, 13, 14, 15, 16], [54], [], []⟩])], [(100011, whole_right.c100011r), (249162, whole_right.c249162r), (15, whole_right.c15r), (14, whole_right.c14r), (100005, whole_right.c100005r), (7, whole_right.c7r), (3, whole_right.c3r)], [], tab_eqs⟩
theorem whole_right.eq (x_ : dens [(.sl (.int .u32)), (.int .i64)]) : den whole_right.G Go.Proofs.Tryd.f93 [(.sl (.int .u32)), (.int .i64)] [(.sl (.int .u32)), .bool] x_ = whole_right x_.1 x_.2 := by kernel_rfl
theorem whole_right.p0 : PieceOk whole_right.G (pieceAt (pieces whole_right.G.cks (bodyOf Go.Proofs.Tryd.f93)) 0).1 (pieceAt (pieces whole_right.G.cks (bodyOf Go.Proofs.Tryd.f93)) 0).2 :=
  region_ok (s := whole_right.c3r) (by kernel_rfl) (by kernel_rfl) (sums_of (sh := whole_right.c3s) (fun ρ x_ k_ => (nat_bnd fun _ => (nat_bnd fun _ => (nat_br nat_leaf nat_leaf)))) (fun ρ x_ t k => (by kernel_rfl)) (fun x_ => by kernel_rfl))
theorem whole_right.p1 : PieceOk whole_right.G (pieceAt (pieces whole_right.G.cks (bodyOf Go.Proofs.Tryd.f93)) 1).1 (pieceAt (pieces whole_right.G.cks (bodyOf Go.Proofs.Tryd.f93)) 1).2 :=
  loop_ok (s := whole_right.c100005r) (by kernel_rfl) (by kernel_rfl) (loops_of (sh := whole_right.c100005s) (I := fun x_ s_ => (x_.1, x_.2.1, x_.2.2.1, x_.2.2.2.1, s_.1, x_.2.2.2.2.2.1, x_.2.2.2.2.2.2.1, s_.2, ())) (fun x_ => rfl) (fun ρ x_ s_ k_ => (nat_br (nat_bnd fun _ => (nat_bnd fun _ => nat_leaf)) nat_leaf)) (fun ρ x_ t k => (by kernel_rfl)) (fun x_ s => by kernel_rfl))
theorem whole_right.p2 : PieceOk whole_right.G (pieceAt (pieces whole_right.G.cks (bodyOf Go.Proofs.Tryd.f93)) 2).1 (pieceAt (pieces whole_right.G.cks (bodyOf Go.Proofs.Tryd.f93)) 2).2 :=
  region_ok (s := whole_right.c7r) (by kernel_rfl) (by kernel_rfl) (sums_of (sh := whole_right.c7s) (fun ρ x_ k_ => (nat_br nat_leaf nat_leaf)) (fun ρ x_ t k => (by kernel_rfl)) (fun x_ => by kernel_rfl))
theorem whole_right.p3 : PieceOk whole_right.G (pieceAt (pieces whole_right.G.cks (bodyOf Go.Proofs.Tryd.f93)) 3).1 (pieceAt (pieces whole_right.G.cks (bodyOf Go.Proofs.Tryd.f93)) 3).2 :=
  loop_ok (s := whole_right.c100011r) (by kernel_rfl) (by kernel_rfl) (loops_of (sh := whole_right.c100011s) (I := fun x_ s_ => (x_.1, x_.2.1, x_.2.2.1, x_.2.2.2.1, x_.2.2.2.2.1, x_.2.2.2.2.2.1, x_.2.2.2.2.2.2.1, x_.2.2.2.2.2.2.2.1, x_.2.2.2.2.2.2.2.2.1, s_.1, s_.2, ())) (fun x_ => rfl) (fun ρ x_ s_ k_ => (nat_br (nat_bnd fun _ => nat_leaf) nat_leaf)) (fun ρ x_ t k => (by kernel_rfl)) (fun x_ s => by kernel_rfl))
theorem whole_right.p4 : PieceOk whole_right.G (pieceAt (pieces whole_right.G.cks (bodyOf Go.Proofs.Tryd.f93)) 4).1 (pieceAt (pieces whole_right.G.cks (bodyOf Go.Proofs.Tryd.f93)) 4).2 :=
  join_ok (s := whole_right.c249162r) (by kernel_rfl) (by kernel_rfl) (sums_of (sh := whole_right.c249162s) (fun ρ x_ k_ => (nat_bnd fun _ => (nat_bnd fun _ => (nat_bnd fun _ => (nat_bnd fun _ => (nat_bnd fun _ => (nat_br (nat_bnd fun _ => nat_leaf) nat_leaf))))))) (fun ρ x_ t k => (by kernel_rfl)) (fun x_ => by kernel_rfl))
theorem whole_right.p5 : PieceOk whole_right.G (pieceAt (pieces whole_right.G.cks (bodyOf Go.Proofs.Tryd.f93)) 5).1 (pieceAt (pieces whole_right.G.cks (bodyOf Go.Proofs.Tryd.f93)) 5).2 :=
  region_ok (s := whole_right.c14r) (by kernel_rfl) (by kernel_rfl) (sums_of (sh := whole_right.c14s) (fun ρ x_ k_ => (nat_br nat_leaf nat_leaf)) (fun ρ x_ t k => (by kernel_rfl)) (fun x_ => by kernel_rfl))
theorem whole_right.p6 : PieceOk whole_right.G (pieceAt (pieces whole_right.G.cks (bodyOf Go.Proofs.Tryd.f93)) 6).1 (pieceAt (pieces whole_right.G.cks (bodyOf Go.Proofs.Tryd.f93)) 6).2 :=
  region_ok (s := whole_right.c15r) (by kernel_rfl) (by kernel_rfl) (sums_of (sh := whole_right.c15s) (fun ρ x_ k_ => (nat_bnd fun _ => (nat_bnd fun _ => (nat_bnd fun _ => (nat_bnd fun _ => (nat_bnd fun _ => (nat_bnd fun _ => nat_leaf))))))) (fun ρ x_ t k => (by kernel_rfl)) (fun x_ => by kernel_rfl))
theorem whole_right.ok : CalleeOk Go.Proofs.Tryd.prog 93 whole_right.ce := fn_ok (G := whole_right.G) tab_ok mixed Go.Proofs.Tryd.func93 ⟨fns_nil, mfns_nil, tab_eqs_ok⟩ (m := 7) (by kernel_rfl) ⟨⟨⟨⟨⟨⟨⟨trivial, whole_right.p0⟩, whole_right.p1⟩, whole_right.p2⟩, whole_right.p3⟩, whole_right.p4⟩, whole_right.p5⟩, whole_right.p6⟩ (by kernel_rfl) whole_right.eq
def whole_Int_Sub.c1 {ρ : Type} (a0 : Bool) (a1 : List (Int)) (b0 : Bool) (b1 : List (Int)) (k_ : (Bool) × (List Int) → Option ρ) : Option ρ :=
  bnd (W.whole_Int_Neg (b0, b1)) fun y =>
  bnd (W.whole_Int_Add (a0, a1) y) fun y_1 =>
  k_ ((Prod.fst y_1), (Prod.snd y_1))
def whole_Int_Sub.c1s : Shape := ⟨[(0, rb11), (1, rb11), (2, rb5), (3, rb12), (4, rb2)], [(2, rb4), (3, rb4), (4, rb4)]⟩
def whole_Int_Sub.c1x0 : Shape := ⟨[(0, rb11), (1, rb11), (2, rb5), (3, rb12), (4, rb2)], [(2, rb4), (3, rb4), (4, rb4)]⟩
def whole_Int_Sub.c1r : Ck := Ck.of (T := (Bool) × (List Int)) whole_Int_Sub.c1s (fun ρ x_ k_ => uP x_ fun a x_ => uP x_ fun b x_ => uP x_ fun a0 x_ => uP x_ fun a1 x_ => uP x_ fun b0 x_ => uP x_ fun b1 x_ => uP x_ fun t40 x_ => uP x_ fun t41 x_ => whole_Int_Sub.c1 a0 a1 b0 b1 k_) (fun ρ x_ r_ k_ => uP x_ fun a x_ => uP x_ fun b x_ => uP x_ fun a0 x_ => uP x_ fun a1 x_ => uP x_ fun b0 x_ => uP x_ fun b1 x_ => uP x_ fun t40 x_ => uP x_ fun t41 x_ => k_ 0 (Shape.inj whole_Int_Sub.c1x0 (a, b, a0, a1, b0, b1, r_.1, r_.2, ())))
def whole_Int_Sub (a : (Bool) × (List Int)) (b : (Bool) × (List Int)) : Option ((Bool) × (List Int)) :=
  bnd (W.whole_Int_Sub.c1 (Prod.fst a) (Prod.snd a) (Prod.fst b) (Prod.snd b) some) fun y =>
  some (Prod.fst y, Prod.snd y)
def whole_Int_Sub.ce : Go.Ql.Callee := ⟨[(.st (.pair .bool (.sl (.int .u32)))), (.st (.pair .bool (.sl (.int .u32))))], [(.st (.pair .bool (.sl (.int .u32))))], fun x_ => whole_Int_Sub x_.1 x_.2⟩
def whole_Int_Sub.G : Env := ⟨9, tab, [(34, whole_Int_Neg.ce), (35, whole_Int_Add.ce)], [0, 1, 2, 3, 4], [], [(1, [⟨[], [], [6, 7], []⟩, ⟨[], [], [5], []⟩, ⟨[1], [], [5], []⟩, ⟨[0, 2, 1], [], [], []⟩, ⟨[3, 0, 2, 1], [4], [], []⟩])], [(1, whole_Int_Sub.c1r)], [], tab_eqs⟩
theorem whole_Int_Sub.eq (x_ : dens [(.st (.pair .bool (.sl (.int .u32)))), (.st (.pair .bool (.sl (.int .u32))))]) : den whole_Int_Sub.G Go.Proofs.Tryd.f94 [(.st (.pair .bool (.sl (.int .u32)))), (.st (.pair .bool (.sl (.int .u32))))] [(.st (.pair .bool (.sl (.int .u32))))] x_ = whole_Int_Sub x_.1 x_.2 := by kernel_rfl
theorem whole_Int_Sub.p0 : PieceOk whole_Int_Sub.G (pieceAt (pieces whole_Int_Sub.G.cks (bodyOf Go.Proofs.Tryd.f94)) 0).1 (pieceAt (pieces whole_Int_Sub.G.cks (bodyOf Go.Proofs.Tryd.f94)) 0).2 :=
  region_ok (s := whole_Int_Sub.c1r) (by kernel_rfl) (by kernel_rfl) (sums_of (sh := whole_Int_Sub.c1s) (fun ρ x_ k_ => (nat_bnd fun _ => (nat_bnd fun _ => nat_leaf))) (fun ρ x_ t k => (by kernel_rfl)) (fun x_ => by kernel_rfl))
theorem whole_Int_Sub.ok : CalleeOk Go.Proofs.Tryd.prog 94 whole_Int_Sub.ce := fn_ok (G := whole_Int_Sub.G) tab_ok mixed Go.Proofs.Tryd.func94 ⟨(fns_cons whole_Int_Neg.ok (fns_cons whole_Int_Add.ok fns_nil)), mfns_nil, tab_eqs_ok⟩ (m := 1) (by kernel_rfl) ⟨trivial, whole_Int_Sub.p0⟩ (by kernel_rfl) whole_Int_Sub.eq
abbrev rb18 : SD := .one (.ref 5 0)
abbrev rb19 : SO := .box [.val (.int .i64), .val (.int .i64)]
abbrev rb20 : SD := .one (.ref 8 0)
def whole_Int_Shift.c1 {ρ : Type} (n : Int) (k_ : Bool → Option ρ) : Option ρ :=
  br (decide (n < (-10000 : Int)))
   (k_ true)
   (k_ (decide (n > (10000 : Int))))
def whole_Int_Shift.c1s : Shape := ⟨[(0, rb11), (1, rb3), (2, rb5), (4, rb2), (5, rb18)], [(2, rb4), (4, rb4), (5, rb19)]⟩
def whole_Int_Shift.c1x0 : Shape := ⟨[(0, rb11), (1, rb3), (2, rb5), (4, rb2), (5, rb18), (14, rb0)], [(2, rb4), (4, rb4), (5, rb19)]⟩
def whole_Int_Shift.c1r : Ck := Ck.of (T := Bool) whole_Int_Shift.c1s (fun ρ x_ k_ => uP x_ fun a x_ => uP x_ fun n x_ => uP x_ fun a0 x_ => uP x_ fun a1 x_ => uP x_ fun t40 x_ => uP x_ fun t41 x_ => uP x_ fun t50 x_ => uP x_ fun t51 x_ => whole_Int_Shift.c1 n k_) (fun ρ x_ r_ k_ => uP x_ fun a x_ => uP x_ fun n x_ => uP x_ fun a0 x_ => uP x_ fun a1 x_ => uP x_ fun t40 x_ => uP x_ fun t41 x_ => uP x_ fun t50 x_ => uP x_ fun t51 x_ => k_ 0 (Shape.inj whole_Int_Shift.c1x0 (a, n, r_, a0, a1, t40, t41, t50, t51, ())))
def whole_Int_Shift.c4 {ρ : Type} (n : Int) (a0 : Bool) (a1 : List (Int)) (k_ : (Bool) × (List Int) → Option ρ) : Option ρ :=
  bnd (W.whole_left a1 n) fun y =>
  bnd (W.whole_made a0 (Prod.fst y)) fun y_1 =>
  k_ ((Prod.fst y_1), (Prod.snd y_1))
def whole_Int_Shift.c4s : Shape := ⟨[(0, rb11), (1, rb3), (2, rb5), (4, rb2), (5, rb18)], [(2, rb4), (4, rb4), (5, rb19)]⟩
def whole_Int_Shift.c4x0 : Shape := ⟨[(0, rb11), (1, rb3), (2, rb5), (4, rb2), (5, rb18)], [(2, rb4), (4, rb4), (5, rb19)]⟩
def whole_Int_Shift.c4r : Ck := Ck.of (T := (Bool) × (List Int)) whole_Int_Shift.c4s (fun ρ x_ k_ => uP x_ fun a x_ => uP x_ fun n x_ => uP x_ fun a0 x_ => uP x_ fun a1 x_ => uP x_ fun t40 x_ => uP x_ fun t41 x_ => uP x_ fun t50 x_ => uP x_ fun t51 x_ => whole_Int_Shift.c4 n a0 a1 k_) (fun ρ x_ r_ k_ => uP x_ fun a x_ => uP x_ fun n x_ => uP x_ fun a0 x_ => uP x_ fun a1 x_ => uP x_ fun t40 x_ => uP x_ fun t41 x_ => uP x_ fun t50 x_ => uP x_ fun t51 x_ => k_ 0 (Shape.inj whole_Int_Shift.c4x0 (a, n, a0, a1, r_.1, r_.2, (0 : Int), (0 : Int), ())))
def whole_Int_Shift.c7 {ρ : Type} (lost : Bool) (a0 : Bool) (k_ : Bool → Option ρ) : Option ρ :=
  br lost
   (k_ a0)
   (k_ false)
def whole_Int_Shift.c7s : Shape := ⟨[(0, rb11), (1, rb3), (2, rb5), (4, rb2), (5, rb18), (6, rb1), (7, rb0), (8, rb20)], [(2, rb4), (4, rb4), (5, rb19), (8, rb4)]⟩
def whole_Int_Shift.c7x0 : Shape := ⟨[(0, rb11), (1, rb3), (2, rb5), (4, rb2), (5, rb18), (6, rb1), (7, rb0), (8, rb20), (43, rb0)], [(2, rb4), (4, rb4), (5, rb19), (8, rb4)]⟩
def whole_Int_Shift.c7r : Ck := Ck.of (T := Bool) whole_Int_Shift.c7s (fun ρ x_ k_ => uP x_ fun a x_ => uP x_ fun n x_ => uP x_ fun mag x_ => uP x_ fun lost x_ => uP x_ fun a0 x_ => uP x_ fun a1 x_ => uP x_ fun t40 x_ => uP x_ fun t41 x_ => uP x_ fun t50 x_ => uP x_ fun t51 x_ => uP x_ fun out0 x_ => uP x_ fun out1 x_ => whole_Int_Shift.c7 lost a0 k_) (fun ρ x_ r_ k_ => uP x_ fun a x_ => uP x_ fun n x_ => uP x_ fun mag x_ => uP x_ fun lost x_ => uP x_ fun a0 x_ => uP x_ fun a1 x_ => uP x_ fun t40 x_ => uP x_ fun t41 x_ => uP x_ fun t50 x_ => uP x_ fun t51 x_ => uP x_ fun out0 x_ => uP x_ fun out1 x_ => k_ 0 (Shape.inj whole_Int_Shift.c7x0 (a, n, mag, lost, r_, a0, a1, t40, t41, t50, t51, out0, out1, ())))
def whole_Int_Shift.c8 {ρ : Type} (out0 : Bool) (out1 : List (Int)) (k_ : (Bool) × (List Int) → Option ρ) : Option ρ :=
  bnd (W.whole_Of (1 : Int)) fun y =>
  bnd (W.whole_Int_Sub (out0, out1) y) fun y_1 =>
  k_ ((Prod.fst y_1), (Prod.snd y_1))
def whole_Int_Shift.c8s : Shape := ⟨[(0, rb11), (1, rb3), (2, rb5), (4, rb2), (5, rb18), (6, rb1), (7, rb0), (8, rb20)], [(2, rb4), (4, rb4), (5, rb19), (8, rb4)]⟩
def whole_Int_Shift.c8x0 : Shape := ⟨[(0, rb11), (1, rb3), (2, rb5), (4, rb2), (5, rb18), (6, rb1), (7, rb0), (8, rb20)], [(2, rb4), (4, rb4), (5, rb19), (8, rb4)]⟩
def whole_Int_Shift.c8r : Ck := Ck.of (T := (Bool) × (List Int)) whole_Int_Shift.c8s (fun ρ x_ k_ => uP x_ fun a x_ => uP x_ fun n x_ => uP x_ fun mag x_ => uP x_ fun lost x_ => uP x_ fun a0 x_ => uP x_ fun a1 x_ => uP x_ fun t40 x_ => uP x_ fun t41 x_ => uP x_ fun t50 x_ => uP x_ fun t51 x_ => uP x_ fun out0 x_ => uP x_ fun out1 x_ => whole_Int_Shift.c8 out0 out1 k_) (fun ρ x_ r_ k_ => uP x_ fun a x_ => uP x_ fun n x_ => uP x_ fun mag x_ => uP x_ fun lost x_ => uP x_ fun a0 x_ => uP x_ fun a1 x_ => uP x_ fun t40 x_ => uP x_ fun t41 x_ => uP x_ fun t50 x_ => uP x_ fun t51 x_ => uP x_ fun out0 x_ => uP x_ fun out1 x_ => k_ 0 (Shape.inj whole_Int_Shift.c8x0 (a, n, mag, lost, a0, a1, t40, t41, t50, t51, r_.1, r_.2, ())))
def whole_Int_Shift.c228677 {ρ : Type} (lost : Bool) (a0 : Bool) (out0 : Bool) (out1 : List (Int)) (k_ : (Bool) × (List Int) → Option ρ) : Option ρ :=
  bnd (W.whole_Int_Shift.c7 lost a0 some) fun y =>
  br y
   (bnd (W.whole_Int_Shift.c8 out0 out1 some) fun y_1 =>
    k_ ((Prod.fst y_1), (Prod.snd y_1)))
   (k_ (out0, out1))
def whole_Int_Shift.c228677s : Shape := ⟨[(0, rb11), (1, rb3), (2, rb5), (4, rb2), (5, rb18), (6, rb1), (7, rb0), (8, rb20)], [(2, rb4), (4, rb4), (5, rb19), (8, rb4)]⟩
def whole_Int_Shift.c228677x0 : Shape := ⟨[(0, rb11), (1, rb3), (2, rb5), (4, rb2), (5, rb18), (6, rb1), (7, rb0), (8, rb20)], [(2, rb4), (4, rb4), (5, rb19), (8, rb4)]⟩
def whole_Int_Shift.c228677r : Ck := Ck.of (T := (Bool) × (List Int)) whole_Int_Shift.c228677s (fun ρ x_ k_ => uP x_ fun a x_ => uP x_ fun n x_ => uP x_ fun mag x_ => uP x_ fun lost x_ => uP x_ fun a0 x_ => uP x_ fun a1 x_ => uP x_ fun t40 x_ => uP x_ fun t41 x_ => uP x_ fun t50 x_ => uP x_ fun t51 x_ => uP x_ fun out0 x_ => uP x_ fun out1 x_ => whole_Int_Shift.c228677 lost a0 out0 out1 k_) (fun ρ x_ r_ k_ => uP x_ fun a x_ => uP x_ fun n x_ => uP x_ fun mag x_ => uP x_ fun lost x_ => uP x_ fun a0 x_ => uP x_ fun a1 x_ => uP x_ fun t40 x_ => uP x_ fun t41 x_ => uP x_ fun t50 x_ => uP x_ fun t51 x_ => uP x_ fun out0 x_ => uP x_ fun out1 x_ => k_ 0 (Shape.inj whole_Int_Shift.c228677x0 (a, n, mag, lost, a0, a1, t40, t41, t50, t51, r_.1, r_.2, ())))
def whole_Int_Shift (a : (Bool) × (List Int)) (n : Int) : Option (((Bool) × (List Int)) × ((Int) × (Int))) :=
  bnd (W.whole_Int_Shift.c1 n some) fun y =>
  br y
   (some ((false, []), (5 : Int), (0 : Int)))
   (br (decide (n ≥ (0 : Int)))
     (bnd (W.whole_Int_Shift.c4 n (Prod.fst a) (Prod.snd a) some) fun y_1 =>
      some ((Prod.fst y_1, Prod.snd y_1), (0 : Int), (0 : Int)))
     (bnd (W.whole_right (Prod.snd a) (IntKind.wrap IntKind.i64 ((0 : Int) - n))) fun y_2 =>
      bnd (W.whole_made (Prod.fst a) (Prod.fst y_2)) fun y_3 =>
      bnd (W.whole_Int_Shift.c228677 (Prod.snd y_2) (Prod.fst a) (Prod.fst y_3) (Prod.snd y_3) some) fun y_4 =>
      some ((Prod.fst y_4, Prod.snd y_4), (0 : Int), (0 : Int))))
def whole_Int_Shift.ce : Go.Ql.Callee := ⟨[(.st (.pair .bool (.sl (.int .u32)))), (.int .i64)], [(.st (.pair .bool (.sl (.int .u32)))), (.st (.pair (.int .i64) (.int .i64)))], fun x_ => whole_Int_Shift x_.1 x_.2⟩
def whole_Int_Shift.G : Env := ⟨49, tab, [(54, whole_made.ce), (93, whole_right.ce), (25, whole_Of.ce), (94, whole_Int_Sub.ce)], [0, 1, 2, 4, 5, 6, 7, 8, 14, 18, 43], [], [(8, [⟨[], [], [45], []⟩, ⟨[], [], [44], []⟩, ⟨[0, 1], [], [], []⟩, ⟨[2, 0, 1], [8], [], []⟩]),
  (4, [⟨[], [], [21, 22, 23, 24, 26], [24]⟩, ⟨[0], [], [21, 22, 23, 24, 26], [24]⟩, ⟨[], [], [19, 20, 23, 26], []⟩, ⟨[2], [], [19, 20, 23, 26], []⟩, ⟨[], [], [19, 20, 21, 22, 26], []⟩, ⟨[3, 2, 4], [24], [19, 20, 26], []⟩, ⟨[1, 0, 5, 3, 2, 4], [24], [26], []⟩, ⟨[], [], [19, 20, 21, 22, 23, 24, 25], [24, 4]⟩, ⟨[6, 1, 0, 5, 3, 2, 4], [4], [26], []⟩, ⟨[7, 8, 6, 1, 0, 5, 3, 2, 4], [5], [], []⟩])], [(228677, whole_Int_Shift.c228677r), (8, whole_Int_Shift.c8r), (7, whole_Int_Shift.c7r), (4, whole_Int_Shift.c4r), (1, whole_Int_Shift.c1r)], [(92, whole_left.mc)], tab_eqs⟩
theorem whole_Int_Shift.eq (x_ : dens [(.st (.pair .bool (.sl (.int .u32)))), (.int .i64)]) : den whole_Int_Shift.G Go.Proofs.Tryd.f73 [(.st (.pair .bool (.sl (.int .u32)))), (.int .i64)] [(.st (.pair .bool (.sl (.int .u32)))), (.st (.pair (.int .i64) (.int .i64)))] x_ = whole_Int_Shift x_.1 x_.2 := by kernel_rfl
theorem whole_Int_Shift.p0 : PieceOk whole_Int_Shift.G (pieceAt (pieces whole_Int_Shift.G.cks (bodyOf Go.Proofs.Tryd.f73)) 0).1 (pieceAt (pieces whole_Int_Shift.G.cks (bodyOf Go.Proofs.Tryd.f73)) 0).2 :=
  region_ok (s := whole_Int_Shift.c1r) (by kernel_rfl) (by kernel_rfl) (sums_of (sh := whole_Int_Shift.c1s) (fun ρ x_ k_ => (nat_br nat_leaf nat_leaf)) (fun ρ x_ t k => (by kernel_rfl)) (fun x_ => by kernel_rfl))
theorem whole_Int_Shift.p1 : PieceOk whole_Int_Shift.G (pieceAt (pieces whole_Int_Shift.G.cks (bodyOf Go.Proofs.Tryd.f73)) 1).1 (pieceAt (pieces whole_Int_Shift.G.cks (bodyOf Go.Proofs.Tryd.f73)) 1).2 :=
  region_ok (s := whole_Int_Shift.c4r) (by kernel_rfl) (by kernel_rfl) (sums_of (sh := whole_Int_Shift.c4s) (fun ρ x_ k_ => (nat_bnd fun _ => (nat_bnd fun _ => nat_leaf))) (fun ρ x_ t k => (by kernel_rfl)) (fun x_ => by kernel_rfl))
theorem whole_Int_Shift.p2 : PieceOk whole_Int_Shift.G (pieceAt (pieces whole_Int_Shift.G.cks (bodyOf Go.Proofs.Tryd.f73)) 2).1 (pieceAt (pieces whole_Int_Shift.G.cks (bodyOf Go.Proofs.Tryd.f73)) 2).2 :=
  join_ok (s := whole_Int_Shift.c228677r) (by kernel_rfl) (by kernel_rfl) (sums_of (sh := whole_Int_Shift.c228677s) (fun ρ x_ k_ => (nat_bnd fun _ => (nat_br (nat_bnd fun _ => nat_leaf) nat_leaf))) (fun ρ x_ t k => (by kernel_rfl)) (fun x_ => by kernel_rfl))
theorem whole_Int_Shift.p3 : PieceOk whole_Int_Shift.G (pieceAt (pieces whole_Int_Shift.G.cks (bodyOf Go.Proofs.Tryd.f73)) 3).1 (pieceAt (pieces whole_Int_Shift.G.cks (bodyOf Go.Proofs.Tryd.f73)) 3).2 :=
  region_ok (s := whole_Int_Shift.c7r) (by kernel_rfl) (by kernel_rfl) (sums_of (sh := whole_Int_Shift.c7s) (fun ρ x_ k_ => (nat_br nat_leaf nat_leaf)) (fun ρ x_ t k => (by kernel_rfl)) (fun x_ => by kernel_rfl))
theorem whole_Int_Shift.p4 : PieceOk whole_Int_Shift.G (pieceAt (pieces whole_Int_Shift.G.cks (bodyOf Go.Proofs.Tryd.f73)) 4).1 (pieceAt (pieces whole_Int_Shift.G.cks (bodyOf Go.Proofs.Tryd.f73)) 4).2 :=
  region_ok (s := whole_Int_Shift.c8r) (by kernel_rfl) (by kernel_rfl) (sums_of (sh := whole_Int_Shift.c8s) (fun ρ x_ k_ => (nat_bnd fun _ => (nat_bnd fun _ => nat_leaf))) (fun ρ x_ t k => (by kernel_rfl)) (fun x_ => by kernel_rfl))
theorem whole_Int_Shift.ok : CalleeOk Go.Proofs.Tryd.prog 73 whole_Int_Shift.ce := fn_ok (G := whole_Int_Shift.G) tab_ok mixed Go.Proofs.Tryd.func73 ⟨(fns_cons whole_made.ok (fns_cons whole_right.ok (fns_cons whole_Of.ok (fns_cons whole_Int_Sub.ok fns_nil)))), (mfns_cons whole_left.ok mfns_nil), tab_eqs_ok⟩ (m := 5) (by kernel_rfl) ⟨⟨⟨⟨⟨trivial, whole_Int_Shift.p0⟩, whole_Int_Shift.p1⟩, whole_Int_Shift.p2⟩, whole_Int_Shift.p3⟩, whole_Int_Shift.p4⟩ (by kernel_rfl) whole_Int_Shift.eq
abbrev rb21 : SD := .one (.aptr 2000700 0)
abbrev rb22 : SO := .arr 0 false 26 (.st (.pair .bool (.sl (.int .u32))))
def ring_down.pre : Shape := ⟨[(0, rb21), (1, rb3)], [(2000700, rb22)]⟩
def ring_down.post : Shape := ⟨[], [(2000700, rb22)]⟩
def ring_down.c6 {ρ : Type} (i : Int) (t6 : Int) (t2000700 : List ((Bool) × (List Int))) (k_ : List ((Bool) × (List Int)) → Option ρ) : Option ρ :=
  bnd (okIf (decide ((0 : Ty.den (Ty.int IntKind.i64)) ≤ i) && decide (i < (↑(8 : Nat) : Int)))) fun y =>
  bnd (inR (List.length t2000700) i) fun y_1 =>
  bnd (idx t2000700 i) fun y_2 =>
  bnd (W.whole_Int_Shift y_2 (IntKind.wrap IntKind.i64 ((0 : Int) - t6))) fun y_3 =>
  bnd (okIf (decide ((0 : Ty.den (Ty.int IntKind.i64)) ≤ i) && decide (i < (↑(8 : Nat) : Int)))) fun y_4 =>
  bnd (inR (List.length t2000700) i) fun y_5 =>
  bnd (idx t2000700 i) fun y_6 =>
  k_ (List.set t2000700 (Int.toNat i) (Prod.fst y_3))
def ring_down.c6s : Shape := ⟨[(0, rb21), (1, rb3), (4, rb3), (5, rb3), (6, rb3), (7, rb3)], [(2000700, rb22)]⟩
def ring_down.c6x0 : Shape := ⟨[(0, rb21), (1, rb3), (4, rb3), (5, rb3), (6, rb3), (7, rb3)], [(2000700, rb22)]⟩
def ring_down.c6r : Ck := Ck.of (T := List ((Bool) × (List Int))) ring_down.c6s (fun ρ x_ k_ => uP x_ fun n x_ => uP x_ fun i x_ => uP x_ fun t5 x_ => uP x_ fun t6 x_ => uP x_ fun t7 x_ => uP x_ fun t2000700 x_ => ring_down.c6 i t6 t2000700 k_) (fun ρ x_ r_ k_ => uP x_ fun n x_ => uP x_ fun i x_ => uP x_ fun t5 x_ => uP x_ fun t6 x_ => uP x_ fun t7 x_ => uP x_ fun t2000700 x_ => k_ 0 (Shape.inj ring_down.c6x0 (n, i, t5, t6, t7, r_, ())))
def ring_down.c100004 {ρ : Type} (i : Int) (t5 : Int) (t2000700 : List ((Bool) × (List Int))) (k_ : ((Int) × (List ((Bool) × (List Int)))) ⊕ ((Int) × (List ((Bool) × (List Int)))) → Option ρ) : Option ρ :=
  br (t5 != (0 : Int))
   (bnd (W.ring_down.c6 i (Max.max (-10000 : Int) (Min.min (10000 : Int) t5)) t2000700 some) fun y =>
    k_ (.inl ((IntKind.wrap IntKind.i64 (t5 - Max.max (-10000 : Int) (Min.min (10000 : Int) t5))), y)))
   (k_ (.inr (t5, t2000700)))
def ring_down.c100004s : Shape := ⟨[(0, rb21), (1, rb3), (4, rb3), (5, rb3), (7, rb3)], [(2000700, rb22)]⟩
def ring_down.c100004x0 : Shape := ⟨[(0, rb21), (1, rb3), (4, rb3), (5, rb3), (7, rb3)], [(2000700, rb22)]⟩
def ring_down.c100004r : Ck := Ck.ofLoop (S := (Int) × (List ((Bool) × (List Int)))) (T := (Int) × (List ((Bool) × (List Int)))) ring_down.c100004s (fun x_ => uP x_ fun n x_ => uP x_ fun i x_ => uP x_ fun t5 x_ => uP x_ fun t7 x_ => uP x_ fun t2000700 x_ => (t5, t2000700)) (fun ρ x_ s_ k_ => uP x_ fun n x_ => uP x_ fun i x_ => uP x_ fun t5 x_ => uP x_ fun t7 x_ => uP x_ fun t2000700 x_ => ring_down.c100004 i s_.1 s_.2 k_) (fun ρ x_ r_ k_ => uP x_ fun n x_ => uP x_ fun i x_ => uP x_ fun t5 x_ => uP x_ fun t7 x_ => uP x_ fun t2000700 x_ => k_ 4 (Shape.inj ring_down.c100004x0 (n, i, r_.1, t7, r_.2, ())))
def ring_down.c100001 {ρ : Type} (n : Int) (t7 : Int) (t2000700 : List ((Bool) × (List Int))) (k_ : ((Int) × (List ((Bool) × (List Int)))) ⊕ ((Int) × (List ((Bool) × (List Int)))) → Option ρ) : Option ρ :=
  br (decide (t7 < (8 : Int)))
   (bnd (iter (fun s ↦ W.ring_down.c100004 t7 (Prod.fst s) (Prod.snd s) some) (n, t2000700)) fun y =>
    k_ (.inl ((IntKind.wrap IntKind.i64 (t7 + (1 : Int))), (Prod.snd y))))
   (k_ (.inr (t7, t2000700)))
def ring_down.c100001s : Shape := ⟨[(0, rb21), (1, rb3), (7, rb3)], [(2000700, rb22)]⟩
def ring_down.c100001x0 : Shape := ⟨[(0, rb21), (1, rb3), (7, rb3)], [(2000700, rb22)]⟩
def ring_down.c100001r : Ck := Ck.ofLoop (S := (Int) × (List ((Bool) × (List Int)))) (T := (Int) × (List ((Bool) × (List Int)))) ring_down.c100001s (fun x_ => uP x_ fun n x_ => uP x_ fun t7 x_ => uP x_ fun t2000700 x_ => (t7, t2000700)) (fun ρ x_ s_ k_ => uP x_ fun n x_ => uP x_ fun t7 x_ => uP x_ fun t2000700 x_ => ring_down.c100001 n s_.1 s_.2 k_) (fun ρ x_ r_ k_ => uP x_ fun n x_ => uP x_ fun t7 x_ => uP x_ fun t2000700 x_ => k_ 2 (Shape.inj ring_down.c100001x0 (n, r_.1, r_.2, ())))
def ring_down (n : Int) (t2000700 : List ((Bool) × (List Int))) : Option ((List ((Bool) × (List Int))) × Unit) :=
  bnd (iter (fun s ↦ W.ring_down.c100001 n (Prod.fst s) (Prod.snd s) some) ((0 : Int), t2000700)) fun y =>
  some (Prod.snd y, ())
def ring_down.mc : MCallee := ⟨46, ring_down.pre, ring_down.post, fun x_ => ring_down x_.1 x_.2.1⟩
def ring_down.G : Env := ⟨35, tab, [(73, whole_Int_Shift.ce)], [0, 1, 4, 5, 6, 7, 8, 12], [2000700], [(6, [⟨[], [], [18, 19, 20, 21, 22, 23, 24, 25, 26, 16, 27, 28], []⟩, ⟨[], [], [17, 19, 20, 21, 22, 23, 24, 25, 26, 16, 27, 28, 29], []⟩, ⟨[], [], [17, 18, 20, 24, 25, 29], []⟩, ⟨[], [], [17, 18, 19, 21, 24, 25, 29], []⟩, ⟨[2], [], [17, 18, 20, 24, 25, 29], []⟩, ⟨[4, 2, 3], [], [17, 18, 24, 25, 29], []⟩, ⟨[5, 4, 2, 3], [], [17, 18, 24, 25, 29], []⟩, ⟨[], [], [17, 18, 19, 20, 21, 22, 23, 29], []⟩, ⟨[7], [], [17, 18, 19, 20, 21, 22, 23, 29], []⟩, ⟨[6, 5, 4, 2, 3, 8, 7], [], [17, 18, 29], []⟩, ⟨[9, 6, 5, 4, 2, 3, 8, 7], [], [17, 18, 29], []⟩, ⟨[10, 9, 6, 5, 4, 2, 3, 8, 7], [], [17, 18, 28, 29], []⟩, ⟨[10, 9, 6, 5, 4, 2, 3, 8, 7], [], [17, 18, 27, 29, 30], [2000700]⟩, ⟨[0], [], [18, 19, 20, 21, 22, 23, 24, 25, 26, 16, 27, 28], []⟩, ⟨[13, 0, 1, 2, 3, 4, 5, 6, 7, 8, 9, 10, 11], [], [28], []⟩, ⟨[14, 13, 0, 1, 2, 3, 4, 5, 6, 7, 8, 9, 10, 11], [2000700], [28], []⟩])], [(100001, ring_down.c100001r), (100004, ring_down.c100004r), (6, ring_down.c6r)], [], tab_eqs⟩
theorem ring_down.eq (x_ : densU ring_down.mc.pre.tys) : denM ring_down.G Go.Proofs.Tryd.f46 ring_down.mc.pre ring_down.mc.post x_ = ring_down.mc.F x_ := by kernel_rfl
theorem ring_down.p0 : PieceOk ring_down.G (pieceAt (pieces ring_down.G.cks (bodyOf Go.Proofs.Tryd.f46)) 0).1 (pieceAt (pieces ring_down.G.cks (bodyOf Go.Proofs.Tryd.f46)) 0).2 :=
  loop_ok (s := ring_down.c100001r) (by kernel_rfl) (by kernel_rfl) (loops_of (sh := ring_down.c100001s) (I := fun x_ s_ => (x_.1, s_.1, s_.2, ())) (fun x_ => rfl) (fun ρ x_ s_ k_ => (nat_br (nat_bnd fun _ => nat_leaf) nat_leaf)) (fun ρ x_ t k => (by kernel_rfl)) (fun x_ s => by kernel_rfl))
theorem ring_down.p1 : PieceOk ring_down.G (pieceAt (pieces ring_down.G.cks (bodyOf Go.Proofs.Tryd.f46)) 1).1 (pieceAt (pieces ring_down.G.cks (bodyOf Go.Proofs.Tryd.f46)) 1).2 :=
  loop_ok (s := ring_down.c100004r) (by kernel_rfl) (by kernel_rfl) (loops_of (sh := ring_down.c100004s) (I := fun x_ s_ => (x_.1, x_.2.1, s_.1, x_.2.2.2.1, s_.2, ())) (fun x_ => rfl) (fun ρ x_ s_ k_ => (nat_br (nat_bnd fun _ => nat_leaf) nat_leaf)) (fun ρ x_ t k => (by kernel_rfl)) (fun x_ s => by kernel_rfl))
theorem ring_down.p2 : PieceOk ring_down.G (pieceAt (pieces ring_down.G.cks (bodyOf Go.Proofs.Tryd.f46)) 2).1 (pieceAt (pieces ring_down.G.cks (bodyOf Go.Proofs.Tryd.f46)) 2).2 :=
  region_ok (s := ring_down.c6r) (by kernel_rfl) (by kernel_rfl) (sums_of (sh := ring_down.c6s) (fun ρ x_ k_ => (nat_bnd fun _ => (nat_bnd fun _ => (nat_bnd fun _ => (nat_bnd fun _ => (nat_bnd fun _ => (nat_bnd fun _ => (nat_bnd fun _ => nat_leaf)))))))) (fun ρ x_ t k => (by kernel_rfl)) (fun x_ => by kernel_rfl))
theorem ring_down.ok : MOk Go.Proofs.Tryd.prog 46 ring_down.mc := fnm_ok (G := ring_down.G) tab_ok mixed Go.Proofs.Tryd.func46 ⟨(fns_cons whole_Int_Shift.ok fns_nil), mfns_nil, tab_eqs_ok⟩ (m := 3) (by kernel_rfl) ⟨⟨⟨trivial, ring_down.p0⟩, ring_down.p1⟩, ring_down.p2⟩ (by kernel_rfl) ring_down.eq
abbrev rb23 : SD := .one (.val (.ar 8 (.st (.pair .bool (.sl (.int .u32))))))
abbrev rb24 : SD := .one (.aptr 2 0)
abbrev rb25 : SD := .one (.aptr 4 0)
abbrev rb26 : SO := .arr 0 false 28 (.st (.pair (.ar 8 (.st (.pair .bool (.sl (.int .u32))))) (.int .i64)))
def ring_least.c5 {ρ : Type} (twos : Int) (any : Bool) (x0 : Bool) (x1 : List (Int)) (k_ : Bool → Option ρ) : Option ρ :=
  bnd (W.whole_Int_Sign (x0, x1)) fun y =>
  br (y != (0 : Int))
   (br (!any)
     (k_ true)
     (bnd (W.whole_Int_Twos (x0, x1)) fun y_1 =>
      k_ (decide (y_1 < twos))))
   (k_ false)
def ring_least.c5s : Shape := ⟨[(0, rb23), (1, rb3), (2, rb24), (4, rb25), (5, rb3), (6, rb0), (8, rb20), (10, rb23), (11, rb3)], [(2, rb22), (4, rb26), (8, rb4)]⟩
def ring_least.c5x0 : Shape := ⟨[(0, rb23), (1, rb3), (2, rb24), (4, rb25), (5, rb3), (6, rb0), (8, rb20), (10, rb23), (11, rb3), (26, rb0)], [(2, rb22), (4, rb26), (8, rb4)]⟩
def ring_least.c5r : Ck := Ck.of (T := Bool) ring_least.c5s (fun ρ x_ k_ => uP x_ fun c x_ => uP x_ fun e x_ => uP x_ fun twos x_ => uP x_ fun any x_ => uP x_ fun t10 x_ => uP x_ fun t11 x_ => uP x_ fun c_1 x_ => uP x_ fun t4 x_ => uP x_ fun x0 x_ => uP x_ fun x1 x_ => ring_least.c5 twos any x0 x1 k_) (fun ρ x_ r_ k_ => uP x_ fun c x_ => uP x_ fun e x_ => uP x_ fun twos x_ => uP x_ fun any x_ => uP x_ fun t10 x_ => uP x_ fun t11 x_ => uP x_ fun c_1 x_ => uP x_ fun t4 x_ => uP x_ fun x0 x_ => uP x_ fun x1 x_ => k_ 0 (Shape.inj ring_least.c5x0 (c, e, twos, any, t10, t11, r_, c_1, t4, x0, x1, ())))
def ring_least.c216392 {ρ : Type} (twos : Int) (any : Bool) (t10 : List ((Bool) × (List Int))) (t11 : Int) (k_ : (Int) × (Bool) → Option ρ) : Option ρ :=
  bnd (idx t10 t11) fun y =>
  bnd (W.ring_least.c5 twos any (Prod.fst y) (Prod.snd y) some) fun y_1 =>
  br y_1
   (bnd (W.whole_Int_Twos (Prod.fst y, Prod.snd y)) fun y_2 =>
    k_ (y_2, true))
   (k_ (twos, any))
def ring_least.c216392s : Shape := ⟨[(0, rb23), (1, rb3), (2, rb24), (4, rb25), (5, rb3), (6, rb0), (10, rb23), (11, rb3)], [(2, rb22), (4, rb26)]⟩
def ring_least.c216392x0 : Shape := ⟨[(0, rb23), (1, rb3), (2, rb24), (4, rb25), (5, rb3), (6, rb0), (10, rb23), (11, rb3)], [(2, rb22), (4, rb26)]⟩
def ring_least.c216392r : Ck := Ck.of (T := (Int) × (Bool)) ring_least.c216392s (fun ρ x_ k_ => uP x_ fun c x_ => uP x_ fun e x_ => uP x_ fun twos x_ => uP x_ fun any x_ => uP x_ fun t10 x_ => uP x_ fun t11 x_ => uP x_ fun c_1 x_ => uP x_ fun t4 x_ => ring_least.c216392 twos any t10 t11 k_) (fun ρ x_ r_ k_ => uP x_ fun c x_ => uP x_ fun e x_ => uP x_ fun twos x_ => uP x_ fun any x_ => uP x_ fun t10 x_ => uP x_ fun t11 x_ => uP x_ fun c_1 x_ => uP x_ fun t4 x_ => k_ 0 (Shape.inj ring_least.c216392x0 (c, e, r_.1, r_.2, t10, t11, c_1, t4, ())))
def ring_least.c100003 {ρ : Type} (twos : Int) (any : Bool) (t10 : List ((Bool) × (List Int))) (t11 : Int) (k_ : ((Int) × (Bool) × (Int)) ⊕ ((Int) × (Bool) × (Int)) → Option ρ) : Option ρ :=
  br (decide (t11 < (8 : Int)))
   (bnd (W.ring_least.c216392 twos any t10 t11 some) fun y =>
    k_ (.inl ((Prod.fst y), (Prod.snd y), (IntKind.wrap IntKind.i64 (t11 + (1 : Int))))))
   (k_ (.inr (twos, any, t11)))
def ring_least.c100003s : Shape := ⟨[(0, rb23), (1, rb3), (2, rb24), (4, rb25), (5, rb3), (6, rb0), (10, rb23), (11, rb3)], [(2, rb22), (4, rb26)]⟩
def ring_least.c100003x0 : Shape := ⟨[(0, rb23), (1, rb3), (2, rb24), (4, rb25), (5, rb3), (6, rb0), (10, rb23), (11, rb3)], [(2, rb22), (4, rb26)]⟩
def ring_least.c100003r : Ck := Ck.ofLoop (S := (Int) × (Bool) × (Int)) (T := (Int) × (Bool) × (Int)) ring_least.c100003s (fun x_ => uP x_ fun c x_ => uP x_ fun e x_ => uP x_ fun twos x_ => uP x_ fun any x_ => uP x_ fun t10 x_ => uP x_ fun t11 x_ => uP x_ fun c_1 x_ => uP x_ fun t4 x_ => (twos, any, t11)) (fun ρ x_ s_ k_ => uP x_ fun c x_ => uP x_ fun e x_ => uP x_ fun twos x_ => uP x_ fun any x_ => uP x_ fun t10 x_ => uP x_ fun t11 x_ => uP x_ fun c_1 x_ => uP x_ fun t4 x_ => ring_least.c100003 s_.1 s_.2.1 t10 s_.2.2 k_) (fun ρ x_ r_ k_ => uP x_ fun c x_ => uP x_ fun e x_ => uP x_ fun twos x_ => uP x_ fun any x_ => uP x_ fun t10 x_ => uP x_ fun t11 x_ => uP x_ fun c_1 x_ => uP x_ fun t4 x_ => k_ 2 (Shape.inj ring_least.c100003x0 (c, e, r_.1, r_.2.1, t10, r_.2.2, c_1, t4, ())))
def ring_least.c240969 {ρ : Type} (e : Int) (twos : Int) (c_1 : List ((Bool) × (List Int))) (k_ : (Int) × (List ((Bool) × (List Int))) → Option ρ) : Option ρ :=
  br (Min.min twos e != (0 : Int))
   (bnd (W.ring_down (Min.min twos e) c_1) fun y =>
    k_ ((IntKind.wrap IntKind.i64 (e - Min.min twos e)), (Prod.fst y)))
   (k_ (e, c_1))
def ring_least.c240969s : Shape := ⟨[(0, rb23), (1, rb3), (2, rb24), (4, rb25), (5, rb3), (6, rb0), (10, rb23), (11, rb3)], [(2, rb22), (4, rb26)]⟩
def ring_least.c240969x0 : Shape := ⟨[(0, rb23), (1, rb3), (2, rb24), (4, rb25), (5, rb3), (6, rb0), (10, rb23), (11, rb3)], [(2, rb22), (4, rb26)]⟩
def ring_least.c240969r : Ck := Ck.of (T := (Int) × (List ((Bool) × (List Int)))) ring_least.c240969s (fun ρ x_ k_ => uP x_ fun c x_ => uP x_ fun e x_ => uP x_ fun twos x_ => uP x_ fun any x_ => uP x_ fun t10 x_ => uP x_ fun t11 x_ => uP x_ fun c_1 x_ => uP x_ fun t4 x_ => ring_least.c240969 e twos c_1 k_) (fun ρ x_ r_ k_ => uP x_ fun c x_ => uP x_ fun e x_ => uP x_ fun twos x_ => uP x_ fun any x_ => uP x_ fun t10 x_ => uP x_ fun t11 x_ => uP x_ fun c_1 x_ => uP x_ fun t4 x_ => k_ 0 (Shape.inj ring_least.c240969x0 (c, r_.1, twos, any, t10, t11, r_.2, t4, ())))
def ring_least (c : List ((Bool) × (List Int))) (e : Int) : Option ((List ((Bool) × (List Int))) × (Int)) :=
  bnd (okIf (decide (List.length c = (8 : Nat)))) fun y =>
  bnd (iter (fun s ↦ W.ring_least.c100003 (Prod.fst s) (Prod.fst (Prod.snd s)) c (Prod.snd (Prod.snd s)) some) ((0 : Int), false, (0 : Int))) fun y_1 =>
  br (!Prod.fst (Prod.snd y_1))
   (some (List.replicate (8 : Nat) (false, []), (0 : Int)))
   (bnd (W.ring_least.c240969 e (Prod.fst y_1) c some) fun y_2 =>
    bnd (okIf (decide (List.length (Prod.snd y_2) = (8 : Nat)))) fun y_3 =>
    some (Prod.snd y_2, Prod.fst y_2))
def ring_least.ce : Go.Ql.Callee := ⟨[(.ar 8 (.st (.pair .bool (.sl (.int .u32))))), (.int .i64)], [(.st (.pair (.ar 8 (.st (.pair .bool (.sl (.int .u32))))) (.int .i64)))], fun x_ => ring_least x_.1 x_.2⟩
def ring_least.G : Env := ⟨46, tab, [(41, whole_Int_Sign.ce), (64, whole_Int_Twos.ce)], [0, 1, 2, 4, 5, 6, 8, 9, 10, 11, 12, 26, 31, 37], [2, 4, 32, 45], [], [(240969, ring_least.c240969r), (100003, ring_least.c100003r), (216392, ring_least.c216392r), (5, ring_least.c5r)], [(46, ring_down.mc)], tab_eqs⟩
theorem ring_least.eq (x_ : dens [(.ar 8 (.st (.pair .bool (.sl (.int .u32))))), (.int .i64)]) : den ring_least.G Go.Proofs.Tryd.f36 [(.ar 8 (.st (.pair .bool (.sl (.int .u32))))), (.int .i64)] [(.st (.pair (.ar 8 (.st (.pair .bool (.sl (.int .u32))))) (.int .i64)))] x_ = ring_least x_.1 x_.2 := by kernel_rfl
theorem ring_least.p0 : PieceOk ring_least.G (pieceAt (pieces ring_least.G.cks (bodyOf Go.Proofs.Tryd.f36)) 0).1 (pieceAt (pieces ring_least.G.cks (bodyOf Go.Proofs.Tryd.f36)) 0).2 :=
  loop_ok (s := ring_least.c100003r) (by kernel_rfl) (by kernel_rfl) (loops_of (sh := ring_least.c100003s) (I := fun x_ s_ => (x_.1, x_.2.1, s_.1, s_.2.1, x_.2.2.2.2.1, s_.2.2, x_.2.2.2.2.2.2.1, x_.2.2.2.2.2.2.2.1, ())) (fun x_ => rfl) (fun ρ x_ s_ k_ => (nat_br (nat_bnd fun _ => nat_leaf) nat_leaf)) (fun ρ x_ t k => (by kernel_rfl)) (fun x_ s => by kernel_rfl))
theorem ring_least.p1 : PieceOk ring_least.G (pieceAt (pieces ring_least.G.cks (bodyOf Go.Proofs.Tryd.f36)) 1).1 (pieceAt (pieces ring_least.G.cks (bodyOf Go.Proofs.Tryd.f36)) 1).2 :=
  join_ok (s := ring_least.c216392r) (by kernel_rfl) (by kernel_rfl) (sums_of (sh := ring_least.c216392s) (fun ρ x_ k_ => (nat_bnd fun _ => (nat_bnd fun _ => (nat_br (nat_bnd fun _ => nat_leaf) nat_leaf)))) (fun ρ x_ t k => (by kernel_rfl)) (fun x_ => by kernel_rfl))
theorem ring_least.p2 : PieceOk ring_least.G (pieceAt (pieces ring_least.G.cks (bodyOf Go.Proofs.Tryd.f36)) 2).1 (pieceAt (pieces ring_least.G.cks (bodyOf Go.Proofs.Tryd.f36)) 2).2 :=
  region_ok (s := ring_least.c5r) (by kernel_rfl) (by kernel_rfl) (sums_of (sh := ring_least.c5s) (fun ρ x_ k_ => (nat_bnd fun _ => (nat_br (nat_br nat_leaf (nat_bnd fun _ => nat_leaf)) nat_leaf))) (fun ρ x_ t k => (by kernel_rfl)) (fun x_ => by kernel_rfl))
theorem ring_least.p3 : PieceOk ring_least.G (pieceAt (pieces ring_least.G.cks (bodyOf Go.Proofs.Tryd.f36)) 3).1 (pieceAt (pieces ring_least.G.cks (bodyOf Go.Proofs.Tryd.f36)) 3).2 :=
  join_ok (s := ring_least.c240969r) (by kernel_rfl) (by kernel_rfl) (sums_of (sh := ring_least.c240969s) (fun ρ x_ k_ => (nat_br (nat_bnd fun _ => nat_leaf) nat_leaf)) (fun ρ x_ t k => (by kernel_rfl)) (fun x_ => by kernel_rfl))
theorem ring_least.ok : CalleeOk Go.Proofs.Tryd.prog 36 ring_least.ce := fn_ok (G := ring_least.G) tab_ok mixed Go.Proofs.Tryd.func36 ⟨(fns_cons whole_Int_Sign.ok (fns_cons whole_Int_Twos.ok fns_nil)), (mfns_cons ring_down.ok mfns_nil), tab_eqs_ok⟩ (m := 4) (by kernel_rfl) ⟨⟨⟨⟨trivial, ring_least.p0⟩, ring_least.p1⟩, ring_least.p2⟩, ring_least.p3⟩ (by kernel_rfl) ring_least.eq
abbrev rb27 : SD := .one (.val (.sl (.int .i64)))
abbrev rb28 : SD := .one (.aptr 6 0)
abbrev rb29 : SD := .one (.ref 9 0)
def ring_Make.c1 {ρ : Type} (e : Int) (k_ : Bool → Option ρ) : Option ρ :=
  br (decide (e < (-10000 : Int)))
   (k_ true)
   (k_ (decide (e > (10000 : Int))))
def ring_Make.c1s : Shape := ⟨[(0, rb27), (1, rb3), (4, rb25), (5, rb18)], [(4, rb26), (5, rb19)]⟩
def ring_Make.c1x0 : Shape := ⟨[(0, rb27), (1, rb3), (4, rb25), (5, rb18), (15, rb0)], [(4, rb26), (5, rb19)]⟩
def ring_Make.c1r : Ck := Ck.of (T := Bool) ring_Make.c1s (fun ρ x_ k_ => uP x_ fun cs x_ => uP x_ fun e x_ => uP x_ fun t4 x_ => uP x_ fun t50 x_ => uP x_ fun t51 x_ => ring_Make.c1 e k_) (fun ρ x_ r_ k_ => uP x_ fun cs x_ => uP x_ fun e x_ => uP x_ fun t4 x_ => uP x_ fun t50 x_ => uP x_ fun t51 x_ => k_ 0 (Shape.inj ring_Make.c1x0 (cs, e, r_, t4, t50, t51, ())))
def ring_Make.c232773 {ρ : Type} (i : Int) (x0 : Bool) (x1 : List (Int)) (k_ : (Bool) × (List Int) → Option ρ) : Option ρ :=
  br (decide (Int.tmod i (16 : Int) ≥ (8 : Int)))
   (bnd (W.whole_Int_Neg (x0, x1)) fun y =>
    k_ ((Prod.fst y), (Prod.snd y)))
   (k_ (x0, x1))
def ring_Make.c232773s : Shape := ⟨[(0, rb27), (1, rb3), (4, rb25), (5, rb18), (6, rb28), (7, rb3), (8, rb3), (9, rb29), (18, rb27), (19, rb3), (20, rb3)], [(4, rb26), (5, rb19), (6, rb22), (9, rb4)]⟩
def ring_Make.c232773x0 : Shape := ⟨[(0, rb27), (1, rb3), (4, rb25), (5, rb18), (6, rb28), (7, rb3), (8, rb3), (9, rb29), (18, rb27), (19, rb3), (20, rb3)], [(4, rb26), (5, rb19), (6, rb22), (9, rb4)]⟩
def ring_Make.c232773r : Ck := Ck.of (T := (Bool) × (List Int)) ring_Make.c232773s (fun ρ x_ k_ => uP x_ fun cs x_ => uP x_ fun e x_ => uP x_ fun i x_ => uP x_ fun n x_ => uP x_ fun t18 x_ => uP x_ fun t19 x_ => uP x_ fun t20 x_ => uP x_ fun t4 x_ => uP x_ fun t50 x_ => uP x_ fun t51 x_ => uP x_ fun c x_ => uP x_ fun x0 x_ => uP x_ fun x1 x_ => ring_Make.c232773 i x0 x1 k_) (fun ρ x_ r_ k_ => uP x_ fun cs x_ => uP x_ fun e x_ => uP x_ fun i x_ => uP x_ fun n x_ => uP x_ fun t18 x_ => uP x_ fun t19 x_ => uP x_ fun t20 x_ => uP x_ fun t4 x_ => uP x_ fun t50 x_ => uP x_ fun t51 x_ => uP x_ fun c x_ => uP x_ fun x0 x_ => uP x_ fun x1 x_ => k_ 0 (Shape.inj ring_Make.c232773x0 (cs, e, i, n, t18, t19, t20, t4, t50, t51, c, r_.1, r_.2, ())))
def ring_Make.c10 {ρ : Type} (i : Int) (c : List ((Bool) × (List Int))) (x0 : Bool) (x1 : List (Int)) (k_ : List ((Bool) × (List Int)) → Option ρ) : Option ρ :=
  bnd (okIf (decide ((0 : Ty.den (Ty.int IntKind.i64)) ≤ Int.tmod i (8 : Int)) && decide (Int.tmod i (8 : Int) < (↑(8 : Nat) : Int)))) fun y =>
  bnd (inR (List.length c) (Int.tmod i (8 : Int))) fun y_1 =>
  bnd (idx c (Int.tmod i (8 : Int))) fun y_2 =>
  bnd (W.whole_Int_Add y_2 (x0, x1)) fun y_3 =>
  bnd (okIf (decide ((0 : Ty.den (Ty.int IntKind.i64)) ≤ Int.tmod i (8 : Int)) && decide (Int.tmod i (8 : Int) < (↑(8 : Nat) : Int)))) fun y_4 =>
  bnd (inR (List.length c) (Int.tmod i (8 : Int))) fun y_5 =>
  bnd (idx c (Int.tmod i (8 : Int))) fun y_6 =>
  k_ (List.set c (Int.toNat (Int.tmod i (8 : Int))) y_3)
def ring_Make.c10s : Shape := ⟨[(0, rb27), (1, rb3), (4, rb25), (5, rb18), (6, rb28), (7, rb3), (8, rb3), (9, rb29), (18, rb27), (19, rb3), (20, rb3)], [(4, rb26), (5, rb19), (6, rb22), (9, rb4)]⟩
def ring_Make.c10x0 : Shape := ⟨[(0, rb27), (1, rb3), (4, rb25), (5, rb18), (6, rb28), (7, rb3), (8, rb3), (9, rb29), (18, rb27), (19, rb3), (20, rb3)], [(4, rb26), (5, rb19), (6, rb22), (9, rb4)]⟩
def ring_Make.c10r : Ck := Ck.of (T := List ((Bool) × (List Int))) ring_Make.c10s (fun ρ x_ k_ => uP x_ fun cs x_ => uP x_ fun e x_ => uP x_ fun i x_ => uP x_ fun n x_ => uP x_ fun t18 x_ => uP x_ fun t19 x_ => uP x_ fun t20 x_ => uP x_ fun t4 x_ => uP x_ fun t50 x_ => uP x_ fun t51 x_ => uP x_ fun c x_ => uP x_ fun x0 x_ => uP x_ fun x1 x_ => ring_Make.c10 i c x0 x1 k_) (fun ρ x_ r_ k_ => uP x_ fun cs x_ => uP x_ fun e x_ => uP x_ fun i x_ => uP x_ fun n x_ => uP x_ fun t18 x_ => uP x_ fun t19 x_ => uP x_ fun t20 x_ => uP x_ fun t4 x_ => uP x_ fun t50 x_ => uP x_ fun t51 x_ => uP x_ fun c x_ => uP x_ fun x0 x_ => uP x_ fun x1 x_ => k_ 0 (Shape.inj ring_Make.c10x0 (cs, e, i, n, t18, t19, t20, t4, t50, t51, r_, x0, x1, ())))
def ring_Make.c100005 {ρ : Type} (t18 : List (Int)) (t19 : Int) (t20 : Int) (c : List ((Bool) × (List Int))) (k_ : ((Int) × (List ((Bool) × (List Int)))) ⊕ ((Int) × (List ((Bool) × (List Int)))) → Option ρ) : Option ρ :=
  br (decide (t20 < t19))
   (bnd (idx t18 t20) fun y =>
    bnd (W.whole_Of y) fun y_1 =>
    bnd (W.ring_Make.c232773 t20 (Prod.fst y_1) (Prod.snd y_1) some) fun y_2 =>
    bnd (W.ring_Make.c10 t20 c (Prod.fst y_2) (Prod.snd y_2) some) fun y_3 =>
    k_ (.inl ((IntKind.wrap IntKind.i64 (t20 + (1 : Int))), y_3)))
   (k_ (.inr (t20, c)))
def ring_Make.c100005s : Shape := ⟨[(0, rb27), (1, rb3), (4, rb25), (5, rb18), (6, rb28), (18, rb27), (19, rb3), (20, rb3)], [(4, rb26), (5, rb19), (6, rb22)]⟩
def ring_Make.c100005x0 : Shape := ⟨[(0, rb27), (1, rb3), (4, rb25), (5, rb18), (6, rb28), (18, rb27), (19, rb3), (20, rb3)], [(4, rb26), (5, rb19), (6, rb22)]⟩
def ring_Make.c100005r : Ck := Ck.ofLoop (S := (Int) × (List ((Bool) × (List Int)))) (T := (Int) × (List ((Bool) × (List Int)))) ring_Make.c100005s (fun x_ => uP x_ fun cs x_ => uP x_ fun e x_ => uP x_ fun t18 x_ => uP x_ fun t19 x_ => uP x_ fun t20 x_ => uP x_ fun t4 x_ => uP x_ fun t50 x_ => uP x_ fun t51 x_ => uP x_ fun c x_ => (t20, c)) (fun ρ x_ s_ k_ => uP x_ fun cs x_ => uP x_ fun e x_ => uP x_ fun t18 x_ => uP x_ fun t19 x_ => uP x_ fun t20 x_ => uP x_ fun t4 x_ => uP x_ fun t50 x_ => uP x_ fun t51 x_ => uP x_ fun c x_ => ring_Make.c100005 t18 t19 s_.1 s_.2 k_) (fun ρ x_ r_ k_ => uP x_ fun cs x_ => uP x_ fun e x_ => uP x_ fun t18 x_ => uP x_ fun t19 x_ => uP x_ fun t20 x_ => uP x_ fun t4 x_ => uP x_ fun t50 x_ => uP x_ fun t51 x_ => uP x_ fun c x_ => k_ 2 (Shape.inj ring_Make.c100005x0 (cs, e, t18, t19, r_.1, t4, t50, t51, r_.2, ())))
def ring_Make (cs : List (Int)) (e : Int) : Option (((List ((Bool) × (List Int))) × (Int)) × ((Int) × (Int))) :=
  bnd (W.ring_Make.c1 e some) fun y =>
  br y
   (some ((List.replicate (8 : Nat) (false, []), (0 : Int)), (5 : Int), (0 : Int)))
   (bnd (iter (fun s ↦ W.ring_Make.c100005 cs (↑(List.length cs) : Int) (Prod.fst s) (Prod.snd s) some) ((0 : Int), List.replicate (8 : Nat) (false, []))) fun y_1 =>
    bnd (okIf (decide (List.length (Prod.snd y_1) = (8 : Nat)))) fun y_2 =>
    bnd (W.ring_least (Prod.snd y_1) e) fun y_3 =>
    some (y_3, (0 : Int), (0 : Int)))
def ring_Make.ce : Go.Ql.Callee := ⟨[(.sl (.int .i64)), (.int .i64)], [(.st (.pair (.ar 8 (.st (.pair .bool (.sl (.int .u32))))) (.int .i64))), (.st (.pair (.int .i64) (.int .i64)))], fun x_ => ring_Make x_.1 x_.2⟩
def ring_Make.G : Env := ⟨46, tab, [(25, whole_Of.ce), (34, whole_Int_Neg.ce), (35, whole_Int_Add.ce), (36, ring_least.ce)], [0, 1, 4, 5, 6, 7, 8, 9, 15, 18, 19, 20, 21, 29], [4, 6, 16], [(10, [⟨[], [], [34, 35, 36, 37, 38, 39], []⟩, ⟨[0], [], [34, 35, 36, 37, 38, 39], []⟩, ⟨[], [], [32, 33, 38], []⟩, ⟨[2], [], [32, 33, 38], []⟩, ⟨[3, 2], [], [32, 33, 38], []⟩, ⟨[4, 3, 2], [], [32, 33, 38], []⟩, ⟨[], [], [32, 33, 34, 35, 36, 37], []⟩, ⟨[5, 4, 3, 2, 6], [], [32, 33], []⟩, ⟨[1, 0, 2, 3, 4, 5, 6, 7], [], [], []⟩, ⟨[8, 1, 0, 2, 3, 4, 5, 6, 7], [6], [], []⟩])], [(100005, ring_Make.c100005r), (10, ring_Make.c10r), (232773, ring_Make.c232773r), (1, ring_Make.c1r)], [], tab_eqs⟩
theorem ring_Make.eq (x_ : dens [(.sl (.int .i64)), (.int .i64)]) : den ring_Make.G Go.Proofs.Tryd.f5 [(.sl (.int .i64)), (.int .i64)] [(.st (.pair (.ar 8 (.st (.pair .bool (.sl (.int .u32))))) (.int .i64))), (.st (.pair (.int .i64) (.int .i64)))] x_ = ring_Make x_.1 x_.2 := by kernel_rfl
theorem ring_Make.p0 : PieceOk ring_Make.G (pieceAt (pieces ring_Make.G.cks (bodyOf Go.Proofs.Tryd.f5)) 0).1 (pieceAt (pieces ring_Make.G.cks (bodyOf Go.Proofs.Tryd.f5)) 0).2 :=
  region_ok (s := ring_Make.c1r) (by kernel_rfl) (by kernel_rfl) (sums_of (sh := ring_Make.c1s) (fun ρ x_ k_ => (nat_br nat_leaf nat_leaf)) (fun ρ x_ t k => (by kernel_rfl)) (fun x_ => by kernel_rfl))
theorem ring_Make.p1 : PieceOk ring_Make.G (pieceAt (pieces ring_Make.G.cks (bodyOf Go.Proofs.Tryd.f5)) 1).1 (pieceAt (pieces ring_Make.G.cks (bodyOf Go.Proofs.Tryd.f5)) 1).2 :=
  loop_ok (s := ring_Make.c100005r) (by kernel_rfl) (by kernel_rfl) (loops_of (sh := ring_Make.c100005s) (I := fun x_ s_ => (x_.1, x_.2.1, x_.2.2.1, x_.2.2.2.1, s_.1, x_.2.2.2.2.2.1, x_.2.2.2.2.2.2.1, x_.2.2.2.2.2.2.2.1, s_.2, ())) (fun x_ => rfl) (fun ρ x_ s_ k_ => (nat_br (nat_bnd fun _ => (nat_bnd fun _ => (nat_bnd fun _ => (nat_bnd fun _ => nat_leaf)))) nat_leaf)) (fun ρ x_ t k => (by kernel_rfl)) (fun x_ s => by kernel_rfl))
theorem ring_Make.p2 : PieceOk ring_Make.G (pieceAt (pieces ring_Make.G.cks (bodyOf Go.Proofs.Tryd.f5)) 2).1 (pieceAt (pieces ring_Make.G.cks (bodyOf Go.Proofs.Tryd.f5)) 2).2 :=
  join_ok (s := ring_Make.c232773r) (by kernel_rfl) (by kernel_rfl) (sums_of (sh := ring_Make.c232773s) (fun ρ x_ k_ => (nat_br (nat_bnd fun _ => nat_leaf) nat_leaf)) (fun ρ x_ t k => (by kernel_rfl)) (fun x_ => by kernel_rfl))
theorem ring_Make.p3 : PieceOk ring_Make.G (pieceAt (pieces ring_Make.G.cks (bodyOf Go.Proofs.Tryd.f5)) 3).1 (pieceAt (pieces ring_Make.G.cks (bodyOf Go.Proofs.Tryd.f5)) 3).2 :=
  region_ok (s := ring_Make.c10r) (by kernel_rfl) (by kernel_rfl) (sums_of (sh := ring_Make.c10s) (fun ρ x_ k_ => (nat_bnd fun _ => (nat_bnd fun _ => (nat_bnd fun _ => (nat_bnd fun _ => (nat_bnd fun _ => (nat_bnd fun _ => (nat_bnd fun _ => nat_leaf)))))))) (fun ρ x_ t k => (by kernel_rfl)) (fun x_ => by kernel_rfl))
theorem ring_Make.ok : CalleeOk Go.Proofs.Tryd.prog 5 ring_Make.ce := fn_ok (G := ring_Make.G) tab_ok mixed Go.Proofs.Tryd.func5 ⟨(fns_cons whole_Of.ok (fns_cons whole_Int_Neg.ok (fns_cons whole_Int_Add.ok (fns_cons ring_least.ok fns_nil)))), mfns_nil, tab_eqs_ok⟩ (m := 4) (by kernel_rfl) ⟨⟨⟨⟨trivial, ring_Make.p0⟩, ring_Make.p1⟩, ring_Make.p2⟩, ring_Make.p3⟩ (by kernel_rfl) ring_Make.eq
abbrev rb30 : SO := .box [.val .bool, .val (.sl (.int .i64))]
def R_zmade.c2 {ρ : Type} (d : List (Int)) (n : Int) (k_ : Bool → Option ρ) : Option ρ :=
  br (decide (n > (0 : Int)))
   (bnd (idx d (IntKind.wrap IntKind.i64 (n - (1 : Int)))) fun y =>
    k_ (y == (0 : Int)))
   (k_ false)
def R_zmade.c2s : Shape := ⟨[(0, rb0), (1, rb27), (4, rb2), (5, rb3)], [(4, rb30)]⟩
def R_zmade.c2x0 : Shape := ⟨[(0, rb0), (1, rb27), (4, rb2), (5, rb3), (17, rb0)], [(4, rb30)]⟩
def R_zmade.c2r : Ck := Ck.of (T := Bool) R_zmade.c2s (fun ρ x_ k_ => uP x_ fun neg x_ => uP x_ fun d x_ => uP x_ fun n x_ => uP x_ fun t40 x_ => uP x_ fun t41 x_ => R_zmade.c2 d n k_) (fun ρ x_ r_ k_ => uP x_ fun neg x_ => uP x_ fun d x_ => uP x_ fun n x_ => uP x_ fun t40 x_ => uP x_ fun t41 x_ => k_ 0 (Shape.inj R_zmade.c2x0 (neg, d, n, r_, t40, t41, ())))
def R_zmade.c100002 {ρ : Type} (d : List (Int)) (n : Int) (k_ : (Int) ⊕ (Int) → Option ρ) : Option ρ :=
  bnd (W.R_zmade.c2 d n some) fun y =>
  br y
   (k_ (.inl (IntKind.wrap IntKind.i64 (n - (1 : Int)))))
   (k_ (.inr n))
def R_zmade.c100002s : Shape := ⟨[(0, rb0), (1, rb27), (4, rb2), (5, rb3)], [(4, rb30)]⟩
def R_zmade.c100002x0 : Shape := ⟨[(0, rb0), (1, rb27), (4, rb2), (5, rb3)], [(4, rb30)]⟩
def R_zmade.c100002r : Ck := Ck.ofLoop (S := Int) (T := Int) R_zmade.c100002s (fun x_ => uP x_ fun neg x_ => uP x_ fun d x_ => uP x_ fun n x_ => uP x_ fun t40 x_ => uP x_ fun t41 x_ => n) (fun ρ x_ s_ k_ => uP x_ fun neg x_ => uP x_ fun d x_ => uP x_ fun n x_ => uP x_ fun t40 x_ => uP x_ fun t41 x_ => R_zmade.c100002 d s_ k_) (fun ρ x_ r_ k_ => uP x_ fun neg x_ => uP x_ fun d x_ => uP x_ fun n x_ => uP x_ fun t40 x_ => uP x_ fun t41 x_ => k_ 2 (Shape.inj R_zmade.c100002x0 (neg, d, r_, t40, t41, ())))
def R_zmade (neg : Bool) (d : List (Int)) : Option ((Bool) × (List Int)) :=
  bnd (iter (fun s ↦ W.R_zmade.c100002 d s some) ↑(List.length d)) fun y =>
  br (y == (0 : Int))
   (some (false, []))
   (bnd (okIf (decide ((0 : Int) ≤ y) && decide (y ≤ (↑(List.length d) : Int)))) fun y_1 =>
    some (neg, List.take (Int.toNat y) d))
def R_zmade.ce : Go.Ql.Callee := ⟨[.bool, (.sl (.int .i64))], [(.st (.pair .bool (.sl (.int .i64))))], fun x_ => R_zmade x_.1 x_.2⟩
def R_zmade.G : Env := ⟨28, tab, [], [0, 1, 4, 5, 17, 21], [], [], [(100002, R_zmade.c100002r), (2, R_zmade.c2r)], [], tab_eqs⟩
theorem R_zmade.eq (x_ : dens [.bool, (.sl (.int .i64))]) : den R_zmade.G Go.Proofs.Tryd.f55 [.bool, (.sl (.int .i64))] [(.st (.pair .bool (.sl (.int .i64))))] x_ = R_zmade x_.1 x_.2 := by kernel_rfl
theorem R_zmade.p0 : PieceOk R_zmade.G (pieceAt (pieces R_zmade.G.cks (bodyOf Go.Proofs.Tryd.f55)) 0).1 (pieceAt (pieces R_zmade.G.cks (bodyOf Go.Proofs.Tryd.f55)) 0).2 :=
  loop_ok (s := R_zmade.c100002r) (by kernel_rfl) (by kernel_rfl) (loops_of (sh := R_zmade.c100002s) (I := fun x_ s_ => (x_.1, x_.2.1, s_, x_.2.2.2.1, x_.2.2.2.2.1, ())) (fun x_ => rfl) (fun ρ x_ s_ k_ => (nat_bnd fun _ => (nat_br nat_leaf nat_leaf))) (fun ρ x_ t k => (by kernel_rfl)) (fun x_ s => by kernel_rfl))
theorem R_zmade.p1 : PieceOk R_zmade.G (pieceAt (pieces R_zmade.G.cks (bodyOf Go.Proofs.Tryd.f55)) 1).1 (pieceAt (pieces R_zmade.G.cks (bodyOf Go.Proofs.Tryd.f55)) 1).2 :=
  region_ok (s := R_zmade.c2r) (by kernel_rfl) (by kernel_rfl) (sums_of (sh := R_zmade.c2s) (fun ρ x_ k_ => (nat_br (nat_bnd fun _ => nat_leaf) nat_leaf)) (fun ρ x_ t k => (by kernel_rfl)) (fun x_ => by kernel_rfl))
theorem R_zmade.ok : CalleeOk Go.Proofs.Tryd.prog 55 R_zmade.ce := fn_ok (G := R_zmade.G) tab_ok mixed Go.Proofs.Tryd.func55 ⟨fns_nil, mfns_nil, tab_eqs_ok⟩ (m := 2) (by kernel_rfl) ⟨⟨trivial, R_zmade.p0⟩, R_zmade.p1⟩ (by kernel_rfl) R_zmade.eq
abbrev rb31 : SO := .arr 0 false 3 (.int .i64)
def R_ZOf.c208197 {ρ : Type} (n : Int) (u : Int) (k_ : Int → Option ρ) : Option ρ :=
  br (decide (n < (0 : Int)))
   (k_ (IntKind.wrap IntKind.u64 ((0 : Int) - u)))
   (k_ u)
def R_ZOf.c208197s : Shape := ⟨[(0, rb3), (2, rb5), (3, rb6)], [(2, rb30)]⟩
def R_ZOf.c208197x0 : Shape := ⟨[(0, rb3), (2, rb5), (3, rb6)], [(2, rb30)]⟩
def R_ZOf.c208197r : Ck := Ck.of (T := Int) R_ZOf.c208197s (fun ρ x_ k_ => uP x_ fun n x_ => uP x_ fun u x_ => uP x_ fun t20 x_ => uP x_ fun t21 x_ => R_ZOf.c208197 n u k_) (fun ρ x_ r_ k_ => uP x_ fun n x_ => uP x_ fun u x_ => uP x_ fun t20 x_ => uP x_ fun t21 x_ => k_ 0 (Shape.inj R_ZOf.c208197x0 (n, r_, t20, t21, ())))
def R_ZOf.c100005 {ρ : Type} (u : Int) (d : List (Int)) (k_ : ((Int) × (List Int)) ⊕ ((Int) × (List Int)) → Option ρ) : Option ρ :=
  br (decide (u > (0 : Int)))
   (bnd (okIf (decide ((List.length d + (1 : Nat)) * (8 : Nat) ≤ (140737488355328 : Nat)) && decide (List.length d + (1 : Nat) ≤ (140737488355328 : Nat)))) fun y =>
    k_ (.inl ((IntKind.wrap IntKind.u64 (Int.tdiv u (10000 : Int))), (d ++ [IntKind.wrap IntKind.i64 (Int.tmod u (10000 : Int))]))))
   (k_ (.inr (u, d)))
def R_ZOf.c100005s : Shape := ⟨[(0, rb3), (2, rb5), (3, rb6), (4, rb15)], [(2, rb30), (4, rb31)]⟩
def R_ZOf.c100005x0 : Shape := ⟨[(0, rb3), (2, rb5), (3, rb6), (4, rb15)], [(2, rb30), (4, rb31)]⟩
def R_ZOf.c100005r : Ck := Ck.ofLoop (S := (Int) × (List Int)) (T := (Int) × (List Int)) R_ZOf.c100005s (fun x_ => uP x_ fun n x_ => uP x_ fun u x_ => uP x_ fun t20 x_ => uP x_ fun t21 x_ => uP x_ fun d x_ => (u, d)) (fun ρ x_ s_ k_ => uP x_ fun n x_ => uP x_ fun u x_ => uP x_ fun t20 x_ => uP x_ fun t21 x_ => uP x_ fun d x_ => R_ZOf.c100005 s_.1 s_.2 k_) (fun ρ x_ r_ k_ => uP x_ fun n x_ => uP x_ fun u x_ => uP x_ fun t20 x_ => uP x_ fun t21 x_ => uP x_ fun d x_ => k_ 2 (Shape.inj R_ZOf.c100005x0 (n, r_.1, t20, t21, r_.2, ())))
def R_ZOf (n : Int) : Option ((Bool) × (List Int)) :=
  bnd (W.R_ZOf.c208197 n (IntKind.wrap IntKind.u64 n) some) fun y =>
  bnd (iter (fun s ↦ W.R_ZOf.c100005 (Prod.fst s) (Prod.snd s) some) (y, [])) fun y_1 =>
  bnd (W.R_zmade (decide (n < (0 : Int))) (Prod.snd y_1)) fun y_2 =>
  some (Prod.fst y_2, Prod.snd y_2)
def R_ZOf.ce : Go.Ql.Callee := ⟨[(.int .i64)], [(.st (.pair .bool (.sl (.int .i64))))], fun x_ => R_ZOf x_⟩
def R_ZOf.G : Env := ⟨25, tab, [(55, R_zmade.ce)], [0, 2, 3, 4, 8, 12], [4], [], [(100005, R_ZOf.c100005r), (208197, R_ZOf.c208197r)], [], tab_eqs⟩
theorem R_ZOf.eq (x_ : dens [(.int .i64)]) : den R_ZOf.G Go.Proofs.Tryd.f27 [(.int .i64)] [(.st (.pair .bool (.sl (.int .i64))))] x_ = R_ZOf x_ := by kernel_rfl
theorem R_ZOf.p0 : PieceOk R_ZOf.G (pieceAt (pieces R_ZOf.G.cks (bodyOf Go.Proofs.Tryd.f27)) 0).1 (pieceAt (pieces R_ZOf.G.cks (bodyOf Go.Proofs.Tryd.f27)) 0).2 :=
  join_ok (s := R_ZOf.c208197r) (by kernel_rfl) (by kernel_rfl) (sums_of (sh := R_ZOf.c208197s) (fun ρ x_ k_ => (nat_br nat_leaf nat_leaf)) (fun ρ x_ t k => (by kernel_rfl)) (fun x_ => by kernel_rfl))
theorem R_ZOf.p1 : PieceOk R_ZOf.G (pieceAt (pieces R_ZOf.G.cks (bodyOf Go.Proofs.Tryd.f27)) 1).1 (pieceAt (pieces R_ZOf.G.cks (bodyOf Go.Proofs.Tryd.f27)) 1).2 :=
  loop_ok (s := R_ZOf.c100005r) (by kernel_rfl) (by kernel_rfl) (loops_of (sh := R_ZOf.c100005s) (I := fun x_ s_ => (x_.1, s_.1, x_.2.2.1, x_.2.2.2.1, s_.2, ())) (fun x_ => rfl) (fun ρ x_ s_ k_ => (nat_br (nat_bnd fun _ => nat_leaf) nat_leaf)) (fun ρ x_ t k => (by kernel_rfl)) (fun x_ s => by kernel_rfl))
theorem R_ZOf.ok : CalleeOk Go.Proofs.Tryd.prog 27 R_ZOf.ce := fn_ok (G := R_ZOf.G) tab_ok mixed Go.Proofs.Tryd.func27 ⟨(fns_cons R_zmade.ok fns_nil), mfns_nil, tab_eqs_ok⟩ (m := 2) (by kernel_rfl) ⟨⟨trivial, R_ZOf.p0⟩, R_ZOf.p1⟩ (by kernel_rfl) R_ZOf.eq
def R_ROf (n : (Bool) × (List Int)) : Option ((List ((Bool) × (List Int))) × (Int)) :=
  bnd (idx (List.replicate (8 : Nat) (false, ([] : List (Ty.den (Ty.int IntKind.i64))))) (0 : Int)) fun y =>
  some (List.set (List.replicate (8 : Nat) (false, ([] : List (Ty.den (Ty.int IntKind.i64))))) (0 : Nat) (Prod.fst n, Prod.snd n), (0 : Int))
def R_ROf.ce : Go.Ql.Callee := ⟨[(.st (.pair .bool (.sl (.int .i64))))], [(.st (.pair (.ar 8 (.st (.pair .bool (.sl (.int .i64))))) (.int .i64)))], fun x_ => R_ROf x_⟩
def R_ROf.G : Env := ⟨9, tab, [], [0, 1, 2, 3], [2, 3, 4], [], [], [], tab_eqs⟩
theorem R_ROf.eq (x_ : dens [(.st (.pair .bool (.sl (.int .i64))))]) : den R_ROf.G Go.Proofs.Tryd.f26 [(.st (.pair .bool (.sl (.int .i64))))] [(.st (.pair (.ar 8 (.st (.pair .bool (.sl (.int .i64))))) (.int .i64)))] x_ = R_ROf x_ := by kernel_rfl
theorem R_ROf.ok : CalleeOk Go.Proofs.Tryd.prog 26 R_ROf.ce := fn_ok (G := R_ROf.G) tab_ok mixed Go.Proofs.Tryd.func26 ⟨fns_nil, mfns_nil, tab_eqs_ok⟩ (m := 0) (by kernel_rfl) trivial (by kernel_rfl) R_ROf.eq
def R_ZNeg (a : (Bool) × (List Int)) : Option ((Bool) × (List Int)) :=
  bnd (W.R_zmade (!Prod.fst a) (Prod.snd a)) fun y =>
  some (Prod.fst y, Prod.snd y)
def R_ZNeg.ce : Go.Ql.Callee := ⟨[(.st (.pair .bool (.sl (.int .i64))))], [(.st (.pair .bool (.sl (.int .i64))))], fun x_ => R_ZNeg x_⟩
def R_ZNeg.G : Env := ⟨9, tab, [(55, R_zmade.ce)], [0, 1, 2], [], [], [], [], tab_eqs⟩
theorem R_ZNeg.eq (x_ : dens [(.st (.pair .bool (.sl (.int .i64))))]) : den R_ZNeg.G Go.Proofs.Tryd.f52 [(.st (.pair .bool (.sl (.int .i64))))] [(.st (.pair .bool (.sl (.int .i64))))] x_ = R_ZNeg x_ := by kernel_rfl
theorem R_ZNeg.ok : CalleeOk Go.Proofs.Tryd.prog 52 R_ZNeg.ce := fn_ok (G := R_ZNeg.G) tab_ok mixed Go.Proofs.Tryd.func52 ⟨(fns_cons R_zmade.ok fns_nil), mfns_nil, tab_eqs_ok⟩ (m := 0) (by kernel_rfl) trivial (by kernel_rfl) R_ZNeg.eq
abbrev rb32 : SD := .one (.val (.st (.pair (.ar 8 (.st (.pair .bool (.sl (.int .i64))))) (.int .i64))))
abbrev rb33 : SD := .one (.fptr (.st (.pair (.ar 8 (.st (.pair .bool (.sl (.int .i64))))) (.int .i64))))
abbrev rb34 : SO := .arr 0 false 37 (.st (.pair (.ar 8 (.st (.pair .bool (.sl (.int .i64))))) (.int .i64)))
abbrev rb35 : SD := .one (.aptr 5 0)
def R_RTurn.c208197 {ρ : Type} (t1 : Int) (k_ : Int → Option ρ) : Option ρ :=
  br (decide (t1 < (0 : Int)))
   (k_ (IntKind.wrap IntKind.i64 (t1 + (16 : Int))))
   (k_ t1)
def R_RTurn.c208197s : Shape := ⟨[(0, rb32), (1, rb3), (2, rb33), (4, rb25)], [(4, rb34)]⟩
def R_RTurn.c208197x0 : Shape := ⟨[(0, rb32), (1, rb3), (2, rb33), (4, rb25)], [(4, rb34)]⟩
def R_RTurn.c208197r : Ck := Ck.of (T := Int) R_RTurn.c208197s (fun ρ x_ k_ => uP x_ fun a x_ => uP x_ fun t1 x_ => uP x_ fun a_1 x_ => uP x_ fun t4 x_ => R_RTurn.c208197 t1 k_) (fun ρ x_ r_ k_ => uP x_ fun a x_ => uP x_ fun t1 x_ => uP x_ fun a_1 x_ => uP x_ fun t4 x_ => k_ 0 (Shape.inj R_RTurn.c208197x0 (a, r_, a_1, t4, ())))
def R_RTurn.c236872 {ρ : Type} (t1 : Int) (a_1 : (List ((Bool) × (List Int))) × (Int)) (i : Int) (out : List ((List ((Bool) × (List Int))) × (Int))) (k_ : List ((List ((Bool) × (List Int))) × (Int)) → Option ρ) : Option ρ :=
  br (decide (Int.tmod (IntKind.wrap IntKind.i64 (i + t1)) (16 : Int) < (8 : Int)))
   (bnd (idx (Prod.fst a_1) i) fun y =>
    bnd (inR (List.length out) (0 : Int)) fun y_1 =>
    bnd (okIf (decide ((0 : Ty.den (Ty.int IntKind.i64)) ≤ Int.tmod (IntKind.wrap IntKind.i64 (i + t1)) (16 : Int)) && decide (Int.tmod (IntKind.wrap IntKind.i64 (i + t1)) (16 : Int) < (↑(8 : Nat) : Int)))) fun y_2 =>
    bnd (idx out (0 : Int)) fun y_3 =>
    bnd (idx (Prod.fst y_3) (Int.tmod (IntKind.wrap IntKind.i64 (i + t1)) (16 : Int))) fun y_4 =>
    k_ (List.set out (0 : Nat) (List.set (Prod.fst y_3) (Int.toNat (Int.tmod (IntKind.wrap IntKind.i64 (i + t1)) (16 : Int))) y, Prod.snd y_3)))
   (bnd (idx (Prod.fst a_1) i) fun y_5 =>
    bnd (W.R_ZNeg y_5) fun y_6 =>
    bnd (inR (List.length out) (0 : Int)) fun y_7 =>
    bnd (okIf (decide ((0 : Ty.den (Ty.int IntKind.i64)) ≤ IntKind.wrap IntKind.i64 (Int.tmod (IntKind.wrap IntKind.i64 (i + t1)) (16 : Int) - (8 : Int))) && decide (IntKind.wrap IntKind.i64 (Int.tmod (IntKind.wrap IntKind.i64 (i + t1)) (16 : Int) - (8 : Int)) < (↑(8 : Nat) : Int)))) fun y_8 =>
    bnd (idx out (0 : Int)) fun y_9 =>
    bnd (idx (Prod.fst y_9) (IntKind.wrap IntKind.i64 (Int.tmod (IntKind.wrap IntKind.i64 (i + t1)) (16 : Int) - (8 : Int)))) fun y_10 =>
    k_ (List.set out (0 : Nat) (List.set (Prod.fst y_9) (Int.toNat (IntKind.wrap IntKind.i64 (Int.tmod (IntKind.wrap IntKind.i64 (i + t1)) (16 : Int) - (8 : Int)))) y_6, Prod.snd y_9)))
def R_RTurn.c236872s : Shape := ⟨[(0, rb32), (1, rb3), (2, rb33), (4, rb25), (5, rb35), (6, rb3)], [(4, rb34), (5, rb34)]⟩
def R_RTurn.c236872x0 : Shape := ⟨[(0, rb32), (1, rb3), (2, rb33), (4, rb25), (5, rb35), (6, rb3)], [(4, rb34), (5, rb34)]⟩
def R_RTurn.c236872r : Ck := Ck.of (T := List ((List ((Bool) × (List Int))) × (Int))) R_RTurn.c236872s (fun ρ x_ k_ => uP x_ fun a x_ => uP x_ fun t1 x_ => uP x_ fun a_1 x_ => uP x_ fun i x_ => uP x_ fun t4 x_ => uP x_ fun out x_ => R_RTurn.c236872 t1 a_1 i out k_) (fun ρ x_ r_ k_ => uP x_ fun a x_ => uP x_ fun t1 x_ => uP x_ fun a_1 x_ => uP x_ fun i x_ => uP x_ fun t4 x_ => uP x_ fun out x_ => k_ 0 (Shape.inj R_RTurn.c236872x0 (a, t1, a_1, i, t4, r_, ())))
def R_RTurn.c100007 {ρ : Type} (t1 : Int) (a_1 : (List ((Bool) × (List Int))) × (Int)) (i : Int) (out : List ((List ((Bool) × (List Int))) × (Int))) (k_ : ((Int) × (List ((List ((Bool) × (List Int))) × (Int)))) ⊕ ((Int) × (List ((List ((Bool) × (List Int))) × (Int)))) → Option ρ) : Option ρ :=
  br (decide (i < (8 : Int)))
   (bnd (W.R_RTurn.c236872 t1 a_1 i out some) fun y =>
    k_ (.inl ((IntKind.wrap IntKind.i64 (i + (1 : Int))), y)))
   (k_ (.inr (i, out)))
def R_RTurn.c100007s : Shape := ⟨[(0, rb32), (1, rb3), (2, rb33), (4, rb25), (5, rb35), (6, rb3)], [(4, rb34), (5, rb34)]⟩
def R_RTurn.c100007x0 : Shape := ⟨[(0, rb32), (1, rb3), (2, rb33), (4, rb25), (5, rb35), (6, rb3)], [(4, rb34), (5, rb34)]⟩
def R_RTurn.c100007r : Ck := Ck.ofLoop (S := (Int) × (List ((List ((Bool) × (List Int))) × (Int)))) (T := (Int) × (List ((List ((Bool) × (List Int))) × (Int)))) R_RTurn.c100007s (fun x_ => uP x_ fun a x_ => uP x_ fun t1 x_ => uP x_ fun a_1 x_ => uP x_ fun i x_ => uP x_ fun t4 x_ => uP x_ fun out x_ => (i, out)) (fun ρ x_ s_ k_ => uP x_ fun a x_ => uP x_ fun t1 x_ => uP x_ fun a_1 x_ => uP x_ fun i x_ => uP x_ fun t4 x_ => uP x_ fun out x_ => R_RTurn.c100007 t1 a_1 s_.1 s_.2 k_) (fun ρ x_ r_ k_ => uP x_ fun a x_ => uP x_ fun t1 x_ => uP x_ fun a_1 x_ => uP x_ fun i x_ => uP x_ fun t4 x_ => uP x_ fun out x_ => k_ 2 (Shape.inj R_RTurn.c100007x0 (a, t1, a_1, r_.1, t4, r_.2, ())))
def R_RTurn (a : (List ((Bool) × (List Int))) × (Int)) (t1 : Int) : Option ((List ((Bool) × (List Int))) × (Int)) :=
  bnd (W.R_RTurn.c208197 (Int.tmod t1 (16 : Int)) some) fun y =>
  bnd (iter (fun s ↦ W.R_RTurn.c100007 y a (Prod.fst s) (Prod.snd s) some) ((0 : Int), [(List.replicate (8 : Nat) (false, []), Prod.snd a)])) fun y_1 =>
  bnd (idx (Prod.snd y_1) (0 : Int)) fun y_2 =>
  some y_2
def R_RTurn.ce : Go.Ql.Callee := ⟨[(.st (.pair (.ar 8 (.st (.pair .bool (.sl (.int .i64))))) (.int .i64))), (.int .i64)], [(.st (.pair (.ar 8 (.st (.pair .bool (.sl (.int .i64))))) (.int .i64)))], fun x_ => R_RTurn x_.1 x_.2⟩
def R_RTurn.G : Env := ⟨45, tab, [(52, R_ZNeg.ce)], [0, 1, 2, 4, 5, 6, 7, 11, 19, 27], [4, 5, 14, 8000002], [], [(100007, R_RTurn.c100007r), (236872, R_RTurn.c236872r), (208197, R_RTurn.c208197r)], [], tab_eqs⟩
theorem R_RTurn.eq (x_ : dens [(.st (.pair (.ar 8 (.st (.pair .bool (.sl (.int .i64))))) (.int .i64))), (.int .i64)]) : den R_RTurn.G Go.Proofs.Tryd.f37 [(.st (.pair (.ar 8 (.st (.pair .bool (.sl (.int .i64))))) (.int .i64))), (.int .i64)] [(.st (.pair (.ar 8 (.st (.pair .bool (.sl (.int .i64))))) (.int .i64)))] x_ = R_RTurn x_.1 x_.2 := by kernel_rfl
theorem R_RTurn.p0 : PieceOk R_RTurn.G (pieceAt (pieces R_RTurn.G.cks (bodyOf Go.Proofs.Tryd.f37)) 0).1 (pieceAt (pieces R_RTurn.G.cks (bodyOf Go.Proofs.Tryd.f37)) 0).2 :=
  join_ok (s := R_RTurn.c208197r) (by kernel_rfl) (by kernel_rfl) (sums_of (sh := R_RTurn.c208197s) (fun ρ x_ k_ => (nat_br nat_leaf nat_leaf)) (fun ρ x_ t k => (by kernel_rfl)) (fun x_ => by kernel_rfl))
theorem R_RTurn.p1 : PieceOk R_RTurn.G (pieceAt (pieces R_RTurn.G.cks (bodyOf Go.Proofs.Tryd.f37)) 1).1 (pieceAt (pieces R_RTurn.G.cks (bodyOf Go.Proofs.Tryd.f37)) 1).2 :=
  loop_ok (s := R_RTurn.c100007r) (by kernel_rfl) (by kernel_rfl) (loops_of (sh := R_RTurn.c100007s) (I := fun x_ s_ => (x_.1, x_.2.1, x_.2.2.1, s_.1, x_.2.2.2.2.1, s_.2, ())) (fun x_ => rfl) (fun ρ x_ s_ k_ => (nat_br (nat_bnd fun _ => nat_leaf) nat_leaf)) (fun ρ x_ t k => (by kernel_rfl)) (fun x_ s => by kernel_rfl))
theorem R_RTurn.p2 : PieceOk R_RTurn.G (pieceAt (pieces R_RTurn.G.cks (bodyOf Go.Proofs.Tryd.f37)) 2).1 (pieceAt (pieces R_RTurn.G.cks (bodyOf Go.Proofs.Tryd.f37)) 2).2 :=
  join_ok (s := R_RTurn.c236872r) (by kernel_rfl) (by kernel_rfl) (sums_of (sh := R_RTurn.c236872s) (fun ρ x_ k_ => (nat_br (nat_bnd fun _ => (nat_bnd fun _ => (nat_bnd fun _ => (nat_bnd fun _ => (nat_bnd fun _ => nat_leaf))))) (nat_bnd fun _ => (nat_bnd fun _ => (nat_bnd fun _ => (nat_bnd fun _ => (nat_bnd fun _ => (nat_bnd fun _ => nat_leaf)))))))) (fun ρ x_ t k => (by kernel_rfl)) (fun x_ => by kernel_rfl))
theorem R_RTurn.ok : CalleeOk Go.Proofs.Tryd.prog 37 R_RTurn.ce := fn_ok (G := R_RTurn.G) tab_ok mixed Go.Proofs.Tryd.func37 ⟨(fns_cons R_ZNeg.ok fns_nil), mfns_nil, tab_eqs_ok⟩ (m := 3) (by kernel_rfl) ⟨⟨⟨trivial, R_RTurn.p0⟩, R_RTurn.p1⟩, R_RTurn.p2⟩ (by kernel_rfl) R_RTurn.eq
def R_RZero.c100002 {ρ : Type} (a_1 : (List ((Bool) × (List Int))) × (Int)) (i : Int) (k_ : (Int) ⊕ ((Int) ⊕ (Int)) → Option ρ) : Option ρ :=
  br (decide (i < (8 : Int)))
   (bnd (idx (Prod.fst a_1) i) fun y =>
    br (decide ((↑(List.length (Prod.snd y)) : Int) > (0 : Int)))
     (k_ (.inr (.inl i)))
     (k_ (.inl (IntKind.wrap IntKind.i64 (i + (1 : Int))))))
   (k_ (.inr (.inr i)))
def R_RZero.c100002s : Shape := ⟨[(0, rb32), (1, rb33), (2, rb0), (3, rb3)], []⟩
def R_RZero.c100002x0 : Shape := ⟨[(0, rb32), (1, rb33), (2, rb0), (3, rb3)], []⟩
def R_RZero.c100002x1 : Shape := ⟨[(0, rb32), (1, rb33), (2, rb0), (3, rb3)], []⟩
def R_RZero.c100002r : Ck := Ck.ofLoop (S := Int) (T := (Int) ⊕ (Int)) R_RZero.c100002s (fun x_ => uP x_ fun a x_ => uP x_ fun a_1 x_ => uP x_ fun t2 x_ => uP x_ fun i x_ => i) (fun ρ x_ s_ k_ => uP x_ fun a x_ => uP x_ fun a_1 x_ => uP x_ fun t2 x_ => uP x_ fun i x_ => R_RZero.c100002 a_1 s_ k_) (fun ρ x_ r_ k_ => uP x_ fun a x_ => uP x_ fun a_1 x_ => uP x_ fun t2 x_ => uP x_ fun i x_ => sel r_ (fun r_ => k_ 1 (Shape.inj R_RZero.c100002x0 (a, a_1, false, r_, ()))) (fun r_ => k_ 2 (Shape.inj R_RZero.c100002x1 (a, a_1, t2, r_, ()))))
def R_RZero (a : (List ((Bool) × (List Int))) × (Int)) : Option (Bool) :=
  bnd (iter (fun s ↦ W.R_RZero.c100002 a s some) (0 : Int)) fun y =>
  sel y
   (fun u => some false)
   (fun v => some true)
def R_RZero.ce : Go.Ql.Callee := ⟨[(.st (.pair (.ar 8 (.st (.pair .bool (.sl (.int .i64))))) (.int .i64)))], [.bool], fun x_ => R_RZero x_⟩
def R_RZero.G : Env := ⟨15, tab, [], [0, 1, 2, 3, 5, 14], [8000001], [], [(100002, R_RZero.c100002r)], [], tab_eqs⟩
theorem R_RZero.eq (x_ : dens [(.st (.pair (.ar 8 (.st (.pair .bool (.sl (.int .i64))))) (.int .i64)))]) : den R_RZero.G Go.Proofs.Tryd.f39 [(.st (.pair (.ar 8 (.st (.pair .bool (.sl (.int .i64))))) (.int .i64)))] [.bool] x_ = R_RZero x_ := by kernel_rfl
theorem R_RZero.p0 : PieceOk R_RZero.G (pieceAt (pieces R_RZero.G.cks (bodyOf Go.Proofs.Tryd.f39)) 0).1 (pieceAt (pieces R_RZero.G.cks (bodyOf Go.Proofs.Tryd.f39)) 0).2 :=
  loop_ok (s := R_RZero.c100002r) (by kernel_rfl) (by kernel_rfl) (loops_of (sh := R_RZero.c100002s) (I := fun x_ s_ => (x_.1, x_.2.1, x_.2.2.1, s_, ())) (fun x_ => rfl) (fun ρ x_ s_ k_ => (nat_br (nat_bnd fun _ => (nat_br nat_leaf nat_leaf)) nat_leaf)) (fun ρ x_ t k => (nat_sel (fun _ => (by kernel_rfl)) (fun _ => (by kernel_rfl)))) (fun x_ s => by kernel_rfl))
theorem R_RZero.ok : CalleeOk Go.Proofs.Tryd.prog 39 R_RZero.ce := fn_ok (G := R_RZero.G) tab_ok mixed Go.Proofs.Tryd.func39 ⟨fns_nil, mfns_nil, tab_eqs_ok⟩ (m := 1) (by kernel_rfl) ⟨trivial, R_RZero.p0⟩ (by kernel_rfl) R_RZero.eq
abbrev rb36 : SD := .one (.val (.st (.pair .bool (.sl (.int .i64)))))
abbrev rb37 : SD := .one (.own 17 0)
def R_ZMul.c7 {ρ : Type} (c : Int) (j : Int) (b1 : List (Int)) (k_ : Bool → Option ρ) : Option ρ :=
  br (decide (j < (↑(List.length b1) : Int)))
   (k_ true)
   (k_ (decide (c > (0 : Int))))
def R_ZMul.c7s : Shape := ⟨[(0, rb36), (1, rb36), (2, rb5), (3, rb12), (4, rb2), (5, rb37), (6, rb3), (7, rb3), (8, rb3)], [(2, rb30), (3, rb30), (4, rb30), (17, rb31)]⟩
def R_ZMul.c7x0 : Shape := ⟨[(0, rb36), (1, rb36), (2, rb5), (3, rb12), (4, rb2), (5, rb37), (6, rb3), (7, rb3), (8, rb3), (33, rb0)], [(2, rb30), (3, rb30), (4, rb30), (17, rb31)]⟩
def R_ZMul.c7r : Ck := Ck.of (T := Bool) R_ZMul.c7s (fun ρ x_ k_ => uP x_ fun a x_ => uP x_ fun b x_ => uP x_ fun i x_ => uP x_ fun c x_ => uP x_ fun j x_ => uP x_ fun a0 x_ => uP x_ fun a1 x_ => uP x_ fun b0 x_ => uP x_ fun b1 x_ => uP x_ fun t40 x_ => uP x_ fun t41 x_ => uP x_ fun t17 x_ => R_ZMul.c7 c j b1 k_) (fun ρ x_ r_ k_ => uP x_ fun a x_ => uP x_ fun b x_ => uP x_ fun i x_ => uP x_ fun c x_ => uP x_ fun j x_ => uP x_ fun a0 x_ => uP x_ fun a1 x_ => uP x_ fun b0 x_ => uP x_ fun b1 x_ => uP x_ fun t40 x_ => uP x_ fun t41 x_ => uP x_ fun t17 x_ => k_ 0 (Shape.inj R_ZMul.c7x0 (a, b, i, c, j, r_, a0, a1, b0, b1, t40, t41, t17, ())))
def R_ZMul.c11 {ρ : Type} (i : Int) (c : Int) (j : Int) (a1 : List (Int)) (b1 : List (Int)) (k_ : Int → Option ρ) : Option ρ :=
  bnd (idx a1 i) fun y =>
  bnd (idx b1 j) fun y_1 =>
  k_ (IntKind.wrap IntKind.i64 (c + IntKind.wrap IntKind.i64 (y * y_1)))
def R_ZMul.c11s : Shape := ⟨[(0, rb36), (1, rb36), (2, rb5), (3, rb12), (4, rb2), (5, rb37), (6, rb3), (7, rb3), (8, rb3)], [(2, rb30), (3, rb30), (4, rb30), (17, rb31)]⟩
def R_ZMul.c11x0 : Shape := ⟨[(0, rb36), (1, rb36), (2, rb5), (3, rb12), (4, rb2), (5, rb37), (6, rb3), (7, rb3), (8, rb3)], [(2, rb30), (3, rb30), (4, rb30), (17, rb31)]⟩
def R_ZMul.c11r : Ck := Ck.of (T := Int) R_ZMul.c11s (fun ρ x_ k_ => uP x_ fun a x_ => uP x_ fun b x_ => uP x_ fun i x_ => uP x_ fun c x_ => uP x_ fun j x_ => uP x_ fun a0 x_ => uP x_ fun a1 x_ => uP x_ fun b0 x_ => uP x_ fun b1 x_ => uP x_ fun t40 x_ => uP x_ fun t41 x_ => uP x_ fun t17 x_ => R_ZMul.c11 i c j a1 b1 k_) (fun ρ x_ r_ k_ => uP x_ fun a x_ => uP x_ fun b x_ => uP x_ fun i x_ => uP x_ fun c x_ => uP x_ fun j x_ => uP x_ fun a0 x_ => uP x_ fun a1 x_ => uP x_ fun b0 x_ => uP x_ fun b1 x_ => uP x_ fun t40 x_ => uP x_ fun t41 x_ => uP x_ fun t17 x_ => k_ 0 (Shape.inj R_ZMul.c11x0 (a, b, i, r_, j, a0, a1, b0, b1, t40, t41, t17, ())))
def R_ZMul.c240965 {ρ : Type} (i : Int) (c : Int) (j : Int) (a1 : List (Int)) (b1 : List (Int)) (k_ : Int → Option ρ) : Option ρ :=
  br (decide (j < (↑(List.length b1) : Int)))
   (bnd (W.R_ZMul.c11 i c j a1 b1 some) fun y =>
    k_ y)
   (k_ c)
def R_ZMul.c240965s : Shape := ⟨[(0, rb36), (1, rb36), (2, rb5), (3, rb12), (4, rb2), (5, rb37), (6, rb3), (7, rb3), (8, rb3)], [(2, rb30), (3, rb30), (4, rb30), (17, rb31)]⟩
def R_ZMul.c240965x0 : Shape := ⟨[(0, rb36), (1, rb36), (2, rb5), (3, rb12), (4, rb2), (5, rb37), (6, rb3), (7, rb3), (8, rb3)], [(2, rb30), (3, rb30), (4, rb30), (17, rb31)]⟩
def R_ZMul.c240965r : Ck := Ck.of (T := Int) R_ZMul.c240965s (fun ρ x_ k_ => uP x_ fun a x_ => uP x_ fun b x_ => uP x_ fun i x_ => uP x_ fun c x_ => uP x_ fun j x_ => uP x_ fun a0 x_ => uP x_ fun a1 x_ => uP x_ fun b0 x_ => uP x_ fun b1 x_ => uP x_ fun t40 x_ => uP x_ fun t41 x_ => uP x_ fun t17 x_ => R_ZMul.c240965 i c j a1 b1 k_) (fun ρ x_ r_ k_ => uP x_ fun a x_ => uP x_ fun b x_ => uP x_ fun i x_ => uP x_ fun c x_ => uP x_ fun j x_ => uP x_ fun a0 x_ => uP x_ fun a1 x_ => uP x_ fun b0 x_ => uP x_ fun b1 x_ => uP x_ fun t40 x_ => uP x_ fun t41 x_ => uP x_ fun t17 x_ => k_ 0 (Shape.inj R_ZMul.c240965x0 (a, b, i, r_, j, a0, a1, b0, b1, t40, t41, t17, ())))
def R_ZMul.c100007 {ρ : Type} (i : Int) (c : Int) (j : Int) (a1 : List (Int)) (b1 : List (Int)) (t17 : List (Int)) (k_ : ((Int) × (Int) × (List Int)) ⊕ ((Int) × (Int) × (List Int)) → Option ρ) : Option ρ :=
  bnd (W.R_ZMul.c7 c j b1 some) fun y =>
  br y
   (bnd (inR (List.length t17) (IntKind.wrap IntKind.i64 (i + j))) fun y_1 =>
    bnd (idx t17 (IntKind.wrap IntKind.i64 (i + j))) fun y_2 =>
    bnd (W.R_ZMul.c240965 i (IntKind.wrap IntKind.i64 (c + y_2)) j a1 b1 some) fun y_3 =>
    bnd (inR (List.length t17) (IntKind.wrap IntKind.i64 (i + j))) fun y_4 =>
    bnd (idx t17 (IntKind.wrap IntKind.i64 (i + j))) fun y_5 =>
    k_ (.inl ((IntKind.wrap IntKind.i64 (Int.tdiv y_3 (10000 : Int))), (IntKind.wrap IntKind.i64 (j + (1 : Int))), (List.set t17 (Int.toNat (IntKind.wrap IntKind.i64 (i + j))) (Int.tmod y_3 (10000 : Int))))))
   (k_ (.inr (c, j, t17)))
def R_ZMul.c100007s : Shape := ⟨[(0, rb36), (1, rb36), (2, rb5), (3, rb12), (4, rb2), (5, rb37), (6, rb3), (7, rb3), (8, rb3)], [(2, rb30), (3, rb30), (4, rb30), (17, rb31)]⟩
def R_ZMul.c100007x0 : Shape := ⟨[(0, rb36), (1, rb36), (2, rb5), (3, rb12), (4, rb2), (5, rb37), (6, rb3), (7, rb3), (8, rb3)], [(2, rb30), (3, rb30), (4, rb30), (17, rb31)]⟩
def R_ZMul.c100007r : Ck := Ck.ofLoop (S := (Int) × (Int) × (List Int)) (T := (Int) × (Int) × (List Int)) R_ZMul.c100007s (fun x_ => uP x_ fun a x_ => uP x_ fun b x_ => uP x_ fun i x_ => uP x_ fun c x_ => uP x_ fun j x_ => uP x_ fun a0 x_ => uP x_ fun a1 x_ => uP x_ fun b0 x_ => uP x_ fun b1 x_ => uP x_ fun t40 x_ => uP x_ fun t41 x_ => uP x_ fun t17 x_ => (c, j, t17)) (fun ρ x_ s_ k_ => uP x_ fun a x_ => uP x_ fun b x_ => uP x_ fun i x_ => uP x_ fun c x_ => uP x_ fun j x_ => uP x_ fun a0 x_ => uP x_ fun a1 x_ => uP x_ fun b0 x_ => uP x_ fun b1 x_ => uP x_ fun t40 x_ => uP x_ fun t41 x_ => uP x_ fun t17 x_ => R_ZMul.c100007 i s_.1 s_.2.1 a1 b1 s_.2.2 k_) (fun ρ x_ r_ k_ => uP x_ fun a x_ => uP x_ fun b x_ => uP x_ fun i x_ => uP x_ fun c x_ => uP x_ fun j x_ => uP x_ fun a0 x_ => uP x_ fun a1 x_ => uP x_ fun b0 x_ => uP x_ fun b1 x_ => uP x_ fun t40 x_ => uP x_ fun t41 x_ => uP x_ fun t17 x_ => k_ 4 (Shape.inj R_ZMul.c100007x0 (a, b, i, r_.1, r_.2.1, a0, a1, b0, b1, t40, t41, r_.2.2, ())))
def R_ZMul.c100003 {ρ : Type} (i : Int) (a1 : List (Int)) (b1 : List (Int)) (t17 : List (Int)) (k_ : ((Int) × (List Int)) ⊕ ((Int) × (List Int)) → Option ρ) : Option ρ :=
  br (decide (i < (↑(List.length a1) : Int)))
   (bnd (iter (fun s ↦ W.R_ZMul.c100007 i (Prod.fst s) (Prod.fst (Prod.snd s)) a1 b1 (Prod.snd (Prod.snd s)) some) ((0 : Int), (0 : Int), t17)) fun y =>
    k_ (.inl ((IntKind.wrap IntKind.i64 (i + (1 : Int))), (Prod.snd (Prod.snd y)))))
   (k_ (.inr (i, t17)))
def R_ZMul.c100003s : Shape := ⟨[(0, rb36), (1, rb36), (2, rb5), (3, rb12), (4, rb2), (5, rb37), (6, rb3)], [(2, rb30), (3, rb30), (4, rb30), (17, rb31)]⟩
def R_ZMul.c100003x0 : Shape := ⟨[(0, rb36), (1, rb36), (2, rb5), (3, rb12), (4, rb2), (5, rb37), (6, rb3)], [(2, rb30), (3, rb30), (4, rb30), (17, rb31)]⟩
def R_ZMul.c100003r : Ck := Ck.ofLoop (S := (Int) × (List Int)) (T := (Int) × (List Int)) R_ZMul.c100003s (fun x_ => uP x_ fun a x_ => uP x_ fun b x_ => uP x_ fun i x_ => uP x_ fun a0 x_ => uP x_ fun a1 x_ => uP x_ fun b0 x_ => uP x_ fun b1 x_ => uP x_ fun t40 x_ => uP x_ fun t41 x_ => uP x_ fun t17 x_ => (i, t17)) (fun ρ x_ s_ k_ => uP x_ fun a x_ => uP x_ fun b x_ => uP x_ fun i x_ => uP x_ fun a0 x_ => uP x_ fun a1 x_ => uP x_ fun b0 x_ => uP x_ fun b1 x_ => uP x_ fun t40 x_ => uP x_ fun t41 x_ => uP x_ fun t17 x_ => R_ZMul.c100003 s_.1 a1 b1 s_.2 k_) (fun ρ x_ r_ k_ => uP x_ fun a x_ => uP x_ fun b x_ => uP x_ fun i x_ => uP x_ fun a0 x_ => uP x_ fun a1 x_ => uP x_ fun b0 x_ => uP x_ fun b1 x_ => uP x_ fun t40 x_ => uP x_ fun t41 x_ => uP x_ fun t17 x_ => k_ 2 (Shape.inj R_ZMul.c100003x0 (a, b, r_.1, a0, a1, b0, b1, t40, t41, r_.2, ())))
def R_ZMul (a : (Bool) × (List Int)) (b : (Bool) × (List Int)) : Option ((Bool) × (List Int)) :=
  bnd (okIf (decide ((0 : Int) ≤ IntKind.wrap IntKind.i64 (IntKind.wrap IntKind.i64 ((↑(List.length (Prod.snd a)) : Int) + (↑(List.length (Prod.snd b)) : Int)) + (1 : Int))) && decide (IntKind.wrap IntKind.i64 (IntKind.wrap IntKind.i64 ((↑(List.length (Prod.snd a)) : Int) + (↑(List.length (Prod.snd b)) : Int)) + (1 : Int)) ≤ IntKind.wrap IntKind.i64 (IntKind.wrap IntKind.i64 ((↑(List.length (Prod.snd a)) : Int) + (↑(List.length (Prod.snd b)) : Int)) + (1 : Int))) && decide (IntKind.wrap IntKind.i64 (IntKind.wrap IntKind.i64 ((↑(List.length (Prod.snd a)) : Int) + (↑(List.length (Prod.snd b)) : Int)) + (1 : Int)) * (↑(8 : Nat) : Int) ≤ (140737488355328 : Int)) && decide (IntKind.wrap IntKind.i64 (IntKind.wrap IntKind.i64 ((↑(List.length (Prod.snd a)) : Int) + (↑(List.length (Prod.snd b)) : Int)) + (1 : Int)) ≤ (140737488355328 : Int)))) fun y =>
  bnd (iter (fun s ↦ W.R_ZMul.c100003 (Prod.fst s) (Prod.snd a) (Prod.snd b) (Prod.snd s) some) ((0 : Int), List.replicate (Int.toNat (IntKind.wrap IntKind.i64 (IntKind.wrap IntKind.i64 ((↑(List.length (Prod.snd a)) : Int) + (↑(List.length (Prod.snd b)) : Int)) + (1 : Int)))) (0 : Int))) fun y_1 =>
  bnd (W.R_zmade (!Prod.fst a == Prod.fst b) (Prod.snd y_1)) fun y_2 =>
  some (Prod.fst y_2, Prod.snd y_2)
def R_ZMul.ce : Go.Ql.Callee := ⟨[(.st (.pair .bool (.sl (.int .i64)))), (.st (.pair .bool (.sl (.int .i64))))], [(.st (.pair .bool (.sl (.int .i64))))], fun x_ => R_ZMul x_.1 x_.2⟩
def R_ZMul.G : Env := ⟨78, tab, [(55, R_zmade.ce)], [0, 1, 2, 3, 4, 5, 6, 7, 8, 22, 33, 48], [17], [(11, [⟨[], [], [50, 51, 52, 53, 54, 55, 56, 57, 58, 59, 60], []⟩, ⟨[], [], [49, 52, 55, 56, 57, 58, 59], []⟩, ⟨[1], [], [49, 52, 55, 56, 57, 58, 59], []⟩, ⟨[], [], [49, 50, 51, 55, 56, 57, 58, 59], []⟩, ⟨[2, 1, 3], [], [49, 55, 56, 57, 58, 59], []⟩, ⟨[4, 2, 1, 3], [], [49, 55, 56, 57, 58, 59], []⟩, ⟨[], [], [49, 50, 51, 52, 53, 54, 57], []⟩, ⟨[6], [], [49, 50, 51, 52, 53, 54, 57], []⟩, ⟨[], [], [49, 50, 51, 52, 53, 54, 55, 56], []⟩, ⟨[7, 6, 8], [], [49, 50, 51, 52, 53, 54], []⟩, ⟨[9, 7, 6, 8], [], [49, 50, 51, 52, 53, 54], []⟩, ⟨[5, 4, 2, 1, 3, 10, 9, 7, 6, 8], [], [49], []⟩, ⟨[0, 11, 5, 4, 2, 1, 3, 10, 9, 7, 6, 8], [], [], []⟩, ⟨[12, 0, 11, 5, 4, 2, 1, 3, 10, 9, 7, 6, 8], [], [], []⟩])], [(100003, R_ZMul.c100003r), (100007, R_ZMul.c100007r), (240965, R_ZMul.c240965r), (11, R_ZMul.c11r), (7, R_ZMul.c7r)], [], tab_eqs⟩
theorem R_ZMul.eq (x_ : dens [(.st (.pair .bool (.sl (.int .i64)))), (.st (.pair .bool (.sl (.int .i64))))]) : den R_ZMul.G Go.Proofs.Tryd.f50 [(.st (.pair .bool (.sl (.int .i64)))), (.st (.pair .bool (.sl (.int .i64))))] [(.st (.pair .bool (.sl (.int .i64))))] x_ = R_ZMul x_.1 x_.2 := by kernel_rfl
theorem R_ZMul.p0 : PieceOk R_ZMul.G (pieceAt (pieces R_ZMul.G.cks (bodyOf Go.Proofs.Tryd.f50)) 0).1 (pieceAt (pieces R_ZMul.G.cks (bodyOf Go.Proofs.Tryd.f50)) 0).2 :=
  loop_ok (s := R_ZMul.c100003r) (by kernel_rfl) (by kernel_rfl) (loops_of (sh := R_ZMul.c100003s) (I := fun x_ s_ => (x_.1, x_.2.1, s_.1, x_.2.2.2.1, x_.2.2.2.2.1, x_.2.2.2.2.2.1, x_.2.2.2.2.2.2.1, x_.2.2.2.2.2.2.2.1, x_.2.2.2.2.2.2.2.2.1, s_.2, ())) (fun x_ => rfl) (fun ρ x_ s_ k_ => (nat_br (nat_bnd fun _ => nat_leaf) nat_leaf)) (fun ρ x_ t k => (by kernel_rfl)) (fun x_ s => by kernel_rfl))
theorem R_ZMul.p1 : PieceOk R_ZMul.G (pieceAt (pieces R_ZMul.G.cks (bodyOf Go.Proofs.Tryd.f50)) 1).1 (pieceAt (pieces R_ZMul.G.cks (bodyOf Go.Proofs.Tryd.f50)) 1).2 :=
  loop_ok (s := R_ZMul.c100007r) (by kernel_rfl) (by kernel_rfl) (loops_of (sh := R_ZMul.c100007s) (I := fun x_ s_ => (x_.1, x_.2.1, x_.2.2.1, s_.1, s_.2.1, x_.2.2.2.2.2.1, x_.2.2.2.2.2.2.1, x_.2.2.2.2.2.2.2.1, x_.2.2.2.2.2.2.2.2.1, x_.2.2.2.2.2.2.2.2.2.1, x_.2.2.2.2.2.2.2.2.2.2.1, s_.2.2, ())) (fun x_ => rfl) (fun ρ x_ s_ k_ => (nat_bnd fun _ => (nat_br (nat_bnd fun _ => (nat_bnd fun _ => (nat_bnd fun _ => (nat_bnd fun _ => (nat_bnd fun _ => nat_leaf))))) nat_leaf))) (fun ρ x_ t k => (by kernel_rfl)) (fun x_ s => by kernel_rfl))
theorem R_ZMul.p2 : PieceOk R_ZMul.G (pieceAt (pieces R_ZMul.G.cks (bodyOf Go.Proofs.Tryd.f50)) 2).1 (pieceAt (pieces R_ZMul.G.cks (bodyOf Go.Proofs.Tryd.f50)) 2).2 :=
  region_ok (s := R_ZMul.c7r) (by kernel_rfl) (by kernel_rfl) (sums_of (sh := R_ZMul.c7s) (fun ρ x_ k_ => (nat_br nat_leaf nat_leaf)) (fun ρ x_ t k => (by kernel_rfl)) (fun x_ => by kernel_rfl))
theorem R_ZMul.p3 : PieceOk R_ZMul.G (pieceAt (pieces R_ZMul.G.cks (bodyOf Go.Proofs.Tryd.f50)) 3).1 (pieceAt (pieces R_ZMul.G.cks (bodyOf Go.Proofs.Tryd.f50)) 3).2 :=
  join_ok (s := R_ZMul.c240965r) (by kernel_rfl) (by kernel_rfl) (sums_of (sh := R_ZMul.c240965s) (fun ρ x_ k_ => (nat_br (nat_bnd fun _ => nat_leaf) nat_leaf)) (fun ρ x_ t k => (by kernel_rfl)) (fun x_ => by kernel_rfl))
theorem R_ZMul.p4 : PieceOk R_ZMul.G (pieceAt (pieces R_ZMul.G.cks (bodyOf Go.Proofs.Tryd.f50)) 4).1 (pieceAt (pieces R_ZMul.G.cks (bodyOf Go.Proofs.Tryd.f50)) 4).2 :=
  region_ok (s := R_ZMul.c11r) (by kernel_rfl) (by kernel_rfl) (sums_of (sh := R_ZMul.c11s) (fun ρ x_ k_ => (nat_bnd fun _ => (nat_bnd fun _ => nat_leaf))) (fun ρ x_ t k => (by kernel_rfl)) (fun x_ => by kernel_rfl))
theorem R_ZMul.ok : CalleeOk Go.Proofs.Tryd.prog 50 R_ZMul.ce := fn_ok (G := R_ZMul.G) tab_ok mixed Go.Proofs.Tryd.func50 ⟨(fns_cons R_zmade.ok fns_nil), mfns_nil, tab_eqs_ok⟩ (m := 5) (by kernel_rfl) ⟨⟨⟨⟨⟨trivial, R_ZMul.p0⟩, R_ZMul.p1⟩, R_ZMul.p2⟩, R_ZMul.p3⟩, R_ZMul.p4⟩ (by kernel_rfl) R_ZMul.eq
def R_ZPow2.c216389 {ρ : Type} (n : Int) (out0 : Bool) (out1 : List (Int)) (t40 : Bool) (t41 : List (Int)) (k_ : (Bool) × (List Int) → Option ρ) : Option ρ :=
  br (Int.tmod n (2 : Int) == (1 : Int))
   (bnd (W.R_ZMul (out0, out1) (t40, t41)) fun y =>
    k_ ((Prod.fst y), (Prod.snd y)))
   (k_ (out0, out1))
def R_ZPow2.c216389s : Shape := ⟨[(0, rb3), (2, rb5), (3, rb12), (4, rb2)], [(2, rb30), (3, rb30), (4, rb30)]⟩
def R_ZPow2.c216389x0 : Shape := ⟨[(0, rb3), (2, rb5), (3, rb12), (4, rb2)], [(2, rb30), (3, rb30), (4, rb30)]⟩
def R_ZPow2.c216389r : Ck := Ck.of (T := (Bool) × (List Int)) R_ZPow2.c216389s (fun ρ x_ k_ => uP x_ fun n x_ => uP x_ fun t20 x_ => uP x_ fun t21 x_ => uP x_ fun out0 x_ => uP x_ fun out1 x_ => uP x_ fun t40 x_ => uP x_ fun t41 x_ => R_ZPow2.c216389 n out0 out1 t40 t41 k_) (fun ρ x_ r_ k_ => uP x_ fun n x_ => uP x_ fun t20 x_ => uP x_ fun t21 x_ => uP x_ fun out0 x_ => uP x_ fun out1 x_ => uP x_ fun t40 x_ => uP x_ fun t41 x_ => k_ 0 (Shape.inj R_ZPow2.c216389x0 (n, t20, t21, r_.1, r_.2, t40, t41, ())))
def R_ZPow2.c100003 {ρ : Type} (n : Int) (out0 : Bool) (out1 : List (Int)) (t40 : Bool) (t41 : List (Int)) (k_ : ((Int) × (Bool) × (List Int) × (Bool) × (List Int)) ⊕ ((Int) × (Bool) × (List Int) × (Bool) × (List Int)) → Option ρ) : Option ρ :=
  br (decide (n > (0 : Int)))
   (bnd (W.R_ZPow2.c216389 n out0 out1 t40 t41 some) fun y =>
    bnd (W.R_ZMul (t40, t41) (t40, t41)) fun y_1 =>
    k_ (.inl ((IntKind.wrap IntKind.i64 (Int.tdiv n (2 : Int))), (Prod.fst y), (Prod.snd y), (Prod.fst y_1), (Prod.snd y_1))))
   (k_ (.inr (n, out0, out1, t40, t41)))
def R_ZPow2.c100003s : Shape := ⟨[(0, rb3), (2, rb5), (3, rb12), (4, rb2)], [(2, rb30), (3, rb30), (4, rb30)]⟩
def R_ZPow2.c100003x0 : Shape := ⟨[(0, rb3), (2, rb5), (3, rb12), (4, rb2)], [(2, rb30), (3, rb30), (4, rb30)]⟩
def R_ZPow2.c100003r : Ck := Ck.ofLoop (S := (Int) × (Bool) × (List Int) × (Bool) × (List Int)) (T := (Int) × (Bool) × (List Int) × (Bool) × (List Int)) R_ZPow2.c100003s (fun x_ => uP x_ fun n x_ => uP x_ fun t20 x_ => uP x_ fun t21 x_ => uP x_ fun out0 x_ => uP x_ fun out1 x_ => uP x_ fun t40 x_ => uP x_ fun t41 x_ => (n, out0, out1, t40, t41)) (fun ρ x_ s_ k_ => uP x_ fun n x_ => uP x_ fun t20 x_ => uP x_ fun t21 x_ => uP x_ fun out0 x_ => uP x_ fun out1 x_ => uP x_ fun t40 x_ => uP x_ fun t41 x_ => R_ZPow2.c100003 s_.1 s_.2.1 s_.2.2.1 s_.2.2.2.1 s_.2.2.2.2 k_) (fun ρ x_ r_ k_ => uP x_ fun n x_ => uP x_ fun t20 x_ => uP x_ fun t21 x_ => uP x_ fun out0 x_ => uP x_ fun out1 x_ => uP x_ fun t40 x_ => uP x_ fun t41 x_ => k_ 2 (Shape.inj R_ZPow2.c100003x0 (r_.1, t20, t21, r_.2.1, r_.2.2.1, r_.2.2.2.1, r_.2.2.2.2, ())))
def R_ZPow2 (n : Int) : Option ((Bool) × (List Int)) :=
  bnd (W.R_ZOf (1 : Int)) fun y =>
  bnd (W.R_ZOf (2 : Int)) fun y_1 =>
  bnd (iter (fun s ↦ W.R_ZPow2.c100003 (Prod.fst s) (Prod.fst (Prod.snd s)) (Prod.fst (Prod.snd (Prod.snd s))) (Prod.fst (Prod.snd (Prod.snd (Prod.snd s)))) (Prod.snd (Prod.snd (Prod.snd (Prod.snd s)))) some) (n, Prod.fst y, Prod.snd y, Prod.fst y_1, Prod.snd y_1)) fun y_2 =>
  some (Prod.fst (Prod.snd y_2), Prod.fst (Prod.snd (Prod.snd y_2)))
def R_ZPow2.ce : Go.Ql.Callee := ⟨[(.int .i64)], [(.st (.pair .bool (.sl (.int .i64))))], fun x_ => R_ZPow2 x_⟩
def R_ZPow2.G : Env := ⟨21, tab, [(27, R_ZOf.ce), (50, R_ZMul.ce)], [0, 2, 3, 4, 8, 11], [], [], [(100003, R_ZPow2.c100003r), (216389, R_ZPow2.c216389r)], [], tab_eqs⟩
theorem R_ZPow2.eq (x_ : dens [(.int .i64)]) : den R_ZPow2.G Go.Proofs.Tryd.f38 [(.int .i64)] [(.st (.pair .bool (.sl (.int .i64))))] x_ = R_ZPow2 x_ := by kernel_rfl
theorem R_ZPow2.p0 : PieceOk R_ZPow2.G (pieceAt (pieces R_ZPow2.G.cks (bodyOf Go.Proofs.Tryd.f38)) 0).1 (pieceAt (pieces R_ZPow2.G.cks (bodyOf Go.Proofs.Tryd.f38)) 0).2 :=
  loop_ok (s := R_ZPow2.c100003r) (by kernel_rfl) (by kernel_rfl) (loops_of (sh := R_ZPow2.c100003s) (I := fun x_ s_ => (s_.1, x_.2.1, x_.2.2.1, s_.2.1, s_.2.2.1, s_.2.2.2.1, s_.2.2.2.2, ())) (fun x_ => rfl) (fun ρ x_ s_ k_ => (nat_br (nat_bnd fun _ => (nat_bnd fun _ => nat_leaf)) nat_leaf)) (fun ρ x_ t k => (by kernel_rfl)) (fun x_ s => by kernel_rfl))
theorem R_ZPow2.p1 : PieceOk R_ZPow2.G (pieceAt (pieces R_ZPow2.G.cks (bodyOf Go.Proofs.Tryd.f38)) 1).1 (pieceAt (pieces R_ZPow2.G.cks (bodyOf Go.Proofs.Tryd.f38)) 1).2 :=
  join_ok (s := R_ZPow2.c216389r) (by kernel_rfl) (by kernel_rfl) (sums_of (sh := R_ZPow2.c216389s) (fun ρ x_ k_ => (nat_br (nat_bnd fun _ => nat_leaf) nat_leaf)) (fun ρ x_ t k => (by kernel_rfl)) (fun x_ => by kernel_rfl))
theorem R_ZPow2.ok : CalleeOk Go.Proofs.Tryd.prog 38 R_ZPow2.ce := fn_ok (G := R_ZPow2.G) tab_ok mixed Go.Proofs.Tryd.func38 ⟨(fns_cons R_ZOf.ok (fns_cons R_ZMul.ok fns_nil)), mfns_nil, tab_eqs_ok⟩ (m := 2) (by kernel_rfl) ⟨⟨trivial, R_ZPow2.p0⟩, R_ZPow2.p1⟩ (by kernel_rfl) R_ZPow2.eq
def R_rto.c6 {ρ : Type} (i : Int) (a_1 : List ((List ((Bool) × (List Int))) × (Int))) (t50 : Bool) (t51 : List (Int)) (k_ : List ((List ((Bool) × (List Int))) × (Int)) → Option ρ) : Option ρ :=
  bnd (inR (List.length a_1) (0 : Int)) fun y =>
  bnd (okIf (decide ((0 : Ty.den (Ty.int IntKind.i64)) ≤ i) && decide (i < (↑(8 : Nat) : Int)))) fun y_1 =>
  bnd (idx a_1 (0 : Int)) fun y_2 =>
  bnd (idx (Prod.fst y_2) i) fun y_3 =>
  bnd (W.R_ZMul y_3 (t50, t51)) fun y_4 =>
  bnd (inR (List.length a_1) (0 : Int)) fun y_5 =>
  bnd (okIf (decide ((0 : Ty.den (Ty.int IntKind.i64)) ≤ i) && decide (i < (↑(8 : Nat) : Int)))) fun y_6 =>
  bnd (idx a_1 (0 : Int)) fun y_7 =>
  bnd (idx (Prod.fst y_7) i) fun y_8 =>
  k_ (List.set a_1 (0 : Nat) (List.set (Prod.fst y_7) (Int.toNat i) y_4, Prod.snd y_7))
def R_rto.c6s : Shape := ⟨[(0, rb32), (1, rb3), (2, rb24), (4, rb25), (5, rb18), (6, rb3)], [(2, rb34), (4, rb34), (5, rb30)]⟩
def R_rto.c6x0 : Shape := ⟨[(0, rb32), (1, rb3), (2, rb24), (4, rb25), (5, rb18), (6, rb3)], [(2, rb34), (4, rb34), (5, rb30)]⟩
def R_rto.c6r : Ck := Ck.of (T := List ((List ((Bool) × (List Int))) × (Int))) R_rto.c6s (fun ρ x_ k_ => uP x_ fun a x_ => uP x_ fun e x_ => uP x_ fun i x_ => uP x_ fun a_1 x_ => uP x_ fun t4 x_ => uP x_ fun t50 x_ => uP x_ fun t51 x_ => R_rto.c6 i a_1 t50 t51 k_) (fun ρ x_ r_ k_ => uP x_ fun a x_ => uP x_ fun e x_ => uP x_ fun i x_ => uP x_ fun a_1 x_ => uP x_ fun t4 x_ => uP x_ fun t50 x_ => uP x_ fun t51 x_ => k_ 0 (Shape.inj R_rto.c6x0 (a, e, i, r_, t4, t50, t51, ())))
def R_rto.c100004 {ρ : Type} (i : Int) (a_1 : List ((List ((Bool) × (List Int))) × (Int))) (t50 : Bool) (t51 : List (Int)) (k_ : ((Int) × (List ((List ((Bool) × (List Int))) × (Int)))) ⊕ ((Int) × (List ((List ((Bool) × (List Int))) × (Int)))) → Option ρ) : Option ρ :=
  br (decide (i < (8 : Int)))
   (bnd (W.R_rto.c6 i a_1 t50 t51 some) fun y =>
    k_ (.inl ((IntKind.wrap IntKind.i64 (i + (1 : Int))), y)))
   (k_ (.inr (i, a_1)))
def R_rto.c100004s : Shape := ⟨[(0, rb32), (1, rb3), (2, rb24), (4, rb25), (5, rb18), (6, rb3)], [(2, rb34), (4, rb34), (5, rb30)]⟩
def R_rto.c100004x0 : Shape := ⟨[(0, rb32), (1, rb3), (2, rb24), (4, rb25), (5, rb18), (6, rb3)], [(2, rb34), (4, rb34), (5, rb30)]⟩
def R_rto.c100004r : Ck := Ck.ofLoop (S := (Int) × (List ((List ((Bool) × (List Int))) × (Int)))) (T := (Int) × (List ((List ((Bool) × (List Int))) × (Int)))) R_rto.c100004s (fun x_ => uP x_ fun a x_ => uP x_ fun e x_ => uP x_ fun i x_ => uP x_ fun a_1 x_ => uP x_ fun t4 x_ => uP x_ fun t50 x_ => uP x_ fun t51 x_ => (i, a_1)) (fun ρ x_ s_ k_ => uP x_ fun a x_ => uP x_ fun e x_ => uP x_ fun i x_ => uP x_ fun a_1 x_ => uP x_ fun t4 x_ => uP x_ fun t50 x_ => uP x_ fun t51 x_ => R_rto.c100004 s_.1 s_.2 t50 t51 k_) (fun ρ x_ r_ k_ => uP x_ fun a x_ => uP x_ fun e x_ => uP x_ fun i x_ => uP x_ fun a_1 x_ => uP x_ fun t4 x_ => uP x_ fun t50 x_ => uP x_ fun t51 x_ => k_ 2 (Shape.inj R_rto.c100004x0 (a, e, r_.1, r_.2, t4, t50, t51, ())))
def R_rto.c204118 {ρ : Type} (e : Int) (a_1 : List ((List ((Bool) × (List Int))) × (Int))) (k_ : List ((List ((Bool) × (List Int))) × (Int)) → Option ρ) : Option ρ :=
  bnd (inR (List.length a_1) (0 : Int)) fun y =>
  bnd (idx a_1 (0 : Int)) fun y_1 =>
  br (decide (Prod.snd y_1 < e))
   (bnd (inR (List.length a_1) (0 : Int)) fun y_2 =>
    bnd (idx a_1 (0 : Int)) fun y_3 =>
    bnd (W.R_ZPow2 (IntKind.wrap IntKind.i64 (e - Prod.snd y_3))) fun y_4 =>
    bnd (iter (fun s ↦ W.R_rto.c100004 (Prod.fst s) (Prod.snd s) (Prod.fst y_4) (Prod.snd y_4) some) ((0 : Int), a_1)) fun y_5 =>
    bnd (inR (List.length (Prod.snd y_5)) (0 : Int)) fun y_6 =>
    bnd (idx (Prod.snd y_5) (0 : Int)) fun y_7 =>
    k_ (List.set (Prod.snd y_5) (0 : Nat) (Prod.fst y_7, e)))
   (k_ a_1)
def R_rto.c204118s : Shape := ⟨[(0, rb32), (1, rb3), (2, rb24), (4, rb25)], [(2, rb34), (4, rb34)]⟩
def R_rto.c204118x0 : Shape := ⟨[(0, rb32), (1, rb3), (2, rb24), (4, rb25)], [(2, rb34), (4, rb34)]⟩
def R_rto.c204118r : Ck := Ck.of (T := List ((List ((Bool) × (List Int))) × (Int))) R_rto.c204118s (fun ρ x_ k_ => uP x_ fun a x_ => uP x_ fun e x_ => uP x_ fun a_1 x_ => uP x_ fun t4 x_ => R_rto.c204118 e a_1 k_) (fun ρ x_ r_ k_ => uP x_ fun a x_ => uP x_ fun e x_ => uP x_ fun a_1 x_ => uP x_ fun t4 x_ => k_ 0 (Shape.inj R_rto.c204118x0 (a, e, r_, t4, ())))
def R_rto (a : (List ((Bool) × (List Int))) × (Int)) (e : Int) : Option ((List ((Bool) × (List Int))) × (Int)) :=
  bnd (W.R_rto.c204118 e [a] some) fun y =>
  bnd (idx y (0 : Int)) fun y_1 =>
  some y_1
def R_rto.ce : Go.Ql.Callee := ⟨[(.st (.pair (.ar 8 (.st (.pair .bool (.sl (.int .i64))))) (.int .i64))), (.int .i64)], [(.st (.pair (.ar 8 (.st (.pair .bool (.sl (.int .i64))))) (.int .i64)))], fun x_ => R_rto x_.1 x_.2⟩
def R_rto.G : Env := ⟨32, tab, [(38, R_ZPow2.ce), (50, R_ZMul.ce)], [0, 1, 2, 4, 5, 6, 10, 17], [2, 4], [(6, [⟨[], [], [21, 22, 23, 24, 25, 26, 27], []⟩, ⟨[], [], [20, 22, 25, 27], []⟩, ⟨[], [], [20, 21, 25, 27], []⟩, ⟨[2, 1], [], [20, 25, 27], []⟩, ⟨[3, 2, 1], [], [20, 25, 27], []⟩, ⟨[], [], [20, 21, 22, 23, 24, 27], []⟩, ⟨[4, 3, 2, 1, 5], [], [20, 27], []⟩, ⟨[], [], [20, 21, 22, 23, 24, 25, 26], []⟩, ⟨[7, 0, 1, 2, 3, 4, 5, 6], [], [], []⟩, ⟨[8, 7, 0, 1, 2, 3, 4, 5, 6], [2], [], []⟩])], [(204118, R_rto.c204118r), (100004, R_rto.c100004r), (6, R_rto.c6r)], [], tab_eqs⟩
theorem R_rto.eq (x_ : dens [(.st (.pair (.ar 8 (.st (.pair .bool (.sl (.int .i64))))) (.int .i64))), (.int .i64)]) : den R_rto.G Go.Proofs.Tryd.f47 [(.st (.pair (.ar 8 (.st (.pair .bool (.sl (.int .i64))))) (.int .i64))), (.int .i64)] [(.st (.pair (.ar 8 (.st (.pair .bool (.sl (.int .i64))))) (.int .i64)))] x_ = R_rto x_.1 x_.2 := by kernel_rfl
theorem R_rto.p0 : PieceOk R_rto.G (pieceAt (pieces R_rto.G.cks (bodyOf Go.Proofs.Tryd.f47)) 0).1 (pieceAt (pieces R_rto.G.cks (bodyOf Go.Proofs.Tryd.f47)) 0).2 :=
  join_ok (s := R_rto.c204118r) (by kernel_rfl) (by kernel_rfl) (sums_of (sh := R_rto.c204118s) (fun ρ x_ k_ => (nat_bnd fun _ => (nat_bnd fun _ => (nat_br (nat_bnd fun _ => (nat_bnd fun _ => (nat_bnd fun _ => (nat_bnd fun _ => (nat_bnd fun _ => (nat_bnd fun _ => nat_leaf)))))) nat_leaf)))) (fun ρ x_ t k => (by kernel_rfl)) (fun x_ => by kernel_rfl))
theorem R_rto.p1 : PieceOk R_rto.G (pieceAt (pieces R_rto.G.cks (bodyOf Go.Proofs.Tryd.f47)) 1).1 (pieceAt (pieces R_rto.G.cks (bodyOf Go.Proofs.Tryd.f47)) 1).2 :=
  loop_ok (s := R_rto.c100004r) (by kernel_rfl) (by kernel_rfl) (loops_of (sh := R_rto.c100004s) (I := fun x_ s_ => (x_.1, x_.2.1, s_.1, s_.2, x_.2.2.2.2.1, x_.2.2.2.2.2.1, x_.2.2.2.2.2.2.1, ())) (fun x_ => rfl) (fun ρ x_ s_ k_ => (nat_br (nat_bnd fun _ => nat_leaf) nat_leaf)) (fun ρ x_ t k => (by kernel_rfl)) (fun x_ s => by kernel_rfl))
theorem R_rto.p2 : PieceOk R_rto.G (pieceAt (pieces R_rto.G.cks (bodyOf Go.Proofs.Tryd.f47)) 2).1 (pieceAt (pieces R_rto.G.cks (bodyOf Go.Proofs.Tryd.f47)) 2).2 :=
  region_ok (s := R_rto.c6r) (by kernel_rfl) (by kernel_rfl) (sums_of (sh := R_rto.c6s) (fun ρ x_ k_ => (nat_bnd fun _ => (nat_bnd fun _ => (nat_bnd fun _ => (nat_bnd fun _ => (nat_bnd fun _ => (nat_bnd fun _ => (nat_bnd fun _ => (nat_bnd fun _ => (nat_bnd fun _ => nat_leaf)))))))))) (fun ρ x_ t k => (by kernel_rfl)) (fun x_ => by kernel_rfl))
theorem R_rto.ok : CalleeOk Go.Proofs.Tryd.prog 47 R_rto.ce := fn_ok (G := R_rto.G) tab_ok mixed Go.Proofs.Tryd.func47 ⟨(fns_cons R_ZPow2.ok (fns_cons R_ZMul.ok fns_nil)), mfns_nil, tab_eqs_ok⟩ (m := 3) (by kernel_rfl) ⟨⟨⟨trivial, R_rto.p0⟩, R_rto.p1⟩, R_rto.p2⟩ (by kernel_rfl) R_rto.eq
abbrev rb38 : SD := .one (.own 5 0)
def R_dadd.c4 {ρ : Type} (a : List (Int)) (b : List (Int)) (c : Int) (i : Int) (k_ : Bool → Option ρ) : Option ρ :=
  br (decide (i < (↑(List.length a) : Int)))
   (k_ true)
   (br (decide (i < (↑(List.length b) : Int)))
     (k_ true)
     (k_ (decide (c > (0 : Int)))))
def R_dadd.c4s : Shape := ⟨[(0, rb27), (1, rb27), (4, rb27), (5, rb38), (6, rb3), (7, rb3)], [(5, rb31)]⟩
def R_dadd.c4x0 : Shape := ⟨[(0, rb27), (1, rb27), (4, rb27), (5, rb38), (6, rb3), (7, rb3), (21, rb0)], [(5, rb31)]⟩
def R_dadd.c4r : Ck := Ck.of (T := Bool) R_dadd.c4s (fun ρ x_ k_ => uP x_ fun a x_ => uP x_ fun b x_ => uP x_ fun t4 x_ => uP x_ fun c x_ => uP x_ fun i x_ => uP x_ fun out x_ => R_dadd.c4 a b c i k_) (fun ρ x_ r_ k_ => uP x_ fun a x_ => uP x_ fun b x_ => uP x_ fun t4 x_ => uP x_ fun c x_ => uP x_ fun i x_ => uP x_ fun out x_ => k_ 0 (Shape.inj R_dadd.c4x0 (a, b, t4, c, i, r_, out, ())))
def R_dadd.c224581 {ρ : Type} (a : List (Int)) (c : Int) (i : Int) (k_ : Int → Option ρ) : Option ρ :=
  br (decide (i < (↑(List.length a) : Int)))
   (bnd (idx a i) fun y =>
    k_ (IntKind.wrap IntKind.i64 (c + y)))
   (k_ c)
def R_dadd.c224581s : Shape := ⟨[(0, rb27), (1, rb27), (4, rb27), (5, rb38), (6, rb3), (7, rb3)], [(5, rb31)]⟩
def R_dadd.c224581x0 : Shape := ⟨[(0, rb27), (1, rb27), (4, rb27), (5, rb38), (6, rb3), (7, rb3)], [(5, rb31)]⟩
def R_dadd.c224581r : Ck := Ck.of (T := Int) R_dadd.c224581s (fun ρ x_ k_ => uP x_ fun a x_ => uP x_ fun b x_ => uP x_ fun t4 x_ => uP x_ fun c x_ => uP x_ fun i x_ => uP x_ fun out x_ => R_dadd.c224581 a c i k_) (fun ρ x_ r_ k_ => uP x_ fun a x_ => uP x_ fun b x_ => uP x_ fun t4 x_ => uP x_ fun c x_ => uP x_ fun i x_ => uP x_ fun out x_ => k_ 0 (Shape.inj R_dadd.c224581x0 (a, b, t4, r_, i, out, ())))
def R_dadd.c232773 {ρ : Type} (b : List (Int)) (c : Int) (i : Int) (k_ : Int → Option ρ) : Option ρ :=
  br (decide (i < (↑(List.length b) : Int)))
   (bnd (idx b i) fun y =>
    k_ (IntKind.wrap IntKind.i64 (c + y)))
   (k_ c)
def R_dadd.c232773s : Shape := ⟨[(0, rb27), (1, rb27), (4, rb27), (5, rb38), (6, rb3), (7, rb3)], [(5, rb31)]⟩
def R_dadd.c232773x0 : Shape := ⟨[(0, rb27), (1, rb27), (4, rb27), (5, rb38), (6, rb3), (7, rb3)], [(5, rb31)]⟩
def R_dadd.c232773r : Ck := Ck.of (T := Int) R_dadd.c232773s (fun ρ x_ k_ => uP x_ fun a x_ => uP x_ fun b x_ => uP x_ fun t4 x_ => uP x_ fun c x_ => uP x_ fun i x_ => uP x_ fun out x_ => R_dadd.c232773 b c i k_) (fun ρ x_ r_ k_ => uP x_ fun a x_ => uP x_ fun b x_ => uP x_ fun t4 x_ => uP x_ fun c x_ => uP x_ fun i x_ => uP x_ fun out x_ => k_ 0 (Shape.inj R_dadd.c232773x0 (a, b, t4, r_, i, out, ())))
def R_dadd.c100004 {ρ : Type} (a : List (Int)) (b : List (Int)) (c : Int) (i : Int) (out : List (Int)) (k_ : ((Int) × (Int) × (List Int)) ⊕ ((Int) × (Int) × (List Int)) → Option ρ) : Option ρ :=
  bnd (W.R_dadd.c4 a b c i some) fun y =>
  br y
   (bnd (W.R_dadd.c224581 a c i some) fun y_1 =>
    bnd (W.R_dadd.c232773 b y_1 i some) fun y_2 =>
    bnd (okIf (decide ((List.length out + (1 : Nat)) * (8 : Nat) ≤ (140737488355328 : Nat)) && decide (List.length out + (1 : Nat) ≤ (140737488355328 : Nat)))) fun y_3 =>
    k_ (.inl ((IntKind.wrap IntKind.i64 (Int.tdiv y_2 (10000 : Int))), (IntKind.wrap IntKind.i64 (i + (1 : Int))), (out ++ [Int.tmod y_2 (10000 : Int)]))))
   (k_ (.inr (c, i, out)))
def R_dadd.c100004s : Shape := ⟨[(0, rb27), (1, rb27), (4, rb27), (5, rb38), (6, rb3), (7, rb3)], [(5, rb31)]⟩
def R_dadd.c100004x0 : Shape := ⟨[(0, rb27), (1, rb27), (4, rb27), (5, rb38), (6, rb3), (7, rb3)], [(5, rb31)]⟩
def R_dadd.c100004r : Ck := Ck.ofLoop (S := (Int) × (Int) × (List Int)) (T := (Int) × (Int) × (List Int)) R_dadd.c100004s (fun x_ => uP x_ fun a x_ => uP x_ fun b x_ => uP x_ fun t4 x_ => uP x_ fun c x_ => uP x_ fun i x_ => uP x_ fun out x_ => (c, i, out)) (fun ρ x_ s_ k_ => uP x_ fun a x_ => uP x_ fun b x_ => uP x_ fun t4 x_ => uP x_ fun c x_ => uP x_ fun i x_ => uP x_ fun out x_ => R_dadd.c100004 a b s_.1 s_.2.1 s_.2.2 k_) (fun ρ x_ r_ k_ => uP x_ fun a x_ => uP x_ fun b x_ => uP x_ fun t4 x_ => uP x_ fun c x_ => uP x_ fun i x_ => uP x_ fun out x_ => k_ 2 (Shape.inj R_dadd.c100004x0 (a, b, t4, r_.1, r_.2.1, r_.2.2, ())))
def R_dadd (a : List (Int)) (b : List (Int)) : Option (List Int) :=
  bnd (iter (fun s ↦ W.R_dadd.c100004 a b (Prod.fst s) (Prod.fst (Prod.snd s)) (Prod.snd (Prod.snd s)) some) ((0 : Int), (0 : Int), [])) fun y =>
  some (Prod.snd (Prod.snd y))
def R_dadd.ce : Go.Ql.Callee := ⟨[(.sl (.int .i64)), (.sl (.int .i64))], [(.sl (.int .i64))], fun x_ => R_dadd x_.1 x_.2⟩
def R_dadd.G : Env := ⟨52, tab, [], [0, 1, 4, 5, 6, 7, 21, 27, 37], [5], [], [(100004, R_dadd.c100004r), (232773, R_dadd.c232773r), (224581, R_dadd.c224581r), (4, R_dadd.c4r)], [], tab_eqs⟩
theorem R_dadd.eq (x_ : dens [(.sl (.int .i64)), (.sl (.int .i64))]) : den R_dadd.G Go.Proofs.Tryd.f74 [(.sl (.int .i64)), (.sl (.int .i64))] [(.sl (.int .i64))] x_ = R_dadd x_.1 x_.2 := by kernel_rfl
theorem R_dadd.p0 : PieceOk R_dadd.G (pieceAt (pieces R_dadd.G.cks (bodyOf Go.Proofs.Tryd.f74)) 0).1 (pieceAt (pieces R_dadd.G.cks (bodyOf Go.Proofs.Tryd.f74)) 0).2 :=
  loop_ok (s := R_dadd.c100004r) (by kernel_rfl) (by kernel_rfl) (loops_of (sh := R_dadd.c100004s) (I := fun x_ s_ => (x_.1, x_.2.1, x_.2.2.1, s_.1, s_.2.1, s_.2.2, ())) (fun x_ => rfl) (fun ρ x_ s_ k_ => (nat_bnd fun _ => (nat_br (nat_bnd fun _ => (nat_bnd fun _ => (nat_bnd fun _ => nat_leaf))) nat_leaf))) (fun ρ x_ t k => (by kernel_rfl)) (fun x_ s => by kernel_rfl))
theorem R_dadd.p1 : PieceOk R_dadd.G (pieceAt (pieces R_dadd.G.cks (bodyOf Go.Proofs.Tryd.f74)) 1).1 (pieceAt (pieces R_dadd.G.cks (bodyOf Go.Proofs.Tryd.f74)) 1).2 :=
  region_ok (s := R_dadd.c4r) (by kernel_rfl) (by kernel_rfl) (sums_of (sh := R_dadd.c4s) (fun ρ x_ k_ => (nat_br nat_leaf (nat_br nat_leaf nat_leaf))) (fun ρ x_ t k => (by kernel_rfl)) (fun x_ => by kernel_rfl))
theorem R_dadd.p2 : PieceOk R_dadd.G (pieceAt (pieces R_dadd.G.cks (bodyOf Go.Proofs.Tryd.f74)) 2).1 (pieceAt (pieces R_dadd.G.cks (bodyOf Go.Proofs.Tryd.f74)) 2).2 :=
  join_ok (s := R_dadd.c224581r) (by kernel_rfl) (by kernel_rfl) (sums_of (sh := R_dadd.c224581s) (fun ρ x_ k_ => (nat_br (nat_bnd fun _ => nat_leaf) nat_leaf)) (fun ρ x_ t k => (by kernel_rfl)) (fun x_ => by kernel_rfl))
theorem R_dadd.p3 : PieceOk R_dadd.G (pieceAt (pieces R_dadd.G.cks (bodyOf Go.Proofs.Tryd.f74)) 3).1 (pieceAt (pieces R_dadd.G.cks (bodyOf Go.Proofs.Tryd.f74)) 3).2 :=
  join_ok (s := R_dadd.c232773r) (by kernel_rfl) (by kernel_rfl) (sums_of (sh := R_dadd.c232773s) (fun ρ x_ k_ => (nat_br (nat_bnd fun _ => nat_leaf) nat_leaf)) (fun ρ x_ t k => (by kernel_rfl)) (fun x_ => by kernel_rfl))
theorem R_dadd.ok : CalleeOk Go.Proofs.Tryd.prog 74 R_dadd.ce := fn_ok (G := R_dadd.G) tab_ok mixed Go.Proofs.Tryd.func74 ⟨fns_nil, mfns_nil, tab_eqs_ok⟩ (m := 4) (by kernel_rfl) ⟨⟨⟨⟨trivial, R_dadd.p0⟩, R_dadd.p1⟩, R_dadd.p2⟩, R_dadd.p3⟩ (by kernel_rfl) R_dadd.eq
def R_dcmp.c8 {ρ : Type} (a : List (Int)) (b : List (Int)) (i : Int) (k_ : Bool → Option ρ) : Option ρ :=
  bnd (idx a i) fun y =>
  bnd (idx b i) fun y_1 =>
  k_ (decide (y < y_1))
def R_dcmp.c8s : Shape := ⟨[(0, rb27), (1, rb27), (4, rb3), (5, rb3)], []⟩
def R_dcmp.c8x0 : Shape := ⟨[(0, rb27), (1, rb27), (4, rb3), (5, rb3), (31, rb0)], []⟩
def R_dcmp.c8r : Ck := Ck.of (T := Bool) R_dcmp.c8s (fun ρ x_ k_ => uP x_ fun a x_ => uP x_ fun b x_ => uP x_ fun t4 x_ => uP x_ fun i x_ => R_dcmp.c8 a b i k_) (fun ρ x_ r_ k_ => uP x_ fun a x_ => uP x_ fun b x_ => uP x_ fun t4 x_ => uP x_ fun i x_ => k_ 0 (Shape.inj R_dcmp.c8x0 (a, b, t4, i, r_, ())))
def R_dcmp.c10 {ρ : Type} (a : List (Int)) (b : List (Int)) (i : Int) (k_ : Bool → Option ρ) : Option ρ :=
  bnd (idx a i) fun y =>
  bnd (idx b i) fun y_1 =>
  k_ (decide (y > y_1))
def R_dcmp.c10s : Shape := ⟨[(0, rb27), (1, rb27), (4, rb3), (5, rb3)], []⟩
def R_dcmp.c10x0 : Shape := ⟨[(0, rb27), (1, rb27), (4, rb3), (5, rb3), (40, rb0)], []⟩
def R_dcmp.c10r : Ck := Ck.of (T := Bool) R_dcmp.c10s (fun ρ x_ k_ => uP x_ fun a x_ => uP x_ fun b x_ => uP x_ fun t4 x_ => uP x_ fun i x_ => R_dcmp.c10 a b i k_) (fun ρ x_ r_ k_ => uP x_ fun a x_ => uP x_ fun b x_ => uP x_ fun t4 x_ => uP x_ fun i x_ => k_ 0 (Shape.inj R_dcmp.c10x0 (a, b, t4, i, r_, ())))
def R_dcmp.c100006 {ρ : Type} (a : List (Int)) (b : List (Int)) (i : Int) (k_ : (Int) ⊕ (((Int) × (Int)) ⊕ (Int)) → Option ρ) : Option ρ :=
  br (decide (i ≥ (0 : Int)))
   (bnd (W.R_dcmp.c8 a b i some) fun y =>
    br y
     (k_ (.inr (.inl ((-1 : Int), i))))
     (bnd (W.R_dcmp.c10 a b i some) fun y_1 =>
      br y_1
       (k_ (.inr (.inl ((1 : Int), i))))
       (k_ (.inl (IntKind.wrap IntKind.i64 (i - (1 : Int)))))))
   (k_ (.inr (.inr i)))
def R_dcmp.c100006s : Shape := ⟨[(0, rb27), (1, rb27), (4, rb3), (5, rb3)], []⟩
def R_dcmp.c100006x0 : Shape := ⟨[(0, rb27), (1, rb27), (4, rb3), (5, rb3)], []⟩
def R_dcmp.c100006x1 : Shape := ⟨[(0, rb27), (1, rb27), (4, rb3), (5, rb3)], []⟩
def R_dcmp.c100006r : Ck := Ck.ofLoop (S := Int) (T := ((Int) × (Int)) ⊕ (Int)) R_dcmp.c100006s (fun x_ => uP x_ fun a x_ => uP x_ fun b x_ => uP x_ fun t4 x_ => uP x_ fun i x_ => i) (fun ρ x_ s_ k_ => uP x_ fun a x_ => uP x_ fun b x_ => uP x_ fun t4 x_ => uP x_ fun i x_ => R_dcmp.c100006 a b s_ k_) (fun ρ x_ r_ k_ => uP x_ fun a x_ => uP x_ fun b x_ => uP x_ fun t4 x_ => uP x_ fun i x_ => sel r_ (fun r_ => k_ 1 (Shape.inj R_dcmp.c100006x0 (a, b, r_.1, r_.2, ()))) (fun r_ => k_ 2 (Shape.inj R_dcmp.c100006x1 (a, b, t4, r_, ()))))
def R_dcmp (a : List (Int)) (b : List (Int)) : Option (Int) :=
  br ((↑(List.length a) : Int) != (↑(List.length b) : Int))
   (br (decide ((↑(List.length a) : Int) < (↑(List.length b) : Int)))
     (some (-1 : Int))
     (some (1 : Int)))
   (bnd (iter (fun s ↦ W.R_dcmp.c100006 a b s some) (IntKind.wrap IntKind.i64 ((↑(List.length a) : Int) - (1 : Int)))) fun y =>
    sel y
     (fun u => some (Prod.fst u))
     (fun v => some (0 : Int)))
def R_dcmp.ce : Go.Ql.Callee := ⟨[(.sl (.int .i64)), (.sl (.int .i64))], [(.int .i64)], fun x_ => R_dcmp x_.1 x_.2⟩
def R_dcmp.G : Env := ⟨41, tab, [], [0, 1, 4, 5, 10, 15, 20, 31, 40], [], [(10, [⟨[], [], [33, 36, 37, 38, 39], []⟩, ⟨[], [], [32, 36, 37, 38, 39], []⟩, ⟨[0, 1], [], [36, 37, 38, 39], []⟩, ⟨[2, 0, 1], [], [36, 37, 38, 39], []⟩, ⟨[], [], [32, 33, 34, 35, 37], []⟩, ⟨[], [], [32, 33, 34, 35, 36], []⟩, ⟨[4, 5], [], [32, 33, 34, 35], []⟩, ⟨[6, 4, 5], [], [32, 33, 34, 35], []⟩, ⟨[3, 2, 0, 1, 7, 6, 4, 5], [], [], []⟩]),
  (8, [⟨[], [], [24, 27, 28, 29, 30], []⟩, ⟨[], [], [23, 27, 28, 29, 30], []⟩, ⟨[0, 1], [], [27, 28, 29, 30], []⟩, ⟨[2, 0, 1], [], [27, 28, 29, 30], []⟩, ⟨[], [], [23, 24, 25, 26, 28], []⟩, ⟨[], [], [23, 24, 25, 26, 27], []⟩, ⟨[4, 5], [], [23, 24, 25, 26], []⟩, ⟨[6, 4, 5], [], [23, 24, 25, 26], []⟩, ⟨[3, 2, 0, 1, 7, 6, 4, 5], [], [], []⟩])], [(100006, R_dcmp.c100006r), (10, R_dcmp.c10r), (8, R_dcmp.c8r)], [], tab_eqs⟩
theorem R_dcmp.eq (x_ : dens [(.sl (.int .i64)), (.sl (.int .i64))]) : den R_dcmp.G Go.Proofs.Tryd.f75 [(.sl (.int .i64)), (.sl (.int .i64))] [(.int .i64)] x_ = R_dcmp x_.1 x_.2 := by kernel_rfl
theorem R_dcmp.p0 : PieceOk R_dcmp.G (pieceAt (pieces R_dcmp.G.cks (bodyOf Go.Proofs.Tryd.f75)) 0).1 (pieceAt (pieces R_dcmp.G.cks (bodyOf Go.Proofs.Tryd.f75)) 0).2 :=
  loop_ok (s := R_dcmp.c100006r) (by kernel_rfl) (by kernel_rfl) (loops_of (sh := R_dcmp.c100006s) (I := fun x_ s_ => (x_.1, x_.2.1, x_.2.2.1, s_, ())) (fun x_ => rfl) (fun ρ x_ s_ k_ => (nat_br (nat_bnd fun _ => (nat_br nat_leaf (nat_bnd fun _ => (nat_br nat_leaf nat_leaf)))) nat_leaf)) (fun ρ x_ t k => (nat_sel (fun _ => (by kernel_rfl)) (fun _ => (by kernel_rfl)))) (fun x_ s => by kernel_rfl))
theorem R_dcmp.p1 : PieceOk R_dcmp.G (pieceAt (pieces R_dcmp.G.cks (bodyOf Go.Proofs.Tryd.f75)) 1).1 (pieceAt (pieces R_dcmp.G.cks (bodyOf Go.Proofs.Tryd.f75)) 1).2 :=
  region_ok (s := R_dcmp.c8r) (by kernel_rfl) (by kernel_rfl) (sums_of (sh := R_dcmp.c8s) (fun ρ x_ k_ => (nat_bnd fun _ => (nat_bnd fun _ => nat_leaf))) (fun ρ x_ t k => (by kernel_rfl)) (fun x_ => by kernel_rfl))
theorem R_dcmp.p2 : PieceOk R_dcmp.G (pieceAt (pieces R_dcmp.G.cks (bodyOf Go.Proofs.Tryd.f75)) 2).1 (pieceAt (pieces R_dcmp.G.cks (bodyOf Go.Proofs.Tryd.f75)) 2).2 :=
  region_ok (s := R_dcmp.c10r) (by kernel_rfl) (by kernel_rfl) (sums_of (sh := R_dcmp.c10s) (fun ρ x_ k_ => (nat_bnd fun _ => (nat_bnd fun _ => nat_leaf))) (fun ρ x_ t k => (by kernel_rfl)) (fun x_ => by kernel_rfl))
theorem R_dcmp.ok : CalleeOk Go.Proofs.Tryd.prog 75 R_dcmp.ce := fn_ok (G := R_dcmp.G) tab_ok mixed Go.Proofs.Tryd.func75 ⟨fns_nil, mfns_nil, tab_eqs_ok⟩ (m := 3) (by kernel_rfl) ⟨⟨⟨trivial, R_dcmp.p0⟩, R_dcmp.p1⟩, R_dcmp.p2⟩ (by kernel_rfl) R_dcmp.eq
def R_dsub.c228677 {ρ : Type} (b : List (Int)) (i : Int) (x : Int) (k_ : Int → Option ρ) : Option ρ :=
  br (decide (i < (↑(List.length b) : Int)))
   (bnd (idx b i) fun y =>
    k_ (IntKind.wrap IntKind.i64 (x - y)))
   (k_ x)
def R_dsub.c228677s : Shape := ⟨[(0, rb27), (1, rb27), (4, rb27), (5, rb38), (6, rb3), (7, rb3), (8, rb3)], [(5, rb31)]⟩
def R_dsub.c228677x0 : Shape := ⟨[(0, rb27), (1, rb27), (4, rb27), (5, rb38), (6, rb3), (7, rb3), (8, rb3)], [(5, rb31)]⟩
def R_dsub.c228677r : Ck := Ck.of (T := Int) R_dsub.c228677s (fun ρ x_ k_ => uP x_ fun a x_ => uP x_ fun b x_ => uP x_ fun t4 x_ => uP x_ fun c x_ => uP x_ fun i x_ => uP x_ fun x x_ => uP x_ fun out x_ => R_dsub.c228677 b i x k_) (fun ρ x_ r_ k_ => uP x_ fun a x_ => uP x_ fun b x_ => uP x_ fun t4 x_ => uP x_ fun c x_ => uP x_ fun i x_ => uP x_ fun x x_ => uP x_ fun out x_ => k_ 0 (Shape.inj R_dsub.c228677x0 (a, b, t4, c, i, r_, out, ())))
def R_dsub.c240967 {ρ : Type} (c : Int) (x : Int) (k_ : (Int) × (Int) → Option ρ) : Option ρ :=
  br (decide (x < (0 : Int)))
   (k_ ((1 : Int), (IntKind.wrap IntKind.i64 (x + (10000 : Int)))))
   (k_ (c, x))
def R_dsub.c240967s : Shape := ⟨[(0, rb27), (1, rb27), (4, rb27), (5, rb38), (6, rb3), (7, rb3), (8, rb3)], [(5, rb31)]⟩
def R_dsub.c240967x0 : Shape := ⟨[(0, rb27), (1, rb27), (4, rb27), (5, rb38), (6, rb3), (7, rb3), (8, rb3)], [(5, rb31)]⟩
def R_dsub.c240967r : Ck := Ck.of (T := (Int) × (Int)) R_dsub.c240967s (fun ρ x_ k_ => uP x_ fun a x_ => uP x_ fun b x_ => uP x_ fun t4 x_ => uP x_ fun c x_ => uP x_ fun i x_ => uP x_ fun x x_ => uP x_ fun out x_ => R_dsub.c240967 c x k_) (fun ρ x_ r_ k_ => uP x_ fun a x_ => uP x_ fun b x_ => uP x_ fun t4 x_ => uP x_ fun c x_ => uP x_ fun i x_ => uP x_ fun x x_ => uP x_ fun out x_ => k_ 0 (Shape.inj R_dsub.c240967x0 (a, b, t4, r_.1, i, r_.2, out, ())))
def R_dsub.c100004 {ρ : Type} (a : List (Int)) (b : List (Int)) (c : Int) (i : Int) (out : List (Int)) (k_ : ((Int) × (Int) × (List Int)) ⊕ ((Int) × (Int) × (List Int)) → Option ρ) : Option ρ :=
  br (decide (i < (↑(List.length a) : Int)))
   (bnd (idx a i) fun y =>
    bnd (W.R_dsub.c228677 b i (IntKind.wrap IntKind.i64 (y - c)) some) fun y_1 =>
    bnd (W.R_dsub.c240967 (0 : Int) y_1 some) fun y_2 =>
    bnd (okIf (decide ((List.length out + (1 : Nat)) * (8 : Nat) ≤ (140737488355328 : Nat)) && decide (List.length out + (1 : Nat) ≤ (140737488355328 : Nat)))) fun y_3 =>
    k_ (.inl ((Prod.fst y_2), (IntKind.wrap IntKind.i64 (i + (1 : Int))), (out ++ [Prod.snd y_2]))))
   (k_ (.inr (c, i, out)))
def R_dsub.c100004s : Shape := ⟨[(0, rb27), (1, rb27), (4, rb27), (5, rb38), (6, rb3), (7, rb3)], [(5, rb31)]⟩
def R_dsub.c100004x0 : Shape := ⟨[(0, rb27), (1, rb27), (4, rb27), (5, rb38), (6, rb3), (7, rb3)], [(5, rb31)]⟩
def R_dsub.c100004r : Ck := Ck.ofLoop (S := (Int) × (Int) × (List Int)) (T := (Int) × (Int) × (List Int)) R_dsub.c100004s (fun x_ => uP x_ fun a x_ => uP x_ fun b x_ => uP x_ fun t4 x_ => uP x_ fun c x_ => uP x_ fun i x_ => uP x_ fun out x_ => (c, i, out)) (fun ρ x_ s_ k_ => uP x_ fun a x_ => uP x_ fun b x_ => uP x_ fun t4 x_ => uP x_ fun c x_ => uP x_ fun i x_ => uP x_ fun out x_ => R_dsub.c100004 a b s_.1 s_.2.1 s_.2.2 k_) (fun ρ x_ r_ k_ => uP x_ fun a x_ => uP x_ fun b x_ => uP x_ fun t4 x_ => uP x_ fun c x_ => uP x_ fun i x_ => uP x_ fun out x_ => k_ 2 (Shape.inj R_dsub.c100004x0 (a, b, t4, r_.1, r_.2.1, r_.2.2, ())))
def R_dsub (a : List (Int)) (b : List (Int)) : Option (List Int) :=
  bnd (iter (fun s ↦ W.R_dsub.c100004 a b (Prod.fst s) (Prod.fst (Prod.snd s)) (Prod.snd (Prod.snd s)) some) ((0 : Int), (0 : Int), [])) fun y =>
  some (Prod.snd (Prod.snd y))
def R_dsub.ce : Go.Ql.Callee := ⟨[(.sl (.int .i64)), (.sl (.int .i64))], [(.sl (.int .i64))], fun x_ => R_dsub x_.1 x_.2⟩
def R_dsub.G : Env := ⟨40, tab, [], [0, 1, 4, 5, 6, 7, 8, 12, 24, 32], [5], [], [(100004, R_dsub.c100004r), (240967, R_dsub.c240967r), (228677, R_dsub.c228677r)], [], tab_eqs⟩
theorem R_dsub.eq (x_ : dens [(.sl (.int .i64)), (.sl (.int .i64))]) : den R_dsub.G Go.Proofs.Tryd.f76 [(.sl (.int .i64)), (.sl (.int .i64))] [(.sl (.int .i64))] x_ = R_dsub x_.1 x_.2 := by kernel_rfl
theorem R_dsub.p0 : PieceOk R_dsub.G (pieceAt (pieces R_dsub.G.cks (bodyOf Go.Proofs.Tryd.f76)) 0).1 (pieceAt (pieces R_dsub.G.cks (bodyOf Go.Proofs.Tryd.f76)) 0).2 :=
  loop_ok (s := R_dsub.c100004r) (by kernel_rfl) (by kernel_rfl) (loops_of (sh := R_dsub.c100004s) (I := fun x_ s_ => (x_.1, x_.2.1, x_.2.2.1, s_.1, s_.2.1, s_.2.2, ())) (fun x_ => rfl) (fun ρ x_ s_ k_ => (nat_br (nat_bnd fun _ => (nat_bnd fun _ => (nat_bnd fun _ => (nat_bnd fun _ => nat_leaf)))) nat_leaf)) (fun ρ x_ t k => (by kernel_rfl)) (fun x_ s => by kernel_rfl))
theorem R_dsub.p1 : PieceOk R_dsub.G (pieceAt (pieces R_dsub.G.cks (bodyOf Go.Proofs.Tryd.f76)) 1).1 (pieceAt (pieces R_dsub.G.cks (bodyOf Go.Proofs.Tryd.f76)) 1).2 :=
  join_ok (s := R_dsub.c228677r) (by kernel_rfl) (by kernel_rfl) (sums_of (sh := R_dsub.c228677s) (fun ρ x_ k_ => (nat_br (nat_bnd fun _ => nat_leaf) nat_leaf)) (fun ρ x_ t k => (by kernel_rfl)) (fun x_ => by kernel_rfl))
theorem R_dsub.p2 : PieceOk R_dsub.G (pieceAt (pieces R_dsub.G.cks (bodyOf Go.Proofs.Tryd.f76)) 2).1 (pieceAt (pieces R_dsub.G.cks (bodyOf Go.Proofs.Tryd.f76)) 2).2 :=
  join_ok (s := R_dsub.c240967r) (by kernel_rfl) (by kernel_rfl) (sums_of (sh := R_dsub.c240967s) (fun ρ x_ k_ => (nat_br nat_leaf nat_leaf)) (fun ρ x_ t k => (by kernel_rfl)) (fun x_ => by kernel_rfl))
theorem R_dsub.ok : CalleeOk Go.Proofs.Tryd.prog 76 R_dsub.ce := fn_ok (G := R_dsub.G) tab_ok mixed Go.Proofs.Tryd.func76 ⟨fns_nil, mfns_nil, tab_eqs_ok⟩ (m := 3) (by kernel_rfl) ⟨⟨⟨trivial, R_dsub.p0⟩, R_dsub.p1⟩, R_dsub.p2⟩ (by kernel_rfl) R_dsub.eq
def R_ZAdd.c6 {ρ : Type} (a0 : Bool) (a1 : List (Int)) (b1 : List (Int)) (k_ : (Bool) × (List Int) → Option ρ) : Option ρ :=
  bnd (W.R_dadd a1 b1) fun y =>
  bnd (W.R_zmade a0 y) fun y_1 =>
  k_ ((Prod.fst y_1), (Prod.snd y_1))
def R_ZAdd.c6s : Shape := ⟨[(0, rb36), (1, rb36), (2, rb5), (3, rb12), (4, rb2)], [(2, rb30), (3, rb30), (4, rb30)]⟩
def R_ZAdd.c6x0 : Shape := ⟨[(0, rb36), (1, rb36), (2, rb5), (3, rb12), (4, rb2)], [(2, rb30), (3, rb30), (4, rb30)]⟩
def R_ZAdd.c6r : Ck := Ck.of (T := (Bool) × (List Int)) R_ZAdd.c6s (fun ρ x_ k_ => uP x_ fun a x_ => uP x_ fun b x_ => uP x_ fun a0 x_ => uP x_ fun a1 x_ => uP x_ fun b0 x_ => uP x_ fun b1 x_ => uP x_ fun t40 x_ => uP x_ fun t41 x_ => R_ZAdd.c6 a0 a1 b1 k_) (fun ρ x_ r_ k_ => uP x_ fun a x_ => uP x_ fun b x_ => uP x_ fun a0 x_ => uP x_ fun a1 x_ => uP x_ fun b0 x_ => uP x_ fun b1 x_ => uP x_ fun t40 x_ => uP x_ fun t41 x_ => k_ 0 (Shape.inj R_ZAdd.c6x0 (a, b, a0, a1, b0, b1, r_.1, r_.2, ())))
def R_ZAdd.c8 {ρ : Type} (a0 : Bool) (a1 : List (Int)) (b1 : List (Int)) (k_ : (Bool) × (List Int) → Option ρ) : Option ρ :=
  bnd (W.R_dsub a1 b1) fun y =>
  bnd (W.R_zmade a0 y) fun y_1 =>
  k_ ((Prod.fst y_1), (Prod.snd y_1))
def R_ZAdd.c8s : Shape := ⟨[(0, rb36), (1, rb36), (2, rb5), (3, rb12), (4, rb2)], [(2, rb30), (3, rb30), (4, rb30)]⟩
def R_ZAdd.c8x0 : Shape := ⟨[(0, rb36), (1, rb36), (2, rb5), (3, rb12), (4, rb2)], [(2, rb30), (3, rb30), (4, rb30)]⟩
def R_ZAdd.c8r : Ck := Ck.of (T := (Bool) × (List Int)) R_ZAdd.c8s (fun ρ x_ k_ => uP x_ fun a x_ => uP x_ fun b x_ => uP x_ fun a0 x_ => uP x_ fun a1 x_ => uP x_ fun b0 x_ => uP x_ fun b1 x_ => uP x_ fun t40 x_ => uP x_ fun t41 x_ => R_ZAdd.c8 a0 a1 b1 k_) (fun ρ x_ r_ k_ => uP x_ fun a x_ => uP x_ fun b x_ => uP x_ fun a0 x_ => uP x_ fun a1 x_ => uP x_ fun b0 x_ => uP x_ fun b1 x_ => uP x_ fun t40 x_ => uP x_ fun t41 x_ => k_ 0 (Shape.inj R_ZAdd.c8x0 (a, b, a0, a1, b0, b1, r_.1, r_.2, ())))
def R_ZAdd.c9 {ρ : Type} (a1 : List (Int)) (b0 : Bool) (b1 : List (Int)) (k_ : (Bool) × (List Int) → Option ρ) : Option ρ :=
  bnd (W.R_dsub b1 a1) fun y =>
  bnd (W.R_zmade b0 y) fun y_1 =>
  k_ ((Prod.fst y_1), (Prod.snd y_1))
def R_ZAdd.c9s : Shape := ⟨[(0, rb36), (1, rb36), (2, rb5), (3, rb12), (4, rb2)], [(2, rb30), (3, rb30), (4, rb30)]⟩
def R_ZAdd.c9x0 : Shape := ⟨[(0, rb36), (1, rb36), (2, rb5), (3, rb12), (4, rb2)], [(2, rb30), (3, rb30), (4, rb30)]⟩
def R_ZAdd.c9r : Ck := Ck.of (T := (Bool) × (List Int)) R_ZAdd.c9s (fun ρ x_ k_ => uP x_ fun a x_ => uP x_ fun b x_ => uP x_ fun a0 x_ => uP x_ fun a1 x_ => uP x_ fun b0 x_ => uP x_ fun b1 x_ => uP x_ fun t40 x_ => uP x_ fun t41 x_ => R_ZAdd.c9 a1 b0 b1 k_) (fun ρ x_ r_ k_ => uP x_ fun a x_ => uP x_ fun b x_ => uP x_ fun a0 x_ => uP x_ fun a1 x_ => uP x_ fun b0 x_ => uP x_ fun b1 x_ => uP x_ fun t40 x_ => uP x_ fun t41 x_ => k_ 0 (Shape.inj R_ZAdd.c9x0 (a, b, a0, a1, b0, b1, r_.1, r_.2, ())))
def R_ZAdd (a : (Bool) × (List Int)) (b : (Bool) × (List Int)) : Option ((Bool) × (List Int)) :=
  br ((↑(List.length (Prod.snd a)) : Int) == (0 : Int))
   (some (Prod.fst b, Prod.snd b))
   (br ((↑(List.length (Prod.snd b)) : Int) == (0 : Int))
     (some (Prod.fst a, Prod.snd a))
     (br (Prod.fst a == Prod.fst b)
       (bnd (W.R_ZAdd.c6 (Prod.fst a) (Prod.snd a) (Prod.snd b) some) fun y =>
        some (Prod.fst y, Prod.snd y))
       (bnd (W.R_dcmp (Prod.snd a) (Prod.snd b)) fun y_1 =>
        br (decide (y_1 ≥ (0 : Int)))
         (bnd (W.R_ZAdd.c8 (Prod.fst a) (Prod.snd a) (Prod.snd b) some) fun y_2 =>
          some (Prod.fst y_2, Prod.snd y_2))
         (bnd (W.R_ZAdd.c9 (Prod.snd a) (Prod.fst b) (Prod.snd b) some) fun y_3 =>
          some (Prod.fst y_3, Prod.snd y_3)))))
def R_ZAdd.ce : Go.Ql.Callee := ⟨[(.st (.pair .bool (.sl (.int .i64)))), (.st (.pair .bool (.sl (.int .i64))))], [(.st (.pair .bool (.sl (.int .i64))))], fun x_ => R_ZAdd x_.1 x_.2⟩
def R_ZAdd.G : Env := ⟨50, tab, [(74, R_dadd.ce), (55, R_zmade.ce), (75, R_dcmp.ce), (76, R_dsub.ce)], [0, 1, 2, 3, 4, 8, 13, 19, 33], [], [(9, [⟨[], [], [44, 45, 46, 47, 48], []⟩, ⟨[0], [], [44, 45, 46, 47, 48], []⟩, ⟨[], [], [42, 43, 46, 47], []⟩, ⟨[2], [], [42, 43, 46, 47], []⟩, ⟨[], [], [42, 43, 44, 45], []⟩, ⟨[4], [], [42, 43, 44, 45], []⟩, ⟨[3, 2, 5, 4], [], [42, 43], []⟩, ⟨[1, 0, 6, 3, 2, 5, 4], [], [], []⟩, ⟨[7, 1, 0, 6, 3, 2, 5, 4], [4], [], []⟩]),
  (8, [⟨[], [], [36, 37, 38, 39, 40], []⟩, ⟨[0], [], [36, 37, 38, 39, 40], []⟩, ⟨[], [], [34, 35, 38, 39], []⟩, ⟨[2], [], [34, 35, 38, 39], []⟩, ⟨[], [], [34, 35, 36, 37], []⟩, ⟨[4], [], [34, 35, 36, 37], []⟩, ⟨[3, 2, 5, 4], [], [34, 35], []⟩, ⟨[1, 0, 6, 3, 2, 5, 4], [], [], []⟩, ⟨[7, 1, 0, 6, 3, 2, 5, 4], [4], [], []⟩]),
  (6, [⟨[], [], [22, 23, 24, 25, 26], []⟩, ⟨[0], [], [22, 23, 24, 25, 26], []⟩, ⟨[], [], [20, 21, 24, 25], []⟩, ⟨[2], [], [20, 21, 24, 25], []⟩, ⟨[], [], [20, 21, 22, 23], []⟩, ⟨[4], [], [20, 21, 22, 23], []⟩, ⟨[3, 2, 5, 4], [], [20, 21], []⟩, ⟨[1, 0, 6, 3, 2, 5, 4], [], [], []⟩, ⟨[7, 1, 0, 6, 3, 2, 5, 4], [4], [], []⟩])], [(9, R_ZAdd.c9r), (8, R_ZAdd.c8r), (6, R_ZAdd.c6r)], [], tab_eqs⟩
theorem R_ZAdd.eq (x_ : dens [(.st (.pair .bool (.sl (.int .i64)))), (.st (.pair .bool (.sl (.int .i64))))]) : den R_ZAdd.G Go.Proofs.Tryd.f48 [(.st (.pair .bool (.sl (.int .i64)))), (.st (.pair .bool (.sl (.int .i64))))] [(.st (.pair .bool (.sl (.int .i64))))] x_ = R_ZAdd x_.1 x_.2 := by kernel_rfl
theorem R_ZAdd.p0 : PieceOk R_ZAdd.G (pieceAt (pieces R_ZAdd.G.cks (bodyOf Go.Proofs.Tryd.f48)) 0).1 (pieceAt (pieces R_ZAdd.G.cks (bodyOf Go.Proofs.Tryd.f48)) 0).2 :=
  region_ok (s := R_ZAdd.c6r) (by kernel_rfl) (by kernel_rfl) (sums_of (sh := R_ZAdd.c6s) (fun ρ x_ k_ => (nat_bnd fun _ => (nat_bnd fun _ => nat_leaf))) (fun ρ x_ t k => (by kernel_rfl)) (fun x_ => by kernel_rfl))
theorem R_ZAdd.p1 : PieceOk R_ZAdd.G (pieceAt (pieces R_ZAdd.G.cks (bodyOf Go.Proofs.Tryd.f48)) 1).1 (pieceAt (pieces R_ZAdd.G.cks (bodyOf Go.Proofs.Tryd.f48)) 1).2 :=
  region_ok (s := R_ZAdd.c8r) (by kernel_rfl) (by kernel_rfl) (sums_of (sh := R_ZAdd.c8s) (fun ρ x_ k_ => (nat_bnd fun _ => (nat_bnd fun _ => nat_leaf))) (fun ρ x_ t k => (by kernel_rfl)) (fun x_ => by kernel_rfl))
theorem R_ZAdd.p2 : PieceOk R_ZAdd.G (pieceAt (pieces R_ZAdd.G.cks (bodyOf Go.Proofs.Tryd.f48)) 2).1 (pieceAt (pieces R_ZAdd.G.cks (bodyOf Go.Proofs.Tryd.f48)) 2).2 :=
  region_ok (s := R_ZAdd.c9r) (by kernel_rfl) (by kernel_rfl) (sums_of (sh := R_ZAdd.c9s) (fun ρ x_ k_ => (nat_bnd fun _ => (nat_bnd fun _ => nat_leaf))) (fun ρ x_ t k => (by kernel_rfl)) (fun x_ => by kernel_rfl))
theorem R_ZAdd.ok : CalleeOk Go.Proofs.Tryd.prog 48 R_ZAdd.ce := fn_ok (G := R_ZAdd.G) tab_ok mixed Go.Proofs.Tryd.func48 ⟨(fns_cons R_dadd.ok (fns_cons R_zmade.ok (fns_cons R_dcmp.ok (fns_cons R_dsub.ok fns_nil)))), mfns_nil, tab_eqs_ok⟩ (m := 3) (by kernel_rfl) ⟨⟨⟨trivial, R_ZAdd.p0⟩, R_ZAdd.p1⟩, R_ZAdd.p2⟩ (by kernel_rfl) R_ZAdd.eq
def R_zodd.c1 {ρ : Type} (a1 : List (Int)) (k_ : Bool → Option ρ) : Option ρ :=
  br (decide ((↑(List.length a1) : Int) > (0 : Int)))
   (bnd (idx a1 (0 : Int)) fun y =>
    k_ (Int.tmod y (2 : Int) == (1 : Int)))
   (k_ false)
def R_zodd.c1s : Shape := ⟨[(0, rb36), (1, rb13), (2, rb0)], [(1, rb30)]⟩
def R_zodd.c1x0 : Shape := ⟨[(0, rb36), (1, rb13), (2, rb0)], [(1, rb30)]⟩
def R_zodd.c1r : Ck := Ck.of (T := Bool) R_zodd.c1s (fun ρ x_ k_ => uP x_ fun a x_ => uP x_ fun t2 x_ => uP x_ fun a0 x_ => uP x_ fun a1 x_ => R_zodd.c1 a1 k_) (fun ρ x_ r_ k_ => uP x_ fun a x_ => uP x_ fun t2 x_ => uP x_ fun a0 x_ => uP x_ fun a1 x_ => k_ 0 (Shape.inj R_zodd.c1x0 (a, r_, a0, a1, ())))
def R_zodd (a : (Bool) × (List Int)) : Option (Bool) :=
  bnd (W.R_zodd.c1 (Prod.snd a) some) fun y =>
  some y
def R_zodd.ce : Go.Ql.Callee := ⟨[(.st (.pair .bool (.sl (.int .i64))))], [.bool], fun x_ => R_zodd x_⟩
def R_zodd.G : Env := ⟨15, tab, [], [0, 1, 2], [], [], [(1, R_zodd.c1r)], [], tab_eqs⟩
theorem R_zodd.eq (x_ : dens [(.st (.pair .bool (.sl (.int .i64))))]) : den R_zodd.G Go.Proofs.Tryd.f65 [(.st (.pair .bool (.sl (.int .i64))))] [.bool] x_ = R_zodd x_ := by kernel_rfl
theorem R_zodd.p0 : PieceOk R_zodd.G (pieceAt (pieces R_zodd.G.cks (bodyOf Go.Proofs.Tryd.f65)) 0).1 (pieceAt (pieces R_zodd.G.cks (bodyOf Go.Proofs.Tryd.f65)) 0).2 :=
  region_ok (s := R_zodd.c1r) (by kernel_rfl) (by kernel_rfl) (sums_of (sh := R_zodd.c1s) (fun ρ x_ k_ => (nat_br (nat_bnd fun _ => nat_leaf) nat_leaf)) (fun ρ x_ t k => (by kernel_rfl)) (fun x_ => by kernel_rfl))
theorem R_zodd.ok : CalleeOk Go.Proofs.Tryd.prog 65 R_zodd.ce := fn_ok (G := R_zodd.G) tab_ok mixed Go.Proofs.Tryd.func65 ⟨fns_nil, mfns_nil, tab_eqs_ok⟩ (m := 1) (by kernel_rfl) ⟨trivial, R_zodd.p0⟩ (by kernel_rfl) R_zodd.eq
abbrev rb39 : SD := .one (.own 10 0)
def R_zhalf.c100004 {ρ : Type} (c : Int) (i : Int) (a1 : List (Int)) (t10 : List (Int)) (k_ : ((Int) × (Int) × (List Int)) ⊕ ((Int) × (Int) × (List Int)) → Option ρ) : Option ρ :=
  br (decide (i ≥ (0 : Int)))
   (bnd (idx a1 i) fun y =>
    bnd (inR (List.length t10) i) fun y_1 =>
    bnd (idx t10 i) fun y_2 =>
    k_ (.inl ((Int.tmod (IntKind.wrap IntKind.i64 (IntKind.wrap IntKind.i64 (c * (10000 : Int)) + y)) (2 : Int)), (IntKind.wrap IntKind.i64 (i - (1 : Int))), (List.set t10 (Int.toNat i) (IntKind.wrap IntKind.i64 (Int.tdiv (IntKind.wrap IntKind.i64 (IntKind.wrap IntKind.i64 (c * (10000 : Int)) + y)) (2 : Int)))))))
   (k_ (.inr (c, i, t10)))
def R_zhalf.c100004s : Shape := ⟨[(0, rb36), (1, rb13), (2, rb5), (3, rb0), (4, rb39), (5, rb3), (6, rb3)], [(1, rb30), (2, rb30), (10, rb31)]⟩
def R_zhalf.c100004x0 : Shape := ⟨[(0, rb36), (1, rb13), (2, rb5), (3, rb0), (4, rb39), (5, rb3), (6, rb3)], [(1, rb30), (2, rb30), (10, rb31)]⟩
def R_zhalf.c100004r : Ck := Ck.ofLoop (S := (Int) × (Int) × (List Int)) (T := (Int) × (Int) × (List Int)) R_zhalf.c100004s (fun x_ => uP x_ fun a x_ => uP x_ fun t3 x_ => uP x_ fun c x_ => uP x_ fun i x_ => uP x_ fun a0 x_ => uP x_ fun a1 x_ => uP x_ fun t20 x_ => uP x_ fun t21 x_ => uP x_ fun t10 x_ => (c, i, t10)) (fun ρ x_ s_ k_ => uP x_ fun a x_ => uP x_ fun t3 x_ => uP x_ fun c x_ => uP x_ fun i x_ => uP x_ fun a0 x_ => uP x_ fun a1 x_ => uP x_ fun t20 x_ => uP x_ fun t21 x_ => uP x_ fun t10 x_ => R_zhalf.c100004 s_.1 s_.2.1 a1 s_.2.2 k_) (fun ρ x_ r_ k_ => uP x_ fun a x_ => uP x_ fun t3 x_ => uP x_ fun c x_ => uP x_ fun i x_ => uP x_ fun a0 x_ => uP x_ fun a1 x_ => uP x_ fun t20 x_ => uP x_ fun t21 x_ => uP x_ fun t10 x_ => k_ 2 (Shape.inj R_zhalf.c100004x0 (a, t3, r_.1, r_.2.1, a0, a1, t20, t21, r_.2.2, ())))
def R_zhalf (a : (Bool) × (List Int)) : Option (((Bool) × (List Int)) × (Bool)) :=
  bnd (okIf (decide ((0 : Int) ≤ (↑(List.length (Prod.snd a)) : Int)) && decide ((↑(List.length (Prod.snd a)) : Int) ≤ (↑(List.length (Prod.snd a)) : Int)) && decide ((↑(List.length (Prod.snd a)) : Int) * (↑(8 : Nat) : Int) ≤ (140737488355328 : Int)) && decide ((↑(List.length (Prod.snd a)) : Int) ≤ (140737488355328 : Int)))) fun y =>
  bnd (iter (fun s ↦ W.R_zhalf.c100004 (Prod.fst s) (Prod.fst (Prod.snd s)) (Prod.snd a) (Prod.snd (Prod.snd s)) some) ((0 : Int), IntKind.wrap IntKind.i64 ((↑(List.length (Prod.snd a)) : Int) - (1 : Int)), List.replicate (Int.toNat (↑(List.length (Prod.snd a)) : Int)) (0 : Int))) fun y_1 =>
  bnd (W.R_zmade (Prod.fst a) (Prod.snd (Prod.snd y_1))) fun y_2 =>
  some ((Prod.fst y_2, Prod.snd y_2), decide (Prod.fst y_1 > (0 : Int)))
def R_zhalf.ce : Go.Ql.Callee := ⟨[(.st (.pair .bool (.sl (.int .i64))))], [(.st (.pair .bool (.sl (.int .i64)))), .bool], fun x_ => R_zhalf x_⟩
def R_zhalf.G : Env := ⟨40, tab, [(55, R_zmade.ce)], [0, 1, 2, 3, 4, 5, 6, 16], [10], [], [(100004, R_zhalf.c100004r)], [], tab_eqs⟩
theorem R_zhalf.eq (x_ : dens [(.st (.pair .bool (.sl (.int .i64))))]) : den R_zhalf.G Go.Proofs.Tryd.f66 [(.st (.pair .bool (.sl (.int .i64))))] [(.st (.pair .bool (.sl (.int .i64)))), .bool] x_ = R_zhalf x_ := by kernel_rfl
theorem R_zhalf.p0 : PieceOk R_zhalf.G (pieceAt (pieces R_zhalf.G.cks (bodyOf Go.Proofs.Tryd.f66)) 0).1 (pieceAt (pieces R_zhalf.G.cks (bodyOf Go.Proofs.Tryd.f66)) 0).2 :=
  loop_ok (s := R_zhalf.c100004r) (by kernel_rfl) (by kernel_rfl) (loops_of (sh := R_zhalf.c100004s) (I := fun x_ s_ => (x_.1, x_.2.1, s_.1, s_.2.1, x_.2.2.2.2.1, x_.2.2.2.2.2.1, x_.2.2.2.2.2.2.1, x_.2.2.2.2.2.2.2.1, s_.2.2, ())) (fun x_ => rfl) (fun ρ x_ s_ k_ => (nat_br (nat_bnd fun _ => (nat_bnd fun _ => (nat_bnd fun _ => nat_leaf))) nat_leaf)) (fun ρ x_ t k => (by kernel_rfl)) (fun x_ s => by kernel_rfl))
theorem R_zhalf.ok : CalleeOk Go.Proofs.Tryd.prog 66 R_zhalf.ce := fn_ok (G := R_zhalf.G) tab_ok mixed Go.Proofs.Tryd.func66 ⟨(fns_cons R_zmade.ok fns_nil), mfns_nil, tab_eqs_ok⟩ (m := 1) (by kernel_rfl) ⟨trivial, R_zhalf.p0⟩ (by kernel_rfl) R_zhalf.eq
abbrev rb40 : SD := .one (.aptr 1 0)
def R_rleast.c100003 {ρ : Type} (i : Int) (a_1 : List ((List ((Bool) × (List Int))) × (Int))) (t2 : List ((List ((Bool) × (List Int))) × (Int))) (k_ : (Int) ⊕ (((Int) × (List ((List ((Bool) × (List Int))) × (Int)))) ⊕ (Int)) → Option ρ) : Option ρ :=
  br (decide (i < (8 : Int)))
   (bnd (inR (List.length a_1) (0 : Int)) fun y =>
    bnd (okIf (decide ((0 : Ty.den (Ty.int IntKind.i64)) ≤ i) && decide (i < (↑(8 : Nat) : Int)))) fun y_1 =>
    bnd (idx a_1 (0 : Int)) fun y_2 =>
    bnd (idx (Prod.fst y_2) i) fun y_3 =>
    bnd (W.R_zodd y_3) fun y_4 =>
    br y_4
     (bnd (idx a_1 (0 : Int)) fun y_5 =>
      bnd (idx t2 (0 : Int)) fun y_6 =>
      k_ (.inr (.inl (i, (List.set t2 (0 : Nat) y_5)))))
     (k_ (.inl (IntKind.wrap IntKind.i64 (i + (1 : Int))))))
   (k_ (.inr (.inr i)))
def R_rleast.c100003s : Shape := ⟨[(0, rb32), (1, rb40), (2, rb24), (3, rb3)], [(1, rb34), (2, rb34)]⟩
def R_rleast.c100003x0 : Shape := ⟨[(0, rb32), (1, rb40), (2, rb24), (3, rb3)], [(1, rb34), (2, rb34)]⟩
def R_rleast.c100003x1 : Shape := ⟨[(0, rb32), (1, rb40), (2, rb24), (3, rb3)], [(1, rb34), (2, rb34)]⟩
def R_rleast.c100003r : Ck := Ck.ofLoop (S := Int) (T := ((Int) × (List ((List ((Bool) × (List Int))) × (Int)))) ⊕ (Int)) R_rleast.c100003s (fun x_ => uP x_ fun a x_ => uP x_ fun i x_ => uP x_ fun a_1 x_ => uP x_ fun t2 x_ => i) (fun ρ x_ s_ k_ => uP x_ fun a x_ => uP x_ fun i x_ => uP x_ fun a_1 x_ => uP x_ fun t2 x_ => R_rleast.c100003 s_ a_1 t2 k_) (fun ρ x_ r_ k_ => uP x_ fun a x_ => uP x_ fun i x_ => uP x_ fun a_1 x_ => uP x_ fun t2 x_ => sel r_ (fun r_ => k_ 1 (Shape.inj R_rleast.c100003x0 (a, r_.1, a_1, r_.2, ()))) (fun r_ => k_ 4 (Shape.inj R_rleast.c100003x1 (a, r_, a_1, t2, ()))))
def R_rleast.c100008 {ρ : Type} (i_1 : Int) (a_1 : List ((List ((Bool) × (List Int))) × (Int))) (k_ : ((Int) × (List ((List ((Bool) × (List Int))) × (Int)))) ⊕ ((Int) × (List ((List ((Bool) × (List Int))) × (Int)))) → Option ρ) : Option ρ :=
  br (decide (i_1 < (8 : Int)))
   (bnd (inR (List.length a_1) (0 : Int)) fun y =>
    bnd (okIf (decide ((0 : Ty.den (Ty.int IntKind.i64)) ≤ i_1) && decide (i_1 < (↑(8 : Nat) : Int)))) fun y_1 =>
    bnd (idx a_1 (0 : Int)) fun y_2 =>
    bnd (idx (Prod.fst y_2) i_1) fun y_3 =>
    bnd (W.R_zhalf y_3) fun y_4 =>
    bnd (inR (List.length a_1) (0 : Int)) fun y_5 =>
    bnd (okIf (decide ((0 : Ty.den (Ty.int IntKind.i64)) ≤ i_1) && decide (i_1 < (↑(8 : Nat) : Int)))) fun y_6 =>
    bnd (idx a_1 (0 : Int)) fun y_7 =>
    bnd (idx (Prod.fst y_7) i_1) fun y_8 =>
    k_ (.inl ((IntKind.wrap IntKind.i64 (i_1 + (1 : Int))), (List.set a_1 (0 : Nat) (List.set (Prod.fst y_7) (Int.toNat i_1) (Prod.fst y_4), Prod.snd y_7)))))
   (k_ (.inr (i_1, a_1)))
def R_rleast.c100008s : Shape := ⟨[(0, rb32), (1, rb40), (2, rb24), (3, rb3), (4, rb3)], [(1, rb34), (2, rb34)]⟩
def R_rleast.c100008x0 : Shape := ⟨[(0, rb32), (1, rb40), (2, rb24), (3, rb3), (4, rb3)], [(1, rb34), (2, rb34)]⟩
def R_rleast.c100008r : Ck := Ck.ofLoop (S := (Int) × (List ((List ((Bool) × (List Int))) × (Int)))) (T := (Int) × (List ((List ((Bool) × (List Int))) × (Int)))) R_rleast.c100008s (fun x_ => uP x_ fun a x_ => uP x_ fun i x_ => uP x_ fun i_1 x_ => uP x_ fun a_1 x_ => uP x_ fun t2 x_ => (i_1, a_1)) (fun ρ x_ s_ k_ => uP x_ fun a x_ => uP x_ fun i x_ => uP x_ fun i_1 x_ => uP x_ fun a_1 x_ => uP x_ fun t2 x_ => R_rleast.c100008 s_.1 s_.2 k_) (fun ρ x_ r_ k_ => uP x_ fun a x_ => uP x_ fun i x_ => uP x_ fun i_1 x_ => uP x_ fun a_1 x_ => uP x_ fun t2 x_ => k_ 6 (Shape.inj R_rleast.c100008x0 (a, i, r_.1, r_.2, t2, ())))
def R_rleast.c100001 {ρ : Type} (a_1 : List ((List ((Bool) × (List Int))) × (Int))) (t2 : List ((List ((Bool) × (List Int))) × (Int))) (k_ : (List ((List ((Bool) × (List Int))) × (Int))) ⊕ (((List ((List ((Bool) × (List Int))) × (Int))) × (List ((List ((Bool) × (List Int))) × (Int)))) ⊕ (List ((List ((Bool) × (List Int))) × (Int)))) → Option ρ) : Option ρ :=
  bnd (inR (List.length a_1) (0 : Int)) fun y =>
  bnd (idx a_1 (0 : Int)) fun y_1 =>
  br (decide (Prod.snd y_1 > (0 : Int)))
   (bnd (iter (fun s ↦ W.R_rleast.c100003 s a_1 t2 some) (0 : Int)) fun y_2 =>
    sel y_2
     (fun u => k_ (.inr (.inl (a_1, (Prod.snd u)))))
     (fun v => bnd (iter (fun s ↦ W.R_rleast.c100008 (Prod.fst s) (Prod.snd s) some) ((0 : Int), a_1)) fun y_3 =>
      bnd (idx (Prod.snd y_3) (0 : Int)) fun y_4 =>
      bnd (W.R_RZero y_4) fun y_5 =>
      br y_5
       (bnd (idx t2 (0 : Int)) fun y_6 =>
        k_ (.inr (.inl ((Prod.snd y_3), (List.set t2 (0 : Nat) (List.replicate (8 : Nat) (false, []), (0 : Int)))))))
       (bnd (inR (List.length (Prod.snd y_3)) (0 : Int)) fun y_7 =>
        bnd (idx (Prod.snd y_3) (0 : Int)) fun y_8 =>
        bnd (inR (List.length (Prod.snd y_3)) (0 : Int)) fun y_9 =>
        bnd (idx (Prod.snd y_3) (0 : Int)) fun y_10 =>
        k_ (.inl (List.set (Prod.snd y_3) (0 : Nat) (Prod.fst y_10, IntKind.wrap IntKind.i64 (Prod.snd y_8 - (1 : Int))))))))
   (k_ (.inr (.inr a_1)))
def R_rleast.c100001s : Shape := ⟨[(0, rb32), (1, rb40), (2, rb24)], [(1, rb34), (2, rb34)]⟩
def R_rleast.c100001x0 : Shape := ⟨[(0, rb32), (1, rb40), (2, rb24)], [(1, rb34), (2, rb34)]⟩
def R_rleast.c100001x1 : Shape := ⟨[(0, rb32), (1, rb40), (2, rb24)], [(1, rb34), (2, rb34)]⟩
def R_rleast.c100001r : Ck := Ck.ofLoop (S := List ((List ((Bool) × (List Int))) × (Int))) (T := ((List ((List ((Bool) × (List Int))) × (Int))) × (List ((List ((Bool) × (List Int))) × (Int)))) ⊕ (List ((List ((Bool) × (List Int))) × (Int)))) R_rleast.c100001s (fun x_ => uP x_ fun a x_ => uP x_ fun a_1 x_ => uP x_ fun t2 x_ => a_1) (fun ρ x_ s_ k_ => uP x_ fun a x_ => uP x_ fun a_1 x_ => uP x_ fun t2 x_ => R_rleast.c100001 s_ t2 k_) (fun ρ x_ r_ k_ => uP x_ fun a x_ => uP x_ fun a_1 x_ => uP x_ fun t2 x_ => sel r_ (fun r_ => k_ 1 (Shape.inj R_rleast.c100001x0 (a, r_.1, r_.2, ()))) (fun r_ => k_ 2 (Shape.inj R_rleast.c100001x1 (a, r_, t2, ()))))
def R_rleast (a : (List ((Bool) × (List Int))) × (Int)) : Option ((List ((Bool) × (List Int))) × (Int)) :=
  bnd (iter (fun s ↦ W.R_rleast.c100001 s [(List.replicate (8 : Nat) (false, []), (0 : Int))] some) [a]) fun y =>
  sel y
   (fun u => bnd (idx (Prod.snd u) (0 : Int)) fun y_1 =>
    some y_1)
   (fun v => bnd (idx v (0 : Int)) fun y_2 =>
    some y_2)
def R_rleast.ce : Go.Ql.Callee := ⟨[(.st (.pair (.ar 8 (.st (.pair .bool (.sl (.int .i64))))) (.int .i64)))], [(.st (.pair (.ar 8 (.st (.pair .bool (.sl (.int .i64))))) (.int .i64)))], fun x_ => R_rleast x_⟩
def R_rleast.G : Env := ⟨41, tab, [(65, R_zodd.ce), (66, R_zhalf.ce), (39, R_RZero.ce)], [0, 1, 2, 3, 4, 7, 9, 16, 19, 34], [1, 2, 35], [], [(100001, R_rleast.c100001r), (100008, R_rleast.c100008r), (100003, R_rleast.c100003r)], [], tab_eqs⟩
theorem R_rleast.eq (x_ : dens [(.st (.pair (.ar 8 (.st (.pair .bool (.sl (.int .i64))))) (.int .i64)))]) : den R_rleast.G Go.Proofs.Tryd.f40 [(.st (.pair (.ar 8 (.st (.pair .bool (.sl (.int .i64))))) (.int .i64)))] [(.st (.pair (.ar 8 (.st (.pair .bool (.sl (.int .i64))))) (.int .i64)))] x_ = R_rleast x_ := by kernel_rfl
theorem R_rleast.p0 : PieceOk R_rleast.G (pieceAt (pieces R_rleast.G.cks (bodyOf Go.Proofs.Tryd.f40)) 0).1 (pieceAt (pieces R_rleast.G.cks (bodyOf Go.Proofs.Tryd.f40)) 0).2 :=
  loop_ok (s := R_rleast.c100001r) (by kernel_rfl) (by kernel_rfl) (loops_of (sh := R_rleast.c100001s) (I := fun x_ s_ => (x_.1, s_, x_.2.2.1, ())) (fun x_ => rfl) (fun ρ x_ s_ k_ => (nat_bnd fun _ => (nat_bnd fun _ => (nat_br (nat_bnd fun _ => (nat_sel (fun _ => nat_leaf) (fun _ => (nat_bnd fun _ => (nat_bnd fun _ => (nat_bnd fun _ => (nat_br (nat_bnd fun _ => nat_leaf) (nat_bnd fun _ => (nat_bnd fun _ => (nat_bnd fun _ => (nat_bnd fun _ => nat_leaf))))))))))) nat_leaf)))) (fun ρ x_ t k => (nat_sel (fun _ => (by kernel_rfl)) (fun _ => (by kernel_rfl)))) (fun x_ s => by kernel_rfl))
theorem R_rleast.p1 : PieceOk R_rleast.G (pieceAt (pieces R_rleast.G.cks (bodyOf Go.Proofs.Tryd.f40)) 1).1 (pieceAt (pieces R_rleast.G.cks (bodyOf Go.Proofs.Tryd.f40)) 1).2 :=
  loop_ok (s := R_rleast.c100003r) (by kernel_rfl) (by kernel_rfl) (loops_of (sh := R_rleast.c100003s) (I := fun x_ s_ => (x_.1, s_, x_.2.2.1, x_.2.2.2.1, ())) (fun x_ => rfl) (fun ρ x_ s_ k_ => (nat_br (nat_bnd fun _ => (nat_bnd fun _ => (nat_bnd fun _ => (nat_bnd fun _ => (nat_bnd fun _ => (nat_br (nat_bnd fun _ => (nat_bnd fun _ => nat_leaf)) nat_leaf)))))) nat_leaf)) (fun ρ x_ t k => (nat_sel (fun _ => (by kernel_rfl)) (fun _ => (by kernel_rfl)))) (fun x_ s => by kernel_rfl))
theorem R_rleast.p2 : PieceOk R_rleast.G (pieceAt (pieces R_rleast.G.cks (bodyOf Go.Proofs.Tryd.f40)) 2).1 (pieceAt (pieces R_rleast.G.cks (bodyOf Go.Proofs.Tryd.f40)) 2).2 :=
  loop_ok (s := R_rleast.c100008r) (by kernel_rfl) (by kernel_rfl) (loops_of (sh := R_rleast.c100008s) (I := fun x_ s_ => (x_.1, x_.2.1, s_.1, s_.2, x_.2.2.2.2.1, ())) (fun x_ => rfl) (fun ρ x_ s_ k_ => (nat_br (nat_bnd fun _ => (nat_bnd fun _ => (nat_bnd fun _ => (nat_bnd fun _ => (nat_bnd fun _ => (nat_bnd fun _ => (nat_bnd fun _ => (nat_bnd fun _ => (nat_bnd fun _ => nat_leaf))))))))) nat_leaf)) (fun ρ x_ t k => (by kernel_rfl)) (fun x_ s => by kernel_rfl))
theorem R_rleast.ok : CalleeOk Go.Proofs.Tryd.prog 40 R_rleast.ce := fn_ok (G := R_rleast.G) tab_ok mixed Go.Proofs.Tryd.func40 ⟨(fns_cons R_zodd.ok (fns_cons R_zhalf.ok (fns_cons R_RZero.ok fns_nil))), mfns_nil, tab_eqs_ok⟩ (m := 3) (by kernel_rfl) ⟨⟨⟨trivial, R_rleast.p0⟩, R_rleast.p1⟩, R_rleast.p2⟩ (by kernel_rfl) R_rleast.eq
abbrev rb41 : SD := .one (.aptr 3 0)
def R_RAdd.c10 {ρ : Type} (i : Int) (a_1 : List ((List ((Bool) × (List Int))) × (Int))) (b_1 : List ((List ((Bool) × (List Int))) × (Int))) (k_ : List ((List ((Bool) × (List Int))) × (Int)) → Option ρ) : Option ρ :=
  bnd (inR (List.length a_1) (0 : Int)) fun y =>
  bnd (okIf (decide ((0 : Ty.den (Ty.int IntKind.i64)) ≤ i) && decide (i < (↑(8 : Nat) : Int)))) fun y_1 =>
  bnd (idx a_1 (0 : Int)) fun y_2 =>
  bnd (idx (Prod.fst y_2) i) fun y_3 =>
  bnd (inR (List.length b_1) (0 : Int)) fun y_4 =>
  bnd (okIf (decide ((0 : Ty.den (Ty.int IntKind.i64)) ≤ i) && decide (i < (↑(8 : Nat) : Int)))) fun y_5 =>
  bnd (idx b_1 (0 : Int)) fun y_6 =>
  bnd (idx (Prod.fst y_6) i) fun y_7 =>
  bnd (W.R_ZAdd y_3 y_7) fun y_8 =>
  bnd (inR (List.length a_1) (0 : Int)) fun y_9 =>
  bnd (okIf (decide ((0 : Ty.den (Ty.int IntKind.i64)) ≤ i) && decide (i < (↑(8 : Nat) : Int)))) fun y_10 =>
  bnd (idx a_1 (0 : Int)) fun y_11 =>
  bnd (idx (Prod.fst y_11) i) fun y_12 =>
  k_ (List.set a_1 (0 : Nat) (List.set (Prod.fst y_11) (Int.toNat i) y_8, Prod.snd y_11))
def R_RAdd.c10s : Shape := ⟨[(0, rb32), (1, rb32), (2, rb24), (3, rb41), (4, rb25), (5, rb3)], [(2, rb34), (3, rb34), (4, rb34)]⟩
def R_RAdd.c10x0 : Shape := ⟨[(0, rb32), (1, rb32), (2, rb24), (3, rb41), (4, rb25), (5, rb3)], [(2, rb34), (3, rb34), (4, rb34)]⟩
def R_RAdd.c10r : Ck := Ck.of (T := List ((List ((Bool) × (List Int))) × (Int))) R_RAdd.c10s (fun ρ x_ k_ => uP x_ fun a x_ => uP x_ fun b x_ => uP x_ fun i x_ => uP x_ fun a_1 x_ => uP x_ fun b_1 x_ => uP x_ fun t4 x_ => R_RAdd.c10 i a_1 b_1 k_) (fun ρ x_ r_ k_ => uP x_ fun a x_ => uP x_ fun b x_ => uP x_ fun i x_ => uP x_ fun a_1 x_ => uP x_ fun b_1 x_ => uP x_ fun t4 x_ => k_ 0 (Shape.inj R_RAdd.c10x0 (a, b, i, r_, b_1, t4, ())))
def R_RAdd.c100008 {ρ : Type} (i : Int) (a_1 : List ((List ((Bool) × (List Int))) × (Int))) (b_1 : List ((List ((Bool) × (List Int))) × (Int))) (k_ : ((Int) × (List ((List ((Bool) × (List Int))) × (Int)))) ⊕ ((Int) × (List ((List ((Bool) × (List Int))) × (Int)))) → Option ρ) : Option ρ :=
  br (decide (i < (8 : Int)))
   (bnd (W.R_RAdd.c10 i a_1 b_1 some) fun y =>
    k_ (.inl ((IntKind.wrap IntKind.i64 (i + (1 : Int))), y)))
   (k_ (.inr (i, a_1)))
def R_RAdd.c100008s : Shape := ⟨[(0, rb32), (1, rb32), (2, rb24), (3, rb41), (4, rb25), (5, rb3)], [(2, rb34), (3, rb34), (4, rb34)]⟩
def R_RAdd.c100008x0 : Shape := ⟨[(0, rb32), (1, rb32), (2, rb24), (3, rb41), (4, rb25), (5, rb3)], [(2, rb34), (3, rb34), (4, rb34)]⟩
def R_RAdd.c100008r : Ck := Ck.ofLoop (S := (Int) × (List ((List ((Bool) × (List Int))) × (Int)))) (T := (Int) × (List ((List ((Bool) × (List Int))) × (Int)))) R_RAdd.c100008s (fun x_ => uP x_ fun a x_ => uP x_ fun b x_ => uP x_ fun i x_ => uP x_ fun a_1 x_ => uP x_ fun b_1 x_ => uP x_ fun t4 x_ => (i, a_1)) (fun ρ x_ s_ k_ => uP x_ fun a x_ => uP x_ fun b x_ => uP x_ fun i x_ => uP x_ fun a_1 x_ => uP x_ fun b_1 x_ => uP x_ fun t4 x_ => R_RAdd.c100008 s_.1 s_.2 b_1 k_) (fun ρ x_ r_ k_ => uP x_ fun a x_ => uP x_ fun b x_ => uP x_ fun i x_ => uP x_ fun a_1 x_ => uP x_ fun b_1 x_ => uP x_ fun t4 x_ => k_ 2 (Shape.inj R_RAdd.c100008x0 (a, b, r_.1, r_.2, b_1, t4, ())))
def R_RAdd (a : (List ((Bool) × (List Int))) × (Int)) (b : (List ((Bool) × (List Int))) × (Int)) : Option ((List ((Bool) × (List Int))) × (Int)) :=
  bnd (W.R_RZero a) fun y =>
  br y
   (some b)
   (bnd (W.R_RZero b) fun y_1 =>
    br y_1
     (some a)
     (bnd (W.R_rto a (Prod.snd b)) fun y_2 =>
      bnd (W.R_rto b (Prod.snd y_2)) fun y_3 =>
      bnd (iter (fun s ↦ W.R_RAdd.c100008 (Prod.fst s) (Prod.snd s) [y_3] some) ((0 : Int), [y_2])) fun y_4 =>
      bnd (idx (Prod.snd y_4) (0 : Int)) fun y_5 =>
      bnd (W.R_RZero y_5) fun y_6 =>
      br y_6
       (some (List.replicate (8 : Nat) (false, []), (0 : Int)))
       (bnd (idx (Prod.snd y_4) (0 : Int)) fun y_7 =>
        bnd (W.R_rleast y_7) fun y_8 =>
        some y_8)))
def R_RAdd.ce : Go.Ql.Callee := ⟨[(.st (.pair (.ar 8 (.st (.pair .bool (.sl (.int .i64))))) (.int .i64))), (.st (.pair (.ar 8 (.st (.pair .bool (.sl (.int .i64))))) (.int .i64)))], [(.st (.pair (.ar 8 (.st (.pair .bool (.sl (.int .i64))))) (.int .i64)))], fun x_ => R_RAdd x_.1 x_.2⟩
def R_RAdd.G : Env := ⟨41, tab, [(39, R_RZero.ce), (47, R_rto.ce), (48, R_ZAdd.ce), (40, R_rleast.ce)], [0, 1, 2, 3, 4, 5, 7, 10, 21, 37], [2, 3, 4, 38], [(10, [⟨[], [], [25, 26, 27, 28, 29, 30, 31, 32, 33, 34], []⟩, ⟨[], [], [24, 26, 29, 30, 31, 32, 34], []⟩, ⟨[], [], [24, 25, 29, 30, 31, 32, 34], []⟩, ⟨[2, 1], [], [24, 29, 30, 31, 32, 34], []⟩, ⟨[3, 2, 1], [], [24, 29, 30, 31, 32, 34], []⟩, ⟨[], [], [24, 25, 26, 27, 28, 30, 34], []⟩, ⟨[], [], [24, 25, 26, 27, 28, 29, 34], []⟩, ⟨[6, 5], [], [24, 25, 26, 27, 28, 34], []⟩, ⟨[7, 6, 5], [], [24, 25, 26, 27, 28, 34], []⟩, ⟨[4, 3, 2, 1, 8, 7, 6, 5], [], [24, 34], []⟩, ⟨[], [], [24, 25, 26, 27, 28, 29, 30, 31, 32, 33], []⟩, ⟨[10, 0, 1, 2, 3, 4, 5, 6, 7, 8, 9], [], [], []⟩, ⟨[11, 10, 0, 1, 2, 3, 4, 5, 6, 7, 8, 9], [2], [], []⟩])], [(100008, R_RAdd.c100008r), (10, R_RAdd.c10r)], [], tab_eqs⟩
theorem R_RAdd.eq (x_ : dens [(.st (.pair (.ar 8 (.st (.pair .bool (.sl (.int .i64))))) (.int .i64))), (.st (.pair (.ar 8 (.st (.pair .bool (.sl (.int .i64))))) (.int .i64)))]) : den R_RAdd.G Go.Proofs.Tryd.f11 [(.st (.pair (.ar 8 (.st (.pair .bool (.sl (.int .i64))))) (.int .i64))), (.st (.pair (.ar 8 (.st (.pair .bool (.sl (.int .i64))))) (.int .i64)))] [(.st (.pair (.ar 8 (.st (.pair .bool (.sl (.int .i64))))) (.int .i64)))] x_ = R_RAdd x_.1 x_.2 := by kernel_rfl
theorem R_RAdd.p0 : PieceOk R_RAdd.G (pieceAt (pieces R_RAdd.G.cks (bodyOf Go.Proofs.Tryd.f11)) 0).1 (pieceAt (pieces R_RAdd.G.cks (bodyOf Go.Proofs.Tryd.f11)) 0).2 :=
  loop_ok (s := R_RAdd.c100008r) (by kernel_rfl) (by kernel_rfl) (loops_of (sh := R_RAdd.c100008s) (I := fun x_ s_ => (x_.1, x_.2.1, s_.1, s_.2, x_.2.2.2.2.1, x_.2.2.2.2.2.1, ())) (fun x_ => rfl) (fun ρ x_ s_ k_ => (nat_br (nat_bnd fun _ => nat_leaf) nat_leaf)) (fun ρ x_ t k => (by kernel_rfl)) (fun x_ s => by kernel_rfl))
theorem R_RAdd.p1 : PieceOk R_RAdd.G (pieceAt (pieces R_RAdd.G.cks (bodyOf Go.Proofs.Tryd.f11)) 1).1 (pieceAt (pieces R_RAdd.G.cks (bodyOf Go.Proofs.Tryd.f11)) 1).2 :=
  region_ok (s := R_RAdd.c10r) (by kernel_rfl) (by kernel_rfl) (sums_of (sh := R_RAdd.c10s) (fun ρ x_ k_ => (nat_bnd fun _ => (nat_bnd fun _ => (nat_bnd fun _ => (nat_bnd fun _ => (nat_bnd fun _ => (nat_bnd fun _ => (nat_bnd fun _ => (nat_bnd fun _ => (nat_bnd fun _ => (nat_bnd fun _ => (nat_bnd fun _ => (nat_bnd fun _ => (nat_bnd fun _ => nat_leaf)))))))))))))) (fun ρ x_ t k => (by kernel_rfl)) (fun x_ => by kernel_rfl))
theorem R_RAdd.ok : CalleeOk Go.Proofs.Tryd.prog 11 R_RAdd.ce := fn_ok (G := R_RAdd.G) tab_ok mixed Go.Proofs.Tryd.func11 ⟨(fns_cons R_RZero.ok (fns_cons R_rto.ok (fns_cons R_ZAdd.ok (fns_cons R_rleast.ok fns_nil)))), mfns_nil, tab_eqs_ok⟩ (m := 2) (by kernel_rfl) ⟨⟨trivial, R_RAdd.p0⟩, R_RAdd.p1⟩ (by kernel_rfl) R_RAdd.eq
def R_ZSub.c1 {ρ : Type} (a0 : Bool) (a1 : List (Int)) (b0 : Bool) (b1 : List (Int)) (k_ : (Bool) × (List Int) → Option ρ) : Option ρ :=
  bnd (W.R_ZNeg (b0, b1)) fun y =>
  bnd (W.R_ZAdd (a0, a1) y) fun y_1 =>
  k_ ((Prod.fst y_1), (Prod.snd y_1))
def R_ZSub.c1s : Shape := ⟨[(0, rb36), (1, rb36), (2, rb5), (3, rb12), (4, rb2)], [(2, rb30), (3, rb30), (4, rb30)]⟩
def R_ZSub.c1x0 : Shape := ⟨[(0, rb36), (1, rb36), (2, rb5), (3, rb12), (4, rb2)], [(2, rb30), (3, rb30), (4, rb30)]⟩
def R_ZSub.c1r : Ck := Ck.of (T := (Bool) × (List Int)) R_ZSub.c1s (fun ρ x_ k_ => uP x_ fun a x_ => uP x_ fun b x_ => uP x_ fun a0 x_ => uP x_ fun a1 x_ => uP x_ fun b0 x_ => uP x_ fun b1 x_ => uP x_ fun t40 x_ => uP x_ fun t41 x_ => R_ZSub.c1 a0 a1 b0 b1 k_) (fun ρ x_ r_ k_ => uP x_ fun a x_ => uP x_ fun b x_ => uP x_ fun a0 x_ => uP x_ fun a1 x_ => uP x_ fun b0 x_ => uP x_ fun b1 x_ => uP x_ fun t40 x_ => uP x_ fun t41 x_ => k_ 0 (Shape.inj R_ZSub.c1x0 (a, b, a0, a1, b0, b1, r_.1, r_.2, ())))
def R_ZSub (a : (Bool) × (List Int)) (b : (Bool) × (List Int)) : Option ((Bool) × (List Int)) :=
  bnd (W.R_ZSub.c1 (Prod.fst a) (Prod.snd a) (Prod.fst b) (Prod.snd b) some) fun y =>
  some (Prod.fst y, Prod.snd y)
def R_ZSub.ce : Go.Ql.Callee := ⟨[(.st (.pair .bool (.sl (.int .i64)))), (.st (.pair .bool (.sl (.int .i64))))], [(.st (.pair .bool (.sl (.int .i64))))], fun x_ => R_ZSub x_.1 x_.2⟩
def R_ZSub.G : Env := ⟨9, tab, [(52, R_ZNeg.ce), (48, R_ZAdd.ce)], [0, 1, 2, 3, 4], [], [(1, [⟨[], [], [6, 7], []⟩, ⟨[], [], [5], []⟩, ⟨[1], [], [5], []⟩, ⟨[0, 2, 1], [], [], []⟩, ⟨[3, 0, 2, 1], [4], [], []⟩])], [(1, R_ZSub.c1r)], [], tab_eqs⟩
theorem R_ZSub.eq (x_ : dens [(.st (.pair .bool (.sl (.int .i64)))), (.st (.pair .bool (.sl (.int .i64))))]) : den R_ZSub.G Go.Proofs.Tryd.f51 [(.st (.pair .bool (.sl (.int .i64)))), (.st (.pair .bool (.sl (.int .i64))))] [(.st (.pair .bool (.sl (.int .i64))))] x_ = R_ZSub x_.1 x_.2 := by kernel_rfl
theorem R_ZSub.p0 : PieceOk R_ZSub.G (pieceAt (pieces R_ZSub.G.cks (bodyOf Go.Proofs.Tryd.f51)) 0).1 (pieceAt (pieces R_ZSub.G.cks (bodyOf Go.Proofs.Tryd.f51)) 0).2 :=
  region_ok (s := R_ZSub.c1r) (by kernel_rfl) (by kernel_rfl) (sums_of (sh := R_ZSub.c1s) (fun ρ x_ k_ => (nat_bnd fun _ => (nat_bnd fun _ => nat_leaf))) (fun ρ x_ t k => (by kernel_rfl)) (fun x_ => by kernel_rfl))
theorem R_ZSub.ok : CalleeOk Go.Proofs.Tryd.prog 51 R_ZSub.ce := fn_ok (G := R_ZSub.G) tab_ok mixed Go.Proofs.Tryd.func51 ⟨(fns_cons R_ZNeg.ok (fns_cons R_ZAdd.ok fns_nil)), mfns_nil, tab_eqs_ok⟩ (m := 1) (by kernel_rfl) ⟨trivial, R_ZSub.p0⟩ (by kernel_rfl) R_ZSub.eq
def R_RMul.c1 {ρ : Type} (a_1 : (List ((Bool) × (List Int))) × (Int)) (b_1 : (List ((Bool) × (List Int))) × (Int)) (k_ : Bool → Option ρ) : Option ρ :=
  bnd (W.R_RZero a_1) fun y =>
  br y
   (k_ true)
   (bnd (W.R_RZero b_1) fun y_1 =>
    k_ y_1)
def R_RMul.c1s : Shape := ⟨[(0, rb32), (1, rb32), (2, rb33), (3, rb33), (4, rb25)], [(4, rb34)]⟩
def R_RMul.c1x0 : Shape := ⟨[(0, rb32), (1, rb32), (2, rb33), (3, rb33), (4, rb25), (14, rb0)], [(4, rb34)]⟩
def R_RMul.c1r : Ck := Ck.of (T := Bool) R_RMul.c1s (fun ρ x_ k_ => uP x_ fun a x_ => uP x_ fun b x_ => uP x_ fun a_1 x_ => uP x_ fun b_1 x_ => uP x_ fun t4 x_ => R_RMul.c1 a_1 b_1 k_) (fun ρ x_ r_ k_ => uP x_ fun a x_ => uP x_ fun b x_ => uP x_ fun a_1 x_ => uP x_ fun b_1 x_ => uP x_ fun t4 x_ => k_ 0 (Shape.inj R_RMul.c1x0 (a, b, a_1, b_1, r_, t4, ())))
def R_RMul.c11 {ρ : Type} (a_1 : (List ((Bool) × (List Int))) × (Int)) (b_1 : (List ((Bool) × (List Int))) × (Int)) (i : Int) (j : Int) (k_ : Bool → Option ρ) : Option ρ :=
  bnd (idx (Prod.fst a_1) i) fun y =>
  br (decide ((↑(List.length (Prod.snd y)) : Int) > (0 : Int)))
   (bnd (idx (Prod.fst b_1) j) fun y_1 =>
    k_ (decide ((↑(List.length (Prod.snd y_1)) : Int) > (0 : Int))))
   (k_ false)
def R_RMul.c11s : Shape := ⟨[(0, rb32), (1, rb32), (2, rb33), (3, rb33), (4, rb25), (5, rb35), (6, rb3), (7, rb3)], [(4, rb34), (5, rb34)]⟩
def R_RMul.c11x0 : Shape := ⟨[(0, rb32), (1, rb32), (2, rb33), (3, rb33), (4, rb25), (5, rb35), (6, rb3), (7, rb3), (46, rb0)], [(4, rb34), (5, rb34)]⟩
def R_RMul.c11r : Ck := Ck.of (T := Bool) R_RMul.c11s (fun ρ x_ k_ => uP x_ fun a x_ => uP x_ fun b x_ => uP x_ fun a_1 x_ => uP x_ fun b_1 x_ => uP x_ fun i x_ => uP x_ fun j x_ => uP x_ fun t4 x_ => uP x_ fun out x_ => R_RMul.c11 a_1 b_1 i j k_) (fun ρ x_ r_ k_ => uP x_ fun a x_ => uP x_ fun b x_ => uP x_ fun a_1 x_ => uP x_ fun b_1 x_ => uP x_ fun i x_ => uP x_ fun j x_ => uP x_ fun t4 x_ => uP x_ fun out x_ => k_ 0 (Shape.inj R_RMul.c11x0 (a, b, a_1, b_1, i, j, r_, t4, out, ())))
def R_RMul.c12 {ρ : Type} (a_1 : (List ((Bool) × (List Int))) × (Int)) (b_1 : (List ((Bool) × (List Int))) × (Int)) (i : Int) (j : Int) (k_ : (Bool) × (List Int) → Option ρ) : Option ρ :=
  bnd (idx (Prod.fst a_1) i) fun y =>
  bnd (idx (Prod.fst b_1) j) fun y_1 =>
  bnd (W.R_ZMul y y_1) fun y_2 =>
  k_ ((Prod.fst y_2), (Prod.snd y_2))
def R_RMul.c12s : Shape := ⟨[(0, rb32), (1, rb32), (2, rb33), (3, rb33), (4, rb25), (5, rb35), (6, rb3), (7, rb3)], [(4, rb34), (5, rb34)]⟩
def R_RMul.c12x0 : Shape := ⟨[(0, rb32), (1, rb32), (2, rb33), (3, rb33), (4, rb25), (5, rb35), (6, rb3), (7, rb3), (8, rb20)], [(4, rb34), (5, rb34), (8, rb30)]⟩
def R_RMul.c12r : Ck := Ck.of (T := (Bool) × (List Int)) R_RMul.c12s (fun ρ x_ k_ => uP x_ fun a x_ => uP x_ fun b x_ => uP x_ fun a_1 x_ => uP x_ fun b_1 x_ => uP x_ fun i x_ => uP x_ fun j x_ => uP x_ fun t4 x_ => uP x_ fun out x_ => R_RMul.c12 a_1 b_1 i j k_) (fun ρ x_ r_ k_ => uP x_ fun a x_ => uP x_ fun b x_ => uP x_ fun a_1 x_ => uP x_ fun b_1 x_ => uP x_ fun i x_ => uP x_ fun j x_ => uP x_ fun t4 x_ => uP x_ fun out x_ => k_ 0 (Shape.inj R_RMul.c12x0 (a, b, a_1, b_1, i, j, t4, out, r_.1, r_.2, ())))
def R_RMul.c14 {ρ : Type} (i : Int) (j : Int) (out : List ((List ((Bool) × (List Int))) × (Int))) (c0 : Bool) (c1 : List (Int)) (k_ : List ((List ((Bool) × (List Int))) × (Int)) → Option ρ) : Option ρ :=
  bnd (inR (List.length out) (0 : Int)) fun y =>
  bnd (okIf (decide ((0 : Ty.den (Ty.int IntKind.i64)) ≤ IntKind.wrap IntKind.i64 (i + j)) && decide (IntKind.wrap IntKind.i64 (i + j) < (↑(8 : Nat) : Int)))) fun y_1 =>
  bnd (idx out (0 : Int)) fun y_2 =>
  bnd (idx (Prod.fst y_2) (IntKind.wrap IntKind.i64 (i + j))) fun y_3 =>
  bnd (W.R_ZAdd y_3 (c0, c1)) fun y_4 =>
  bnd (inR (List.length out) (0 : Int)) fun y_5 =>
  bnd (okIf (decide ((0 : Ty.den (Ty.int IntKind.i64)) ≤ IntKind.wrap IntKind.i64 (i + j)) && decide (IntKind.wrap IntKind.i64 (i + j) < (↑(8 : Nat) : Int)))) fun y_6 =>
  bnd (idx out (0 : Int)) fun y_7 =>
  bnd (idx (Prod.fst y_7) (IntKind.wrap IntKind.i64 (i + j))) fun y_8 =>
  k_ (List.set out (0 : Nat) (List.set (Prod.fst y_7) (Int.toNat (IntKind.wrap IntKind.i64 (i + j))) y_4, Prod.snd y_7))
def R_RMul.c14s : Shape := ⟨[(0, rb32), (1, rb32), (2, rb33), (3, rb33), (4, rb25), (5, rb35), (6, rb3), (7, rb3), (8, rb20)], [(4, rb34), (5, rb34), (8, rb30)]⟩
def R_RMul.c14x0 : Shape := ⟨[(0, rb32), (1, rb32), (2, rb33), (3, rb33), (4, rb25), (5, rb35), (6, rb3), (7, rb3), (8, rb20)], [(4, rb34), (5, rb34), (8, rb30)]⟩
def R_RMul.c14r : Ck := Ck.of (T := List ((List ((Bool) × (List Int))) × (Int))) R_RMul.c14s (fun ρ x_ k_ => uP x_ fun a x_ => uP x_ fun b x_ => uP x_ fun a_1 x_ => uP x_ fun b_1 x_ => uP x_ fun i x_ => uP x_ fun j x_ => uP x_ fun t4 x_ => uP x_ fun out x_ => uP x_ fun c0 x_ => uP x_ fun c1 x_ => R_RMul.c14 i j out c0 c1 k_) (fun ρ x_ r_ k_ => uP x_ fun a x_ => uP x_ fun b x_ => uP x_ fun a_1 x_ => uP x_ fun b_1 x_ => uP x_ fun i x_ => uP x_ fun j x_ => uP x_ fun t4 x_ => uP x_ fun out x_ => uP x_ fun c0 x_ => uP x_ fun c1 x_ => k_ 0 (Shape.inj R_RMul.c14x0 (a, b, a_1, b_1, i, j, t4, r_, c0, c1, ())))
def R_RMul.c15 {ρ : Type} (i : Int) (j : Int) (out : List ((List ((Bool) × (List Int))) × (Int))) (c0 : Bool) (c1 : List (Int)) (k_ : List ((List ((Bool) × (List Int))) × (Int)) → Option ρ) : Option ρ :=
  bnd (inR (List.length out) (0 : Int)) fun y =>
  bnd (okIf (decide ((0 : Ty.den (Ty.int IntKind.i64)) ≤ IntKind.wrap IntKind.i64 (IntKind.wrap IntKind.i64 (i + j) - (8 : Int))) && decide (IntKind.wrap IntKind.i64 (IntKind.wrap IntKind.i64 (i + j) - (8 : Int)) < (↑(8 : Nat) : Int)))) fun y_1 =>
  bnd (idx out (0 : Int)) fun y_2 =>
  bnd (idx (Prod.fst y_2) (IntKind.wrap IntKind.i64 (IntKind.wrap IntKind.i64 (i + j) - (8 : Int)))) fun y_3 =>
  bnd (W.R_ZSub y_3 (c0, c1)) fun y_4 =>
  bnd (inR (List.length out) (0 : Int)) fun y_5 =>
  bnd (okIf (decide ((0 : Ty.den (Ty.int IntKind.i64)) ≤ IntKind.wrap IntKind.i64 (IntKind.wrap IntKind.i64 (i + j) - (8 : Int))) && decide (IntKind.wrap IntKind.i64 (IntKind.wrap IntKind.i64 (i + j) - (8 : Int)) < (↑(8 : Nat) : Int)))) fun y_6 =>
  bnd (idx out (0 : Int)) fun y_7 =>
  bnd (idx (Prod.fst y_7) (IntKind.wrap IntKind.i64 (IntKind.wrap IntKind.i64 (i + j) - (8 : Int)))) fun y_8 =>
  k_ (List.set out (0 : Nat) (List.set (Prod.fst y_7) (Int.toNat (IntKind.wrap IntKind.i64 (IntKind.wrap IntKind.i64 (i + j) - (8 : Int)))) y_4, Prod.snd y_7))
def R_RMul.c15s : Shape := ⟨[(0, rb32), (1, rb32), (2, rb33), (3, rb33), (4, rb25), (5, rb35), (6, rb3), (7, rb3), (8, rb20)], [(4, rb34), (5, rb34), (8, rb30)]⟩
def R_RMul.c15x0 : Shape := ⟨[(0, rb32), (1, rb32), (2, rb33), (3, rb33), (4, rb25), (5, rb35), (6, rb3), (7, rb3), (8, rb20)], [(4, rb34), (5, rb34), (8, rb30)]⟩
def R_RMul.c15r : Ck := Ck.of (T := List ((List ((Bool) × (List Int))) × (Int))) R_RMul.c15s (fun ρ x_ k_ => uP x_ fun a x_ => uP x_ fun b x_ => uP x_ fun a_1 x_ => uP x_ fun b_1 x_ => uP x_ fun i x_ => uP x_ fun j x_ => uP x_ fun t4 x_ => uP x_ fun out x_ => uP x_ fun c0 x_ => uP x_ fun c1 x_ => R_RMul.c15 i j out c0 c1 k_) (fun ρ x_ r_ k_ => uP x_ fun a x_ => uP x_ fun b x_ => uP x_ fun a_1 x_ => uP x_ fun b_1 x_ => uP x_ fun i x_ => uP x_ fun j x_ => uP x_ fun t4 x_ => uP x_ fun out x_ => uP x_ fun c0 x_ => uP x_ fun c1 x_ => k_ 0 (Shape.inj R_RMul.c15x0 (a, b, a_1, b_1, i, j, t4, r_, c0, c1, ())))
def R_RMul.c245068 {ρ : Type} (a_1 : (List ((Bool) × (List Int))) × (Int)) (b_1 : (List ((Bool) × (List Int))) × (Int)) (i : Int) (j : Int) (out : List ((List ((Bool) × (List Int))) × (Int))) (k_ : List ((List ((Bool) × (List Int))) × (Int)) → Option ρ) : Option ρ :=
  bnd (W.R_RMul.c11 a_1 b_1 i j some) fun y =>
  br y
   (bnd (W.R_RMul.c12 a_1 b_1 i j some) fun y_1 =>
    br (decide (IntKind.wrap IntKind.i64 (i + j) < (8 : Int)))
     (bnd (W.R_RMul.c14 i j out (Prod.fst y_1) (Prod.snd y_1) some) fun y_2 =>
      k_ y_2)
     (bnd (W.R_RMul.c15 i j out (Prod.fst y_1) (Prod.snd y_1) some) fun y_3 =>
      k_ y_3))
   (k_ out)
def R_RMul.c245068s : Shape := ⟨[(0, rb32), (1, rb32), (2, rb33), (3, rb33), (4, rb25), (5, rb35), (6, rb3), (7, rb3)], [(4, rb34), (5, rb34)]⟩
def R_RMul.c245068x0 : Shape := ⟨[(0, rb32), (1, rb32), (2, rb33), (3, rb33), (4, rb25), (5, rb35), (6, rb3), (7, rb3)], [(4, rb34), (5, rb34)]⟩
def R_RMul.c245068r : Ck := Ck.of (T := List ((List ((Bool) × (List Int))) × (Int))) R_RMul.c245068s (fun ρ x_ k_ => uP x_ fun a x_ => uP x_ fun b x_ => uP x_ fun a_1 x_ => uP x_ fun b_1 x_ => uP x_ fun i x_ => uP x_ fun j x_ => uP x_ fun t4 x_ => uP x_ fun out x_ => R_RMul.c245068 a_1 b_1 i j out k_) (fun ρ x_ r_ k_ => uP x_ fun a x_ => uP x_ fun b x_ => uP x_ fun a_1 x_ => uP x_ fun b_1 x_ => uP x_ fun i x_ => uP x_ fun j x_ => uP x_ fun t4 x_ => uP x_ fun out x_ => k_ 0 (Shape.inj R_RMul.c245068x0 (a, b, a_1, b_1, i, j, t4, r_, ())))
def R_RMul.c100009 {ρ : Type} (a_1 : (List ((Bool) × (List Int))) × (Int)) (b_1 : (List ((Bool) × (List Int))) × (Int)) (i : Int) (j : Int) (out : List ((List ((Bool) × (List Int))) × (Int))) (k_ : ((Int) × (List ((List ((Bool) × (List Int))) × (Int)))) ⊕ ((Int) × (List ((List ((Bool) × (List Int))) × (Int)))) → Option ρ) : Option ρ :=
  br (decide (j < (8 : Int)))
   (bnd (W.R_RMul.c245068 a_1 b_1 i j out some) fun y =>
    k_ (.inl ((IntKind.wrap IntKind.i64 (j + (1 : Int))), y)))
   (k_ (.inr (j, out)))
def R_RMul.c100009s : Shape := ⟨[(0, rb32), (1, rb32), (2, rb33), (3, rb33), (4, rb25), (5, rb35), (6, rb3), (7, rb3)], [(4, rb34), (5, rb34)]⟩
def R_RMul.c100009x0 : Shape := ⟨[(0, rb32), (1, rb32), (2, rb33), (3, rb33), (4, rb25), (5, rb35), (6, rb3), (7, rb3)], [(4, rb34), (5, rb34)]⟩
def R_RMul.c100009r : Ck := Ck.ofLoop (S := (Int) × (List ((List ((Bool) × (List Int))) × (Int)))) (T := (Int) × (List ((List ((Bool) × (List Int))) × (Int)))) R_RMul.c100009s (fun x_ => uP x_ fun a x_ => uP x_ fun b x_ => uP x_ fun a_1 x_ => uP x_ fun b_1 x_ => uP x_ fun i x_ => uP x_ fun j x_ => uP x_ fun t4 x_ => uP x_ fun out x_ => (j, out)) (fun ρ x_ s_ k_ => uP x_ fun a x_ => uP x_ fun b x_ => uP x_ fun a_1 x_ => uP x_ fun b_1 x_ => uP x_ fun i x_ => uP x_ fun j x_ => uP x_ fun t4 x_ => uP x_ fun out x_ => R_RMul.c100009 a_1 b_1 i s_.1 s_.2 k_) (fun ρ x_ r_ k_ => uP x_ fun a x_ => uP x_ fun b x_ => uP x_ fun a_1 x_ => uP x_ fun b_1 x_ => uP x_ fun i x_ => uP x_ fun j x_ => uP x_ fun t4 x_ => uP x_ fun out x_ => k_ 4 (Shape.inj R_RMul.c100009x0 (a, b, a_1, b_1, i, r_.1, t4, r_.2, ())))
def R_RMul.c100006 {ρ : Type} (a_1 : (List ((Bool) × (List Int))) × (Int)) (b_1 : (List ((Bool) × (List Int))) × (Int)) (i : Int) (out : List ((List ((Bool) × (List Int))) × (Int))) (k_ : ((Int) × (List ((List ((Bool) × (List Int))) × (Int)))) ⊕ ((Int) × (List ((List ((Bool) × (List Int))) × (Int)))) → Option ρ) : Option ρ :=
  br (decide (i < (8 : Int)))
   (bnd (iter (fun s ↦ W.R_RMul.c100009 a_1 b_1 i (Prod.fst s) (Prod.snd s) some) ((0 : Int), out)) fun y =>
    k_ (.inl ((IntKind.wrap IntKind.i64 (i + (1 : Int))), (Prod.snd y))))
   (k_ (.inr (i, out)))
def R_RMul.c100006s : Shape := ⟨[(0, rb32), (1, rb32), (2, rb33), (3, rb33), (4, rb25), (5, rb35), (6, rb3)], [(4, rb34), (5, rb34)]⟩
def R_RMul.c100006x0 : Shape := ⟨[(0, rb32), (1, rb32), (2, rb33), (3, rb33), (4, rb25), (5, rb35), (6, rb3)], [(4, rb34), (5, rb34)]⟩
def R_RMul.c100006r : Ck := Ck.ofLoop (S := (Int) × (List ((List ((Bool) × (List Int))) × (Int)))) (T := (Int) × (List ((List ((Bool) × (List Int))) × (Int)))) R_RMul.c100006s (fun x_ => uP x_ fun a x_ => uP x_ fun b x_ => uP x_ fun a_1 x_ => uP x_ fun b_1 x_ => uP x_ fun i x_ => uP x_ fun t4 x_ => uP x_ fun out x_ => (i, out)) (fun ρ x_ s_ k_ => uP x_ fun a x_ => uP x_ fun b x_ => uP x_ fun a_1 x_ => uP x_ fun b_1 x_ => uP x_ fun i x_ => uP x_ fun t4 x_ => uP x_ fun out x_ => R_RMul.c100006 a_1 b_1 s_.1 s_.2 k_) (fun ρ x_ r_ k_ => uP x_ fun a x_ => uP x_ fun b x_ => uP x_ fun a_1 x_ => uP x_ fun b_1 x_ => uP x_ fun i x_ => uP x_ fun t4 x_ => uP x_ fun out x_ => k_ 2 (Shape.inj R_RMul.c100006x0 (a, b, a_1, b_1, r_.1, t4, r_.2, ())))
def R_RMul (a : (List ((Bool) × (List Int))) × (Int)) (b : (List ((Bool) × (List Int))) × (Int)) : Option ((List ((Bool) × (List Int))) × (Int)) :=
  bnd (W.R_RMul.c1 a b some) fun y =>
  br y
   (some (List.replicate (8 : Nat) (false, []), (0 : Int)))
   (bnd (iter (fun s ↦ W.R_RMul.c100006 a b (Prod.fst s) (Prod.snd s) some) ((0 : Int), [(List.replicate (8 : Nat) (false, []), IntKind.wrap IntKind.i64 (Prod.snd a + Prod.snd b))])) fun y_1 =>
    bnd (idx (Prod.snd y_1) (0 : Int)) fun y_2 =>
    bnd (W.R_rleast y_2) fun y_3 =>
    some y_3)
def R_RMul.ce : Go.Ql.Callee := ⟨[(.st (.pair (.ar 8 (.st (.pair .bool (.sl (.int .i64))))) (.int .i64))), (.st (.pair (.ar 8 (.st (.pair .bool (.sl (.int .i64))))) (.int .i64)))], [(.st (.pair (.ar 8 (.st (.pair .bool (.sl (.int .i64))))) (.int .i64)))], fun x_ => R_RMul x_.1 x_.2⟩
def R_RMul.G : Env := ⟨90, tab, [(39, R_RZero.ce), (50, R_ZMul.ce), (48, R_ZAdd.ce), (51, R_ZSub.ce), (40, R_rleast.ce)], [0, 1, 2, 3, 4, 5, 6, 7, 8, 14, 24, 28, 46, 59], [4, 5, 15, 16, 8000002, 8000003], [(15, [⟨[], [], [74, 77, 78, 79, 80, 81, 82, 83, 84, 85, 86], []⟩, ⟨[], [], [73, 77, 78, 79, 80, 81, 82, 83, 84, 85, 86], []⟩, ⟨[0, 1], [], [77, 78, 79, 80, 81, 82, 83, 84, 85, 86], []⟩, ⟨[2, 0, 1], [], [77, 78, 79, 80, 81, 82, 83, 84, 85, 86], []⟩, ⟨[], [], [73, 74, 75, 76, 78, 81, 84, 86], []⟩, ⟨[], [], [73, 74, 75, 76, 77, 81, 84, 86], []⟩, ⟨[4, 5], [], [73, 74, 75, 76, 81, 84, 86], []⟩, ⟨[6, 4, 5], [], [73, 74, 75, 76, 81, 84, 86], []⟩, ⟨[], [], [73, 74, 75, 76, 77, 78, 79, 80, 84, 86], []⟩, ⟨[8, 7, 6, 4, 5], [], [73, 74, 75, 76, 84, 86], []⟩, ⟨[9, 8, 7, 6, 4, 5], [], [73, 74, 75, 76, 84, 86], []⟩, ⟨[], [], [73, 74, 75, 76, 77, 78, 79, 80, 81, 82, 83, 86], []⟩, ⟨[10, 9, 8, 7, 6, 4, 5, 11], [], [73, 74, 75, 76, 86], []⟩, ⟨[], [], [73, 74, 75, 76, 77, 78, 79, 80, 81, 82, 83, 84, 85], []⟩, ⟨[13, 3, 2, 0, 1, 4, 5, 6, 7, 8, 9, 10, 11, 12], [], [], []⟩, ⟨[14, 13, 3, 2, 0, 1, 4, 5, 6, 7, 8, 9, 10, 11, 12], [5], [], []⟩]),
  (14, [⟨[], [], [61, 63, 64, 65, 66, 67, 68, 69, 70, 71], []⟩, ⟨[], [], [60, 63, 64, 65, 66, 67, 68, 69, 70, 71], []⟩, ⟨[0, 1], [], [63, 64, 65, 66, 67, 68, 69, 70, 71], []⟩, ⟨[], [], [60, 61, 62, 64, 66, 69, 71], []⟩, ⟨[], [], [60, 61, 62, 63, 66, 69, 71], []⟩, ⟨[3, 4], [], [60, 61, 62, 66, 69, 71], []⟩, ⟨[], [], [60, 61, 62, 63, 64, 65, 69, 71], []⟩, ⟨[6, 5, 3, 4], [], [60, 61, 62, 69, 71], []⟩, ⟨[7, 6, 5, 3, 4], [], [60, 61, 62, 69, 71], []⟩, ⟨[], [], [60, 61, 62, 63, 64, 65, 66, 67, 68, 71], []⟩, ⟨[8, 7, 6, 5, 3, 4, 9], [], [60, 61, 62, 71], []⟩, ⟨[], [], [60, 61, 62, 63, 64, 65, 66, 67, 68, 69, 70], []⟩, ⟨[11, 2, 0, 1, 3, 4, 5, 6, 7, 8, 9, 10], [], [], []⟩, ⟨[12, 11, 2, 0, 1, 3, 4, 5, 6, 7, 8, 9, 10], [5], [], []⟩]),
  (12, [⟨[], [], [48, 51, 52, 53, 54, 8], [8]⟩, ⟨[], [], [47, 51, 52, 53, 54, 8], [8]⟩, ⟨[1, 0], [], [51, 52, 53, 54, 8], [8]⟩, ⟨[2, 1, 0], [], [51, 52, 53, 54, 8], [8]⟩, ⟨[], [], [47, 48, 49, 50, 52, 8], [8]⟩, ⟨[], [], [47, 48, 49, 50, 51, 8], [8]⟩, ⟨[5, 4], [], [47, 48, 49, 50, 8], [8]⟩, ⟨[6, 5, 4], [], [47, 48, 49, 50, 8], [8]⟩, ⟨[3, 2, 1, 0, 7, 6, 5, 4], [], [8], [8]⟩, ⟨[], [8], [47, 48, 49, 50, 51, 52, 53, 54, 55], []⟩, ⟨[9, 8, 3, 2, 1, 0, 7, 6, 5, 4], [8], [], []⟩])], [(100006, R_RMul.c100006r), (100009, R_RMul.c100009r), (245068, R_RMul.c245068r), (15, R_RMul.c15r), (14, R_RMul.c14r), (12, R_RMul.c12r), (11, R_RMul.c11r), (1, R_RMul.c1r)], [], tab_eqs⟩
theorem R_RMul.eq (x_ : dens [(.st (.pair (.ar 8 (.st (.pair .bool (.sl (.int .i64))))) (.int .i64))), (.st (.pair (.ar 8 (.st (.pair .bool (.sl (.int .i64))))) (.int .i64)))]) : den R_RMul.G Go.Proofs.Tryd.f15 [(.st (.pair (.ar 8 (.st (.pair .bool (.sl (.int .i64))))) (.int .i64))), (.st (.pair (.ar 8 (.st (.pair .bool (.sl (.int .i64))))) (.int .i64)))] [(.st (.pair (.ar 8 (.st (.pair .bool (.sl (.int .i64))))) (.int .i64)))] x_ = R_RMul x_.1 x_.2 := by kernel_rfl
theorem R_RMul.p0 : PieceOk R_RMul.G (pieceAt (pieces R_RMul.G.cks (bodyOf Go.Proofs.Tryd.f15)) 0).1 (pieceAt (pieces R_RMul.G.cks (bodyOf Go.Proofs.Tryd.f15)) 0).2 :=
  region_ok (s := R_RMul.c1r) (by kernel_rfl) (by kernel_rfl) (sums_of (sh := R_RMul.c1s) (fun ρ x_ k_ => (nat_bnd fun _ => (nat_br nat_leaf (nat_bnd fun _ => nat_leaf)))) (fun ρ x_ t k => (by kernel_rfl)) (fun x_ => by kernel_rfl))
theorem R_RMul.p1 : PieceOk R_RMul.G (pieceAt (pieces R_RMul.G.cks (bodyOf Go.Proofs.Tryd.f15)) 1).1 (pieceAt (pieces R_RMul.G.cks (bodyOf Go.Proofs.Tryd.f15)) 1).2 :=
  loop_ok (s := R_RMul.c100006r) (by kernel_rfl) (by kernel_rfl) (loops_of (sh := R_RMul.c100006s) (I := fun x_ s_ => (x_.1, x_.2.1, x_.2.2.1, x_.2.2.2.1, s_.1, x_.2.2.2.2.2.1, s_.2, ())) (fun x_ => rfl) (fun ρ x_ s_ k_ => (nat_br (nat_bnd fun _ => nat_leaf) nat_leaf)) (fun ρ x_ t k => (by kernel_rfl)) (fun x_ s => by kernel_rfl))
theorem R_RMul.p2 : PieceOk R_RMul.G (pieceAt (pieces R_RMul.G.cks (bodyOf Go.Proofs.Tryd.f15)) 2).1 (pieceAt (pieces R_RMul.G.cks (bodyOf Go.Proofs.Tryd.f15)) 2).2 :=
  loop_ok (s := R_RMul.c100009r) (by kernel_rfl) (by kernel_rfl) (loops_of (sh := R_RMul.c100009s) (I := fun x_ s_ => (x_.1, x_.2.1, x_.2.2.1, x_.2.2.2.1, x_.2.2.2.2.1, s_.1, x_.2.2.2.2.2.2.1, s_.2, ())) (fun x_ => rfl) (fun ρ x_ s_ k_ => (nat_br (nat_bnd fun _ => nat_leaf) nat_leaf)) (fun ρ x_ t k => (by kernel_rfl)) (fun x_ s => by kernel_rfl))
theorem R_RMul.p3 : PieceOk R_RMul.G (pieceAt (pieces R_RMul.G.cks (bodyOf Go.Proofs.Tryd.f15)) 3).1 (pieceAt (pieces R_RMul.G.cks (bodyOf Go.Proofs.Tryd.f15)) 3).2 :=
  join_ok (s := R_RMul.c245068r) (by kernel_rfl) (by kernel_rfl) (sums_of (sh := R_RMul.c245068s) (fun ρ x_ k_ => (nat_bnd fun _ => (nat_br (nat_bnd fun _ => (nat_br (nat_bnd fun _ => nat_leaf) (nat_bnd fun _ => nat_leaf))) nat_leaf))) (fun ρ x_ t k => (by kernel_rfl)) (fun x_ => by kernel_rfl))
theorem R_RMul.p4 : PieceOk R_RMul.G (pieceAt (pieces R_RMul.G.cks (bodyOf Go.Proofs.Tryd.f15)) 4).1 (pieceAt (pieces R_RMul.G.cks (bodyOf Go.Proofs.Tryd.f15)) 4).2 :=
  region_ok (s := R_RMul.c11r) (by kernel_rfl) (by kernel_rfl) (sums_of (sh := R_RMul.c11s) (fun ρ x_ k_ => (nat_bnd fun _ => (nat_br (nat_bnd fun _ => nat_leaf) nat_leaf))) (fun ρ x_ t k => (by kernel_rfl)) (fun x_ => by kernel_rfl))
theorem R_RMul.p5 : PieceOk R_RMul.G (pieceAt (pieces R_RMul.G.cks (bodyOf Go.Proofs.Tryd.f15)) 5).1 (pieceAt (pieces R_RMul.G.cks (bodyOf Go.Proofs.Tryd.f15)) 5).2 :=
  region_ok (s := R_RMul.c12r) (by kernel_rfl) (by kernel_rfl) (sums_of (sh := R_RMul.c12s) (fun ρ x_ k_ => (nat_bnd fun _ => (nat_bnd fun _ => (nat_bnd fun _ => nat_leaf)))) (fun ρ x_ t k => (by kernel_rfl)) (fun x_ => by kernel_rfl))
theorem R_RMul.p6 : PieceOk R_RMul.G (pieceAt (pieces R_RMul.G.cks (bodyOf Go.Proofs.Tryd.f15)) 6).1 (pieceAt (pieces R_RMul.G.cks (bodyOf Go.Proofs.Tryd.f15)) 6).2 :=
  region_ok (s := R_RMul.c14r) (by kernel_rfl) (by kernel_rfl) (sums_of (sh := R_RMul.c14s) (fun ρ x_ k_ => (nat_bnd fun _ => (nat_bnd fun _ => (nat_bnd fun _ => (nat_bnd fun _ => (nat_bnd fun _ => (nat_bnd fun _ => (nat_bnd fun _ => (nat_bnd fun _ => (nat_bnd fun _ => nat_leaf)))))))))) (fun ρ x_ t k => (by kernel_rfl)) (fun x_ => by kernel_rfl))
theorem R_RMul.p7 : PieceOk R_RMul.G (pieceAt (pieces R_RMul.G.cks (bodyOf Go.Proofs.Tryd.f15)) 7).1 (pieceAt (pieces R_RMul.G.cks (bodyOf Go.Proofs.Tryd.f15)) 7).2 :=
  region_ok (s := R_RMul.c15r) (by kernel_rfl) (by kernel_rfl) (sums_of (sh := R_RMul.c15s) (fun ρ x_ k_ => (nat_bnd fun _ => (nat_bnd fun _ => (nat_bnd fun _ => (nat_bnd fun _ => (nat_bnd fun _ => (nat_bnd fun _ => (nat_bnd fun _ => (nat_bnd fun _ => (nat_bnd fun _ => nat_leaf)))))))))) (fun ρ x_ t k => (by kernel_rfl)) (fun x_ => by kernel_rfl))
theorem R_RMul.ok : CalleeOk Go.Proofs.Tryd.prog 15 R_RMul.ce := fn_ok (G := R_RMul.G) tab_ok mixed Go.Proofs.Tryd.func15 ⟨(fns_cons R_RZero.ok (fns_cons R_ZMul.ok (fns_cons R_ZAdd.ok (fns_cons R_ZSub.ok (fns_cons R_rleast.ok fns_nil))))), mfns_nil, tab_eqs_ok⟩ (m := 8) (by kernel_rfl) ⟨⟨⟨⟨⟨⟨⟨⟨trivial, R_RMul.p0⟩, R_RMul.p1⟩, R_RMul.p2⟩, R_RMul.p3⟩, R_RMul.p4⟩, R_RMul.p5⟩, R_RMul.p6⟩, R_RMul.p7⟩ (by kernel_rfl) R_RMul.eq
def R_RMake.c1 {ρ : Type} (e : Int) (k_ : Bool → Option ρ) : Option ρ :=
  br (decide (e < (-10000 : Int)))
   (k_ true)
   (k_ (decide (e > (10000 : Int))))
def R_RMake.c1s : Shape := ⟨[(0, rb27), (1, rb3), (4, rb25), (5, rb18)], [(4, rb34), (5, rb19)]⟩
def R_RMake.c1x0 : Shape := ⟨[(0, rb27), (1, rb3), (4, rb25), (5, rb18), (13, rb0)], [(4, rb34), (5, rb19)]⟩
def R_RMake.c1r : Ck := Ck.of (T := Bool) R_RMake.c1s (fun ρ x_ k_ => uP x_ fun cs x_ => uP x_ fun e x_ => uP x_ fun t4 x_ => uP x_ fun t50 x_ => uP x_ fun t51 x_ => R_RMake.c1 e k_) (fun ρ x_ r_ k_ => uP x_ fun cs x_ => uP x_ fun e x_ => uP x_ fun t4 x_ => uP x_ fun t50 x_ => uP x_ fun t51 x_ => k_ 0 (Shape.inj R_RMake.c1x0 (cs, e, r_, t4, t50, t51, ())))
def R_RMake.c7 {ρ : Type} (cs : List (Int)) (i : Int) (a : List ((List ((Bool) × (List Int))) × (Int))) (k_ : List ((List ((Bool) × (List Int))) × (Int)) → Option ρ) : Option ρ :=
  bnd (idx a (0 : Int)) fun y =>
  bnd (idx cs i) fun y_1 =>
  bnd (W.R_ZOf y_1) fun y_2 =>
  bnd (W.R_ROf y_2) fun y_3 =>
  bnd (W.R_RTurn y_3 i) fun y_4 =>
  bnd (W.R_RAdd y y_4) fun y_5 =>
  bnd (idx a (0 : Int)) fun y_6 =>
  k_ (List.set a (0 : Nat) y_5)
def R_RMake.c7s : Shape := ⟨[(0, rb27), (1, rb3), (4, rb25), (5, rb18), (6, rb28), (7, rb3)], [(4, rb34), (5, rb19), (6, rb34)]⟩
def R_RMake.c7x0 : Shape := ⟨[(0, rb27), (1, rb3), (4, rb25), (5, rb18), (6, rb28), (7, rb3)], [(4, rb34), (5, rb19), (6, rb34)]⟩
def R_RMake.c7r : Ck := Ck.of (T := List ((List ((Bool) × (List Int))) × (Int))) R_RMake.c7s (fun ρ x_ k_ => uP x_ fun cs x_ => uP x_ fun e x_ => uP x_ fun i x_ => uP x_ fun t4 x_ => uP x_ fun t50 x_ => uP x_ fun t51 x_ => uP x_ fun a x_ => R_RMake.c7 cs i a k_) (fun ρ x_ r_ k_ => uP x_ fun cs x_ => uP x_ fun e x_ => uP x_ fun i x_ => uP x_ fun t4 x_ => uP x_ fun t50 x_ => uP x_ fun t51 x_ => uP x_ fun a x_ => k_ 0 (Shape.inj R_RMake.c7x0 (cs, e, i, t4, t50, t51, r_, ())))
def R_RMake.c100005 {ρ : Type} (cs : List (Int)) (i : Int) (a : List ((List ((Bool) × (List Int))) × (Int))) (k_ : ((Int) × (List ((List ((Bool) × (List Int))) × (Int)))) ⊕ ((Int) × (List ((List ((Bool) × (List Int))) × (Int)))) → Option ρ) : Option ρ :=
  br (decide (i < (↑(List.length cs) : Int)))
   (bnd (W.R_RMake.c7 cs i a some) fun y =>
    k_ (.inl ((IntKind.wrap IntKind.i64 (i + (1 : Int))), y)))
   (k_ (.inr (i, a)))
def R_RMake.c100005s : Shape := ⟨[(0, rb27), (1, rb3), (4, rb25), (5, rb18), (6, rb28), (7, rb3)], [(4, rb34), (5, rb19), (6, rb34)]⟩
def R_RMake.c100005x0 : Shape := ⟨[(0, rb27), (1, rb3), (4, rb25), (5, rb18), (6, rb28), (7, rb3)], [(4, rb34), (5, rb19), (6, rb34)]⟩
def R_RMake.c100005r : Ck := Ck.ofLoop (S := (Int) × (List ((List ((Bool) × (List Int))) × (Int)))) (T := (Int) × (List ((List ((Bool) × (List Int))) × (Int)))) R_RMake.c100005s (fun x_ => uP x_ fun cs x_ => uP x_ fun e x_ => uP x_ fun i x_ => uP x_ fun t4 x_ => uP x_ fun t50 x_ => uP x_ fun t51 x_ => uP x_ fun a x_ => (i, a)) (fun ρ x_ s_ k_ => uP x_ fun cs x_ => uP x_ fun e x_ => uP x_ fun i x_ => uP x_ fun t4 x_ => uP x_ fun t50 x_ => uP x_ fun t51 x_ => uP x_ fun a x_ => R_RMake.c100005 cs s_.1 s_.2 k_) (fun ρ x_ r_ k_ => uP x_ fun cs x_ => uP x_ fun e x_ => uP x_ fun i x_ => uP x_ fun t4 x_ => uP x_ fun t50 x_ => uP x_ fun t51 x_ => uP x_ fun a x_ => k_ 2 (Shape.inj R_RMake.c100005x0 (cs, e, r_.1, t4, t50, t51, r_.2, ())))
def R_RMake.c9 {ρ : Type} (e : Int) (t4 : List ((List ((Bool) × (List Int))) × (Int))) (a : List ((List ((Bool) × (List Int))) × (Int))) (k_ : List ((List ((Bool) × (List Int))) × (Int)) → Option ρ) : Option ρ :=
  bnd (idx a (0 : Int)) fun y =>
  bnd (W.R_ZPow2 (IntKind.wrap IntKind.i64 ((0 : Int) - e))) fun y_1 =>
  bnd (W.R_ROf y_1) fun y_2 =>
  bnd (W.R_RMul y y_2) fun y_3 =>
  bnd (idx t4 (0 : Int)) fun y_4 =>
  k_ (List.set t4 (0 : Nat) y_3)
def R_RMake.c9s : Shape := ⟨[(0, rb27), (1, rb3), (4, rb25), (5, rb18), (6, rb28), (7, rb3)], [(4, rb34), (5, rb19), (6, rb34)]⟩
def R_RMake.c9x0 : Shape := ⟨[(0, rb27), (1, rb3), (4, rb25), (5, rb18), (6, rb28), (7, rb3)], [(4, rb34), (5, rb19), (6, rb34)]⟩
def R_RMake.c9r : Ck := Ck.of (T := List ((List ((Bool) × (List Int))) × (Int))) R_RMake.c9s (fun ρ x_ k_ => uP x_ fun cs x_ => uP x_ fun e x_ => uP x_ fun i x_ => uP x_ fun t4 x_ => uP x_ fun t50 x_ => uP x_ fun t51 x_ => uP x_ fun a x_ => R_RMake.c9 e t4 a k_) (fun ρ x_ r_ k_ => uP x_ fun cs x_ => uP x_ fun e x_ => uP x_ fun i x_ => uP x_ fun t4 x_ => uP x_ fun t50 x_ => uP x_ fun t51 x_ => uP x_ fun a x_ => k_ 0 (Shape.inj R_RMake.c9x0 (cs, e, i, r_, (0 : Int), (0 : Int), a, ())))
def R_RMake (cs : List (Int)) (e : Int) : Option (((List ((Bool) × (List Int))) × (Int)) × ((Int) × (Int))) :=
  bnd (W.R_RMake.c1 e some) fun y =>
  br y
   (some ((List.replicate (8 : Nat) (false, []), (0 : Int)), (5 : Int), (0 : Int)))
   (bnd (iter (fun s ↦ W.R_RMake.c100005 cs (Prod.fst s) (Prod.snd s) some) ((0 : Int), [(List.replicate (8 : Nat) (false, []), (0 : Int))])) fun y_1 =>
    br (decide (e < (0 : Int)))
     (bnd (W.R_RMake.c9 e [(List.replicate (8 : Nat) (false, []), (0 : Int))] (Prod.snd y_1) some) fun y_2 =>
      bnd (idx y_2 (0 : Int)) fun y_3 =>
      some (y_3, (0 : Int), (0 : Int)))
     (bnd (inR (List.length (Prod.snd y_1)) (0 : Int)) fun y_4 =>
      bnd (idx (Prod.snd y_1) (0 : Int)) fun y_5 =>
      bnd (idx (List.set (Prod.snd y_1) (0 : Nat) (Prod.fst y_5, e)) (0 : Int)) fun y_6 =>
      bnd (W.R_RZero y_6) fun y_7 =>
      br y_7
       (some ((List.replicate (8 : Nat) (false, []), (0 : Int)), (0 : Int), (0 : Int)))
       (bnd (idx (List.set (Prod.snd y_1) (0 : Nat) (Prod.fst y_5, e)) (0 : Int)) fun y_8 =>
        bnd (W.R_rleast y_8) fun y_9 =>
        some (y_9, (0 : Int), (0 : Int)))))
def R_RMake.ce : Go.Ql.Callee := ⟨[(.sl (.int .i64)), (.int .i64)], [(.st (.pair (.ar 8 (.st (.pair .bool (.sl (.int .i64))))) (.int .i64))), (.st (.pair (.int .i64) (.int .i64)))], fun x_ => R_RMake x_.1 x_.2⟩
def R_RMake.G : Env := ⟨51, tab, [(27, R_ZOf.ce), (26, R_ROf.ce), (37, R_RTurn.ce), (11, R_RAdd.ce), (38, R_ZPow2.ce), (15, R_RMul.ce), (39, R_RZero.ce), (40, R_rleast.ce)], [0, 1, 4, 5, 6, 7, 13, 20, 34, 45], [4, 6, 14, 16, 46], [(9, [⟨[], [], [36, 37, 38, 39, 41], []⟩, ⟨[], [], [35, 41], []⟩, ⟨[1], [], [35, 41], []⟩, ⟨[2, 1], [], [35, 41], []⟩, ⟨[3, 2, 1], [], [35, 41], []⟩, ⟨[0, 4, 3, 2, 1], [], [41], []⟩, ⟨[], [], [35, 36, 37, 38, 39, 40], [4]⟩, ⟨[5, 0, 4, 3, 2, 1], [4], [41], []⟩, ⟨[6, 7, 5, 0, 4, 3, 2, 1], [5], [], []⟩]),
  (7, [⟨[], [], [24, 25, 26, 27, 28, 29, 30, 31], []⟩, ⟨[], [], [23, 25, 30], []⟩, ⟨[], [], [23, 24, 30], []⟩, ⟨[1, 2], [], [23, 30], []⟩, ⟨[3, 1, 2], [], [23, 30], []⟩, ⟨[4, 3, 1, 2], [], [23, 30], []⟩, ⟨[5, 4, 3, 1, 2], [], [23, 30], []⟩, ⟨[], [], [23, 24, 25, 26, 27, 28, 29], []⟩, ⟨[6, 5, 4, 3, 1, 2, 7], [], [23], []⟩, ⟨[0, 8, 6, 5, 4, 3, 1, 2, 7], [], [], []⟩, ⟨[9, 0, 8, 6, 5, 4, 3, 1, 2, 7], [6], [], []⟩])], [(9, R_RMake.c9r), (100005, R_RMake.c100005r), (7, R_RMake.c7r), (1, R_RMake.c1r)], [], tab_eqs⟩
theorem R_RMake.eq (x_ : dens [(.sl (.int .i64)), (.int .i64)]) : den R_RMake.G Go.Proofs.Tryd.f6 [(.sl (.int .i64)), (.int .i64)] [(.st (.pair (.ar 8 (.st (.pair .bool (.sl (.int .i64))))) (.int .i64))), (.st (.pair (.int .i64) (.int .i64)))] x_ = R_RMake x_.1 x_.2 := by kernel_rfl
theorem R_RMake.p0 : PieceOk R_RMake.G (pieceAt (pieces R_RMake.G.cks (bodyOf Go.Proofs.Tryd.f6)) 0).1 (pieceAt (pieces R_RMake.G.cks (bodyOf Go.Proofs.Tryd.f6)) 0).2 :=
  region_ok (s := R_RMake.c1r) (by kernel_rfl) (by kernel_rfl) (sums_of (sh := R_RMake.c1s) (fun ρ x_ k_ => (nat_br nat_leaf nat_leaf)) (fun ρ x_ t k => (by kernel_rfl)) (fun x_ => by kernel_rfl))
theorem R_RMake.p1 : PieceOk R_RMake.G (pieceAt (pieces R_RMake.G.cks (bodyOf Go.Proofs.Tryd.f6)) 1).1 (pieceAt (pieces R_RMake.G.cks (bodyOf Go.Proofs.Tryd.f6)) 1).2 :=
  loop_ok (s := R_RMake.c100005r) (by kernel_rfl) (by kernel_rfl) (loops_of (sh := R_RMake.c100005s) (I := fun x_ s_ => (x_.1, x_.2.1, s_.1, x_.2.2.2.1, x_.2.2.2.2.1, x_.2.2.2.2.2.1, s_.2, ())) (fun x_ => rfl) (fun ρ x_ s_ k_ => (nat_br (nat_bnd fun _ => nat_leaf) nat_leaf)) (fun ρ x_ t k => (by kernel_rfl)) (fun x_ s => by kernel_rfl))
theorem R_RMake.p2 : PieceOk R_RMake.G (pieceAt (pieces R_RMake.G.cks (bodyOf Go.Proofs.Tryd.f6)) 2).1 (pieceAt (pieces R_RMake.G.cks (bodyOf Go.Proofs.Tryd.f6)) 2).2 :=
  region_ok (s := R_RMake.c7r) (by kernel_rfl) (by kernel_rfl) (sums_of (sh := R_RMake.c7s) (fun ρ x_ k_ => (nat_bnd fun _ => (nat_bnd fun _ => (nat_bnd fun _ => (nat_bnd fun _ => (nat_bnd fun _ => (nat_bnd fun _ => (nat_bnd fun _ => nat_leaf)))))))) (fun ρ x_ t k => (by kernel_rfl)) (fun x_ => by kernel_rfl))
theorem R_RMake.p3 : PieceOk R_RMake.G (pieceAt (pieces R_RMake.G.cks (bodyOf Go.Proofs.Tryd.f6)) 3).1 (pieceAt (pieces R_RMake.G.cks (bodyOf Go.Proofs.Tryd.f6)) 3).2 :=
  region_ok (s := R_RMake.c9r) (by kernel_rfl) (by kernel_rfl) (sums_of (sh := R_RMake.c9s) (fun ρ x_ k_ => (nat_bnd fun _ => (nat_bnd fun _ => (nat_bnd fun _ => (nat_bnd fun _ => (nat_bnd fun _ => nat_leaf)))))) (fun ρ x_ t k => (by kernel_rfl)) (fun x_ => by kernel_rfl))
theorem R_RMake.ok : CalleeOk Go.Proofs.Tryd.prog 6 R_RMake.ce := fn_ok (G := R_RMake.G) tab_ok mixed Go.Proofs.Tryd.func6 ⟨(fns_cons R_ZOf.ok (fns_cons R_ROf.ok (fns_cons R_RTurn.ok (fns_cons R_RAdd.ok (fns_cons R_ZPow2.ok (fns_cons R_RMul.ok (fns_cons R_RZero.ok (fns_cons R_rleast.ok fns_nil)))))))), mfns_nil, tab_eqs_ok⟩ (m := 4) (by kernel_rfl) ⟨⟨⟨⟨trivial, R_RMake.p0⟩, R_RMake.p1⟩, R_RMake.p2⟩, R_RMake.p3⟩ (by kernel_rfl) R_RMake.eq
def ring_Rt  : Option ((List ((Bool) × (List Int))) × (Int)) :=
  bnd (W.whole_Of (1 : Int)) fun y =>
  bnd (W.whole_Of (-1 : Int)) fun y_1 =>
  some (List.set (List.set (List.replicate (8 : Nat) (false, [])) (2 : Nat) y) (6 : Nat) y_1, (1 : Int))
def ring_Rt.ce : Go.Ql.Callee := ⟨[], [(.st (.pair (.ar 8 (.st (.pair .bool (.sl (.int .u32))))) (.int .i64)))], fun x_ => ring_Rt⟩
def ring_Rt.G : Env := ⟨5, tab, [(25, whole_Of.ce)], [0], [0, 4], [], [], [], tab_eqs⟩
theorem ring_Rt.eq (x_ : dens []) : den ring_Rt.G Go.Proofs.Tryd.f32 [] [(.st (.pair (.ar 8 (.st (.pair .bool (.sl (.int .u32))))) (.int .i64)))] x_ = ring_Rt := by kernel_rfl
theorem ring_Rt.ok : CalleeOk Go.Proofs.Tryd.prog 32 ring_Rt.ce := fn_ok (G := ring_Rt.G) tab_ok mixed Go.Proofs.Tryd.func32 ⟨(fns_cons whole_Of.ok fns_nil), mfns_nil, tab_eqs_ok⟩ (m := 0) (by kernel_rfl) trivial (by kernel_rfl) ring_Rt.eq
def slices_Clone_uint32.pre : Shape := ⟨[(0, rb1)], []⟩
def slices_Clone_uint32.post : Shape := ⟨[(0, rb14)], [(0, rb9)]⟩
def slices_Clone_uint32 (s : List (Int)) : Option ((List Int) × Unit) :=
  br (List.isEmpty s)
   (both
     (some ([], ()))
     (bnd (okIf (decide (((0 : Nat) + List.length s) * (4 : Nat) ≤ (140737488355328 : Nat)) && decide ((0 : Nat) + List.length s ≤ (140737488355328 : Nat)))) fun y =>
      some (s, ())))
   (bnd (okIf (decide (((0 : Nat) + List.length s) * (4 : Nat) ≤ (140737488355328 : Nat)) && decide ((0 : Nat) + List.length s ≤ (140737488355328 : Nat)))) fun y_1 =>
    some (s, ()))
def slices_Clone_uint32.mc : MCallee := ⟨67, slices_Clone_uint32.pre, slices_Clone_uint32.post, fun x_ => slices_Clone_uint32 x_.1⟩
def slices_Clone_uint32.G : Env := ⟨8, tab, [], [0, 2, 4], [2, 5], [], [], [], tab_eqs⟩
theorem slices_Clone_uint32.eq (x_ : densU slices_Clone_uint32.mc.pre.tys) : denM slices_Clone_uint32.G Go.Proofs.Tryd.f67 slices_Clone_uint32.mc.pre slices_Clone_uint32.mc.post x_ = slices_Clone_uint32.mc.F x_ := by kernel_rfl
theorem slices_Clone_uint32.ok : MOk Go.Proofs.Tryd.prog 67 slices_Clone_uint32.mc := fnm_ok (G := slices_Clone_uint32.G) tab_ok mixed Go.Proofs.Tryd.func67 ⟨fns_nil, mfns_nil, tab_eqs_ok⟩ (m := 0) (by kernel_rfl) trivial (by kernel_rfl) slices_Clone_uint32.eq
abbrev rb42 : SD := .one (.own 2000000 0)
abbrev rb43 : SO := .arr 0 false 5 (.int .u8)
def slices_Reverse_byte.pre : Shape := ⟨[(0, rb42)], [(2000000, rb43)]⟩
def slices_Reverse_byte.post : Shape := ⟨[], [(2000000, rb43)]⟩
def slices_Reverse_byte.c3 {ρ : Type} (i : Int) (j : Int) (t2000000 : List (Int)) (k_ : List (Int) → Option ρ) : Option ρ :=
  bnd (inR (List.length t2000000) j) fun y =>
  bnd (idx t2000000 j) fun y_1 =>
  bnd (inR (List.length t2000000) i) fun y_2 =>
  bnd (idx t2000000 i) fun y_3 =>
  bnd (inR (List.length t2000000) i) fun y_4 =>
  bnd (idx t2000000 i) fun y_5 =>
  bnd (inR (List.length (List.set t2000000 (Int.toNat i) y_1)) j) fun y_6 =>
  bnd (idx (List.set t2000000 (Int.toNat i) y_1) j) fun y_7 =>
  k_ (List.set (List.set t2000000 (Int.toNat i) y_1) (Int.toNat j) y_3)
def slices_Reverse_byte.c3s : Shape := ⟨[(0, rb42), (2, rb3), (3, rb3)], [(2000000, rb43)]⟩
def slices_Reverse_byte.c3x0 : Shape := ⟨[(0, rb42), (2, rb3), (3, rb3)], [(2000000, rb43)]⟩
def slices_Reverse_byte.c3r : Ck := Ck.of (T := List (Int)) slices_Reverse_byte.c3s (fun ρ x_ k_ => uP x_ fun i x_ => uP x_ fun j x_ => uP x_ fun t2000000 x_ => slices_Reverse_byte.c3 i j t2000000 k_) (fun ρ x_ r_ k_ => uP x_ fun i x_ => uP x_ fun j x_ => uP x_ fun t2000000 x_ => k_ 0 (Shape.inj slices_Reverse_byte.c3x0 (i, j, r_, ())))
def slices_Reverse_byte.c100001 {ρ : Type} (i : Int) (j : Int) (t2000000 : List (Int)) (k_ : ((Int) × (Int) × (List Int)) ⊕ ((Int) × (Int) × (List Int)) → Option ρ) : Option ρ :=
  br (decide (i < j))
   (bnd (W.slices_Reverse_byte.c3 i j t2000000 some) fun y =>
    k_ (.inl ((IntKind.wrap IntKind.i64 (i + (1 : Int))), (IntKind.wrap IntKind.i64 (j - (1 : Int))), y)))
   (k_ (.inr (i, j, t2000000)))
def slices_Reverse_byte.c100001s : Shape := ⟨[(0, rb42), (2, rb3), (3, rb3)], [(2000000, rb43)]⟩
def slices_Reverse_byte.c100001x0 : Shape := ⟨[(0, rb42), (2, rb3), (3, rb3)], [(2000000, rb43)]⟩
def slices_Reverse_byte.c100001r : Ck := Ck.ofLoop (S := (Int) × (Int) × (List Int)) (T := (Int) × (Int) × (List Int)) slices_Reverse_byte.c100001s (fun x_ => uP x_ fun i x_ => uP x_ fun j x_ => uP x_ fun t2000000 x_ => (i, j, t2000000)) (fun ρ x_ s_ k_ => uP x_ fun i x_ => uP x_ fun j x_ => uP x_ fun t2000000 x_ => slices_Reverse_byte.c100001 s_.1 s_.2.1 s_.2.2 k_) (fun ρ x_ r_ k_ => uP x_ fun i x_ => uP x_ fun j x_ => uP x_ fun t2000000 x_ => k_ 2 (Shape.inj slices_Reverse_byte.c100001x0 (r_.1, r_.2.1, r_.2.2, ())))
def slices_Reverse_byte (t2000000 : List (Int)) : Option ((List Int) × Unit) :=
  bnd (iter (fun s ↦ W.slices_Reverse_byte.c100001 (Prod.fst s) (Prod.fst (Prod.snd s)) (Prod.snd (Prod.snd s)) some) ((0 : Int), IntKind.wrap IntKind.i64 ((↑(List.length t2000000) : Int) - (1 : Int)), t2000000)) fun y =>
  some (Prod.snd (Prod.snd y), ())
def slices_Reverse_byte.mc : MCallee := ⟨68, slices_Reverse_byte.pre, slices_Reverse_byte.post, fun x_ => slices_Reverse_byte x_.1⟩
def slices_Reverse_byte.G : Env := ⟨28, tab, [], [0, 2, 3, 9], [2000000], [(3, [⟨[], [], [15, 16, 17, 18, 19, 20, 21, 22, 23, 24, 25], []⟩, ⟨[], [], [14, 16, 17, 18, 19, 20, 21, 22, 23, 24, 25], []⟩, ⟨[], [], [14, 15, 17, 18, 19, 20, 21, 22, 23, 24, 25, 26], [2000000]⟩, ⟨[], [], [14, 15, 16, 18, 19, 20, 21, 22, 23, 24, 25, 26], [2000000]⟩, ⟨[], [], [14, 15, 16, 17, 19, 22, 23, 24, 25], []⟩, ⟨[], [], [14, 15, 16, 17, 18, 22, 23, 24, 25], []⟩, ⟨[4, 5], [], [14, 15, 16, 17, 22, 23, 24, 25], []⟩, ⟨[6, 4, 5], [], [14, 15, 16, 17, 22, 23, 24, 25], []⟩, ⟨[], [], [14, 15, 16, 17, 18, 19, 20, 21, 23], []⟩, ⟨[], [], [14, 15, 16, 17, 18, 19, 20, 21, 22], []⟩, ⟨[8, 9], [], [14, 15, 16, 17, 18, 19, 20, 21], []⟩, ⟨[10, 8, 9], [], [14, 15, 16, 17, 18, 19, 20, 21], []⟩, ⟨[0, 1, 4, 5, 6, 7, 11, 10, 8, 9], [], [16, 17], []⟩, ⟨[12, 0, 1, 4, 5, 6, 7, 11, 10, 8, 9], [2000000], [16, 17], []⟩, ⟨[2, 3, 0, 1, 4, 5, 6, 7, 8, 9, 10, 11, 12, 13], [], [], []⟩, ⟨[14, 2, 3, 0, 1, 4, 5, 6, 7, 8, 9, 10, 11, 12, 13], [2000000], [], []⟩])], [(100001, slices_Reverse_byte.c100001r), (3, slices_Reverse_byte.c3r)], [], tab_eqs⟩
theorem slices_Reverse_byte.eq (x_ : densU slices_Reverse_byte.mc.pre.tys) : denM slices_Reverse_byte.G Go.Proofs.Tryd.f68 slices_Reverse_byte.mc.pre slices_Reverse_byte.mc.post x_ = slices_Reverse_byte.mc.F x_ := by kernel_rfl
theorem slices_Reverse_byte.p0 : PieceOk slices_Reverse_byte.G (pieceAt (pieces slices_Reverse_byte.G.cks (bodyOf Go.Proofs.Tryd.f68)) 0).1 (pieceAt (pieces slices_Reverse_byte.G.cks (bodyOf Go.Proofs.Tryd.f68)) 0).2 :=
  loop_ok (s := slices_Reverse_byte.c100001r) (by kernel_rfl) (by kernel_rfl) (loops_of (sh := slices_Reverse_byte.c100001s) (I := fun x_ s_ => (s_.1, s_.2.1, s_.2.2, ())) (fun x_ => rfl) (fun ρ x_ s_ k_ => (nat_br (nat_bnd fun _ => nat_leaf) nat_leaf)) (fun ρ x_ t k => (by kernel_rfl)) (fun x_ s => by kernel_rfl))
theorem slices_Reverse_byte.p1 : PieceOk slices_Reverse_byte.G (pieceAt (pieces slices_Reverse_byte.G.cks (bodyOf Go.Proofs.Tryd.f68)) 1).1 (pieceAt (pieces slices_Reverse_byte.G.cks (bodyOf Go.Proofs.Tryd.f68)) 1).2 :=
  region_ok (s := slices_Reverse_byte.c3r) (by kernel_rfl) (by kernel_rfl) (sums_of (sh := slices_Reverse_byte.c3s) (fun ρ x_ k_ => (nat_bnd fun _ => (nat_bnd fun _ => (nat_bnd fun _ => (nat_bnd fun _ => (nat_bnd fun _ => (nat_bnd fun _ => (nat_bnd fun _ => (nat_bnd fun _ => nat_leaf))))))))) (fun ρ x_ t k => (by kernel_rfl)) (fun x_ => by kernel_rfl))
theorem slices_Reverse_byte.ok : MOk Go.Proofs.Tryd.prog 68 slices_Reverse_byte.mc := fnm_ok (G := slices_Reverse_byte.G) tab_ok mixed Go.Proofs.Tryd.func68 ⟨fns_nil, mfns_nil, tab_eqs_ok⟩ (m := 2) (by kernel_rfl) ⟨⟨trivial, slices_Reverse_byte.p0⟩, slices_Reverse_byte.p1⟩ (by kernel_rfl) slices_Reverse_byte.eq
abbrev rb44 : SD := .one (.val .str)
abbrev rb45 : SD := .one (.own 3 0)
abbrev rb46 : SD := .one (.own 14 0)
def whole_Int_Text.c100008 {ρ : Type} (part : Int) (i : Int) (t14 : List (Int)) (k_ : ((Int) × (Int) × (List Int)) ⊕ ((Int) × (Int) × (List Int)) → Option ρ) : Option ρ :=
  br (decide (i ≥ (0 : Int)))
   (bnd (inR (List.length t14) i) fun y =>
    bnd (idx t14 i) fun y_1 =>
    bnd (inR (List.length t14) i) fun y_2 =>
    bnd (idx t14 i) fun y_3 =>
    k_ (.inl ((Int.tmod (ibits BinOp.or IntKind.u64 (IntKind.wrap IntKind.u64 (part * (2 : Int) ^ (32 : Nat))) (IntKind.wrap IntKind.u64 y_1)) (1000000000 : Int)), (IntKind.wrap IntKind.i64 (i - (1 : Int))), (List.set t14 (Int.toNat i) (IntKind.wrap IntKind.u32 (IntKind.wrap IntKind.u64 (Int.tdiv (ibits BinOp.or IntKind.u64 (IntKind.wrap IntKind.u64 (part * (2 : Int) ^ (32 : Nat))) (IntKind.wrap IntKind.u64 y_1)) (1000000000 : Int))))))))
   (k_ (.inr (part, i, t14)))
def whole_Int_Text.c100008s : Shape := ⟨[(0, rb11), (1, rb13), (2, rb44), (3, rb45), (4, rb46), (5, rb6), (6, rb3)], [(1, rb4), (3, rb43), (14, rb9)]⟩
def whole_Int_Text.c100008x0 : Shape := ⟨[(0, rb11), (1, rb13), (2, rb44), (3, rb45), (4, rb46), (5, rb6), (6, rb3)], [(1, rb4), (3, rb43), (14, rb9)]⟩
def whole_Int_Text.c100008r : Ck := Ck.ofLoop (S := (Int) × (Int) × (List Int)) (T := (Int) × (Int) × (List Int)) whole_Int_Text.c100008s (fun x_ => uP x_ fun a x_ => uP x_ fun t2 x_ => uP x_ fun part x_ => uP x_ fun i x_ => uP x_ fun a0 x_ => uP x_ fun a1 x_ => uP x_ fun out x_ => uP x_ fun t14 x_ => (part, i, t14)) (fun ρ x_ s_ k_ => uP x_ fun a x_ => uP x_ fun t2 x_ => uP x_ fun part x_ => uP x_ fun i x_ => uP x_ fun a0 x_ => uP x_ fun a1 x_ => uP x_ fun out x_ => uP x_ fun t14 x_ => whole_Int_Text.c100008 s_.1 s_.2.1 s_.2.2 k_) (fun ρ x_ r_ k_ => uP x_ fun a x_ => uP x_ fun t2 x_ => uP x_ fun part x_ => uP x_ fun i x_ => uP x_ fun a0 x_ => uP x_ fun a1 x_ => uP x_ fun out x_ => uP x_ fun t14 x_ => k_ 4 (Shape.inj whole_Int_Text.c100008x0 (a, t2, r_.1, r_.2.1, a0, a1, out, r_.2.2, ())))
def whole_Int_Text.c253253 {ρ : Type} (t14 : List (Int)) (k_ : List (Int) → Option ρ) : Option ρ :=
  bnd (inR (List.length t14) (IntKind.wrap IntKind.i64 ((↑(List.length t14) : Int) - (1 : Int)))) fun y =>
  bnd (idx t14 (IntKind.wrap IntKind.i64 ((↑(List.length t14) : Int) - (1 : Int)))) fun y_1 =>
  br (y_1 == (0 : Int))
   (bnd (okIf (decide ((0 : Int) ≤ IntKind.wrap IntKind.i64 ((↑(List.length t14) : Int) - (1 : Int))) && decide (IntKind.wrap IntKind.i64 ((↑(List.length t14) : Int) - (1 : Int)) ≤ (↑(List.length t14) : Int)))) fun y_2 =>
    k_ (List.take (Int.toNat (IntKind.wrap IntKind.i64 ((↑(List.length t14) : Int) - (1 : Int)))) t14))
   (k_ t14)
def whole_Int_Text.c253253s : Shape := ⟨[(0, rb11), (1, rb13), (2, rb44), (3, rb45), (4, rb46), (5, rb6), (6, rb3)], [(1, rb4), (3, rb43), (14, rb9)]⟩
def whole_Int_Text.c253253x0 : Shape := ⟨[(0, rb11), (1, rb13), (2, rb44), (3, rb45), (4, rb46), (5, rb6), (6, rb3)], [(1, rb4), (3, rb43), (14, rb9)]⟩
def whole_Int_Text.c253253r : Ck := Ck.of (T := List (Int)) whole_Int_Text.c253253s (fun ρ x_ k_ => uP x_ fun a x_ => uP x_ fun t2 x_ => uP x_ fun part x_ => uP x_ fun i x_ => uP x_ fun a0 x_ => uP x_ fun a1 x_ => uP x_ fun out x_ => uP x_ fun t14 x_ => whole_Int_Text.c253253 t14 k_) (fun ρ x_ r_ k_ => uP x_ fun a x_ => uP x_ fun t2 x_ => uP x_ fun part x_ => uP x_ fun i x_ => uP x_ fun a0 x_ => uP x_ fun a1 x_ => uP x_ fun out x_ => uP x_ fun t14 x_ => k_ 0 (Shape.inj whole_Int_Text.c253253x0 (a, t2, part, i, a0, a1, out, r_, ())))
def whole_Int_Text.c16 {ρ : Type} (part : Int) (t7 : Int) (t14 : List (Int)) (k_ : Bool → Option ρ) : Option ρ :=
  br (decide (t7 < (9 : Int)))
   (br (decide (part > (0 : Int)))
     (k_ true)
     (k_ (decide ((↑(List.length t14) : Int) > (0 : Int)))))
   (k_ false)
def whole_Int_Text.c16s : Shape := ⟨[(0, rb11), (1, rb13), (2, rb44), (3, rb45), (4, rb46), (5, rb6), (6, rb3), (7, rb3)], [(1, rb4), (3, rb43), (14, rb9)]⟩
def whole_Int_Text.c16x0 : Shape := ⟨[(0, rb11), (1, rb13), (2, rb44), (3, rb45), (4, rb46), (5, rb6), (6, rb3), (7, rb3), (63, rb0)], [(1, rb4), (3, rb43), (14, rb9)]⟩
def whole_Int_Text.c16r : Ck := Ck.of (T := Bool) whole_Int_Text.c16s (fun ρ x_ k_ => uP x_ fun a x_ => uP x_ fun t2 x_ => uP x_ fun part x_ => uP x_ fun i x_ => uP x_ fun t7 x_ => uP x_ fun a0 x_ => uP x_ fun a1 x_ => uP x_ fun out x_ => uP x_ fun t14 x_ => whole_Int_Text.c16 part t7 t14 k_) (fun ρ x_ r_ k_ => uP x_ fun a x_ => uP x_ fun t2 x_ => uP x_ fun part x_ => uP x_ fun i x_ => uP x_ fun t7 x_ => uP x_ fun a0 x_ => uP x_ fun a1 x_ => uP x_ fun out x_ => uP x_ fun t14 x_ => k_ 0 (Shape.inj whole_Int_Text.c16x0 (a, t2, part, i, t7, r_, a0, a1, out, t14, ())))
def whole_Int_Text.c100016 {ρ : Type} (part : Int) (t7 : Int) (out : List (Int)) (t14 : List (Int)) (k_ : ((Int) × (Int) × (List Int)) ⊕ ((Int) × (Int) × (List Int)) → Option ρ) : Option ρ :=
  bnd (W.whole_Int_Text.c16 part t7 t14 some) fun y =>
  br y
   (bnd (okIf (decide ((List.length out + (1 : Nat)) * (1 : Nat) ≤ (140737488355328 : Nat)) && decide (List.length out + (1 : Nat) ≤ (140737488355328 : Nat)))) fun y_1 =>
    k_ (.inl ((IntKind.wrap IntKind.u64 (Int.tdiv part (10 : Int))), (IntKind.wrap IntKind.i64 (t7 + (1 : Int))), (out ++ [IntKind.wrap IntKind.u8 (IntKind.wrap IntKind.u64 ((48 : Int) + Int.tmod part (10 : Int)))]))))
   (k_ (.inr (part, t7, out)))
def whole_Int_Text.c100016s : Shape := ⟨[(0, rb11), (1, rb13), (2, rb44), (3, rb45), (4, rb46), (5, rb6), (6, rb3), (7, rb3)], [(1, rb4), (3, rb43), (14, rb9)]⟩
def whole_Int_Text.c100016x0 : Shape := ⟨[(0, rb11), (1, rb13), (2, rb44), (3, rb45), (4, rb46), (5, rb6), (6, rb3), (7, rb3)], [(1, rb4), (3, rb43), (14, rb9)]⟩
def whole_Int_Text.c100016r : Ck := Ck.ofLoop (S := (Int) × (Int) × (List Int)) (T := (Int) × (Int) × (List Int)) whole_Int_Text.c100016s (fun x_ => uP x_ fun a x_ => uP x_ fun t2 x_ => uP x_ fun part x_ => uP x_ fun i x_ => uP x_ fun t7 x_ => uP x_ fun a0 x_ => uP x_ fun a1 x_ => uP x_ fun out x_ => uP x_ fun t14 x_ => (part, t7, out)) (fun ρ x_ s_ k_ => uP x_ fun a x_ => uP x_ fun t2 x_ => uP x_ fun part x_ => uP x_ fun i x_ => uP x_ fun t7 x_ => uP x_ fun a0 x_ => uP x_ fun a1 x_ => uP x_ fun out x_ => uP x_ fun t14 x_ => whole_Int_Text.c100016 s_.1 s_.2.1 s_.2.2 t14 k_) (fun ρ x_ r_ k_ => uP x_ fun a x_ => uP x_ fun t2 x_ => uP x_ fun part x_ => uP x_ fun i x_ => uP x_ fun t7 x_ => uP x_ fun a0 x_ => uP x_ fun a1 x_ => uP x_ fun out x_ => uP x_ fun t14 x_ => k_ 6 (Shape.inj whole_Int_Text.c100016x0 (a, t2, r_.1, i, r_.2.1, a0, a1, r_.2.2, t14, ())))
def whole_Int_Text.c100005 {ρ : Type} (out : List (Int)) (t14 : List (Int)) (k_ : ((List Int) × (List Int)) ⊕ ((List Int) × (List Int)) → Option ρ) : Option ρ :=
  br (decide ((↑(List.length t14) : Int) > (0 : Int)))
   (bnd (iter (fun s ↦ W.whole_Int_Text.c100008 (Prod.fst s) (Prod.fst (Prod.snd s)) (Prod.snd (Prod.snd s)) some) ((0 : Int), IntKind.wrap IntKind.i64 ((↑(List.length t14) : Int) - (1 : Int)), t14)) fun y =>
    bnd (W.whole_Int_Text.c253253 (Prod.snd (Prod.snd y)) some) fun y_1 =>
    bnd (iter (fun s ↦ W.whole_Int_Text.c100016 (Prod.fst s) (Prod.fst (Prod.snd s)) (Prod.snd (Prod.snd s)) y_1 some) (Prod.fst y, (0 : Int), out)) fun y_2 =>
    k_ (.inl ((Prod.snd (Prod.snd y_2)), y_1)))
   (k_ (.inr (out, t14)))
def whole_Int_Text.c100005s : Shape := ⟨[(0, rb11), (1, rb13), (2, rb44), (3, rb45), (4, rb46)], [(1, rb4), (3, rb43), (14, rb9)]⟩
def whole_Int_Text.c100005x0 : Shape := ⟨[(0, rb11), (1, rb13), (2, rb44), (3, rb45), (4, rb46)], [(1, rb4), (3, rb43), (14, rb9)]⟩
def whole_Int_Text.c100005r : Ck := Ck.ofLoop (S := (List Int) × (List Int)) (T := (List Int) × (List Int)) whole_Int_Text.c100005s (fun x_ => uP x_ fun a x_ => uP x_ fun t2 x_ => uP x_ fun a0 x_ => uP x_ fun a1 x_ => uP x_ fun out x_ => uP x_ fun t14 x_ => (out, t14)) (fun ρ x_ s_ k_ => uP x_ fun a x_ => uP x_ fun t2 x_ => uP x_ fun a0 x_ => uP x_ fun a1 x_ => uP x_ fun out x_ => uP x_ fun t14 x_ => whole_Int_Text.c100005 s_.1 s_.2 k_) (fun ρ x_ r_ k_ => uP x_ fun a x_ => uP x_ fun t2 x_ => uP x_ fun a0 x_ => uP x_ fun a1 x_ => uP x_ fun out x_ => uP x_ fun t14 x_ => k_ 2 (Shape.inj whole_Int_Text.c100005x0 (a, t2, a0, a1, r_.1, r_.2, ())))
def whole_Int_Text.c281925 {ρ : Type} (a0 : Bool) (out : List (Int)) (k_ : List (Int) → Option ρ) : Option ρ :=
  br a0
   (bnd (okIf (decide ((List.length out + (1 : Nat)) * (1 : Nat) ≤ (140737488355328 : Nat)) && decide (List.length out + (1 : Nat) ≤ (140737488355328 : Nat)))) fun y =>
    k_ (out ++ [(45 : Int)]))
   (k_ out)
def whole_Int_Text.c281925s : Shape := ⟨[(0, rb11), (1, rb13), (2, rb44), (3, rb45), (4, rb46)], [(1, rb4), (3, rb43), (14, rb9)]⟩
def whole_Int_Text.c281925x0 : Shape := ⟨[(0, rb11), (1, rb13), (2, rb44), (3, rb45), (4, rb46)], [(1, rb4), (3, rb43), (14, rb9)]⟩
def whole_Int_Text.c281925r : Ck := Ck.of (T := List (Int)) whole_Int_Text.c281925s (fun ρ x_ k_ => uP x_ fun a x_ => uP x_ fun t2 x_ => uP x_ fun a0 x_ => uP x_ fun a1 x_ => uP x_ fun out x_ => uP x_ fun t14 x_ => whole_Int_Text.c281925 a0 out k_) (fun ρ x_ r_ k_ => uP x_ fun a x_ => uP x_ fun t2 x_ => uP x_ fun a0 x_ => uP x_ fun a1 x_ => uP x_ fun out x_ => uP x_ fun t14 x_ => k_ 0 (Shape.inj whole_Int_Text.c281925x0 (a, t2, a0, a1, r_, t14, ())))
def whole_Int_Text (a : (Bool) × (List Int)) : Option (List UInt8) :=
  br ((↑(List.length (Prod.snd a)) : Int) == (0 : Int))
   (some (Array.toList (ByteArray.data (ByteArray.mk #[(48 : UInt8)]))))
   (bnd (W.slices_Clone_uint32 (Prod.snd a)) fun y =>
    bnd (iter (fun s ↦ W.whole_Int_Text.c100005 (Prod.fst s) (Prod.snd s) some) ([], Prod.fst y)) fun y_1 =>
    bnd (W.whole_Int_Text.c281925 (Prod.fst a) (Prod.fst y_1) some) fun y_2 =>
    bnd (W.slices_Reverse_byte y_2) fun y_3 =>
    some (List.map (fun n ↦ UInt8.ofNat (Int.toNat n)) (Prod.fst y_3)))
def whole_Int_Text.ce : Go.Ql.Callee := ⟨[(.st (.pair .bool (.sl (.int .u32))))], [.str], fun x_ => whole_Int_Text x_⟩
def whole_Int_Text.G : Env := ⟨84, tab, [], [0, 1, 2, 3, 4, 5, 6, 7, 11, 17, 22, 47, 63, 76], [3, 14], [], [(281925, whole_Int_Text.c281925r), (100005, whole_Int_Text.c100005r), (100016, whole_Int_Text.c100016r), (16, whole_Int_Text.c16r), (253253, whole_Int_Text.c253253r), (100008, whole_Int_Text.c100008r)], [(67, slices_Clone_uint32.mc), (68, slices_Reverse_byte.mc)], tab_eqs⟩
theorem whole_Int_Text.eq (x_ : dens [(.st (.pair .bool (.sl (.int .u32))))]) : den whole_Int_Text.G Go.Proofs.Tryd.f42 [(.st (.pair .bool (.sl (.int .u32))))] [.str] x_ = whole_Int_Text x_ := by kernel_rfl
theorem whole_Int_Text.p0 : PieceOk whole_Int_Text.G (pieceAt (pieces whole_Int_Text.G.cks (bodyOf Go.Proofs.Tryd.f42)) 0).1 (pieceAt (pieces whole_Int_Text.G.cks (bodyOf Go.Proofs.Tryd.f42)) 0).2 :=
  loop_ok (s := whole_Int_Text.c100005r) (by kernel_rfl) (by kernel_rfl) (loops_of (sh := whole_Int_Text.c100005s) (I := fun x_ s_ => (x_.1, x_.2.1, x_.2.2.1, x_.2.2.2.1, s_.1, s_.2, ())) (fun x_ => rfl) (fun ρ x_ s_ k_ => (nat_br (nat_bnd fun _ => (nat_bnd fun _ => (nat_bnd fun _ => nat_leaf))) nat_leaf)) (fun ρ x_ t k => (by kernel_rfl)) (fun x_ s => by kernel_rfl))
theorem whole_Int_Text.p1 : PieceOk whole_Int_Text.G (pieceAt (pieces whole_Int_Text.G.cks (bodyOf Go.Proofs.Tryd.f42)) 1).1 (pieceAt (pieces whole_Int_Text.G.cks (bodyOf Go.Proofs.Tryd.f42)) 1).2 :=
  loop_ok (s := whole_Int_Text.c100008r) (by kernel_rfl) (by kernel_rfl) (loops_of (sh := whole_Int_Text.c100008s) (I := fun x_ s_ => (x_.1, x_.2.1, s_.1, s_.2.1, x_.2.2.2.2.1, x_.2.2.2.2.2.1, x_.2.2.2.2.2.2.1, s_.2.2, ())) (fun x_ => rfl) (fun ρ x_ s_ k_ => (nat_br (nat_bnd fun _ => (nat_bnd fun _ => (nat_bnd fun _ => (nat_bnd fun _ => nat_leaf)))) nat_leaf)) (fun ρ x_ t k => (by kernel_rfl)) (fun x_ s => by kernel_rfl))
theorem whole_Int_Text.p2 : PieceOk whole_Int_Text.G (pieceAt (pieces whole_Int_Text.G.cks (bodyOf Go.Proofs.Tryd.f42)) 2).1 (pieceAt (pieces whole_Int_Text.G.cks (bodyOf Go.Proofs.Tryd.f42)) 2).2 :=
  join_ok (s := whole_Int_Text.c253253r) (by kernel_rfl) (by kernel_rfl) (sums_of (sh := whole_Int_Text.c253253s) (fun ρ x_ k_ => (nat_bnd fun _ => (nat_bnd fun _ => (nat_br (nat_bnd fun _ => nat_leaf) nat_leaf)))) (fun ρ x_ t k => (by kernel_rfl)) (fun x_ => by kernel_rfl))
theorem whole_Int_Text.p3 : PieceOk whole_Int_Text.G (pieceAt (pieces whole_Int_Text.G.cks (bodyOf Go.Proofs.Tryd.f42)) 3).1 (pieceAt (pieces whole_Int_Text.G.cks (bodyOf Go.Proofs.Tryd.f42)) 3).2 :=
  loop_ok (s := whole_Int_Text.c100016r) (by kernel_rfl) (by kernel_rfl) (loops_of (sh := whole_Int_Text.c100016s) (I := fun x_ s_ => (x_.1, x_.2.1, s_.1, x_.2.2.2.1, s_.2.1, x_.2.2.2.2.2.1, x_.2.2.2.2.2.2.1, s_.2.2, x_.2.2.2.2.2.2.2.2.1, ())) (fun x_ => rfl) (fun ρ x_ s_ k_ => (nat_bnd fun _ => (nat_br (nat_bnd fun _ => nat_leaf) nat_leaf))) (fun ρ x_ t k => (by kernel_rfl)) (fun x_ s => by kernel_rfl))
theorem whole_Int_Text.p4 : PieceOk whole_Int_Text.G (pieceAt (pieces whole_Int_Text.G.cks (bodyOf Go.Proofs.Tryd.f42)) 4).1 (pieceAt (pieces whole_Int_Text.G.cks (bodyOf Go.Proofs.Tryd.f42)) 4).2 :=
  region_ok (s := whole_Int_Text.c16r) (by kernel_rfl) (by kernel_rfl) (sums_of (sh := whole_Int_Text.c16s) (fun ρ x_ k_ => (nat_br (nat_br nat_leaf nat_leaf) nat_leaf)) (fun ρ x_ t k => (by kernel_rfl)) (fun x_ => by kernel_rfl))
theorem whole_Int_Text.p5 : PieceOk whole_Int_Text.G (pieceAt (pieces whole_Int_Text.G.cks (bodyOf Go.Proofs.Tryd.f42)) 5).1 (pieceAt (pieces whole_Int_Text.G.cks (bodyOf Go.Proofs.Tryd.f42)) 5).2 :=
  join_ok (s := whole_Int_Text.c281925r) (by kernel_rfl) (by kernel_rfl) (sums_of (sh := whole_Int_Text.c281925s) (fun ρ x_ k_ => (nat_br (nat_bnd fun _ => nat_leaf) nat_leaf)) (fun ρ x_ t k => (by kernel_rfl)) (fun x_ => by kernel_rfl))
theorem whole_Int_Text.ok : CalleeOk Go.Proofs.Tryd.prog 42 whole_Int_Text.ce := fn_ok (G := whole_Int_Text.G) tab_ok mixed Go.Proofs.Tryd.func42 ⟨fns_nil, (mfns_cons slices_Clone_uint32.ok (mfns_cons slices_Reverse_byte.ok mfns_nil)), tab_eqs_ok⟩ (m := 6) (by kernel_rfl) ⟨⟨⟨⟨⟨⟨trivial, whole_Int_Text.p0⟩, whole_Int_Text.p1⟩, whole_Int_Text.p2⟩, whole_Int_Text.p3⟩, whole_Int_Text.p4⟩, whole_Int_Text.p5⟩ (by kernel_rfl) whole_Int_Text.eq
abbrev rb47 : SD := .one (.val (.st (.pair (.ar 8 (.st (.pair .bool (.sl (.int .u32))))) (.int .i64))))
abbrev rb48 : SD := .one (.fptr (.st (.pair (.ar 8 (.st (.pair .bool (.sl (.int .u32))))) (.int .i64))))
abbrev rb49 : SD := .one (.own 6 0)
abbrev rb50 : SD := .one (.val (.sl (.st (.pair .bool (.sl (.int .u32))))))
abbrev rb51 : SO := .arr 0 false 9 .str
def ring_Num_Text.c216392 {ρ : Type} (last : Int) (t11 : List ((Bool) × (List Int))) (t12 : Int) (k_ : Int → Option ρ) : Option ρ :=
  bnd (idx t11 t12) fun y =>
  bnd (W.whole_Int_Sign (Prod.fst y, Prod.snd y)) fun y_1 =>
  br (y_1 != (0 : Int))
   (k_ t12)
   (k_ last)
def ring_Num_Text.c216392s : Shape := ⟨[(0, rb47), (1, rb48), (2, rb44), (3, rb3), (11, rb23), (12, rb3)], []⟩
def ring_Num_Text.c216392x0 : Shape := ⟨[(0, rb47), (1, rb48), (2, rb44), (3, rb3), (11, rb23), (12, rb3)], []⟩
def ring_Num_Text.c216392r : Ck := Ck.of (T := Int) ring_Num_Text.c216392s (fun ρ x_ k_ => uP x_ fun a x_ => uP x_ fun a_1 x_ => uP x_ fun t2 x_ => uP x_ fun last x_ => uP x_ fun t11 x_ => uP x_ fun t12 x_ => ring_Num_Text.c216392 last t11 t12 k_) (fun ρ x_ r_ k_ => uP x_ fun a x_ => uP x_ fun a_1 x_ => uP x_ fun t2 x_ => uP x_ fun last x_ => uP x_ fun t11 x_ => uP x_ fun t12 x_ => k_ 0 (Shape.inj ring_Num_Text.c216392x0 (a, a_1, t2, r_, t11, t12, ())))
def ring_Num_Text.c100003 {ρ : Type} (last : Int) (t11 : List ((Bool) × (List Int))) (t12 : Int) (k_ : ((Int) × (Int)) ⊕ ((Int) × (Int)) → Option ρ) : Option ρ :=
  br (decide (t12 < (8 : Int)))
   (bnd (W.ring_Num_Text.c216392 last t11 t12 some) fun y =>
    k_ (.inl (y, (IntKind.wrap IntKind.i64 (t12 + (1 : Int))))))
   (k_ (.inr (last, t12)))
def ring_Num_Text.c100003s : Shape := ⟨[(0, rb47), (1, rb48), (2, rb44), (3, rb3), (11, rb23), (12, rb3)], []⟩
def ring_Num_Text.c100003x0 : Shape := ⟨[(0, rb47), (1, rb48), (2, rb44), (3, rb3), (11, rb23), (12, rb3)], []⟩
def ring_Num_Text.c100003r : Ck := Ck.ofLoop (S := (Int) × (Int)) (T := (Int) × (Int)) ring_Num_Text.c100003s (fun x_ => uP x_ fun a x_ => uP x_ fun a_1 x_ => uP x_ fun t2 x_ => uP x_ fun last x_ => uP x_ fun t11 x_ => uP x_ fun t12 x_ => (last, t12)) (fun ρ x_ s_ k_ => uP x_ fun a x_ => uP x_ fun a_1 x_ => uP x_ fun t2 x_ => uP x_ fun last x_ => uP x_ fun t11 x_ => uP x_ fun t12 x_ => ring_Num_Text.c100003 s_.1 t11 s_.2 k_) (fun ρ x_ r_ k_ => uP x_ fun a x_ => uP x_ fun a_1 x_ => uP x_ fun t2 x_ => uP x_ fun last x_ => uP x_ fun t11 x_ => uP x_ fun t12 x_ => k_ 2 (Shape.inj ring_Num_Text.c100003x0 (a, a_1, t2, r_.1, t11, r_.2, ())))
def ring_Num_Text.c100010 {ρ : Type} (t24 : List ((Bool) × (List Int))) (t25 : Int) (t26 : Int) (parts : List (List UInt8)) (k_ : ((Int) × (List (List UInt8))) ⊕ ((Int) × (List (List UInt8))) → Option ρ) : Option ρ :=
  br (decide (t26 < t25))
   (bnd (idx t24 t26) fun y =>
    bnd (W.whole_Int_Text (Prod.fst y, Prod.snd y)) fun y_1 =>
    bnd (okIf (decide ((List.length parts + (1 : Nat)) * (16 : Nat) ≤ (140737488355328 : Nat)) && decide (List.length parts + (1 : Nat) ≤ (140737488355328 : Nat)))) fun y_2 =>
    k_ (.inl ((IntKind.wrap IntKind.i64 (t26 + (1 : Int))), (parts ++ [y_1]))))
   (k_ (.inr (t26, parts)))
def ring_Num_Text.c100010s : Shape := ⟨[(0, rb47), (1, rb48), (2, rb44), (3, rb3), (6, rb49), (11, rb23), (12, rb3), (24, rb50), (25, rb3), (26, rb3)], [(6, rb51)]⟩
def ring_Num_Text.c100010x0 : Shape := ⟨[(0, rb47), (1, rb48), (2, rb44), (3, rb3), (6, rb49), (11, rb23), (12, rb3), (24, rb50), (25, rb3), (26, rb3)], [(6, rb51)]⟩
def ring_Num_Text.c100010r : Ck := Ck.ofLoop (S := (Int) × (List (List UInt8))) (T := (Int) × (List (List UInt8))) ring_Num_Text.c100010s (fun x_ => uP x_ fun a x_ => uP x_ fun a_1 x_ => uP x_ fun t2 x_ => uP x_ fun last x_ => uP x_ fun t11 x_ => uP x_ fun t12 x_ => uP x_ fun t24 x_ => uP x_ fun t25 x_ => uP x_ fun t26 x_ => uP x_ fun parts x_ => (t26, parts)) (fun ρ x_ s_ k_ => uP x_ fun a x_ => uP x_ fun a_1 x_ => uP x_ fun t2 x_ => uP x_ fun last x_ => uP x_ fun t11 x_ => uP x_ fun t12 x_ => uP x_ fun t24 x_ => uP x_ fun t25 x_ => uP x_ fun t26 x_ => uP x_ fun parts x_ => ring_Num_Text.c100010 t24 t25 s_.1 s_.2 k_) (fun ρ x_ r_ k_ => uP x_ fun a x_ => uP x_ fun a_1 x_ => uP x_ fun t2 x_ => uP x_ fun last x_ => uP x_ fun t11 x_ => uP x_ fun t12 x_ => uP x_ fun t24 x_ => uP x_ fun t25 x_ => uP x_ fun t26 x_ => uP x_ fun parts x_ => k_ 4 (Shape.inj ring_Num_Text.c100010x0 (a, a_1, t2, last, t11, t12, t24, t25, r_.1, r_.2, ())))
def ring_Num_Text.c261445 {ρ : Type} (a_1 : (List ((Bool) × (List Int))) × (Int)) (text : List UInt8) (k_ : List UInt8 → Option ρ) : Option ρ :=
  br (decide (Prod.snd a_1 > (0 : Int)))
   (bnd (W.strconv_Itoa (Prod.snd a_1)) fun y =>
    bnd (okIf (decide (List.length (Array.toList (ByteArray.data (ByteArray.mk #[(47 : UInt8)]))) + List.length y ≤ (9223372036854775807 : Nat)))) fun y_1 =>
    bnd (okIf (decide (List.length text + List.length (Array.toList (ByteArray.data (ByteArray.mk #[(47 : UInt8)])) ++ y) ≤ (9223372036854775807 : Nat)))) fun y_2 =>
    k_ (text ++ (Array.toList (ByteArray.data (ByteArray.mk #[(47 : UInt8)])) ++ y)))
   (k_ text)
def ring_Num_Text.c261445s : Shape := ⟨[(0, rb47), (1, rb48), (2, rb44), (3, rb3), (6, rb49), (9, rb44), (11, rb23), (12, rb3), (24, rb50), (25, rb3), (26, rb3)], [(6, rb51)]⟩
def ring_Num_Text.c261445x0 : Shape := ⟨[(0, rb47), (1, rb48), (2, rb44), (3, rb3), (6, rb49), (9, rb44), (11, rb23), (12, rb3), (24, rb50), (25, rb3), (26, rb3)], [(6, rb51)]⟩
def ring_Num_Text.c261445r : Ck := Ck.of (T := List UInt8) ring_Num_Text.c261445s (fun ρ x_ k_ => uP x_ fun a x_ => uP x_ fun a_1 x_ => uP x_ fun t2 x_ => uP x_ fun last x_ => uP x_ fun text x_ => uP x_ fun t11 x_ => uP x_ fun t12 x_ => uP x_ fun t24 x_ => uP x_ fun t25 x_ => uP x_ fun t26 x_ => uP x_ fun parts x_ => ring_Num_Text.c261445 a_1 text k_) (fun ρ x_ r_ k_ => uP x_ fun a x_ => uP x_ fun a_1 x_ => uP x_ fun t2 x_ => uP x_ fun last x_ => uP x_ fun text x_ => uP x_ fun t11 x_ => uP x_ fun t12 x_ => uP x_ fun t24 x_ => uP x_ fun t25 x_ => uP x_ fun t26 x_ => uP x_ fun parts x_ => k_ 0 (Shape.inj ring_Num_Text.c261445x0 (a, a_1, t2, last, r_, t11, t12, t24, t25, t26, parts, ())))
def ring_Num_Text (a : (List ((Bool) × (List Int))) × (Int)) : Option (List UInt8) :=
  bnd (iter (fun s ↦ W.ring_Num_Text.c100003 (Prod.fst s) (Prod.fst a) (Prod.snd s) some) ((0 : Int), (0 : Int))) fun y =>
  bnd (okIf (decide ((0 : Int) ≤ IntKind.wrap IntKind.i64 (Prod.fst y + (1 : Int))) && decide (IntKind.wrap IntKind.i64 (Prod.fst y + (1 : Int)) ≤ (↑(8 : Nat) : Int)))) fun y_1 =>
  bnd (iter (fun s ↦ W.ring_Num_Text.c100010 (List.take (Int.toNat (IntKind.wrap IntKind.i64 (Prod.fst y + (1 : Int)))) (Prod.fst a)) (↑(List.length (List.take (Int.toNat (IntKind.wrap IntKind.i64 (Prod.fst y + (1 : Int)))) (Prod.fst a))) : Int) (Prod.fst s) (Prod.snd s) some) ((0 : Int), [])) fun y_2 =>
  bnd (W.strings_Join (Prod.snd y_2) (Array.toList (ByteArray.data (ByteArray.mk #[(44 : UInt8)])))) fun y_3 =>
  bnd (W.ring_Num_Text.c261445 a y_3 some) fun y_4 =>
  some y_4
def ring_Num_Text.ce : Go.Ql.Callee := ⟨[(.st (.pair (.ar 8 (.st (.pair .bool (.sl (.int .u32))))) (.int .i64)))], [.str], fun x_ => ring_Num_Text x_⟩
def ring_Num_Text.G : Env := ⟨48, tab, [(41, whole_Int_Sign.ce), (42, whole_Int_Text.ce), (43, strings_Join.ce), (44, strconv_Itoa.ce)], [0, 1, 2, 3, 4, 5, 6, 8, 9, 11, 12, 13, 18, 24, 25, 26, 27, 40], [6, 8000001], [], [(261445, ring_Num_Text.c261445r), (100010, ring_Num_Text.c100010r), (100003, ring_Num_Text.c100003r), (216392, ring_Num_Text.c216392r)], [], tab_eqs⟩
theorem ring_Num_Text.eq (x_ : dens [(.st (.pair (.ar 8 (.st (.pair .bool (.sl (.int .u32))))) (.int .i64)))]) : den ring_Num_Text.G Go.Proofs.Tryd.f8 [(.st (.pair (.ar 8 (.st (.pair .bool (.sl (.int .u32))))) (.int .i64)))] [.str] x_ = ring_Num_Text x_ := by kernel_rfl
theorem ring_Num_Text.p0 : PieceOk ring_Num_Text.G (pieceAt (pieces ring_Num_Text.G.cks (bodyOf Go.Proofs.Tryd.f8)) 0).1 (pieceAt (pieces ring_Num_Text.G.cks (bodyOf Go.Proofs.Tryd.f8)) 0).2 :=
  loop_ok (s := ring_Num_Text.c100003r) (by kernel_rfl) (by kernel_rfl) (loops_of (sh := ring_Num_Text.c100003s) (I := fun x_ s_ => (x_.1, x_.2.1, x_.2.2.1, s_.1, x_.2.2.2.2.1, s_.2, ())) (fun x_ => rfl) (fun ρ x_ s_ k_ => (nat_br (nat_bnd fun _ => nat_leaf) nat_leaf)) (fun ρ x_ t k => (by kernel_rfl)) (fun x_ s => by kernel_rfl))
theorem ring_Num_Text.p1 : PieceOk ring_Num_Text.G (pieceAt (pieces ring_Num_Text.G.cks (bodyOf Go.Proofs.Tryd.f8)) 1).1 (pieceAt (pieces ring_Num_Text.G.cks (bodyOf Go.Proofs.Tryd.f8)) 1).2 :=
  join_ok (s := ring_Num_Text.c216392r) (by kernel_rfl) (by kernel_rfl) (sums_of (sh := ring_Num_Text.c216392s) (fun ρ x_ k_ => (nat_bnd fun _ => (nat_bnd fun _ => (nat_br nat_leaf nat_leaf)))) (fun ρ x_ t k => (by kernel_rfl)) (fun x_ => by kernel_rfl))
theorem ring_Num_Text.p2 : PieceOk ring_Num_Text.G (pieceAt (pieces ring_Num_Text.G.cks (bodyOf Go.Proofs.Tryd.f8)) 2).1 (pieceAt (pieces ring_Num_Text.G.cks (bodyOf Go.Proofs.Tryd.f8)) 2).2 :=
  loop_ok (s := ring_Num_Text.c100010r) (by kernel_rfl) (by kernel_rfl) (loops_of (sh := ring_Num_Text.c100010s) (I := fun x_ s_ => (x_.1, x_.2.1, x_.2.2.1, x_.2.2.2.1, x_.2.2.2.2.1, x_.2.2.2.2.2.1, x_.2.2.2.2.2.2.1, x_.2.2.2.2.2.2.2.1, s_.1, s_.2, ())) (fun x_ => rfl) (fun ρ x_ s_ k_ => (nat_br (nat_bnd fun _ => (nat_bnd fun _ => (nat_bnd fun _ => nat_leaf))) nat_leaf)) (fun ρ x_ t k => (by kernel_rfl)) (fun x_ s => by kernel_rfl))
theorem ring_Num_Text.p3 : PieceOk ring_Num_Text.G (pieceAt (pieces ring_Num_Text.G.cks (bodyOf Go.Proofs.Tryd.f8)) 3).1 (pieceAt (pieces ring_Num_Text.G.cks (bodyOf Go.Proofs.Tryd.f8)) 3).2 :=
  join_ok (s := ring_Num_Text.c261445r) (by kernel_rfl) (by kernel_rfl) (sums_of (sh := ring_Num_Text.c261445s) (fun ρ x_ k_ => (nat_br (nat_bnd fun _ => (nat_bnd fun _ => (nat_bnd fun _ => nat_leaf))) nat_leaf)) (fun ρ x_ t k => (by kernel_rfl)) (fun x_ => by kernel_rfl))
theorem ring_Num_Text.ok : CalleeOk Go.Proofs.Tryd.prog 8 ring_Num_Text.ce := fn_ok (G := ring_Num_Text.G) tab_ok mixed Go.Proofs.Tryd.func8 ⟨(fns_cons whole_Int_Sign.ok (fns_cons whole_Int_Text.ok (fns_cons strings_Join.ok (fns_cons strconv_Itoa.ok fns_nil)))), mfns_nil, tab_eqs_ok⟩ (m := 4) (by kernel_rfl) ⟨⟨⟨⟨trivial, ring_Num_Text.p0⟩, ring_Num_Text.p1⟩, ring_Num_Text.p2⟩, ring_Num_Text.p3⟩ (by kernel_rfl) ring_Num_Text.eq
def Law_ringBegun  : Option (Bool) :=
  bnd W.ring_Rt fun y =>
  bnd (W.ring_Num_Text y) fun y_1 =>
  some (y_1 == Array.toList (ByteArray.data (ByteArray.mk #[(48 : UInt8), (44 : UInt8), (48 : UInt8), (44 : UInt8), (49 : UInt8), (44 : UInt8), (48 : UInt8), (44 : UInt8), (48 : UInt8), (44 : UInt8), (48 : UInt8), (44 : UInt8), (45 : UInt8), (49 : UInt8), (47 : UInt8), (49 : UInt8)])))
def Law_ringBegun.ce : Go.Ql.Callee := ⟨[], [.bool], fun x_ => Law_ringBegun⟩
def Law_ringBegun.G : Env := ⟨4, tab, [(32, ring_Rt.ce), (8, ring_Num_Text.ce)], [0], [], [], [], [], tab_eqs⟩
theorem Law_ringBegun.eq (x_ : dens []) : den Law_ringBegun.G Go.Proofs.Tryd.f7 [] [.bool] x_ = Law_ringBegun := by kernel_rfl
theorem Law_ringBegun.ok : CalleeOk Go.Proofs.Tryd.prog 7 Law_ringBegun.ce := fn_ok (G := Law_ringBegun.G) tab_ok mixed Go.Proofs.Tryd.func7 ⟨(fns_cons ring_Rt.ok (fns_cons ring_Num_Text.ok fns_nil)), mfns_nil, tab_eqs_ok⟩ (m := 0) (by kernel_rfl) trivial (by kernel_rfl) Law_ringBegun.eq
end
end W
end
