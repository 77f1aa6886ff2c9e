/- Lifted functions, part 1: each with its contract. -/
import Derived.Test.YtcndclcpmelgoaaDoorCa
import Derived.Test.YtcndclcpmelgoaaDoorCb
import Derived.Test.YtcndclcpmelgoaaDoorProg
section
/- Functions of the program as typed functions, printed by a program of mine, with their proofs. -/
set_option maxHeartbeats 4000000
set_option maxRecDepth 100000
set_option linter.unusedVariables false
namespace W
open Go Go.Ql
noncomputable section
def circ_fault (code : Int) (t1 : Int) : Option ((Int) × (Int)) :=
  some (code, t1)
def circ_fault.ce : Go.Ql.Callee := ⟨[(.int .i64), (.int .i64)], [(.st (.pair (.int .i64) (.int .i64)))], fun x_ => circ_fault x_.1 x_.2⟩
def circ_fault.G : Env := ⟨8, tab, [], [0, 1, 4], [], [], [], [], tab_eqs⟩
theorem circ_fault.eq (x_ : dens [(.int .i64), (.int .i64)]) : den circ_fault.G Go.Proofs.Tryd.f40 [(.int .i64), (.int .i64)] [(.st (.pair (.int .i64) (.int .i64)))] x_ = circ_fault x_.1 x_.2 := by kernel_rfl
theorem circ_fault.ok : CalleeOk Go.Proofs.Tryd.prog 40 circ_fault.ce := fn_ok (G := circ_fault.G) tab_ok mixed Go.Proofs.Tryd.func40 ⟨fns_nil, mfns_nil, tab_eqs_ok⟩ (m := 0) (by kernel_rfl) trivial (by kernel_rfl) circ_fault.eq
abbrev q0 : SD := .one (.val (.int .i64))
abbrev q1 : SD := .one (.val .bool)
def circ_turns.c1 {ρ : Type} (kind : Int) (k_ : Bool → Option ρ) : Option ρ :=
  br (kind == (1 : Int))
   (k_ true)
   (k_ (kind == (4 : Int)))
def circ_turns.c1s : Shape := ⟨[(0, q0), (2, q1)], []⟩
def circ_turns.c1x0 : Shape := ⟨[(0, q0), (2, q1)], []⟩
def circ_turns.c1r : Ck := Ck.of (T := Bool) circ_turns.c1s (fun ρ x_ k_ => uP x_ fun kind x_ => uP x_ fun t2 x_ => circ_turns.c1 kind k_) (fun ρ x_ r_ k_ => uP x_ fun kind x_ => uP x_ fun t2 x_ => k_ 0 (Shape.inj circ_turns.c1x0 (kind, r_, ())))
def circ_turns (kind : Int) : Option (Bool) :=
  bnd (W.circ_turns.c1 kind some) fun y =>
  some y
def circ_turns.ce : Go.Ql.Callee := ⟨[(.int .i64)], [.bool], fun x_ => circ_turns x_⟩
def circ_turns.G : Env := ⟨9, tab, [], [0, 2], [], [], [(1, circ_turns.c1r)], [], tab_eqs⟩
theorem circ_turns.eq (x_ : dens [(.int .i64)]) : den circ_turns.G Go.Proofs.Tryd.f68 [(.int .i64)] [.bool] x_ = circ_turns x_ := by kernel_rfl
theorem circ_turns.p0 : PieceOk circ_turns.G (pieceAt (pieces circ_turns.G.cks (bodyOf Go.Proofs.Tryd.f68)) 0).1 (pieceAt (pieces circ_turns.G.cks (bodyOf Go.Proofs.Tryd.f68)) 0).2 :=
  region_ok (s := circ_turns.c1r) (by kernel_rfl) (by kernel_rfl) (sums_of (sh := circ_turns.c1s) (fun ρ x_ k_ => (nat_br nat_leaf nat_leaf)) (fun ρ x_ t k => (by kernel_rfl)) (fun x_ => by kernel_rfl))
theorem circ_turns.ok : CalleeOk Go.Proofs.Tryd.prog 68 circ_turns.ce := fn_ok (G := circ_turns.G) tab_ok mixed Go.Proofs.Tryd.func68 ⟨fns_nil, mfns_nil, tab_eqs_ok⟩ (m := 1) (by kernel_rfl) ⟨trivial, circ_turns.p0⟩ (by kernel_rfl) circ_turns.eq
def circ_gate.c1 {ρ : Type} (kind : Int) (k_ : Bool → Option ρ) : Option ρ :=
  br (kind == (2 : Int))
   (k_ true)
   (br (kind == (3 : Int))
     (k_ true)
     (k_ (kind == (4 : Int))))
def circ_gate.c1s : Shape := ⟨[(0, q0), (2, q1)], []⟩
def circ_gate.c1x0 : Shape := ⟨[(0, q0), (2, q1)], []⟩
def circ_gate.c1r : Ck := Ck.of (T := Bool) circ_gate.c1s (fun ρ x_ k_ => uP x_ fun kind x_ => uP x_ fun t2 x_ => circ_gate.c1 kind k_) (fun ρ x_ r_ k_ => uP x_ fun kind x_ => uP x_ fun t2 x_ => k_ 0 (Shape.inj circ_gate.c1x0 (kind, r_, ())))
def circ_gate (kind : Int) : Option (Bool) :=
  bnd (W.circ_gate.c1 kind some) fun y =>
  some y
def circ_gate.ce : Go.Ql.Callee := ⟨[(.int .i64)], [.bool], fun x_ => circ_gate x_⟩
def circ_gate.G : Env := ⟨13, tab, [], [0, 2], [], [], [(1, circ_gate.c1r)], [], tab_eqs⟩
theorem circ_gate.eq (x_ : dens [(.int .i64)]) : den circ_gate.G Go.Proofs.Tryd.f69 [(.int .i64)] [.bool] x_ = circ_gate x_ := by kernel_rfl
theorem circ_gate.p0 : PieceOk circ_gate.G (pieceAt (pieces circ_gate.G.cks (bodyOf Go.Proofs.Tryd.f69)) 0).1 (pieceAt (pieces circ_gate.G.cks (bodyOf Go.Proofs.Tryd.f69)) 0).2 :=
  region_ok (s := circ_gate.c1r) (by kernel_rfl) (by kernel_rfl) (sums_of (sh := circ_gate.c1s) (fun ρ x_ k_ => (nat_br nat_leaf (nat_br nat_leaf nat_leaf))) (fun ρ x_ t k => (by kernel_rfl)) (fun x_ => by kernel_rfl))
theorem circ_gate.ok : CalleeOk Go.Proofs.Tryd.prog 69 circ_gate.ce := fn_ok (G := circ_gate.G) tab_ok mixed Go.Proofs.Tryd.func69 ⟨fns_nil, mfns_nil, tab_eqs_ok⟩ (m := 1) (by kernel_rfl) ⟨trivial, circ_gate.p0⟩ (by kernel_rfl) circ_gate.eq
abbrev q2 : SD := .one (.val (.st (.pair (.int .i64) (.pair (.int .i64) (.pair (.sl (.int .i64)) (.pair (.int .i64) (.pair (.int .i64) (.sl (.int .i64)))))))))
abbrev q3 : SD := .one (.ref 1000100 0)
abbrev q4 : SO := .box [.val (.int .i64), .val (.int .i64), .val (.sl (.st (.pair (.int .i64) (.pair (.int .i64) (.pair (.sl (.int .i64)) (.pair (.int .i64) (.pair (.int .i64) (.sl (.int .i64)))))))))]
abbrev q5 : SD := .one (.ref 2 0)
abbrev q6 : SO := .box [.val (.int .i64), .val (.int .i64), .val (.sl (.int .i64)), .val (.int .i64), .val (.int .i64), .val (.sl (.int .i64))]
abbrev q7 : SD := .one (.aptr 5 0)
abbrev q8 : SD := .one (.val (.sl (.int .i64)))
abbrev q9 : SO := .arr 0 false 96 .bool
def circ_one.pre : Shape := ⟨[(0, q2), (1, q3)], [(1000100, q4)]⟩
def circ_one.post : Shape := ⟨[(0, q0)], [(1000100, q4)]⟩
def circ_one.c1 {ρ : Type} (o0 : Int) (k_ : Bool → Option ρ) : Option ρ :=
  br (decide (o0 < (1 : Int)))
   (k_ true)
   (k_ (decide (o0 > (6 : Int))))
def circ_one.c1s : Shape := ⟨[(0, q2), (1, q3), (2, q5), (4, q0)], [(2, q6), (1000100, q4)]⟩
def circ_one.c1x0 : Shape := ⟨[(0, q2), (1, q3), (2, q5), (4, q0), (17, q1)], [(2, q6), (1000100, q4)]⟩
def circ_one.c1r : Ck := Ck.of (T := Bool) circ_one.c1s (fun ρ x_ k_ => uP x_ fun o x_ => uP x_ fun t4 x_ => uP x_ fun o0 x_ => uP x_ fun o1 x_ => uP x_ fun o2 x_ => uP x_ fun o3 x_ => uP x_ fun o4 x_ => uP x_ fun o5 x_ => uP x_ fun t10001000 x_ => uP x_ fun t10001001 x_ => uP x_ fun t10001002 x_ => circ_one.c1 o0 k_) (fun ρ x_ r_ k_ => uP x_ fun o x_ => uP x_ fun t4 x_ => uP x_ fun o0 x_ => uP x_ fun o1 x_ => uP x_ fun o2 x_ => uP x_ fun o3 x_ => uP x_ fun o4 x_ => uP x_ fun o5 x_ => uP x_ fun t10001000 x_ => uP x_ fun t10001001 x_ => uP x_ fun t10001002 x_ => k_ 0 (Shape.inj circ_one.c1x0 (o, t4, r_, o0, o1, o2, o3, o4, o5, t10001000, t10001001, t10001002, ())))
def circ_one.c3 {ρ : Type} (o0 : Int) (o1 : Int) (k_ : Bool → Option ρ) : Option ρ :=
  br (decide (o1 < (0 : Int)))
   (k_ true)
   (br (decide (o1 > (15 : Int)))
     (k_ true)
     (bnd (W.circ_turns o0) fun y =>
      br (!y)
       (k_ (o1 != (0 : Int)))
       (k_ false)))
def circ_one.c3s : Shape := ⟨[(0, q2), (1, q3), (2, q5), (4, q0)], [(2, q6), (1000100, q4)]⟩
def circ_one.c3x0 : Shape := ⟨[(0, q2), (1, q3), (2, q5), (4, q0), (36, q1)], [(2, q6), (1000100, q4)]⟩
def circ_one.c3r : Ck := Ck.of (T := Bool) circ_one.c3s (fun ρ x_ k_ => uP x_ fun o x_ => uP x_ fun t4 x_ => uP x_ fun o0 x_ => uP x_ fun o1 x_ => uP x_ fun o2 x_ => uP x_ fun o3 x_ => uP x_ fun o4 x_ => uP x_ fun o5 x_ => uP x_ fun t10001000 x_ => uP x_ fun t10001001 x_ => uP x_ fun t10001002 x_ => circ_one.c3 o0 o1 k_) (fun ρ x_ r_ k_ => uP x_ fun o x_ => uP x_ fun t4 x_ => uP x_ fun o0 x_ => uP x_ fun o1 x_ => uP x_ fun o2 x_ => uP x_ fun o3 x_ => uP x_ fun o4 x_ => uP x_ fun o5 x_ => uP x_ fun t10001000 x_ => uP x_ fun t10001001 x_ => uP x_ fun t10001002 x_ => k_ 0 (Shape.inj circ_one.c3x0 (o, t4, r_, o0, o1, o2, o3, o4, o5, t10001000, t10001001, t10001002, ())))
def circ_one.c5 {ρ : Type} (o0 : Int) (o3 : Int) (t10001000 : Int) (k_ : Bool → Option ρ) : Option ρ :=
  br (decide (o3 < (0 : Int)))
   (k_ true)
   (br (decide (o3 ≥ t10001000))
     (k_ true)
     (br (o0 == (1 : Int))
       (k_ (o3 != (0 : Int)))
       (k_ false)))
def circ_one.c5s : Shape := ⟨[(0, q2), (1, q3), (2, q5), (4, q0)], [(2, q6), (1000100, q4)]⟩
def circ_one.c5x0 : Shape := ⟨[(0, q2), (1, q3), (2, q5), (4, q0), (58, q1)], [(2, q6), (1000100, q4)]⟩
def circ_one.c5r : Ck := Ck.of (T := Bool) circ_one.c5s (fun ρ x_ k_ => uP x_ fun o x_ => uP x_ fun t4 x_ => uP x_ fun o0 x_ => uP x_ fun o1 x_ => uP x_ fun o2 x_ => uP x_ fun o3 x_ => uP x_ fun o4 x_ => uP x_ fun o5 x_ => uP x_ fun t10001000 x_ => uP x_ fun t10001001 x_ => uP x_ fun t10001002 x_ => circ_one.c5 o0 o3 t10001000 k_) (fun ρ x_ r_ k_ => uP x_ fun o x_ => uP x_ fun t4 x_ => uP x_ fun o0 x_ => uP x_ fun o1 x_ => uP x_ fun o2 x_ => uP x_ fun o3 x_ => uP x_ fun o4 x_ => uP x_ fun o5 x_ => uP x_ fun t10001000 x_ => uP x_ fun t10001001 x_ => uP x_ fun t10001002 x_ => k_ 0 (Shape.inj circ_one.c5x0 (o, t4, r_, o0, o1, o2, o3, o4, o5, t10001000, t10001001, t10001002, ())))
def circ_one.c7 {ρ : Type} (o0 : Int) (o2 : List (Int)) (k_ : Bool → Option ρ) : Option ρ :=
  br (decide ((↑(List.length o2) : Int) > (0 : Int)))
   (bnd (W.circ_gate o0) fun y =>
    k_ (!y))
   (k_ false)
def circ_one.c7s : Shape := ⟨[(0, q2), (1, q3), (2, q5), (4, q0)], [(2, q6), (1000100, q4)]⟩
def circ_one.c7x0 : Shape := ⟨[(0, q2), (1, q3), (2, q5), (4, q0), (68, q1)], [(2, q6), (1000100, q4)]⟩
def circ_one.c7r : Ck := Ck.of (T := Bool) circ_one.c7s (fun ρ x_ k_ => uP x_ fun o x_ => uP x_ fun t4 x_ => uP x_ fun o0 x_ => uP x_ fun o1 x_ => uP x_ fun o2 x_ => uP x_ fun o3 x_ => uP x_ fun o4 x_ => uP x_ fun o5 x_ => uP x_ fun t10001000 x_ => uP x_ fun t10001001 x_ => uP x_ fun t10001002 x_ => circ_one.c7 o0 o2 k_) (fun ρ x_ r_ k_ => uP x_ fun o x_ => uP x_ fun t4 x_ => uP x_ fun o0 x_ => uP x_ fun o1 x_ => uP x_ fun o2 x_ => uP x_ fun o3 x_ => uP x_ fun o4 x_ => uP x_ fun o5 x_ => uP x_ fun t10001000 x_ => uP x_ fun t10001001 x_ => uP x_ fun t10001002 x_ => k_ 0 (Shape.inj circ_one.c7x0 (o, t4, r_, o0, o1, o2, o3, o4, o5, t10001000, t10001001, t10001002, ())))
def circ_one.c14 {ρ : Type} (q : Int) (t10001000 : Int) (k_ : Bool → Option ρ) : Option ρ :=
  br (decide (q < (0 : Int)))
   (k_ true)
   (k_ (decide (q ≥ t10001000)))
def circ_one.c14s : Shape := ⟨[(0, q2), (1, q3), (2, q5), (4, q0), (5, q7), (7, q0), (74, q8), (75, q0), (76, q0)], [(2, q6), (5, q9), (1000100, q4)]⟩
def circ_one.c14x0 : Shape := ⟨[(0, q2), (1, q3), (2, q5), (4, q0), (5, q7), (7, q0), (74, q8), (75, q0), (76, q0), (80, q1)], [(2, q6), (5, q9), (1000100, q4)]⟩
def circ_one.c14r : Ck := Ck.of (T := Bool) circ_one.c14s (fun ρ x_ k_ => uP x_ fun o x_ => uP x_ fun t4 x_ => uP x_ fun q x_ => uP x_ fun t74 x_ => uP x_ fun t75 x_ => uP x_ fun t76 x_ => uP x_ fun o0 x_ => uP x_ fun o1 x_ => uP x_ fun o2 x_ => uP x_ fun o3 x_ => uP x_ fun o4 x_ => uP x_ fun o5 x_ => uP x_ fun seen x_ => uP x_ fun t10001000 x_ => uP x_ fun t10001001 x_ => uP x_ fun t10001002 x_ => circ_one.c14 q t10001000 k_) (fun ρ x_ r_ k_ => uP x_ fun o x_ => uP x_ fun t4 x_ => uP x_ fun q x_ => uP x_ fun t74 x_ => uP x_ fun t75 x_ => uP x_ fun t76 x_ => uP x_ fun o0 x_ => uP x_ fun o1 x_ => uP x_ fun o2 x_ => uP x_ fun o3 x_ => uP x_ fun o4 x_ => uP x_ fun o5 x_ => uP x_ fun seen x_ => uP x_ fun t10001000 x_ => uP x_ fun t10001001 x_ => uP x_ fun t10001002 x_ => k_ 0 (Shape.inj circ_one.c14x0 (o, t4, q, t74, t75, t76, r_, o0, o1, o2, o3, o4, o5, seen, t10001000, t10001001, t10001002, ())))
def circ_one.c100012 {ρ : Type} (t74 : List (Int)) (t75 : Int) (t76 : Int) (seen : List (Bool)) (t10001000 : Int) (k_ : ((Int) × (List (Bool))) ⊕ (((Int) × (Int) × (List (Bool))) ⊕ ((Int) × (List (Bool)))) → Option ρ) : Option ρ :=
  br (decide (t76 < t75))
   (bnd (idx t74 t76) fun y =>
    bnd (W.circ_one.c14 y t10001000 some) fun y_1 =>
    br y_1
     (k_ (.inr (.inl ((10 : Int), t76, seen))))
     (bnd (okIf (decide ((0 : Ty.den (Ty.int IntKind.i64)) ≤ y) && decide (y < (↑(12 : Nat) : Int)))) fun y_2 =>
      bnd (inR (List.length seen) y) fun y_3 =>
      bnd (idx seen y) fun y_4 =>
      br y_4
       (k_ (.inr (.inl ((12 : Int), t76, seen))))
       (bnd (okIf (decide ((0 : Ty.den (Ty.int IntKind.i64)) ≤ y) && decide (y < (↑(12 : Nat) : Int)))) fun y_5 =>
        bnd (inR (List.length seen) y) fun y_6 =>
        bnd (idx seen y) fun y_7 =>
        k_ (.inl ((IntKind.wrap IntKind.i64 (t76 + (1 : Int))), (List.set seen (Int.toNat y) true))))))
   (k_ (.inr (.inr (t76, seen))))
def circ_one.c100012s : Shape := ⟨[(0, q2), (1, q3), (2, q5), (4, q0), (5, q7), (74, q8), (75, q0), (76, q0)], [(2, q6), (5, q9), (1000100, q4)]⟩
def circ_one.c100012x0 : Shape := ⟨[(0, q2), (1, q3), (2, q5), (4, q0), (5, q7), (74, q8), (75, q0), (76, q0)], [(2, q6), (5, q9), (1000100, q4)]⟩
def circ_one.c100012x1 : Shape := ⟨[(0, q2), (1, q3), (2, q5), (4, q0), (5, q7), (74, q8), (75, q0), (76, q0)], [(2, q6), (5, q9), (1000100, q4)]⟩
def circ_one.c100012r : Ck := Ck.ofLoop (S := (Int) × (List (Bool))) (T := ((Int) × (Int) × (List (Bool))) ⊕ ((Int) × (List (Bool)))) circ_one.c100012s (fun x_ => uP x_ fun o x_ => uP x_ fun t4 x_ => uP x_ fun t74 x_ => uP x_ fun t75 x_ => uP x_ fun t76 x_ => uP x_ fun o0 x_ => uP x_ fun o1 x_ => uP x_ fun o2 x_ => uP x_ fun o3 x_ => uP x_ fun o4 x_ => uP x_ fun o5 x_ => uP x_ fun seen x_ => uP x_ fun t10001000 x_ => uP x_ fun t10001001 x_ => uP x_ fun t10001002 x_ => (t76, seen)) (fun ρ x_ s_ k_ => uP x_ fun o x_ => uP x_ fun t4 x_ => uP x_ fun t74 x_ => uP x_ fun t75 x_ => uP x_ fun t76 x_ => uP x_ fun o0 x_ => uP x_ fun o1 x_ => uP x_ fun o2 x_ => uP x_ fun o3 x_ => uP x_ fun o4 x_ => uP x_ fun o5 x_ => uP x_ fun seen x_ => uP x_ fun t10001000 x_ => uP x_ fun t10001001 x_ => uP x_ fun t10001002 x_ => circ_one.c100012 t74 t75 s_.1 s_.2 t10001000 k_) (fun ρ x_ r_ k_ => uP x_ fun o x_ => uP x_ fun t4 x_ => uP x_ fun t74 x_ => uP x_ fun t75 x_ => uP x_ fun t76 x_ => uP x_ fun o0 x_ => uP x_ fun o1 x_ => uP x_ fun o2 x_ => uP x_ fun o3 x_ => uP x_ fun o4 x_ => uP x_ fun o5 x_ => uP x_ fun seen x_ => uP x_ fun t10001000 x_ => uP x_ fun t10001001 x_ => uP x_ fun t10001002 x_ => sel r_ (fun r_ => k_ 1 (Shape.inj circ_one.c100012x0 (o, r_.1, t74, t75, r_.2.1, o0, o1, o2, o3, o4, o5, r_.2.2, t10001000, t10001001, t10001002, ()))) (fun r_ => k_ 2 (Shape.inj circ_one.c100012x1 (o, t4, t74, t75, r_.1, o0, o1, o2, o3, o4, o5, r_.2, t10001000, t10001001, t10001002, ()))))
def circ_one.c20 {ρ : Type} (o0 : Int) (o4 : Int) (t10001001 : Int) (k_ : Bool → Option ρ) : Option ρ :=
  br (o0 == (5 : Int))
   (br (decide (o4 < (0 : Int)))
     (k_ true)
     (br (decide (o4 ≥ t10001001))
       (k_ true)
       (br (o0 != (5 : Int))
         (k_ (o4 != (0 : Int)))
         (k_ false))))
   (br (o0 != (5 : Int))
     (k_ (o4 != (0 : Int)))
     (k_ false))
def circ_one.c20s : Shape := ⟨[(0, q2), (1, q3), (2, q5), (4, q0), (5, q7), (74, q8), (75, q0), (76, q0)], [(2, q6), (5, q9), (1000100, q4)]⟩
def circ_one.c20x0 : Shape := ⟨[(0, q2), (1, q3), (2, q5), (4, q0), (5, q7), (74, q8), (75, q0), (76, q0), (124, q1)], [(2, q6), (5, q9), (1000100, q4)]⟩
def circ_one.c20r : Ck := Ck.of (T := Bool) circ_one.c20s (fun ρ x_ k_ => uP x_ fun o x_ => uP x_ fun t4 x_ => uP x_ fun t74 x_ => uP x_ fun t75 x_ => uP x_ fun t76 x_ => uP x_ fun o0 x_ => uP x_ fun o1 x_ => uP x_ fun o2 x_ => uP x_ fun o3 x_ => uP x_ fun o4 x_ => uP x_ fun o5 x_ => uP x_ fun seen x_ => uP x_ fun t10001000 x_ => uP x_ fun t10001001 x_ => uP x_ fun t10001002 x_ => circ_one.c20 o0 o4 t10001001 k_) (fun ρ x_ r_ k_ => uP x_ fun o x_ => uP x_ fun t4 x_ => uP x_ fun t74 x_ => uP x_ fun t75 x_ => uP x_ fun t76 x_ => uP x_ fun o0 x_ => uP x_ fun o1 x_ => uP x_ fun o2 x_ => uP x_ fun o3 x_ => uP x_ fun o4 x_ => uP x_ fun o5 x_ => uP x_ fun seen x_ => uP x_ fun t10001000 x_ => uP x_ fun t10001001 x_ => uP x_ fun t10001002 x_ => k_ 0 (Shape.inj circ_one.c20x0 (o, t4, t74, t75, t76, r_, o0, o1, o2, o3, o4, o5, seen, t10001000, t10001001, t10001002, ())))
def circ_one.c27 {ρ : Type} (v : Int) (t10001001 : Int) (k_ : Bool → Option ρ) : Option ρ :=
  br (v == (0 : Int))
   (k_ true)
   (br (decide (v > t10001001))
     (k_ true)
     (k_ (decide (v < IntKind.wrap IntKind.i64 ((0 : Int) - t10001001)))))
def circ_one.c27s : Shape := ⟨[(0, q2), (1, q3), (2, q5), (4, q0), (5, q7), (9, q0), (74, q8), (75, q0), (76, q0), (130, q8), (131, q0), (132, q0)], [(2, q6), (5, q9), (1000100, q4)]⟩
def circ_one.c27x0 : Shape := ⟨[(0, q2), (1, q3), (2, q5), (4, q0), (5, q7), (9, q0), (74, q8), (75, q0), (76, q0), (130, q8), (131, q0), (132, q0), (154, q1)], [(2, q6), (5, q9), (1000100, q4)]⟩
def circ_one.c27r : Ck := Ck.of (T := Bool) circ_one.c27s (fun ρ x_ k_ => uP x_ fun o x_ => uP x_ fun t4 x_ => uP x_ fun v x_ => uP x_ fun t74 x_ => uP x_ fun t75 x_ => uP x_ fun t76 x_ => uP x_ fun t130 x_ => uP x_ fun t131 x_ => uP x_ fun t132 x_ => uP x_ fun o0 x_ => uP x_ fun o1 x_ => uP x_ fun o2 x_ => uP x_ fun o3 x_ => uP x_ fun o4 x_ => uP x_ fun o5 x_ => uP x_ fun seen x_ => uP x_ fun t10001000 x_ => uP x_ fun t10001001 x_ => uP x_ fun t10001002 x_ => circ_one.c27 v t10001001 k_) (fun ρ x_ r_ k_ => uP x_ fun o x_ => uP x_ fun t4 x_ => uP x_ fun v x_ => uP x_ fun t74 x_ => uP x_ fun t75 x_ => uP x_ fun t76 x_ => uP x_ fun t130 x_ => uP x_ fun t131 x_ => uP x_ fun t132 x_ => uP x_ fun o0 x_ => uP x_ fun o1 x_ => uP x_ fun o2 x_ => uP x_ fun o3 x_ => uP x_ fun o4 x_ => uP x_ fun o5 x_ => uP x_ fun seen x_ => uP x_ fun t10001000 x_ => uP x_ fun t10001001 x_ => uP x_ fun t10001002 x_ => k_ 0 (Shape.inj circ_one.c27x0 (o, t4, v, t74, t75, t76, t130, t131, t132, r_, o0, o1, o2, o3, o4, o5, seen, t10001000, t10001001, t10001002, ())))
def circ_one.c100025 {ρ : Type} (t130 : List (Int)) (t131 : Int) (t132 : Int) (t10001001 : Int) (k_ : (Int) ⊕ ((Int) ⊕ (Int)) → Option ρ) : Option ρ :=
  br (decide (t132 < t131))
   (bnd (idx t130 t132) fun y =>
    bnd (W.circ_one.c27 y t10001001 some) fun y_1 =>
    br y_1
     (k_ (.inr (.inl t132)))
     (k_ (.inl (IntKind.wrap IntKind.i64 (t132 + (1 : Int))))))
   (k_ (.inr (.inr t132)))
def circ_one.c100025s : Shape := ⟨[(0, q2), (1, q3), (2, q5), (4, q0), (5, q7), (74, q8), (75, q0), (76, q0), (130, q8), (131, q0), (132, q0)], [(2, q6), (5, q9), (1000100, q4)]⟩
def circ_one.c100025x0 : Shape := ⟨[(0, q2), (1, q3), (2, q5), (4, q0), (5, q7), (74, q8), (75, q0), (76, q0), (130, q8), (131, q0), (132, q0)], [(2, q6), (5, q9), (1000100, q4)]⟩
def circ_one.c100025x1 : Shape := ⟨[(0, q2), (1, q3), (2, q5), (4, q0), (5, q7), (74, q8), (75, q0), (76, q0), (130, q8), (131, q0), (132, q0)], [(2, q6), (5, q9), (1000100, q4)]⟩
def circ_one.c100025r : Ck := Ck.ofLoop (S := Int) (T := (Int) ⊕ (Int)) circ_one.c100025s (fun x_ => uP x_ fun o x_ => uP x_ fun t4 x_ => uP x_ fun t74 x_ => uP x_ fun t75 x_ => uP x_ fun t76 x_ => uP x_ fun t130 x_ => uP x_ fun t131 x_ => uP x_ fun t132 x_ => uP x_ fun o0 x_ => uP x_ fun o1 x_ => uP x_ fun o2 x_ => uP x_ fun o3 x_ => uP x_ fun o4 x_ => uP x_ fun o5 x_ => uP x_ fun seen x_ => uP x_ fun t10001000 x_ => uP x_ fun t10001001 x_ => uP x_ fun t10001002 x_ => t132) (fun ρ x_ s_ k_ => uP x_ fun o x_ => uP x_ fun t4 x_ => uP x_ fun t74 x_ => uP x_ fun t75 x_ => uP x_ fun t76 x_ => uP x_ fun t130 x_ => uP x_ fun t131 x_ => uP x_ fun t132 x_ => uP x_ fun o0 x_ => uP x_ fun o1 x_ => uP x_ fun o2 x_ => uP x_ fun o3 x_ => uP x_ fun o4 x_ => uP x_ fun o5 x_ => uP x_ fun seen x_ => uP x_ fun t10001000 x_ => uP x_ fun t10001001 x_ => uP x_ fun t10001002 x_ => circ_one.c100025 t130 t131 s_ t10001001 k_) (fun ρ x_ r_ k_ => uP x_ fun o x_ => uP x_ fun t4 x_ => uP x_ fun t74 x_ => uP x_ fun t75 x_ => uP x_ fun t76 x_ => uP x_ fun t130 x_ => uP x_ fun t131 x_ => uP x_ fun t132 x_ => uP x_ fun o0 x_ => uP x_ fun o1 x_ => uP x_ fun o2 x_ => uP x_ fun o3 x_ => uP x_ fun o4 x_ => uP x_ fun o5 x_ => uP x_ fun seen x_ => uP x_ fun t10001000 x_ => uP x_ fun t10001001 x_ => uP x_ fun t10001002 x_ => sel r_ (fun r_ => k_ 1 (Shape.inj circ_one.c100025x0 (o, (14 : Int), t74, t75, t76, t130, t131, r_, o0, o1, o2, o3, o4, o5, seen, t10001000, t10001001, t10001002, ()))) (fun r_ => k_ 5 (Shape.inj circ_one.c100025x1 (o, t4, t74, t75, t76, t130, t131, r_, o0, o1, o2, o3, o4, o5, seen, t10001000, t10001001, t10001002, ()))))
def circ_one (o : (Int) × ((Int) × ((List Int) × ((Int) × ((Int) × (List Int)))))) (t10001000 : Int) (t10001001 : Int) (t10001002 : List ((Int) × ((Int) × ((List Int) × ((Int) × ((Int) × (List Int))))))) : Option ((Int) × (Int) × (Int) × (List ((Int) × ((Int) × ((List Int) × ((Int) × ((Int) × (List Int))))))) × Unit) :=
  bnd (W.circ_one.c1 (Prod.fst o) some) fun y =>
  br y
   (some (uP (uP ((8 : Int), ()) fun u r ↦ (u, ())) fun u r ↦ (u, uP (uP (t10001000, ()) fun u r ↦ (u, uP (t10001001, ()) fun u r ↦ (u, uP (t10001002, ()) fun u r ↦ (u, ())))) fun u r ↦ (u, uP r fun u r ↦ (u, uP r fun u r ↦ (u, ()))))))
   (bnd (W.circ_one.c3 (Prod.fst o) (Prod.fst (Prod.snd o)) some) fun y_1 =>
    br y_1
     (some (uP (uP ((9 : Int), ()) fun u r ↦ (u, ())) fun u r ↦ (u, uP (uP (t10001000, ()) fun u r ↦ (u, uP (t10001001, ()) fun u r ↦ (u, uP (t10001002, ()) fun u r ↦ (u, ())))) fun u r ↦ (u, uP r fun u r ↦ (u, uP r fun u r ↦ (u, ()))))))
     (bnd (W.circ_one.c5 (Prod.fst o) (Prod.fst (Prod.snd (Prod.snd (Prod.snd o)))) t10001000 some) fun y_2 =>
      br y_2
       (some (uP (uP ((10 : Int), ()) fun u r ↦ (u, ())) fun u r ↦ (u, uP (uP (t10001000, ()) fun u r ↦ (u, uP (t10001001, ()) fun u r ↦ (u, uP (t10001002, ()) fun u r ↦ (u, ())))) fun u r ↦ (u, uP r fun u r ↦ (u, uP r fun u r ↦ (u, ()))))))
       (bnd (W.circ_one.c7 (Prod.fst o) (Prod.fst (Prod.snd (Prod.snd o))) some) fun y_3 =>
        br y_3
         (some (uP (uP ((11 : Int), ()) fun u r ↦ (u, ())) fun u r ↦ (u, uP (uP (t10001000, ()) fun u r ↦ (u, uP (t10001001, ()) fun u r ↦ (u, uP (t10001002, ()) fun u r ↦ (u, ())))) fun u r ↦ (u, uP r fun u r ↦ (u, uP r fun u r ↦ (u, ()))))))
         (bnd (okIf (decide ((0 : Ty.den (Ty.int IntKind.i64)) ≤ Prod.fst (Prod.snd (Prod.snd (Prod.snd o)))) && decide (Prod.fst (Prod.snd (Prod.snd (Prod.snd o))) < (↑(12 : Nat) : Int)))) fun y_4 =>
          bnd (inR (List.length (List.replicate (12 : Nat) false)) (Prod.fst (Prod.snd (Prod.snd (Prod.snd o))))) fun y_5 =>
          bnd (idx (List.replicate (12 : Nat) false) (Prod.fst (Prod.snd (Prod.snd (Prod.snd o))))) fun y_6 =>
          bnd (iter (fun s ↦ W.circ_one.c100012 (Prod.fst (Prod.snd (Prod.snd o))) (↑(List.length (Prod.fst (Prod.snd (Prod.snd o)))) : Int) (Prod.fst s) (Prod.snd s) t10001000 some) ((0 : Int), List.set (List.replicate (12 : Nat) false) (Int.toNat (Prod.fst (Prod.snd (Prod.snd (Prod.snd o))))) true)) fun y_7 =>
          sel y_7
           (fun u => some (uP (uP (Prod.fst u, ()) fun u r ↦ (u, ())) fun u r ↦ (u, uP (uP (t10001000, ()) fun u r ↦ (u, uP (t10001001, ()) fun u r ↦ (u, uP (t10001002, ()) fun u r ↦ (u, ())))) fun u r ↦ (u, uP r fun u r ↦ (u, uP r fun u r ↦ (u, ()))))))
           (fun v => bnd (W.circ_one.c20 (Prod.fst o) (Prod.fst (Prod.snd (Prod.snd (Prod.snd (Prod.snd o))))) t10001001 some) fun y_8 =>
            br y_8
             (some (uP (uP ((13 : Int), ()) fun u r ↦ (u, ())) fun u r ↦ (u, uP (uP (t10001000, ()) fun u r ↦ (u, uP (t10001001, ()) fun u r ↦ (u, uP (t10001002, ()) fun u r ↦ (u, ())))) fun u r ↦ (u, uP r fun u r ↦ (u, uP r fun u r ↦ (u, ()))))))
             (br (decide ((↑(List.length (Prod.snd (Prod.snd (Prod.snd (Prod.snd (Prod.snd o)))))) : Int) > (24 : Int)))
               (some (uP (uP ((14 : Int), ()) fun u r ↦ (u, ())) fun u r ↦ (u, uP (uP (t10001000, ()) fun u r ↦ (u, uP (t10001001, ()) fun u r ↦ (u, uP (t10001002, ()) fun u r ↦ (u, ())))) fun u r ↦ (u, uP r fun u r ↦ (u, uP r fun u r ↦ (u, ()))))))
               (bnd (iter (fun s ↦ W.circ_one.c100025 (Prod.snd (Prod.snd (Prod.snd (Prod.snd (Prod.snd o))))) (↑(List.length (Prod.snd (Prod.snd (Prod.snd (Prod.snd (Prod.snd o)))))) : Int) s t10001001 some) (0 : Int)) fun y_9 =>
                sel y_9
                 (fun u_1 => some (uP (uP ((14 : Int), ()) fun u r ↦ (u, ())) fun u r ↦ (u, uP (uP (t10001000, ()) fun u r ↦ (u, uP (t10001001, ()) fun u r ↦ (u, uP (t10001002, ()) fun u r ↦ (u, ())))) fun u r ↦ (u, uP r fun u r ↦ (u, uP r fun u r ↦ (u, ()))))))
                 (fun v_1 => some (uP (uP ((0 : Int), ()) fun u r ↦ (u, ())) fun u r ↦ (u, uP (uP (t10001000, ()) fun u r ↦ (u, uP (t10001001, ()) fun u r ↦ (u, uP (t10001002, ()) fun u r ↦ (u, ())))) fun u r ↦ (u, uP r fun u r ↦ (u, uP r fun u r ↦ (u, ())))))))))))))
def circ_one.mc : MCallee := ⟨41, circ_one.pre, circ_one.post, fun x_ => circ_one x_.1 x_.2.1 x_.2.2.1 x_.2.2.2.1⟩
def circ_one.G : Env := ⟨156, tab, [(68, circ_turns.ce), (69, circ_gate.ce)], [0, 1, 2, 4, 5, 7, 9, 17, 36, 58, 68, 74, 75, 76, 77, 80, 91, 124, 128, 130, 131, 132, 133, 154], [5, 69], [(20, [⟨[], [], [], []⟩, ⟨[0], [], [], []⟩, ⟨[1, 0], [], [], []⟩, ⟨[2, 1, 0], [], [], []⟩, ⟨[3, 2, 1, 0], [], [], []⟩, ⟨[4, 3, 2, 1, 0], [], [], []⟩, ⟨[5, 4, 3, 2, 1, 0], [], [], []⟩, ⟨[6, 5, 4, 3, 2, 1, 0], [], [], []⟩, ⟨[7, 6, 5, 4, 3, 2, 1, 0], [], [108, 109, 110, 111], []⟩, ⟨[8, 7, 6, 5, 4, 3, 2, 1, 0], [], [108, 109, 110, 111], []⟩, ⟨[7, 6, 5, 4, 3, 2, 1, 0], [], [106, 107], []⟩, ⟨[10, 7, 6, 5, 4, 3, 2, 1, 0], [], [106, 107], []⟩, ⟨[11, 10, 7, 6, 5, 4, 3, 2, 1, 0], [], [106, 107], []⟩, ⟨[12, 11, 10, 7, 6, 5, 4, 3, 2, 1, 0], [], [106, 107], []⟩, ⟨[9, 8, 7, 6, 5, 4, 3, 2, 1, 0, 13, 12, 11, 10], [], [], []⟩, ⟨[7, 6, 5, 4, 3, 2, 1, 0, 14, 9, 8, 13, 12, 11, 10], [], [], []⟩, ⟨[3, 2, 1, 0, 15, 7, 6, 5, 4, 14, 9, 8, 13, 12, 11, 10], [], [], []⟩, ⟨[16, 3, 2, 1, 0, 15, 7, 6, 5, 4, 14, 9, 8, 13, 12, 11, 10], [], [], []⟩, ⟨[17, 16, 3, 2, 1, 0, 15, 7, 6, 5, 4, 14, 9, 8, 13, 12, 11, 10], [], [], []⟩, ⟨[18, 17, 16, 3, 2, 1, 0, 15, 7, 6, 5, 4, 14, 9, 8, 13, 12, 11, 10], [], [], []⟩, ⟨[19, 18, 17, 16, 3, 2, 1, 0, 15, 7, 6, 5, 4, 14, 9, 8, 13, 12, 11, 10], [], [], []⟩, ⟨[20, 19, 18, 17, 16, 3, 2, 1, 0, 15, 7, 6, 5, 4, 14, 9, 8, 13, 12, 11, 10], [], [], []⟩, ⟨[21, 20, 19, 18, 17, 16, 3, 2, 1, 0, 15, 7, 6, 5, 4, 14, 9, 8, 13, 12, 11, 10], [], [], []⟩, ⟨[22, 21, 20, 19, 18, 17, 16, 3, 2, 1, 0, 15, 7, 6, 5, 4, 14, 9, 8, 13, 12, 11, 10], [], [], []⟩, ⟨[23, 22, 21, 20, 19, 18, 17, 16, 3, 2, 1, 0, 15, 7, 6, 5, 4, 14, 9, 8, 13, 12, 11, 10], [], [], []⟩, ⟨[21, 20, 19, 18, 17, 16, 3, 2, 1, 0, 15, 7, 6, 5, 4, 14, 9, 8, 13, 12, 11, 10, 24, 23, 22], [], [], []⟩, ⟨[17, 16, 3, 2, 1, 0, 15, 7, 6, 5, 4, 14, 9, 8, 13, 12, 11, 10, 25, 21, 20, 19, 18, 24, 23, 22], [], [], []⟩]),
  (5, [⟨[], [], [], []⟩, ⟨[0], [], [], []⟩, ⟨[1, 0], [], [], []⟩, ⟨[2, 1, 0], [], [], []⟩, ⟨[3, 2, 1, 0], [], [43, 44, 45, 46], []⟩, ⟨[4, 3, 2, 1, 0], [], [43, 44, 45, 46], []⟩, ⟨[3, 2, 1, 0], [], [41, 42], []⟩, ⟨[6, 3, 2, 1, 0], [], [41, 42], []⟩, ⟨[7, 6, 3, 2, 1, 0], [], [41, 42], []⟩, ⟨[8, 7, 6, 3, 2, 1, 0], [], [41, 42], []⟩, ⟨[5, 4, 3, 2, 1, 0, 9, 8, 7, 6], [], [], []⟩, ⟨[3, 2, 1, 0, 10, 5, 4, 9, 8, 7, 6], [], [], []⟩, ⟨[11, 3, 2, 1, 0, 10, 5, 4, 9, 8, 7, 6], [], [], []⟩, ⟨[12, 11, 3, 2, 1, 0, 10, 5, 4, 9, 8, 7, 6], [], [], []⟩, ⟨[13, 12, 11, 3, 2, 1, 0, 10, 5, 4, 9, 8, 7, 6], [], [], []⟩, ⟨[14, 13, 12, 11, 3, 2, 1, 0, 10, 5, 4, 9, 8, 7, 6], [], [], []⟩, ⟨[15, 14, 13, 12, 11, 3, 2, 1, 0, 10, 5, 4, 9, 8, 7, 6], [], [], []⟩, ⟨[16, 15, 14, 13, 12, 11, 3, 2, 1, 0, 10, 5, 4, 9, 8, 7, 6], [], [], []⟩, ⟨[17, 16, 15, 14, 13, 12, 11, 3, 2, 1, 0, 10, 5, 4, 9, 8, 7, 6], [], [], []⟩, ⟨[18, 17, 16, 15, 14, 13, 12, 11, 3, 2, 1, 0, 10, 5, 4, 9, 8, 7, 6], [], [], []⟩, ⟨[16, 15, 14, 13, 12, 11, 3, 2, 1, 0, 10, 5, 4, 9, 8, 7, 6, 19, 18, 17], [], [], []⟩, ⟨[12, 11, 3, 2, 1, 0, 10, 5, 4, 9, 8, 7, 6, 20, 16, 15, 14, 13, 19, 18, 17], [], [], []⟩])], [(100025, circ_one.c100025r), (27, circ_one.c27r), (20, circ_one.c20r), (100012, circ_one.c100012r), (14, circ_one.c14r), (7, circ_one.c7r), (5, circ_one.c5r), (3, circ_one.c3r), (1, circ_one.c1r)], [], tab_eqs⟩
theorem circ_one.eq (x_ : densU circ_one.mc.pre.tys) : denM circ_one.G Go.Proofs.Tryd.f41 circ_one.mc.pre circ_one.mc.post x_ = circ_one.mc.F x_ := by kernel_rfl
theorem circ_one.p0 : PieceOk circ_one.G (pieceAt (pieces circ_one.G.cks (bodyOf Go.Proofs.Tryd.f41)) 0).1 (pieceAt (pieces circ_one.G.cks (bodyOf Go.Proofs.Tryd.f41)) 0).2 :=
  region_ok (s := circ_one.c1r) (by kernel_rfl) (by kernel_rfl) (sums_of (sh := circ_one.c1s) (fun ρ x_ k_ => (nat_br nat_leaf nat_leaf)) (fun ρ x_ t k => (by kernel_rfl)) (fun x_ => by kernel_rfl))
theorem circ_one.p1 : PieceOk circ_one.G (pieceAt (pieces circ_one.G.cks (bodyOf Go.Proofs.Tryd.f41)) 1).1 (pieceAt (pieces circ_one.G.cks (bodyOf Go.Proofs.Tryd.f41)) 1).2 :=
  region_ok (s := circ_one.c3r) (by kernel_rfl) (by kernel_rfl) (sums_of (sh := circ_one.c3s) (fun ρ x_ k_ => (nat_br nat_leaf (nat_br nat_leaf (nat_bnd fun _ => (nat_br nat_leaf nat_leaf))))) (fun ρ x_ t k => (by kernel_rfl)) (fun x_ => by kernel_rfl))
theorem circ_one.p2 : PieceOk circ_one.G (pieceAt (pieces circ_one.G.cks (bodyOf Go.Proofs.Tryd.f41)) 2).1 (pieceAt (pieces circ_one.G.cks (bodyOf Go.Proofs.Tryd.f41)) 2).2 :=
  region_ok (s := circ_one.c5r) (by kernel_rfl) (by kernel_rfl) (sums_of (sh := circ_one.c5s) (fun ρ x_ k_ => (nat_br nat_leaf (nat_br nat_leaf (nat_br nat_leaf nat_leaf)))) (fun ρ x_ t k => (by kernel_rfl)) (fun x_ => by kernel_rfl))
theorem circ_one.p3 : PieceOk circ_one.G (pieceAt (pieces circ_one.G.cks (bodyOf Go.Proofs.Tryd.f41)) 3).1 (pieceAt (pieces circ_one.G.cks (bodyOf Go.Proofs.Tryd.f41)) 3).2 :=
  region_ok (s := circ_one.c7r) (by kernel_rfl) (by kernel_rfl) (sums_of (sh := circ_one.c7s) (fun ρ x_ k_ => (nat_br (nat_bnd fun _ => nat_leaf) nat_leaf)) (fun ρ x_ t k => (by kernel_rfl)) (fun x_ => by kernel_rfl))
theorem circ_one.p4 : PieceOk circ_one.G (pieceAt (pieces circ_one.G.cks (bodyOf Go.Proofs.Tryd.f41)) 4).1 (pieceAt (pieces circ_one.G.cks (bodyOf Go.Proofs.Tryd.f41)) 4).2 :=
  loop_ok (s := circ_one.c100012r) (by kernel_rfl) (by kernel_rfl) (loops_of (sh := circ_one.c100012s) (I := fun x_ s_ => (x_.1, x_.2.1, x_.2.2.1, x_.2.2.2.1, s_.1, x_.2.2.2.2.2.1, x_.2.2.2.2.2.2.1, x_.2.2.2.2.2.2.2.1, x_.2.2.2.2.2.2.2.2.1, x_.2.2.2.2.2.2.2.2.2.1, x_.2.2.2.2.2.2.2.2.2.2.1, s_.2, x_.2.2.2.2.2.2.2.2.2.2.2.2.1, x_.2.2.2.2.2.2.2.2.2.2.2.2.2.1, x_.2.2.2.2.2.2.2.2.2.2.2.2.2.2.1, ())) (fun x_ => rfl) (fun ρ x_ s_ k_ => (nat_br (nat_bnd fun _ => (nat_bnd fun _ => (nat_br nat_leaf (nat_bnd fun _ => (nat_bnd fun _ => (nat_bnd fun _ => (nat_br nat_leaf (nat_bnd fun _ => (nat_bnd fun _ => (nat_bnd fun _ => nat_leaf)))))))))) nat_leaf)) (fun ρ x_ t k => (nat_sel (fun _ => (by kernel_rfl)) (fun _ => (by kernel_rfl)))) (fun x_ s => by kernel_rfl))
theorem circ_one.p5 : PieceOk circ_one.G (pieceAt (pieces circ_one.G.cks (bodyOf Go.Proofs.Tryd.f41)) 5).1 (pieceAt (pieces circ_one.G.cks (bodyOf Go.Proofs.Tryd.f41)) 5).2 :=
  region_ok (s := circ_one.c14r) (by kernel_rfl) (by kernel_rfl) (sums_of (sh := circ_one.c14s) (fun ρ x_ k_ => (nat_br nat_leaf nat_leaf)) (fun ρ x_ t k => (by kernel_rfl)) (fun x_ => by kernel_rfl))
theorem circ_one.p6 : PieceOk circ_one.G (pieceAt (pieces circ_one.G.cks (bodyOf Go.Proofs.Tryd.f41)) 6).1 (pieceAt (pieces circ_one.G.cks (bodyOf Go.Proofs.Tryd.f41)) 6).2 :=
  region_ok (s := circ_one.c20r) (by kernel_rfl) (by kernel_rfl) (sums_of (sh := circ_one.c20s) (fun ρ x_ k_ => (nat_br (nat_br nat_leaf (nat_br nat_leaf (nat_br nat_leaf nat_leaf))) (nat_br nat_leaf nat_leaf))) (fun ρ x_ t k => (by kernel_rfl)) (fun x_ => by kernel_rfl))
theorem circ_one.p7 : PieceOk circ_one.G (pieceAt (pieces circ_one.G.cks (bodyOf Go.Proofs.Tryd.f41)) 7).1 (pieceAt (pieces circ_one.G.cks (bodyOf Go.Proofs.Tryd.f41)) 7).2 :=
  loop_ok (s := circ_one.c100025r) (by kernel_rfl) (by kernel_rfl) (loops_of (sh := circ_one.c100025s) (I := fun x_ s_ => (x_.1, x_.2.1, x_.2.2.1, x_.2.2.2.1, x_.2.2.2.2.1, x_.2.2.2.2.2.1, x_.2.2.2.2.2.2.1, s_, x_.2.2.2.2.2.2.2.2.1, x_.2.2.2.2.2.2.2.2.2.1, x_.2.2.2.2.2.2.2.2.2.2.1, x_.2.2.2.2.2.2.2.2.2.2.2.1, x_.2.2.2.2.2.2.2.2.2.2.2.2.1, x_.2.2.2.2.2.2.2.2.2.2.2.2.2.1, x_.2.2.2.2.2.2.2.2.2.2.2.2.2.2.1, x_.2.2.2.2.2.2.2.2.2.2.2.2.2.2.2.1, x_.2.2.2.2.2.2.2.2.2.2.2.2.2.2.2.2.1, x_.2.2.2.2.2.2.2.2.2.2.2.2.2.2.2.2.2.1, ())) (fun x_ => rfl) (fun ρ x_ s_ k_ => (nat_br (nat_bnd fun _ => (nat_bnd fun _ => (nat_br nat_leaf nat_leaf))) nat_leaf)) (fun ρ x_ t k => (nat_sel (fun _ => (by kernel_rfl)) (fun _ => (by kernel_rfl)))) (fun x_ s => by kernel_rfl))
theorem circ_one.p8 : PieceOk circ_one.G (pieceAt (pieces circ_one.G.cks (bodyOf Go.Proofs.Tryd.f41)) 8).1 (pieceAt (pieces circ_one.G.cks (bodyOf Go.Proofs.Tryd.f41)) 8).2 :=
  region_ok (s := circ_one.c27r) (by kernel_rfl) (by kernel_rfl) (sums_of (sh := circ_one.c27s) (fun ρ x_ k_ => (nat_br nat_leaf (nat_br nat_leaf nat_leaf))) (fun ρ x_ t k => (by kernel_rfl)) (fun x_ => by kernel_rfl))
theorem circ_one.ok : MOk Go.Proofs.Tryd.prog 41 circ_one.mc := fnm_ok (G := circ_one.G) tab_ok mixed Go.Proofs.Tryd.func41 ⟨(fns_cons circ_turns.ok (fns_cons circ_gate.ok fns_nil)), mfns_nil, tab_eqs_ok⟩ (m := 9) (by kernel_rfl) ⟨⟨⟨⟨⟨⟨⟨⟨⟨trivial, circ_one.p0⟩, circ_one.p1⟩, circ_one.p2⟩, circ_one.p3⟩, circ_one.p4⟩, circ_one.p5⟩, circ_one.p6⟩, circ_one.p7⟩, circ_one.p8⟩ (by kernel_rfl) circ_one.eq
abbrev q10 : SD := .one (.val (.st (.pair (.int .i64) (.pair (.int .i64) (.sl (.st (.pair (.int .i64) (.pair (.int .i64) (.pair (.sl (.int .i64)) (.pair (.int .i64) (.pair (.int .i64) (.sl (.int .i64)))))))))))))
abbrev q11 : SD := .one (.ref 1 0)
abbrev q12 : SO := .box [.val (.int .i64), .val (.int .i64)]
abbrev q13 : SD := .one (.val (.sl (.st (.pair (.int .i64) (.pair (.int .i64) (.pair (.sl (.int .i64)) (.pair (.int .i64) (.pair (.int .i64) (.sl (.int .i64))))))))))
def circ_Check.c1 {ρ : Type} (c0 : Int) (k_ : Bool → Option ρ) : Option ρ :=
  br (decide (c0 < (1 : Int)))
   (k_ true)
   (k_ (decide (c0 > (12 : Int))))
def circ_Check.c1s : Shape := ⟨[(0, q10), (1, q11), (2, q5)], [(1, q4), (2, q12)]⟩
def circ_Check.c1x0 : Shape := ⟨[(0, q10), (1, q11), (2, q5), (6, q1)], [(1, q4), (2, q12)]⟩
def circ_Check.c1r : Ck := Ck.of (T := Bool) circ_Check.c1s (fun ρ x_ k_ => uP x_ fun c x_ => uP x_ fun c0 x_ => uP x_ fun c1 x_ => uP x_ fun c2 x_ => uP x_ fun t20 x_ => uP x_ fun t21 x_ => circ_Check.c1 c0 k_) (fun ρ x_ r_ k_ => uP x_ fun c x_ => uP x_ fun c0 x_ => uP x_ fun c1 x_ => uP x_ fun c2 x_ => uP x_ fun t20 x_ => uP x_ fun t21 x_ => k_ 0 (Shape.inj circ_Check.c1x0 (c, r_, c0, c1, c2, t20, t21, ())))
def circ_Check.c3 {ρ : Type} (c1 : Int) (k_ : Bool → Option ρ) : Option ρ :=
  br (decide (c1 < (0 : Int)))
   (k_ true)
   (k_ (decide (c1 > (12 : Int))))
def circ_Check.c3s : Shape := ⟨[(0, q10), (1, q11), (2, q5)], [(1, q4), (2, q12)]⟩
def circ_Check.c3x0 : Shape := ⟨[(0, q10), (1, q11), (2, q5), (16, q1)], [(1, q4), (2, q12)]⟩
def circ_Check.c3r : Ck := Ck.of (T := Bool) circ_Check.c3s (fun ρ x_ k_ => uP x_ fun c x_ => uP x_ fun c0 x_ => uP x_ fun c1 x_ => uP x_ fun c2 x_ => uP x_ fun t20 x_ => uP x_ fun t21 x_ => circ_Check.c3 c1 k_) (fun ρ x_ r_ k_ => uP x_ fun c x_ => uP x_ fun c0 x_ => uP x_ fun c1 x_ => uP x_ fun c2 x_ => uP x_ fun t20 x_ => uP x_ fun t21 x_ => k_ 0 (Shape.inj circ_Check.c3x0 (c, r_, c0, c1, c2, t20, t21, ())))
def circ_Check.c100008 {ρ : Type} (t33 : List ((Int) × ((Int) × ((List Int) × ((Int) × ((Int) × (List Int))))))) (t34 : Int) (t35 : Int) (c0 : Int) (c1 : Int) (c2 : List ((Int) × ((Int) × ((List Int) × ((Int) × ((Int) × (List Int))))))) (k_ : ((Int) × (Int) × (Int) × (List ((Int) × ((Int) × ((List Int) × ((Int) × ((Int) × (List Int)))))))) ⊕ (((Int) × (Int) × (Int) × (List ((Int) × ((Int) × ((List Int) × ((Int) × ((Int) × (List Int))))))) × (Int) × (Int)) ⊕ ((Int) × (Int) × (Int) × (List ((Int) × ((Int) × ((List Int) × ((Int) × ((Int) × (List Int))))))))) → Option ρ) : Option ρ :=
  br (decide (t35 < t34))
   (bnd (idx t33 t35) fun y =>
    bnd (W.circ_one (Prod.fst (uP (uP ((Prod.fst y, Prod.fst (Prod.snd y), Prod.fst (Prod.snd (Prod.snd y)), Prod.fst (Prod.snd (Prod.snd (Prod.snd y))), Prod.fst (Prod.snd (Prod.snd (Prod.snd (Prod.snd y)))), Prod.snd (Prod.snd (Prod.snd (Prod.snd (Prod.snd y))))), ()) fun u r ↦ (u, ())) fun u r ↦ (u, uP (uP (c0, ()) fun u r ↦ (u, uP (c1, ()) fun u r ↦ (u, uP (c2, ()) fun u r ↦ (u, ())))) fun u r ↦ (u, uP r fun u r ↦ (u, uP r fun u r ↦ (u, ())))))) (Prod.fst (Prod.snd (uP (uP ((Prod.fst y, Prod.fst (Prod.snd y), Prod.fst (Prod.snd (Prod.snd y)), Prod.fst (Prod.snd (Prod.snd (Prod.snd y))), Prod.fst (Prod.snd (Prod.snd (Prod.snd (Prod.snd y)))), Prod.snd (Prod.snd (Prod.snd (Prod.snd (Prod.snd y))))), ()) fun u r ↦ (u, ())) fun u r ↦ (u, uP (uP (c0, ()) fun u r ↦ (u, uP (c1, ()) fun u r ↦ (u, uP (c2, ()) fun u r ↦ (u, ())))) fun u r ↦ (u, uP r fun u r ↦ (u, uP r fun u r ↦ (u, ()))))))) (Prod.fst (Prod.snd (Prod.snd (uP (uP ((Prod.fst y, Prod.fst (Prod.snd y), Prod.fst (Prod.snd (Prod.snd y)), Prod.fst (Prod.snd (Prod.snd (Prod.snd y))), Prod.fst (Prod.snd (Prod.snd (Prod.snd (Prod.snd y)))), Prod.snd (Prod.snd (Prod.snd (Prod.snd (Prod.snd y))))), ()) fun u r ↦ (u, ())) fun u r ↦ (u, uP (uP (c0, ()) fun u r ↦ (u, uP (c1, ()) fun u r ↦ (u, uP (c2, ()) fun u r ↦ (u, ())))) fun u r ↦ (u, uP r fun u r ↦ (u, uP r fun u r ↦ (u, ())))))))) (Prod.fst (Prod.snd (Prod.snd (Prod.snd (uP (uP ((Prod.fst y, Prod.fst (Prod.snd y), Prod.fst (Prod.snd (Prod.snd y)), Prod.fst (Prod.snd (Prod.snd (Prod.snd y))), Prod.fst (Prod.snd (Prod.snd (Prod.snd (Prod.snd y)))), Prod.snd (Prod.snd (Prod.snd (Prod.snd (Prod.snd y))))), ()) fun u r ↦ (u, ())) fun u r ↦ (u, uP (uP (c0, ()) fun u r ↦ (u, uP (c1, ()) fun u r ↦ (u, uP (c2, ()) fun u r ↦ (u, ())))) fun u r ↦ (u, uP r fun u r ↦ (u, uP r fun u r ↦ (u, ())))))))))) fun y_1 =>
    br (Prod.fst y_1 != (0 : Int))
     (bnd (W.circ_fault (Prod.fst y_1) t35) fun y_2 =>
      k_ (.inr (.inl (t35, (Prod.fst y_1.2), (Prod.fst y_1.2.2), (Prod.fst y_1.2.2.2), (Prod.fst y_2), (Prod.snd y_2)))))
     (k_ (.inl ((IntKind.wrap IntKind.i64 (t35 + (1 : Int))), (Prod.fst y_1.2), (Prod.fst y_1.2.2), (Prod.fst y_1.2.2.2)))))
   (k_ (.inr (.inr (t35, c0, c1, c2))))
def circ_Check.c100008s : Shape := ⟨[(0, q10), (1, q11), (2, q5), (33, q13), (34, q0), (35, q0)], [(1, q4), (2, q12)]⟩
def circ_Check.c100008x0 : Shape := ⟨[(0, q10), (1, q11), (2, q5), (33, q13), (34, q0), (35, q0)], [(1, q4), (2, q12)]⟩
def circ_Check.c100008x1 : Shape := ⟨[(0, q10), (1, q11), (2, q5), (33, q13), (34, q0), (35, q0)], [(1, q4), (2, q12)]⟩
def circ_Check.c100008r : Ck := Ck.ofLoop (S := (Int) × (Int) × (Int) × (List ((Int) × ((Int) × ((List Int) × ((Int) × ((Int) × (List Int)))))))) (T := ((Int) × (Int) × (Int) × (List ((Int) × ((Int) × ((List Int) × ((Int) × ((Int) × (List Int))))))) × (Int) × (Int)) ⊕ ((Int) × (Int) × (Int) × (List ((Int) × ((Int) × ((List Int) × ((Int) × ((Int) × (List Int))))))))) circ_Check.c100008s (fun x_ => uP x_ fun c x_ => uP x_ fun t33 x_ => uP x_ fun t34 x_ => uP x_ fun t35 x_ => uP x_ fun c0 x_ => uP x_ fun c1 x_ => uP x_ fun c2 x_ => uP x_ fun t20 x_ => uP x_ fun t21 x_ => (t35, c0, c1, c2)) (fun ρ x_ s_ k_ => uP x_ fun c x_ => uP x_ fun t33 x_ => uP x_ fun t34 x_ => uP x_ fun t35 x_ => uP x_ fun c0 x_ => uP x_ fun c1 x_ => uP x_ fun c2 x_ => uP x_ fun t20 x_ => uP x_ fun t21 x_ => circ_Check.c100008 t33 t34 s_.1 s_.2.1 s_.2.2.1 s_.2.2.2 k_) (fun ρ x_ r_ k_ => uP x_ fun c x_ => uP x_ fun t33 x_ => uP x_ fun t34 x_ => uP x_ fun t35 x_ => uP x_ fun c0 x_ => uP x_ fun c1 x_ => uP x_ fun c2 x_ => uP x_ fun t20 x_ => uP x_ fun t21 x_ => sel r_ (fun r_ => k_ 1 (Shape.inj circ_Check.c100008x0 (c, t33, t34, r_.1, r_.2.1, r_.2.2.1, r_.2.2.2.1, r_.2.2.2.2.1, r_.2.2.2.2.2, ()))) (fun r_ => k_ 3 (Shape.inj circ_Check.c100008x1 (c, t33, t34, r_.1, r_.2.1, r_.2.2.1, r_.2.2.2, t20, t21, ()))))
def circ_Check (c : (Int) × ((Int) × (List ((Int) × ((Int) × ((List Int) × ((Int) × ((Int) × (List Int))))))))) : Option ((Int) × (Int)) :=
  bnd (W.circ_Check.c1 (Prod.fst c) some) fun y =>
  br y
   (bnd (W.circ_fault (6 : Int) (0 : Int)) fun y_1 =>
    some (Prod.fst y_1, Prod.snd y_1))
   (bnd (W.circ_Check.c3 (Prod.fst (Prod.snd c)) some) fun y_2 =>
    br y_2
     (bnd (W.circ_fault (7 : Int) (0 : Int)) fun y_3 =>
      some (Prod.fst y_3, Prod.snd y_3))
     (br (decide ((↑(List.length (Prod.snd (Prod.snd c))) : Int) > (4096 : Int)))
       (bnd (W.circ_fault (2 : Int) (0 : Int)) fun y_4 =>
        some (Prod.fst y_4, Prod.snd y_4))
       (bnd (iter (fun s ↦ W.circ_Check.c100008 (Prod.snd (Prod.snd c)) (↑(List.length (Prod.snd (Prod.snd c))) : Int) (Prod.fst s) (Prod.fst (Prod.snd s)) (Prod.fst (Prod.snd (Prod.snd s))) (Prod.snd (Prod.snd (Prod.snd s))) some) ((0 : Int), Prod.fst c, Prod.fst (Prod.snd c), Prod.snd (Prod.snd c))) fun y_5 =>
        sel y_5
         (fun u => some (Prod.fst (Prod.snd (Prod.snd (Prod.snd (Prod.snd u)))), Prod.snd (Prod.snd (Prod.snd (Prod.snd (Prod.snd u))))))
         (fun v => some ((0 : Int), (0 : Int))))))
def circ_Check.ce : Go.Ql.Callee := ⟨[(.st (.pair (.int .i64) (.pair (.int .i64) (.sl (.st (.pair (.int .i64) (.pair (.int .i64) (.pair (.sl (.int .i64)) (.pair (.int .i64) (.pair (.int .i64) (.sl (.int .i64))))))))))))], [(.st (.pair (.int .i64) (.int .i64)))], fun x_ => circ_Check x_⟩
def circ_Check.G : Env := ⟨49, tab, [(40, circ_fault.ce)], [0, 1, 2, 3, 4, 5, 6, 16, 26, 33, 34, 35, 36, 43], [], [], [(100008, circ_Check.c100008r), (3, circ_Check.c3r), (1, circ_Check.c1r)], [(41, circ_one.mc)], tab_eqs⟩
theorem circ_Check.eq (x_ : dens [(.st (.pair (.int .i64) (.pair (.int .i64) (.sl (.st (.pair (.int .i64) (.pair (.int .i64) (.pair (.sl (.int .i64)) (.pair (.int .i64) (.pair (.int .i64) (.sl (.int .i64))))))))))))]) : den circ_Check.G Go.Proofs.Tryd.f14 [(.st (.pair (.int .i64) (.pair (.int .i64) (.sl (.st (.pair (.int .i64) (.pair (.int .i64) (.pair (.sl (.int .i64)) (.pair (.int .i64) (.pair (.int .i64) (.sl (.int .i64))))))))))))] [(.st (.pair (.int .i64) (.int .i64)))] x_ = circ_Check x_ := by kernel_rfl
theorem circ_Check.p0 : PieceOk circ_Check.G (pieceAt (pieces circ_Check.G.cks (bodyOf Go.Proofs.Tryd.f14)) 0).1 (pieceAt (pieces circ_Check.G.cks (bodyOf Go.Proofs.Tryd.f14)) 0).2 :=
  region_ok (s := circ_Check.c1r) (by kernel_rfl) (by kernel_rfl) (sums_of (sh := circ_Check.c1s) (fun ρ x_ k_ => (nat_br nat_leaf nat_leaf)) (fun ρ x_ t k => (by kernel_rfl)) (fun x_ => by kernel_rfl))
theorem circ_Check.p1 : PieceOk circ_Check.G (pieceAt (pieces circ_Check.G.cks (bodyOf Go.Proofs.Tryd.f14)) 1).1 (pieceAt (pieces circ_Check.G.cks (bodyOf Go.Proofs.Tryd.f14)) 1).2 :=
  region_ok (s := circ_Check.c3r) (by kernel_rfl) (by kernel_rfl) (sums_of (sh := circ_Check.c3s) (fun ρ x_ k_ => (nat_br nat_leaf nat_leaf)) (fun ρ x_ t k => (by kernel_rfl)) (fun x_ => by kernel_rfl))
theorem circ_Check.p2 : PieceOk circ_Check.G (pieceAt (pieces circ_Check.G.cks (bodyOf Go.Proofs.Tryd.f14)) 2).1 (pieceAt (pieces circ_Check.G.cks (bodyOf Go.Proofs.Tryd.f14)) 2).2 :=
  loop_ok (s := circ_Check.c100008r) (by kernel_rfl) (by kernel_rfl) (loops_of (sh := circ_Check.c100008s) (I := fun x_ s_ => (x_.1, x_.2.1, x_.2.2.1, s_.1, s_.2.1, s_.2.2.1, s_.2.2.2, x_.2.2.2.2.2.2.2.1, x_.2.2.2.2.2.2.2.2.1, ())) (fun x_ => rfl) (fun ρ x_ s_ k_ => (nat_br (nat_bnd fun _ => (nat_bnd fun _ => (nat_br (nat_bnd fun _ => nat_leaf) nat_leaf))) nat_leaf)) (fun ρ x_ t k => (nat_sel (fun _ => (by kernel_rfl)) (fun _ => (by kernel_rfl)))) (fun x_ s => by kernel_rfl))
theorem circ_Check.ok : CalleeOk Go.Proofs.Tryd.prog 14 circ_Check.ce := fn_ok (G := circ_Check.G) tab_ok mixed Go.Proofs.Tryd.func14 ⟨(fns_cons circ_fault.ok fns_nil), (mfns_cons circ_one.ok mfns_nil), tab_eqs_ok⟩ (m := 3) (by kernel_rfl) ⟨⟨⟨trivial, circ_Check.p0⟩, circ_Check.p1⟩, circ_Check.p2⟩ (by kernel_rfl) circ_Check.eq
def istrconv_small (i : Int) : Option (List UInt8) :=
  br (decide (i < (10 : Int)))
   (bnd (okIf (decide ((0 : Int) ≤ i) && decide (i ≤ IntKind.wrap IntKind.i64 (i + (1 : Int))) && decide (IntKind.wrap IntKind.i64 (i + (1 : Int)) ≤ (↑(List.length (Array.toList (ByteArray.data (ByteArray.mk #[(48 : UInt8), (49 : UInt8), (50 : UInt8), (51 : UInt8), (52 : UInt8), (53 : UInt8), (54 : UInt8), (55 : UInt8), (56 : UInt8), (57 : UInt8), (97 : UInt8), (98 : UInt8), (99 : UInt8), (100 : UInt8), (101 : UInt8), (102 : UInt8), (103 : UInt8), (104 : UInt8), (105 : UInt8), (106 : UInt8), (107 : UInt8), (108 : UInt8), (109 : UInt8), (110 : UInt8), (111 : UInt8), (112 : UInt8), (113 : UInt8), (114 : UInt8), (115 : UInt8), (116 : UInt8), (117 : UInt8), (118 : UInt8), (119 : UInt8), (120 : UInt8), (121 : UInt8), (122 : UInt8)])))) : Int)))) fun y =>
    some (List.drop (Int.toNat i) (List.take (Int.toNat (IntKind.wrap IntKind.i64 (i + (1 : Int)))) (Array.toList (ByteArray.data (ByteArray.mk #[(48 : UInt8), (49 : UInt8), (50 : UInt8), (51 : UInt8), (52 : UInt8), (53 : UInt8), (54 : UInt8), (55 : UInt8), (56 : UInt8), (57 : UInt8), (97 : UInt8), (98 : UInt8), (99 : UInt8), (100 : UInt8), (101 : UInt8), (102 : UInt8), (103 : UInt8), (104 : UInt8), (105 : UInt8), (106 : UInt8), (107 : UInt8), (108 : UInt8), (109 : UInt8), (110 : UInt8), (111 : UInt8), (112 : UInt8), (113 : UInt8), (114 : UInt8), (115 : UInt8), (116 : UInt8), (117 : UInt8), (118 : UInt8), (119 : UInt8), (120 : UInt8), (121 : UInt8), (122 : UInt8)]))))))
   (bnd (okIf (decide ((0 : Int) ≤ IntKind.wrap IntKind.i64 (i * (2 : Int))) && decide (IntKind.wrap IntKind.i64 (i * (2 : Int)) ≤ IntKind.wrap IntKind.i64 (IntKind.wrap IntKind.i64 (i * (2 : Int)) + (2 : Int))) && decide (IntKind.wrap IntKind.i64 (IntKind.wrap IntKind.i64 (i * (2 : Int)) + (2 : Int)) ≤ (↑(List.length (Array.toList (ByteArray.data (ByteArray.mk (List.toArray (List.append (List.append [(48 : UInt8), (48 : UInt8), (48 : UInt8), (49 : UInt8), (48 : UInt8), (50 : UInt8), (48 : UInt8), (51 : UInt8), (48 : UInt8), (52 : UInt8), (48 : UInt8), (53 : UInt8), (48 : UInt8), (54 : UInt8), (48 : UInt8), (55 : UInt8), (48 : UInt8), (56 : UInt8), (48 : UInt8), (57 : UInt8), (49 : UInt8), (48 : UInt8), (49 : UInt8), (49 : UInt8), (49 : UInt8), (50 : UInt8), (49 : UInt8), (51 : UInt8), (49 : UInt8), (52 : UInt8), (49 : UInt8), (53 : UInt8), (49 : UInt8), (54 : UInt8), (49 : UInt8), (55 : UInt8), (49 : UInt8), (56 : UInt8), (49 : UInt8), (57 : UInt8), (50 : UInt8), (48 : UInt8), (50 : UInt8), (49 : UInt8), (50 : UInt8), (50 : UInt8), (50 : UInt8), (51 : UInt8), (50 : UInt8), (52 : UInt8)] [(50 : UInt8), (53 : UInt8), (50 : UInt8), (54 : UInt8), (50 : UInt8), (55 : UInt8), (50 : UInt8), (56 : UInt8), (50 : UInt8), (57 : UInt8), (51 : UInt8), (48 : UInt8), (51 : UInt8), (49 : UInt8), (51 : UInt8), (50 : UInt8), (51 : UInt8), (51 : UInt8), (51 : UInt8), (52 : UInt8), (51 : UInt8), (53 : UInt8), (51 : UInt8), (54 : UInt8), (51 : UInt8), (55 : UInt8), (51 : UInt8), (56 : UInt8), (51 : UInt8), (57 : UInt8), (52 : UInt8), (48 : UInt8), (52 : UInt8), (49 : UInt8), (52 : UInt8), (50 : UInt8), (52 : UInt8), (51 : UInt8), (52 : UInt8), (52 : UInt8), (52 : UInt8), (53 : UInt8), (52 : UInt8), (54 : UInt8), (52 : UInt8), (55 : UInt8), (52 : UInt8), (56 : UInt8), (52 : UInt8), (57 : UInt8)]) (List.append [(53 : UInt8), (48 : UInt8), (53 : UInt8), (49 : UInt8), (53 : UInt8), (50 : UInt8), (53 : UInt8), (51 : UInt8), (53 : UInt8), (52 : UInt8), (53 : UInt8), (53 : UInt8), (53 : UInt8), (54 : UInt8), (53 : UInt8), (55 : UInt8), (53 : UInt8), (56 : UInt8), (53 : UInt8), (57 : UInt8), (54 : UInt8), (48 : UInt8), (54 : UInt8), (49 : UInt8), (54 : UInt8), (50 : UInt8), (54 : UInt8), (51 : UInt8), (54 : UInt8), (52 : UInt8), (54 : UInt8), (53 : UInt8), (54 : UInt8), (54 : UInt8), (54 : UInt8), (55 : UInt8), (54 : UInt8), (56 : UInt8), (54 : UInt8), (57 : UInt8), (55 : UInt8), (48 : UInt8), (55 : UInt8), (49 : UInt8), (55 : UInt8), (50 : UInt8), (55 : UInt8), (51 : UInt8), (55 : UInt8), (52 : UInt8)] [(55 : UInt8), (53 : UInt8), (55 : UInt8), (54 : UInt8), (55 : UInt8), (55 : UInt8), (55 : UInt8), (56 : UInt8), (55 : UInt8), (57 : UInt8), (56 : UInt8), (48 : UInt8), (56 : UInt8), (49 : UInt8), (56 : UInt8), (50 : UInt8), (56 : UInt8), (51 : UInt8), (56 : UInt8), (52 : UInt8), (56 : UInt8), (53 : UInt8), (56 : UInt8), (54 : UInt8), (56 : UInt8), (55 : UInt8), (56 : UInt8), (56 : UInt8), (56 : UInt8), (57 : UInt8), (57 : UInt8), (48 : UInt8), (57 : UInt8), (49 : UInt8), (57 : UInt8), (50 : UInt8), (57 : UInt8), (51 : UInt8), (57 : UInt8), (52 : UInt8), (57 : UInt8), (53 : UInt8), (57 : UInt8), (54 : UInt8), (57 : UInt8), (55 : UInt8), (57 : UInt8), (56 : UInt8), (57 : UInt8), (57 : UInt8)]))))))) : Int)))) fun y_1 =>
    some (List.drop (Int.toNat (IntKind.wrap IntKind.i64 (i * (2 : Int)))) (List.take (Int.toNat (IntKind.wrap IntKind.i64 (IntKind.wrap IntKind.i64 (i * (2 : Int)) + (2 : Int)))) (Array.toList (ByteArray.data (ByteArray.mk (List.toArray (List.append (List.append [(48 : UInt8), (48 : UInt8), (48 : UInt8), (49 : UInt8), (48 : UInt8), (50 : UInt8), (48 : UInt8), (51 : UInt8), (48 : UInt8), (52 : UInt8), (48 : UInt8), (53 : UInt8), (48 : UInt8), (54 : UInt8), (48 : UInt8), (55 : UInt8), (48 : UInt8), (56 : UInt8), (48 : UInt8), (57 : UInt8), (49 : UInt8), (48 : UInt8), (49 : UInt8), (49 : UInt8), (49 : UInt8), (50 : UInt8), (49 : UInt8), (51 : UInt8), (49 : UInt8), (52 : UInt8), (49 : UInt8), (53 : UInt8), (49 : UInt8), (54 : UInt8), (49 : UInt8), (55 : UInt8), (49 : UInt8), (56 : UInt8), (49 : UInt8), (57 : UInt8), (50 : UInt8), (48 : UInt8), (50 : UInt8), (49 : UInt8), (50 : UInt8), (50 : UInt8), (50 : UInt8), (51 : UInt8), (50 : UInt8), (52 : UInt8)] [(50 : UInt8), (53 : UInt8), (50 : UInt8), (54 : UInt8), (50 : UInt8), (55 : UInt8), (50 : UInt8), (56 : UInt8), (50 : UInt8), (57 : UInt8), (51 : UInt8), (48 : UInt8), (51 : UInt8), (49 : UInt8), (51 : UInt8), (50 : UInt8), (51 : UInt8), (51 : UInt8), (51 : UInt8), (52 : UInt8), (51 : UInt8), (53 : UInt8), (51 : UInt8), (54 : UInt8), (51 : UInt8), (55 : UInt8), (51 : UInt8), (56 : UInt8), (51 : UInt8), (57 : UInt8), (52 : UInt8), (48 : UInt8), (52 : UInt8), (49 : UInt8), (52 : UInt8), (50 : UInt8), (52 : UInt8), (51 : UInt8), (52 : UInt8), (52 : UInt8), (52 : UInt8), (53 : UInt8), (52 : UInt8), (54 : UInt8), (52 : UInt8), (55 : UInt8), (52 : UInt8), (56 : UInt8), (52 : UInt8), (57 : UInt8)]) (List.append [(53 : UInt8), (48 : UInt8), (53 : UInt8), (49 : UInt8), (53 : UInt8), (50 : UInt8), (53 : UInt8), (51 : UInt8), (53 : UInt8), (52 : UInt8), (53 : UInt8), (53 : UInt8), (53 : UInt8), (54 : UInt8), (53 : UInt8), (55 : UInt8), (53 : UInt8), (56 : UInt8), (53 : UInt8), (57 : UInt8), (54 : UInt8), (48 : UInt8), (54 : UInt8), (49 : UInt8), (54 : UInt8), (50 : UInt8), (54 : UInt8), (51 : UInt8), (54 : UInt8), (52 : UInt8), (54 : UInt8), (53 : UInt8), (54 : UInt8), (54 : UInt8), (54 : UInt8), (55 : UInt8), (54 : UInt8), (56 : UInt8), (54 : UInt8), (57 : UInt8), (55 : UInt8), (48 : UInt8), (55 : UInt8), (49 : UInt8), (55 : UInt8), (50 : UInt8), (55 : UInt8), (51 : UInt8), (55 : UInt8), (52 : UInt8)] [(55 : UInt8), (53 : UInt8), (55 : UInt8), (54 : UInt8), (55 : UInt8), (55 : UInt8), (55 : UInt8), (56 : UInt8), (55 : UInt8), (57 : UInt8), (56 : UInt8), (48 : UInt8), (56 : UInt8), (49 : UInt8), (56 : UInt8), (50 : UInt8), (56 : UInt8), (51 : UInt8), (56 : UInt8), (52 : UInt8), (56 : UInt8), (53 : UInt8), (56 : UInt8), (54 : UInt8), (56 : UInt8), (55 : UInt8), (56 : UInt8), (56 : UInt8), (56 : UInt8), (57 : UInt8), (57 : UInt8), (48 : UInt8), (57 : UInt8), (49 : UInt8), (57 : UInt8), (50 : UInt8), (57 : UInt8), (51 : UInt8), (57 : UInt8), (52 : UInt8), (57 : UInt8), (53 : UInt8), (57 : UInt8), (54 : UInt8), (57 : UInt8), (55 : UInt8), (57 : UInt8), (56 : UInt8), (57 : UInt8), (57 : UInt8)])))))))))
def istrconv_small.ce : Go.Ql.Callee := ⟨[(.int .i64)], [.str], fun x_ => istrconv_small x_⟩
def istrconv_small.G : Env := ⟨15, tab, [], [0, 2, 4], [], [], [], [], tab_eqs⟩
theorem istrconv_small.eq (x_ : dens [(.int .i64)]) : den istrconv_small.G Go.Proofs.Tryd.f91 [(.int .i64)] [.str] x_ = istrconv_small x_ := by kernel_rfl
theorem istrconv_small.ok : CalleeOk Go.Proofs.Tryd.prog 91 istrconv_small.ce := fn_ok (G := istrconv_small.G) tab_ok mixed Go.Proofs.Tryd.func91 ⟨fns_nil, mfns_nil, tab_eqs_ok⟩ (m := 0) (by kernel_rfl) trivial (by kernel_rfl) istrconv_small.eq
abbrev q14 : SD := .one (.val .str)
abbrev q15 : SD := .one (.val (.int .u64))
abbrev q16 : SO := .arr 0 false 118 (.int .u8)
def istrconv_FormatInt.c2 {ρ : Type} (i : Int) (k_ : Bool → Option ρ) : Option ρ :=
  br (decide ((0 : Int) ≤ i))
   (k_ (decide (i < (100 : Int))))
   (k_ false)
def istrconv_FormatInt.c2s : Shape := ⟨[(0, q0), (1, q0), (4, q14)], []⟩
def istrconv_FormatInt.c2x0 : Shape := ⟨[(0, q0), (1, q0), (4, q14), (17, q1)], []⟩
def istrconv_FormatInt.c2r : Ck := Ck.of (T := Bool) istrconv_FormatInt.c2s (fun ρ x_ k_ => uP x_ fun i x_ => uP x_ fun base x_ => uP x_ fun t4 x_ => istrconv_FormatInt.c2 i k_) (fun ρ x_ r_ k_ => uP x_ fun i x_ => uP x_ fun base x_ => uP x_ fun t4 x_ => k_ 0 (Shape.inj istrconv_FormatInt.c2x0 (i, base, t4, r_, ())))
def istrconv_FormatInt.c224581 {ρ : Type} (i : Int) (u : Int) (k_ : Int → Option ρ) : Option ρ :=
  br (decide (i < (0 : Int)))
   (k_ (IntKind.wrap IntKind.u64 ((0 : Int) - u)))
   (k_ u)
def istrconv_FormatInt.c224581s : Shape := ⟨[(0, q0), (1, q0), (4, q14), (5, q7), (6, q15)], [(5, q16)]⟩
def istrconv_FormatInt.c224581x0 : Shape := ⟨[(0, q0), (1, q0), (4, q14), (5, q7), (6, q15)], [(5, q16)]⟩
def istrconv_FormatInt.c224581r : Ck := Ck.of (T := Int) istrconv_FormatInt.c224581s (fun ρ x_ k_ => uP x_ fun i x_ => uP x_ fun base x_ => uP x_ fun t4 x_ => uP x_ fun u x_ => uP x_ fun a x_ => istrconv_FormatInt.c224581 i u k_) (fun ρ x_ r_ k_ => uP x_ fun i x_ => uP x_ fun base x_ => uP x_ fun t4 x_ => uP x_ fun u x_ => uP x_ fun a x_ => k_ 0 (Shape.inj istrconv_FormatInt.c224581x0 (i, base, t4, r_, a, ())))
def istrconv_FormatInt (i : Int) (base : Int) : Option (List UInt8) :=
  br (base == (10 : Int))
   (bnd (W.istrconv_FormatInt.c2 i some) fun y =>
    br y
     (bnd (W.istrconv_small i) fun y_1 =>
      some y_1)
     (bnd (W.istrconv_FormatInt.c224581 i (IntKind.wrap IntKind.u64 i) some) fun y_2 =>
      none))
   (none)
def istrconv_FormatInt.ce : Go.Ql.Callee := ⟨[(.int .i64), (.int .i64)], [.str], fun x_ => istrconv_FormatInt x_.1 x_.2⟩
def istrconv_FormatInt.G : Env := ⟨54, tab, [(91, istrconv_small.ce)], [0, 1, 4, 5, 6, 7, 9, 11, 17, 23, 34], [5], [], [(224581, istrconv_FormatInt.c224581r), (2, istrconv_FormatInt.c2r)], [], tab_eqs⟩
theorem istrconv_FormatInt.eq (x_ : dens [(.int .i64), (.int .i64)]) : den istrconv_FormatInt.G Go.Proofs.Tryd.f85 [(.int .i64), (.int .i64)] [.str] x_ = istrconv_FormatInt x_.1 x_.2 := by kernel_rfl
theorem istrconv_FormatInt.p0 : PieceOk istrconv_FormatInt.G (pieceAt (pieces istrconv_FormatInt.G.cks (bodyOf Go.Proofs.Tryd.f85)) 0).1 (pieceAt (pieces istrconv_FormatInt.G.cks (bodyOf Go.Proofs.Tryd.f85)) 0).2 :=
  region_ok (s := istrconv_FormatInt.c2r) (by kernel_rfl) (by kernel_rfl) (sums_of (sh := istrconv_FormatInt.c2s) (fun ρ x_ k_ => (nat_br nat_leaf nat_leaf)) (fun ρ x_ t k => (by kernel_rfl)) (fun x_ => by kernel_rfl))
theorem istrconv_FormatInt.p1 : PieceOk istrconv_FormatInt.G (pieceAt (pieces istrconv_FormatInt.G.cks (bodyOf Go.Proofs.Tryd.f85)) 1).1 (pieceAt (pieces istrconv_FormatInt.G.cks (bodyOf Go.Proofs.Tryd.f85)) 1).2 :=
  join_ok (s := istrconv_FormatInt.c224581r) (by kernel_rfl) (by kernel_rfl) (sums_of (sh := istrconv_FormatInt.c224581s) (fun ρ x_ k_ => (nat_br nat_leaf nat_leaf)) (fun ρ x_ t k => (by kernel_rfl)) (fun x_ => by kernel_rfl))
theorem istrconv_FormatInt.ok : CalleeOk Go.Proofs.Tryd.prog 85 istrconv_FormatInt.ce := fn_ok (G := istrconv_FormatInt.G) tab_ok mixed Go.Proofs.Tryd.func85 ⟨(fns_cons istrconv_small.ok fns_nil), mfns_nil, tab_eqs_ok⟩ (m := 2) (by kernel_rfl) ⟨⟨trivial, istrconv_FormatInt.p0⟩, istrconv_FormatInt.p1⟩ (by kernel_rfl) istrconv_FormatInt.eq
def istrconv_Itoa (i : Int) : Option (List UInt8) :=
  bnd (W.istrconv_FormatInt i (10 : Int)) fun y =>
  some y
def istrconv_Itoa.ce : Go.Ql.Callee := ⟨[(.int .i64)], [.str], fun x_ => istrconv_Itoa x_⟩
def istrconv_Itoa.G : Env := ⟨5, tab, [(85, istrconv_FormatInt.ce)], [0, 2], [], [], [], [], tab_eqs⟩
theorem istrconv_Itoa.eq (x_ : dens [(.int .i64)]) : den istrconv_Itoa.G Go.Proofs.Tryd.f73 [(.int .i64)] [.str] x_ = istrconv_Itoa x_ := by kernel_rfl
theorem istrconv_Itoa.ok : CalleeOk Go.Proofs.Tryd.prog 73 istrconv_Itoa.ce := fn_ok (G := istrconv_Itoa.G) tab_ok mixed Go.Proofs.Tryd.func73 ⟨(fns_cons istrconv_FormatInt.ok fns_nil), mfns_nil, tab_eqs_ok⟩ (m := 0) (by kernel_rfl) trivial (by kernel_rfl) istrconv_Itoa.eq
def strconv_Itoa (i : Int) : Option (List UInt8) :=
  bnd (W.istrconv_Itoa i) fun y =>
  some y
def strconv_Itoa.ce : Go.Ql.Callee := ⟨[(.int .i64)], [.str], fun x_ => strconv_Itoa x_⟩
def strconv_Itoa.G : Env := ⟨5, tab, [(73, istrconv_Itoa.ce)], [0, 2], [], [], [], [], tab_eqs⟩
theorem strconv_Itoa.eq (x_ : dens [(.int .i64)]) : den strconv_Itoa.G Go.Proofs.Tryd.f55 [(.int .i64)] [.str] x_ = strconv_Itoa x_ := by kernel_rfl
theorem strconv_Itoa.ok : CalleeOk Go.Proofs.Tryd.prog 55 strconv_Itoa.ce := fn_ok (G := strconv_Itoa.G) tab_ok mixed Go.Proofs.Tryd.func55 ⟨(fns_cons istrconv_Itoa.ok fns_nil), mfns_nil, tab_eqs_ok⟩ (m := 0) (by kernel_rfl) trivial (by kernel_rfl) strconv_Itoa.eq
abbrev q17 : SD := .one (.ref 1000000 0)
abbrev q18 : SO := .box [.selfp 1000000 72, .own 1000001 0]
abbrev q19 : SO := .arr 0 false 5 (.int .u8)
abbrev q20 : SD := .one (.val (.nilv 1))
def strings_Builder_WriteString.pre : Shape := ⟨[(0, q17), (1, q14)], [(1000000, q18), (1000001, q19)]⟩
def strings_Builder_WriteString.post : Shape := ⟨[(0, q0), (1, q20)], [(1000001, q19), (1000000, q18)]⟩
def strings_Builder_WriteString (s : List UInt8) (t1000001 : List (Int)) : Option ((Int) × (Unit) × (List Int) × Unit) :=
  bnd (W.strings_Builder_copyCheck (Prod.fst (uP (t1000001, ()) fun u r ↦ (u, ())))) fun y =>
  bnd (okIf (decide (List.length (Prod.fst y) + List.length s ≤ (140737488355328 : Nat)))) fun y_1 =>
  some (uP (uP ((↑(List.length s) : Int), ()) fun u r ↦ (u, uP ((), ()) fun u r ↦ (u, ()))) fun u r ↦ (u, uP r fun u r ↦ (u, uP (Prod.fst y ++ List.map (fun b ↦ (↑(UInt8.toNat b) : Int)) s, ()) fun u r ↦ (u, ()))))
def strings_Builder_WriteString.mc : MCallee := ⟨54, strings_Builder_WriteString.pre, strings_Builder_WriteString.post, fun x_ => strings_Builder_WriteString x_.1 x_.2.1⟩
def strings_Builder_WriteString.G : Env := ⟨19, tab, [], [0, 1, 4, 5], [1000000, 1000001], [], [], [(72, strings_Builder_copyCheck.mc)], tab_eqs⟩
theorem strings_Builder_WriteString.eq (x_ : densU strings_Builder_WriteString.mc.pre.tys) : denM strings_Builder_WriteString.G Go.Proofs.Tryd.f54 strings_Builder_WriteString.mc.pre strings_Builder_WriteString.mc.post x_ = strings_Builder_WriteString.mc.F x_ := by kernel_rfl
theorem strings_Builder_WriteString.ok : MOk Go.Proofs.Tryd.prog 54 strings_Builder_WriteString.mc := fnm_ok (G := strings_Builder_WriteString.G) tab_ok mixed Go.Proofs.Tryd.func54 ⟨fns_nil, (mfns_cons strings_Builder_copyCheck.ok mfns_nil), tab_eqs_ok⟩ (m := 0) (by kernel_rfl) trivial (by kernel_rfl) strings_Builder_WriteString.eq
def circ_word (kind : Int) : Option (List UInt8) :=
  br (kind == (1 : Int))
   (some (Array.toList (ByteArray.data (ByteArray.mk #[(112 : UInt8), (104 : UInt8), (97 : UInt8), (115 : UInt8), (101 : UInt8)]))))
   (br (kind == (2 : Int))
     (some (Array.toList (ByteArray.data (ByteArray.mk #[(120 : UInt8)]))))
     (br (kind == (3 : Int))
       (some (Array.toList (ByteArray.data (ByteArray.mk #[(104 : UInt8)]))))
       (br (kind == (4 : Int))
         (some (Array.toList (ByteArray.data (ByteArray.mk #[(112 : UInt8)]))))
         (br (kind == (5 : Int))
           (some (Array.toList (ByteArray.data (ByteArray.mk #[(109 : UInt8), (101 : UInt8), (97 : UInt8), (115 : UInt8), (117 : UInt8), (114 : UInt8), (101 : UInt8)]))))
           (some (Array.toList (ByteArray.data (ByteArray.mk #[(114 : UInt8), (101 : UInt8), (115 : UInt8), (101 : UInt8), (116 : UInt8)]))))))))
def circ_word.ce : Go.Ql.Callee := ⟨[(.int .i64)], [.str], fun x_ => circ_word x_⟩
def circ_word.G : Env := ⟨14, tab, [], [0, 2, 3, 4, 6, 8, 10, 12], [], [], [], [], tab_eqs⟩
theorem circ_word.eq (x_ : dens [(.int .i64)]) : den circ_word.G Go.Proofs.Tryd.f75 [(.int .i64)] [.str] x_ = circ_word x_ := by kernel_rfl
theorem circ_word.ok : CalleeOk Go.Proofs.Tryd.prog 75 circ_word.ce := fn_ok (G := circ_word.G) tab_ok mixed Go.Proofs.Tryd.func75 ⟨fns_nil, mfns_nil, tab_eqs_ok⟩ (m := 0) (by kernel_rfl) trivial (by kernel_rfl) circ_word.eq
abbrev q21 : SD := .one (.val (.int .u8))
def strings_Builder_WriteByte.pre : Shape := ⟨[(0, q17), (1, q21)], [(1000000, q18), (1000001, q19)]⟩
def strings_Builder_WriteByte.post : Shape := ⟨[(0, q20)], [(1000001, q19), (1000000, q18)]⟩
def strings_Builder_WriteByte (c : Int) (t1000001 : List (Int)) : Option ((Unit) × (List Int) × Unit) :=
  bnd (W.strings_Builder_copyCheck (Prod.fst (uP (t1000001, ()) fun u r ↦ (u, ())))) fun y =>
  bnd (okIf (decide ((List.length (Prod.fst y) + List.length [c]) * (1 : Nat) ≤ (140737488355328 : Nat)) && decide (List.length (Prod.fst y) + List.length [c] ≤ (140737488355328 : Nat)))) fun y_1 =>
  some (uP (uP ((), ()) fun u r ↦ (u, ())) fun u r ↦ (u, uP (Prod.fst y ++ [c], ()) fun u r ↦ (u, ())))
def strings_Builder_WriteByte.mc : MCallee := ⟨76, strings_Builder_WriteByte.pre, strings_Builder_WriteByte.post, fun x_ => strings_Builder_WriteByte x_.1 x_.2.1⟩
def strings_Builder_WriteByte.G : Env := ⟨17, tab, [], [0, 1, 4], [1000000, 1000001], [], [], [(72, strings_Builder_copyCheck.mc)], tab_eqs⟩
theorem strings_Builder_WriteByte.eq (x_ : densU strings_Builder_WriteByte.mc.pre.tys) : denM strings_Builder_WriteByte.G Go.Proofs.Tryd.f76 strings_Builder_WriteByte.mc.pre strings_Builder_WriteByte.mc.post x_ = strings_Builder_WriteByte.mc.F x_ := by kernel_rfl
theorem strings_Builder_WriteByte.ok : MOk Go.Proofs.Tryd.prog 76 strings_Builder_WriteByte.mc := fnm_ok (G := strings_Builder_WriteByte.G) tab_ok mixed Go.Proofs.Tryd.func76 ⟨fns_nil, (mfns_cons strings_Builder_copyCheck.ok mfns_nil), tab_eqs_ok⟩ (m := 0) (by kernel_rfl) trivial (by kernel_rfl) strings_Builder_WriteByte.eq
abbrev q22 : SO := .box [.ref 1000200 0]
abbrev q23 : SO := .box [.selfp 1000200 72, .own 1000201 0]
def circ_line_1.pre : Shape := ⟨[(0, q8), (1, q3)], [(1000100, q22), (1000200, q23), (1000201, q19)]⟩
def circ_line_1.post : Shape := ⟨[], [(1000201, q19), (1000200, q23), (1000100, q22)]⟩
def circ_line_1.c3 {ρ : Type} (n : Int) (t1000201 : List (Int)) (k_ : List (Int) → Option ρ) : Option ρ :=
  bnd (W.strconv_Itoa n) fun y =>
  bnd (okIf (decide (List.length (Array.toList (ByteArray.data (ByteArray.mk #[(32 : UInt8)]))) + List.length y ≤ (9223372036854775807 : Nat)))) fun y_1 =>
  bnd (W.strings_Builder_WriteString (Prod.fst (uP (uP (Array.toList (ByteArray.data (ByteArray.mk #[(32 : UInt8)])) ++ y, ()) fun u r ↦ (u, ())) fun u r ↦ (u, uP (t1000201, ()) fun u r ↦ (u, ())))) (Prod.fst (Prod.snd (uP (uP (Array.toList (ByteArray.data (ByteArray.mk #[(32 : UInt8)])) ++ y, ()) fun u r ↦ (u, ())) fun u r ↦ (u, uP (t1000201, ()) fun u r ↦ (u, ())))))) fun y_2 =>
  k_ (Prod.fst y_2.2.2)
def circ_line_1.c3s : Shape := ⟨[(0, q8), (1, q3), (4, q0), (5, q8), (6, q0), (7, q0)], [(1000100, q22), (1000200, q23), (1000201, q19)]⟩
def circ_line_1.c3x0 : Shape := ⟨[(0, q8), (1, q3), (4, q0), (5, q8), (6, q0), (7, q0)], [(1000100, q22), (1000200, q23), (1000201, q19)]⟩
def circ_line_1.c3r : Ck := Ck.of (T := List (Int)) circ_line_1.c3s (fun ρ x_ k_ => uP x_ fun ns x_ => uP x_ fun n x_ => uP x_ fun t5 x_ => uP x_ fun t6 x_ => uP x_ fun t7 x_ => uP x_ fun t1000201 x_ => circ_line_1.c3 n t1000201 k_) (fun ρ x_ r_ k_ => uP x_ fun ns x_ => uP x_ fun n x_ => uP x_ fun t5 x_ => uP x_ fun t6 x_ => uP x_ fun t7 x_ => uP x_ fun t1000201 x_ => k_ 0 (Shape.inj circ_line_1.c3x0 (ns, n, t5, t6, t7, r_, ())))
def circ_line_1.c100001 {ρ : Type} (t5 : List (Int)) (t6 : Int) (t7 : Int) (t1000201 : List (Int)) (k_ : ((Int) × (List Int)) ⊕ ((Int) × (List Int)) → Option ρ) : Option ρ :=
  br (decide (t7 < t6))
   (bnd (idx t5 t7) fun y =>
    bnd (W.circ_line_1.c3 y t1000201 some) fun y_1 =>
    k_ (.inl ((IntKind.wrap IntKind.i64 (t7 + (1 : Int))), y_1)))
   (k_ (.inr (t7, t1000201)))
def circ_line_1.c100001s : Shape := ⟨[(0, q8), (1, q3), (5, q8), (6, q0), (7, q0)], [(1000100, q22), (1000200, q23), (1000201, q19)]⟩
def circ_line_1.c100001x0 : Shape := ⟨[(0, q8), (1, q3), (5, q8), (6, q0), (7, q0)], [(1000100, q22), (1000200, q23), (1000201, q19)]⟩
def circ_line_1.c100001r : Ck := Ck.ofLoop (S := (Int) × (List Int)) (T := (Int) × (List Int)) circ_line_1.c100001s (fun x_ => uP x_ fun ns x_ => uP x_ fun t5 x_ => uP x_ fun t6 x_ => uP x_ fun t7 x_ => uP x_ fun t1000201 x_ => (t7, t1000201)) (fun ρ x_ s_ k_ => uP x_ fun ns x_ => uP x_ fun t5 x_ => uP x_ fun t6 x_ => uP x_ fun t7 x_ => uP x_ fun t1000201 x_ => circ_line_1.c100001 t5 t6 s_.1 s_.2 k_) (fun ρ x_ r_ k_ => uP x_ fun ns x_ => uP x_ fun t5 x_ => uP x_ fun t6 x_ => uP x_ fun t7 x_ => uP x_ fun t1000201 x_ => k_ 2 (Shape.inj circ_line_1.c100001x0 (ns, t5, t6, r_.1, r_.2, ())))
def circ_line_1 (ns : List (Int)) (t1000201 : List (Int)) : Option ((List Int) × Unit) :=
  bnd (iter (fun s ↦ W.circ_line_1.c100001 ns (↑(List.length ns) : Int) (Prod.fst s) (Prod.snd s) some) ((0 : Int), t1000201)) fun y =>
  some (uP (Prod.snd y, ()) fun u r ↦ (u, ()))
def circ_line_1.mc : MCallee := ⟨74, circ_line_1.pre, circ_line_1.post, fun x_ => circ_line_1 x_.1 x_.2.1⟩
def circ_line_1.G : Env := ⟨17, tab, [(55, strconv_Itoa.ce)], [0, 1, 4, 5, 6, 7, 8], [1000100, 1000200, 1000201], [(3, [⟨[], [], [12, 13, 14], []⟩, ⟨[], [], [11], []⟩, ⟨[1], [], [11], []⟩, ⟨[2, 1], [], [11], []⟩, ⟨[0, 3, 2, 1], [1000201, 1000200], [], []⟩])], [(100001, circ_line_1.c100001r), (3, circ_line_1.c3r)], [(54, strings_Builder_WriteString.mc)], tab_eqs⟩
theorem circ_line_1.eq (x_ : densU circ_line_1.mc.pre.tys) : denM circ_line_1.G Go.Proofs.Tryd.f74 circ_line_1.mc.pre circ_line_1.mc.post x_ = circ_line_1.mc.F x_ := by kernel_rfl
theorem circ_line_1.p0 : PieceOk circ_line_1.G (pieceAt (pieces circ_line_1.G.cks (bodyOf Go.Proofs.Tryd.f74)) 0).1 (pieceAt (pieces circ_line_1.G.cks (bodyOf Go.Proofs.Tryd.f74)) 0).2 :=
  loop_ok (s := circ_line_1.c100001r) (by kernel_rfl) (by kernel_rfl) (loops_of (sh := circ_line_1.c100001s) (I := fun x_ s_ => (x_.1, x_.2.1, x_.2.2.1, s_.1, s_.2, ())) (fun x_ => rfl) (fun ρ x_ s_ k_ => (nat_br (nat_bnd fun _ => (nat_bnd fun _ => nat_leaf)) nat_leaf)) (fun ρ x_ t k => (by kernel_rfl)) (fun x_ s => by kernel_rfl))
theorem circ_line_1.p1 : PieceOk circ_line_1.G (pieceAt (pieces circ_line_1.G.cks (bodyOf Go.Proofs.Tryd.f74)) 1).1 (pieceAt (pieces circ_line_1.G.cks (bodyOf Go.Proofs.Tryd.f74)) 1).2 :=
  region_ok (s := circ_line_1.c3r) (by kernel_rfl) (by kernel_rfl) (sums_of (sh := circ_line_1.c3s) (fun ρ x_ k_ => (nat_bnd fun _ => (nat_bnd fun _ => (nat_bnd fun _ => nat_leaf)))) (fun ρ x_ t k => (by kernel_rfl)) (fun x_ => by kernel_rfl))
theorem circ_line_1.ok : MOk Go.Proofs.Tryd.prog 74 circ_line_1.mc := fnm_ok (G := circ_line_1.G) tab_ok mixed Go.Proofs.Tryd.func74 ⟨(fns_cons strconv_Itoa.ok fns_nil), (mfns_cons strings_Builder_WriteString.ok mfns_nil), tab_eqs_ok⟩ (m := 2) (by kernel_rfl) ⟨⟨trivial, circ_line_1.p0⟩, circ_line_1.p1⟩ (by kernel_rfl) circ_line_1.eq
abbrev q24 : SD := .one (.ref 3 0)
abbrev q25 : SD := .one (.clo 7)
abbrev q26 : SO := .box [.ref 1000000 0]
abbrev q27 : SO := .clo 74 [] [.ref 2 0]
def circ_line.pre : Shape := ⟨[(0, q17), (1, q2)], [(1000000, q18), (1000001, q19)]⟩
def circ_line.post : Shape := ⟨[], [(1000001, q19), (1000000, q18)]⟩
def circ_line.c2 {ρ : Type} (o0 : Int) (t1000001 : List (Int)) (k_ : List (Int) → Option ρ) : Option ρ :=
  bnd (W.circ_word o0) fun y =>
  bnd (W.strings_Builder_WriteString (Prod.fst (uP (uP (y, ()) fun u r ↦ (u, ())) fun u r ↦ (u, uP (t1000001, ()) fun u r ↦ (u, ())))) (Prod.fst (Prod.snd (uP (uP (y, ()) fun u r ↦ (u, ())) fun u r ↦ (u, uP (t1000001, ()) fun u r ↦ (u, ())))))) fun y_1 =>
  k_ (Prod.fst y_1.2.2)
def circ_line.c2s : Shape := ⟨[(0, q17), (1, q2), (2, q5), (3, q24), (4, q25)], [(2, q26), (3, q6), (7, q27), (1000000, q18), (1000001, q19)]⟩
def circ_line.c2x0 : Shape := ⟨[(0, q17), (1, q2), (2, q5), (3, q24), (4, q25)], [(2, q26), (3, q6), (7, q27), (1000000, q18), (1000001, q19)]⟩
def circ_line.c2r : Ck := Ck.of (T := List (Int)) circ_line.c2s (fun ρ x_ k_ => uP x_ fun o x_ => uP x_ fun o0 x_ => uP x_ fun o1 x_ => uP x_ fun o2 x_ => uP x_ fun o3 x_ => uP x_ fun o4 x_ => uP x_ fun o5 x_ => uP x_ fun t1000001 x_ => circ_line.c2 o0 t1000001 k_) (fun ρ x_ r_ k_ => uP x_ fun o x_ => uP x_ fun o0 x_ => uP x_ fun o1 x_ => uP x_ fun o2 x_ => uP x_ fun o3 x_ => uP x_ fun o4 x_ => uP x_ fun o5 x_ => uP x_ fun t1000001 x_ => k_ 0 (Shape.inj circ_line.c2x0 (o, o0, o1, o2, o3, o4, o5, r_, ())))
def circ_line.c212293 {ρ : Type} (o0 : Int) (o1 : Int) (t1000001 : List (Int)) (k_ : List (Int) → Option ρ) : Option ρ :=
  bnd (W.circ_turns o0) fun y =>
  br y
   (bnd (W.circ_line_1 (Prod.fst (uP (uP ([o1], ()) fun u r ↦ (u, ())) fun u r ↦ (u, uP (t1000001, ()) fun u r ↦ (u, ())))) (Prod.fst (Prod.snd (uP (uP ([o1], ()) fun u r ↦ (u, ())) fun u r ↦ (u, uP (t1000001, ()) fun u r ↦ (u, ())))))) fun y_1 =>
    k_ (Prod.fst y_1))
   (k_ t1000001)
def circ_line.c212293s : Shape := ⟨[(0, q17), (1, q2), (2, q5), (3, q24), (4, q25)], [(2, q26), (3, q6), (7, q27), (1000000, q18), (1000001, q19)]⟩
def circ_line.c212293x0 : Shape := ⟨[(0, q17), (1, q2), (2, q5), (3, q24), (4, q25)], [(2, q26), (3, q6), (7, q27), (1000000, q18), (1000001, q19)]⟩
def circ_line.c212293r : Ck := Ck.of (T := List (Int)) circ_line.c212293s (fun ρ x_ k_ => uP x_ fun o x_ => uP x_ fun o0 x_ => uP x_ fun o1 x_ => uP x_ fun o2 x_ => uP x_ fun o3 x_ => uP x_ fun o4 x_ => uP x_ fun o5 x_ => uP x_ fun t1000001 x_ => circ_line.c212293 o0 o1 t1000001 k_) (fun ρ x_ r_ k_ => uP x_ fun o x_ => uP x_ fun o0 x_ => uP x_ fun o1 x_ => uP x_ fun o2 x_ => uP x_ fun o3 x_ => uP x_ fun o4 x_ => uP x_ fun o5 x_ => uP x_ fun t1000001 x_ => k_ 0 (Shape.inj circ_line.c212293x0 (o, o0, o1, o2, o3, o4, o5, r_, ())))
def circ_line.c220485 {ρ : Type} (o0 : Int) (o3 : Int) (t1000001 : List (Int)) (k_ : List (Int) → Option ρ) : Option ρ :=
  br (o0 != (1 : Int))
   (bnd (W.circ_line_1 (Prod.fst (uP (uP ([o3], ()) fun u r ↦ (u, ())) fun u r ↦ (u, uP (t1000001, ()) fun u r ↦ (u, ())))) (Prod.fst (Prod.snd (uP (uP ([o3], ()) fun u r ↦ (u, ())) fun u r ↦ (u, uP (t1000001, ()) fun u r ↦ (u, ())))))) fun y =>
    k_ (Prod.fst y))
   (k_ t1000001)
def circ_line.c220485s : Shape := ⟨[(0, q17), (1, q2), (2, q5), (3, q24), (4, q25)], [(2, q26), (3, q6), (7, q27), (1000000, q18), (1000001, q19)]⟩
def circ_line.c220485x0 : Shape := ⟨[(0, q17), (1, q2), (2, q5), (3, q24), (4, q25)], [(2, q26), (3, q6), (7, q27), (1000000, q18), (1000001, q19)]⟩
def circ_line.c220485r : Ck := Ck.of (T := List (Int)) circ_line.c220485s (fun ρ x_ k_ => uP x_ fun o x_ => uP x_ fun o0 x_ => uP x_ fun o1 x_ => uP x_ fun o2 x_ => uP x_ fun o3 x_ => uP x_ fun o4 x_ => uP x_ fun o5 x_ => uP x_ fun t1000001 x_ => circ_line.c220485 o0 o3 t1000001 k_) (fun ρ x_ r_ k_ => uP x_ fun o x_ => uP x_ fun o0 x_ => uP x_ fun o1 x_ => uP x_ fun o2 x_ => uP x_ fun o3 x_ => uP x_ fun o4 x_ => uP x_ fun o5 x_ => uP x_ fun t1000001 x_ => k_ 0 (Shape.inj circ_line.c220485x0 (o, o0, o1, o2, o3, o4, o5, r_, ())))
def circ_line.c228679 {ρ : Type} (o2 : List (Int)) (t1000001 : List (Int)) (k_ : List (Int) → Option ρ) : Option ρ :=
  br (decide ((↑(List.length o2) : Int) > (0 : Int)))
   (bnd (W.strings_Builder_WriteString (Prod.fst (uP (uP (Array.toList (ByteArray.data (ByteArray.mk #[(32 : UInt8), (111 : UInt8), (110 : UInt8)])), ()) fun u r ↦ (u, ())) fun u r ↦ (u, uP (t1000001, ()) fun u r ↦ (u, ())))) (Prod.fst (Prod.snd (uP (uP (Array.toList (ByteArray.data (ByteArray.mk #[(32 : UInt8), (111 : UInt8), (110 : UInt8)])), ()) fun u r ↦ (u, ())) fun u r ↦ (u, uP (t1000001, ()) fun u r ↦ (u, ())))))) fun y =>
    bnd (W.circ_line_1 (Prod.fst (uP (uP (o2, ()) fun u r ↦ (u, ())) fun u r ↦ (u, uP (Prod.fst y.2.2, ()) fun u r ↦ (u, ())))) (Prod.fst (Prod.snd (uP (uP (o2, ()) fun u r ↦ (u, ())) fun u r ↦ (u, uP (Prod.fst y.2.2, ()) fun u r ↦ (u, ())))))) fun y_1 =>
    k_ (Prod.fst y_1))
   (k_ t1000001)
def circ_line.c228679s : Shape := ⟨[(0, q17), (1, q2), (2, q5), (3, q24), (4, q25)], [(2, q26), (3, q6), (7, q27), (1000000, q18), (1000001, q19)]⟩
def circ_line.c228679x0 : Shape := ⟨[(0, q17), (1, q2), (2, q5), (3, q24), (4, q25)], [(2, q26), (3, q6), (7, q27), (1000000, q18), (1000001, q19)]⟩
def circ_line.c228679r : Ck := Ck.of (T := List (Int)) circ_line.c228679s (fun ρ x_ k_ => uP x_ fun o x_ => uP x_ fun o0 x_ => uP x_ fun o1 x_ => uP x_ fun o2 x_ => uP x_ fun o3 x_ => uP x_ fun o4 x_ => uP x_ fun o5 x_ => uP x_ fun t1000001 x_ => circ_line.c228679 o2 t1000001 k_) (fun ρ x_ r_ k_ => uP x_ fun o x_ => uP x_ fun o0 x_ => uP x_ fun o1 x_ => uP x_ fun o2 x_ => uP x_ fun o3 x_ => uP x_ fun o4 x_ => uP x_ fun o5 x_ => uP x_ fun t1000001 x_ => k_ 0 (Shape.inj circ_line.c228679x0 (o, o0, o1, o2, o3, o4, o5, r_, ())))
def circ_line.c240967 {ρ : Type} (o0 : Int) (o4 : Int) (t1000001 : List (Int)) (k_ : List (Int) → Option ρ) : Option ρ :=
  br (o0 == (5 : Int))
   (bnd (W.strings_Builder_WriteString (Prod.fst (uP (uP (Array.toList (ByteArray.data (ByteArray.mk #[(32 : UInt8), (116 : UInt8), (111 : UInt8)])), ()) fun u r ↦ (u, ())) fun u r ↦ (u, uP (t1000001, ()) fun u r ↦ (u, ())))) (Prod.fst (Prod.snd (uP (uP (Array.toList (ByteArray.data (ByteArray.mk #[(32 : UInt8), (116 : UInt8), (111 : UInt8)])), ()) fun u r ↦ (u, ())) fun u r ↦ (u, uP (t1000001, ()) fun u r ↦ (u, ())))))) fun y =>
    bnd (W.circ_line_1 (Prod.fst (uP (uP ([o4], ()) fun u r ↦ (u, ())) fun u r ↦ (u, uP (Prod.fst y.2.2, ()) fun u r ↦ (u, ())))) (Prod.fst (Prod.snd (uP (uP ([o4], ()) fun u r ↦ (u, ())) fun u r ↦ (u, uP (Prod.fst y.2.2, ()) fun u r ↦ (u, ())))))) fun y_1 =>
    k_ (Prod.fst y_1))
   (k_ t1000001)
def circ_line.c240967s : Shape := ⟨[(0, q17), (1, q2), (2, q5), (3, q24), (4, q25)], [(2, q26), (3, q6), (7, q27), (1000000, q18), (1000001, q19)]⟩
def circ_line.c240967x0 : Shape := ⟨[(0, q17), (1, q2), (2, q5), (3, q24), (4, q25)], [(2, q26), (3, q6), (7, q27), (1000000, q18), (1000001, q19)]⟩
def circ_line.c240967r : Ck := Ck.of (T := List (Int)) circ_line.c240967s (fun ρ x_ k_ => uP x_ fun o x_ => uP x_ fun o0 x_ => uP x_ fun o1 x_ => uP x_ fun o2 x_ => uP x_ fun o3 x_ => uP x_ fun o4 x_ => uP x_ fun o5 x_ => uP x_ fun t1000001 x_ => circ_line.c240967 o0 o4 t1000001 k_) (fun ρ x_ r_ k_ => uP x_ fun o x_ => uP x_ fun o0 x_ => uP x_ fun o1 x_ => uP x_ fun o2 x_ => uP x_ fun o3 x_ => uP x_ fun o4 x_ => uP x_ fun o5 x_ => uP x_ fun t1000001 x_ => k_ 0 (Shape.inj circ_line.c240967x0 (o, o0, o1, o2, o3, o4, o5, r_, ())))
def circ_line.c19 {ρ : Type} (v : Int) (t1000001 : List (Int)) (k_ : List (Int) → Option ρ) : Option ρ :=
  bnd (W.strconv_Itoa (IntKind.wrap IntKind.i64 (IntKind.wrap IntKind.i64 ((0 : Int) - v) - (1 : Int)))) fun y =>
  bnd (okIf (decide (List.length (Array.toList (ByteArray.data (ByteArray.mk #[(32 : UInt8), (33 : UInt8)]))) + List.length y ≤ (9223372036854775807 : Nat)))) fun y_1 =>
  bnd (W.strings_Builder_WriteString (Prod.fst (uP (uP (Array.toList (ByteArray.data (ByteArray.mk #[(32 : UInt8), (33 : UInt8)])) ++ y, ()) fun u r ↦ (u, ())) fun u r ↦ (u, uP (t1000001, ()) fun u r ↦ (u, ())))) (Prod.fst (Prod.snd (uP (uP (Array.toList (ByteArray.data (ByteArray.mk #[(32 : UInt8), (33 : UInt8)])) ++ y, ()) fun u r ↦ (u, ())) fun u r ↦ (u, uP (t1000001, ()) fun u r ↦ (u, ())))))) fun y_2 =>
  k_ (Prod.fst y_2.2.2)
def circ_line.c19s : Shape := ⟨[(0, q17), (1, q2), (2, q5), (3, q24), (4, q25), (6, q0), (56, q8), (57, q0), (58, q0)], [(2, q26), (3, q6), (7, q27), (1000000, q18), (1000001, q19)]⟩
def circ_line.c19x0 : Shape := ⟨[(0, q17), (1, q2), (2, q5), (3, q24), (4, q25), (6, q0), (56, q8), (57, q0), (58, q0)], [(2, q26), (3, q6), (7, q27), (1000000, q18), (1000001, q19)]⟩
def circ_line.c19r : Ck := Ck.of (T := List (Int)) circ_line.c19s (fun ρ x_ k_ => uP x_ fun o x_ => uP x_ fun v x_ => uP x_ fun t56 x_ => uP x_ fun t57 x_ => uP x_ fun t58 x_ => uP x_ fun o0 x_ => uP x_ fun o1 x_ => uP x_ fun o2 x_ => uP x_ fun o3 x_ => uP x_ fun o4 x_ => uP x_ fun o5 x_ => uP x_ fun t1000001 x_ => circ_line.c19 v t1000001 k_) (fun ρ x_ r_ k_ => uP x_ fun o x_ => uP x_ fun v x_ => uP x_ fun t56 x_ => uP x_ fun t57 x_ => uP x_ fun t58 x_ => uP x_ fun o0 x_ => uP x_ fun o1 x_ => uP x_ fun o2 x_ => uP x_ fun o3 x_ => uP x_ fun o4 x_ => uP x_ fun o5 x_ => uP x_ fun t1000001 x_ => k_ 0 (Shape.inj circ_line.c19x0 (o, v, t56, t57, t58, o0, o1, o2, o3, o4, o5, r_, ())))
def circ_line.c269640 {ρ : Type} (t56 : List (Int)) (t58 : Int) (t1000001 : List (Int)) (k_ : List (Int) → Option ρ) : Option ρ :=
  bnd (idx t56 t58) fun y =>
  br (decide (y < (0 : Int)))
   (bnd (W.circ_line.c19 y t1000001 some) fun y_1 =>
    k_ y_1)
   (bnd (W.circ_line_1 (Prod.fst (uP (uP ([IntKind.wrap IntKind.i64 (y - (1 : Int))], ()) fun u r ↦ (u, ())) fun u r ↦ (u, uP (t1000001, ()) fun u r ↦ (u, ())))) (Prod.fst (Prod.snd (uP (uP ([IntKind.wrap IntKind.i64 (y - (1 : Int))], ()) fun u r ↦ (u, ())) fun u r ↦ (u, uP (t1000001, ()) fun u r ↦ (u, ())))))) fun y_2 =>
    k_ (Prod.fst y_2))
def circ_line.c269640s : Shape := ⟨[(0, q17), (1, q2), (2, q5), (3, q24), (4, q25), (56, q8), (57, q0), (58, q0)], [(2, q26), (3, q6), (7, q27), (1000000, q18), (1000001, q19)]⟩
def circ_line.c269640x0 : Shape := ⟨[(0, q17), (1, q2), (2, q5), (3, q24), (4, q25), (56, q8), (57, q0), (58, q0)], [(2, q26), (3, q6), (7, q27), (1000000, q18), (1000001, q19)]⟩
def circ_line.c269640r : Ck := Ck.of (T := List (Int)) circ_line.c269640s (fun ρ x_ k_ => uP x_ fun o x_ => uP x_ fun t56 x_ => uP x_ fun t57 x_ => uP x_ fun t58 x_ => uP x_ fun o0 x_ => uP x_ fun o1 x_ => uP x_ fun o2 x_ => uP x_ fun o3 x_ => uP x_ fun o4 x_ => uP x_ fun o5 x_ => uP x_ fun t1000001 x_ => circ_line.c269640 t56 t58 t1000001 k_) (fun ρ x_ r_ k_ => uP x_ fun o x_ => uP x_ fun t56 x_ => uP x_ fun t57 x_ => uP x_ fun t58 x_ => uP x_ fun o0 x_ => uP x_ fun o1 x_ => uP x_ fun o2 x_ => uP x_ fun o3 x_ => uP x_ fun o4 x_ => uP x_ fun o5 x_ => uP x_ fun t1000001 x_ => k_ 0 (Shape.inj circ_line.c269640x0 (o, t56, t57, t58, o0, o1, o2, o3, o4, o5, r_, ())))
def circ_line.c100016 {ρ : Type} (t56 : List (Int)) (t57 : Int) (t58 : Int) (t1000001 : List (Int)) (k_ : ((Int) × (List Int)) ⊕ ((Int) × (List Int)) → Option ρ) : Option ρ :=
  br (decide (t58 < t57))
   (bnd (W.circ_line.c269640 t56 t58 t1000001 some) fun y =>
    k_ (.inl ((IntKind.wrap IntKind.i64 (t58 + (1 : Int))), y)))
   (k_ (.inr (t58, t1000001)))
def circ_line.c100016s : Shape := ⟨[(0, q17), (1, q2), (2, q5), (3, q24), (4, q25), (56, q8), (57, q0), (58, q0)], [(2, q26), (3, q6), (7, q27), (1000000, q18), (1000001, q19)]⟩
def circ_line.c100016x0 : Shape := ⟨[(0, q17), (1, q2), (2, q5), (3, q24), (4, q25), (56, q8), (57, q0), (58, q0)], [(2, q26), (3, q6), (7, q27), (1000000, q18), (1000001, q19)]⟩
def circ_line.c100016r : Ck := Ck.ofLoop (S := (Int) × (List Int)) (T := (Int) × (List Int)) circ_line.c100016s (fun x_ => uP x_ fun o x_ => uP x_ fun t56 x_ => uP x_ fun t57 x_ => uP x_ fun t58 x_ => uP x_ fun o0 x_ => uP x_ fun o1 x_ => uP x_ fun o2 x_ => uP x_ fun o3 x_ => uP x_ fun o4 x_ => uP x_ fun o5 x_ => uP x_ fun t1000001 x_ => (t58, t1000001)) (fun ρ x_ s_ k_ => uP x_ fun o x_ => uP x_ fun t56 x_ => uP x_ fun t57 x_ => uP x_ fun t58 x_ => uP x_ fun o0 x_ => uP x_ fun o1 x_ => uP x_ fun o2 x_ => uP x_ fun o3 x_ => uP x_ fun o4 x_ => uP x_ fun o5 x_ => uP x_ fun t1000001 x_ => circ_line.c100016 t56 t57 s_.1 s_.2 k_) (fun ρ x_ r_ k_ => uP x_ fun o x_ => uP x_ fun t56 x_ => uP x_ fun t57 x_ => uP x_ fun t58 x_ => uP x_ fun o0 x_ => uP x_ fun o1 x_ => uP x_ fun o2 x_ => uP x_ fun o3 x_ => uP x_ fun o4 x_ => uP x_ fun o5 x_ => uP x_ fun t1000001 x_ => k_ 2 (Shape.inj circ_line.c100016x0 (o, t56, t57, r_.1, o0, o1, o2, o3, o4, o5, r_.2, ())))
def circ_line.c253274 {ρ : Type} (o5 : List (Int)) (t1000001 : List (Int)) (k_ : List (Int) → Option ρ) : Option ρ :=
  br (decide ((↑(List.length o5) : Int) > (0 : Int)))
   (bnd (W.strings_Builder_WriteString (Prod.fst (uP (uP (Array.toList (ByteArray.data (ByteArray.mk #[(32 : UInt8), (105 : UInt8), (102 : UInt8)])), ()) fun u r ↦ (u, ())) fun u r ↦ (u, uP (t1000001, ()) fun u r ↦ (u, ())))) (Prod.fst (Prod.snd (uP (uP (Array.toList (ByteArray.data (ByteArray.mk #[(32 : UInt8), (105 : UInt8), (102 : UInt8)])), ()) fun u r ↦ (u, ())) fun u r ↦ (u, uP (t1000001, ()) fun u r ↦ (u, ())))))) fun y =>
    bnd (iter (fun s ↦ W.circ_line.c100016 o5 (↑(List.length o5) : Int) (Prod.fst s) (Prod.snd s) some) ((0 : Int), Prod.fst y.2.2)) fun y_1 =>
    k_ (Prod.snd y_1))
   (k_ t1000001)
def circ_line.c253274s : Shape := ⟨[(0, q17), (1, q2), (2, q5), (3, q24), (4, q25)], [(2, q26), (3, q6), (7, q27), (1000000, q18), (1000001, q19)]⟩
def circ_line.c253274x0 : Shape := ⟨[(0, q17), (1, q2), (2, q5), (3, q24), (4, q25)], [(2, q26), (3, q6), (7, q27), (1000000, q18), (1000001, q19)]⟩
def circ_line.c253274r : Ck := Ck.of (T := List (Int)) circ_line.c253274s (fun ρ x_ k_ => uP x_ fun o x_ => uP x_ fun o0 x_ => uP x_ fun o1 x_ => uP x_ fun o2 x_ => uP x_ fun o3 x_ => uP x_ fun o4 x_ => uP x_ fun o5 x_ => uP x_ fun t1000001 x_ => circ_line.c253274 o5 t1000001 k_) (fun ρ x_ r_ k_ => uP x_ fun o x_ => uP x_ fun o0 x_ => uP x_ fun o1 x_ => uP x_ fun o2 x_ => uP x_ fun o3 x_ => uP x_ fun o4 x_ => uP x_ fun o5 x_ => uP x_ fun t1000001 x_ => k_ 0 (Shape.inj circ_line.c253274x0 (o, o0, o1, o2, o3, o4, o5, r_, ())))
def circ_line (o : (Int) × ((Int) × ((List Int) × ((Int) × ((Int) × (List Int)))))) (t1000001 : List (Int)) : Option ((List Int) × Unit) :=
  bnd (W.circ_line.c2 (Prod.fst o) t1000001 some) fun y =>
  bnd (W.circ_line.c212293 (Prod.fst o) (Prod.fst (Prod.snd o)) y some) fun y_1 =>
  bnd (W.circ_line.c220485 (Prod.fst o) (Prod.fst (Prod.snd (Prod.snd (Prod.snd o)))) y_1 some) fun y_2 =>
  bnd (W.circ_line.c228679 (Prod.fst (Prod.snd (Prod.snd o))) y_2 some) fun y_3 =>
  bnd (W.circ_line.c240967 (Prod.fst o) (Prod.fst (Prod.snd (Prod.snd (Prod.snd (Prod.snd o))))) y_3 some) fun y_4 =>
  bnd (W.circ_line.c253274 (Prod.snd (Prod.snd (Prod.snd (Prod.snd (Prod.snd o))))) y_4 some) fun y_5 =>
  bnd (W.strings_Builder_WriteByte (Prod.fst (uP (uP ((10 : Int), ()) fun u r ↦ (u, ())) fun u r ↦ (u, uP (y_5, ()) fun u r ↦ (u, ())))) (Prod.fst (Prod.snd (uP (uP ((10 : Int), ()) fun u r ↦ (u, ())) fun u r ↦ (u, uP (y_5, ()) fun u r ↦ (u, ())))))) fun y_6 =>
  some (uP (Prod.fst y_6.2, ()) fun u r ↦ (u, ()))
def circ_line.mc : MCallee := ⟨56, circ_line.pre, circ_line.post, fun x_ => circ_line x_.1 x_.2.1⟩
def circ_line.G : Env := ⟨79, tab, [(75, circ_word.ce), (68, circ_turns.ce), (55, strconv_Itoa.ce)], [0, 1, 2, 3, 4, 6, 15, 23, 32, 41, 52, 56, 57, 58, 59, 63], [2, 1002, 1000000, 1000001], [(19, [⟨[], [], [65, 66, 67, 68, 69], []⟩, ⟨[], [], [64], []⟩, ⟨[1], [], [64], []⟩, ⟨[2, 1], [], [64], []⟩, ⟨[3, 2, 1], [], [64], []⟩, ⟨[4, 3, 2, 1], [], [64], []⟩, ⟨[0, 5, 4, 3, 2, 1], [1000001, 1000000], [], []⟩]),
  (2, [⟨[], [], [9, 10, 11], []⟩, ⟨[], [], [8], []⟩, ⟨[1], [], [8], []⟩, ⟨[2, 1], [], [8], []⟩, ⟨[0, 3, 2, 1], [1000001, 1000000], [], []⟩])], [(253274, circ_line.c253274r), (100016, circ_line.c100016r), (269640, circ_line.c269640r), (19, circ_line.c19r), (240967, circ_line.c240967r), (228679, circ_line.c228679r), (220485, circ_line.c220485r), (212293, circ_line.c212293r), (2, circ_line.c2r)], [(54, strings_Builder_WriteString.mc), (76, strings_Builder_WriteByte.mc), (74, circ_line_1.mc)], tab_eqs⟩
theorem circ_line.eq (x_ : densU circ_line.mc.pre.tys) : denM circ_line.G Go.Proofs.Tryd.f56 circ_line.mc.pre circ_line.mc.post x_ = circ_line.mc.F x_ := by kernel_rfl
theorem circ_line.p0 : PieceOk circ_line.G (pieceAt (pieces circ_line.G.cks (bodyOf Go.Proofs.Tryd.f56)) 0).1 (pieceAt (pieces circ_line.G.cks (bodyOf Go.Proofs.Tryd.f56)) 0).2 :=
  region_ok (s := circ_line.c2r) (by kernel_rfl) (by kernel_rfl) (sums_of (sh := circ_line.c2s) (fun ρ x_ k_ => (nat_bnd fun _ => (nat_bnd fun _ => nat_leaf))) (fun ρ x_ t k => (by kernel_rfl)) (fun x_ => by kernel_rfl))
theorem circ_line.p1 : PieceOk circ_line.G (pieceAt (pieces circ_line.G.cks (bodyOf Go.Proofs.Tryd.f56)) 1).1 (pieceAt (pieces circ_line.G.cks (bodyOf Go.Proofs.Tryd.f56)) 1).2 :=
  join_ok (s := circ_line.c212293r) (by kernel_rfl) (by kernel_rfl) (sums_of (sh := circ_line.c212293s) (fun ρ x_ k_ => (nat_bnd fun _ => (nat_br (nat_bnd fun _ => nat_leaf) nat_leaf))) (fun ρ x_ t k => (by kernel_rfl)) (fun x_ => by kernel_rfl))
theorem circ_line.p2 : PieceOk circ_line.G (pieceAt (pieces circ_line.G.cks (bodyOf Go.Proofs.Tryd.f56)) 2).1 (pieceAt (pieces circ_line.G.cks (bodyOf Go.Proofs.Tryd.f56)) 2).2 :=
  join_ok (s := circ_line.c220485r) (by kernel_rfl) (by kernel_rfl) (sums_of (sh := circ_line.c220485s) (fun ρ x_ k_ => (nat_br (nat_bnd fun _ => nat_leaf) nat_leaf)) (fun ρ x_ t k => (by kernel_rfl)) (fun x_ => by kernel_rfl))
theorem circ_line.p3 : PieceOk circ_line.G (pieceAt (pieces circ_line.G.cks (bodyOf Go.Proofs.Tryd.f56)) 3).1 (pieceAt (pieces circ_line.G.cks (bodyOf Go.Proofs.Tryd.f56)) 3).2 :=
  join_ok (s := circ_line.c228679r) (by kernel_rfl) (by kernel_rfl) (sums_of (sh := circ_line.c228679s) (fun ρ x_ k_ => (nat_br (nat_bnd fun _ => (nat_bnd fun _ => nat_leaf)) nat_leaf)) (fun ρ x_ t k => (by kernel_rfl)) (fun x_ => by kernel_rfl))
theorem circ_line.p4 : PieceOk circ_line.G (pieceAt (pieces circ_line.G.cks (bodyOf Go.Proofs.Tryd.f56)) 4).1 (pieceAt (pieces circ_line.G.cks (bodyOf Go.Proofs.Tryd.f56)) 4).2 :=
  join_ok (s := circ_line.c240967r) (by kernel_rfl) (by kernel_rfl) (sums_of (sh := circ_line.c240967s) (fun ρ x_ k_ => (nat_br (nat_bnd fun _ => (nat_bnd fun _ => nat_leaf)) nat_leaf)) (fun ρ x_ t k => (by kernel_rfl)) (fun x_ => by kernel_rfl))
theorem circ_line.p5 : PieceOk circ_line.G (pieceAt (pieces circ_line.G.cks (bodyOf Go.Proofs.Tryd.f56)) 5).1 (pieceAt (pieces circ_line.G.cks (bodyOf Go.Proofs.Tryd.f56)) 5).2 :=
  join_ok (s := circ_line.c253274r) (by kernel_rfl) (by kernel_rfl) (sums_of (sh := circ_line.c253274s) (fun ρ x_ k_ => (nat_br (nat_bnd fun _ => (nat_bnd fun _ => nat_leaf)) nat_leaf)) (fun ρ x_ t k => (by kernel_rfl)) (fun x_ => by kernel_rfl))
theorem circ_line.p6 : PieceOk circ_line.G (pieceAt (pieces circ_line.G.cks (bodyOf Go.Proofs.Tryd.f56)) 6).1 (pieceAt (pieces circ_line.G.cks (bodyOf Go.Proofs.Tryd.f56)) 6).2 :=
  loop_ok (s := circ_line.c100016r) (by kernel_rfl) (by kernel_rfl) (loops_of (sh := circ_line.c100016s) (I := fun x_ s_ => (x_.1, x_.2.1, x_.2.2.1, s_.1, x_.2.2.2.2.1, x_.2.2.2.2.2.1, x_.2.2.2.2.2.2.1, x_.2.2.2.2.2.2.2.1, x_.2.2.2.2.2.2.2.2.1, x_.2.2.2.2.2.2.2.2.2.1, s_.2, ())) (fun x_ => rfl) (fun ρ x_ s_ k_ => (nat_br (nat_bnd fun _ => nat_leaf) nat_leaf)) (fun ρ x_ t k => (by kernel_rfl)) (fun x_ s => by kernel_rfl))
theorem circ_line.p7 : PieceOk circ_line.G (pieceAt (pieces circ_line.G.cks (bodyOf Go.Proofs.Tryd.f56)) 7).1 (pieceAt (pieces circ_line.G.cks (bodyOf Go.Proofs.Tryd.f56)) 7).2 :=
  join_ok (s := circ_line.c269640r) (by kernel_rfl) (by kernel_rfl) (sums_of (sh := circ_line.c269640s) (fun ρ x_ k_ => (nat_bnd fun _ => (nat_br (nat_bnd fun _ => nat_leaf) (nat_bnd fun _ => nat_leaf)))) (fun ρ x_ t k => (by kernel_rfl)) (fun x_ => by kernel_rfl))
theorem circ_line.p8 : PieceOk circ_line.G (pieceAt (pieces circ_line.G.cks (bodyOf Go.Proofs.Tryd.f56)) 8).1 (pieceAt (pieces circ_line.G.cks (bodyOf Go.Proofs.Tryd.f56)) 8).2 :=
  region_ok (s := circ_line.c19r) (by kernel_rfl) (by kernel_rfl) (sums_of (sh := circ_line.c19s) (fun ρ x_ k_ => (nat_bnd fun _ => (nat_bnd fun _ => (nat_bnd fun _ => nat_leaf)))) (fun ρ x_ t k => (by kernel_rfl)) (fun x_ => by kernel_rfl))
theorem circ_line.ok : MOk Go.Proofs.Tryd.prog 56 circ_line.mc := fnm_ok (G := circ_line.G) tab_ok mixed Go.Proofs.Tryd.func56 ⟨(fns_cons circ_word.ok (fns_cons circ_turns.ok (fns_cons strconv_Itoa.ok fns_nil))), (mfns_cons strings_Builder_WriteString.ok (mfns_cons strings_Builder_WriteByte.ok (mfns_cons circ_line_1.ok mfns_nil))), tab_eqs_ok⟩ (m := 9) (by kernel_rfl) ⟨⟨⟨⟨⟨⟨⟨⟨⟨trivial, circ_line.p0⟩, circ_line.p1⟩, circ_line.p2⟩, circ_line.p3⟩, circ_line.p4⟩, circ_line.p5⟩, circ_line.p6⟩, circ_line.p7⟩, circ_line.p8⟩ (by kernel_rfl) circ_line.eq
abbrev q28 : SD := .one (.ref 4 0)
abbrev q29 : SD := .one (.ref 5 0)
abbrev q30 : SO := .box [.selfp 5 72, .own 2005 0]
def circ_Print.c3 {ρ : Type}  (k_ : Unit → Option ρ) : Option ρ :=
  k_ ()
def circ_Print.c3s : Shape := ⟨[(0, q10), (1, q11), (2, q14), (3, q24), (4, q28)], [(1, q4), (3, q12), (4, q12)]⟩
def circ_Print.c3x0 : Shape := ⟨[(0, q10), (1, q11), (2, q14), (3, q24), (4, q28)], [(1, q4), (3, q12), (4, q12)]⟩
def circ_Print.c3r : Ck := Ck.of (T := Unit) circ_Print.c3s (fun ρ x_ k_ => uP x_ fun c x_ => uP x_ fun t2 x_ => uP x_ fun c0 x_ => uP x_ fun c1 x_ => uP x_ fun c2 x_ => uP x_ fun t30 x_ => uP x_ fun t31 x_ => uP x_ fun f0 x_ => uP x_ fun f1 x_ => circ_Print.c3  k_) (fun ρ x_ r_ k_ => uP x_ fun c x_ => uP x_ fun t2 x_ => uP x_ fun c0 x_ => uP x_ fun c1 x_ => uP x_ fun c2 x_ => uP x_ fun t30 x_ => uP x_ fun t31 x_ => uP x_ fun f0 x_ => uP x_ fun f1 x_ => k_ 0 (Shape.inj circ_Print.c3x0 (c, (Array.toList (ByteArray.data (ByteArray.mk #[]))), c0, c1, c2, f0, f1, f0, f1, ())))
def circ_Print.c5 {ρ : Type} (c0 : Int) (c1 : Int) (t2005 : List (Int)) (k_ : List (Int) → Option ρ) : Option ρ :=
  bnd (W.strconv_Itoa c0) fun y =>
  bnd (okIf (decide (List.length (Array.toList (ByteArray.data (ByteArray.mk #[(113 : UInt8), (117 : UInt8), (98 : UInt8), (105 : UInt8), (116 : UInt8), (115 : UInt8), (32 : UInt8)]))) + List.length y ≤ (9223372036854775807 : Nat)))) fun y_1 =>
  bnd (okIf (decide (List.length (Array.toList (ByteArray.data (ByteArray.mk #[(113 : UInt8), (117 : UInt8), (98 : UInt8), (105 : UInt8), (116 : UInt8), (115 : UInt8), (32 : UInt8)])) ++ y) + List.length (Array.toList (ByteArray.data (ByteArray.mk #[(32 : UInt8), (98 : UInt8), (105 : UInt8), (116 : UInt8), (115 : UInt8), (32 : UInt8)]))) ≤ (9223372036854775807 : Nat)))) fun y_2 =>
  bnd (W.strconv_Itoa c1) fun y_3 =>
  bnd (okIf (decide (List.length (Array.toList (ByteArray.data (ByteArray.mk #[(113 : UInt8), (117 : UInt8), (98 : UInt8), (105 : UInt8), (116 : UInt8), (115 : UInt8), (32 : UInt8)])) ++ y ++ Array.toList (ByteArray.data (ByteArray.mk #[(32 : UInt8), (98 : UInt8), (105 : UInt8), (116 : UInt8), (115 : UInt8), (32 : UInt8)]))) + List.length y_3 ≤ (9223372036854775807 : Nat)))) fun y_4 =>
  bnd (okIf (decide (List.length (Array.toList (ByteArray.data (ByteArray.mk #[(113 : UInt8), (117 : UInt8), (98 : UInt8), (105 : UInt8), (116 : UInt8), (115 : UInt8), (32 : UInt8)])) ++ y ++ Array.toList (ByteArray.data (ByteArray.mk #[(32 : UInt8), (98 : UInt8), (105 : UInt8), (116 : UInt8), (115 : UInt8), (32 : UInt8)])) ++ y_3) + List.length (Array.toList (ByteArray.data (ByteArray.mk #[(10 : UInt8)]))) ≤ (9223372036854775807 : Nat)))) fun y_5 =>
  bnd (W.strings_Builder_WriteString (Prod.fst (uP (uP (Array.toList (ByteArray.data (ByteArray.mk #[(113 : UInt8), (117 : UInt8), (98 : UInt8), (105 : UInt8), (116 : UInt8), (115 : UInt8), (32 : UInt8)])) ++ y ++ Array.toList (ByteArray.data (ByteArray.mk #[(32 : UInt8), (98 : UInt8), (105 : UInt8), (116 : UInt8), (115 : UInt8), (32 : UInt8)])) ++ y_3 ++ Array.toList (ByteArray.data (ByteArray.mk #[(10 : UInt8)])), ()) fun u r ↦ (u, ())) fun u r ↦ (u, uP (t2005, ()) fun u r ↦ (u, ())))) (Prod.fst (Prod.snd (uP (uP (Array.toList (ByteArray.data (ByteArray.mk #[(113 : UInt8), (117 : UInt8), (98 : UInt8), (105 : UInt8), (116 : UInt8), (115 : UInt8), (32 : UInt8)])) ++ y ++ Array.toList (ByteArray.data (ByteArray.mk #[(32 : UInt8), (98 : UInt8), (105 : UInt8), (116 : UInt8), (115 : UInt8), (32 : UInt8)])) ++ y_3 ++ Array.toList (ByteArray.data (ByteArray.mk #[(10 : UInt8)])), ()) fun u r ↦ (u, ())) fun u r ↦ (u, uP (t2005, ()) fun u r ↦ (u, ())))))) fun y_6 =>
  k_ (Prod.fst y_6.2.2)
def circ_Print.c5s : Shape := ⟨[(0, q10), (1, q11), (2, q14), (3, q24), (4, q28), (5, q29)], [(1, q4), (3, q12), (4, q12), (5, q30), (2005, q19)]⟩
def circ_Print.c5x0 : Shape := ⟨[(0, q10), (1, q11), (2, q14), (3, q24), (4, q28), (5, q29)], [(1, q4), (3, q12), (4, q12), (5, q30), (2005, q19)]⟩
def circ_Print.c5r : Ck := Ck.of (T := List (Int)) circ_Print.c5s (fun ρ x_ k_ => uP x_ fun c x_ => uP x_ fun t2 x_ => uP x_ fun c0 x_ => uP x_ fun c1 x_ => uP x_ fun c2 x_ => uP x_ fun t30 x_ => uP x_ fun t31 x_ => uP x_ fun f0 x_ => uP x_ fun f1 x_ => uP x_ fun t2005 x_ => circ_Print.c5 c0 c1 t2005 k_) (fun ρ x_ r_ k_ => uP x_ fun c x_ => uP x_ fun t2 x_ => uP x_ fun c0 x_ => uP x_ fun c1 x_ => uP x_ fun c2 x_ => uP x_ fun t30 x_ => uP x_ fun t31 x_ => uP x_ fun f0 x_ => uP x_ fun f1 x_ => uP x_ fun t2005 x_ => k_ 0 (Shape.inj circ_Print.c5x0 (c, t2, c0, c1, c2, t30, t31, f0, f1, r_, ())))
def circ_Print.c100007 {ρ : Type} (t26 : List ((Int) × ((Int) × ((List Int) × ((Int) × ((Int) × (List Int))))))) (t27 : Int) (t28 : Int) (t2005 : List (Int)) (k_ : ((Int) × (List Int)) ⊕ ((Int) × (List Int)) → Option ρ) : Option ρ :=
  br (decide (t28 < t27))
   (bnd (idx t26 t28) fun y =>
    bnd (W.circ_line (Prod.fst (uP (uP ((Prod.fst y, Prod.fst (Prod.snd y), Prod.fst (Prod.snd (Prod.snd y)), Prod.fst (Prod.snd (Prod.snd (Prod.snd y))), Prod.fst (Prod.snd (Prod.snd (Prod.snd (Prod.snd y)))), Prod.snd (Prod.snd (Prod.snd (Prod.snd (Prod.snd y))))), ()) fun u r ↦ (u, ())) fun u r ↦ (u, uP (t2005, ()) fun u r ↦ (u, ())))) (Prod.fst (Prod.snd (uP (uP ((Prod.fst y, Prod.fst (Prod.snd y), Prod.fst (Prod.snd (Prod.snd y)), Prod.fst (Prod.snd (Prod.snd (Prod.snd y))), Prod.fst (Prod.snd (Prod.snd (Prod.snd (Prod.snd y)))), Prod.snd (Prod.snd (Prod.snd (Prod.snd (Prod.snd y))))), ()) fun u r ↦ (u, ())) fun u r ↦ (u, uP (t2005, ()) fun u r ↦ (u, ())))))) fun y_1 =>
    k_ (.inl ((IntKind.wrap IntKind.i64 (t28 + (1 : Int))), (Prod.fst y_1))))
   (k_ (.inr (t28, t2005)))
def circ_Print.c100007s : Shape := ⟨[(0, q10), (1, q11), (2, q14), (3, q24), (4, q28), (5, q29), (26, q13), (27, q0), (28, q0)], [(1, q4), (3, q12), (4, q12), (5, q30), (2005, q19)]⟩
def circ_Print.c100007x0 : Shape := ⟨[(0, q10), (1, q11), (2, q14), (3, q24), (4, q28), (5, q29), (26, q13), (27, q0), (28, q0)], [(1, q4), (3, q12), (4, q12), (5, q30), (2005, q19)]⟩
def circ_Print.c100007r : Ck := Ck.ofLoop (S := (Int) × (List Int)) (T := (Int) × (List Int)) circ_Print.c100007s (fun x_ => uP x_ fun c x_ => uP x_ fun t2 x_ => uP x_ fun t26 x_ => uP x_ fun t27 x_ => uP x_ fun t28 x_ => uP x_ fun c0 x_ => uP x_ fun c1 x_ => uP x_ fun c2 x_ => uP x_ fun t30 x_ => uP x_ fun t31 x_ => uP x_ fun f0 x_ => uP x_ fun f1 x_ => uP x_ fun t2005 x_ => (t28, t2005)) (fun ρ x_ s_ k_ => uP x_ fun c x_ => uP x_ fun t2 x_ => uP x_ fun t26 x_ => uP x_ fun t27 x_ => uP x_ fun t28 x_ => uP x_ fun c0 x_ => uP x_ fun c1 x_ => uP x_ fun c2 x_ => uP x_ fun t30 x_ => uP x_ fun t31 x_ => uP x_ fun f0 x_ => uP x_ fun f1 x_ => uP x_ fun t2005 x_ => circ_Print.c100007 t26 t27 s_.1 s_.2 k_) (fun ρ x_ r_ k_ => uP x_ fun c x_ => uP x_ fun t2 x_ => uP x_ fun t26 x_ => uP x_ fun t27 x_ => uP x_ fun t28 x_ => uP x_ fun c0 x_ => uP x_ fun c1 x_ => uP x_ fun c2 x_ => uP x_ fun t30 x_ => uP x_ fun t31 x_ => uP x_ fun f0 x_ => uP x_ fun f1 x_ => uP x_ fun t2005 x_ => k_ 2 (Shape.inj circ_Print.c100007x0 (c, t2, t26, t27, r_.1, c0, c1, c2, t30, t31, f0, f1, r_.2, ())))
def circ_Print (c : (Int) × ((Int) × (List ((Int) × ((Int) × ((List Int) × ((Int) × ((Int) × (List Int))))))))) : Option ((List UInt8) × ((Int) × (Int))) :=
  bnd (W.circ_Check (Prod.fst c, Prod.fst (Prod.snd c), Prod.snd (Prod.snd c))) fun y =>
  br (Prod.fst y != (0 : Int))
   (bnd (W.circ_Print.c3 some) fun y_1 =>
    some (Array.toList (ByteArray.data (ByteArray.mk #[])), Prod.fst y, Prod.snd y))
   (bnd (W.circ_Print.c5 (Prod.fst c) (Prod.fst (Prod.snd c)) [] some) fun y_2 =>
    bnd (iter (fun s ↦ W.circ_Print.c100007 (Prod.snd (Prod.snd c)) (↑(List.length (Prod.snd (Prod.snd c))) : Int) (Prod.fst s) (Prod.snd s) some) ((0 : Int), y_2)) fun y_3 =>
    bnd (W.strings_Builder_String (Prod.fst (uP (Prod.snd y_3, ()) fun u r ↦ (u, ())))) fun y_4 =>
    some (Prod.fst y_4, (0 : Int), (0 : Int)))
def circ_Print.ce : Go.Ql.Callee := ⟨[(.st (.pair (.int .i64) (.pair (.int .i64) (.sl (.st (.pair (.int .i64) (.pair (.int .i64) (.pair (.sl (.int .i64)) (.pair (.int .i64) (.pair (.int .i64) (.sl (.int .i64))))))))))))], [.str, (.st (.pair (.int .i64) (.int .i64)))], fun x_ => circ_Print x_⟩
def circ_Print.G : Env := ⟨37, tab, [(14, circ_Check.ce), (55, strconv_Itoa.ce)], [0, 1, 2, 3, 4, 5, 7, 12, 26, 27, 28, 29], [5, 2005], [(5, [⟨[], [], [19, 20], []⟩, ⟨[0], [], [19, 20], []⟩, ⟨[1, 0], [], [19, 20], []⟩, ⟨[2, 1, 0], [], [19, 20, 21], []⟩, ⟨[3, 2, 1, 0], [], [19, 20, 21], []⟩, ⟨[], [], [14, 15, 16, 17, 18], []⟩, ⟨[5], [], [14, 15, 16, 17, 18], []⟩, ⟨[6, 5, 2, 1, 0], [], [17, 18], []⟩, ⟨[4, 3, 2, 1, 0, 7, 6, 5], [], [], []⟩, ⟨[8, 4, 3, 2, 1, 0, 7, 6, 5], [], [], []⟩, ⟨[9, 8, 4, 3, 2, 1, 0, 7, 6, 5], [2005, 5], [], []⟩]),
  (3, [⟨[], [], [2], []⟩, ⟨[], [], [13], []⟩, ⟨[0, 1], [3], [], []⟩])], [(100007, circ_Print.c100007r), (5, circ_Print.c5r), (3, circ_Print.c3r)], [(54, strings_Builder_WriteString.mc), (56, circ_line.mc), (57, strings_Builder_String.mc)], tab_eqs⟩
theorem circ_Print.eq (x_ : dens [(.st (.pair (.int .i64) (.pair (.int .i64) (.sl (.st (.pair (.int .i64) (.pair (.int .i64) (.pair (.sl (.int .i64)) (.pair (.int .i64) (.pair (.int .i64) (.sl (.int .i64))))))))))))]) : den circ_Print.G Go.Proofs.Tryd.f32 [(.st (.pair (.int .i64) (.pair (.int .i64) (.sl (.st (.pair (.int .i64) (.pair (.int .i64) (.pair (.sl (.int .i64)) (.pair (.int .i64) (.pair (.int .i64) (.sl (.int .i64))))))))))))] [.str, (.st (.pair (.int .i64) (.int .i64)))] x_ = circ_Print x_ := by kernel_rfl
theorem circ_Print.p0 : PieceOk circ_Print.G (pieceAt (pieces circ_Print.G.cks (bodyOf Go.Proofs.Tryd.f32)) 0).1 (pieceAt (pieces circ_Print.G.cks (bodyOf Go.Proofs.Tryd.f32)) 0).2 :=
  region_ok (s := circ_Print.c3r) (by kernel_rfl) (by kernel_rfl) (sums_of (sh := circ_Print.c3s) (fun ρ x_ k_ => nat_leaf) (fun ρ x_ t k => (by kernel_rfl)) (fun x_ => by kernel_rfl))
theorem circ_Print.p1 : PieceOk circ_Print.G (pieceAt (pieces circ_Print.G.cks (bodyOf Go.Proofs.Tryd.f32)) 1).1 (pieceAt (pieces circ_Print.G.cks (bodyOf Go.Proofs.Tryd.f32)) 1).2 :=
  region_ok (s := circ_Print.c5r) (by kernel_rfl) (by kernel_rfl) (sums_of (sh := circ_Print.c5s) (fun ρ x_ k_ => (nat_bnd fun _ => (nat_bnd fun _ => (nat_bnd fun _ => (nat_bnd fun _ => (nat_bnd fun _ => (nat_bnd fun _ => (nat_bnd fun _ => nat_leaf)))))))) (fun ρ x_ t k => (by kernel_rfl)) (fun x_ => by kernel_rfl))
theorem circ_Print.p2 : PieceOk circ_Print.G (pieceAt (pieces circ_Print.G.cks (bodyOf Go.Proofs.Tryd.f32)) 2).1 (pieceAt (pieces circ_Print.G.cks (bodyOf Go.Proofs.Tryd.f32)) 2).2 :=
  loop_ok (s := circ_Print.c100007r) (by kernel_rfl) (by kernel_rfl) (loops_of (sh := circ_Print.c100007s) (I := fun x_ s_ => (x_.1, x_.2.1, x_.2.2.1, x_.2.2.2.1, s_.1, x_.2.2.2.2.2.1, x_.2.2.2.2.2.2.1, x_.2.2.2.2.2.2.2.1, x_.2.2.2.2.2.2.2.2.1, x_.2.2.2.2.2.2.2.2.2.1, x_.2.2.2.2.2.2.2.2.2.2.1, x_.2.2.2.2.2.2.2.2.2.2.2.1, s_.2, ())) (fun x_ => rfl) (fun ρ x_ s_ k_ => (nat_br (nat_bnd fun _ => (nat_bnd fun _ => nat_leaf)) nat_leaf)) (fun ρ x_ t k => (by kernel_rfl)) (fun x_ s => by kernel_rfl))
theorem circ_Print.ok : CalleeOk Go.Proofs.Tryd.prog 32 circ_Print.ce := fn_ok (G := circ_Print.G) tab_ok mixed Go.Proofs.Tryd.func32 ⟨(fns_cons circ_Check.ok (fns_cons strconv_Itoa.ok fns_nil)), (mfns_cons strings_Builder_WriteString.ok (mfns_cons circ_line.ok (mfns_cons strings_Builder_String.ok mfns_nil))), tab_eqs_ok⟩ (m := 3) (by kernel_rfl) ⟨⟨⟨trivial, circ_Print.p0⟩, circ_Print.p1⟩, circ_Print.p2⟩ (by kernel_rfl) circ_Print.eq
def Law_small  : Option ((Int) × ((Int) × (List ((Int) × ((Int) × ((List Int) × ((Int) × ((Int) × (List Int))))))))) :=
  some ((2 : Int), (1 : Int), [((3 : Int), (0 : Int), [], (0 : Int), (0 : Int), []), ((2 : Int), (0 : Int), [(0 : Int)], (1 : Int), (0 : Int), []), ((5 : Int), (0 : Int), [], (1 : Int), (0 : Int), [(-1 : Int)])])
def Law_small.ce : Go.Ql.Callee := ⟨[], [(.st (.pair (.int .i64) (.pair (.int .i64) (.sl (.st (.pair (.int .i64) (.pair (.int .i64) (.pair (.sl (.int .i64)) (.pair (.int .i64) (.pair (.int .i64) (.sl (.int .i64))))))))))))], fun x_ => Law_small⟩
def Law_small.G : Env := ⟨8, tab, [], [0], [], [], [], [], tab_eqs⟩
theorem Law_small.eq (x_ : dens []) : den Law_small.G Go.Proofs.Tryd.f39 [] [(.st (.pair (.int .i64) (.pair (.int .i64) (.sl (.st (.pair (.int .i64) (.pair (.int .i64) (.pair (.sl (.int .i64)) (.pair (.int .i64) (.pair (.int .i64) (.sl (.int .i64))))))))))))] x_ = Law_small := by kernel_rfl
theorem Law_small.ok : CalleeOk Go.Proofs.Tryd.prog 39 Law_small.ce := fn_ok (G := Law_small.G) tab_ok mixed Go.Proofs.Tryd.func39 ⟨fns_nil, mfns_nil, tab_eqs_ok⟩ (m := 0) (by kernel_rfl) trivial (by kernel_rfl) Law_small.eq
def Law_circBegun.c2 {ρ : Type} (t : List UInt8) (f0 : Int) (k_ : Bool → Option ρ) : Option ρ :=
  br (f0 == (0 : Int))
   (k_ (t == Array.toList (ByteArray.data (ByteArray.mk #[(113 : UInt8), (117 : UInt8), (98 : UInt8), (105 : UInt8), (116 : UInt8), (115 : UInt8), (32 : UInt8), (50 : UInt8), (32 : UInt8), (98 : UInt8), (105 : UInt8), (116 : UInt8), (115 : UInt8), (32 : UInt8), (49 : UInt8), (10 : UInt8), (104 : UInt8), (32 : UInt8), (48 : UInt8), (10 : UInt8), (120 : UInt8), (32 : UInt8), (49 : UInt8), (32 : UInt8), (111 : UInt8), (110 : UInt8), (32 : UInt8), (48 : UInt8), (10 : UInt8), (109 : UInt8), (101 : UInt8), (97 : UInt8), (115 : UInt8), (117 : UInt8), (114 : UInt8), (101 : UInt8), (32 : UInt8), (49 : UInt8), (32 : UInt8), (116 : UInt8), (111 : UInt8), (32 : UInt8), (48 : UInt8), (32 : UInt8), (105 : UInt8), (102 : UInt8), (32 : UInt8), (33 : UInt8), (48 : UInt8), (10 : UInt8)]))))
   (k_ false)
def Law_circBegun.c2s : Shape := ⟨[(0, q1), (1, q14), (2, q5)], [(2, q12)]⟩
def Law_circBegun.c2x0 : Shape := ⟨[(0, q1), (1, q14), (2, q5)], [(2, q12)]⟩
def Law_circBegun.c2r : Ck := Ck.of (T := Bool) Law_circBegun.c2s (fun ρ x_ k_ => uP x_ fun t0 x_ => uP x_ fun t x_ => uP x_ fun f0 x_ => uP x_ fun f1 x_ => Law_circBegun.c2 t f0 k_) (fun ρ x_ r_ k_ => uP x_ fun t0 x_ => uP x_ fun t x_ => uP x_ fun f0 x_ => uP x_ fun f1 x_ => k_ 0 (Shape.inj Law_circBegun.c2x0 (r_, t, f0, f1, ())))
def Law_circBegun  : Option (Bool) :=
  bnd W.Law_small fun y =>
  bnd (W.circ_Print y) fun y_1 =>
  bnd (W.Law_circBegun.c2 (Prod.fst y_1) (Prod.fst (Prod.snd y_1)) some) fun y_2 =>
  some y_2
def Law_circBegun.ce : Go.Ql.Callee := ⟨[], [.bool], fun x_ => Law_circBegun⟩
def Law_circBegun.G : Env := ⟨15, tab, [(39, Law_small.ce), (32, circ_Print.ce)], [0, 1, 2], [], [], [(2, Law_circBegun.c2r)], [], tab_eqs⟩
theorem Law_circBegun.eq (x_ : dens []) : den Law_circBegun.G Go.Proofs.Tryd.f13 [] [.bool] x_ = Law_circBegun := by kernel_rfl
theorem Law_circBegun.p0 : PieceOk Law_circBegun.G (pieceAt (pieces Law_circBegun.G.cks (bodyOf Go.Proofs.Tryd.f13)) 0).1 (pieceAt (pieces Law_circBegun.G.cks (bodyOf Go.Proofs.Tryd.f13)) 0).2 :=
  region_ok (s := Law_circBegun.c2r) (by kernel_rfl) (by kernel_rfl) (sums_of (sh := Law_circBegun.c2s) (fun ρ x_ k_ => (nat_br nat_leaf nat_leaf)) (fun ρ x_ t k => (by kernel_rfl)) (fun x_ => by kernel_rfl))
theorem Law_circBegun.ok : CalleeOk Go.Proofs.Tryd.prog 13 Law_circBegun.ce := fn_ok (G := Law_circBegun.G) tab_ok mixed Go.Proofs.Tryd.func13 ⟨(fns_cons Law_small.ok (fns_cons circ_Print.ok fns_nil)), mfns_nil, tab_eqs_ok⟩ (m := 1) (by kernel_rfl) ⟨trivial, Law_circBegun.p0⟩ (by kernel_rfl) Law_circBegun.eq
abbrev q31 : SD := .one (.own 0 0)
abbrev q32 : SO := .arr 0 false 3 (.int .i64)
def slices_Clone_int.pre : Shape := ⟨[(0, q8)], []⟩
def slices_Clone_int.post : Shape := ⟨[(0, q31)], [(0, q32)]⟩
def slices_Clone_int (s : List (Int)) : Option ((List Int) × Unit) :=
  br (List.isEmpty s)
   (both
     (some (uP ([], ()) fun u r ↦ (u, ())))
     (bnd (okIf (decide (((0 : Nat) + List.length s) * (8 : Nat) ≤ (140737488355328 : Nat)) && decide ((0 : Nat) + List.length s ≤ (140737488355328 : Nat)))) fun y =>
      some (uP (s, ()) fun u r ↦ (u, ()))))
   (bnd (okIf (decide (((0 : Nat) + List.length s) * (8 : Nat) ≤ (140737488355328 : Nat)) && decide ((0 : Nat) + List.length s ≤ (140737488355328 : Nat)))) fun y_1 =>
    some (uP (s, ()) fun u r ↦ (u, ())))
def slices_Clone_int.mc : MCallee := ⟨70, slices_Clone_int.pre, slices_Clone_int.post, fun x_ => slices_Clone_int x_.1⟩
def slices_Clone_int.G : Env := ⟨8, tab, [], [0, 2, 4], [2, 5], [], [], [], tab_eqs⟩
theorem slices_Clone_int.eq (x_ : densU slices_Clone_int.mc.pre.tys) : denM slices_Clone_int.G Go.Proofs.Tryd.f70 slices_Clone_int.mc.pre slices_Clone_int.mc.post x_ = slices_Clone_int.mc.F x_ := by kernel_rfl
theorem slices_Clone_int.ok : MOk Go.Proofs.Tryd.prog 70 slices_Clone_int.mc := fnm_ok (G := slices_Clone_int.G) tab_ok mixed Go.Proofs.Tryd.func70 ⟨fns_nil, mfns_nil, tab_eqs_ok⟩ (m := 0) (by kernel_rfl) trivial (by kernel_rfl) slices_Clone_int.eq
abbrev q42 : SD := .one (.ref 7 0)
abbrev q43 : SO := .box [.val (.int .i64), .val (.int .i64), .own 3005 0]
abbrev q44 : SO := .arr 0 false 57 (.st (.pair (.int .i64) (.pair (.int .i64) (.pair (.sl (.int .i64)) (.pair (.int .i64) (.pair (.int .i64) (.sl (.int .i64))))))))
abbrev q45 : SD := .one (.ref 6 0)
def circ_pure.c7 {ρ : Type} (o0 : Int) (o5 : List (Int)) (k_ : Bool → Option ρ) : Option ρ :=
  br (o0 == (5 : Int))
   (k_ true)
   (br (o0 == (6 : Int))
     (k_ true)
     (k_ (decide ((↑(List.length o5) : Int) > (0 : Int)))))
def circ_pure.c7s : Shape := ⟨[(0, q10), (1, q11), (2, q5), (3, q24), (4, q0), (5, q29), (13, q13), (14, q0), (15, q0)], [(1, q4), (2, q12), (3, q12), (5, q6)]⟩
def circ_pure.c7x0 : Shape := ⟨[(0, q10), (1, q11), (2, q5), (3, q24), (4, q0), (5, q29), (13, q13), (14, q0), (15, q0), (33, q1)], [(1, q4), (2, q12), (3, q12), (5, q6)]⟩
def circ_pure.c7r : Ck := Ck.of (T := Bool) circ_pure.c7s (fun ρ x_ k_ => uP x_ fun c x_ => uP x_ fun i x_ => uP x_ fun t13 x_ => uP x_ fun t14 x_ => uP x_ fun t15 x_ => uP x_ fun c0 x_ => uP x_ fun c1 x_ => uP x_ fun c2 x_ => uP x_ fun t20 x_ => uP x_ fun t21 x_ => uP x_ fun f0 x_ => uP x_ fun f1 x_ => uP x_ fun o0 x_ => uP x_ fun o1 x_ => uP x_ fun o2 x_ => uP x_ fun o3 x_ => uP x_ fun o4 x_ => uP x_ fun o5 x_ => circ_pure.c7 o0 o5 k_) (fun ρ x_ r_ k_ => uP x_ fun c x_ => uP x_ fun i x_ => uP x_ fun t13 x_ => uP x_ fun t14 x_ => uP x_ fun t15 x_ => uP x_ fun c0 x_ => uP x_ fun c1 x_ => uP x_ fun c2 x_ => uP x_ fun t20 x_ => uP x_ fun t21 x_ => uP x_ fun f0 x_ => uP x_ fun f1 x_ => uP x_ fun o0 x_ => uP x_ fun o1 x_ => uP x_ fun o2 x_ => uP x_ fun o3 x_ => uP x_ fun o4 x_ => uP x_ fun o5 x_ => k_ 0 (Shape.inj circ_pure.c7x0 (c, i, t13, t14, t15, r_, c0, c1, c2, t20, t21, f0, f1, o0, o1, o2, o3, o4, o5, ())))
def circ_pure.c100005 {ρ : Type} (t13 : List ((Int) × ((Int) × ((List Int) × ((Int) × ((Int) × (List Int))))))) (t14 : Int) (t15 : Int) (k_ : (Int) ⊕ (((Int) × (Int) × (Int)) ⊕ (Int)) → Option ρ) : Option ρ :=
  br (decide (t15 < t14))
   (bnd (idx t13 t15) fun y =>
    bnd (W.circ_pure.c7 (Prod.fst y) (Prod.snd (Prod.snd (Prod.snd (Prod.snd (Prod.snd y))))) some) fun y_1 =>
    br y_1
     (bnd (W.circ_fault (15 : Int) t15) fun y_2 =>
      k_ (.inr (.inl (t15, (Prod.fst y_2), (Prod.snd y_2)))))
     (k_ (.inl (IntKind.wrap IntKind.i64 (t15 + (1 : Int))))))
   (k_ (.inr (.inr t15)))
def circ_pure.c100005s : Shape := ⟨[(0, q10), (1, q11), (2, q5), (3, q24), (13, q13), (14, q0), (15, q0)], [(1, q4), (2, q12), (3, q12)]⟩
def circ_pure.c100005x0 : Shape := ⟨[(0, q10), (1, q11), (2, q5), (3, q24), (13, q13), (14, q0), (15, q0)], [(1, q4), (2, q12), (3, q12)]⟩
def circ_pure.c100005x1 : Shape := ⟨[(0, q10), (1, q11), (2, q5), (3, q24), (13, q13), (14, q0), (15, q0)], [(1, q4), (2, q12), (3, q12)]⟩
def circ_pure.c100005r : Ck := Ck.ofLoop (S := Int) (T := ((Int) × (Int) × (Int)) ⊕ (Int)) circ_pure.c100005s (fun x_ => uP x_ fun c x_ => uP x_ fun t13 x_ => uP x_ fun t14 x_ => uP x_ fun t15 x_ => uP x_ fun c0 x_ => uP x_ fun c1 x_ => uP x_ fun c2 x_ => uP x_ fun t20 x_ => uP x_ fun t21 x_ => uP x_ fun f0 x_ => uP x_ fun f1 x_ => t15) (fun ρ x_ s_ k_ => uP x_ fun c x_ => uP x_ fun t13 x_ => uP x_ fun t14 x_ => uP x_ fun t15 x_ => uP x_ fun c0 x_ => uP x_ fun c1 x_ => uP x_ fun c2 x_ => uP x_ fun t20 x_ => uP x_ fun t21 x_ => uP x_ fun f0 x_ => uP x_ fun f1 x_ => circ_pure.c100005 t13 t14 s_ k_) (fun ρ x_ r_ k_ => uP x_ fun c x_ => uP x_ fun t13 x_ => uP x_ fun t14 x_ => uP x_ fun t15 x_ => uP x_ fun c0 x_ => uP x_ fun c1 x_ => uP x_ fun c2 x_ => uP x_ fun t20 x_ => uP x_ fun t21 x_ => uP x_ fun f0 x_ => uP x_ fun f1 x_ => sel r_ (fun r_ => k_ 1 (Shape.inj circ_pure.c100005x0 (c, t13, t14, r_.1, c0, c1, c2, r_.2.1, r_.2.2, f0, f1, ()))) (fun r_ => k_ 2 (Shape.inj circ_pure.c100005x1 (c, t13, t14, r_, c0, c1, c2, t20, t21, f0, f1, ()))))
def circ_pure (c : (Int) × ((Int) × (List ((Int) × ((Int) × ((List Int) × ((Int) × ((Int) × (List Int))))))))) : Option ((Int) × (Int)) :=
  bnd (W.circ_Check (Prod.fst c, Prod.fst (Prod.snd c), Prod.snd (Prod.snd c))) fun y =>
  br (Prod.fst y != (0 : Int))
   (some (Prod.fst y, Prod.snd y))
   (bnd (iter (fun s ↦ W.circ_pure.c100005 (Prod.snd (Prod.snd c)) (↑(List.length (Prod.snd (Prod.snd c))) : Int) s some) (0 : Int)) fun y_1 =>
    sel y_1
     (fun u => some (Prod.fst (Prod.snd u), Prod.snd (Prod.snd u)))
     (fun v => some ((0 : Int), (0 : Int))))
def circ_pure.ce : Go.Ql.Callee := ⟨[(.st (.pair (.int .i64) (.pair (.int .i64) (.sl (.st (.pair (.int .i64) (.pair (.int .i64) (.pair (.sl (.int .i64)) (.pair (.int .i64) (.pair (.int .i64) (.sl (.int .i64))))))))))))], [(.st (.pair (.int .i64) (.int .i64)))], fun x_ => circ_pure x_⟩
def circ_pure.G : Env := ⟨38, tab, [(14, circ_Check.ce), (40, circ_fault.ce)], [0, 1, 2, 3, 4, 5, 10, 13, 14, 15, 16, 33], [], [], [(100005, circ_pure.c100005r), (7, circ_pure.c7r)], [], tab_eqs⟩
theorem circ_pure.eq (x_ : dens [(.st (.pair (.int .i64) (.pair (.int .i64) (.sl (.st (.pair (.int .i64) (.pair (.int .i64) (.pair (.sl (.int .i64)) (.pair (.int .i64) (.pair (.int .i64) (.sl (.int .i64))))))))))))]) : den circ_pure.G Go.Proofs.Tryd.f44 [(.st (.pair (.int .i64) (.pair (.int .i64) (.sl (.st (.pair (.int .i64) (.pair (.int .i64) (.pair (.sl (.int .i64)) (.pair (.int .i64) (.pair (.int .i64) (.sl (.int .i64))))))))))))] [(.st (.pair (.int .i64) (.int .i64)))] x_ = circ_pure x_ := by kernel_rfl
theorem circ_pure.p0 : PieceOk circ_pure.G (pieceAt (pieces circ_pure.G.cks (bodyOf Go.Proofs.Tryd.f44)) 0).1 (pieceAt (pieces circ_pure.G.cks (bodyOf Go.Proofs.Tryd.f44)) 0).2 :=
  loop_ok (s := circ_pure.c100005r) (by kernel_rfl) (by kernel_rfl) (loops_of (sh := circ_pure.c100005s) (I := fun x_ s_ => (x_.1, x_.2.1, x_.2.2.1, s_, x_.2.2.2.2.1, x_.2.2.2.2.2.1, x_.2.2.2.2.2.2.1, x_.2.2.2.2.2.2.2.1, x_.2.2.2.2.2.2.2.2.1, x_.2.2.2.2.2.2.2.2.2.1, x_.2.2.2.2.2.2.2.2.2.2.1, ())) (fun x_ => rfl) (fun ρ x_ s_ k_ => (nat_br (nat_bnd fun _ => (nat_bnd fun _ => (nat_br (nat_bnd fun _ => nat_leaf) nat_leaf))) nat_leaf)) (fun ρ x_ t k => (nat_sel (fun _ => (by kernel_rfl)) (fun _ => (by kernel_rfl)))) (fun x_ s => by kernel_rfl))
theorem circ_pure.p1 : PieceOk circ_pure.G (pieceAt (pieces circ_pure.G.cks (bodyOf Go.Proofs.Tryd.f44)) 1).1 (pieceAt (pieces circ_pure.G.cks (bodyOf Go.Proofs.Tryd.f44)) 1).2 :=
  region_ok (s := circ_pure.c7r) (by kernel_rfl) (by kernel_rfl) (sums_of (sh := circ_pure.c7s) (fun ρ x_ k_ => (nat_br nat_leaf (nat_br nat_leaf nat_leaf))) (fun ρ x_ t k => (by kernel_rfl)) (fun x_ => by kernel_rfl))
theorem circ_pure.ok : CalleeOk Go.Proofs.Tryd.prog 44 circ_pure.ce := fn_ok (G := circ_pure.G) tab_ok mixed Go.Proofs.Tryd.func44 ⟨(fns_cons circ_Check.ok (fns_cons circ_fault.ok fns_nil)), mfns_nil, tab_eqs_ok⟩ (m := 2) (by kernel_rfl) ⟨⟨trivial, circ_pure.p0⟩, circ_pure.p1⟩ (by kernel_rfl) circ_pure.eq
def circ_copied.c1 {ρ : Type} (o2 : List (Int)) (o5 : List (Int)) (k_ : (List Int) × (List Int) → Option ρ) : Option ρ :=
  bnd (W.slices_Clone_int (Prod.fst (uP (uP (o2, ()) fun u r ↦ (u, ())) fun u r ↦ (u, ())))) fun y =>
  bnd (W.slices_Clone_int (Prod.fst (uP (uP (o5, ()) fun u r ↦ (u, ())) fun u r ↦ (u, ())))) fun y_1 =>
  k_ ((Prod.fst y), (Prod.fst y_1))
def circ_copied.c1s : Shape := ⟨[(0, q2), (1, q11), (2, q5)], [(1, q6), (2, q6)]⟩
def circ_copied.c1x0 : Shape := ⟨[(0, q2), (1, q11), (2, q5)], [(1, q6), (2, q6)]⟩
def circ_copied.c1r : Ck := Ck.of (T := (List Int) × (List Int)) circ_copied.c1s (fun ρ x_ k_ => uP x_ fun o x_ => uP x_ fun o0 x_ => uP x_ fun o1 x_ => uP x_ fun o2 x_ => uP x_ fun o3 x_ => uP x_ fun o4 x_ => uP x_ fun o5 x_ => uP x_ fun t20 x_ => uP x_ fun t21 x_ => uP x_ fun t22 x_ => uP x_ fun t23 x_ => uP x_ fun t24 x_ => uP x_ fun t25 x_ => circ_copied.c1 o2 o5 k_) (fun ρ x_ r_ k_ => uP x_ fun o x_ => uP x_ fun o0 x_ => uP x_ fun o1 x_ => uP x_ fun o2 x_ => uP x_ fun o3 x_ => uP x_ fun o4 x_ => uP x_ fun o5 x_ => uP x_ fun t20 x_ => uP x_ fun t21 x_ => uP x_ fun t22 x_ => uP x_ fun t23 x_ => uP x_ fun t24 x_ => uP x_ fun t25 x_ => k_ 0 (Shape.inj circ_copied.c1x0 (o, o0, o1, r_.1, o3, o4, r_.2, t20, t21, t22, t23, t24, t25, ())))
def circ_copied (o : (Int) × ((Int) × ((List Int) × ((Int) × ((Int) × (List Int)))))) : Option ((Int) × ((Int) × ((List Int) × ((Int) × ((Int) × (List Int)))))) :=
  bnd (W.circ_copied.c1 (Prod.fst (Prod.snd (Prod.snd o))) (Prod.snd (Prod.snd (Prod.snd (Prod.snd (Prod.snd o))))) some) fun y =>
  some (Prod.fst o, Prod.fst (Prod.snd o), Prod.fst y, Prod.fst (Prod.snd (Prod.snd (Prod.snd o))), Prod.fst (Prod.snd (Prod.snd (Prod.snd (Prod.snd o)))), Prod.snd y)
def circ_copied.ce : Go.Ql.Callee := ⟨[(.st (.pair (.int .i64) (.pair (.int .i64) (.pair (.sl (.int .i64)) (.pair (.int .i64) (.pair (.int .i64) (.sl (.int .i64))))))))], [(.st (.pair (.int .i64) (.pair (.int .i64) (.pair (.sl (.int .i64)) (.pair (.int .i64) (.pair (.int .i64) (.sl (.int .i64))))))))], fun x_ => circ_copied x_⟩
def circ_copied.G : Env := ⟨12, tab, [], [0, 1, 2], [], [(1, [⟨[], [], [6, 7], []⟩, ⟨[0], [], [6, 7], []⟩, ⟨[1, 0], [5], [6, 7], []⟩, ⟨[], [], [3, 4, 5], [5]⟩, ⟨[3], [], [3, 4, 5], [5]⟩, ⟨[4, 3, 2, 1, 0], [8], [9], []⟩, ⟨[0, 1, 2, 3, 4], [], [8], [8]⟩, ⟨[6, 0, 1, 2, 3, 4, 5], [1], [], []⟩, ⟨[0, 1, 2, 3, 4, 5, 6, 7], [], [], []⟩, ⟨[8, 0, 1, 2, 3, 4, 5, 6, 7], [1], [], []⟩])], [(1, circ_copied.c1r)], [(70, slices_Clone_int.mc)], tab_eqs⟩
theorem circ_copied.eq (x_ : dens [(.st (.pair (.int .i64) (.pair (.int .i64) (.pair (.sl (.int .i64)) (.pair (.int .i64) (.pair (.int .i64) (.sl (.int .i64))))))))]) : den circ_copied.G Go.Proofs.Tryd.f45 [(.st (.pair (.int .i64) (.pair (.int .i64) (.pair (.sl (.int .i64)) (.pair (.int .i64) (.pair (.int .i64) (.sl (.int .i64))))))))] [(.st (.pair (.int .i64) (.pair (.int .i64) (.pair (.sl (.int .i64)) (.pair (.int .i64) (.pair (.int .i64) (.sl (.int .i64))))))))] x_ = circ_copied x_ := by kernel_rfl
theorem circ_copied.p0 : PieceOk circ_copied.G (pieceAt (pieces circ_copied.G.cks (bodyOf Go.Proofs.Tryd.f45)) 0).1 (pieceAt (pieces circ_copied.G.cks (bodyOf Go.Proofs.Tryd.f45)) 0).2 :=
  region_ok (s := circ_copied.c1r) (by kernel_rfl) (by kernel_rfl) (sums_of (sh := circ_copied.c1s) (fun ρ x_ k_ => (nat_bnd fun _ => (nat_bnd fun _ => nat_leaf))) (fun ρ x_ t k => (by kernel_rfl)) (fun x_ => by kernel_rfl))
theorem circ_copied.ok : CalleeOk Go.Proofs.Tryd.prog 45 circ_copied.ce := fn_ok (G := circ_copied.G) tab_ok mixed Go.Proofs.Tryd.func45 ⟨fns_nil, (mfns_cons slices_Clone_int.ok mfns_nil), tab_eqs_ok⟩ (m := 1) (by kernel_rfl) ⟨trivial, circ_copied.p0⟩ (by kernel_rfl) circ_copied.eq
def circ_Inverse_1 (o : (Int) × ((Int) × ((List Int) × ((Int) × ((Int) × (List Int)))))) : Option ((Int) × ((Int) × ((List Int) × ((Int) × ((Int) × (List Int)))))) :=
  some (Prod.fst o, Int.tmod (IntKind.wrap IntKind.i64 ((16 : Int) - Prod.fst (Prod.snd o))) (16 : Int), Prod.fst (Prod.snd (Prod.snd o)), Prod.fst (Prod.snd (Prod.snd (Prod.snd o))), Prod.fst (Prod.snd (Prod.snd (Prod.snd (Prod.snd o)))), Prod.snd (Prod.snd (Prod.snd (Prod.snd (Prod.snd o)))))
def circ_Inverse_1.ce : Go.Ql.Callee := ⟨[(.st (.pair (.int .i64) (.pair (.int .i64) (.pair (.sl (.int .i64)) (.pair (.int .i64) (.pair (.int .i64) (.sl (.int .i64))))))))], [(.st (.pair (.int .i64) (.pair (.int .i64) (.pair (.sl (.int .i64)) (.pair (.int .i64) (.pair (.int .i64) (.sl (.int .i64))))))))], fun x_ => circ_Inverse_1 x_⟩
def circ_Inverse_1.G : Env := ⟨9, tab, [], [0, 1, 2], [], [], [], [], tab_eqs⟩
theorem circ_Inverse_1.eq (x_ : dens [(.st (.pair (.int .i64) (.pair (.int .i64) (.pair (.sl (.int .i64)) (.pair (.int .i64) (.pair (.int .i64) (.sl (.int .i64))))))))]) : den circ_Inverse_1.G Go.Proofs.Tryd.f48 [(.st (.pair (.int .i64) (.pair (.int .i64) (.pair (.sl (.int .i64)) (.pair (.int .i64) (.pair (.int .i64) (.sl (.int .i64))))))))] [(.st (.pair (.int .i64) (.pair (.int .i64) (.pair (.sl (.int .i64)) (.pair (.int .i64) (.pair (.int .i64) (.sl (.int .i64))))))))] x_ = circ_Inverse_1 x_ := by kernel_rfl
theorem circ_Inverse_1.ok : CalleeOk Go.Proofs.Tryd.prog 48 circ_Inverse_1.ce := fn_ok (G := circ_Inverse_1.G) tab_ok mixed Go.Proofs.Tryd.func48 ⟨fns_nil, mfns_nil, tab_eqs_ok⟩ (m := 0) (by kernel_rfl) trivial (by kernel_rfl) circ_Inverse_1.eq
abbrev q47 : SD := .one (.fn 48)
abbrev q48 : SD := .agg [.val (.int .i64), .val (.int .i64), .own 2 0]
abbrev q49 : SO := .box [.val (.int .i64), .val (.int .i64), .own 3004 0]
def circ_each__inv.pre : Shape := ⟨[(0, q10), (1, q47)], []⟩
def circ_each__inv.post : Shape := ⟨[(0, q48)], [(2, q44)]⟩
def circ_each__inv.c5 {ρ : Type} (o0 : Int) (o1 : Int) (o2 : List (Int)) (o3 : Int) (o4 : Int) (o5 : List (Int)) (t3005 : List ((Int) × ((Int) × ((List Int) × ((Int) × ((Int) × (List Int))))))) (k_ : List ((Int) × ((Int) × ((List Int) × ((Int) × ((Int) × (List Int)))))) → Option ρ) : Option ρ :=
  bnd (W.circ_copied (o0, o1, o2, o3, o4, o5)) fun y =>
  bnd (W.circ_Inverse_1 y) fun y_1 =>
  bnd (okIf (decide ((List.length t3005 + List.length [y_1]) * (80 : Nat) ≤ (140737488355328 : Nat)) && decide (List.length t3005 + List.length [y_1] ≤ (140737488355328 : Nat)))) fun y_2 =>
  k_ (t3005 ++ [y_1])
def circ_each__inv.c5s : Shape := ⟨[(0, q10), (1, q47), (2, q5), (4, q28), (5, q29), (7, q42), (14, q13), (15, q0), (16, q0)], [(2, q4), (4, q49), (5, q43), (7, q6), (3004, q44), (3005, q44)]⟩
def circ_each__inv.c5x0 : Shape := ⟨[(0, q10), (1, q47), (2, q5), (4, q28), (5, q29), (7, q42), (14, q13), (15, q0), (16, q0)], [(2, q4), (4, q49), (5, q43), (7, q6), (3004, q44), (3005, q44)]⟩
def circ_each__inv.c5r : Ck := Ck.of (T := List ((Int) × ((Int) × ((List Int) × ((Int) × ((Int) × (List Int))))))) circ_each__inv.c5s (fun ρ x_ k_ => uP x_ fun c x_ => uP x_ fun t14 x_ => uP x_ fun t15 x_ => uP x_ fun t16 x_ => uP x_ fun c0 x_ => uP x_ fun c1 x_ => uP x_ fun c2 x_ => uP x_ fun t40 x_ => uP x_ fun t41 x_ => uP x_ fun out0 x_ => uP x_ fun out1 x_ => uP x_ fun o0 x_ => uP x_ fun o1 x_ => uP x_ fun o2 x_ => uP x_ fun o3 x_ => uP x_ fun o4 x_ => uP x_ fun o5 x_ => uP x_ fun t3004 x_ => uP x_ fun t3005 x_ => circ_each__inv.c5 o0 o1 o2 o3 o4 o5 t3005 k_) (fun ρ x_ r_ k_ => uP x_ fun c x_ => uP x_ fun t14 x_ => uP x_ fun t15 x_ => uP x_ fun t16 x_ => uP x_ fun c0 x_ => uP x_ fun c1 x_ => uP x_ fun c2 x_ => uP x_ fun t40 x_ => uP x_ fun t41 x_ => uP x_ fun out0 x_ => uP x_ fun out1 x_ => uP x_ fun o0 x_ => uP x_ fun o1 x_ => uP x_ fun o2 x_ => uP x_ fun o3 x_ => uP x_ fun o4 x_ => uP x_ fun o5 x_ => uP x_ fun t3004 x_ => uP x_ fun t3005 x_ => k_ 0 (Shape.inj circ_each__inv.c5x0 (c, t14, t15, t16, c0, c1, c2, t40, t41, out0, out1, o0, o1, o2, o3, o4, o5, t3004, r_, ())))
def circ_each__inv.c100003 {ρ : Type} (t14 : List ((Int) × ((Int) × ((List Int) × ((Int) × ((Int) × (List Int))))))) (t15 : Int) (t16 : Int) (t3005 : List ((Int) × ((Int) × ((List Int) × ((Int) × ((Int) × (List Int))))))) (k_ : ((Int) × (List ((Int) × ((Int) × ((List Int) × ((Int) × ((Int) × (List Int)))))))) ⊕ ((Int) × (List ((Int) × ((Int) × ((List Int) × ((Int) × ((Int) × (List Int)))))))) → Option ρ) : Option ρ :=
  br (decide (t16 < t15))
   (bnd (idx t14 t16) fun y =>
    bnd (W.circ_each__inv.c5 (Prod.fst y) (Prod.fst (Prod.snd y)) (Prod.fst (Prod.snd (Prod.snd y))) (Prod.fst (Prod.snd (Prod.snd (Prod.snd y)))) (Prod.fst (Prod.snd (Prod.snd (Prod.snd (Prod.snd y))))) (Prod.snd (Prod.snd (Prod.snd (Prod.snd (Prod.snd y))))) t3005 some) fun y_1 =>
    k_ (.inl ((IntKind.wrap IntKind.i64 (t16 + (1 : Int))), y_1)))
   (k_ (.inr (t16, t3005)))
def circ_each__inv.c100003s : Shape := ⟨[(0, q10), (1, q47), (2, q5), (4, q28), (5, q29), (14, q13), (15, q0), (16, q0)], [(2, q4), (4, q49), (5, q43), (3004, q44), (3005, q44)]⟩
def circ_each__inv.c100003x0 : Shape := ⟨[(0, q10), (1, q47), (2, q5), (4, q28), (5, q29), (14, q13), (15, q0), (16, q0)], [(2, q4), (4, q49), (5, q43), (3004, q44), (3005, q44)]⟩
def circ_each__inv.c100003r : Ck := Ck.ofLoop (S := (Int) × (List ((Int) × ((Int) × ((List Int) × ((Int) × ((Int) × (List Int)))))))) (T := (Int) × (List ((Int) × ((Int) × ((List Int) × ((Int) × ((Int) × (List Int)))))))) circ_each__inv.c100003s (fun x_ => uP x_ fun c x_ => uP x_ fun t14 x_ => uP x_ fun t15 x_ => uP x_ fun t16 x_ => uP x_ fun c0 x_ => uP x_ fun c1 x_ => uP x_ fun c2 x_ => uP x_ fun t40 x_ => uP x_ fun t41 x_ => uP x_ fun out0 x_ => uP x_ fun out1 x_ => uP x_ fun t3004 x_ => uP x_ fun t3005 x_ => (t16, t3005)) (fun ρ x_ s_ k_ => uP x_ fun c x_ => uP x_ fun t14 x_ => uP x_ fun t15 x_ => uP x_ fun t16 x_ => uP x_ fun c0 x_ => uP x_ fun c1 x_ => uP x_ fun c2 x_ => uP x_ fun t40 x_ => uP x_ fun t41 x_ => uP x_ fun out0 x_ => uP x_ fun out1 x_ => uP x_ fun t3004 x_ => uP x_ fun t3005 x_ => circ_each__inv.c100003 t14 t15 s_.1 s_.2 k_) (fun ρ x_ r_ k_ => uP x_ fun c x_ => uP x_ fun t14 x_ => uP x_ fun t15 x_ => uP x_ fun t16 x_ => uP x_ fun c0 x_ => uP x_ fun c1 x_ => uP x_ fun c2 x_ => uP x_ fun t40 x_ => uP x_ fun t41 x_ => uP x_ fun out0 x_ => uP x_ fun out1 x_ => uP x_ fun t3004 x_ => uP x_ fun t3005 x_ => k_ 2 (Shape.inj circ_each__inv.c100003x0 (c, t14, t15, r_.1, c0, c1, c2, t40, t41, out0, out1, t3004, r_.2, ())))
def circ_each__inv (c : (Int) × ((Int) × (List ((Int) × ((Int) × ((List Int) × ((Int) × ((Int) × (List Int))))))))) : Option ((Int) × (Int) × (List ((Int) × ((Int) × ((List Int) × ((Int) × ((Int) × (List Int))))))) × Unit) :=
  bnd (iter (fun s ↦ W.circ_each__inv.c100003 (Prod.snd (Prod.snd c)) (↑(List.length (Prod.snd (Prod.snd c))) : Int) (Prod.fst s) (Prod.snd s) some) ((0 : Int), [])) fun y =>
  some (uP (uP (uP (Prod.fst c, ()) fun u r ↦ (u, uP (Prod.fst (Prod.snd c), ()) fun u r ↦ (u, ()))) fun u r ↦ (u, uP r fun u r ↦ (u, ()))) fun u r ↦ (u, uP r fun u r ↦ (u, uP (Prod.snd y, ()) fun u r ↦ (u, ()))))
def circ_each__inv.mc : MCallee := ⟨46, circ_each__inv.pre, circ_each__inv.post, fun x_ => circ_each__inv x_.1⟩
def circ_each__inv.G : Env := ⟨31, tab, [(45, circ_copied.ce), (48, circ_Inverse_1.ce)], [0, 1, 2, 4, 5, 7, 14, 15, 16, 17], [2, 4, 5, 12, 3002, 3004, 3005], [(5, [⟨[], [], [22, 23, 24, 25, 26], [26]⟩, ⟨[0], [], [22, 23, 24, 25, 26], [26]⟩, ⟨[], [], [20, 21, 23, 24], []⟩, ⟨[], [], [20, 21, 22], []⟩, ⟨[3], [], [20, 21, 22], []⟩, ⟨[2, 4, 3], [], [20, 21], []⟩, ⟨[5, 2, 4, 3], [26], [20, 21], []⟩, ⟨[1, 0, 6, 5, 2, 4, 3], [3005], [], []⟩, ⟨[0, 1, 2, 3, 4, 5, 6, 7], [], [], []⟩, ⟨[8, 0, 1, 2, 3, 4, 5, 6, 7], [5], [], []⟩])], [(100003, circ_each__inv.c100003r), (5, circ_each__inv.c5r)], [], tab_eqs⟩
theorem circ_each__inv.eq (x_ : densU circ_each__inv.mc.pre.tys) : denM circ_each__inv.G Go.Proofs.Tryd.f46 circ_each__inv.mc.pre circ_each__inv.mc.post x_ = circ_each__inv.mc.F x_ := by kernel_rfl
theorem circ_each__inv.p0 : PieceOk circ_each__inv.G (pieceAt (pieces circ_each__inv.G.cks (bodyOf Go.Proofs.Tryd.f46)) 0).1 (pieceAt (pieces circ_each__inv.G.cks (bodyOf Go.Proofs.Tryd.f46)) 0).2 :=
  loop_ok (s := circ_each__inv.c100003r) (by kernel_rfl) (by kernel_rfl) (loops_of (sh := circ_each__inv.c100003s) (I := fun x_ s_ => (x_.1, x_.2.1, x_.2.2.1, s_.1, x_.2.2.2.2.1, x_.2.2.2.2.2.1, x_.2.2.2.2.2.2.1, x_.2.2.2.2.2.2.2.1, x_.2.2.2.2.2.2.2.2.1, x_.2.2.2.2.2.2.2.2.2.1, x_.2.2.2.2.2.2.2.2.2.2.1, x_.2.2.2.2.2.2.2.2.2.2.2.1, s_.2, ())) (fun x_ => rfl) (fun ρ x_ s_ k_ => (nat_br (nat_bnd fun _ => (nat_bnd fun _ => nat_leaf)) nat_leaf)) (fun ρ x_ t k => (by kernel_rfl)) (fun x_ s => by kernel_rfl))
theorem circ_each__inv.p1 : PieceOk circ_each__inv.G (pieceAt (pieces circ_each__inv.G.cks (bodyOf Go.Proofs.Tryd.f46)) 1).1 (pieceAt (pieces circ_each__inv.G.cks (bodyOf Go.Proofs.Tryd.f46)) 1).2 :=
  region_ok (s := circ_each__inv.c5r) (by kernel_rfl) (by kernel_rfl) (sums_of (sh := circ_each__inv.c5s) (fun ρ x_ k_ => (nat_bnd fun _ => (nat_bnd fun _ => (nat_bnd fun _ => nat_leaf)))) (fun ρ x_ t k => (by kernel_rfl)) (fun x_ => by kernel_rfl))
theorem circ_each__inv.ok : MOk Go.Proofs.Tryd.prog 46 circ_each__inv.mc := fnm_ok (G := circ_each__inv.G) tab_ok mixed Go.Proofs.Tryd.func46 ⟨(fns_cons circ_copied.ok (fns_cons circ_Inverse_1.ok fns_nil)), mfns_nil, tab_eqs_ok⟩ (m := 2) (by kernel_rfl) ⟨⟨trivial, circ_each__inv.p0⟩, circ_each__inv.p1⟩ (by kernel_rfl) circ_each__inv.eq
abbrev q50 : SD := .one (.own 2000000 0)
def slices_Reverse_api_Op.pre : Shape := ⟨[(0, q50)], [(2000000, q44)]⟩
def slices_Reverse_api_Op.post : Shape := ⟨[], [(2000000, q44)]⟩
def slices_Reverse_api_Op.c3 {ρ : Type} (i : Int) (j : Int) (t2000000 : List ((Int) × ((Int) × ((List Int) × ((Int) × ((Int) × (List Int))))))) (k_ : List ((Int) × ((Int) × ((List Int) × ((Int) × ((Int) × (List Int)))))) → Option ρ) : Option ρ :=
  bnd (inR (List.length t2000000) j) fun y =>
  bnd (idx t2000000 j) fun y_1 =>
  bnd (inR (List.length t2000000) i) fun y_2 =>
  bnd (idx t2000000 i) fun y_3 =>
  bnd (inR (List.length t2000000) i) fun y_4 =>
  bnd (idx t2000000 i) fun y_5 =>
  bnd (inR (List.length (List.set t2000000 (Int.toNat i) y_1)) j) fun y_6 =>
  bnd (idx (List.set t2000000 (Int.toNat i) y_1) j) fun y_7 =>
  k_ (List.set (List.set t2000000 (Int.toNat i) y_1) (Int.toNat j) y_3)
def slices_Reverse_api_Op.c3s : Shape := ⟨[(0, q50), (2, q0), (3, q0)], [(2000000, q44)]⟩
def slices_Reverse_api_Op.c3x0 : Shape := ⟨[(0, q50), (2, q0), (3, q0)], [(2000000, q44)]⟩
def slices_Reverse_api_Op.c3r : Ck := Ck.of (T := List ((Int) × ((Int) × ((List Int) × ((Int) × ((Int) × (List Int))))))) slices_Reverse_api_Op.c3s (fun ρ x_ k_ => uP x_ fun i x_ => uP x_ fun j x_ => uP x_ fun t2000000 x_ => slices_Reverse_api_Op.c3 i j t2000000 k_) (fun ρ x_ r_ k_ => uP x_ fun i x_ => uP x_ fun j x_ => uP x_ fun t2000000 x_ => k_ 0 (Shape.inj slices_Reverse_api_Op.c3x0 (i, j, r_, ())))
def slices_Reverse_api_Op.c100001 {ρ : Type} (i : Int) (j : Int) (t2000000 : List ((Int) × ((Int) × ((List Int) × ((Int) × ((Int) × (List Int))))))) (k_ : ((Int) × (Int) × (List ((Int) × ((Int) × ((List Int) × ((Int) × ((Int) × (List Int)))))))) ⊕ ((Int) × (Int) × (List ((Int) × ((Int) × ((List Int) × ((Int) × ((Int) × (List Int)))))))) → Option ρ) : Option ρ :=
  br (decide (i < j))
   (bnd (W.slices_Reverse_api_Op.c3 i j t2000000 some) fun y =>
    k_ (.inl ((IntKind.wrap IntKind.i64 (i + (1 : Int))), (IntKind.wrap IntKind.i64 (j - (1 : Int))), y)))
   (k_ (.inr (i, j, t2000000)))
def slices_Reverse_api_Op.c100001s : Shape := ⟨[(0, q50), (2, q0), (3, q0)], [(2000000, q44)]⟩
def slices_Reverse_api_Op.c100001x0 : Shape := ⟨[(0, q50), (2, q0), (3, q0)], [(2000000, q44)]⟩
def slices_Reverse_api_Op.c100001r : Ck := Ck.ofLoop (S := (Int) × (Int) × (List ((Int) × ((Int) × ((List Int) × ((Int) × ((Int) × (List Int)))))))) (T := (Int) × (Int) × (List ((Int) × ((Int) × ((List Int) × ((Int) × ((Int) × (List Int)))))))) slices_Reverse_api_Op.c100001s (fun x_ => uP x_ fun i x_ => uP x_ fun j x_ => uP x_ fun t2000000 x_ => (i, j, t2000000)) (fun ρ x_ s_ k_ => uP x_ fun i x_ => uP x_ fun j x_ => uP x_ fun t2000000 x_ => slices_Reverse_api_Op.c100001 s_.1 s_.2.1 s_.2.2 k_) (fun ρ x_ r_ k_ => uP x_ fun i x_ => uP x_ fun j x_ => uP x_ fun t2000000 x_ => k_ 2 (Shape.inj slices_Reverse_api_Op.c100001x0 (r_.1, r_.2.1, r_.2.2, ())))
def slices_Reverse_api_Op (t2000000 : List ((Int) × ((Int) × ((List Int) × ((Int) × ((Int) × (List Int))))))) : Option ((List ((Int) × ((Int) × ((List Int) × ((Int) × ((Int) × (List Int))))))) × Unit) :=
  bnd (iter (fun s ↦ W.slices_Reverse_api_Op.c100001 (Prod.fst s) (Prod.fst (Prod.snd s)) (Prod.snd (Prod.snd s)) some) ((0 : Int), IntKind.wrap IntKind.i64 ((↑(List.length t2000000) : Int) - (1 : Int)), t2000000)) fun y =>
  some (uP (Prod.snd (Prod.snd y), ()) fun u r ↦ (u, ()))
def slices_Reverse_api_Op.mc : MCallee := ⟨49, slices_Reverse_api_Op.pre, slices_Reverse_api_Op.post, fun x_ => slices_Reverse_api_Op x_.1⟩
def slices_Reverse_api_Op.G : Env := ⟨28, tab, [], [0, 2, 3, 9], [2000000], [(3, [⟨[], [], [15, 16, 17, 18, 19, 20, 21, 22, 23, 24, 25], []⟩, ⟨[], [], [14, 16, 17, 18, 19, 20, 21, 22, 23, 24, 25], []⟩, ⟨[], [], [14, 15, 17, 18, 19, 20, 21, 22, 23, 24, 25, 26], [2000000]⟩, ⟨[], [], [14, 15, 16, 18, 19, 20, 21, 22, 23, 24, 25, 26], [2000000]⟩, ⟨[], [], [14, 15, 16, 17, 19, 22, 23, 24, 25], []⟩, ⟨[], [], [14, 15, 16, 17, 18, 22, 23, 24, 25], []⟩, ⟨[4, 5], [], [14, 15, 16, 17, 22, 23, 24, 25], []⟩, ⟨[6, 4, 5], [], [14, 15, 16, 17, 22, 23, 24, 25], []⟩, ⟨[], [], [14, 15, 16, 17, 18, 19, 20, 21, 23], []⟩, ⟨[], [], [14, 15, 16, 17, 18, 19, 20, 21, 22], []⟩, ⟨[8, 9], [], [14, 15, 16, 17, 18, 19, 20, 21], []⟩, ⟨[10, 8, 9], [], [14, 15, 16, 17, 18, 19, 20, 21], []⟩, ⟨[0, 1, 4, 5, 6, 7, 11, 10, 8, 9], [], [16, 17], []⟩, ⟨[12, 0, 1, 4, 5, 6, 7, 11, 10, 8, 9], [2000000], [16, 17], []⟩, ⟨[2, 3, 0, 1, 4, 5, 6, 7, 8, 9, 10, 11, 12, 13], [], [], []⟩, ⟨[14, 2, 3, 0, 1, 4, 5, 6, 7, 8, 9, 10, 11, 12, 13], [2000000], [], []⟩])], [(100001, slices_Reverse_api_Op.c100001r), (3, slices_Reverse_api_Op.c3r)], [], tab_eqs⟩
theorem slices_Reverse_api_Op.eq (x_ : densU slices_Reverse_api_Op.mc.pre.tys) : denM slices_Reverse_api_Op.G Go.Proofs.Tryd.f49 slices_Reverse_api_Op.mc.pre slices_Reverse_api_Op.mc.post x_ = slices_Reverse_api_Op.mc.F x_ := by kernel_rfl
theorem slices_Reverse_api_Op.p0 : PieceOk slices_Reverse_api_Op.G (pieceAt (pieces slices_Reverse_api_Op.G.cks (bodyOf Go.Proofs.Tryd.f49)) 0).1 (pieceAt (pieces slices_Reverse_api_Op.G.cks (bodyOf Go.Proofs.Tryd.f49)) 0).2 :=
  loop_ok (s := slices_Reverse_api_Op.c100001r) (by kernel_rfl) (by kernel_rfl) (loops_of (sh := slices_Reverse_api_Op.c100001s) (I := fun x_ s_ => (s_.1, s_.2.1, s_.2.2, ())) (fun x_ => rfl) (fun ρ x_ s_ k_ => (nat_br (nat_bnd fun _ => nat_leaf) nat_leaf)) (fun ρ x_ t k => (by kernel_rfl)) (fun x_ s => by kernel_rfl))
theorem slices_Reverse_api_Op.p1 : PieceOk slices_Reverse_api_Op.G (pieceAt (pieces slices_Reverse_api_Op.G.cks (bodyOf Go.Proofs.Tryd.f49)) 1).1 (pieceAt (pieces slices_Reverse_api_Op.G.cks (bodyOf Go.Proofs.Tryd.f49)) 1).2 :=
  region_ok (s := slices_Reverse_api_Op.c3r) (by kernel_rfl) (by kernel_rfl) (sums_of (sh := slices_Reverse_api_Op.c3s) (fun ρ x_ k_ => (nat_bnd fun _ => (nat_bnd fun _ => (nat_bnd fun _ => (nat_bnd fun _ => (nat_bnd fun _ => (nat_bnd fun _ => (nat_bnd fun _ => (nat_bnd fun _ => nat_leaf))))))))) (fun ρ x_ t k => (by kernel_rfl)) (fun x_ => by kernel_rfl))
theorem slices_Reverse_api_Op.ok : MOk Go.Proofs.Tryd.prog 49 slices_Reverse_api_Op.mc := fnm_ok (G := slices_Reverse_api_Op.G) tab_ok mixed Go.Proofs.Tryd.func49 ⟨fns_nil, mfns_nil, tab_eqs_ok⟩ (m := 2) (by kernel_rfl) ⟨⟨trivial, slices_Reverse_api_Op.p0⟩, slices_Reverse_api_Op.p1⟩ (by kernel_rfl) slices_Reverse_api_Op.eq
def circ_Inverse.c3 {ρ : Type}  (k_ : Unit → Option ρ) : Option ρ :=
  k_ ()
def circ_Inverse.c3s : Shape := ⟨[(0, q10), (1, q11), (2, q5), (3, q24), (4, q28)], [(1, q4), (2, q4), (3, q12), (4, q12)]⟩
def circ_Inverse.c3x0 : Shape := ⟨[(0, q10), (1, q11), (2, q5), (3, q24), (4, q28)], [(1, q4), (2, q4), (3, q12), (4, q12)]⟩
def circ_Inverse.c3r : Ck := Ck.of (T := Unit) circ_Inverse.c3s (fun ρ x_ k_ => uP x_ fun c x_ => uP x_ fun c0 x_ => uP x_ fun c1 x_ => uP x_ fun c2 x_ => uP x_ fun t20 x_ => uP x_ fun t21 x_ => uP x_ fun t22 x_ => uP x_ fun t30 x_ => uP x_ fun t31 x_ => uP x_ fun f0 x_ => uP x_ fun f1 x_ => circ_Inverse.c3  k_) (fun ρ x_ r_ k_ => uP x_ fun c x_ => uP x_ fun c0 x_ => uP x_ fun c1 x_ => uP x_ fun c2 x_ => uP x_ fun t20 x_ => uP x_ fun t21 x_ => uP x_ fun t22 x_ => uP x_ fun t30 x_ => uP x_ fun t31 x_ => uP x_ fun f0 x_ => uP x_ fun f1 x_ => k_ 0 (Shape.inj circ_Inverse.c3x0 (c, c0, c1, c2, (0 : Int), (0 : Int), [], f0, f1, f0, f1, ())))
def circ_Inverse (c : (Int) × ((Int) × (List ((Int) × ((Int) × ((List Int) × ((Int) × ((Int) × (List Int))))))))) : Option (((Int) × ((Int) × (List ((Int) × ((Int) × ((List Int) × ((Int) × ((Int) × (List Int))))))))) × ((Int) × (Int))) :=
  bnd (W.circ_pure (Prod.fst c, Prod.fst (Prod.snd c), Prod.snd (Prod.snd c))) fun y =>
  br (Prod.fst y != (0 : Int))
   (bnd (W.circ_Inverse.c3 some) fun y_1 =>
    some (((0 : Int), (0 : Int), []), Prod.fst y, Prod.snd y))
   (bnd (W.circ_each__inv (Prod.fst (uP (uP ((Prod.fst c, Prod.fst (Prod.snd c), Prod.snd (Prod.snd c)), ()) fun u r ↦ (u, ())) fun u r ↦ (u, ())))) fun y_2 =>
    bnd (W.slices_Reverse_api_Op (Prod.fst (uP (Prod.fst y_2.2.2, ()) fun u r ↦ (u, ())))) fun y_3 =>
    some ((Prod.fst y_2, Prod.fst y_2.2, Prod.fst y_3), (0 : Int), (0 : Int)))
def circ_Inverse.ce : Go.Ql.Callee := ⟨[(.st (.pair (.int .i64) (.pair (.int .i64) (.sl (.st (.pair (.int .i64) (.pair (.int .i64) (.pair (.sl (.int .i64)) (.pair (.int .i64) (.pair (.int .i64) (.sl (.int .i64))))))))))))], [(.st (.pair (.int .i64) (.pair (.int .i64) (.sl (.st (.pair (.int .i64) (.pair (.int .i64) (.pair (.sl (.int .i64)) (.pair (.int .i64) (.pair (.int .i64) (.sl (.int .i64)))))))))))), (.st (.pair (.int .i64) (.int .i64)))], fun x_ => circ_Inverse x_⟩
def circ_Inverse.G : Env := ⟨20, tab, [(44, circ_pure.ce)], [0, 1, 2, 3, 4, 5, 10], [5, 2014, 3005], [(3, [⟨[], [], [12], []⟩, ⟨[], [], [11], [2]⟩, ⟨[0], [2], [12], []⟩, ⟨[1, 2, 0], [3], [], []⟩])], [(3, circ_Inverse.c3r)], [(46, circ_each__inv.mc), (49, slices_Reverse_api_Op.mc)], tab_eqs⟩
theorem circ_Inverse.eq (x_ : dens [(.st (.pair (.int .i64) (.pair (.int .i64) (.sl (.st (.pair (.int .i64) (.pair (.int .i64) (.pair (.sl (.int .i64)) (.pair (.int .i64) (.pair (.int .i64) (.sl (.int .i64))))))))))))]) : den circ_Inverse.G Go.Proofs.Tryd.f23 [(.st (.pair (.int .i64) (.pair (.int .i64) (.sl (.st (.pair (.int .i64) (.pair (.int .i64) (.pair (.sl (.int .i64)) (.pair (.int .i64) (.pair (.int .i64) (.sl (.int .i64))))))))))))] [(.st (.pair (.int .i64) (.pair (.int .i64) (.sl (.st (.pair (.int .i64) (.pair (.int .i64) (.pair (.sl (.int .i64)) (.pair (.int .i64) (.pair (.int .i64) (.sl (.int .i64)))))))))))), (.st (.pair (.int .i64) (.int .i64)))] x_ = circ_Inverse x_ := by kernel_rfl
theorem circ_Inverse.p0 : PieceOk circ_Inverse.G (pieceAt (pieces circ_Inverse.G.cks (bodyOf Go.Proofs.Tryd.f23)) 0).1 (pieceAt (pieces circ_Inverse.G.cks (bodyOf Go.Proofs.Tryd.f23)) 0).2 :=
  region_ok (s := circ_Inverse.c3r) (by kernel_rfl) (by kernel_rfl) (sums_of (sh := circ_Inverse.c3s) (fun ρ x_ k_ => nat_leaf) (fun ρ x_ t k => (by kernel_rfl)) (fun x_ => by kernel_rfl))
theorem circ_Inverse.ok : CalleeOk Go.Proofs.Tryd.prog 23 circ_Inverse.ce := fn_ok (G := circ_Inverse.G) tab_ok mixed Go.Proofs.Tryd.func23 ⟨(fns_cons circ_pure.ok fns_nil), (mfns_cons circ_each__inv.ok (mfns_cons slices_Reverse_api_Op.ok mfns_nil)), tab_eqs_ok⟩ (m := 1) (by kernel_rfl) ⟨trivial, circ_Inverse.p0⟩ (by kernel_rfl) circ_Inverse.eq
abbrev q53 : SD := .one (.ref 9 0)
abbrev q54 : SD := .one (.ref 11 0)
abbrev q55 : SO := .box [.val (.int .i64), .val (.int .i64), .own 3009 0]
def circ_Power.c1 {ρ : Type} (c0 : Int) (c1 : Int) (c2 : List ((Int) × ((Int) × ((List Int) × ((Int) × ((Int) × (List Int))))))) (k_ : (Int) × (Int) → Option ρ) : Option ρ :=
  bnd (W.circ_pure (c0, c1, c2)) fun y =>
  k_ ((Prod.fst y), (Prod.snd y))
def circ_Power.c1s : Shape := ⟨[(0, q10), (1, q0), (2, q5), (4, q28), (5, q29)], [(2, q4), (4, q4), (5, q12)]⟩
def circ_Power.c1x0 : Shape := ⟨[(0, q10), (1, q0), (2, q5), (4, q28), (5, q29), (6, q45), (7, q42)], [(2, q4), (4, q4), (5, q12), (6, q4), (7, q12)]⟩
def circ_Power.c1r : Ck := Ck.of (T := (Int) × (Int)) circ_Power.c1s (fun ρ x_ k_ => uP x_ fun c x_ => uP x_ fun n x_ => uP x_ fun c0 x_ => uP x_ fun c1 x_ => uP x_ fun c2 x_ => uP x_ fun t40 x_ => uP x_ fun t41 x_ => uP x_ fun t42 x_ => uP x_ fun t50 x_ => uP x_ fun t51 x_ => circ_Power.c1 c0 c1 c2 k_) (fun ρ x_ r_ k_ => uP x_ fun c x_ => uP x_ fun n x_ => uP x_ fun c0 x_ => uP x_ fun c1 x_ => uP x_ fun c2 x_ => uP x_ fun t40 x_ => uP x_ fun t41 x_ => uP x_ fun t42 x_ => uP x_ fun t50 x_ => uP x_ fun t51 x_ => k_ 0 (Shape.inj circ_Power.c1x0 (c, n, c0, c1, c2, t40, t41, t42, t50, t51, c0, c1, c2, r_.1, r_.2, ())))
def circ_Power.c208197 {ρ : Type} (n : Int) (c0 : Int) (c1 : Int) (c2 : List ((Int) × ((Int) × ((List Int) × ((Int) × ((Int) × (List Int))))))) (base0 : Int) (base1 : Int) (base2 : List ((Int) × ((Int) × ((List Int) × ((Int) × ((Int) × (List Int))))))) (f0 : Int) (f1 : Int) (k_ : (Int) × (Int) × (List ((Int) × ((Int) × ((List Int) × ((Int) × ((Int) × (List Int))))))) × (Int) × (Int) → Option ρ) : Option ρ :=
  br (decide (n < (0 : Int)))
   (bnd (W.circ_Inverse (c0, c1, c2)) fun y =>
    k_ ((Prod.fst (Prod.fst y)), (Prod.fst (Prod.snd (Prod.fst y))), (Prod.snd (Prod.snd (Prod.fst y))), (Prod.fst (Prod.snd y)), (Prod.snd (Prod.snd y))))
   (k_ (base0, base1, base2, f0, f1))
def circ_Power.c208197s : Shape := ⟨[(0, q10), (1, q0), (2, q5), (4, q28), (5, q29), (6, q45), (7, q42)], [(2, q4), (4, q4), (5, q12), (6, q4), (7, q12)]⟩
def circ_Power.c208197x0 : Shape := ⟨[(0, q10), (1, q0), (2, q5), (4, q28), (5, q29), (6, q45), (7, q42)], [(2, q4), (4, q4), (5, q12), (6, q4), (7, q12)]⟩
def circ_Power.c208197r : Ck := Ck.of (T := (Int) × (Int) × (List ((Int) × ((Int) × ((List Int) × ((Int) × ((Int) × (List Int))))))) × (Int) × (Int)) circ_Power.c208197s (fun ρ x_ k_ => uP x_ fun c x_ => uP x_ fun n x_ => uP x_ fun c0 x_ => uP x_ fun c1 x_ => uP x_ fun c2 x_ => uP x_ fun t40 x_ => uP x_ fun t41 x_ => uP x_ fun t42 x_ => uP x_ fun t50 x_ => uP x_ fun t51 x_ => uP x_ fun base0 x_ => uP x_ fun base1 x_ => uP x_ fun base2 x_ => uP x_ fun f0 x_ => uP x_ fun f1 x_ => circ_Power.c208197 n c0 c1 c2 base0 base1 base2 f0 f1 k_) (fun ρ x_ r_ k_ => uP x_ fun c x_ => uP x_ fun n x_ => uP x_ fun c0 x_ => uP x_ fun c1 x_ => uP x_ fun c2 x_ => uP x_ fun t40 x_ => uP x_ fun t41 x_ => uP x_ fun t42 x_ => uP x_ fun t50 x_ => uP x_ fun t51 x_ => uP x_ fun base0 x_ => uP x_ fun base1 x_ => uP x_ fun base2 x_ => uP x_ fun f0 x_ => uP x_ fun f1 x_ => k_ 0 (Shape.inj circ_Power.c208197x0 (c, n, c0, c1, c2, t40, t41, t42, t50, t51, r_.1, r_.2.1, r_.2.2.1, r_.2.2.2.1, r_.2.2.2.2, ())))
def circ_Power.c5 {ρ : Type}  (k_ : Unit → Option ρ) : Option ρ :=
  k_ ()
def circ_Power.c5s : Shape := ⟨[(0, q10), (1, q0), (2, q5), (4, q28), (5, q29), (6, q45), (7, q42)], [(2, q4), (4, q4), (5, q12), (6, q4), (7, q12)]⟩
def circ_Power.c5x0 : Shape := ⟨[(0, q10), (1, q0), (2, q5), (4, q28), (5, q29), (6, q45), (7, q42)], [(2, q4), (4, q4), (5, q12), (6, q4), (7, q12)]⟩
def circ_Power.c5r : Ck := Ck.of (T := Unit) circ_Power.c5s (fun ρ x_ k_ => uP x_ fun c x_ => uP x_ fun n x_ => uP x_ fun c0 x_ => uP x_ fun c1 x_ => uP x_ fun c2 x_ => uP x_ fun t40 x_ => uP x_ fun t41 x_ => uP x_ fun t42 x_ => uP x_ fun t50 x_ => uP x_ fun t51 x_ => uP x_ fun base0 x_ => uP x_ fun base1 x_ => uP x_ fun base2 x_ => uP x_ fun f0 x_ => uP x_ fun f1 x_ => circ_Power.c5  k_) (fun ρ x_ r_ k_ => uP x_ fun c x_ => uP x_ fun n x_ => uP x_ fun c0 x_ => uP x_ fun c1 x_ => uP x_ fun c2 x_ => uP x_ fun t40 x_ => uP x_ fun t41 x_ => uP x_ fun t42 x_ => uP x_ fun t50 x_ => uP x_ fun t51 x_ => uP x_ fun base0 x_ => uP x_ fun base1 x_ => uP x_ fun base2 x_ => uP x_ fun f0 x_ => uP x_ fun f1 x_ => k_ 0 (Shape.inj circ_Power.c5x0 (c, n, c0, c1, c2, (0 : Int), (0 : Int), [], f0, f1, base0, base1, base2, f0, f1, ())))
def circ_Power.c228677 {ρ : Type} (n : Int) (size : Int) (k_ : Int → Option ρ) : Option ρ :=
  br (decide (n < (0 : Int)))
   (k_ (IntKind.wrap IntKind.i64 ((0 : Int) - n)))
   (k_ size)
def circ_Power.c228677s : Shape := ⟨[(0, q10), (1, q0), (2, q5), (4, q28), (5, q29), (6, q45), (7, q42), (8, q0)], [(2, q4), (4, q4), (5, q12), (6, q4), (7, q12)]⟩
def circ_Power.c228677x0 : Shape := ⟨[(0, q10), (1, q0), (2, q5), (4, q28), (5, q29), (6, q45), (7, q42), (8, q0)], [(2, q4), (4, q4), (5, q12), (6, q4), (7, q12)]⟩
def circ_Power.c228677r : Ck := Ck.of (T := Int) circ_Power.c228677s (fun ρ x_ k_ => uP x_ fun c x_ => uP x_ fun n x_ => uP x_ fun size x_ => uP x_ fun c0 x_ => uP x_ fun c1 x_ => uP x_ fun c2 x_ => uP x_ fun t40 x_ => uP x_ fun t41 x_ => uP x_ fun t42 x_ => uP x_ fun t50 x_ => uP x_ fun t51 x_ => uP x_ fun base0 x_ => uP x_ fun base1 x_ => uP x_ fun base2 x_ => uP x_ fun f0 x_ => uP x_ fun f1 x_ => circ_Power.c228677 n size k_) (fun ρ x_ r_ k_ => uP x_ fun c x_ => uP x_ fun n x_ => uP x_ fun size x_ => uP x_ fun c0 x_ => uP x_ fun c1 x_ => uP x_ fun c2 x_ => uP x_ fun t40 x_ => uP x_ fun t41 x_ => uP x_ fun t42 x_ => uP x_ fun t50 x_ => uP x_ fun t51 x_ => uP x_ fun base0 x_ => uP x_ fun base1 x_ => uP x_ fun base2 x_ => uP x_ fun f0 x_ => uP x_ fun f1 x_ => k_ 0 (Shape.inj circ_Power.c228677x0 (c, n, r_, c0, c1, c2, t40, t41, t42, t50, t51, base0, base1, base2, f0, f1, ())))
def circ_Power.c9 {ρ : Type} (size : Int) (c2 : List ((Int) × ((Int) × ((List Int) × ((Int) × ((Int) × (List Int))))))) (k_ : Bool → Option ρ) : Option ρ :=
  br (decide ((↑(List.length c2) : Int) > (0 : Int)))
   (br (decide (size < (0 : Int)))
     (k_ true)
     (bnd (okIf ((↑(List.length c2) : Int) != (0 : Int))) fun y =>
      k_ (decide (size > IntKind.wrap IntKind.i64 (Int.tdiv (4096 : Int) (↑(List.length c2) : Int))))))
   (k_ false)
def circ_Power.c9s : Shape := ⟨[(0, q10), (1, q0), (2, q5), (4, q28), (5, q29), (6, q45), (7, q42), (8, q0)], [(2, q4), (4, q4), (5, q12), (6, q4), (7, q12)]⟩
def circ_Power.c9x0 : Shape := ⟨[(0, q10), (1, q0), (2, q5), (4, q28), (5, q29), (6, q45), (7, q42), (8, q0), (47, q1)], [(2, q4), (4, q4), (5, q12), (6, q4), (7, q12)]⟩
def circ_Power.c9r : Ck := Ck.of (T := Bool) circ_Power.c9s (fun ρ x_ k_ => uP x_ fun c x_ => uP x_ fun n x_ => uP x_ fun size x_ => uP x_ fun c0 x_ => uP x_ fun c1 x_ => uP x_ fun c2 x_ => uP x_ fun t40 x_ => uP x_ fun t41 x_ => uP x_ fun t42 x_ => uP x_ fun t50 x_ => uP x_ fun t51 x_ => uP x_ fun base0 x_ => uP x_ fun base1 x_ => uP x_ fun base2 x_ => uP x_ fun f0 x_ => uP x_ fun f1 x_ => circ_Power.c9 size c2 k_) (fun ρ x_ r_ k_ => uP x_ fun c x_ => uP x_ fun n x_ => uP x_ fun size x_ => uP x_ fun c0 x_ => uP x_ fun c1 x_ => uP x_ fun c2 x_ => uP x_ fun t40 x_ => uP x_ fun t41 x_ => uP x_ fun t42 x_ => uP x_ fun t50 x_ => uP x_ fun t51 x_ => uP x_ fun base0 x_ => uP x_ fun base1 x_ => uP x_ fun base2 x_ => uP x_ fun f0 x_ => uP x_ fun f1 x_ => k_ 0 (Shape.inj circ_Power.c9x0 (c, n, size, r_, c0, c1, c2, t40, t41, t42, t50, t51, base0, base1, base2, f0, f1, ())))
def circ_Power.c16 {ρ : Type} (o0 : Int) (o1 : Int) (o2 : List (Int)) (o3 : Int) (o4 : Int) (o5 : List (Int)) (t3009 : List ((Int) × ((Int) × ((List Int) × ((Int) × ((Int) × (List Int))))))) (k_ : List ((Int) × ((Int) × ((List Int) × ((Int) × ((Int) × (List Int)))))) → Option ρ) : Option ρ :=
  bnd (W.circ_copied (o0, o1, o2, o3, o4, o5)) fun y =>
  bnd (okIf (decide ((List.length t3009 + List.length [y]) * (80 : Nat) ≤ (140737488355328 : Nat)) && decide (List.length t3009 + List.length [y] ≤ (140737488355328 : Nat)))) fun y_1 =>
  k_ (t3009 ++ [y])
def circ_Power.c16s : Shape := ⟨[(0, q10), (1, q0), (2, q5), (4, q28), (5, q29), (6, q45), (7, q42), (8, q0), (9, q53), (11, q54), (65, q13), (66, q0), (67, q0)], [(2, q4), (4, q4), (5, q12), (6, q4), (7, q12), (9, q55), (11, q6), (3009, q44)]⟩
def circ_Power.c16x0 : Shape := ⟨[(0, q10), (1, q0), (2, q5), (4, q28), (5, q29), (6, q45), (7, q42), (8, q0), (9, q53), (11, q54), (65, q13), (66, q0), (67, q0)], [(2, q4), (4, q4), (5, q12), (6, q4), (7, q12), (9, q55), (11, q6), (3009, q44)]⟩
def circ_Power.c16r : Ck := Ck.of (T := List ((Int) × ((Int) × ((List Int) × ((Int) × ((Int) × (List Int))))))) circ_Power.c16s (fun ρ x_ k_ => uP x_ fun c x_ => uP x_ fun n x_ => uP x_ fun size x_ => uP x_ fun t65 x_ => uP x_ fun t66 x_ => uP x_ fun t67 x_ => uP x_ fun c0 x_ => uP x_ fun c1 x_ => uP x_ fun c2 x_ => uP x_ fun t40 x_ => uP x_ fun t41 x_ => uP x_ fun t42 x_ => uP x_ fun t50 x_ => uP x_ fun t51 x_ => uP x_ fun base0 x_ => uP x_ fun base1 x_ => uP x_ fun base2 x_ => uP x_ fun f0 x_ => uP x_ fun f1 x_ => uP x_ fun out0 x_ => uP x_ fun out1 x_ => uP x_ fun o0 x_ => uP x_ fun o1 x_ => uP x_ fun o2 x_ => uP x_ fun o3 x_ => uP x_ fun o4 x_ => uP x_ fun o5 x_ => uP x_ fun t3009 x_ => circ_Power.c16 o0 o1 o2 o3 o4 o5 t3009 k_) (fun ρ x_ r_ k_ => uP x_ fun c x_ => uP x_ fun n x_ => uP x_ fun size x_ => uP x_ fun t65 x_ => uP x_ fun t66 x_ => uP x_ fun t67 x_ => uP x_ fun c0 x_ => uP x_ fun c1 x_ => uP x_ fun c2 x_ => uP x_ fun t40 x_ => uP x_ fun t41 x_ => uP x_ fun t42 x_ => uP x_ fun t50 x_ => uP x_ fun t51 x_ => uP x_ fun base0 x_ => uP x_ fun base1 x_ => uP x_ fun base2 x_ => uP x_ fun f0 x_ => uP x_ fun f1 x_ => uP x_ fun out0 x_ => uP x_ fun out1 x_ => uP x_ fun o0 x_ => uP x_ fun o1 x_ => uP x_ fun o2 x_ => uP x_ fun o3 x_ => uP x_ fun o4 x_ => uP x_ fun o5 x_ => uP x_ fun t3009 x_ => k_ 0 (Shape.inj circ_Power.c16x0 (c, n, size, t65, t66, t67, c0, c1, c2, t40, t41, t42, t50, t51, base0, base1, base2, f0, f1, out0, out1, o0, o1, o2, o3, o4, o5, r_, ())))
def circ_Power.c100014 {ρ : Type} (t65 : List ((Int) × ((Int) × ((List Int) × ((Int) × ((Int) × (List Int))))))) (t66 : Int) (t67 : Int) (t3009 : List ((Int) × ((Int) × ((List Int) × ((Int) × ((Int) × (List Int))))))) (k_ : ((Int) × (List ((Int) × ((Int) × ((List Int) × ((Int) × ((Int) × (List Int)))))))) ⊕ ((Int) × (List ((Int) × ((Int) × ((List Int) × ((Int) × ((Int) × (List Int)))))))) → Option ρ) : Option ρ :=
  br (decide (t67 < t66))
   (bnd (idx t65 t67) fun y =>
    bnd (W.circ_Power.c16 (Prod.fst y) (Prod.fst (Prod.snd y)) (Prod.fst (Prod.snd (Prod.snd y))) (Prod.fst (Prod.snd (Prod.snd (Prod.snd y)))) (Prod.fst (Prod.snd (Prod.snd (Prod.snd (Prod.snd y))))) (Prod.snd (Prod.snd (Prod.snd (Prod.snd (Prod.snd y))))) t3009 some) fun y_1 =>
    k_ (.inl ((IntKind.wrap IntKind.i64 (t67 + (1 : Int))), y_1)))
   (k_ (.inr (t67, t3009)))
def circ_Power.c100014s : Shape := ⟨[(0, q10), (1, q0), (2, q5), (4, q28), (5, q29), (6, q45), (7, q42), (8, q0), (9, q53), (65, q13), (66, q0), (67, q0)], [(2, q4), (4, q4), (5, q12), (6, q4), (7, q12), (9, q55), (3009, q44)]⟩
def circ_Power.c100014x0 : Shape := ⟨[(0, q10), (1, q0), (2, q5), (4, q28), (5, q29), (6, q45), (7, q42), (8, q0), (9, q53), (65, q13), (66, q0), (67, q0)], [(2, q4), (4, q4), (5, q12), (6, q4), (7, q12), (9, q55), (3009, q44)]⟩
def circ_Power.c100014r : Ck := Ck.ofLoop (S := (Int) × (List ((Int) × ((Int) × ((List Int) × ((Int) × ((Int) × (List Int)))))))) (T := (Int) × (List ((Int) × ((Int) × ((List Int) × ((Int) × ((Int) × (List Int)))))))) circ_Power.c100014s (fun x_ => uP x_ fun c x_ => uP x_ fun n x_ => uP x_ fun size x_ => uP x_ fun t65 x_ => uP x_ fun t66 x_ => uP x_ fun t67 x_ => uP x_ fun c0 x_ => uP x_ fun c1 x_ => uP x_ fun c2 x_ => uP x_ fun t40 x_ => uP x_ fun t41 x_ => uP x_ fun t42 x_ => uP x_ fun t50 x_ => uP x_ fun t51 x_ => uP x_ fun base0 x_ => uP x_ fun base1 x_ => uP x_ fun base2 x_ => uP x_ fun f0 x_ => uP x_ fun f1 x_ => uP x_ fun out0 x_ => uP x_ fun out1 x_ => uP x_ fun t3009 x_ => (t67, t3009)) (fun ρ x_ s_ k_ => uP x_ fun c x_ => uP x_ fun n x_ => uP x_ fun size x_ => uP x_ fun t65 x_ => uP x_ fun t66 x_ => uP x_ fun t67 x_ => uP x_ fun c0 x_ => uP x_ fun c1 x_ => uP x_ fun c2 x_ => uP x_ fun t40 x_ => uP x_ fun t41 x_ => uP x_ fun t42 x_ => uP x_ fun t50 x_ => uP x_ fun t51 x_ => uP x_ fun base0 x_ => uP x_ fun base1 x_ => uP x_ fun base2 x_ => uP x_ fun f0 x_ => uP x_ fun f1 x_ => uP x_ fun out0 x_ => uP x_ fun out1 x_ => uP x_ fun t3009 x_ => circ_Power.c100014 t65 t66 s_.1 s_.2 k_) (fun ρ x_ r_ k_ => uP x_ fun c x_ => uP x_ fun n x_ => uP x_ fun size x_ => uP x_ fun t65 x_ => uP x_ fun t66 x_ => uP x_ fun t67 x_ => uP x_ fun c0 x_ => uP x_ fun c1 x_ => uP x_ fun c2 x_ => uP x_ fun t40 x_ => uP x_ fun t41 x_ => uP x_ fun t42 x_ => uP x_ fun t50 x_ => uP x_ fun t51 x_ => uP x_ fun base0 x_ => uP x_ fun base1 x_ => uP x_ fun base2 x_ => uP x_ fun f0 x_ => uP x_ fun f1 x_ => uP x_ fun out0 x_ => uP x_ fun out1 x_ => uP x_ fun t3009 x_ => k_ 4 (Shape.inj circ_Power.c100014x0 (c, n, size, t65, t66, r_.1, c0, c1, c2, t40, t41, t42, t50, t51, base0, base1, base2, f0, f1, out0, out1, r_.2, ())))
def circ_Power.c100012 {ρ : Type} (size : Int) (base2 : List ((Int) × ((Int) × ((List Int) × ((Int) × ((Int) × (List Int))))))) (t3009 : List ((Int) × ((Int) × ((List Int) × ((Int) × ((Int) × (List Int))))))) (k_ : (List ((Int) × ((Int) × ((List Int) × ((Int) × ((Int) × (List Int))))))) ⊕ (List ((Int) × ((Int) × ((List Int) × ((Int) × ((Int) × (List Int))))))) → Option ρ) : Option ρ :=
  br (decide ((↑(List.length t3009) : Int) < IntKind.wrap IntKind.i64 (size * (↑(List.length base2) : Int))))
   (bnd (iter (fun s ↦ W.circ_Power.c100014 base2 (↑(List.length base2) : Int) (Prod.fst s) (Prod.snd s) some) ((0 : Int), t3009)) fun y =>
    k_ (.inl (Prod.snd y)))
   (k_ (.inr t3009))
def circ_Power.c100012s : Shape := ⟨[(0, q10), (1, q0), (2, q5), (4, q28), (5, q29), (6, q45), (7, q42), (8, q0), (9, q53)], [(2, q4), (4, q4), (5, q12), (6, q4), (7, q12), (9, q55), (3009, q44)]⟩
def circ_Power.c100012x0 : Shape := ⟨[(0, q10), (1, q0), (2, q5), (4, q28), (5, q29), (6, q45), (7, q42), (8, q0), (9, q53)], [(2, q4), (4, q4), (5, q12), (6, q4), (7, q12), (9, q55), (3009, q44)]⟩
def circ_Power.c100012r : Ck := Ck.ofLoop (S := List ((Int) × ((Int) × ((List Int) × ((Int) × ((Int) × (List Int))))))) (T := List ((Int) × ((Int) × ((List Int) × ((Int) × ((Int) × (List Int))))))) circ_Power.c100012s (fun x_ => uP x_ fun c x_ => uP x_ fun n x_ => uP x_ fun size x_ => uP x_ fun c0 x_ => uP x_ fun c1 x_ => uP x_ fun c2 x_ => uP x_ fun t40 x_ => uP x_ fun t41 x_ => uP x_ fun t42 x_ => uP x_ fun t50 x_ => uP x_ fun t51 x_ => uP x_ fun base0 x_ => uP x_ fun base1 x_ => uP x_ fun base2 x_ => uP x_ fun f0 x_ => uP x_ fun f1 x_ => uP x_ fun out0 x_ => uP x_ fun out1 x_ => uP x_ fun t3009 x_ => t3009) (fun ρ x_ s_ k_ => uP x_ fun c x_ => uP x_ fun n x_ => uP x_ fun size x_ => uP x_ fun c0 x_ => uP x_ fun c1 x_ => uP x_ fun c2 x_ => uP x_ fun t40 x_ => uP x_ fun t41 x_ => uP x_ fun t42 x_ => uP x_ fun t50 x_ => uP x_ fun t51 x_ => uP x_ fun base0 x_ => uP x_ fun base1 x_ => uP x_ fun base2 x_ => uP x_ fun f0 x_ => uP x_ fun f1 x_ => uP x_ fun out0 x_ => uP x_ fun out1 x_ => uP x_ fun t3009 x_ => circ_Power.c100012 size base2 s_ k_) (fun ρ x_ r_ k_ => uP x_ fun c x_ => uP x_ fun n x_ => uP x_ fun size x_ => uP x_ fun c0 x_ => uP x_ fun c1 x_ => uP x_ fun c2 x_ => uP x_ fun t40 x_ => uP x_ fun t41 x_ => uP x_ fun t42 x_ => uP x_ fun t50 x_ => uP x_ fun t51 x_ => uP x_ fun base0 x_ => uP x_ fun base1 x_ => uP x_ fun base2 x_ => uP x_ fun f0 x_ => uP x_ fun f1 x_ => uP x_ fun out0 x_ => uP x_ fun out1 x_ => uP x_ fun t3009 x_ => k_ 2 (Shape.inj circ_Power.c100012x0 (c, n, size, c0, c1, c2, t40, t41, t42, t50, t51, base0, base1, base2, f0, f1, out0, out1, r_, ())))
def circ_Power (c : (Int) × ((Int) × (List ((Int) × ((Int) × ((List Int) × ((Int) × ((Int) × (List Int))))))))) (n : Int) : Option (((Int) × ((Int) × (List ((Int) × ((Int) × ((List Int) × ((Int) × ((Int) × (List Int))))))))) × ((Int) × (Int))) :=
  bnd (W.circ_Power.c1 (Prod.fst c) (Prod.fst (Prod.snd c)) (Prod.snd (Prod.snd c)) some) fun y =>
  bnd (W.circ_Power.c208197 n (Prod.fst c) (Prod.fst (Prod.snd c)) (Prod.snd (Prod.snd c)) (Prod.fst c) (Prod.fst (Prod.snd c)) (Prod.snd (Prod.snd c)) (Prod.fst y) (Prod.snd y) some) fun y_1 =>
  br (Prod.fst (Prod.snd (Prod.snd (Prod.snd y_1))) != (0 : Int))
   (bnd (W.circ_Power.c5 some) fun y_2 =>
    some (((0 : Int), (0 : Int), []), Prod.fst (Prod.snd (Prod.snd (Prod.snd y_1))), Prod.snd (Prod.snd (Prod.snd (Prod.snd y_1)))))
   (bnd (W.circ_Power.c228677 n n some) fun y_3 =>
    bnd (W.circ_Power.c9 y_3 (Prod.snd (Prod.snd c)) some) fun y_4 =>
    br y_4
     (bnd (W.circ_fault (2 : Int) (0 : Int)) fun y_5 =>
      some (((0 : Int), (0 : Int), []), Prod.fst y_5, Prod.snd y_5))
     (bnd (iter (fun s ↦ W.circ_Power.c100012 y_3 (Prod.fst (Prod.snd (Prod.snd y_1))) s some) []) fun y_6 =>
      some ((Prod.fst c, Prod.fst (Prod.snd c), y_6), (0 : Int), (0 : Int))))
def circ_Power.ce : Go.Ql.Callee := ⟨[(.st (.pair (.int .i64) (.pair (.int .i64) (.sl (.st (.pair (.int .i64) (.pair (.int .i64) (.pair (.sl (.int .i64)) (.pair (.int .i64) (.pair (.int .i64) (.sl (.int .i64)))))))))))), (.int .i64)], [(.st (.pair (.int .i64) (.pair (.int .i64) (.sl (.st (.pair (.int .i64) (.pair (.int .i64) (.pair (.sl (.int .i64)) (.pair (.int .i64) (.pair (.int .i64) (.sl (.int .i64)))))))))))), (.st (.pair (.int .i64) (.int .i64)))], fun x_ => circ_Power x_.1 x_.2⟩
def circ_Power.G : Env := ⟨81, tab, [(44, circ_pure.ce), (23, circ_Inverse.ce), (40, circ_fault.ce), (45, circ_copied.ce)], [0, 1, 2, 4, 5, 6, 7, 8, 9, 11, 16, 24, 29, 47, 63, 65, 66, 67, 68], [2, 9, 54, 3002, 3009], [(16, [⟨[], [], [73, 74, 75], [75]⟩, ⟨[0], [], [73, 74, 75], [75]⟩, ⟨[], [], [71, 72], []⟩, ⟨[2], [], [71, 72], []⟩, ⟨[3, 2], [75], [71, 72], []⟩, ⟨[1, 0, 4, 3, 2], [3009], [], []⟩, ⟨[0, 1, 2, 3, 4, 5], [], [], []⟩, ⟨[6, 0, 1, 2, 3, 4, 5], [9], [], []⟩]),
  (5, [⟨[], [], [26], []⟩, ⟨[], [], [25], [4]⟩, ⟨[0], [4], [26], []⟩, ⟨[1, 2, 0], [5], [], []⟩]),
  (1, [⟨[], [], [13, 14, 6, 7], [6, 7]⟩, ⟨[], [], [12, 6, 7], [6, 7]⟩, ⟨[1], [], [12, 6, 7], [6, 7]⟩, ⟨[], [6], [12, 13, 14, 7], [7]⟩, ⟨[], [7], [12, 13, 14, 6], [6]⟩, ⟨[3, 0, 2, 1, 4], [6], [], []⟩, ⟨[4, 2, 1, 5, 3, 0], [7], [], []⟩])], [(100012, circ_Power.c100012r), (100014, circ_Power.c100014r), (16, circ_Power.c16r), (9, circ_Power.c9r), (228677, circ_Power.c228677r), (5, circ_Power.c5r), (208197, circ_Power.c208197r), (1, circ_Power.c1r)], [], tab_eqs⟩
theorem circ_Power.eq (x_ : dens [(.st (.pair (.int .i64) (.pair (.int .i64) (.sl (.st (.pair (.int .i64) (.pair (.int .i64) (.pair (.sl (.int .i64)) (.pair (.int .i64) (.pair (.int .i64) (.sl (.int .i64)))))))))))), (.int .i64)]) : den circ_Power.G Go.Proofs.Tryd.f18 [(.st (.pair (.int .i64) (.pair (.int .i64) (.sl (.st (.pair (.int .i64) (.pair (.int .i64) (.pair (.sl (.int .i64)) (.pair (.int .i64) (.pair (.int .i64) (.sl (.int .i64)))))))))))), (.int .i64)] [(.st (.pair (.int .i64) (.pair (.int .i64) (.sl (.st (.pair (.int .i64) (.pair (.int .i64) (.pair (.sl (.int .i64)) (.pair (.int .i64) (.pair (.int .i64) (.sl (.int .i64)))))))))))), (.st (.pair (.int .i64) (.int .i64)))] x_ = circ_Power x_.1 x_.2 := by kernel_rfl
theorem circ_Power.p0 : PieceOk circ_Power.G (pieceAt (pieces circ_Power.G.cks (bodyOf Go.Proofs.Tryd.f18)) 0).1 (pieceAt (pieces circ_Power.G.cks (bodyOf Go.Proofs.Tryd.f18)) 0).2 :=
  region_ok (s := circ_Power.c1r) (by kernel_rfl) (by kernel_rfl) (sums_of (sh := circ_Power.c1s) (fun ρ x_ k_ => (nat_bnd fun _ => nat_leaf)) (fun ρ x_ t k => (by kernel_rfl)) (fun x_ => by kernel_rfl))
theorem circ_Power.p1 : PieceOk circ_Power.G (pieceAt (pieces circ_Power.G.cks (bodyOf Go.Proofs.Tryd.f18)) 1).1 (pieceAt (pieces circ_Power.G.cks (bodyOf Go.Proofs.Tryd.f18)) 1).2 :=
  join_ok (s := circ_Power.c208197r) (by kernel_rfl) (by kernel_rfl) (sums_of (sh := circ_Power.c208197s) (fun ρ x_ k_ => (nat_br (nat_bnd fun _ => nat_leaf) nat_leaf)) (fun ρ x_ t k => (by kernel_rfl)) (fun x_ => by kernel_rfl))
theorem circ_Power.p2 : PieceOk circ_Power.G (pieceAt (pieces circ_Power.G.cks (bodyOf Go.Proofs.Tryd.f18)) 2).1 (pieceAt (pieces circ_Power.G.cks (bodyOf Go.Proofs.Tryd.f18)) 2).2 :=
  region_ok (s := circ_Power.c5r) (by kernel_rfl) (by kernel_rfl) (sums_of (sh := circ_Power.c5s) (fun ρ x_ k_ => nat_leaf) (fun ρ x_ t k => (by kernel_rfl)) (fun x_ => by kernel_rfl))
theorem circ_Power.p3 : PieceOk circ_Power.G (pieceAt (pieces circ_Power.G.cks (bodyOf Go.Proofs.Tryd.f18)) 3).1 (pieceAt (pieces circ_Power.G.cks (bodyOf Go.Proofs.Tryd.f18)) 3).2 :=
  join_ok (s := circ_Power.c228677r) (by kernel_rfl) (by kernel_rfl) (sums_of (sh := circ_Power.c228677s) (fun ρ x_ k_ => (nat_br nat_leaf nat_leaf)) (fun ρ x_ t k => (by kernel_rfl)) (fun x_ => by kernel_rfl))
theorem circ_Power.p4 : PieceOk circ_Power.G (pieceAt (pieces circ_Power.G.cks (bodyOf Go.Proofs.Tryd.f18)) 4).1 (pieceAt (pieces circ_Power.G.cks (bodyOf Go.Proofs.Tryd.f18)) 4).2 :=
  region_ok (s := circ_Power.c9r) (by kernel_rfl) (by kernel_rfl) (sums_of (sh := circ_Power.c9s) (fun ρ x_ k_ => (nat_br (nat_br nat_leaf (nat_bnd fun _ => nat_leaf)) nat_leaf)) (fun ρ x_ t k => (by kernel_rfl)) (fun x_ => by kernel_rfl))
theorem circ_Power.p5 : PieceOk circ_Power.G (pieceAt (pieces circ_Power.G.cks (bodyOf Go.Proofs.Tryd.f18)) 5).1 (pieceAt (pieces circ_Power.G.cks (bodyOf Go.Proofs.Tryd.f18)) 5).2 :=
  loop_ok (s := circ_Power.c100012r) (by kernel_rfl) (by kernel_rfl) (loops_of (sh := circ_Power.c100012s) (I := fun x_ s_ => (x_.1, x_.2.1, x_.2.2.1, x_.2.2.2.1, x_.2.2.2.2.1, x_.2.2.2.2.2.1, x_.2.2.2.2.2.2.1, x_.2.2.2.2.2.2.2.1, x_.2.2.2.2.2.2.2.2.1, x_.2.2.2.2.2.2.2.2.2.1, x_.2.2.2.2.2.2.2.2.2.2.1, x_.2.2.2.2.2.2.2.2.2.2.2.1, x_.2.2.2.2.2.2.2.2.2.2.2.2.1, x_.2.2.2.2.2.2.2.2.2.2.2.2.2.1, x_.2.2.2.2.2.2.2.2.2.2.2.2.2.2.1, x_.2.2.2.2.2.2.2.2.2.2.2.2.2.2.2.1, x_.2.2.2.2.2.2.2.2.2.2.2.2.2.2.2.2.1, x_.2.2.2.2.2.2.2.2.2.2.2.2.2.2.2.2.2.1, s_, ())) (fun x_ => rfl) (fun ρ x_ s_ k_ => (nat_br (nat_bnd fun _ => nat_leaf) nat_leaf)) (fun ρ x_ t k => (by kernel_rfl)) (fun x_ s => by kernel_rfl))
theorem circ_Power.p6 : PieceOk circ_Power.G (pieceAt (pieces circ_Power.G.cks (bodyOf Go.Proofs.Tryd.f18)) 6).1 (pieceAt (pieces circ_Power.G.cks (bodyOf Go.Proofs.Tryd.f18)) 6).2 :=
  loop_ok (s := circ_Power.c100014r) (by kernel_rfl) (by kernel_rfl) (loops_of (sh := circ_Power.c100014s) (I := fun x_ s_ => (x_.1, x_.2.1, x_.2.2.1, x_.2.2.2.1, x_.2.2.2.2.1, s_.1, x_.2.2.2.2.2.2.1, x_.2.2.2.2.2.2.2.1, x_.2.2.2.2.2.2.2.2.1, x_.2.2.2.2.2.2.2.2.2.1, x_.2.2.2.2.2.2.2.2.2.2.1, x_.2.2.2.2.2.2.2.2.2.2.2.1, x_.2.2.2.2.2.2.2.2.2.2.2.2.1, x_.2.2.2.2.2.2.2.2.2.2.2.2.2.1, x_.2.2.2.2.2.2.2.2.2.2.2.2.2.2.1, x_.2.2.2.2.2.2.2.2.2.2.2.2.2.2.2.1, x_.2.2.2.2.2.2.2.2.2.2.2.2.2.2.2.2.1, x_.2.2.2.2.2.2.2.2.2.2.2.2.2.2.2.2.2.1, x_.2.2.2.2.2.2.2.2.2.2.2.2.2.2.2.2.2.2.1, x_.2.2.2.2.2.2.2.2.2.2.2.2.2.2.2.2.2.2.2.1, x_.2.2.2.2.2.2.2.2.2.2.2.2.2.2.2.2.2.2.2.2.1, s_.2, ())) (fun x_ => rfl) (fun ρ x_ s_ k_ => (nat_br (nat_bnd fun _ => (nat_bnd fun _ => nat_leaf)) nat_leaf)) (fun ρ x_ t k => (by kernel_rfl)) (fun x_ s => by kernel_rfl))
theorem circ_Power.p7 : PieceOk circ_Power.G (pieceAt (pieces circ_Power.G.cks (bodyOf Go.Proofs.Tryd.f18)) 7).1 (pieceAt (pieces circ_Power.G.cks (bodyOf Go.Proofs.Tryd.f18)) 7).2 :=
  region_ok (s := circ_Power.c16r) (by kernel_rfl) (by kernel_rfl) (sums_of (sh := circ_Power.c16s) (fun ρ x_ k_ => (nat_bnd fun _ => (nat_bnd fun _ => nat_leaf))) (fun ρ x_ t k => (by kernel_rfl)) (fun x_ => by kernel_rfl))
theorem circ_Power.ok : CalleeOk Go.Proofs.Tryd.prog 18 circ_Power.ce := fn_ok (G := circ_Power.G) tab_ok mixed Go.Proofs.Tryd.func18 ⟨(fns_cons circ_pure.ok (fns_cons circ_Inverse.ok (fns_cons circ_fault.ok (fns_cons circ_copied.ok fns_nil)))), mfns_nil, tab_eqs_ok⟩ (m := 8) (by kernel_rfl) ⟨⟨⟨⟨⟨⟨⟨⟨trivial, circ_Power.p0⟩, circ_Power.p1⟩, circ_Power.p2⟩, circ_Power.p3⟩, circ_Power.p4⟩, circ_Power.p5⟩, circ_Power.p6⟩, circ_Power.p7⟩ (by kernel_rfl) circ_Power.eq
def R_SameInts.c6 {ρ : Type} (a : List (Int)) (b : List (Int)) (i : Int) (k_ : Bool → Option ρ) : Option ρ :=
  bnd (idx a i) fun y =>
  bnd (idx b i) fun y_1 =>
  k_ (y != y_1)
def R_SameInts.c6s : Shape := ⟨[(0, q8), (1, q8), (4, q1), (5, q0)], []⟩
def R_SameInts.c6x0 : Shape := ⟨[(0, q8), (1, q8), (4, q1), (5, q0), (25, q1)], []⟩
def R_SameInts.c6r : Ck := Ck.of (T := Bool) R_SameInts.c6s (fun ρ x_ k_ => uP x_ fun a x_ => uP x_ fun b x_ => uP x_ fun t4 x_ => uP x_ fun i x_ => R_SameInts.c6 a b i k_) (fun ρ x_ r_ k_ => uP x_ fun a x_ => uP x_ fun b x_ => uP x_ fun t4 x_ => uP x_ fun i x_ => k_ 0 (Shape.inj R_SameInts.c6x0 (a, b, t4, i, r_, ())))
def R_SameInts.c100004 {ρ : Type} (a : List (Int)) (b : List (Int)) (i : Int) (k_ : (Int) ⊕ ((Int) ⊕ (Int)) → Option ρ) : Option ρ :=
  br (decide (i < (↑(List.length a) : Int)))
   (bnd (W.R_SameInts.c6 a b i some) fun y =>
    br y
     (k_ (.inr (.inl i)))
     (k_ (.inl (IntKind.wrap IntKind.i64 (i + (1 : Int))))))
   (k_ (.inr (.inr i)))
def R_SameInts.c100004s : Shape := ⟨[(0, q8), (1, q8), (4, q1), (5, q0)], []⟩
def R_SameInts.c100004x0 : Shape := ⟨[(0, q8), (1, q8), (4, q1), (5, q0)], []⟩
def R_SameInts.c100004x1 : Shape := ⟨[(0, q8), (1, q8), (4, q1), (5, q0)], []⟩
def R_SameInts.c100004r : Ck := Ck.ofLoop (S := Int) (T := (Int) ⊕ (Int)) R_SameInts.c100004s (fun x_ => uP x_ fun a x_ => uP x_ fun b x_ => uP x_ fun t4 x_ => uP x_ fun i x_ => i) (fun ρ x_ s_ k_ => uP x_ fun a x_ => uP x_ fun b x_ => uP x_ fun t4 x_ => uP x_ fun i x_ => R_SameInts.c100004 a b s_ k_) (fun ρ x_ r_ k_ => uP x_ fun a x_ => uP x_ fun b x_ => uP x_ fun t4 x_ => uP x_ fun i x_ => sel r_ (fun r_ => k_ 1 (Shape.inj R_SameInts.c100004x0 (a, b, false, r_, ()))) (fun r_ => k_ 2 (Shape.inj R_SameInts.c100004x1 (a, b, t4, r_, ()))))
def R_SameInts (a : List (Int)) (b : List (Int)) : Option (Bool) :=
  br ((↑(List.length a) : Int) != (↑(List.length b) : Int))
   (some false)
   (bnd (iter (fun s ↦ W.R_SameInts.c100004 a b s some) (0 : Int)) fun y =>
    sel y
     (fun u => some false)
     (fun v => some true))
def R_SameInts.ce : Go.Ql.Callee := ⟨[(.sl (.int .i64)), (.sl (.int .i64))], [.bool], fun x_ => R_SameInts x_.1 x_.2⟩
def R_SameInts.G : Env := ⟨26, tab, [], [0, 1, 4, 5, 10, 14, 25], [], [(6, [⟨[], [], [18, 21, 22, 23, 24], []⟩, ⟨[], [], [17, 21, 22, 23, 24], []⟩, ⟨[0, 1], [], [21, 22, 23, 24], []⟩, ⟨[2, 0, 1], [], [21, 22, 23, 24], []⟩, ⟨[], [], [17, 18, 19, 20, 22], []⟩, ⟨[], [], [17, 18, 19, 20, 21], []⟩, ⟨[4, 5], [], [17, 18, 19, 20], []⟩, ⟨[6, 4, 5], [], [17, 18, 19, 20], []⟩, ⟨[3, 2, 0, 1, 7, 6, 4, 5], [], [], []⟩])], [(100004, R_SameInts.c100004r), (6, R_SameInts.c6r)], [], tab_eqs⟩
theorem R_SameInts.eq (x_ : dens [(.sl (.int .i64)), (.sl (.int .i64))]) : den R_SameInts.G Go.Proofs.Tryd.f30 [(.sl (.int .i64)), (.sl (.int .i64))] [.bool] x_ = R_SameInts x_.1 x_.2 := by kernel_rfl
theorem R_SameInts.p0 : PieceOk R_SameInts.G (pieceAt (pieces R_SameInts.G.cks (bodyOf Go.Proofs.Tryd.f30)) 0).1 (pieceAt (pieces R_SameInts.G.cks (bodyOf Go.Proofs.Tryd.f30)) 0).2 :=
  loop_ok (s := R_SameInts.c100004r) (by kernel_rfl) (by kernel_rfl) (loops_of (sh := R_SameInts.c100004s) (I := fun x_ s_ => (x_.1, x_.2.1, x_.2.2.1, s_, ())) (fun x_ => rfl) (fun ρ x_ s_ k_ => (nat_br (nat_bnd fun _ => (nat_br nat_leaf nat_leaf)) nat_leaf)) (fun ρ x_ t k => (nat_sel (fun _ => (by kernel_rfl)) (fun _ => (by kernel_rfl)))) (fun x_ s => by kernel_rfl))
theorem R_SameInts.p1 : PieceOk R_SameInts.G (pieceAt (pieces R_SameInts.G.cks (bodyOf Go.Proofs.Tryd.f30)) 1).1 (pieceAt (pieces R_SameInts.G.cks (bodyOf Go.Proofs.Tryd.f30)) 1).2 :=
  region_ok (s := R_SameInts.c6r) (by kernel_rfl) (by kernel_rfl) (sums_of (sh := R_SameInts.c6s) (fun ρ x_ k_ => (nat_bnd fun _ => (nat_bnd fun _ => nat_leaf))) (fun ρ x_ t k => (by kernel_rfl)) (fun x_ => by kernel_rfl))
theorem R_SameInts.ok : CalleeOk Go.Proofs.Tryd.prog 30 R_SameInts.ce := fn_ok (G := R_SameInts.G) tab_ok mixed Go.Proofs.Tryd.func30 ⟨fns_nil, mfns_nil, tab_eqs_ok⟩ (m := 2) (by kernel_rfl) ⟨⟨trivial, R_SameInts.p0⟩, R_SameInts.p1⟩ (by kernel_rfl) R_SameInts.eq
def R_SameCircuit.c1 {ρ : Type} (a0 : Int) (a1 : Int) (a2 : List ((Int) × ((Int) × ((List Int) × ((Int) × ((Int) × (List Int))))))) (b0 : Int) (b1 : Int) (b2 : List ((Int) × ((Int) × ((List Int) × ((Int) × ((Int) × (List Int))))))) (k_ : Bool → Option ρ) : Option ρ :=
  br (a0 != b0)
   (k_ true)
   (br (a1 != b1)
     (k_ true)
     (k_ ((↑(List.length a2) : Int) != (↑(List.length b2) : Int))))
def R_SameCircuit.c1s : Shape := ⟨[(0, q10), (1, q10), (2, q5), (3, q24), (4, q1)], [(2, q4), (3, q4)]⟩
def R_SameCircuit.c1x0 : Shape := ⟨[(0, q10), (1, q10), (2, q5), (3, q24), (4, q1), (28, q1)], [(2, q4), (3, q4)]⟩
def R_SameCircuit.c1r : Ck := Ck.of (T := Bool) R_SameCircuit.c1s (fun ρ x_ k_ => uP x_ fun a x_ => uP x_ fun b x_ => uP x_ fun t4 x_ => uP x_ fun a0 x_ => uP x_ fun a1 x_ => uP x_ fun a2 x_ => uP x_ fun b0 x_ => uP x_ fun b1 x_ => uP x_ fun b2 x_ => R_SameCircuit.c1 a0 a1 a2 b0 b1 b2 k_) (fun ρ x_ r_ k_ => uP x_ fun a x_ => uP x_ fun b x_ => uP x_ fun t4 x_ => uP x_ fun a0 x_ => uP x_ fun a1 x_ => uP x_ fun a2 x_ => uP x_ fun b0 x_ => uP x_ fun b1 x_ => uP x_ fun b2 x_ => k_ 0 (Shape.inj R_SameCircuit.c1x0 (a, b, t4, r_, a0, a1, a2, b0, b1, b2, ())))
def R_SameCircuit.c8 {ρ : Type} (x0 : Int) (x1 : Int) (x2 : List (Int)) (x3 : Int) (x4 : Int) (x5 : List (Int)) (y0 : Int) (y1 : Int) (y2 : List (Int)) (y3 : Int) (y4 : Int) (y5 : List (Int)) (k_ : Bool → Option ρ) : Option ρ :=
  br (x0 != y0)
   (k_ true)
   (br (x1 != y1)
     (k_ true)
     (br (x3 != y3)
       (k_ true)
       (br (x4 != y4)
         (k_ true)
         (bnd (W.R_SameInts x2 y2) fun y =>
          br (!y)
           (k_ true)
           (bnd (W.R_SameInts x5 y5) fun y_1 =>
            k_ (!y_1))))))
def R_SameCircuit.c8s : Shape := ⟨[(0, q10), (1, q10), (2, q5), (3, q24), (4, q1), (5, q0), (6, q45), (7, q42)], [(2, q4), (3, q4), (6, q6), (7, q6)]⟩
def R_SameCircuit.c8x0 : Shape := ⟨[(0, q10), (1, q10), (2, q5), (3, q24), (4, q1), (5, q0), (6, q45), (7, q42), (87, q1)], [(2, q4), (3, q4), (6, q6), (7, q6)]⟩
def R_SameCircuit.c8r : Ck := Ck.of (T := Bool) R_SameCircuit.c8s (fun ρ x_ k_ => uP x_ fun a x_ => uP x_ fun b x_ => uP x_ fun t4 x_ => uP x_ fun i x_ => uP x_ fun a0 x_ => uP x_ fun a1 x_ => uP x_ fun a2 x_ => uP x_ fun b0 x_ => uP x_ fun b1 x_ => uP x_ fun b2 x_ => uP x_ fun x0 x_ => uP x_ fun x1 x_ => uP x_ fun x2 x_ => uP x_ fun x3 x_ => uP x_ fun x4 x_ => uP x_ fun x5 x_ => uP x_ fun y0 x_ => uP x_ fun y1 x_ => uP x_ fun y2 x_ => uP x_ fun y3 x_ => uP x_ fun y4 x_ => uP x_ fun y5 x_ => R_SameCircuit.c8 x0 x1 x2 x3 x4 x5 y0 y1 y2 y3 y4 y5 k_) (fun ρ x_ r_ k_ => uP x_ fun a x_ => uP x_ fun b x_ => uP x_ fun t4 x_ => uP x_ fun i x_ => uP x_ fun a0 x_ => uP x_ fun a1 x_ => uP x_ fun a2 x_ => uP x_ fun b0 x_ => uP x_ fun b1 x_ => uP x_ fun b2 x_ => uP x_ fun x0 x_ => uP x_ fun x1 x_ => uP x_ fun x2 x_ => uP x_ fun x3 x_ => uP x_ fun x4 x_ => uP x_ fun x5 x_ => uP x_ fun y0 x_ => uP x_ fun y1 x_ => uP x_ fun y2 x_ => uP x_ fun y3 x_ => uP x_ fun y4 x_ => uP x_ fun y5 x_ => k_ 0 (Shape.inj R_SameCircuit.c8x0 (a, b, t4, i, r_, a0, a1, a2, b0, b1, b2, x0, x1, x2, x3, x4, x5, y0, y1, y2, y3, y4, y5, ())))
def R_SameCircuit.c100004 {ρ : Type} (i : Int) (a2 : List ((Int) × ((Int) × ((List Int) × ((Int) × ((Int) × (List Int))))))) (b2 : List ((Int) × ((Int) × ((List Int) × ((Int) × ((Int) × (List Int))))))) (k_ : (Int) ⊕ ((Int) ⊕ (Int)) → Option ρ) : Option ρ :=
  br (decide (i < (↑(List.length a2) : Int)))
   (bnd (idx a2 i) fun y =>
    bnd (idx b2 i) fun y_1 =>
    bnd (W.R_SameCircuit.c8 (Prod.fst y) (Prod.fst (Prod.snd y)) (Prod.fst (Prod.snd (Prod.snd y))) (Prod.fst (Prod.snd (Prod.snd (Prod.snd y)))) (Prod.fst (Prod.snd (Prod.snd (Prod.snd (Prod.snd y))))) (Prod.snd (Prod.snd (Prod.snd (Prod.snd (Prod.snd y))))) (Prod.fst y_1) (Prod.fst (Prod.snd y_1)) (Prod.fst (Prod.snd (Prod.snd y_1))) (Prod.fst (Prod.snd (Prod.snd (Prod.snd y_1)))) (Prod.fst (Prod.snd (Prod.snd (Prod.snd (Prod.snd y_1))))) (Prod.snd (Prod.snd (Prod.snd (Prod.snd (Prod.snd y_1))))) some) fun y_2 =>
    br y_2
     (k_ (.inr (.inl i)))
     (k_ (.inl (IntKind.wrap IntKind.i64 (i + (1 : Int))))))
   (k_ (.inr (.inr i)))
def R_SameCircuit.c100004s : Shape := ⟨[(0, q10), (1, q10), (2, q5), (3, q24), (4, q1), (5, q0)], [(2, q4), (3, q4)]⟩
def R_SameCircuit.c100004x0 : Shape := ⟨[(0, q10), (1, q10), (2, q5), (3, q24), (4, q1), (5, q0)], [(2, q4), (3, q4)]⟩
def R_SameCircuit.c100004x1 : Shape := ⟨[(0, q10), (1, q10), (2, q5), (3, q24), (4, q1), (5, q0)], [(2, q4), (3, q4)]⟩
def R_SameCircuit.c100004r : Ck := Ck.ofLoop (S := Int) (T := (Int) ⊕ (Int)) R_SameCircuit.c100004s (fun x_ => uP x_ fun a x_ => uP x_ fun b x_ => uP x_ fun t4 x_ => uP x_ fun i x_ => uP x_ fun a0 x_ => uP x_ fun a1 x_ => uP x_ fun a2 x_ => uP x_ fun b0 x_ => uP x_ fun b1 x_ => uP x_ fun b2 x_ => i) (fun ρ x_ s_ k_ => uP x_ fun a x_ => uP x_ fun b x_ => uP x_ fun t4 x_ => uP x_ fun i x_ => uP x_ fun a0 x_ => uP x_ fun a1 x_ => uP x_ fun a2 x_ => uP x_ fun b0 x_ => uP x_ fun b1 x_ => uP x_ fun b2 x_ => R_SameCircuit.c100004 s_ a2 b2 k_) (fun ρ x_ r_ k_ => uP x_ fun a x_ => uP x_ fun b x_ => uP x_ fun t4 x_ => uP x_ fun i x_ => uP x_ fun a0 x_ => uP x_ fun a1 x_ => uP x_ fun a2 x_ => uP x_ fun b0 x_ => uP x_ fun b1 x_ => uP x_ fun b2 x_ => sel r_ (fun r_ => k_ 1 (Shape.inj R_SameCircuit.c100004x0 (a, b, false, r_, a0, a1, a2, b0, b1, b2, ()))) (fun r_ => k_ 2 (Shape.inj R_SameCircuit.c100004x1 (a, b, t4, r_, a0, a1, a2, b0, b1, b2, ()))))
def R_SameCircuit (a : (Int) × ((Int) × (List ((Int) × ((Int) × ((List Int) × ((Int) × ((Int) × (List Int))))))))) (b : (Int) × ((Int) × (List ((Int) × ((Int) × ((List Int) × ((Int) × ((Int) × (List Int))))))))) : Option (Bool) :=
  bnd (W.R_SameCircuit.c1 (Prod.fst a) (Prod.fst (Prod.snd a)) (Prod.snd (Prod.snd a)) (Prod.fst b) (Prod.fst (Prod.snd b)) (Prod.snd (Prod.snd b)) some) fun y =>
  br y
   (some false)
   (bnd (iter (fun s ↦ W.R_SameCircuit.c100004 s (Prod.snd (Prod.snd a)) (Prod.snd (Prod.snd b)) some) (0 : Int)) fun y_1 =>
    sel y_1
     (fun u => some false)
     (fun v => some true))
def R_SameCircuit.ce : Go.Ql.Callee := ⟨[(.st (.pair (.int .i64) (.pair (.int .i64) (.sl (.st (.pair (.int .i64) (.pair (.int .i64) (.pair (.sl (.int .i64)) (.pair (.int .i64) (.pair (.int .i64) (.sl (.int .i64)))))))))))), (.st (.pair (.int .i64) (.pair (.int .i64) (.sl (.st (.pair (.int .i64) (.pair (.int .i64) (.pair (.sl (.int .i64)) (.pair (.int .i64) (.pair (.int .i64) (.sl (.int .i64))))))))))))], [.bool], fun x_ => R_SameCircuit x_.1 x_.2⟩
def R_SameCircuit.G : Env := ⟨88, tab, [(30, R_SameInts.ce)], [0, 1, 2, 3, 4, 5, 6, 7, 28, 33, 87], [], [], [(100004, R_SameCircuit.c100004r), (8, R_SameCircuit.c8r), (1, R_SameCircuit.c1r)], [], tab_eqs⟩
theorem R_SameCircuit.eq (x_ : dens [(.st (.pair (.int .i64) (.pair (.int .i64) (.sl (.st (.pair (.int .i64) (.pair (.int .i64) (.pair (.sl (.int .i64)) (.pair (.int .i64) (.pair (.int .i64) (.sl (.int .i64)))))))))))), (.st (.pair (.int .i64) (.pair (.int .i64) (.sl (.st (.pair (.int .i64) (.pair (.int .i64) (.pair (.sl (.int .i64)) (.pair (.int .i64) (.pair (.int .i64) (.sl (.int .i64))))))))))))]) : den R_SameCircuit.G Go.Proofs.Tryd.f29 [(.st (.pair (.int .i64) (.pair (.int .i64) (.sl (.st (.pair (.int .i64) (.pair (.int .i64) (.pair (.sl (.int .i64)) (.pair (.int .i64) (.pair (.int .i64) (.sl (.int .i64)))))))))))), (.st (.pair (.int .i64) (.pair (.int .i64) (.sl (.st (.pair (.int .i64) (.pair (.int .i64) (.pair (.sl (.int .i64)) (.pair (.int .i64) (.pair (.int .i64) (.sl (.int .i64))))))))))))] [.bool] x_ = R_SameCircuit x_.1 x_.2 := by kernel_rfl
theorem R_SameCircuit.p0 : PieceOk R_SameCircuit.G (pieceAt (pieces R_SameCircuit.G.cks (bodyOf Go.Proofs.Tryd.f29)) 0).1 (pieceAt (pieces R_SameCircuit.G.cks (bodyOf Go.Proofs.Tryd.f29)) 0).2 :=
  region_ok (s := R_SameCircuit.c1r) (by kernel_rfl) (by kernel_rfl) (sums_of (sh := R_SameCircuit.c1s) (fun ρ x_ k_ => (nat_br nat_leaf (nat_br nat_leaf nat_leaf))) (fun ρ x_ t k => (by kernel_rfl)) (fun x_ => by kernel_rfl))
theorem R_SameCircuit.p1 : PieceOk R_SameCircuit.G (pieceAt (pieces R_SameCircuit.G.cks (bodyOf Go.Proofs.Tryd.f29)) 1).1 (pieceAt (pieces R_SameCircuit.G.cks (bodyOf Go.Proofs.Tryd.f29)) 1).2 :=
  loop_ok (s := R_SameCircuit.c100004r) (by kernel_rfl) (by kernel_rfl) (loops_of (sh := R_SameCircuit.c100004s) (I := fun x_ s_ => (x_.1, x_.2.1, x_.2.2.1, s_, x_.2.2.2.2.1, x_.2.2.2.2.2.1, x_.2.2.2.2.2.2.1, x_.2.2.2.2.2.2.2.1, x_.2.2.2.2.2.2.2.2.1, x_.2.2.2.2.2.2.2.2.2.1, ())) (fun x_ => rfl) (fun ρ x_ s_ k_ => (nat_br (nat_bnd fun _ => (nat_bnd fun _ => (nat_bnd fun _ => (nat_br nat_leaf nat_leaf)))) nat_leaf)) (fun ρ x_ t k => (nat_sel (fun _ => (by kernel_rfl)) (fun _ => (by kernel_rfl)))) (fun x_ s => by kernel_rfl))
theorem R_SameCircuit.p2 : PieceOk R_SameCircuit.G (pieceAt (pieces R_SameCircuit.G.cks (bodyOf Go.Proofs.Tryd.f29)) 2).1 (pieceAt (pieces R_SameCircuit.G.cks (bodyOf Go.Proofs.Tryd.f29)) 2).2 :=
  region_ok (s := R_SameCircuit.c8r) (by kernel_rfl) (by kernel_rfl) (sums_of (sh := R_SameCircuit.c8s) (fun ρ x_ k_ => (nat_br nat_leaf (nat_br nat_leaf (nat_br nat_leaf (nat_br nat_leaf (nat_bnd fun _ => (nat_br nat_leaf (nat_bnd fun _ => nat_leaf)))))))) (fun ρ x_ t k => (by kernel_rfl)) (fun x_ => by kernel_rfl))
theorem R_SameCircuit.ok : CalleeOk Go.Proofs.Tryd.prog 29 R_SameCircuit.ce := fn_ok (G := R_SameCircuit.G) tab_ok mixed Go.Proofs.Tryd.func29 ⟨(fns_cons R_SameInts.ok fns_nil), mfns_nil, tab_eqs_ok⟩ (m := 3) (by kernel_rfl) ⟨⟨⟨trivial, R_SameCircuit.p0⟩, R_SameCircuit.p1⟩, R_SameCircuit.p2⟩ (by kernel_rfl) R_SameCircuit.eq
def circ_Pure (c : (Int) × ((Int) × (List ((Int) × ((Int) × ((List Int) × ((Int) × ((Int) × (List Int))))))))) : Option ((Int) × (Int)) :=
  bnd (W.circ_pure (Prod.fst c, Prod.fst (Prod.snd c), Prod.snd (Prod.snd c))) fun y =>
  some (Prod.fst y, Prod.snd y)
def circ_Pure.ce : Go.Ql.Callee := ⟨[(.st (.pair (.int .i64) (.pair (.int .i64) (.sl (.st (.pair (.int .i64) (.pair (.int .i64) (.pair (.sl (.int .i64)) (.pair (.int .i64) (.pair (.int .i64) (.sl (.int .i64))))))))))))], [(.st (.pair (.int .i64) (.int .i64)))], fun x_ => circ_Pure x_⟩
def circ_Pure.G : Env := ⟨5, tab, [(44, circ_pure.ce)], [0, 1, 2], [], [], [], [], tab_eqs⟩
theorem circ_Pure.eq (x_ : dens [(.st (.pair (.int .i64) (.pair (.int .i64) (.sl (.st (.pair (.int .i64) (.pair (.int .i64) (.pair (.sl (.int .i64)) (.pair (.int .i64) (.pair (.int .i64) (.sl (.int .i64))))))))))))]) : den circ_Pure.G Go.Proofs.Tryd.f16 [(.st (.pair (.int .i64) (.pair (.int .i64) (.sl (.st (.pair (.int .i64) (.pair (.int .i64) (.pair (.sl (.int .i64)) (.pair (.int .i64) (.pair (.int .i64) (.sl (.int .i64))))))))))))] [(.st (.pair (.int .i64) (.int .i64)))] x_ = circ_Pure x_ := by kernel_rfl
theorem circ_Pure.ok : CalleeOk Go.Proofs.Tryd.prog 16 circ_Pure.ce := fn_ok (G := circ_Pure.G) tab_ok mixed Go.Proofs.Tryd.func16 ⟨(fns_cons circ_pure.ok fns_nil), mfns_nil, tab_eqs_ok⟩ (m := 0) (by kernel_rfl) trivial (by kernel_rfl) circ_Pure.eq
abbrev qd0 : SD := .one (.val .str)
abbrev qd1 : SD := .one (.val (.int .i64))
abbrev qd2 : SD := .one (.own 0 0)
abbrev qd3 : SO := .arr 0 false 9 .str
abbrev qd4 : SD := .one (.own 8 0)
abbrev qd5 : SD := .one (.own 31 0)
def strings_genSplit.pre : Shape := ⟨[(0, qd0), (1, qd0), (2, qd1), (3, qd1)], []⟩
def strings_genSplit.post : Shape := ⟨[(0, qd2)], [(0, qd3)]⟩
def strings_genSplit.c220485 {ρ : Type} (s : List UInt8) (sep : List UInt8) (n : Int) (k_ : Int → Option ρ) : Option ρ :=
  br (decide (n < (0 : Int)))
   (bnd (W.strings_Count s sep) fun y =>
    k_ (IntKind.wrap IntKind.i64 (y + (1 : Int))))
   (k_ n)
def strings_genSplit.c220485s : Shape := ⟨[(0, qd0), (1, qd0), (2, qd1), (3, qd1), (8, qd4)], [(8, qd3)]⟩
def strings_genSplit.c220485x0 : Shape := ⟨[(0, qd0), (1, qd0), (2, qd1), (3, qd1), (8, qd4)], [(8, qd3)]⟩
def strings_genSplit.c220485r : Ck := Ck.of (T := Int) strings_genSplit.c220485s (fun ρ x_ k_ => uP x_ fun s x_ => uP x_ fun sep x_ => uP x_ fun sepSave x_ => uP x_ fun n x_ => uP x_ fun t8 x_ => strings_genSplit.c220485 s sep n k_) (fun ρ x_ r_ k_ => uP x_ fun s x_ => uP x_ fun sep x_ => uP x_ fun sepSave x_ => uP x_ fun n x_ => uP x_ fun t8 x_ => k_ 0 (Shape.inj strings_genSplit.c220485x0 (s, sep, sepSave, r_, t8, ())))
def strings_genSplit.c100011 {ρ : Type} (s : List UInt8) (sep : List UInt8) (sepSave : Int) (n : Int) (i : Int) (t31 : List (List UInt8)) (k_ : ((List UInt8) × (Int) × (List (List UInt8))) ⊕ ((List UInt8) × (Int) × (List (List UInt8))) → Option ρ) : Option ρ :=
  br (decide (i < n))
   (bnd (W.strings_Index s sep) fun y =>
    br (decide (y < (0 : Int)))
     (k_ (.inr (s, i, t31)))
     (bnd (okIf (decide ((0 : Int) ≤ IntKind.wrap IntKind.i64 (y + sepSave)) && decide (IntKind.wrap IntKind.i64 (y + sepSave) ≤ (↑(List.length s) : Int)))) fun y_1 =>
      bnd (inR (List.length t31) i) fun y_2 =>
      bnd (idx t31 i) fun y_3 =>
      bnd (okIf (decide ((0 : Int) ≤ IntKind.wrap IntKind.i64 (y + (↑(List.length sep) : Int))) && decide (IntKind.wrap IntKind.i64 (y + (↑(List.length sep) : Int)) ≤ (↑(List.length s) : Int)) && decide ((↑(List.length s) : Int) ≤ (↑(List.length s) : Int)))) fun y_4 =>
      k_ (.inl ((List.drop (Int.toNat (IntKind.wrap IntKind.i64 (y + (↑(List.length sep) : Int)))) (List.take (Int.toNat (↑(List.length s) : Int)) s)), (IntKind.wrap IntKind.i64 (i + (1 : Int))), (List.set t31 (Int.toNat i) (List.take (Int.toNat (IntKind.wrap IntKind.i64 (y + sepSave))) s))))))
   (k_ (.inr (s, i, t31)))
def strings_genSplit.c100011s : Shape := ⟨[(0, qd0), (1, qd0), (2, qd1), (3, qd1), (8, qd4), (9, qd5), (10, qd1)], [(8, qd3), (31, qd3)]⟩
def strings_genSplit.c100011x0 : Shape := ⟨[(0, qd0), (1, qd0), (2, qd1), (3, qd1), (8, qd4), (9, qd5), (10, qd1)], [(8, qd3), (31, qd3)]⟩
def strings_genSplit.c100011r : Ck := Ck.ofLoop (S := (List UInt8) × (Int) × (List (List UInt8))) (T := (List UInt8) × (Int) × (List (List UInt8))) strings_genSplit.c100011s (fun x_ => uP x_ fun s x_ => uP x_ fun sep x_ => uP x_ fun sepSave x_ => uP x_ fun n x_ => uP x_ fun i x_ => uP x_ fun t8 x_ => uP x_ fun t31 x_ => (s, i, t31)) (fun ρ x_ s_ k_ => uP x_ fun s x_ => uP x_ fun sep x_ => uP x_ fun sepSave x_ => uP x_ fun n x_ => uP x_ fun i x_ => uP x_ fun t8 x_ => uP x_ fun t31 x_ => strings_genSplit.c100011 s_.1 sep sepSave n s_.2.1 s_.2.2 k_) (fun ρ x_ r_ k_ => uP x_ fun s x_ => uP x_ fun sep x_ => uP x_ fun sepSave x_ => uP x_ fun n x_ => uP x_ fun i x_ => uP x_ fun t8 x_ => uP x_ fun t31 x_ => k_ 2 (Shape.inj strings_genSplit.c100011x0 (r_.1, sep, sepSave, n, r_.2.1, t8, r_.2.2, ())))
def strings_genSplit (s : List UInt8) (sep : List UInt8) (sepSave : Int) (n : Int) : Option ((List (List UInt8)) × Unit) :=
  br (n == (0 : Int))
   (some (uP ([], ()) fun u r ↦ (u, ())))
   (br (sep == Array.toList (ByteArray.data (ByteArray.mk #[])))
     (none)
     (bnd (W.strings_genSplit.c220485 s sep n some) fun y =>
      bnd (okIf (decide ((0 : Int) ≤ Min.min y (IntKind.wrap IntKind.i64 ((↑(List.length s) : Int) + (1 : Int)))) && decide (Min.min y (IntKind.wrap IntKind.i64 ((↑(List.length s) : Int) + (1 : Int))) ≤ Min.min y (IntKind.wrap IntKind.i64 ((↑(List.length s) : Int) + (1 : Int)))) && decide (Min.min y (IntKind.wrap IntKind.i64 ((↑(List.length s) : Int) + (1 : Int))) * (↑(16 : Nat) : Int) ≤ (140737488355328 : Int)) && decide (Min.min y (IntKind.wrap IntKind.i64 ((↑(List.length s) : Int) + (1 : Int))) ≤ (140737488355328 : Int)))) fun y_1 =>
      bnd (iter (fun s_1 ↦ W.strings_genSplit.c100011 (Prod.fst s_1) sep sepSave (IntKind.wrap IntKind.i64 (Min.min y (IntKind.wrap IntKind.i64 ((↑(List.length s) : Int) + (1 : Int))) - (1 : Int))) (Prod.fst (Prod.snd s_1)) (Prod.snd (Prod.snd s_1)) some) (s, (0 : Int), List.replicate (Int.toNat (Min.min y (IntKind.wrap IntKind.i64 ((↑(List.length s) : Int) + (1 : Int))))) [])) fun y_2 =>
      bnd (inR (List.length (Prod.snd (Prod.snd y_2))) (Prod.fst (Prod.snd y_2))) fun y_3 =>
      bnd (idx (Prod.snd (Prod.snd y_2)) (Prod.fst (Prod.snd y_2))) fun y_4 =>
      bnd (okIf (decide ((0 : Int) ≤ IntKind.wrap IntKind.i64 (Prod.fst (Prod.snd y_2) + (1 : Int))) && decide (IntKind.wrap IntKind.i64 (Prod.fst (Prod.snd y_2) + (1 : Int)) ≤ (↑(List.length (List.set (Prod.snd (Prod.snd y_2)) (Int.toNat (Prod.fst (Prod.snd y_2))) (Prod.fst y_2))) : Int)))) fun y_5 =>
      some (uP (List.take (Int.toNat (IntKind.wrap IntKind.i64 (Prod.fst (Prod.snd y_2) + (1 : Int)))) (List.set (Prod.snd (Prod.snd y_2)) (Int.toNat (Prod.fst (Prod.snd y_2))) (Prod.fst y_2)), ()) fun u r ↦ (u, ()))))
def strings_genSplit.mc : MCallee := ⟨79, strings_genSplit.pre, strings_genSplit.post, fun x_ => strings_genSplit x_.1 x_.2.1 x_.2.2.1 x_.2.2.2.1⟩
def strings_genSplit.G : Env := ⟨66, tab, [(88, strings_Count.ce), (89, strings_Index.ce)], [0, 1, 2, 3, 8, 9, 10, 11, 13, 15, 20, 36, 41], [8, 31], [], [(100011, strings_genSplit.c100011r), (220485, strings_genSplit.c220485r)], [], tab_eqs⟩
theorem strings_genSplit.eq (x_ : densU strings_genSplit.mc.pre.tys) : denM strings_genSplit.G Go.Proofs.Tryd.f79 strings_genSplit.mc.pre strings_genSplit.mc.post x_ = strings_genSplit.mc.F x_ := by kernel_rfl
theorem strings_genSplit.p0 : PieceOk strings_genSplit.G (pieceAt (pieces strings_genSplit.G.cks (bodyOf Go.Proofs.Tryd.f79)) 0).1 (pieceAt (pieces strings_genSplit.G.cks (bodyOf Go.Proofs.Tryd.f79)) 0).2 :=
  join_ok (s := strings_genSplit.c220485r) (by kernel_rfl) (by kernel_rfl) (sums_of (sh := strings_genSplit.c220485s) (fun ρ x_ k_ => (nat_br (nat_bnd fun _ => nat_leaf) nat_leaf)) (fun ρ x_ t k => (by kernel_rfl)) (fun x_ => by kernel_rfl))
theorem strings_genSplit.p1 : PieceOk strings_genSplit.G (pieceAt (pieces strings_genSplit.G.cks (bodyOf Go.Proofs.Tryd.f79)) 1).1 (pieceAt (pieces strings_genSplit.G.cks (bodyOf Go.Proofs.Tryd.f79)) 1).2 :=
  loop_ok (s := strings_genSplit.c100011r) (by kernel_rfl) (by kernel_rfl) (loops_of (sh := strings_genSplit.c100011s) (I := fun x_ s_ => (s_.1, x_.2.1, x_.2.2.1, x_.2.2.2.1, s_.2.1, x_.2.2.2.2.2.1, s_.2.2, ())) (fun x_ => rfl) (fun ρ x_ s_ k_ => (nat_br (nat_bnd fun _ => (nat_br nat_leaf (nat_bnd fun _ => (nat_bnd fun _ => (nat_bnd fun _ => (nat_bnd fun _ => nat_leaf)))))) nat_leaf)) (fun ρ x_ t k => (by kernel_rfl)) (fun x_ s => by kernel_rfl))
theorem strings_genSplit.ok : MOk Go.Proofs.Tryd.prog 79 strings_genSplit.mc := fnm_ok (G := strings_genSplit.G) tab_ok mixed Go.Proofs.Tryd.func79 ⟨(fns_cons strings_Count.ok (fns_cons strings_Index.ok fns_nil)), mfns_nil, tab_eqs_ok⟩ (m := 2) (by kernel_rfl) ⟨⟨trivial, strings_genSplit.p0⟩, strings_genSplit.p1⟩ (by kernel_rfl) strings_genSplit.eq
def strings_Split.pre : Shape := ⟨[(0, qd0), (1, qd0)], []⟩
def strings_Split.post : Shape := ⟨[(0, qd2)], [(0, qd3)]⟩
def strings_Split (s : List UInt8) (sep : List UInt8) : Option ((List (List UInt8)) × Unit) :=
  bnd (W.strings_genSplit (Prod.fst (uP (uP (s, ()) fun u r ↦ (u, uP (sep, ()) fun u r ↦ (u, uP ((0 : Int), ()) fun u r ↦ (u, uP ((-1 : Int), ()) fun u r ↦ (u, ()))))) fun u r ↦ (u, uP r fun u r ↦ (u, uP r fun u r ↦ (u, uP r fun u r ↦ (u, ())))))) (Prod.fst (Prod.snd (uP (uP (s, ()) fun u r ↦ (u, uP (sep, ()) fun u r ↦ (u, uP ((0 : Int), ()) fun u r ↦ (u, uP ((-1 : Int), ()) fun u r ↦ (u, ()))))) fun u r ↦ (u, uP r fun u r ↦ (u, uP r fun u r ↦ (u, uP r fun u r ↦ (u, ()))))))) (Prod.fst (Prod.snd (Prod.snd (uP (uP (s, ()) fun u r ↦ (u, uP (sep, ()) fun u r ↦ (u, uP ((0 : Int), ()) fun u r ↦ (u, uP ((-1 : Int), ()) fun u r ↦ (u, ()))))) fun u r ↦ (u, uP r fun u r ↦ (u, uP r fun u r ↦ (u, uP r fun u r ↦ (u, ())))))))) (Prod.fst (Prod.snd (Prod.snd (Prod.snd (uP (uP (s, ()) fun u r ↦ (u, uP (sep, ()) fun u r ↦ (u, uP ((0 : Int), ()) fun u r ↦ (u, uP ((-1 : Int), ()) fun u r ↦ (u, ()))))) fun u r ↦ (u, uP r fun u r ↦ (u, uP r fun u r ↦ (u, uP r fun u r ↦ (u, ())))))))))) fun y =>
  some (uP (Prod.fst y, ()) fun u r ↦ (u, ()))
def strings_Split.mc : MCallee := ⟨60, strings_Split.pre, strings_Split.post, fun x_ => strings_Split x_.1 x_.2.1⟩
def strings_Split.G : Env := ⟨8, tab, [], [0, 1, 4], [4, 7], [], [], [(79, strings_genSplit.mc)], tab_eqs⟩
theorem strings_Split.eq (x_ : densU strings_Split.mc.pre.tys) : denM strings_Split.G Go.Proofs.Tryd.f60 strings_Split.mc.pre strings_Split.mc.post x_ = strings_Split.mc.F x_ := by kernel_rfl
theorem strings_Split.ok : MOk Go.Proofs.Tryd.prog 60 strings_Split.mc := fnm_ok (G := strings_Split.G) tab_ok mixed Go.Proofs.Tryd.func60 ⟨fns_nil, (mfns_cons strings_genSplit.ok mfns_nil), tab_eqs_ok⟩ (m := 0) (by kernel_rfl) trivial (by kernel_rfl) strings_Split.eq
abbrev qd6 : SD := .one (.ref 1000000 0)
abbrev qd7 : SO := .box [.win 2000000 0, .val .bool]
abbrev qd8 : SD := .one (.val .bool)
def circ_cursor_meets.pre : Shape := ⟨[(0, qd6), (1, qd0)], [(1000000, qd7), (2000000, qd3)]⟩
def circ_cursor_meets.post : Shape := ⟨[(0, qd8)], [(1000000, qd7), (2000000, qd3)]⟩
def circ_cursor_meets.c1 {ρ : Type} (w : List UInt8) (t10000000lo : Int) (t10000000n : Int) (t2000000 : List (List UInt8)) (k_ : Bool → Option ρ) : Option ρ :=
  br (decide ((↑(List.length (part t10000000lo t10000000n t2000000)) : Int) > (0 : Int)))
   (bnd (okIf (decide ((0 : Int) < t10000000n))) fun y =>
    bnd (idx t2000000 (t10000000lo + (0 : Int))) fun y_1 =>
    k_ (y_1 == w))
   (k_ false)
def circ_cursor_meets.c1s : Shape := ⟨[(0, qd6), (1, qd0), (4, qd8)], [(1000000, qd7), (2000000, qd3)]⟩
def circ_cursor_meets.c1x0 : Shape := ⟨[(0, qd6), (1, qd0), (4, qd8), (20, qd8)], [(1000000, qd7), (2000000, qd3)]⟩
def circ_cursor_meets.c1r : Ck := Ck.of (T := Bool) circ_cursor_meets.c1s (fun ρ x_ k_ => uP x_ fun w x_ => uP x_ fun t4 x_ => uP x_ fun t10000000lo x_ => uP x_ fun t10000000n x_ => uP x_ fun t10000001 x_ => uP x_ fun t2000000 x_ => circ_cursor_meets.c1 w t10000000lo t10000000n t2000000 k_) (fun ρ x_ r_ k_ => uP x_ fun w x_ => uP x_ fun t4 x_ => uP x_ fun t10000000lo x_ => uP x_ fun t10000000n x_ => uP x_ fun t10000001 x_ => uP x_ fun t2000000 x_ => k_ 0 (Shape.inj circ_cursor_meets.c1x0 (w, t4, r_, t10000000lo, t10000000n, t10000001, t2000000, ())))
def circ_cursor_meets (w : List UInt8) (t10000000lo : Int) (t10000000n : Int) (t10000001 : Bool) (t2000000 : List (List UInt8)) : Option ((Bool) × (Int) × (Int) × (Bool) × (List (List UInt8)) × Unit) :=
  bnd (W.circ_cursor_meets.c1 w t10000000lo t10000000n t2000000 some) fun y =>
  br y
   (bnd (okIf (decide ((1 : Int) ≤ t10000000n) && decide (t10000000n ≤ t10000000n))) fun y_1 =>
    some (uP (uP (true, ()) fun u r ↦ (u, ())) fun u r ↦ (u, uP (uP (t10000000lo + (1 : Int), t10000000n - (1 : Int), ()) fun u r ↦ (u, uP r fun u r ↦ (u, uP (t10000001, ()) fun u r ↦ (u, ())))) fun u r ↦ (u, uP r fun u r ↦ (u, uP r fun u r ↦ (u, uP (t2000000, ()) fun u r ↦ (u, ())))))))
   (some (uP (uP (false, ()) fun u r ↦ (u, ())) fun u r ↦ (u, uP (uP (t10000000lo, t10000000n, ()) fun u r ↦ (u, uP r fun u r ↦ (u, uP (t10000001, ()) fun u r ↦ (u, ())))) fun u r ↦ (u, uP r fun u r ↦ (u, uP r fun u r ↦ (u, uP (t2000000, ()) fun u r ↦ (u, ())))))))
def circ_cursor_meets.mc : MCallee := ⟨61, circ_cursor_meets.pre, circ_cursor_meets.post, fun x_ => circ_cursor_meets x_.1 x_.2.1 x_.2.2.1 x_.2.2.2.1 x_.2.2.2.2.1⟩
def circ_cursor_meets.G : Env := ⟨29, tab, [], [0, 1, 4, 20], [1000000, 2000000], [], [(1, circ_cursor_meets.c1r)], [], tab_eqs⟩
theorem circ_cursor_meets.eq (x_ : densU circ_cursor_meets.mc.pre.tys) : denM circ_cursor_meets.G Go.Proofs.Tryd.f61 circ_cursor_meets.mc.pre circ_cursor_meets.mc.post x_ = circ_cursor_meets.mc.F x_ := by kernel_rfl
theorem circ_cursor_meets.p0 : PieceOk circ_cursor_meets.G (pieceAt (pieces circ_cursor_meets.G.cks (bodyOf Go.Proofs.Tryd.f61)) 0).1 (pieceAt (pieces circ_cursor_meets.G.cks (bodyOf Go.Proofs.Tryd.f61)) 0).2 :=
  region_ok (s := circ_cursor_meets.c1r) (by kernel_rfl) (by kernel_rfl) (sums_of (sh := circ_cursor_meets.c1s) (fun ρ x_ k_ => (nat_br (nat_bnd fun _ => (nat_bnd fun _ => nat_leaf)) nat_leaf)) (fun ρ x_ t k => (by kernel_rfl)) (fun x_ => by kernel_rfl))
theorem circ_cursor_meets.ok : MOk Go.Proofs.Tryd.prog 61 circ_cursor_meets.mc := fnm_ok (G := circ_cursor_meets.G) tab_ok mixed Go.Proofs.Tryd.func61 ⟨fns_nil, mfns_nil, tab_eqs_ok⟩ (m := 1) (by kernel_rfl) ⟨trivial, circ_cursor_meets.p0⟩ (by kernel_rfl) circ_cursor_meets.eq
def circ_number.c1 {ρ : Type} (w : List UInt8) (k_ : Bool → Option ρ) : Option ρ :=
  br ((↑(List.length w) : Int) == (0 : Int))
   (k_ true)
   (br (decide ((↑(List.length w) : Int) > (9 : Int)))
     (k_ true)
     (bnd (idx w (0 : Int)) fun y =>
      br ((↑(UInt8.toNat y) : Int) == (48 : Int))
       (k_ (decide ((↑(List.length w) : Int) > (1 : Int))))
       (k_ false)))
def circ_number.c1s : Shape := ⟨[(0, qd0), (2, qd1), (3, qd8)], []⟩
def circ_number.c1x0 : Shape := ⟨[(0, qd0), (2, qd1), (3, qd8), (23, qd8)], []⟩
def circ_number.c1r : Ck := Ck.of (T := Bool) circ_number.c1s (fun ρ x_ k_ => uP x_ fun w x_ => uP x_ fun t2 x_ => uP x_ fun t3 x_ => circ_number.c1 w k_) (fun ρ x_ r_ k_ => uP x_ fun w x_ => uP x_ fun t2 x_ => uP x_ fun t3 x_ => k_ 0 (Shape.inj circ_number.c1x0 (w, t2, t3, r_, ())))
def circ_number.c7 {ρ : Type} (w : List UInt8) (i : Int) (k_ : Bool → Option ρ) : Option ρ :=
  bnd (idx w i) fun y =>
  br (decide ((↑(UInt8.toNat y) : Int) < (48 : Int)))
   (k_ true)
   (bnd (idx w i) fun y_1 =>
    k_ (decide ((↑(UInt8.toNat y_1) : Int) > (57 : Int))))
def circ_number.c7s : Shape := ⟨[(0, qd0), (2, qd1), (3, qd8), (4, qd1), (5, qd1), (25, qd1), (26, qd1)], []⟩
def circ_number.c7x0 : Shape := ⟨[(0, qd0), (2, qd1), (3, qd8), (4, qd1), (5, qd1), (25, qd1), (26, qd1), (38, qd8)], []⟩
def circ_number.c7r : Ck := Ck.of (T := Bool) circ_number.c7s (fun ρ x_ k_ => uP x_ fun w x_ => uP x_ fun t2 x_ => uP x_ fun t3 x_ => uP x_ fun n x_ => uP x_ fun i x_ => uP x_ fun t25 x_ => uP x_ fun t26 x_ => circ_number.c7 w i k_) (fun ρ x_ r_ k_ => uP x_ fun w x_ => uP x_ fun t2 x_ => uP x_ fun t3 x_ => uP x_ fun n x_ => uP x_ fun i x_ => uP x_ fun t25 x_ => uP x_ fun t26 x_ => k_ 0 (Shape.inj circ_number.c7x0 (w, t2, t3, n, i, t25, t26, r_, ())))
def circ_number.c100005 {ρ : Type} (w : List UInt8) (n : Int) (t25 : Int) (t26 : Int) (k_ : ((Int) × (Int)) ⊕ (((Int) × (Int)) ⊕ ((Int) × (Int))) → Option ρ) : Option ρ :=
  br (decide (t26 < t25))
   (bnd (W.circ_number.c7 w t26 some) fun y =>
    br y
     (k_ (.inr (.inl (n, t26))))
     (bnd (idx w t26) fun y_1 =>
      k_ (.inl ((IntKind.wrap IntKind.i64 (IntKind.wrap IntKind.i64 (n * (10 : Int)) + IntKind.wrap IntKind.i64 (IntKind.wrap IntKind.u8 ((↑(UInt8.toNat y_1) : Int) - (48 : Int))))), (IntKind.wrap IntKind.i64 (t26 + (1 : Int)))))))
   (k_ (.inr (.inr (n, t26))))
def circ_number.c100005s : Shape := ⟨[(0, qd0), (2, qd1), (3, qd8), (4, qd1), (25, qd1), (26, qd1)], []⟩
def circ_number.c100005x0 : Shape := ⟨[(0, qd0), (2, qd1), (3, qd8), (4, qd1), (25, qd1), (26, qd1)], []⟩
def circ_number.c100005x1 : Shape := ⟨[(0, qd0), (2, qd1), (3, qd8), (4, qd1), (25, qd1), (26, qd1)], []⟩
def circ_number.c100005r : Ck := Ck.ofLoop (S := (Int) × (Int)) (T := ((Int) × (Int)) ⊕ ((Int) × (Int))) circ_number.c100005s (fun x_ => uP x_ fun w x_ => uP x_ fun t2 x_ => uP x_ fun t3 x_ => uP x_ fun n x_ => uP x_ fun t25 x_ => uP x_ fun t26 x_ => (n, t26)) (fun ρ x_ s_ k_ => uP x_ fun w x_ => uP x_ fun t2 x_ => uP x_ fun t3 x_ => uP x_ fun n x_ => uP x_ fun t25 x_ => uP x_ fun t26 x_ => circ_number.c100005 w s_.1 t25 s_.2 k_) (fun ρ x_ r_ k_ => uP x_ fun w x_ => uP x_ fun t2 x_ => uP x_ fun t3 x_ => uP x_ fun n x_ => uP x_ fun t25 x_ => uP x_ fun t26 x_ => sel r_ (fun r_ => k_ 1 (Shape.inj circ_number.c100005x0 (w, (0 : Int), false, r_.1, t25, r_.2, ()))) (fun r_ => k_ 2 (Shape.inj circ_number.c100005x1 (w, t2, t3, r_.1, t25, r_.2, ()))))
def circ_number (w : List UInt8) : Option ((Int) × (Bool)) :=
  bnd (W.circ_number.c1 w some) fun y =>
  br y
   (some ((0 : Int), false))
   (bnd (iter (fun s ↦ W.circ_number.c100005 w (Prod.fst s) (↑(List.length w) : Int) (Prod.snd s) some) ((0 : Int), (0 : Int))) fun y_1 =>
    sel y_1
     (fun u => some ((0 : Int), false))
     (fun v => some (Prod.fst v, true)))
def circ_number.ce : Go.Ql.Callee := ⟨[.str], [(.int .i64), .bool], fun x_ => circ_number x_⟩
def circ_number.G : Env := ⟨49, tab, [], [0, 2, 3, 4, 5, 23, 25, 26, 27, 38], [], [], [(100005, circ_number.c100005r), (7, circ_number.c7r), (1, circ_number.c1r)], [], tab_eqs⟩
theorem circ_number.eq (x_ : dens [.str]) : den circ_number.G Go.Proofs.Tryd.f80 [.str] [(.int .i64), .bool] x_ = circ_number x_ := by kernel_rfl
theorem circ_number.p0 : PieceOk circ_number.G (pieceAt (pieces circ_number.G.cks (bodyOf Go.Proofs.Tryd.f80)) 0).1 (pieceAt (pieces circ_number.G.cks (bodyOf Go.Proofs.Tryd.f80)) 0).2 :=
  region_ok (s := circ_number.c1r) (by kernel_rfl) (by kernel_rfl) (sums_of (sh := circ_number.c1s) (fun ρ x_ k_ => (nat_br nat_leaf (nat_br nat_leaf (nat_bnd fun _ => (nat_br nat_leaf nat_leaf))))) (fun ρ x_ t k => (by kernel_rfl)) (fun x_ => by kernel_rfl))
theorem circ_number.p1 : PieceOk circ_number.G (pieceAt (pieces circ_number.G.cks (bodyOf Go.Proofs.Tryd.f80)) 1).1 (pieceAt (pieces circ_number.G.cks (bodyOf Go.Proofs.Tryd.f80)) 1).2 :=
  loop_ok (s := circ_number.c100005r) (by kernel_rfl) (by kernel_rfl) (loops_of (sh := circ_number.c100005s) (I := fun x_ s_ => (x_.1, x_.2.1, x_.2.2.1, s_.1, x_.2.2.2.2.1, s_.2, ())) (fun x_ => rfl) (fun ρ x_ s_ k_ => (nat_br (nat_bnd fun _ => (nat_br nat_leaf (nat_bnd fun _ => nat_leaf))) nat_leaf)) (fun ρ x_ t k => (nat_sel (fun _ => (by kernel_rfl)) (fun _ => (by kernel_rfl)))) (fun x_ s => by kernel_rfl))
theorem circ_number.p2 : PieceOk circ_number.G (pieceAt (pieces circ_number.G.cks (bodyOf Go.Proofs.Tryd.f80)) 2).1 (pieceAt (pieces circ_number.G.cks (bodyOf Go.Proofs.Tryd.f80)) 2).2 :=
  region_ok (s := circ_number.c7r) (by kernel_rfl) (by kernel_rfl) (sums_of (sh := circ_number.c7s) (fun ρ x_ k_ => (nat_bnd fun _ => (nat_br nat_leaf (nat_bnd fun _ => nat_leaf)))) (fun ρ x_ t k => (by kernel_rfl)) (fun x_ => by kernel_rfl))
theorem circ_number.ok : CalleeOk Go.Proofs.Tryd.prog 80 circ_number.ce := fn_ok (G := circ_number.G) tab_ok mixed Go.Proofs.Tryd.func80 ⟨fns_nil, mfns_nil, tab_eqs_ok⟩ (m := 3) (by kernel_rfl) ⟨⟨⟨trivial, circ_number.p0⟩, circ_number.p1⟩, circ_number.p2⟩ (by kernel_rfl) circ_number.eq
def circ_cursor_takes.pre : Shape := ⟨[(0, qd6)], [(1000000, qd7), (2000000, qd3)]⟩
def circ_cursor_takes.post : Shape := ⟨[(0, qd1)], [(1000000, qd7), (2000000, qd3)]⟩
def circ_cursor_takes.c6 {ρ : Type} (ok : Bool) (t10000001 : Bool) (k_ : Bool → Option ρ) : Option ρ :=
  br t10000001
   (k_ true)
   (k_ (!ok))
def circ_cursor_takes.c6s : Shape := ⟨[(0, qd6), (2, qd1), (3, qd1), (4, qd8)], [(1000000, qd7), (2000000, qd3)]⟩
def circ_cursor_takes.c6x0 : Shape := ⟨[(0, qd6), (2, qd1), (3, qd1), (4, qd8)], [(1000000, qd7), (2000000, qd3)]⟩
def circ_cursor_takes.c6r : Ck := Ck.of (T := Bool) circ_cursor_takes.c6s (fun ρ x_ k_ => uP x_ fun t2 x_ => uP x_ fun n x_ => uP x_ fun ok x_ => uP x_ fun t10000000lo x_ => uP x_ fun t10000000n x_ => uP x_ fun t10000001 x_ => uP x_ fun t2000000 x_ => circ_cursor_takes.c6 ok t10000001 k_) (fun ρ x_ r_ k_ => uP x_ fun t2 x_ => uP x_ fun n x_ => uP x_ fun ok x_ => uP x_ fun t10000000lo x_ => uP x_ fun t10000000n x_ => uP x_ fun t10000001 x_ => uP x_ fun t2000000 x_ => k_ 0 (Shape.inj circ_cursor_takes.c6x0 (t2, n, ok, t10000000lo, t10000000n, r_, t2000000, ())))
def circ_cursor_takes (t10000000lo : Int) (t10000000n : Int) (t10000001 : Bool) (t2000000 : List (List UInt8)) : Option ((Int) × (Int) × (Int) × (Bool) × (List (List UInt8)) × Unit) :=
  br ((↑(List.length (part t10000000lo t10000000n t2000000)) : Int) == (0 : Int))
   (some (uP (uP ((0 : Int), ()) fun u r ↦ (u, ())) fun u r ↦ (u, uP (uP (t10000000lo, t10000000n, ()) fun u r ↦ (u, uP r fun u r ↦ (u, uP (true, ()) fun u r ↦ (u, ())))) fun u r ↦ (u, uP r fun u r ↦ (u, uP r fun u r ↦ (u, uP (t2000000, ()) fun u r ↦ (u, ())))))))
   (bnd (okIf (decide ((0 : Int) < t10000000n))) fun y =>
    bnd (idx t2000000 (t10000000lo + (0 : Int))) fun y_1 =>
    bnd (W.circ_number y_1) fun y_2 =>
    bnd (okIf (decide ((1 : Int) ≤ t10000000n) && decide (t10000000n ≤ t10000000n))) fun y_3 =>
    bnd (W.circ_cursor_takes.c6 (Prod.snd y_2) t10000001 some) fun y_4 =>
    some (uP (uP (Prod.fst y_2, ()) fun u r ↦ (u, ())) fun u r ↦ (u, uP (uP (t10000000lo + (1 : Int), t10000000n - (1 : Int), ()) fun u r ↦ (u, uP r fun u r ↦ (u, uP (y_4, ()) fun u r ↦ (u, ())))) fun u r ↦ (u, uP r fun u r ↦ (u, uP r fun u r ↦ (u, uP (t2000000, ()) fun u r ↦ (u, ())))))))
def circ_cursor_takes.mc : MCallee := ⟨62, circ_cursor_takes.pre, circ_cursor_takes.post, fun x_ => circ_cursor_takes x_.1 x_.2.1 x_.2.2.1 x_.2.2.2.1⟩
def circ_cursor_takes.G : Env := ⟨44, tab, [(80, circ_number.ce)], [0, 2, 3, 4, 10], [1000000, 2000000], [], [(6, circ_cursor_takes.c6r)], [], tab_eqs⟩
theorem circ_cursor_takes.eq (x_ : densU circ_cursor_takes.mc.pre.tys) : denM circ_cursor_takes.G Go.Proofs.Tryd.f62 circ_cursor_takes.mc.pre circ_cursor_takes.mc.post x_ = circ_cursor_takes.mc.F x_ := by kernel_rfl
theorem circ_cursor_takes.p0 : PieceOk circ_cursor_takes.G (pieceAt (pieces circ_cursor_takes.G.cks (bodyOf Go.Proofs.Tryd.f62)) 0).1 (pieceAt (pieces circ_cursor_takes.G.cks (bodyOf Go.Proofs.Tryd.f62)) 0).2 :=
  region_ok (s := circ_cursor_takes.c6r) (by kernel_rfl) (by kernel_rfl) (sums_of (sh := circ_cursor_takes.c6s) (fun ρ x_ k_ => (nat_br nat_leaf nat_leaf)) (fun ρ x_ t k => (by kernel_rfl)) (fun x_ => by kernel_rfl))
theorem circ_cursor_takes.ok : MOk Go.Proofs.Tryd.prog 62 circ_cursor_takes.mc := fnm_ok (G := circ_cursor_takes.G) tab_ok mixed Go.Proofs.Tryd.func62 ⟨(fns_cons circ_number.ok fns_nil), mfns_nil, tab_eqs_ok⟩ (m := 1) (by kernel_rfl) ⟨trivial, circ_cursor_takes.p0⟩ (by kernel_rfl) circ_cursor_takes.eq
def circ_kindOf.c100002 {ρ : Type} (w : List UInt8) (t3 : Int) (k_ : (Int) ⊕ (((Int) × (Int)) ⊕ (Int)) → Option ρ) : Option ρ :=
  br (decide (t3 ≤ (6 : Int)))
   (bnd (W.circ_word t3) fun y =>
    br (y == w)
     (k_ (.inr (.inl (t3, t3))))
     (k_ (.inl (IntKind.wrap IntKind.i64 (t3 + (1 : Int))))))
   (k_ (.inr (.inr t3)))
def circ_kindOf.c100002s : Shape := ⟨[(0, qd0), (2, qd1), (3, qd1)], []⟩
def circ_kindOf.c100002x0 : Shape := ⟨[(0, qd0), (2, qd1), (3, qd1)], []⟩
def circ_kindOf.c100002x1 : Shape := ⟨[(0, qd0), (2, qd1), (3, qd1)], []⟩
def circ_kindOf.c100002r : Ck := Ck.ofLoop (S := Int) (T := ((Int) × (Int)) ⊕ (Int)) circ_kindOf.c100002s (fun x_ => uP x_ fun w x_ => uP x_ fun t2 x_ => uP x_ fun t3 x_ => t3) (fun ρ x_ s_ k_ => uP x_ fun w x_ => uP x_ fun t2 x_ => uP x_ fun t3 x_ => circ_kindOf.c100002 w s_ k_) (fun ρ x_ r_ k_ => uP x_ fun w x_ => uP x_ fun t2 x_ => uP x_ fun t3 x_ => sel r_ (fun r_ => k_ 1 (Shape.inj circ_kindOf.c100002x0 (w, r_.1, r_.2, ()))) (fun r_ => k_ 2 (Shape.inj circ_kindOf.c100002x1 (w, t2, r_, ()))))
def circ_kindOf (w : List UInt8) : Option (Int) :=
  bnd (iter (fun s ↦ W.circ_kindOf.c100002 w s some) (1 : Int)) fun y =>
  sel y
   (fun u => some (Prod.fst u))
   (fun v => some (0 : Int))
def circ_kindOf.ce : Go.Ql.Callee := ⟨[.str], [(.int .i64)], fun x_ => circ_kindOf x_⟩
def circ_kindOf.G : Env := ⟨13, tab, [(75, circ_word.ce)], [0, 2, 3, 5, 11], [], [], [(100002, circ_kindOf.c100002r)], [], tab_eqs⟩
theorem circ_kindOf.eq (x_ : dens [.str]) : den circ_kindOf.G Go.Proofs.Tryd.f81 [.str] [(.int .i64)] x_ = circ_kindOf x_ := by kernel_rfl
theorem circ_kindOf.p0 : PieceOk circ_kindOf.G (pieceAt (pieces circ_kindOf.G.cks (bodyOf Go.Proofs.Tryd.f81)) 0).1 (pieceAt (pieces circ_kindOf.G.cks (bodyOf Go.Proofs.Tryd.f81)) 0).2 :=
  loop_ok (s := circ_kindOf.c100002r) (by kernel_rfl) (by kernel_rfl) (loops_of (sh := circ_kindOf.c100002s) (I := fun x_ s_ => (x_.1, x_.2.1, s_, ())) (fun x_ => rfl) (fun ρ x_ s_ k_ => (nat_br (nat_bnd fun _ => (nat_br nat_leaf nat_leaf)) nat_leaf)) (fun ρ x_ t k => (nat_sel (fun _ => (by kernel_rfl)) (fun _ => (by kernel_rfl)))) (fun x_ s => by kernel_rfl))
theorem circ_kindOf.ok : CalleeOk Go.Proofs.Tryd.prog 81 circ_kindOf.ce := fn_ok (G := circ_kindOf.G) tab_ok mixed Go.Proofs.Tryd.func81 ⟨(fns_cons circ_word.ok fns_nil), mfns_nil, tab_eqs_ok⟩ (m := 1) (by kernel_rfl) ⟨trivial, circ_kindOf.p0⟩ (by kernel_rfl) circ_kindOf.eq
abbrev qd9 : SD := .one (.val (.sl (.int .i64)))
abbrev qd10 : SO := .arr 0 false 3 (.int .i64)
def circ_cursor_many.pre : Shape := ⟨[(0, qd6)], [(1000000, qd7), (2000000, qd3)]⟩
def circ_cursor_many.post : Shape := ⟨[(0, qd9)], [(1000000, qd7), (2000000, qd3)]⟩
def circ_cursor_many.c5 {ρ : Type} (n : Int) (t8 : List (Int)) (t10000000n : Int) (k_ : Unit → Option ρ) : Option ρ :=
  bnd (okIf (decide ((List.length t8 + (1 : Nat)) * (8 : Nat) ≤ (140737488355328 : Nat)) && decide (List.length t8 + (1 : Nat) ≤ (140737488355328 : Nat)))) fun y =>
  bnd (okIf (decide ((1 : Int) ≤ t10000000n) && decide (t10000000n ≤ t10000000n))) fun y_1 =>
  k_ ()
def circ_cursor_many.c5s : Shape := ⟨[(0, qd6), (2, qd9), (3, qd4), (4, qd1), (5, qd8)], [(8, qd10), (1000000, qd7), (2000000, qd3)]⟩
def circ_cursor_many.c5x0 : Shape := ⟨[(0, qd6), (2, qd9), (3, qd4), (4, qd1), (5, qd8)], [(8, qd10), (1000000, qd7), (2000000, qd3)]⟩
def circ_cursor_many.c5r : Ck := Ck.of (T := Unit) circ_cursor_many.c5s (fun ρ x_ k_ => uP x_ fun t2 x_ => uP x_ fun n x_ => uP x_ fun ok x_ => uP x_ fun t8 x_ => uP x_ fun t10000000lo x_ => uP x_ fun t10000000n x_ => uP x_ fun t10000001 x_ => uP x_ fun t2000000 x_ => circ_cursor_many.c5 n t8 t10000000n k_) (fun ρ x_ r_ k_ => uP x_ fun t2 x_ => uP x_ fun n x_ => uP x_ fun ok x_ => uP x_ fun t8 x_ => uP x_ fun t10000000lo x_ => uP x_ fun t10000000n x_ => uP x_ fun t10000001 x_ => uP x_ fun t2000000 x_ => k_ 0 (Shape.inj circ_cursor_many.c5x0 (t2, n, ok, (t8 ++ [n]), (t10000000lo + (1 : Int)), (t10000000n - (1 : Int)), t10000001, t2000000, ())))
def circ_cursor_many.c100002 {ρ : Type} (t8 : List (Int)) (t10000000lo : Int) (t10000000n : Int) (t2000000 : List (List UInt8)) (k_ : ((List Int) × (Int) × (Int)) ⊕ ((List Int) × (Int) × (Int)) → Option ρ) : Option ρ :=
  br (decide ((↑(List.length (part t10000000lo t10000000n t2000000)) : Int) > (0 : Int)))
   (bnd (okIf (decide ((0 : Int) < t10000000n))) fun y =>
    bnd (idx t2000000 (t10000000lo + (0 : Int))) fun y_1 =>
    bnd (W.circ_number y_1) fun y_2 =>
    br (!Prod.snd y_2)
     (k_ (.inr (t8, t10000000lo, t10000000n)))
     (bnd (W.circ_cursor_many.c5 (Prod.fst y_2) t8 t10000000n some) fun y_3 =>
      k_ (.inl ((t8 ++ [Prod.fst y_2]), (t10000000lo + (1 : Int)), (t10000000n - (1 : Int))))))
   (k_ (.inr (t8, t10000000lo, t10000000n)))
def circ_cursor_many.c100002s : Shape := ⟨[(0, qd6), (2, qd9), (3, qd4)], [(8, qd10), (1000000, qd7), (2000000, qd3)]⟩
def circ_cursor_many.c100002x0 : Shape := ⟨[(0, qd6), (2, qd9), (3, qd4)], [(8, qd10), (1000000, qd7), (2000000, qd3)]⟩
def circ_cursor_many.c100002r : Ck := Ck.ofLoop (S := (List Int) × (Int) × (Int)) (T := (List Int) × (Int) × (Int)) circ_cursor_many.c100002s (fun x_ => uP x_ fun t2 x_ => uP x_ fun t8 x_ => uP x_ fun t10000000lo x_ => uP x_ fun t10000000n x_ => uP x_ fun t10000001 x_ => uP x_ fun t2000000 x_ => (t8, t10000000lo, t10000000n)) (fun ρ x_ s_ k_ => uP x_ fun t2 x_ => uP x_ fun t8 x_ => uP x_ fun t10000000lo x_ => uP x_ fun t10000000n x_ => uP x_ fun t10000001 x_ => uP x_ fun t2000000 x_ => circ_cursor_many.c100002 s_.1 s_.2.1 s_.2.2 t2000000 k_) (fun ρ x_ r_ k_ => uP x_ fun t2 x_ => uP x_ fun t8 x_ => uP x_ fun t10000000lo x_ => uP x_ fun t10000000n x_ => uP x_ fun t10000001 x_ => uP x_ fun t2000000 x_ => k_ 2 (Shape.inj circ_cursor_many.c100002x0 (t2, r_.1, r_.2.1, r_.2.2, t10000001, t2000000, ())))
def circ_cursor_many (t10000000lo : Int) (t10000000n : Int) (t10000001 : Bool) (t2000000 : List (List UInt8)) : Option ((List Int) × (Int) × (Int) × (Bool) × (List (List UInt8)) × Unit) :=
  bnd (W.circ_cursor_takes (Prod.fst (uP (uP (t10000000lo, t10000000n, ()) fun u r ↦ (u, uP r fun u r ↦ (u, uP (t10000001, ()) fun u r ↦ (u, ())))) fun u r ↦ (u, uP r fun u r ↦ (u, uP r fun u r ↦ (u, uP (t2000000, ()) fun u r ↦ (u, ())))))) (Prod.fst (Prod.snd (uP (uP (t10000000lo, t10000000n, ()) fun u r ↦ (u, uP r fun u r ↦ (u, uP (t10000001, ()) fun u r ↦ (u, ())))) fun u r ↦ (u, uP r fun u r ↦ (u, uP r fun u r ↦ (u, uP (t2000000, ()) fun u r ↦ (u, ()))))))) (Prod.fst (Prod.snd (Prod.snd (uP (uP (t10000000lo, t10000000n, ()) fun u r ↦ (u, uP r fun u r ↦ (u, uP (t10000001, ()) fun u r ↦ (u, ())))) fun u r ↦ (u, uP r fun u r ↦ (u, uP r fun u r ↦ (u, uP (t2000000, ()) fun u r ↦ (u, ())))))))) (Prod.fst (Prod.snd (Prod.snd (Prod.snd (uP (uP (t10000000lo, t10000000n, ()) fun u r ↦ (u, uP r fun u r ↦ (u, uP (t10000001, ()) fun u r ↦ (u, ())))) fun u r ↦ (u, uP r fun u r ↦ (u, uP r fun u r ↦ (u, uP (t2000000, ()) fun u r ↦ (u, ())))))))))) fun y =>
  bnd (iter (fun s ↦ W.circ_cursor_many.c100002 (Prod.fst s) (Prod.fst (Prod.snd s)) (Prod.snd (Prod.snd s)) (Prod.fst y.2.2.2.2) some) ([Prod.fst y], Prod.fst y.2, Prod.fst y.2.2)) fun y_1 =>
  some (uP (uP (Prod.fst y_1, ()) fun u r ↦ (u, ())) fun u r ↦ (u, uP (uP (Prod.fst (Prod.snd y_1), Prod.snd (Prod.snd y_1), ()) fun u r ↦ (u, uP r fun u r ↦ (u, uP (Prod.fst y.2.2.2, ()) fun u r ↦ (u, ())))) fun u r ↦ (u, uP r fun u r ↦ (u, uP r fun u r ↦ (u, uP (Prod.fst y.2.2.2.2, ()) fun u r ↦ (u, ()))))))
def circ_cursor_many.mc : MCallee := ⟨82, circ_cursor_many.pre, circ_cursor_many.post, fun x_ => circ_cursor_many x_.1 x_.2.1 x_.2.2.1 x_.2.2.2.1⟩
def circ_cursor_many.G : Env := ⟨40, tab, [(80, circ_number.ce)], [0, 2, 3, 4, 5, 14, 26], [8, 1000000, 2000000], [(5, [⟨[], [], [28, 29, 30, 31, 32, 33, 34, 35, 36, 3], [30, 8]⟩, ⟨[], [], [27, 29, 30, 32, 33, 34, 35, 36], [30]⟩, ⟨[], [], [27, 28, 32, 33, 34, 35, 36], []⟩, ⟨[2], [30], [27, 28, 32, 33, 34, 35, 36], []⟩, ⟨[1, 3, 2], [8], [27, 32, 33, 34, 35, 36], []⟩, ⟨[], [], [27, 28, 29, 30, 31, 3], [30, 8]⟩, ⟨[5], [], [27, 28, 29, 30, 31, 3], [30, 8]⟩, ⟨[6, 5], [], [27, 28, 29, 30, 31, 3], [30, 8]⟩, ⟨[7, 6, 5], [], [27, 28, 29, 30, 31, 3], [30, 8]⟩, ⟨[8, 7, 6, 5], [], [27, 28, 29, 30, 31, 3], [30, 8]⟩, ⟨[4, 1, 3, 2], [], [27, 32, 33, 34, 35, 36], []⟩, ⟨[0, 1, 2, 3, 4, 5, 6, 7, 8, 9, 10], [], [], []⟩, ⟨[11, 0, 1, 2, 3, 4, 5, 6, 7, 8, 9, 10], [], [], []⟩, ⟨[12, 11, 0, 1, 2, 3, 4, 5, 6, 7, 8, 9, 10], [1000000], [], []⟩])], [(100002, circ_cursor_many.c100002r), (5, circ_cursor_many.c5r)], [(62, circ_cursor_takes.mc)], tab_eqs⟩
theorem circ_cursor_many.eq (x_ : densU circ_cursor_many.mc.pre.tys) : denM circ_cursor_many.G Go.Proofs.Tryd.f82 circ_cursor_many.mc.pre circ_cursor_many.mc.post x_ = circ_cursor_many.mc.F x_ := by kernel_rfl
theorem circ_cursor_many.p0 : PieceOk circ_cursor_many.G (pieceAt (pieces circ_cursor_many.G.cks (bodyOf Go.Proofs.Tryd.f82)) 0).1 (pieceAt (pieces circ_cursor_many.G.cks (bodyOf Go.Proofs.Tryd.f82)) 0).2 :=
  loop_ok (s := circ_cursor_many.c100002r) (by kernel_rfl) (by kernel_rfl) (loops_of (sh := circ_cursor_many.c100002s) (I := fun x_ s_ => (x_.1, s_.1, s_.2.1, s_.2.2, x_.2.2.2.2.1, x_.2.2.2.2.2.1, ())) (fun x_ => rfl) (fun ρ x_ s_ k_ => (nat_br (nat_bnd fun _ => (nat_bnd fun _ => (nat_bnd fun _ => (nat_br nat_leaf (nat_bnd fun _ => nat_leaf))))) nat_leaf)) (fun ρ x_ t k => (by kernel_rfl)) (fun x_ s => by kernel_rfl))
theorem circ_cursor_many.p1 : PieceOk circ_cursor_many.G (pieceAt (pieces circ_cursor_many.G.cks (bodyOf Go.Proofs.Tryd.f82)) 1).1 (pieceAt (pieces circ_cursor_many.G.cks (bodyOf Go.Proofs.Tryd.f82)) 1).2 :=
  region_ok (s := circ_cursor_many.c5r) (by kernel_rfl) (by kernel_rfl) (sums_of (sh := circ_cursor_many.c5s) (fun ρ x_ k_ => (nat_bnd fun _ => (nat_bnd fun _ => nat_leaf))) (fun ρ x_ t k => (by kernel_rfl)) (fun x_ => by kernel_rfl))
theorem circ_cursor_many.ok : MOk Go.Proofs.Tryd.prog 82 circ_cursor_many.mc := fnm_ok (G := circ_cursor_many.G) tab_ok mixed Go.Proofs.Tryd.func82 ⟨(fns_cons circ_number.ok fns_nil), (mfns_cons circ_cursor_takes.ok mfns_nil), tab_eqs_ok⟩ (m := 2) (by kernel_rfl) ⟨⟨trivial, circ_cursor_many.p0⟩, circ_cursor_many.p1⟩ (by kernel_rfl) circ_cursor_many.eq
def stringslite_HasPrefix.c1 {ρ : Type} (s : List UInt8) (t1 : List UInt8) (k_ : Bool → Option ρ) : Option ρ :=
  br (decide ((↑(List.length s) : Int) ≥ (↑(List.length t1) : Int)))
   (bnd (okIf (decide ((0 : Int) ≤ (↑(List.length t1) : Int)) && decide ((↑(List.length t1) : Int) ≤ (↑(List.length s) : Int)))) fun y =>
    k_ (List.take (Int.toNat (↑(List.length t1) : Int)) s == t1))
   (k_ false)
def stringslite_HasPrefix.c1s : Shape := ⟨[(0, qd0), (1, qd0), (4, qd8)], []⟩
def stringslite_HasPrefix.c1x0 : Shape := ⟨[(0, qd0), (1, qd0), (4, qd8)], []⟩
def stringslite_HasPrefix.c1r : Ck := Ck.of (T := Bool) stringslite_HasPrefix.c1s (fun ρ x_ k_ => uP x_ fun s x_ => uP x_ fun t1 x_ => uP x_ fun t4 x_ => stringslite_HasPrefix.c1 s t1 k_) (fun ρ x_ r_ k_ => uP x_ fun s x_ => uP x_ fun t1 x_ => uP x_ fun t4 x_ => k_ 0 (Shape.inj stringslite_HasPrefix.c1x0 (s, t1, r_, ())))
def stringslite_HasPrefix (s : List UInt8) (t1 : List UInt8) : Option (Bool) :=
  bnd (W.stringslite_HasPrefix.c1 s t1 some) fun y =>
  some y
def stringslite_HasPrefix.ce : Go.Ql.Callee := ⟨[.str, .str], [.bool], fun x_ => stringslite_HasPrefix x_.1 x_.2⟩
def stringslite_HasPrefix.G : Env := ⟨18, tab, [], [0, 1, 4], [], [], [(1, stringslite_HasPrefix.c1r)], [], tab_eqs⟩
theorem stringslite_HasPrefix.eq (x_ : dens [.str, .str]) : den stringslite_HasPrefix.G Go.Proofs.Tryd.f99 [.str, .str] [.bool] x_ = stringslite_HasPrefix x_.1 x_.2 := by kernel_rfl
theorem stringslite_HasPrefix.p0 : PieceOk stringslite_HasPrefix.G (pieceAt (pieces stringslite_HasPrefix.G.cks (bodyOf Go.Proofs.Tryd.f99)) 0).1 (pieceAt (pieces stringslite_HasPrefix.G.cks (bodyOf Go.Proofs.Tryd.f99)) 0).2 :=
  region_ok (s := stringslite_HasPrefix.c1r) (by kernel_rfl) (by kernel_rfl) (sums_of (sh := stringslite_HasPrefix.c1s) (fun ρ x_ k_ => (nat_br (nat_bnd fun _ => nat_leaf) nat_leaf)) (fun ρ x_ t k => (by kernel_rfl)) (fun x_ => by kernel_rfl))
theorem stringslite_HasPrefix.ok : CalleeOk Go.Proofs.Tryd.prog 99 stringslite_HasPrefix.ce := fn_ok (G := stringslite_HasPrefix.G) tab_ok mixed Go.Proofs.Tryd.func99 ⟨fns_nil, mfns_nil, tab_eqs_ok⟩ (m := 1) (by kernel_rfl) ⟨trivial, stringslite_HasPrefix.p0⟩ (by kernel_rfl) stringslite_HasPrefix.eq
def strings_HasPrefix (s : List UInt8) (t1 : List UInt8) : Option (Bool) :=
  bnd (W.stringslite_HasPrefix s t1) fun y =>
  some y
def strings_HasPrefix.ce : Go.Ql.Callee := ⟨[.str, .str], [.bool], fun x_ => strings_HasPrefix x_.1 x_.2⟩
def strings_HasPrefix.G : Env := ⟨8, tab, [(99, stringslite_HasPrefix.ce)], [0, 1, 4], [], [], [], [], tab_eqs⟩
theorem strings_HasPrefix.eq (x_ : dens [.str, .str]) : den strings_HasPrefix.G Go.Proofs.Tryd.f90 [.str, .str] [.bool] x_ = strings_HasPrefix x_.1 x_.2 := by kernel_rfl
theorem strings_HasPrefix.ok : CalleeOk Go.Proofs.Tryd.prog 90 strings_HasPrefix.ce := fn_ok (G := strings_HasPrefix.G) tab_ok mixed Go.Proofs.Tryd.func90 ⟨(fns_cons stringslite_HasPrefix.ok fns_nil), mfns_nil, tab_eqs_ok⟩ (m := 0) (by kernel_rfl) trivial (by kernel_rfl) strings_HasPrefix.eq
abbrev qd11 : SD := .one (.own 3 0)
def circ_cursor_conditions.pre : Shape := ⟨[(0, qd6)], [(1000000, qd7), (2000000, qd3)]⟩
def circ_cursor_conditions.post : Shape := ⟨[(0, qd9)], [(1000000, qd7), (2000000, qd3)]⟩
def circ_cursor_conditions.c3 {ρ : Type} (t4 : Bool) (t10000000lo : Int) (t10000000n : Int) (t2000000 : List (List UInt8)) (k_ : Bool → Option ρ) : Option ρ :=
  br t4
   (k_ true)
   (k_ (decide ((↑(List.length (part t10000000lo t10000000n t2000000)) : Int) > (0 : Int))))
def circ_cursor_conditions.c3s : Shape := ⟨[(0, qd6), (2, qd9), (3, qd11), (4, qd8)], [(3, qd10), (1000000, qd7), (2000000, qd3)]⟩
def circ_cursor_conditions.c3x0 : Shape := ⟨[(0, qd6), (2, qd9), (3, qd11), (4, qd8), (15, qd8)], [(3, qd10), (1000000, qd7), (2000000, qd3)]⟩
def circ_cursor_conditions.c3r : Ck := Ck.of (T := Bool) circ_cursor_conditions.c3s (fun ρ x_ k_ => uP x_ fun t2 x_ => uP x_ fun t4 x_ => uP x_ fun ns x_ => uP x_ fun t10000000lo x_ => uP x_ fun t10000000n x_ => uP x_ fun t10000001 x_ => uP x_ fun t2000000 x_ => circ_cursor_conditions.c3 t4 t10000000lo t10000000n t2000000 k_) (fun ρ x_ r_ k_ => uP x_ fun t2 x_ => uP x_ fun t4 x_ => uP x_ fun ns x_ => uP x_ fun t10000000lo x_ => uP x_ fun t10000000n x_ => uP x_ fun t10000001 x_ => uP x_ fun t2000000 x_ => k_ 0 (Shape.inj circ_cursor_conditions.c3x0 (t2, t4, r_, ns, t10000000lo, t10000000n, t10000001, t2000000, ())))
def circ_cursor_conditions.c5 {ρ : Type} (t10000000lo : Int) (t10000000n : Int) (t2000000 : List (List UInt8)) (k_ : Bool → Option ρ) : Option ρ :=
  br (decide ((↑(List.length (part t10000000lo t10000000n t2000000)) : Int) > (0 : Int)))
   (bnd (okIf (decide ((0 : Int) < t10000000n))) fun y =>
    bnd (idx t2000000 (t10000000lo + (0 : Int))) fun y_1 =>
    bnd (W.strings_HasPrefix y_1 (Array.toList (ByteArray.data (ByteArray.mk #[(33 : UInt8)])))) fun y_2 =>
    k_ y_2)
   (k_ false)
def circ_cursor_conditions.c5s : Shape := ⟨[(0, qd6), (2, qd9), (3, qd11), (4, qd8)], [(3, qd10), (1000000, qd7), (2000000, qd3)]⟩
def circ_cursor_conditions.c5x0 : Shape := ⟨[(0, qd6), (2, qd9), (3, qd11), (4, qd8), (5, qd8)], [(3, qd10), (1000000, qd7), (2000000, qd3)]⟩
def circ_cursor_conditions.c5r : Ck := Ck.of (T := Bool) circ_cursor_conditions.c5s (fun ρ x_ k_ => uP x_ fun t2 x_ => uP x_ fun t4 x_ => uP x_ fun ns x_ => uP x_ fun t10000000lo x_ => uP x_ fun t10000000n x_ => uP x_ fun t10000001 x_ => uP x_ fun t2000000 x_ => circ_cursor_conditions.c5 t10000000lo t10000000n t2000000 k_) (fun ρ x_ r_ k_ => uP x_ fun t2 x_ => uP x_ fun t4 x_ => uP x_ fun ns x_ => uP x_ fun t10000000lo x_ => uP x_ fun t10000000n x_ => uP x_ fun t10000001 x_ => uP x_ fun t2000000 x_ => k_ 0 (Shape.inj circ_cursor_conditions.c5x0 (t2, t4, r_, ns, t10000000lo, t10000000n, t10000001, t2000000, ())))
def circ_cursor_conditions.c7 {ρ : Type} (t10000000lo : Int) (t10000000n : Int) (t2000000 : List (List UInt8)) (k_ : List (List UInt8) → Option ρ) : Option ρ :=
  bnd (okIf (decide ((0 : Int) < t10000000n))) fun y =>
  bnd (idx t2000000 (t10000000lo + (0 : Int))) fun y_1 =>
  bnd (okIf (decide ((1 : Int) ≤ (↑(List.length y_1) : Int)) && decide ((↑(List.length y_1) : Int) ≤ (↑(List.length y_1) : Int)))) fun y_2 =>
  bnd (okIf (decide ((0 : Int) < t10000000n))) fun y_3 =>
  bnd (idx t2000000 (t10000000lo + (0 : Int))) fun y_4 =>
  k_ (List.set t2000000 (Int.toNat (t10000000lo + (0 : Int))) (List.drop (1 : Nat) (List.take (Int.toNat (↑(List.length y_1) : Int)) y_1)))
def circ_cursor_conditions.c7s : Shape := ⟨[(0, qd6), (2, qd9), (3, qd11), (4, qd8), (5, qd8)], [(3, qd10), (1000000, qd7), (2000000, qd3)]⟩
def circ_cursor_conditions.c7x0 : Shape := ⟨[(0, qd6), (2, qd9), (3, qd11), (4, qd8), (5, qd8)], [(3, qd10), (1000000, qd7), (2000000, qd3)]⟩
def circ_cursor_conditions.c7r : Ck := Ck.of (T := List (List UInt8)) circ_cursor_conditions.c7s (fun ρ x_ k_ => uP x_ fun t2 x_ => uP x_ fun t4 x_ => uP x_ fun not x_ => uP x_ fun ns x_ => uP x_ fun t10000000lo x_ => uP x_ fun t10000000n x_ => uP x_ fun t10000001 x_ => uP x_ fun t2000000 x_ => circ_cursor_conditions.c7 t10000000lo t10000000n t2000000 k_) (fun ρ x_ r_ k_ => uP x_ fun t2 x_ => uP x_ fun t4 x_ => uP x_ fun not x_ => uP x_ fun ns x_ => uP x_ fun t10000000lo x_ => uP x_ fun t10000000n x_ => uP x_ fun t10000001 x_ => uP x_ fun t2000000 x_ => k_ 0 (Shape.inj circ_cursor_conditions.c7x0 (t2, t4, not, ns, t10000000lo, t10000000n, t10000001, r_, ())))
def circ_cursor_conditions.c224581 {ρ : Type} (not : Bool) (t10000000lo : Int) (t10000000n : Int) (t2000000 : List (List UInt8)) (k_ : List (List UInt8) → Option ρ) : Option ρ :=
  br not
   (bnd (W.circ_cursor_conditions.c7 t10000000lo t10000000n t2000000 some) fun y =>
    k_ y)
   (k_ t2000000)
def circ_cursor_conditions.c224581s : Shape := ⟨[(0, qd6), (2, qd9), (3, qd11), (4, qd8), (5, qd8)], [(3, qd10), (1000000, qd7), (2000000, qd3)]⟩
def circ_cursor_conditions.c224581x0 : Shape := ⟨[(0, qd6), (2, qd9), (3, qd11), (4, qd8), (5, qd8)], [(3, qd10), (1000000, qd7), (2000000, qd3)]⟩
def circ_cursor_conditions.c224581r : Ck := Ck.of (T := List (List UInt8)) circ_cursor_conditions.c224581s (fun ρ x_ k_ => uP x_ fun t2 x_ => uP x_ fun t4 x_ => uP x_ fun not x_ => uP x_ fun ns x_ => uP x_ fun t10000000lo x_ => uP x_ fun t10000000n x_ => uP x_ fun t10000001 x_ => uP x_ fun t2000000 x_ => circ_cursor_conditions.c224581 not t10000000lo t10000000n t2000000 k_) (fun ρ x_ r_ k_ => uP x_ fun t2 x_ => uP x_ fun t4 x_ => uP x_ fun not x_ => uP x_ fun ns x_ => uP x_ fun t10000000lo x_ => uP x_ fun t10000000n x_ => uP x_ fun t10000001 x_ => uP x_ fun t2000000 x_ => k_ 0 (Shape.inj circ_cursor_conditions.c224581x0 (t2, t4, not, ns, t10000000lo, t10000000n, t10000001, r_, ())))
def circ_cursor_conditions.c236869 {ρ : Type} (not : Bool) (n : Int) (k_ : Int → Option ρ) : Option ρ :=
  br not
   (k_ (IntKind.wrap IntKind.i64 ((0 : Int) - n)))
   (k_ n)
def circ_cursor_conditions.c236869s : Shape := ⟨[(0, qd6), (2, qd9), (3, qd11), (4, qd8), (5, qd8), (6, qd1)], [(3, qd10), (1000000, qd7), (2000000, qd3)]⟩
def circ_cursor_conditions.c236869x0 : Shape := ⟨[(0, qd6), (2, qd9), (3, qd11), (4, qd8), (5, qd8), (6, qd1)], [(3, qd10), (1000000, qd7), (2000000, qd3)]⟩
def circ_cursor_conditions.c236869r : Ck := Ck.of (T := Int) circ_cursor_conditions.c236869s (fun ρ x_ k_ => uP x_ fun t2 x_ => uP x_ fun t4 x_ => uP x_ fun not x_ => uP x_ fun n x_ => uP x_ fun ns x_ => uP x_ fun t10000000lo x_ => uP x_ fun t10000000n x_ => uP x_ fun t10000001 x_ => uP x_ fun t2000000 x_ => circ_cursor_conditions.c236869 not n k_) (fun ρ x_ r_ k_ => uP x_ fun t2 x_ => uP x_ fun t4 x_ => uP x_ fun not x_ => uP x_ fun n x_ => uP x_ fun ns x_ => uP x_ fun t10000000lo x_ => uP x_ fun t10000000n x_ => uP x_ fun t10000001 x_ => uP x_ fun t2000000 x_ => k_ 0 (Shape.inj circ_cursor_conditions.c236869x0 (t2, t4, not, r_, ns, t10000000lo, t10000000n, t10000001, t2000000, ())))
def circ_cursor_conditions.c100003 {ρ : Type} (t4 : Bool) (ns : List (Int)) (t10000000lo : Int) (t10000000n : Int) (t10000001 : Bool) (t2000000 : List (List UInt8)) (k_ : ((Bool) × (List Int) × (Int) × (Int) × (Bool) × (List (List UInt8))) ⊕ ((Bool) × (List Int) × (Int) × (Int) × (Bool) × (List (List UInt8))) → Option ρ) : Option ρ :=
  bnd (W.circ_cursor_conditions.c3 t4 t10000000lo t10000000n t2000000 some) fun y =>
  br y
   (bnd (W.circ_cursor_conditions.c5 t10000000lo t10000000n t2000000 some) fun y_1 =>
    bnd (W.circ_cursor_conditions.c224581 y_1 t10000000lo t10000000n t2000000 some) fun y_2 =>
    bnd (W.circ_cursor_takes (Prod.fst (uP (uP (t10000000lo, t10000000n, ()) fun u r ↦ (u, uP r fun u r ↦ (u, uP (t10000001, ()) fun u r ↦ (u, ())))) fun u r ↦ (u, uP r fun u r ↦ (u, uP r fun u r ↦ (u, uP (y_2, ()) fun u r ↦ (u, ())))))) (Prod.fst (Prod.snd (uP (uP (t10000000lo, t10000000n, ()) fun u r ↦ (u, uP r fun u r ↦ (u, uP (t10000001, ()) fun u r ↦ (u, ())))) fun u r ↦ (u, uP r fun u r ↦ (u, uP r fun u r ↦ (u, uP (y_2, ()) fun u r ↦ (u, ()))))))) (Prod.fst (Prod.snd (Prod.snd (uP (uP (t10000000lo, t10000000n, ()) fun u r ↦ (u, uP r fun u r ↦ (u, uP (t10000001, ()) fun u r ↦ (u, ())))) fun u r ↦ (u, uP r fun u r ↦ (u, uP r fun u r ↦ (u, uP (y_2, ()) fun u r ↦ (u, ())))))))) (Prod.fst (Prod.snd (Prod.snd (Prod.snd (uP (uP (t10000000lo, t10000000n, ()) fun u r ↦ (u, uP r fun u r ↦ (u, uP (t10000001, ()) fun u r ↦ (u, ())))) fun u r ↦ (u, uP r fun u r ↦ (u, uP r fun u r ↦ (u, uP (y_2, ()) fun u r ↦ (u, ())))))))))) fun y_3 =>
    bnd (W.circ_cursor_conditions.c236869 y_1 (IntKind.wrap IntKind.i64 (Prod.fst y_3 + (1 : Int))) some) fun y_4 =>
    bnd (okIf (decide ((List.length ns + (1 : Nat)) * (8 : Nat) ≤ (140737488355328 : Nat)) && decide (List.length ns + (1 : Nat) ≤ (140737488355328 : Nat)))) fun y_5 =>
    k_ (.inl (false, (ns ++ [y_4]), (Prod.fst y_3.2), (Prod.fst y_3.2.2), (Prod.fst y_3.2.2.2), (Prod.fst y_3.2.2.2.2))))
   (k_ (.inr (t4, ns, t10000000lo, t10000000n, t10000001, t2000000)))
def circ_cursor_conditions.c100003s : Shape := ⟨[(0, qd6), (2, qd9), (3, qd11), (4, qd8)], [(3, qd10), (1000000, qd7), (2000000, qd3)]⟩
def circ_cursor_conditions.c100003x0 : Shape := ⟨[(0, qd6), (2, qd9), (3, qd11), (4, qd8)], [(3, qd10), (1000000, qd7), (2000000, qd3)]⟩
def circ_cursor_conditions.c100003r : Ck := Ck.ofLoop (S := (Bool) × (List Int) × (Int) × (Int) × (Bool) × (List (List UInt8))) (T := (Bool) × (List Int) × (Int) × (Int) × (Bool) × (List (List UInt8))) circ_cursor_conditions.c100003s (fun x_ => uP x_ fun t2 x_ => uP x_ fun t4 x_ => uP x_ fun ns x_ => uP x_ fun t10000000lo x_ => uP x_ fun t10000000n x_ => uP x_ fun t10000001 x_ => uP x_ fun t2000000 x_ => (t4, ns, t10000000lo, t10000000n, t10000001, t2000000)) (fun ρ x_ s_ k_ => uP x_ fun t2 x_ => uP x_ fun t4 x_ => uP x_ fun ns x_ => uP x_ fun t10000000lo x_ => uP x_ fun t10000000n x_ => uP x_ fun t10000001 x_ => uP x_ fun t2000000 x_ => circ_cursor_conditions.c100003 s_.1 s_.2.1 s_.2.2.1 s_.2.2.2.1 s_.2.2.2.2.1 s_.2.2.2.2.2 k_) (fun ρ x_ r_ k_ => uP x_ fun t2 x_ => uP x_ fun t4 x_ => uP x_ fun ns x_ => uP x_ fun t10000000lo x_ => uP x_ fun t10000000n x_ => uP x_ fun t10000001 x_ => uP x_ fun t2000000 x_ => k_ 2 (Shape.inj circ_cursor_conditions.c100003x0 (t2, r_.1, r_.2.1, r_.2.2.1, r_.2.2.2.1, r_.2.2.2.2.1, r_.2.2.2.2.2, ())))
def circ_cursor_conditions (t10000000lo : Int) (t10000000n : Int) (t10000001 : Bool) (t2000000 : List (List UInt8)) : Option ((List Int) × (Int) × (Int) × (Bool) × (List (List UInt8)) × Unit) :=
  bnd (iter (fun s ↦ W.circ_cursor_conditions.c100003 (Prod.fst s) (Prod.fst (Prod.snd s)) (Prod.fst (Prod.snd (Prod.snd s))) (Prod.fst (Prod.snd (Prod.snd (Prod.snd s)))) (Prod.fst (Prod.snd (Prod.snd (Prod.snd (Prod.snd s))))) (Prod.snd (Prod.snd (Prod.snd (Prod.snd (Prod.snd s))))) some) (true, [], t10000000lo, t10000000n, t10000001, t2000000)) fun y =>
  some (uP (uP (Prod.fst (Prod.snd y), ()) fun u r ↦ (u, ())) fun u r ↦ (u, uP (uP (Prod.fst (Prod.snd (Prod.snd y)), Prod.fst (Prod.snd (Prod.snd (Prod.snd y))), ()) fun u r ↦ (u, uP r fun u r ↦ (u, uP (Prod.fst (Prod.snd (Prod.snd (Prod.snd (Prod.snd y)))), ()) fun u r ↦ (u, ())))) fun u r ↦ (u, uP r fun u r ↦ (u, uP r fun u r ↦ (u, uP (Prod.snd (Prod.snd (Prod.snd (Prod.snd (Prod.snd y)))), ()) fun u r ↦ (u, ()))))))
def circ_cursor_conditions.mc : MCallee := ⟨83, circ_cursor_conditions.pre, circ_cursor_conditions.post, fun x_ => circ_cursor_conditions x_.1 x_.2.1 x_.2.2.1 x_.2.2.2.1⟩
def circ_cursor_conditions.G : Env := ⟨55, tab, [(90, strings_HasPrefix.ce)], [0, 2, 3, 4, 5, 6, 15, 31, 47], [3, 1000000, 2000000], [(7, [⟨[], [], [36, 37, 38, 39, 40, 41, 42], []⟩, ⟨[0], [], [36, 37, 38, 39, 40, 41, 42], []⟩, ⟨[1, 0], [], [36, 37, 38, 39, 40, 41, 42], []⟩, ⟨[2, 1, 0], [], [36, 37, 38, 39, 40, 41, 42], []⟩, ⟨[], [], [32, 33, 34, 35], []⟩, ⟨[4], [], [32, 33, 34, 35], []⟩, ⟨[5, 4], [], [32, 33, 34, 35], []⟩, ⟨[6, 5, 4], [], [32, 33, 34, 35], []⟩, ⟨[7, 6, 5, 4], [], [32, 33, 34, 35], []⟩, ⟨[8, 7, 6, 5, 4], [], [32, 33, 34, 35], []⟩, ⟨[9, 8, 7, 6, 5, 4], [], [32, 33, 34, 35], []⟩, ⟨[3, 2, 1, 0, 4, 5, 6, 7, 8, 9, 10], [], [], []⟩, ⟨[11, 3, 2, 1, 0, 4, 5, 6, 7, 8, 9, 10], [2000000], [], []⟩])], [(100003, circ_cursor_conditions.c100003r), (236869, circ_cursor_conditions.c236869r), (224581, circ_cursor_conditions.c224581r), (7, circ_cursor_conditions.c7r), (5, circ_cursor_conditions.c5r), (3, circ_cursor_conditions.c3r)], [(62, circ_cursor_takes.mc)], tab_eqs⟩
theorem circ_cursor_conditions.eq (x_ : densU circ_cursor_conditions.mc.pre.tys) : denM circ_cursor_conditions.G Go.Proofs.Tryd.f83 circ_cursor_conditions.mc.pre circ_cursor_conditions.mc.post x_ = circ_cursor_conditions.mc.F x_ := by kernel_rfl
theorem circ_cursor_conditions.p0 : PieceOk circ_cursor_conditions.G (pieceAt (pieces circ_cursor_conditions.G.cks (bodyOf Go.Proofs.Tryd.f83)) 0).1 (pieceAt (pieces circ_cursor_conditions.G.cks (bodyOf Go.Proofs.Tryd.f83)) 0).2 :=
  loop_ok (s := circ_cursor_conditions.c100003r) (by kernel_rfl) (by kernel_rfl) (loops_of (sh := circ_cursor_conditions.c100003s) (I := fun x_ s_ => (x_.1, s_.1, s_.2.1, s_.2.2.1, s_.2.2.2.1, s_.2.2.2.2.1, s_.2.2.2.2.2, ())) (fun x_ => rfl) (fun ρ x_ s_ k_ => (nat_bnd fun _ => (nat_br (nat_bnd fun _ => (nat_bnd fun _ => (nat_bnd fun _ => (nat_bnd fun _ => (nat_bnd fun _ => nat_leaf))))) nat_leaf))) (fun ρ x_ t k => (by kernel_rfl)) (fun x_ s => by kernel_rfl))
theorem circ_cursor_conditions.p1 : PieceOk circ_cursor_conditions.G (pieceAt (pieces circ_cursor_conditions.G.cks (bodyOf Go.Proofs.Tryd.f83)) 1).1 (pieceAt (pieces circ_cursor_conditions.G.cks (bodyOf Go.Proofs.Tryd.f83)) 1).2 :=
  region_ok (s := circ_cursor_conditions.c3r) (by kernel_rfl) (by kernel_rfl) (sums_of (sh := circ_cursor_conditions.c3s) (fun ρ x_ k_ => (nat_br nat_leaf nat_leaf)) (fun ρ x_ t k => (by kernel_rfl)) (fun x_ => by kernel_rfl))
theorem circ_cursor_conditions.p2 : PieceOk circ_cursor_conditions.G (pieceAt (pieces circ_cursor_conditions.G.cks (bodyOf Go.Proofs.Tryd.f83)) 2).1 (pieceAt (pieces circ_cursor_conditions.G.cks (bodyOf Go.Proofs.Tryd.f83)) 2).2 :=
  region_ok (s := circ_cursor_conditions.c5r) (by kernel_rfl) (by kernel_rfl) (sums_of (sh := circ_cursor_conditions.c5s) (fun ρ x_ k_ => (nat_br (nat_bnd fun _ => (nat_bnd fun _ => (nat_bnd fun _ => nat_leaf))) nat_leaf)) (fun ρ x_ t k => (by kernel_rfl)) (fun x_ => by kernel_rfl))
theorem circ_cursor_conditions.p3 : PieceOk circ_cursor_conditions.G (pieceAt (pieces circ_cursor_conditions.G.cks (bodyOf Go.Proofs.Tryd.f83)) 3).1 (pieceAt (pieces circ_cursor_conditions.G.cks (bodyOf Go.Proofs.Tryd.f83)) 3).2 :=
  join_ok (s := circ_cursor_conditions.c224581r) (by kernel_rfl) (by kernel_rfl) (sums_of (sh := circ_cursor_conditions.c224581s) (fun ρ x_ k_ => (nat_br (nat_bnd fun _ => nat_leaf) nat_leaf)) (fun ρ x_ t k => (by kernel_rfl)) (fun x_ => by kernel_rfl))
theorem circ_cursor_conditions.p4 : PieceOk circ_cursor_conditions.G (pieceAt (pieces circ_cursor_conditions.G.cks (bodyOf Go.Proofs.Tryd.f83)) 4).1 (pieceAt (pieces circ_cursor_conditions.G.cks (bodyOf Go.Proofs.Tryd.f83)) 4).2 :=
  region_ok (s := circ_cursor_conditions.c7r) (by kernel_rfl) (by kernel_rfl) (sums_of (sh := circ_cursor_conditions.c7s) (fun ρ x_ k_ => (nat_bnd fun _ => (nat_bnd fun _ => (nat_bnd fun _ => (nat_bnd fun _ => (nat_bnd fun _ => nat_leaf)))))) (fun ρ x_ t k => (by kernel_rfl)) (fun x_ => by kernel_rfl))
theorem circ_cursor_conditions.p5 : PieceOk circ_cursor_conditions.G (pieceAt (pieces circ_cursor_conditions.G.cks (bodyOf Go.Proofs.Tryd.f83)) 5).1 (pieceAt (pieces circ_cursor_conditions.G.cks (bodyOf Go.Proofs.Tryd.f83)) 5).2 :=
  join_ok (s := circ_cursor_conditions.c236869r) (by kernel_rfl) (by kernel_rfl) (sums_of (sh := circ_cursor_conditions.c236869s) (fun ρ x_ k_ => (nat_br nat_leaf nat_leaf)) (fun ρ x_ t k => (by kernel_rfl)) (fun x_ => by kernel_rfl))
theorem circ_cursor_conditions.ok : MOk Go.Proofs.Tryd.prog 83 circ_cursor_conditions.mc := fnm_ok (G := circ_cursor_conditions.G) tab_ok mixed Go.Proofs.Tryd.func83 ⟨(fns_cons strings_HasPrefix.ok fns_nil), (mfns_cons circ_cursor_takes.ok mfns_nil), tab_eqs_ok⟩ (m := 6) (by kernel_rfl) ⟨⟨⟨⟨⟨⟨trivial, circ_cursor_conditions.p0⟩, circ_cursor_conditions.p1⟩, circ_cursor_conditions.p2⟩, circ_cursor_conditions.p3⟩, circ_cursor_conditions.p4⟩, circ_cursor_conditions.p5⟩ (by kernel_rfl) circ_cursor_conditions.eq
abbrev qd12 : SD := .one (.ref 2 0)
abbrev qd13 : SD := .one (.ref 4 0)
abbrev qd14 : SD := .one (.ref 5 0)
abbrev qd15 : SO := .box [.val (.int .i64), .val (.int .i64), .val (.sl (.int .i64)), .val (.int .i64), .val (.int .i64), .val (.sl (.int .i64))]
abbrev qd16 : SO := .box [.win 7 0, .val .bool]
def circ_operation.c224581 {ρ : Type} (c0lo : Int) (c0n : Int) (c1 : Bool) (o0 : Int) (o1 : Int) (t7 : List (List UInt8)) (k_ : (Int) × (Int) × (Bool) × (Int) × (List (List UInt8)) → Option ρ) : Option ρ :=
  bnd (W.circ_turns o0) fun y =>
  br y
   (bnd (W.circ_cursor_takes (Prod.fst (uP (uP (c0lo, c0n, ()) fun u r ↦ (u, uP r fun u r ↦ (u, uP (c1, ()) fun u r ↦ (u, ())))) fun u r ↦ (u, uP r fun u r ↦ (u, uP r fun u r ↦ (u, uP (t7, ()) fun u r ↦ (u, ())))))) (Prod.fst (Prod.snd (uP (uP (c0lo, c0n, ()) fun u r ↦ (u, uP r fun u r ↦ (u, uP (c1, ()) fun u r ↦ (u, ())))) fun u r ↦ (u, uP r fun u r ↦ (u, uP r fun u r ↦ (u, uP (t7, ()) fun u r ↦ (u, ()))))))) (Prod.fst (Prod.snd (Prod.snd (uP (uP (c0lo, c0n, ()) fun u r ↦ (u, uP r fun u r ↦ (u, uP (c1, ()) fun u r ↦ (u, ())))) fun u r ↦ (u, uP r fun u r ↦ (u, uP r fun u r ↦ (u, uP (t7, ()) fun u r ↦ (u, ())))))))) (Prod.fst (Prod.snd (Prod.snd (Prod.snd (uP (uP (c0lo, c0n, ()) fun u r ↦ (u, uP r fun u r ↦ (u, uP (c1, ()) fun u r ↦ (u, ())))) fun u r ↦ (u, uP r fun u r ↦ (u, uP r fun u r ↦ (u, uP (t7, ()) fun u r ↦ (u, ())))))))))) fun y_1 =>
    k_ ((Prod.fst y_1.2), (Prod.fst y_1.2.2), (Prod.fst y_1.2.2.2), (Prod.fst y_1), (Prod.fst y_1.2.2.2.2)))
   (k_ (c0lo, c0n, c1, o1, t7))
def circ_operation.c224581s : Shape := ⟨[(0, qd0), (2, qd12), (3, qd8), (4, qd13), (5, qd14)], [(2, qd15), (4, qd16), (5, qd15), (7, qd3), (1004, qd3)]⟩
def circ_operation.c224581x0 : Shape := ⟨[(0, qd0), (2, qd12), (3, qd8), (4, qd13), (5, qd14)], [(2, qd15), (4, qd16), (5, qd15), (7, qd3), (1004, qd3)]⟩
def circ_operation.c224581r : Ck := Ck.of (T := (Int) × (Int) × (Bool) × (Int) × (List (List UInt8))) circ_operation.c224581s (fun ρ x_ k_ => uP x_ fun text x_ => uP x_ fun t3 x_ => uP x_ fun t20 x_ => uP x_ fun t21 x_ => uP x_ fun t22 x_ => uP x_ fun t23 x_ => uP x_ fun t24 x_ => uP x_ fun t25 x_ => uP x_ fun c0lo x_ => uP x_ fun c0n x_ => uP x_ fun c1 x_ => uP x_ fun o0 x_ => uP x_ fun o1 x_ => uP x_ fun o2 x_ => uP x_ fun o3 x_ => uP x_ fun o4 x_ => uP x_ fun o5 x_ => uP x_ fun t7 x_ => uP x_ fun t1004 x_ => circ_operation.c224581 c0lo c0n c1 o0 o1 t7 k_) (fun ρ x_ r_ k_ => uP x_ fun text x_ => uP x_ fun t3 x_ => uP x_ fun t20 x_ => uP x_ fun t21 x_ => uP x_ fun t22 x_ => uP x_ fun t23 x_ => uP x_ fun t24 x_ => uP x_ fun t25 x_ => uP x_ fun c0lo x_ => uP x_ fun c0n x_ => uP x_ fun c1 x_ => uP x_ fun o0 x_ => uP x_ fun o1 x_ => uP x_ fun o2 x_ => uP x_ fun o3 x_ => uP x_ fun o4 x_ => uP x_ fun o5 x_ => uP x_ fun t7 x_ => uP x_ fun t1004 x_ => k_ 0 (Shape.inj circ_operation.c224581x0 (text, t3, t20, t21, t22, t23, t24, t25, r_.1, r_.2.1, r_.2.2.1, o0, r_.2.2.2.1, o2, o3, o4, o5, r_.2.2.2.2, t1004, ())))
def circ_operation.c232773 {ρ : Type} (c0lo : Int) (c0n : Int) (c1 : Bool) (o0 : Int) (o3 : Int) (t7 : List (List UInt8)) (k_ : (Int) × (Int) × (Bool) × (Int) × (List (List UInt8)) → Option ρ) : Option ρ :=
  br (o0 != (1 : Int))
   (bnd (W.circ_cursor_takes (Prod.fst (uP (uP (c0lo, c0n, ()) fun u r ↦ (u, uP r fun u r ↦ (u, uP (c1, ()) fun u r ↦ (u, ())))) fun u r ↦ (u, uP r fun u r ↦ (u, uP r fun u r ↦ (u, uP (t7, ()) fun u r ↦ (u, ())))))) (Prod.fst (Prod.snd (uP (uP (c0lo, c0n, ()) fun u r ↦ (u, uP r fun u r ↦ (u, uP (c1, ()) fun u r ↦ (u, ())))) fun u r ↦ (u, uP r fun u r ↦ (u, uP r fun u r ↦ (u, uP (t7, ()) fun u r ↦ (u, ()))))))) (Prod.fst (Prod.snd (Prod.snd (uP (uP (c0lo, c0n, ()) fun u r ↦ (u, uP r fun u r ↦ (u, uP (c1, ()) fun u r ↦ (u, ())))) fun u r ↦ (u, uP r fun u r ↦ (u, uP r fun u r ↦ (u, uP (t7, ()) fun u r ↦ (u, ())))))))) (Prod.fst (Prod.snd (Prod.snd (Prod.snd (uP (uP (c0lo, c0n, ()) fun u r ↦ (u, uP r fun u r ↦ (u, uP (c1, ()) fun u r ↦ (u, ())))) fun u r ↦ (u, uP r fun u r ↦ (u, uP r fun u r ↦ (u, uP (t7, ()) fun u r ↦ (u, ())))))))))) fun y =>
    k_ ((Prod.fst y.2), (Prod.fst y.2.2), (Prod.fst y.2.2.2), (Prod.fst y), (Prod.fst y.2.2.2.2)))
   (k_ (c0lo, c0n, c1, o3, t7))
def circ_operation.c232773s : Shape := ⟨[(0, qd0), (2, qd12), (3, qd8), (4, qd13), (5, qd14)], [(2, qd15), (4, qd16), (5, qd15), (7, qd3), (1004, qd3)]⟩
def circ_operation.c232773x0 : Shape := ⟨[(0, qd0), (2, qd12), (3, qd8), (4, qd13), (5, qd14)], [(2, qd15), (4, qd16), (5, qd15), (7, qd3), (1004, qd3)]⟩
def circ_operation.c232773r : Ck := Ck.of (T := (Int) × (Int) × (Bool) × (Int) × (List (List UInt8))) circ_operation.c232773s (fun ρ x_ k_ => uP x_ fun text x_ => uP x_ fun t3 x_ => uP x_ fun t20 x_ => uP x_ fun t21 x_ => uP x_ fun t22 x_ => uP x_ fun t23 x_ => uP x_ fun t24 x_ => uP x_ fun t25 x_ => uP x_ fun c0lo x_ => uP x_ fun c0n x_ => uP x_ fun c1 x_ => uP x_ fun o0 x_ => uP x_ fun o1 x_ => uP x_ fun o2 x_ => uP x_ fun o3 x_ => uP x_ fun o4 x_ => uP x_ fun o5 x_ => uP x_ fun t7 x_ => uP x_ fun t1004 x_ => circ_operation.c232773 c0lo c0n c1 o0 o3 t7 k_) (fun ρ x_ r_ k_ => uP x_ fun text x_ => uP x_ fun t3 x_ => uP x_ fun t20 x_ => uP x_ fun t21 x_ => uP x_ fun t22 x_ => uP x_ fun t23 x_ => uP x_ fun t24 x_ => uP x_ fun t25 x_ => uP x_ fun c0lo x_ => uP x_ fun c0n x_ => uP x_ fun c1 x_ => uP x_ fun o0 x_ => uP x_ fun o1 x_ => uP x_ fun o2 x_ => uP x_ fun o3 x_ => uP x_ fun o4 x_ => uP x_ fun o5 x_ => uP x_ fun t7 x_ => uP x_ fun t1004 x_ => k_ 0 (Shape.inj circ_operation.c232773x0 (text, t3, t20, t21, t22, t23, t24, t25, r_.1, r_.2.1, r_.2.2.1, o0, o1, o2, r_.2.2.2.1, o4, o5, r_.2.2.2.2, t1004, ())))
def circ_operation.c10 {ρ : Type} (c0lo : Int) (c0n : Int) (c1 : Bool) (o0 : Int) (t7 : List (List UInt8)) (k_ : (Bool) × (Int) × (Int) × (Bool) × (List (List UInt8)) → Option ρ) : Option ρ :=
  bnd (W.circ_gate o0) fun y =>
  br y
   (bnd (W.circ_cursor_meets (Prod.fst (uP (uP (Array.toList (ByteArray.data (ByteArray.mk #[(111 : UInt8), (110 : UInt8)])), ()) fun u r ↦ (u, ())) fun u r ↦ (u, uP (uP (c0lo, c0n, ()) fun u r ↦ (u, uP r fun u r ↦ (u, uP (c1, ()) fun u r ↦ (u, ())))) fun u r ↦ (u, uP r fun u r ↦ (u, uP r fun u r ↦ (u, uP (t7, ()) fun u r ↦ (u, ()))))))) (Prod.fst (Prod.snd (uP (uP (Array.toList (ByteArray.data (ByteArray.mk #[(111 : UInt8), (110 : UInt8)])), ()) fun u r ↦ (u, ())) fun u r ↦ (u, uP (uP (c0lo, c0n, ()) fun u r ↦ (u, uP r fun u r ↦ (u, uP (c1, ()) fun u r ↦ (u, ())))) fun u r ↦ (u, uP r fun u r ↦ (u, uP r fun u r ↦ (u, uP (t7, ()) fun u r ↦ (u, ())))))))) (Prod.fst (Prod.snd (Prod.snd (uP (uP (Array.toList (ByteArray.data (ByteArray.mk #[(111 : UInt8), (110 : UInt8)])), ()) fun u r ↦ (u, ())) fun u r ↦ (u, uP (uP (c0lo, c0n, ()) fun u r ↦ (u, uP r fun u r ↦ (u, uP (c1, ()) fun u r ↦ (u, ())))) fun u r ↦ (u, uP r fun u r ↦ (u, uP r fun u r ↦ (u, uP (t7, ()) fun u r ↦ (u, ()))))))))) (Prod.fst (Prod.snd (Prod.snd (Prod.snd (uP (uP (Array.toList (ByteArray.data (ByteArray.mk #[(111 : UInt8), (110 : UInt8)])), ()) fun u r ↦ (u, ())) fun u r ↦ (u, uP (uP (c0lo, c0n, ()) fun u r ↦ (u, uP r fun u r ↦ (u, uP (c1, ()) fun u r ↦ (u, ())))) fun u r ↦ (u, uP r fun u r ↦ (u, uP r fun u r ↦ (u, uP (t7, ()) fun u r ↦ (u, ())))))))))) (Prod.fst (Prod.snd (Prod.snd (Prod.snd (Prod.snd (uP (uP (Array.toList (ByteArray.data (ByteArray.mk #[(111 : UInt8), (110 : UInt8)])), ()) fun u r ↦ (u, ())) fun u r ↦ (u, uP (uP (c0lo, c0n, ()) fun u r ↦ (u, uP r fun u r ↦ (u, uP (c1, ()) fun u r ↦ (u, ())))) fun u r ↦ (u, uP r fun u r ↦ (u, uP r fun u r ↦ (u, uP (t7, ()) fun u r ↦ (u, ())))))))))))) fun y_1 =>
    k_ ((Prod.fst y_1), (Prod.fst y_1.2), (Prod.fst y_1.2.2), (Prod.fst y_1.2.2.2), (Prod.fst y_1.2.2.2.2)))
   (k_ (false, c0lo, c0n, c1, t7))
def circ_operation.c10s : Shape := ⟨[(0, qd0), (2, qd12), (3, qd8), (4, qd13), (5, qd14)], [(2, qd15), (4, qd16), (5, qd15), (7, qd3), (1004, qd3)]⟩
def circ_operation.c10x0 : Shape := ⟨[(0, qd0), (2, qd12), (3, qd8), (4, qd13), (5, qd14), (38, qd8)], [(2, qd15), (4, qd16), (5, qd15), (7, qd3), (1004, qd3)]⟩
def circ_operation.c10r : Ck := Ck.of (T := (Bool) × (Int) × (Int) × (Bool) × (List (List UInt8))) circ_operation.c10s (fun ρ x_ k_ => uP x_ fun text x_ => uP x_ fun t3 x_ => uP x_ fun t20 x_ => uP x_ fun t21 x_ => uP x_ fun t22 x_ => uP x_ fun t23 x_ => uP x_ fun t24 x_ => uP x_ fun t25 x_ => uP x_ fun c0lo x_ => uP x_ fun c0n x_ => uP x_ fun c1 x_ => uP x_ fun o0 x_ => uP x_ fun o1 x_ => uP x_ fun o2 x_ => uP x_ fun o3 x_ => uP x_ fun o4 x_ => uP x_ fun o5 x_ => uP x_ fun t7 x_ => uP x_ fun t1004 x_ => circ_operation.c10 c0lo c0n c1 o0 t7 k_) (fun ρ x_ r_ k_ => uP x_ fun text x_ => uP x_ fun t3 x_ => uP x_ fun t20 x_ => uP x_ fun t21 x_ => uP x_ fun t22 x_ => uP x_ fun t23 x_ => uP x_ fun t24 x_ => uP x_ fun t25 x_ => uP x_ fun c0lo x_ => uP x_ fun c0n x_ => uP x_ fun c1 x_ => uP x_ fun o0 x_ => uP x_ fun o1 x_ => uP x_ fun o2 x_ => uP x_ fun o3 x_ => uP x_ fun o4 x_ => uP x_ fun o5 x_ => uP x_ fun t7 x_ => uP x_ fun t1004 x_ => k_ 0 (Shape.inj circ_operation.c10x0 (text, t3, r_.1, t20, t21, t22, t23, t24, t25, r_.2.1, r_.2.2.1, r_.2.2.2.1, o0, o1, o2, o3, o4, o5, r_.2.2.2.2, t1004, ())))
def circ_operation.c240965 {ρ : Type} (c0lo : Int) (c0n : Int) (c1 : Bool) (o0 : Int) (o2 : List (Int)) (t7 : List (List UInt8)) (k_ : (Int) × (Int) × (Bool) × (List Int) × (List (List UInt8)) → Option ρ) : Option ρ :=
  bnd (W.circ_operation.c10 c0lo c0n c1 o0 t7 some) fun y =>
  br (Prod.fst y)
   (bnd (W.circ_cursor_many (Prod.fst (uP (uP (Prod.fst (Prod.snd y), Prod.fst (Prod.snd (Prod.snd y)), ()) fun u r ↦ (u, uP r fun u r ↦ (u, uP (Prod.fst (Prod.snd (Prod.snd (Prod.snd y))), ()) fun u r ↦ (u, ())))) fun u r ↦ (u, uP r fun u r ↦ (u, uP r fun u r ↦ (u, uP (Prod.snd (Prod.snd (Prod.snd (Prod.snd y))), ()) fun u r ↦ (u, ())))))) (Prod.fst (Prod.snd (uP (uP (Prod.fst (Prod.snd y), Prod.fst (Prod.snd (Prod.snd y)), ()) fun u r ↦ (u, uP r fun u r ↦ (u, uP (Prod.fst (Prod.snd (Prod.snd (Prod.snd y))), ()) fun u r ↦ (u, ())))) fun u r ↦ (u, uP r fun u r ↦ (u, uP r fun u r ↦ (u, uP (Prod.snd (Prod.snd (Prod.snd (Prod.snd y))), ()) fun u r ↦ (u, ()))))))) (Prod.fst (Prod.snd (Prod.snd (uP (uP (Prod.fst (Prod.snd y), Prod.fst (Prod.snd (Prod.snd y)), ()) fun u r ↦ (u, uP r fun u r ↦ (u, uP (Prod.fst (Prod.snd (Prod.snd (Prod.snd y))), ()) fun u r ↦ (u, ())))) fun u r ↦ (u, uP r fun u r ↦ (u, uP r fun u r ↦ (u, uP (Prod.snd (Prod.snd (Prod.snd (Prod.snd y))), ()) fun u r ↦ (u, ())))))))) (Prod.fst (Prod.snd (Prod.snd (Prod.snd (uP (uP (Prod.fst (Prod.snd y), Prod.fst (Prod.snd (Prod.snd y)), ()) fun u r ↦ (u, uP r fun u r ↦ (u, uP (Prod.fst (Prod.snd (Prod.snd (Prod.snd y))), ()) fun u r ↦ (u, ())))) fun u r ↦ (u, uP r fun u r ↦ (u, uP r fun u r ↦ (u, uP (Prod.snd (Prod.snd (Prod.snd (Prod.snd y))), ()) fun u r ↦ (u, ())))))))))) fun y_1 =>
    k_ ((Prod.fst y_1.2), (Prod.fst y_1.2.2), (Prod.fst y_1.2.2.2), (Prod.fst y_1), (Prod.fst y_1.2.2.2.2)))
   (k_ ((Prod.fst (Prod.snd y)), (Prod.fst (Prod.snd (Prod.snd y))), (Prod.fst (Prod.snd (Prod.snd (Prod.snd y)))), o2, (Prod.snd (Prod.snd (Prod.snd (Prod.snd y))))))
def circ_operation.c240965s : Shape := ⟨[(0, qd0), (2, qd12), (3, qd8), (4, qd13), (5, qd14)], [(2, qd15), (4, qd16), (5, qd15), (7, qd3), (1004, qd3)]⟩
def circ_operation.c240965x0 : Shape := ⟨[(0, qd0), (2, qd12), (3, qd8), (4, qd13), (5, qd14)], [(2, qd15), (4, qd16), (5, qd15), (7, qd3), (1004, qd3)]⟩
def circ_operation.c240965r : Ck := Ck.of (T := (Int) × (Int) × (Bool) × (List Int) × (List (List UInt8))) circ_operation.c240965s (fun ρ x_ k_ => uP x_ fun text x_ => uP x_ fun t3 x_ => uP x_ fun t20 x_ => uP x_ fun t21 x_ => uP x_ fun t22 x_ => uP x_ fun t23 x_ => uP x_ fun t24 x_ => uP x_ fun t25 x_ => uP x_ fun c0lo x_ => uP x_ fun c0n x_ => uP x_ fun c1 x_ => uP x_ fun o0 x_ => uP x_ fun o1 x_ => uP x_ fun o2 x_ => uP x_ fun o3 x_ => uP x_ fun o4 x_ => uP x_ fun o5 x_ => uP x_ fun t7 x_ => uP x_ fun t1004 x_ => circ_operation.c240965 c0lo c0n c1 o0 o2 t7 k_) (fun ρ x_ r_ k_ => uP x_ fun text x_ => uP x_ fun t3 x_ => uP x_ fun t20 x_ => uP x_ fun t21 x_ => uP x_ fun t22 x_ => uP x_ fun t23 x_ => uP x_ fun t24 x_ => uP x_ fun t25 x_ => uP x_ fun c0lo x_ => uP x_ fun c0n x_ => uP x_ fun c1 x_ => uP x_ fun o0 x_ => uP x_ fun o1 x_ => uP x_ fun o2 x_ => uP x_ fun o3 x_ => uP x_ fun o4 x_ => uP x_ fun o5 x_ => uP x_ fun t7 x_ => uP x_ fun t1004 x_ => k_ 0 (Shape.inj circ_operation.c240965x0 (text, t3, t20, t21, t22, t23, t24, t25, r_.1, r_.2.1, r_.2.2.1, o0, o1, r_.2.2.2.1, o3, o4, o5, r_.2.2.2.2, t1004, ())))
def circ_operation.c13 {ρ : Type} (c0lo : Int) (c0n : Int) (c1 : Bool) (t7 : List (List UInt8)) (k_ : (Int) × (Int) × (Bool) × (List (List UInt8)) → Option ρ) : Option ρ :=
  bnd (W.circ_cursor_meets (Prod.fst (uP (uP (Array.toList (ByteArray.data (ByteArray.mk #[(116 : UInt8), (111 : UInt8)])), ()) fun u r ↦ (u, ())) fun u r ↦ (u, uP (uP (c0lo, c0n, ()) fun u r ↦ (u, uP r fun u r ↦ (u, uP (c1, ()) fun u r ↦ (u, ())))) fun u r ↦ (u, uP r fun u r ↦ (u, uP r fun u r ↦ (u, uP (t7, ()) fun u r ↦ (u, ()))))))) (Prod.fst (Prod.snd (uP (uP (Array.toList (ByteArray.data (ByteArray.mk #[(116 : UInt8), (111 : UInt8)])), ()) fun u r ↦ (u, ())) fun u r ↦ (u, uP (uP (c0lo, c0n, ()) fun u r ↦ (u, uP r fun u r ↦ (u, uP (c1, ()) fun u r ↦ (u, ())))) fun u r ↦ (u, uP r fun u r ↦ (u, uP r fun u r ↦ (u, uP (t7, ()) fun u r ↦ (u, ())))))))) (Prod.fst (Prod.snd (Prod.snd (uP (uP (Array.toList (ByteArray.data (ByteArray.mk #[(116 : UInt8), (111 : UInt8)])), ()) fun u r ↦ (u, ())) fun u r ↦ (u, uP (uP (c0lo, c0n, ()) fun u r ↦ (u, uP r fun u r ↦ (u, uP (c1, ()) fun u r ↦ (u, ())))) fun u r ↦ (u, uP r fun u r ↦ (u, uP r fun u r ↦ (u, uP (t7, ()) fun u r ↦ (u, ()))))))))) (Prod.fst (Prod.snd (Prod.snd (Prod.snd (uP (uP (Array.toList (ByteArray.data (ByteArray.mk #[(116 : UInt8), (111 : UInt8)])), ()) fun u r ↦ (u, ())) fun u r ↦ (u, uP (uP (c0lo, c0n, ()) fun u r ↦ (u, uP r fun u r ↦ (u, uP (c1, ()) fun u r ↦ (u, ())))) fun u r ↦ (u, uP r fun u r ↦ (u, uP r fun u r ↦ (u, uP (t7, ()) fun u r ↦ (u, ())))))))))) (Prod.fst (Prod.snd (Prod.snd (Prod.snd (Prod.snd (uP (uP (Array.toList (ByteArray.data (ByteArray.mk #[(116 : UInt8), (111 : UInt8)])), ()) fun u r ↦ (u, ())) fun u r ↦ (u, uP (uP (c0lo, c0n, ()) fun u r ↦ (u, uP r fun u r ↦ (u, uP (c1, ()) fun u r ↦ (u, ())))) fun u r ↦ (u, uP r fun u r ↦ (u, uP r fun u r ↦ (u, uP (t7, ()) fun u r ↦ (u, ())))))))))))) fun y =>
  br (!Prod.fst y)
   (k_ ((Prod.fst y.2), (Prod.fst y.2.2), true, (Prod.fst y.2.2.2.2)))
   (k_ ((Prod.fst y.2), (Prod.fst y.2.2), (Prod.fst y.2.2.2), (Prod.fst y.2.2.2.2)))
def circ_operation.c13s : Shape := ⟨[(0, qd0), (2, qd12), (3, qd8), (4, qd13), (5, qd14)], [(2, qd15), (4, qd16), (5, qd15), (7, qd3), (1004, qd3)]⟩
def circ_operation.c13x0 : Shape := ⟨[(0, qd0), (2, qd12), (3, qd8), (4, qd13), (5, qd14)], [(2, qd15), (4, qd16), (5, qd15), (7, qd3), (1004, qd3)]⟩
def circ_operation.c13r : Ck := Ck.of (T := (Int) × (Int) × (Bool) × (List (List UInt8))) circ_operation.c13s (fun ρ x_ k_ => uP x_ fun text x_ => uP x_ fun t3 x_ => uP x_ fun t20 x_ => uP x_ fun t21 x_ => uP x_ fun t22 x_ => uP x_ fun t23 x_ => uP x_ fun t24 x_ => uP x_ fun t25 x_ => uP x_ fun c0lo x_ => uP x_ fun c0n x_ => uP x_ fun c1 x_ => uP x_ fun o0 x_ => uP x_ fun o1 x_ => uP x_ fun o2 x_ => uP x_ fun o3 x_ => uP x_ fun o4 x_ => uP x_ fun o5 x_ => uP x_ fun t7 x_ => uP x_ fun t1004 x_ => circ_operation.c13 c0lo c0n c1 t7 k_) (fun ρ x_ r_ k_ => uP x_ fun text x_ => uP x_ fun t3 x_ => uP x_ fun t20 x_ => uP x_ fun t21 x_ => uP x_ fun t22 x_ => uP x_ fun t23 x_ => uP x_ fun t24 x_ => uP x_ fun t25 x_ => uP x_ fun c0lo x_ => uP x_ fun c0n x_ => uP x_ fun c1 x_ => uP x_ fun o0 x_ => uP x_ fun o1 x_ => uP x_ fun o2 x_ => uP x_ fun o3 x_ => uP x_ fun o4 x_ => uP x_ fun o5 x_ => uP x_ fun t7 x_ => uP x_ fun t1004 x_ => k_ 0 (Shape.inj circ_operation.c13x0 (text, t3, t20, t21, t22, t23, t24, t25, r_.1, r_.2.1, r_.2.2.1, o0, o1, o2, o3, o4, o5, r_.2.2.2, t1004, ())))
def circ_operation.c249159 {ρ : Type} (c0lo : Int) (c0n : Int) (c1 : Bool) (o0 : Int) (o4 : Int) (t7 : List (List UInt8)) (k_ : (Int) × (Int) × (Bool) × (Int) × (List (List UInt8)) → Option ρ) : Option ρ :=
  br (o0 == (5 : Int))
   (bnd (W.circ_operation.c13 c0lo c0n c1 t7 some) fun y =>
    bnd (W.circ_cursor_takes (Prod.fst (uP (uP (Prod.fst y, Prod.fst (Prod.snd y), ()) fun u r ↦ (u, uP r fun u r ↦ (u, uP (Prod.fst (Prod.snd (Prod.snd y)), ()) fun u r ↦ (u, ())))) fun u r ↦ (u, uP r fun u r ↦ (u, uP r fun u r ↦ (u, uP (Prod.snd (Prod.snd (Prod.snd y)), ()) fun u r ↦ (u, ())))))) (Prod.fst (Prod.snd (uP (uP (Prod.fst y, Prod.fst (Prod.snd y), ()) fun u r ↦ (u, uP r fun u r ↦ (u, uP (Prod.fst (Prod.snd (Prod.snd y)), ()) fun u r ↦ (u, ())))) fun u r ↦ (u, uP r fun u r ↦ (u, uP r fun u r ↦ (u, uP (Prod.snd (Prod.snd (Prod.snd y)), ()) fun u r ↦ (u, ()))))))) (Prod.fst (Prod.snd (Prod.snd (uP (uP (Prod.fst y, Prod.fst (Prod.snd y), ()) fun u r ↦ (u, uP r fun u r ↦ (u, uP (Prod.fst (Prod.snd (Prod.snd y)), ()) fun u r ↦ (u, ())))) fun u r ↦ (u, uP r fun u r ↦ (u, uP r fun u r ↦ (u, uP (Prod.snd (Prod.snd (Prod.snd y)), ()) fun u r ↦ (u, ())))))))) (Prod.fst (Prod.snd (Prod.snd (Prod.snd (uP (uP (Prod.fst y, Prod.fst (Prod.snd y), ()) fun u r ↦ (u, uP r fun u r ↦ (u, uP (Prod.fst (Prod.snd (Prod.snd y)), ()) fun u r ↦ (u, ())))) fun u r ↦ (u, uP r fun u r ↦ (u, uP r fun u r ↦ (u, uP (Prod.snd (Prod.snd (Prod.snd y)), ()) fun u r ↦ (u, ())))))))))) fun y_1 =>
    k_ ((Prod.fst y_1.2), (Prod.fst y_1.2.2), (Prod.fst y_1.2.2.2), (Prod.fst y_1), (Prod.fst y_1.2.2.2.2)))
   (k_ (c0lo, c0n, c1, o4, t7))
def circ_operation.c249159s : Shape := ⟨[(0, qd0), (2, qd12), (3, qd8), (4, qd13), (5, qd14)], [(2, qd15), (4, qd16), (5, qd15), (7, qd3), (1004, qd3)]⟩
def circ_operation.c249159x0 : Shape := ⟨[(0, qd0), (2, qd12), (3, qd8), (4, qd13), (5, qd14)], [(2, qd15), (4, qd16), (5, qd15), (7, qd3), (1004, qd3)]⟩
def circ_operation.c249159r : Ck := Ck.of (T := (Int) × (Int) × (Bool) × (Int) × (List (List UInt8))) circ_operation.c249159s (fun ρ x_ k_ => uP x_ fun text x_ => uP x_ fun t3 x_ => uP x_ fun t20 x_ => uP x_ fun t21 x_ => uP x_ fun t22 x_ => uP x_ fun t23 x_ => uP x_ fun t24 x_ => uP x_ fun t25 x_ => uP x_ fun c0lo x_ => uP x_ fun c0n x_ => uP x_ fun c1 x_ => uP x_ fun o0 x_ => uP x_ fun o1 x_ => uP x_ fun o2 x_ => uP x_ fun o3 x_ => uP x_ fun o4 x_ => uP x_ fun o5 x_ => uP x_ fun t7 x_ => uP x_ fun t1004 x_ => circ_operation.c249159 c0lo c0n c1 o0 o4 t7 k_) (fun ρ x_ r_ k_ => uP x_ fun text x_ => uP x_ fun t3 x_ => uP x_ fun t20 x_ => uP x_ fun t21 x_ => uP x_ fun t22 x_ => uP x_ fun t23 x_ => uP x_ fun t24 x_ => uP x_ fun t25 x_ => uP x_ fun c0lo x_ => uP x_ fun c0n x_ => uP x_ fun c1 x_ => uP x_ fun o0 x_ => uP x_ fun o1 x_ => uP x_ fun o2 x_ => uP x_ fun o3 x_ => uP x_ fun o4 x_ => uP x_ fun o5 x_ => uP x_ fun t7 x_ => uP x_ fun t1004 x_ => k_ 0 (Shape.inj circ_operation.c249159x0 (text, t3, t20, t21, t22, t23, t24, t25, r_.1, r_.2.1, r_.2.2.1, o0, o1, o2, o3, r_.2.2.2.1, o5, r_.2.2.2.2, t1004, ())))
def circ_operation.c261445 {ρ : Type} (c0lo : Int) (c0n : Int) (c1 : Bool) (o5 : List (Int)) (t7 : List (List UInt8)) (k_ : (Int) × (Int) × (Bool) × (List Int) × (List (List UInt8)) → Option ρ) : Option ρ :=
  bnd (W.circ_cursor_meets (Prod.fst (uP (uP (Array.toList (ByteArray.data (ByteArray.mk #[(105 : UInt8), (102 : UInt8)])), ()) fun u r ↦ (u, ())) fun u r ↦ (u, uP (uP (c0lo, c0n, ()) fun u r ↦ (u, uP r fun u r ↦ (u, uP (c1, ()) fun u r ↦ (u, ())))) fun u r ↦ (u, uP r fun u r ↦ (u, uP r fun u r ↦ (u, uP (t7, ()) fun u r ↦ (u, ()))))))) (Prod.fst (Prod.snd (uP (uP (Array.toList (ByteArray.data (ByteArray.mk #[(105 : UInt8), (102 : UInt8)])), ()) fun u r ↦ (u, ())) fun u r ↦ (u, uP (uP (c0lo, c0n, ()) fun u r ↦ (u, uP r fun u r ↦ (u, uP (c1, ()) fun u r ↦ (u, ())))) fun u r ↦ (u, uP r fun u r ↦ (u, uP r fun u r ↦ (u, uP (t7, ()) fun u r ↦ (u, ())))))))) (Prod.fst (Prod.snd (Prod.snd (uP (uP (Array.toList (ByteArray.data (ByteArray.mk #[(105 : UInt8), (102 : UInt8)])), ()) fun u r ↦ (u, ())) fun u r ↦ (u, uP (uP (c0lo, c0n, ()) fun u r ↦ (u, uP r fun u r ↦ (u, uP (c1, ()) fun u r ↦ (u, ())))) fun u r ↦ (u, uP r fun u r ↦ (u, uP r fun u r ↦ (u, uP (t7, ()) fun u r ↦ (u, ()))))))))) (Prod.fst (Prod.snd (Prod.snd (Prod.snd (uP (uP (Array.toList (ByteArray.data (ByteArray.mk #[(105 : UInt8), (102 : UInt8)])), ()) fun u r ↦ (u, ())) fun u r ↦ (u, uP (uP (c0lo, c0n, ()) fun u r ↦ (u, uP r fun u r ↦ (u, uP (c1, ()) fun u r ↦ (u, ())))) fun u r ↦ (u, uP r fun u r ↦ (u, uP r fun u r ↦ (u, uP (t7, ()) fun u r ↦ (u, ())))))))))) (Prod.fst (Prod.snd (Prod.snd (Prod.snd (Prod.snd (uP (uP (Array.toList (ByteArray.data (ByteArray.mk #[(105 : UInt8), (102 : UInt8)])), ()) fun u r ↦ (u, ())) fun u r ↦ (u, uP (uP (c0lo, c0n, ()) fun u r ↦ (u, uP r fun u r ↦ (u, uP (c1, ()) fun u r ↦ (u, ())))) fun u r ↦ (u, uP r fun u r ↦ (u, uP r fun u r ↦ (u, uP (t7, ()) fun u r ↦ (u, ())))))))))))) fun y =>
  br (Prod.fst y)
   (bnd (W.circ_cursor_conditions (Prod.fst (uP (uP (Prod.fst y.2, Prod.fst y.2.2, ()) fun u r ↦ (u, uP r fun u r ↦ (u, uP (Prod.fst y.2.2.2, ()) fun u r ↦ (u, ())))) fun u r ↦ (u, uP r fun u r ↦ (u, uP r fun u r ↦ (u, uP (Prod.fst y.2.2.2.2, ()) fun u r ↦ (u, ())))))) (Prod.fst (Prod.snd (uP (uP (Prod.fst y.2, Prod.fst y.2.2, ()) fun u r ↦ (u, uP r fun u r ↦ (u, uP (Prod.fst y.2.2.2, ()) fun u r ↦ (u, ())))) fun u r ↦ (u, uP r fun u r ↦ (u, uP r fun u r ↦ (u, uP (Prod.fst y.2.2.2.2, ()) fun u r ↦ (u, ()))))))) (Prod.fst (Prod.snd (Prod.snd (uP (uP (Prod.fst y.2, Prod.fst y.2.2, ()) fun u r ↦ (u, uP r fun u r ↦ (u, uP (Prod.fst y.2.2.2, ()) fun u r ↦ (u, ())))) fun u r ↦ (u, uP r fun u r ↦ (u, uP r fun u r ↦ (u, uP (Prod.fst y.2.2.2.2, ()) fun u r ↦ (u, ())))))))) (Prod.fst (Prod.snd (Prod.snd (Prod.snd (uP (uP (Prod.fst y.2, Prod.fst y.2.2, ()) fun u r ↦ (u, uP r fun u r ↦ (u, uP (Prod.fst y.2.2.2, ()) fun u r ↦ (u, ())))) fun u r ↦ (u, uP r fun u r ↦ (u, uP r fun u r ↦ (u, uP (Prod.fst y.2.2.2.2, ()) fun u r ↦ (u, ())))))))))) fun y_1 =>
    k_ ((Prod.fst y_1.2), (Prod.fst y_1.2.2), (Prod.fst y_1.2.2.2), (Prod.fst y_1), (Prod.fst y_1.2.2.2.2)))
   (k_ ((Prod.fst y.2), (Prod.fst y.2.2), (Prod.fst y.2.2.2), o5, (Prod.fst y.2.2.2.2)))
def circ_operation.c261445s : Shape := ⟨[(0, qd0), (2, qd12), (3, qd8), (4, qd13), (5, qd14)], [(2, qd15), (4, qd16), (5, qd15), (7, qd3), (1004, qd3)]⟩
def circ_operation.c261445x0 : Shape := ⟨[(0, qd0), (2, qd12), (3, qd8), (4, qd13), (5, qd14)], [(2, qd15), (4, qd16), (5, qd15), (7, qd3), (1004, qd3)]⟩
def circ_operation.c261445r : Ck := Ck.of (T := (Int) × (Int) × (Bool) × (List Int) × (List (List UInt8))) circ_operation.c261445s (fun ρ x_ k_ => uP x_ fun text x_ => uP x_ fun t3 x_ => uP x_ fun t20 x_ => uP x_ fun t21 x_ => uP x_ fun t22 x_ => uP x_ fun t23 x_ => uP x_ fun t24 x_ => uP x_ fun t25 x_ => uP x_ fun c0lo x_ => uP x_ fun c0n x_ => uP x_ fun c1 x_ => uP x_ fun o0 x_ => uP x_ fun o1 x_ => uP x_ fun o2 x_ => uP x_ fun o3 x_ => uP x_ fun o4 x_ => uP x_ fun o5 x_ => uP x_ fun t7 x_ => uP x_ fun t1004 x_ => circ_operation.c261445 c0lo c0n c1 o5 t7 k_) (fun ρ x_ r_ k_ => uP x_ fun text x_ => uP x_ fun t3 x_ => uP x_ fun t20 x_ => uP x_ fun t21 x_ => uP x_ fun t22 x_ => uP x_ fun t23 x_ => uP x_ fun t24 x_ => uP x_ fun t25 x_ => uP x_ fun c0lo x_ => uP x_ fun c0n x_ => uP x_ fun c1 x_ => uP x_ fun o0 x_ => uP x_ fun o1 x_ => uP x_ fun o2 x_ => uP x_ fun o3 x_ => uP x_ fun o4 x_ => uP x_ fun o5 x_ => uP x_ fun t7 x_ => uP x_ fun t1004 x_ => k_ 0 (Shape.inj circ_operation.c261445x0 (text, t3, t20, t21, t22, t23, t24, t25, r_.1, r_.2.1, r_.2.2.1, o0, o1, o2, o3, o4, r_.2.2.2.1, r_.2.2.2.2, t1004, ())))
def circ_operation.c17 {ρ : Type} (c0lo : Int) (c0n : Int) (c1 : Bool) (t7 : List (List UInt8)) (k_ : Bool → Option ρ) : Option ρ :=
  br (!c1)
   (k_ ((↑(List.length (part c0lo c0n t7)) : Int) == (0 : Int)))
   (k_ false)
def circ_operation.c17s : Shape := ⟨[(0, qd0), (2, qd12), (3, qd8), (4, qd13), (5, qd14)], [(2, qd15), (4, qd16), (5, qd15), (7, qd3), (1004, qd3)]⟩
def circ_operation.c17x0 : Shape := ⟨[(0, qd0), (2, qd12), (3, qd8), (4, qd13), (5, qd14)], [(2, qd15), (4, qd16), (5, qd15), (7, qd3), (1004, qd3)]⟩
def circ_operation.c17r : Ck := Ck.of (T := Bool) circ_operation.c17s (fun ρ x_ k_ => uP x_ fun text x_ => uP x_ fun t3 x_ => uP x_ fun t20 x_ => uP x_ fun t21 x_ => uP x_ fun t22 x_ => uP x_ fun t23 x_ => uP x_ fun t24 x_ => uP x_ fun t25 x_ => uP x_ fun c0lo x_ => uP x_ fun c0n x_ => uP x_ fun c1 x_ => uP x_ fun o0 x_ => uP x_ fun o1 x_ => uP x_ fun o2 x_ => uP x_ fun o3 x_ => uP x_ fun o4 x_ => uP x_ fun o5 x_ => uP x_ fun t7 x_ => uP x_ fun t1004 x_ => circ_operation.c17 c0lo c0n c1 t7 k_) (fun ρ x_ r_ k_ => uP x_ fun text x_ => uP x_ fun t3 x_ => uP x_ fun t20 x_ => uP x_ fun t21 x_ => uP x_ fun t22 x_ => uP x_ fun t23 x_ => uP x_ fun t24 x_ => uP x_ fun t25 x_ => uP x_ fun c0lo x_ => uP x_ fun c0n x_ => uP x_ fun c1 x_ => uP x_ fun o0 x_ => uP x_ fun o1 x_ => uP x_ fun o2 x_ => uP x_ fun o3 x_ => uP x_ fun o4 x_ => uP x_ fun o5 x_ => uP x_ fun t7 x_ => uP x_ fun t1004 x_ => k_ 0 (Shape.inj circ_operation.c17x0 (text, r_, o0, o1, o2, o3, o4, o5, c0lo, c0n, c1, o0, o1, o2, o3, o4, o5, t7, t1004, ())))
def circ_operation (text : List UInt8) : Option (((Int) × ((Int) × ((List Int) × ((Int) × ((Int) × (List Int)))))) × (Bool)) :=
  bnd (W.strings_Split (Prod.fst (uP (uP (text, ()) fun u r ↦ (u, uP (Array.toList (ByteArray.data (ByteArray.mk #[(32 : UInt8)])), ()) fun u r ↦ (u, ()))) fun u r ↦ (u, uP r fun u r ↦ (u, ())))) (Prod.fst (Prod.snd (uP (uP (text, ()) fun u r ↦ (u, uP (Array.toList (ByteArray.data (ByteArray.mk #[(32 : UInt8)])), ()) fun u r ↦ (u, ()))) fun u r ↦ (u, uP r fun u r ↦ (u, ())))))) fun y =>
  bnd (inR (List.length (Prod.fst y)) (0 : Int)) fun y_1 =>
  bnd (idx (Prod.fst y) (0 : Int)) fun y_2 =>
  bnd (W.circ_kindOf y_2) fun y_3 =>
  bnd (okIf (decide ((1 : Int) ≤ (↑(List.length (Prod.fst y)) : Int)) && decide ((↑(List.length (Prod.fst y)) : Int) ≤ (↑(List.length (Prod.fst y)) : Int)))) fun y_4 =>
  br (y_3 == (0 : Int))
   (some ((y_3, (0 : Int), [], (0 : Int), (0 : Int), []), false))
   (bnd (W.circ_operation.c224581 (1 : Int) ((↑(List.length (Prod.fst y)) : Int) - (1 : Int)) false y_3 (0 : Int) (Prod.fst y) some) fun y_5 =>
    bnd (W.circ_operation.c232773 (Prod.fst y_5) (Prod.fst (Prod.snd y_5)) (Prod.fst (Prod.snd (Prod.snd y_5))) y_3 (0 : Int) (Prod.snd (Prod.snd (Prod.snd (Prod.snd y_5)))) some) fun y_6 =>
    bnd (W.circ_operation.c240965 (Prod.fst y_6) (Prod.fst (Prod.snd y_6)) (Prod.fst (Prod.snd (Prod.snd y_6))) y_3 [] (Prod.snd (Prod.snd (Prod.snd (Prod.snd y_6)))) some) fun y_7 =>
    bnd (W.circ_operation.c249159 (Prod.fst y_7) (Prod.fst (Prod.snd y_7)) (Prod.fst (Prod.snd (Prod.snd y_7))) y_3 (0 : Int) (Prod.snd (Prod.snd (Prod.snd (Prod.snd y_7)))) some) fun y_8 =>
    bnd (W.circ_operation.c261445 (Prod.fst y_8) (Prod.fst (Prod.snd y_8)) (Prod.fst (Prod.snd (Prod.snd y_8))) [] (Prod.snd (Prod.snd (Prod.snd (Prod.snd y_8)))) some) fun y_9 =>
    bnd (W.circ_operation.c17 (Prod.fst y_9) (Prod.fst (Prod.snd y_9)) (Prod.fst (Prod.snd (Prod.snd y_9))) (Prod.snd (Prod.snd (Prod.snd (Prod.snd y_9)))) some) fun y_10 =>
    some ((y_3, Prod.fst (Prod.snd (Prod.snd (Prod.snd y_5))), Prod.fst (Prod.snd (Prod.snd (Prod.snd y_7))), Prod.fst (Prod.snd (Prod.snd (Prod.snd y_6))), Prod.fst (Prod.snd (Prod.snd (Prod.snd y_8))), Prod.fst (Prod.snd (Prod.snd (Prod.snd y_9)))), y_10))
def circ_operation.ce : Go.Ql.Callee := ⟨[.str], [(.st (.pair (.int .i64) (.pair (.int .i64) (.pair (.sl (.int .i64)) (.pair (.int .i64) (.pair (.int .i64) (.sl (.int .i64)))))))), .bool], fun x_ => circ_operation x_⟩
def circ_operation.G : Env := ⟨66, tab, [(81, circ_kindOf.ce), (68, circ_turns.ce), (69, circ_gate.ce)], [0, 2, 3, 4, 5, 21, 25, 30, 38, 43, 53], [4, 7, 8, 1004], [(17, [⟨[], [], [57, 58, 59, 60, 61, 62, 63, 64, 65], []⟩, ⟨[], [], [56], []⟩, ⟨[1], [], [56], []⟩, ⟨[2, 1], [], [56], []⟩, ⟨[3, 2, 1], [], [56], []⟩, ⟨[4, 3, 2, 1], [], [56], [2]⟩, ⟨[5, 4, 3, 2, 1], [], [56], [2]⟩, ⟨[6, 5, 4, 3, 2, 1], [], [56], [2]⟩, ⟨[7, 6, 5, 4, 3, 2, 1], [], [56], [2]⟩, ⟨[4, 3, 2, 1, 8, 7, 6, 5], [], [56], [2]⟩, ⟨[0, 4, 3, 2, 1], [2], [61, 62, 63, 64, 65], []⟩, ⟨[9, 4, 3, 2, 1, 8, 7, 6, 5, 10, 0], [], [], []⟩])], [(17, circ_operation.c17r), (261445, circ_operation.c261445r), (249159, circ_operation.c249159r), (13, circ_operation.c13r), (240965, circ_operation.c240965r), (10, circ_operation.c10r), (232773, circ_operation.c232773r), (224581, circ_operation.c224581r)], [(60, strings_Split.mc), (62, circ_cursor_takes.mc), (61, circ_cursor_meets.mc), (82, circ_cursor_many.mc), (83, circ_cursor_conditions.mc)], tab_eqs⟩
theorem circ_operation.eq (x_ : dens [.str]) : den circ_operation.G Go.Proofs.Tryd.f63 [.str] [(.st (.pair (.int .i64) (.pair (.int .i64) (.pair (.sl (.int .i64)) (.pair (.int .i64) (.pair (.int .i64) (.sl (.int .i64)))))))), .bool] x_ = circ_operation x_ := by kernel_rfl
theorem circ_operation.p0 : PieceOk circ_operation.G (pieceAt (pieces circ_operation.G.cks (bodyOf Go.Proofs.Tryd.f63)) 0).1 (pieceAt (pieces circ_operation.G.cks (bodyOf Go.Proofs.Tryd.f63)) 0).2 :=
  join_ok (s := circ_operation.c224581r) (by kernel_rfl) (by kernel_rfl) (sums_of (sh := circ_operation.c224581s) (fun ρ x_ k_ => (nat_bnd fun _ => (nat_br (nat_bnd fun _ => nat_leaf) nat_leaf))) (fun ρ x_ t k => (by kernel_rfl)) (fun x_ => by kernel_rfl))
theorem circ_operation.p1 : PieceOk circ_operation.G (pieceAt (pieces circ_operation.G.cks (bodyOf Go.Proofs.Tryd.f63)) 1).1 (pieceAt (pieces circ_operation.G.cks (bodyOf Go.Proofs.Tryd.f63)) 1).2 :=
  join_ok (s := circ_operation.c232773r) (by kernel_rfl) (by kernel_rfl) (sums_of (sh := circ_operation.c232773s) (fun ρ x_ k_ => (nat_br (nat_bnd fun _ => nat_leaf) nat_leaf)) (fun ρ x_ t k => (by kernel_rfl)) (fun x_ => by kernel_rfl))
theorem circ_operation.p2 : PieceOk circ_operation.G (pieceAt (pieces circ_operation.G.cks (bodyOf Go.Proofs.Tryd.f63)) 2).1 (pieceAt (pieces circ_operation.G.cks (bodyOf Go.Proofs.Tryd.f63)) 2).2 :=
  join_ok (s := circ_operation.c240965r) (by kernel_rfl) (by kernel_rfl) (sums_of (sh := circ_operation.c240965s) (fun ρ x_ k_ => (nat_bnd fun _ => (nat_br (nat_bnd fun _ => nat_leaf) nat_leaf))) (fun ρ x_ t k => (by kernel_rfl)) (fun x_ => by kernel_rfl))
theorem circ_operation.p3 : PieceOk circ_operation.G (pieceAt (pieces circ_operation.G.cks (bodyOf Go.Proofs.Tryd.f63)) 3).1 (pieceAt (pieces circ_operation.G.cks (bodyOf Go.Proofs.Tryd.f63)) 3).2 :=
  region_ok (s := circ_operation.c10r) (by kernel_rfl) (by kernel_rfl) (sums_of (sh := circ_operation.c10s) (fun ρ x_ k_ => (nat_bnd fun _ => (nat_br (nat_bnd fun _ => nat_leaf) nat_leaf))) (fun ρ x_ t k => (by kernel_rfl)) (fun x_ => by kernel_rfl))
theorem circ_operation.p4 : PieceOk circ_operation.G (pieceAt (pieces circ_operation.G.cks (bodyOf Go.Proofs.Tryd.f63)) 4).1 (pieceAt (pieces circ_operation.G.cks (bodyOf Go.Proofs.Tryd.f63)) 4).2 :=
  join_ok (s := circ_operation.c249159r) (by kernel_rfl) (by kernel_rfl) (sums_of (sh := circ_operation.c249159s) (fun ρ x_ k_ => (nat_br (nat_bnd fun _ => (nat_bnd fun _ => nat_leaf)) nat_leaf)) (fun ρ x_ t k => (by kernel_rfl)) (fun x_ => by kernel_rfl))
theorem circ_operation.p5 : PieceOk circ_operation.G (pieceAt (pieces circ_operation.G.cks (bodyOf Go.Proofs.Tryd.f63)) 5).1 (pieceAt (pieces circ_operation.G.cks (bodyOf Go.Proofs.Tryd.f63)) 5).2 :=
  region_ok (s := circ_operation.c13r) (by kernel_rfl) (by kernel_rfl) (sums_of (sh := circ_operation.c13s) (fun ρ x_ k_ => (nat_bnd fun _ => (nat_br nat_leaf nat_leaf))) (fun ρ x_ t k => (by kernel_rfl)) (fun x_ => by kernel_rfl))
theorem circ_operation.p6 : PieceOk circ_operation.G (pieceAt (pieces circ_operation.G.cks (bodyOf Go.Proofs.Tryd.f63)) 6).1 (pieceAt (pieces circ_operation.G.cks (bodyOf Go.Proofs.Tryd.f63)) 6).2 :=
  join_ok (s := circ_operation.c261445r) (by kernel_rfl) (by kernel_rfl) (sums_of (sh := circ_operation.c261445s) (fun ρ x_ k_ => (nat_bnd fun _ => (nat_br (nat_bnd fun _ => nat_leaf) nat_leaf))) (fun ρ x_ t k => (by kernel_rfl)) (fun x_ => by kernel_rfl))
theorem circ_operation.p7 : PieceOk circ_operation.G (pieceAt (pieces circ_operation.G.cks (bodyOf Go.Proofs.Tryd.f63)) 7).1 (pieceAt (pieces circ_operation.G.cks (bodyOf Go.Proofs.Tryd.f63)) 7).2 :=
  region_ok (s := circ_operation.c17r) (by kernel_rfl) (by kernel_rfl) (sums_of (sh := circ_operation.c17s) (fun ρ x_ k_ => (nat_br nat_leaf nat_leaf)) (fun ρ x_ t k => (by kernel_rfl)) (fun x_ => by kernel_rfl))
theorem circ_operation.ok : CalleeOk Go.Proofs.Tryd.prog 63 circ_operation.ce := fn_ok (G := circ_operation.G) tab_ok mixed Go.Proofs.Tryd.func63 ⟨(fns_cons circ_kindOf.ok (fns_cons circ_turns.ok (fns_cons circ_gate.ok fns_nil))), (mfns_cons strings_Split.ok (mfns_cons circ_cursor_takes.ok (mfns_cons circ_cursor_meets.ok (mfns_cons circ_cursor_many.ok (mfns_cons circ_cursor_conditions.ok mfns_nil))))), tab_eqs_ok⟩ (m := 8) (by kernel_rfl) ⟨⟨⟨⟨⟨⟨⟨⟨trivial, circ_operation.p0⟩, circ_operation.p1⟩, circ_operation.p2⟩, circ_operation.p3⟩, circ_operation.p4⟩, circ_operation.p5⟩, circ_operation.p6⟩, circ_operation.p7⟩ (by kernel_rfl) circ_operation.eq
abbrev qd17 : SD := .one (.ref 3 0)
abbrev qd18 : SD := .one (.val (.sl .str))
abbrev qd19 : SD := .one (.ref 6 0)
abbrev qd20 : SO := .box [.val (.int .i64), .val (.int .i64), .val (.sl (.st (.pair (.int .i64) (.pair (.int .i64) (.pair (.sl (.int .i64)) (.pair (.int .i64) (.pair (.int .i64) (.sl (.int .i64)))))))))]
abbrev qd21 : SO := .box [.val (.int .i64), .val (.int .i64)]
abbrev qd22 : SO := .box [.own 22 0, .val .bool]
abbrev qd23 : SO := .box [.val (.int .i64), .val (.int .i64), .own 3006 0]
abbrev qd24 : SO := .arr 0 false 57 (.st (.pair (.int .i64) (.pair (.int .i64) (.pair (.sl (.int .i64)) (.pair (.int .i64) (.pair (.int .i64) (.sl (.int .i64))))))))
abbrev qd25 : SO := .box [.win 22 0, .val .bool]
abbrev qd26 : SD := .one (.ref 11 0)
def circ_Parse.c224581 {ρ : Type} (head1 : Bool) (c0 : Int) (t22_1 : List (List UInt8)) (k_ : (Int) × (Int) × (Bool) × (Int) × (List (List UInt8)) → Option ρ) : Option ρ :=
  bnd (W.circ_cursor_meets (Prod.fst (uP (uP (Array.toList (ByteArray.data (ByteArray.mk #[(113 : UInt8), (117 : UInt8), (98 : UInt8), (105 : UInt8), (116 : UInt8), (115 : UInt8)])), ()) fun u r ↦ (u, ())) fun u r ↦ (u, uP (uP ((0 : Int), (↑(List.length t22_1) : Int), ()) fun u r ↦ (u, uP r fun u r ↦ (u, uP (head1, ()) fun u r ↦ (u, ())))) fun u r ↦ (u, uP r fun u r ↦ (u, uP r fun u r ↦ (u, uP (t22_1, ()) fun u r ↦ (u, ()))))))) (Prod.fst (Prod.snd (uP (uP (Array.toList (ByteArray.data (ByteArray.mk #[(113 : UInt8), (117 : UInt8), (98 : UInt8), (105 : UInt8), (116 : UInt8), (115 : UInt8)])), ()) fun u r ↦ (u, ())) fun u r ↦ (u, uP (uP ((0 : Int), (↑(List.length t22_1) : Int), ()) fun u r ↦ (u, uP r fun u r ↦ (u, uP (head1, ()) fun u r ↦ (u, ())))) fun u r ↦ (u, uP r fun u r ↦ (u, uP r fun u r ↦ (u, uP (t22_1, ()) fun u r ↦ (u, ())))))))) (Prod.fst (Prod.snd (Prod.snd (uP (uP (Array.toList (ByteArray.data (ByteArray.mk #[(113 : UInt8), (117 : UInt8), (98 : UInt8), (105 : UInt8), (116 : UInt8), (115 : UInt8)])), ()) fun u r ↦ (u, ())) fun u r ↦ (u, uP (uP ((0 : Int), (↑(List.length t22_1) : Int), ()) fun u r ↦ (u, uP r fun u r ↦ (u, uP (head1, ()) fun u r ↦ (u, ())))) fun u r ↦ (u, uP r fun u r ↦ (u, uP r fun u r ↦ (u, uP (t22_1, ()) fun u r ↦ (u, ()))))))))) (Prod.fst (Prod.snd (Prod.snd (Prod.snd (uP (uP (Array.toList (ByteArray.data (ByteArray.mk #[(113 : UInt8), (117 : UInt8), (98 : UInt8), (105 : UInt8), (116 : UInt8), (115 : UInt8)])), ()) fun u r ↦ (u, ())) fun u r ↦ (u, uP (uP ((0 : Int), (↑(List.length t22_1) : Int), ()) fun u r ↦ (u, uP r fun u r ↦ (u, uP (head1, ()) fun u r ↦ (u, ())))) fun u r ↦ (u, uP r fun u r ↦ (u, uP r fun u r ↦ (u, uP (t22_1, ()) fun u r ↦ (u, ())))))))))) (Prod.fst (Prod.snd (Prod.snd (Prod.snd (Prod.snd (uP (uP (Array.toList (ByteArray.data (ByteArray.mk #[(113 : UInt8), (117 : UInt8), (98 : UInt8), (105 : UInt8), (116 : UInt8), (115 : UInt8)])), ()) fun u r ↦ (u, ())) fun u r ↦ (u, uP (uP ((0 : Int), (↑(List.length t22_1) : Int), ()) fun u r ↦ (u, uP r fun u r ↦ (u, uP (head1, ()) fun u r ↦ (u, ())))) fun u r ↦ (u, uP r fun u r ↦ (u, uP r fun u r ↦ (u, uP (t22_1, ()) fun u r ↦ (u, ())))))))))))) fun y =>
  br (Prod.fst y)
   (bnd (W.circ_cursor_takes (Prod.fst (uP (uP (Prod.fst y.2, Prod.fst y.2.2, ()) fun u r ↦ (u, uP r fun u r ↦ (u, uP (Prod.fst y.2.2.2, ()) fun u r ↦ (u, ())))) fun u r ↦ (u, uP r fun u r ↦ (u, uP r fun u r ↦ (u, uP (Prod.fst y.2.2.2.2, ()) fun u r ↦ (u, ())))))) (Prod.fst (Prod.snd (uP (uP (Prod.fst y.2, Prod.fst y.2.2, ()) fun u r ↦ (u, uP r fun u r ↦ (u, uP (Prod.fst y.2.2.2, ()) fun u r ↦ (u, ())))) fun u r ↦ (u, uP r fun u r ↦ (u, uP r fun u r ↦ (u, uP (Prod.fst y.2.2.2.2, ()) fun u r ↦ (u, ()))))))) (Prod.fst (Prod.snd (Prod.snd (uP (uP (Prod.fst y.2, Prod.fst y.2.2, ()) fun u r ↦ (u, uP r fun u r ↦ (u, uP (Prod.fst y.2.2.2, ()) fun u r ↦ (u, ())))) fun u r ↦ (u, uP r fun u r ↦ (u, uP r fun u r ↦ (u, uP (Prod.fst y.2.2.2.2, ()) fun u r ↦ (u, ())))))))) (Prod.fst (Prod.snd (Prod.snd (Prod.snd (uP (uP (Prod.fst y.2, Prod.fst y.2.2, ()) fun u r ↦ (u, uP r fun u r ↦ (u, uP (Prod.fst y.2.2.2, ()) fun u r ↦ (u, ())))) fun u r ↦ (u, uP r fun u r ↦ (u, uP r fun u r ↦ (u, uP (Prod.fst y.2.2.2.2, ()) fun u r ↦ (u, ())))))))))) fun y_1 =>
    k_ ((Prod.fst y_1.2), (Prod.fst y_1.2.2), (Prod.fst y_1.2.2.2), (Prod.fst y_1), (Prod.fst y_1.2.2.2.2)))
   (k_ ((Prod.fst y.2), (Prod.fst y.2.2), true, c0, (Prod.fst y.2.2.2.2)))
def circ_Parse.c224581s : Shape := ⟨[(0, qd0), (2, qd12), (3, qd17), (4, qd18), (5, qd14), (6, qd19)], [(2, qd20), (3, qd21), (5, qd22), (6, qd23), (22, qd3), (1005, qd3), (3006, qd24)]⟩
def circ_Parse.c224581x0 : Shape := ⟨[(0, qd0), (2, qd12), (3, qd17), (4, qd18), (5, qd14), (6, qd19)], [(2, qd20), (3, qd21), (5, qd25), (6, qd23), (22, qd3), (1005, qd3), (3006, qd24)]⟩
def circ_Parse.c224581r : Ck := Ck.of (T := (Int) × (Int) × (Bool) × (Int) × (List (List UInt8))) circ_Parse.c224581s (fun ρ x_ k_ => uP x_ fun text x_ => uP x_ fun lines x_ => uP x_ fun t20 x_ => uP x_ fun t21 x_ => uP x_ fun t22 x_ => uP x_ fun t30 x_ => uP x_ fun t31 x_ => uP x_ fun head1 x_ => uP x_ fun c0 x_ => uP x_ fun c1 x_ => uP x_ fun t22_1 x_ => uP x_ fun t1005 x_ => uP x_ fun t3006 x_ => circ_Parse.c224581 head1 c0 t22_1 k_) (fun ρ x_ r_ k_ => uP x_ fun text x_ => uP x_ fun lines x_ => uP x_ fun t20 x_ => uP x_ fun t21 x_ => uP x_ fun t22 x_ => uP x_ fun t30 x_ => uP x_ fun t31 x_ => uP x_ fun head1 x_ => uP x_ fun c0 x_ => uP x_ fun c1 x_ => uP x_ fun t22_1 x_ => uP x_ fun t1005 x_ => uP x_ fun t3006 x_ => k_ 0 (Shape.inj circ_Parse.c224581x0 (text, lines, t20, t21, t22, t30, t31, r_.1, r_.2.1, r_.2.2.1, r_.2.2.2.1, c1, r_.2.2.2.2, t1005, t3006, ())))
def circ_Parse.c9 {ρ : Type} (head0lo : Int) (head0n : Int) (head1 : Bool) (t22_1 : List (List UInt8)) (k_ : (Int) × (Int) × (Bool) × (List (List UInt8)) → Option ρ) : Option ρ :=
  bnd (W.circ_cursor_meets (Prod.fst (uP (uP (Array.toList (ByteArray.data (ByteArray.mk #[(98 : UInt8), (105 : UInt8), (116 : UInt8), (115 : UInt8)])), ()) fun u r ↦ (u, ())) fun u r ↦ (u, uP (uP (head0lo, head0n, ()) fun u r ↦ (u, uP r fun u r ↦ (u, uP (head1, ()) fun u r ↦ (u, ())))) fun u r ↦ (u, uP r fun u r ↦ (u, uP r fun u r ↦ (u, uP (t22_1, ()) fun u r ↦ (u, ()))))))) (Prod.fst (Prod.snd (uP (uP (Array.toList (ByteArray.data (ByteArray.mk #[(98 : UInt8), (105 : UInt8), (116 : UInt8), (115 : UInt8)])), ()) fun u r ↦ (u, ())) fun u r ↦ (u, uP (uP (head0lo, head0n, ()) fun u r ↦ (u, uP r fun u r ↦ (u, uP (head1, ()) fun u r ↦ (u, ())))) fun u r ↦ (u, uP r fun u r ↦ (u, uP r fun u r ↦ (u, uP (t22_1, ()) fun u r ↦ (u, ())))))))) (Prod.fst (Prod.snd (Prod.snd (uP (uP (Array.toList (ByteArray.data (ByteArray.mk #[(98 : UInt8), (105 : UInt8), (116 : UInt8), (115 : UInt8)])), ()) fun u r ↦ (u, ())) fun u r ↦ (u, uP (uP (head0lo, head0n, ()) fun u r ↦ (u, uP r fun u r ↦ (u, uP (head1, ()) fun u r ↦ (u, ())))) fun u r ↦ (u, uP r fun u r ↦ (u, uP r fun u r ↦ (u, uP (t22_1, ()) fun u r ↦ (u, ()))))))))) (Prod.fst (Prod.snd (Prod.snd (Prod.snd (uP (uP (Array.toList (ByteArray.data (ByteArray.mk #[(98 : UInt8), (105 : UInt8), (116 : UInt8), (115 : UInt8)])), ()) fun u r ↦ (u, ())) fun u r ↦ (u, uP (uP (head0lo, head0n, ()) fun u r ↦ (u, uP r fun u r ↦ (u, uP (head1, ()) fun u r ↦ (u, ())))) fun u r ↦ (u, uP r fun u r ↦ (u, uP r fun u r ↦ (u, uP (t22_1, ()) fun u r ↦ (u, ())))))))))) (Prod.fst (Prod.snd (Prod.snd (Prod.snd (Prod.snd (uP (uP (Array.toList (ByteArray.data (ByteArray.mk #[(98 : UInt8), (105 : UInt8), (116 : UInt8), (115 : UInt8)])), ()) fun u r ↦ (u, ())) fun u r ↦ (u, uP (uP (head0lo, head0n, ()) fun u r ↦ (u, uP r fun u r ↦ (u, uP (head1, ()) fun u r ↦ (u, ())))) fun u r ↦ (u, uP r fun u r ↦ (u, uP r fun u r ↦ (u, uP (t22_1, ()) fun u r ↦ (u, ())))))))))))) fun y =>
  br (!Prod.fst y)
   (k_ ((Prod.fst y.2), (Prod.fst y.2.2), true, (Prod.fst y.2.2.2.2)))
   (k_ ((Prod.fst y.2), (Prod.fst y.2.2), (Prod.fst y.2.2.2), (Prod.fst y.2.2.2.2)))
def circ_Parse.c9s : Shape := ⟨[(0, qd0), (2, qd12), (3, qd17), (4, qd18), (5, qd14), (6, qd19)], [(2, qd20), (3, qd21), (5, qd25), (6, qd23), (22, qd3), (1005, qd3), (3006, qd24)]⟩
def circ_Parse.c9x0 : Shape := ⟨[(0, qd0), (2, qd12), (3, qd17), (4, qd18), (5, qd14), (6, qd19)], [(2, qd20), (3, qd21), (5, qd25), (6, qd23), (22, qd3), (1005, qd3), (3006, qd24)]⟩
def circ_Parse.c9r : Ck := Ck.of (T := (Int) × (Int) × (Bool) × (List (List UInt8))) circ_Parse.c9s (fun ρ x_ k_ => uP x_ fun text x_ => uP x_ fun lines x_ => uP x_ fun t20 x_ => uP x_ fun t21 x_ => uP x_ fun t22 x_ => uP x_ fun t30 x_ => uP x_ fun t31 x_ => uP x_ fun head0lo x_ => uP x_ fun head0n x_ => uP x_ fun head1 x_ => uP x_ fun c0 x_ => uP x_ fun c1 x_ => uP x_ fun t22_1 x_ => uP x_ fun t1005 x_ => uP x_ fun t3006 x_ => circ_Parse.c9 head0lo head0n head1 t22_1 k_) (fun ρ x_ r_ k_ => uP x_ fun text x_ => uP x_ fun lines x_ => uP x_ fun t20 x_ => uP x_ fun t21 x_ => uP x_ fun t22 x_ => uP x_ fun t30 x_ => uP x_ fun t31 x_ => uP x_ fun head0lo x_ => uP x_ fun head0n x_ => uP x_ fun head1 x_ => uP x_ fun c0 x_ => uP x_ fun c1 x_ => uP x_ fun t22_1 x_ => uP x_ fun t1005 x_ => uP x_ fun t3006 x_ => k_ 0 (Shape.inj circ_Parse.c9x0 (text, lines, t20, t21, t22, t30, t31, r_.1, r_.2.1, r_.2.2.1, c0, c1, r_.2.2.2, t1005, t3006, ())))
def circ_Parse.c11 {ρ : Type} (head0lo : Int) (head0n : Int) (head1 : Bool) (t22_1 : List (List UInt8)) (k_ : Bool → Option ρ) : Option ρ :=
  br head1
   (k_ true)
   (k_ (decide ((↑(List.length (part head0lo head0n t22_1)) : Int) > (0 : Int))))
def circ_Parse.c11s : Shape := ⟨[(0, qd0), (2, qd12), (3, qd17), (4, qd18), (5, qd14), (6, qd19)], [(2, qd20), (3, qd21), (5, qd25), (6, qd23), (22, qd3), (1005, qd3), (3006, qd24)]⟩
def circ_Parse.c11x0 : Shape := ⟨[(0, qd0), (2, qd12), (3, qd17), (4, qd18), (5, qd14), (6, qd19), (44, qd8)], [(2, qd20), (3, qd21), (5, qd25), (6, qd23), (22, qd3), (1005, qd3), (3006, qd24)]⟩
def circ_Parse.c11r : Ck := Ck.of (T := Bool) circ_Parse.c11s (fun ρ x_ k_ => uP x_ fun text x_ => uP x_ fun lines x_ => uP x_ fun t20 x_ => uP x_ fun t21 x_ => uP x_ fun t22 x_ => uP x_ fun t30 x_ => uP x_ fun t31 x_ => uP x_ fun head0lo x_ => uP x_ fun head0n x_ => uP x_ fun head1 x_ => uP x_ fun c0 x_ => uP x_ fun c1 x_ => uP x_ fun t22_1 x_ => uP x_ fun t1005 x_ => uP x_ fun t3006 x_ => circ_Parse.c11 head0lo head0n head1 t22_1 k_) (fun ρ x_ r_ k_ => uP x_ fun text x_ => uP x_ fun lines x_ => uP x_ fun t20 x_ => uP x_ fun t21 x_ => uP x_ fun t22 x_ => uP x_ fun t30 x_ => uP x_ fun t31 x_ => uP x_ fun head0lo x_ => uP x_ fun head0n x_ => uP x_ fun head1 x_ => uP x_ fun c0 x_ => uP x_ fun c1 x_ => uP x_ fun t22_1 x_ => uP x_ fun t1005 x_ => uP x_ fun t3006 x_ => k_ 0 (Shape.inj circ_Parse.c11x0 (text, lines, r_, t20, t21, t22, t30, t31, head0lo, head0n, head1, c0, c1, t22_1, t1005, t3006, ())))
def circ_Parse.c16 {ρ : Type} (lines : List (List UInt8)) (i : Int) (l : List UInt8) (k_ : Bool → Option ρ) : Option ρ :=
  br (l == Array.toList (ByteArray.data (ByteArray.mk #[])))
   (k_ (i == IntKind.wrap IntKind.i64 ((↑(List.length lines) : Int) - (2 : Int))))
   (k_ false)
def circ_Parse.c16s : Shape := ⟨[(0, qd0), (2, qd12), (3, qd17), (4, qd18), (5, qd14), (6, qd19), (7, qd1), (8, qd0), (48, qd18), (49, qd1), (50, qd1)], [(2, qd20), (3, qd21), (5, qd25), (6, qd23), (22, qd3), (1005, qd3), (3006, qd24)]⟩
def circ_Parse.c16x0 : Shape := ⟨[(0, qd0), (2, qd12), (3, qd17), (4, qd18), (5, qd14), (6, qd19), (7, qd1), (8, qd0), (48, qd18), (49, qd1), (50, qd1), (63, qd8)], [(2, qd20), (3, qd21), (5, qd25), (6, qd23), (22, qd3), (1005, qd3), (3006, qd24)]⟩
def circ_Parse.c16r : Ck := Ck.of (T := Bool) circ_Parse.c16s (fun ρ x_ k_ => uP x_ fun text x_ => uP x_ fun lines x_ => uP x_ fun i x_ => uP x_ fun l x_ => uP x_ fun t48 x_ => uP x_ fun t49 x_ => uP x_ fun t50 x_ => uP x_ fun t20 x_ => uP x_ fun t21 x_ => uP x_ fun t22 x_ => uP x_ fun t30 x_ => uP x_ fun t31 x_ => uP x_ fun head0lo x_ => uP x_ fun head0n x_ => uP x_ fun head1 x_ => uP x_ fun c0 x_ => uP x_ fun c1 x_ => uP x_ fun t22_1 x_ => uP x_ fun t1005 x_ => uP x_ fun t3006 x_ => circ_Parse.c16 lines i l k_) (fun ρ x_ r_ k_ => uP x_ fun text x_ => uP x_ fun lines x_ => uP x_ fun i x_ => uP x_ fun l x_ => uP x_ fun t48 x_ => uP x_ fun t49 x_ => uP x_ fun t50 x_ => uP x_ fun t20 x_ => uP x_ fun t21 x_ => uP x_ fun t22 x_ => uP x_ fun t30 x_ => uP x_ fun t31 x_ => uP x_ fun head0lo x_ => uP x_ fun head0n x_ => uP x_ fun head1 x_ => uP x_ fun c0 x_ => uP x_ fun c1 x_ => uP x_ fun t22_1 x_ => uP x_ fun t1005 x_ => uP x_ fun t3006 x_ => k_ 0 (Shape.inj circ_Parse.c16x0 (text, lines, i, l, t48, t49, t50, r_, t20, t21, t22, t30, t31, head0lo, head0n, head1, c0, c1, t22_1, t1005, t3006, ())))
def circ_Parse.c100014 {ρ : Type} (lines : List (List UInt8)) (t48 : List (List UInt8)) (t49 : Int) (t50 : Int) (t3006 : List ((Int) × ((Int) × ((List Int) × ((Int) × ((Int) × (List Int))))))) (k_ : ((Int) × (List ((Int) × ((Int) × ((List Int) × ((Int) × ((Int) × (List Int)))))))) ⊕ (((Int) × (List ((Int) × ((Int) × ((List Int) × ((Int) × ((Int) × (List Int)))))))) ⊕ ((Int) × (Int) × (Int) × (List ((Int) × ((Int) × ((List Int) × ((Int) × ((Int) × (List Int))))))))) → Option ρ) : Option ρ :=
  br (decide (t50 < t49))
   (bnd (idx t48 t50) fun y =>
    bnd (W.circ_Parse.c16 lines t50 y some) fun y_1 =>
    br y_1
     (k_ (.inr (.inl (t50, t3006))))
     (bnd (W.circ_operation y) fun y_2 =>
      br (!Prod.snd y_2)
       (bnd (W.circ_fault (1 : Int) (IntKind.wrap IntKind.i64 (t50 + (1 : Int)))) fun y_3 =>
        k_ (.inr (.inr (t50, (Prod.fst y_3), (Prod.snd y_3), t3006))))
       (bnd (okIf (decide ((List.length t3006 + (1 : Nat)) * (80 : Nat) ≤ (140737488355328 : Nat)) && decide (List.length t3006 + (1 : Nat) ≤ (140737488355328 : Nat)))) fun y_4 =>
        k_ (.inl ((IntKind.wrap IntKind.i64 (t50 + (1 : Int))), (t3006 ++ [(Prod.fst (Prod.fst y_2), Prod.fst (Prod.snd (Prod.fst y_2)), Prod.fst (Prod.snd (Prod.snd (Prod.fst y_2))), Prod.fst (Prod.snd (Prod.snd (Prod.snd (Prod.fst y_2)))), Prod.fst (Prod.snd (Prod.snd (Prod.snd (Prod.snd (Prod.fst y_2))))), Prod.snd (Prod.snd (Prod.snd (Prod.snd (Prod.snd (Prod.fst y_2))))))]))))))
   (k_ (.inr (.inl (t50, t3006))))
def circ_Parse.c100014s : Shape := ⟨[(0, qd0), (2, qd12), (3, qd17), (4, qd18), (5, qd14), (6, qd19), (48, qd18), (49, qd1), (50, qd1)], [(2, qd20), (3, qd21), (5, qd25), (6, qd23), (22, qd3), (1005, qd3), (3006, qd24)]⟩
def circ_Parse.c100014x0 : Shape := ⟨[(0, qd0), (2, qd12), (3, qd17), (4, qd18), (5, qd14), (6, qd19), (48, qd18), (49, qd1), (50, qd1)], [(2, qd20), (3, qd21), (5, qd25), (6, qd23), (22, qd3), (1005, qd3), (3006, qd24)]⟩
def circ_Parse.c100014x1 : Shape := ⟨[(0, qd0), (2, qd12), (3, qd17), (4, qd18), (5, qd14), (6, qd19), (48, qd18), (49, qd1), (50, qd1)], [(2, qd20), (3, qd21), (5, qd25), (6, qd23), (22, qd3), (1005, qd3), (3006, qd24)]⟩
def circ_Parse.c100014r : Ck := Ck.ofLoop (S := (Int) × (List ((Int) × ((Int) × ((List Int) × ((Int) × ((Int) × (List Int)))))))) (T := ((Int) × (List ((Int) × ((Int) × ((List Int) × ((Int) × ((Int) × (List Int)))))))) ⊕ ((Int) × (Int) × (Int) × (List ((Int) × ((Int) × ((List Int) × ((Int) × ((Int) × (List Int))))))))) circ_Parse.c100014s (fun x_ => uP x_ fun text x_ => uP x_ fun lines x_ => uP x_ fun t48 x_ => uP x_ fun t49 x_ => uP x_ fun t50 x_ => uP x_ fun t20 x_ => uP x_ fun t21 x_ => uP x_ fun t22 x_ => uP x_ fun t30 x_ => uP x_ fun t31 x_ => uP x_ fun head0lo x_ => uP x_ fun head0n x_ => uP x_ fun head1 x_ => uP x_ fun c0 x_ => uP x_ fun c1 x_ => uP x_ fun t22_1 x_ => uP x_ fun t1005 x_ => uP x_ fun t3006 x_ => (t50, t3006)) (fun ρ x_ s_ k_ => uP x_ fun text x_ => uP x_ fun lines x_ => uP x_ fun t48 x_ => uP x_ fun t49 x_ => uP x_ fun t50 x_ => uP x_ fun t20 x_ => uP x_ fun t21 x_ => uP x_ fun t22 x_ => uP x_ fun t30 x_ => uP x_ fun t31 x_ => uP x_ fun head0lo x_ => uP x_ fun head0n x_ => uP x_ fun head1 x_ => uP x_ fun c0 x_ => uP x_ fun c1 x_ => uP x_ fun t22_1 x_ => uP x_ fun t1005 x_ => uP x_ fun t3006 x_ => circ_Parse.c100014 lines t48 t49 s_.1 s_.2 k_) (fun ρ x_ r_ k_ => uP x_ fun text x_ => uP x_ fun lines x_ => uP x_ fun t48 x_ => uP x_ fun t49 x_ => uP x_ fun t50 x_ => uP x_ fun t20 x_ => uP x_ fun t21 x_ => uP x_ fun t22 x_ => uP x_ fun t30 x_ => uP x_ fun t31 x_ => uP x_ fun head0lo x_ => uP x_ fun head0n x_ => uP x_ fun head1 x_ => uP x_ fun c0 x_ => uP x_ fun c1 x_ => uP x_ fun t22_1 x_ => uP x_ fun t1005 x_ => uP x_ fun t3006 x_ => sel r_ (fun r_ => k_ 2 (Shape.inj circ_Parse.c100014x0 (text, lines, t48, t49, r_.1, t20, t21, t22, t30, t31, head0lo, head0n, head1, c0, c1, t22_1, t1005, r_.2, ()))) (fun r_ => k_ 1 (Shape.inj circ_Parse.c100014x1 (text, lines, t48, t49, r_.1, (0 : Int), (0 : Int), [], r_.2.1, r_.2.2.1, head0lo, head0n, head1, c0, c1, t22_1, t1005, r_.2.2.2, ()))))
def circ_Parse.c26 {ρ : Type}  (k_ : Unit → Option ρ) : Option ρ :=
  k_ ()
def circ_Parse.c26s : Shape := ⟨[(0, qd0), (2, qd12), (3, qd17), (4, qd18), (5, qd14), (6, qd19), (11, qd26), (48, qd18), (49, qd1), (50, qd1)], [(2, qd20), (3, qd21), (5, qd25), (6, qd23), (11, qd21), (22, qd3), (1005, qd3), (3006, qd24)]⟩
def circ_Parse.c26x0 : Shape := ⟨[(0, qd0), (2, qd12), (3, qd17), (4, qd18), (5, qd14), (6, qd19), (11, qd26), (48, qd18), (49, qd1), (50, qd1)], [(2, qd20), (3, qd21), (5, qd25), (6, qd23), (11, qd21), (22, qd3), (1005, qd3), (3006, qd24)]⟩
def circ_Parse.c26r : Ck := Ck.of (T := Unit) circ_Parse.c26s (fun ρ x_ k_ => uP x_ fun text x_ => uP x_ fun lines x_ => uP x_ fun t48 x_ => uP x_ fun t49 x_ => uP x_ fun t50 x_ => uP x_ fun t20 x_ => uP x_ fun t21 x_ => uP x_ fun t22 x_ => uP x_ fun t30 x_ => uP x_ fun t31 x_ => uP x_ fun head0lo x_ => uP x_ fun head0n x_ => uP x_ fun head1 x_ => uP x_ fun c0 x_ => uP x_ fun c1 x_ => uP x_ fun f0 x_ => uP x_ fun f1 x_ => uP x_ fun t22_1 x_ => uP x_ fun t1005 x_ => uP x_ fun t3006 x_ => circ_Parse.c26  k_) (fun ρ x_ r_ k_ => uP x_ fun text x_ => uP x_ fun lines x_ => uP x_ fun t48 x_ => uP x_ fun t49 x_ => uP x_ fun t50 x_ => uP x_ fun t20 x_ => uP x_ fun t21 x_ => uP x_ fun t22 x_ => uP x_ fun t30 x_ => uP x_ fun t31 x_ => uP x_ fun head0lo x_ => uP x_ fun head0n x_ => uP x_ fun head1 x_ => uP x_ fun c0 x_ => uP x_ fun c1 x_ => uP x_ fun f0 x_ => uP x_ fun f1 x_ => uP x_ fun t22_1 x_ => uP x_ fun t1005 x_ => uP x_ fun t3006 x_ => k_ 0 (Shape.inj circ_Parse.c26x0 (text, lines, t48, t49, t50, (0 : Int), (0 : Int), [], f0, f1, head0lo, head0n, head1, c0, c1, f0, f1, t22_1, t1005, t3006, ())))
def circ_Parse (text : List UInt8) : Option (((Int) × ((Int) × (List ((Int) × ((Int) × ((List Int) × ((Int) × ((Int) × (List Int))))))))) × ((Int) × (Int))) :=
  br (decide ((↑(List.length text) : Int) > (1000000 : Int)))
   (bnd (W.circ_fault (2 : Int) (0 : Int)) fun y =>
    some (((0 : Int), (0 : Int), []), Prod.fst y, Prod.snd y))
   (bnd (W.strings_Split (Prod.fst (uP (uP (text, ()) fun u r ↦ (u, uP (Array.toList (ByteArray.data (ByteArray.mk #[(10 : UInt8)])), ()) fun u r ↦ (u, ()))) fun u r ↦ (u, uP r fun u r ↦ (u, ())))) (Prod.fst (Prod.snd (uP (uP (text, ()) fun u r ↦ (u, uP (Array.toList (ByteArray.data (ByteArray.mk #[(10 : UInt8)])), ()) fun u r ↦ (u, ()))) fun u r ↦ (u, uP r fun u r ↦ (u, ())))))) fun y_1 =>
    bnd (idx (Prod.fst y_1) (0 : Int)) fun y_2 =>
    bnd (W.strings_Split (Prod.fst (uP (uP (y_2, ()) fun u r ↦ (u, uP (Array.toList (ByteArray.data (ByteArray.mk #[(32 : UInt8)])), ()) fun u r ↦ (u, ()))) fun u r ↦ (u, uP r fun u r ↦ (u, ())))) (Prod.fst (Prod.snd (uP (uP (y_2, ()) fun u r ↦ (u, uP (Array.toList (ByteArray.data (ByteArray.mk #[(32 : UInt8)])), ()) fun u r ↦ (u, ()))) fun u r ↦ (u, uP r fun u r ↦ (u, ())))))) fun y_3 =>
    bnd (W.circ_Parse.c224581 false (0 : Int) (Prod.fst y_3) some) fun y_4 =>
    bnd (W.circ_Parse.c9 (Prod.fst y_4) (Prod.fst (Prod.snd y_4)) (Prod.fst (Prod.snd (Prod.snd y_4))) (Prod.snd (Prod.snd (Prod.snd (Prod.snd y_4)))) some) fun y_5 =>
    bnd (W.circ_cursor_takes (Prod.fst (uP (uP (Prod.fst y_5, Prod.fst (Prod.snd y_5), ()) fun u r ↦ (u, uP r fun u r ↦ (u, uP (Prod.fst (Prod.snd (Prod.snd y_5)), ()) fun u r ↦ (u, ())))) fun u r ↦ (u, uP r fun u r ↦ (u, uP r fun u r ↦ (u, uP (Prod.snd (Prod.snd (Prod.snd y_5)), ()) fun u r ↦ (u, ())))))) (Prod.fst (Prod.snd (uP (uP (Prod.fst y_5, Prod.fst (Prod.snd y_5), ()) fun u r ↦ (u, uP r fun u r ↦ (u, uP (Prod.fst (Prod.snd (Prod.snd y_5)), ()) fun u r ↦ (u, ())))) fun u r ↦ (u, uP r fun u r ↦ (u, uP r fun u r ↦ (u, uP (Prod.snd (Prod.snd (Prod.snd y_5)), ()) fun u r ↦ (u, ()))))))) (Prod.fst (Prod.snd (Prod.snd (uP (uP (Prod.fst y_5, Prod.fst (Prod.snd y_5), ()) fun u r ↦ (u, uP r fun u r ↦ (u, uP (Prod.fst (Prod.snd (Prod.snd y_5)), ()) fun u r ↦ (u, ())))) fun u r ↦ (u, uP r fun u r ↦ (u, uP r fun u r ↦ (u, uP (Prod.snd (Prod.snd (Prod.snd y_5)), ()) fun u r ↦ (u, ())))))))) (Prod.fst (Prod.snd (Prod.snd (Prod.snd (uP (uP (Prod.fst y_5, Prod.fst (Prod.snd y_5), ()) fun u r ↦ (u, uP r fun u r ↦ (u, uP (Prod.fst (Prod.snd (Prod.snd y_5)), ()) fun u r ↦ (u, ())))) fun u r ↦ (u, uP r fun u r ↦ (u, uP r fun u r ↦ (u, uP (Prod.snd (Prod.snd (Prod.snd y_5)), ()) fun u r ↦ (u, ())))))))))) fun y_6 =>
    bnd (W.circ_Parse.c11 (Prod.fst y_6.2) (Prod.fst y_6.2.2) (Prod.fst y_6.2.2.2) (Prod.fst y_6.2.2.2.2) some) fun y_7 =>
    br y_7
     (bnd (W.circ_fault (1 : Int) (0 : Int)) fun y_8 =>
      some (((0 : Int), (0 : Int), []), Prod.fst y_8, Prod.snd y_8))
     (bnd (okIf (decide ((1 : Int) ≤ (↑(List.length (Prod.fst y_1)) : Int)) && decide ((↑(List.length (Prod.fst y_1)) : Int) ≤ (↑(List.length (Prod.fst y_1)) : Int)))) fun y_9 =>
      bnd (iter (fun s ↦ W.circ_Parse.c100014 (Prod.fst y_1) (List.drop (1 : Nat) (List.take (Int.toNat (↑(List.length (Prod.fst y_1)) : Int)) (Prod.fst y_1))) (↑(List.length (List.drop (1 : Nat) (List.take (Int.toNat (↑(List.length (Prod.fst y_1)) : Int)) (Prod.fst y_1)))) : Int) (Prod.fst s) (Prod.snd s) some) ((0 : Int), [])) fun y_10 =>
      sel y_10
       (fun u => bnd (idx (Prod.fst y_1) (IntKind.wrap IntKind.i64 ((↑(List.length (Prod.fst y_1)) : Int) - (1 : Int)))) fun y_11 =>
        br (!y_11 == Array.toList (ByteArray.data (ByteArray.mk #[])))
         (bnd (W.circ_fault (1 : Int) (IntKind.wrap IntKind.i64 ((↑(List.length (Prod.fst y_1)) : Int) - (1 : Int)))) fun y_12 =>
          some (((0 : Int), (0 : Int), []), Prod.fst y_12, Prod.snd y_12))
         (bnd (W.circ_Check (Prod.fst (Prod.snd (Prod.snd (Prod.snd y_4))), Prod.fst y_6, Prod.snd u)) fun y_13 =>
          br (Prod.fst y_13 != (0 : Int))
           (bnd (W.circ_Parse.c26 some) fun y_14 =>
            some (((0 : Int), (0 : Int), []), Prod.fst y_13, Prod.snd y_13))
           (some ((Prod.fst (Prod.snd (Prod.snd (Prod.snd y_4))), Prod.fst y_6, Prod.snd u), (0 : Int), (0 : Int)))))
       (fun v => some (((0 : Int), (0 : Int), []), Prod.fst (Prod.snd v), Prod.fst (Prod.snd (Prod.snd v))))))
def circ_Parse.ce : Go.Ql.Callee := ⟨[.str], [(.st (.pair (.int .i64) (.pair (.int .i64) (.sl (.st (.pair (.int .i64) (.pair (.int .i64) (.pair (.sl (.int .i64)) (.pair (.int .i64) (.pair (.int .i64) (.sl (.int .i64)))))))))))), (.st (.pair (.int .i64) (.int .i64)))], fun x_ => circ_Parse x_⟩
def circ_Parse.G : Env := ⟨103, tab, [(40, circ_fault.ce), (63, circ_operation.ce), (14, circ_Check.ce)], [0, 2, 3, 4, 5, 6, 7, 8, 9, 10, 11, 14, 24, 44, 48, 49, 50, 51, 63, 70, 88, 98], [5, 6, 22, 23, 1005, 3006], [(26, [⟨[], [], [100], []⟩, ⟨[], [], [99], [2]⟩, ⟨[0], [2], [100], []⟩, ⟨[1, 2, 0], [3], [], []⟩])], [(26, circ_Parse.c26r), (100014, circ_Parse.c100014r), (16, circ_Parse.c16r), (11, circ_Parse.c11r), (9, circ_Parse.c9r), (224581, circ_Parse.c224581r)], [(60, strings_Split.mc), (61, circ_cursor_meets.mc), (62, circ_cursor_takes.mc)], tab_eqs⟩
theorem circ_Parse.eq (x_ : dens [.str]) : den circ_Parse.G Go.Proofs.Tryd.f34 [.str] [(.st (.pair (.int .i64) (.pair (.int .i64) (.sl (.st (.pair (.int .i64) (.pair (.int .i64) (.pair (.sl (.int .i64)) (.pair (.int .i64) (.pair (.int .i64) (.sl (.int .i64)))))))))))), (.st (.pair (.int .i64) (.int .i64)))] x_ = circ_Parse x_ := by kernel_rfl
theorem circ_Parse.p0 : PieceOk circ_Parse.G (pieceAt (pieces circ_Parse.G.cks (bodyOf Go.Proofs.Tryd.f34)) 0).1 (pieceAt (pieces circ_Parse.G.cks (bodyOf Go.Proofs.Tryd.f34)) 0).2 :=
  join_ok (s := circ_Parse.c224581r) (by kernel_rfl) (by kernel_rfl) (sums_of (sh := circ_Parse.c224581s) (fun ρ x_ k_ => (nat_bnd fun _ => (nat_br (nat_bnd fun _ => nat_leaf) nat_leaf))) (fun ρ x_ t k => (by kernel_rfl)) (fun x_ => by kernel_rfl))
theorem circ_Parse.p1 : PieceOk circ_Parse.G (pieceAt (pieces circ_Parse.G.cks (bodyOf Go.Proofs.Tryd.f34)) 1).1 (pieceAt (pieces circ_Parse.G.cks (bodyOf Go.Proofs.Tryd.f34)) 1).2 :=
  region_ok (s := circ_Parse.c9r) (by kernel_rfl) (by kernel_rfl) (sums_of (sh := circ_Parse.c9s) (fun ρ x_ k_ => (nat_bnd fun _ => (nat_br nat_leaf nat_leaf))) (fun ρ x_ t k => (by kernel_rfl)) (fun x_ => by kernel_rfl))
theorem circ_Parse.p2 : PieceOk circ_Parse.G (pieceAt (pieces circ_Parse.G.cks (bodyOf Go.Proofs.Tryd.f34)) 2).1 (pieceAt (pieces circ_Parse.G.cks (bodyOf Go.Proofs.Tryd.f34)) 2).2 :=
  region_ok (s := circ_Parse.c11r) (by kernel_rfl) (by kernel_rfl) (sums_of (sh := circ_Parse.c11s) (fun ρ x_ k_ => (nat_br nat_leaf nat_leaf)) (fun ρ x_ t k => (by kernel_rfl)) (fun x_ => by kernel_rfl))
theorem circ_Parse.p3 : PieceOk circ_Parse.G (pieceAt (pieces circ_Parse.G.cks (bodyOf Go.Proofs.Tryd.f34)) 3).1 (pieceAt (pieces circ_Parse.G.cks (bodyOf Go.Proofs.Tryd.f34)) 3).2 :=
  loop_ok (s := circ_Parse.c100014r) (by kernel_rfl) (by kernel_rfl) (loops_of (sh := circ_Parse.c100014s) (I := fun x_ s_ => (x_.1, x_.2.1, x_.2.2.1, x_.2.2.2.1, s_.1, x_.2.2.2.2.2.1, x_.2.2.2.2.2.2.1, x_.2.2.2.2.2.2.2.1, x_.2.2.2.2.2.2.2.2.1, x_.2.2.2.2.2.2.2.2.2.1, x_.2.2.2.2.2.2.2.2.2.2.1, x_.2.2.2.2.2.2.2.2.2.2.2.1, x_.2.2.2.2.2.2.2.2.2.2.2.2.1, x_.2.2.2.2.2.2.2.2.2.2.2.2.2.1, x_.2.2.2.2.2.2.2.2.2.2.2.2.2.2.1, x_.2.2.2.2.2.2.2.2.2.2.2.2.2.2.2.1, x_.2.2.2.2.2.2.2.2.2.2.2.2.2.2.2.2.1, s_.2, ())) (fun x_ => rfl) (fun ρ x_ s_ k_ => (nat_br (nat_bnd fun _ => (nat_bnd fun _ => (nat_br nat_leaf (nat_bnd fun _ => (nat_br (nat_bnd fun _ => nat_leaf) (nat_bnd fun _ => nat_leaf)))))) nat_leaf)) (fun ρ x_ t k => (nat_sel (fun _ => (by kernel_rfl)) (fun _ => (by kernel_rfl)))) (fun x_ s => by kernel_rfl))
theorem circ_Parse.p4 : PieceOk circ_Parse.G (pieceAt (pieces circ_Parse.G.cks (bodyOf Go.Proofs.Tryd.f34)) 4).1 (pieceAt (pieces circ_Parse.G.cks (bodyOf Go.Proofs.Tryd.f34)) 4).2 :=
  region_ok (s := circ_Parse.c16r) (by kernel_rfl) (by kernel_rfl) (sums_of (sh := circ_Parse.c16s) (fun ρ x_ k_ => (nat_br nat_leaf nat_leaf)) (fun ρ x_ t k => (by kernel_rfl)) (fun x_ => by kernel_rfl))
theorem circ_Parse.p5 : PieceOk circ_Parse.G (pieceAt (pieces circ_Parse.G.cks (bodyOf Go.Proofs.Tryd.f34)) 5).1 (pieceAt (pieces circ_Parse.G.cks (bodyOf Go.Proofs.Tryd.f34)) 5).2 :=
  region_ok (s := circ_Parse.c26r) (by kernel_rfl) (by kernel_rfl) (sums_of (sh := circ_Parse.c26s) (fun ρ x_ k_ => nat_leaf) (fun ρ x_ t k => (by kernel_rfl)) (fun x_ => by kernel_rfl))
theorem circ_Parse.ok : CalleeOk Go.Proofs.Tryd.prog 34 circ_Parse.ce := fn_ok (G := circ_Parse.G) tab_ok mixed Go.Proofs.Tryd.func34 ⟨(fns_cons circ_fault.ok (fns_cons circ_operation.ok (fns_cons circ_Check.ok fns_nil))), (mfns_cons strings_Split.ok (mfns_cons circ_cursor_meets.ok (mfns_cons circ_cursor_takes.ok mfns_nil))), tab_eqs_ok⟩ (m := 6) (by kernel_rfl) ⟨⟨⟨⟨⟨⟨trivial, circ_Parse.p0⟩, circ_Parse.p1⟩, circ_Parse.p2⟩, circ_Parse.p3⟩, circ_Parse.p4⟩, circ_Parse.p5⟩ (by kernel_rfl) circ_Parse.eq
abbrev qd27 : SD := .one (.val (.st (.pair (.int .i64) (.pair (.int .i64) (.sl (.st (.pair (.int .i64) (.pair (.int .i64) (.pair (.sl (.int .i64)) (.pair (.int .i64) (.pair (.int .i64) (.sl (.int .i64)))))))))))))
abbrev qd28 : SD := .one (.ref 7 0)
abbrev qd29 : SD := .one (.ref 8 0)
abbrev qd30 : SD := .one (.ref 9 0)
abbrev qd31 : SD := .one (.ref 10 0)
abbrev qd32 : SD := .one (.ref 12 0)
abbrev qd33 : SD := .one (.ref 14 0)
end
end W
end
