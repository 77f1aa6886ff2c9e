/- Lifted functions, part 1: each with its contract. -/
import Derived.Test.YtcndclcpmelgoaaDoorCa
import Derived.Test.YtcndclcpmelgoaaDoorCb
import Derived.Test.YtcndclcpmelgoaaDoorProg
section
/- Functions of the program as typed functions, printed by a program of mine, with their proofs. -/
set_option maxHeartbeats 4000000
set_option maxRecDepth 100000
set_option linter.unusedVariables false
namespace W
open Go Go.Ql
noncomputable section
def circ_fault (code : Int) (t1 : Int) : Option ((Int) × (Int)) :=
  some (code, t1)
def circ_fault.ce : Go.Ql.Callee := ⟨[(.int .i64), (.int .i64)], [(.st (.pair (.int .i64) (.int .i64)))], fun x_ => circ_fault x_.1 x_.2⟩
def circ_fault.G : Env := ⟨8, tab, [], [0, 1, 4], [], [], [], [], tab_eqs⟩
theorem circ_fault.eq (x_ : dens [(.int .i64), (.int .i64)]) : den circ_fault.G Go.Proofs.Tryd.f40 [(.int .i64), (.int .i64)] [(.st (.pair (.int .i64) (.int .i64)))] x_ = circ_fault x_.1 x_.2 := by kernel_rfl
theorem circ_fault.ok : CalleeOk Go.Proofs.Tryd.prog 40 circ_fault.ce := fn_ok (G := circ_fault.G) tab_ok mixed Go.Proofs.Tryd.func40 ⟨fns_nil, mfns_nil, tab_eqs_ok⟩ (m := 0) (by kernel_rfl) trivial (by kernel_rfl) circ_fault.eq
abbrev q0 : SD := .one (.val (.int .i64))
abbrev q1 : SD := .one (.val .bool)
def circ_turns.c1 {ρ : Type} (kind : Int) (k_ : Bool → Option ρ) : Option ρ :=
  br (kind == (1 : Int))
   (k_ true)
   (k_ (kind == (4 : Int)))
def circ_turns.c1s : Shape := ⟨[(0, q0), (2, q1)], []⟩
def circ_turns.c1x0 : Shape := ⟨[(0, q0), (2, q1)], []⟩
def circ_turns.c1r : Ck := Ck.of (T := Bool) circ_turns.c1s (fun ρ x_ k_ => uP x_ fun kind x_ => uP x_ fun t2 x_ => circ_turns.c1 kind k_) (fun ρ x_ r_ k_ => uP x_ fun kind x_ => uP x_ fun t2 x_ => k_ 0 (Shape.inj circ_turns.c1x0 (kind, r_, ())))
def circ_turns (kind : Int) : Option (Bool) :=
  bnd (W.circ_turns.c1 kind some) fun y =>
  some y
def circ_turns.ce : Go.Ql.Callee := ⟨[(.int .i64)], [.bool], fun x_ => circ_turns x_⟩
def circ_turns.G : Env := ⟨9, tab, [], [0, 2], [], [], [(1, circ_turns.c1r)], [], tab_eqs⟩
theorem circ_turns.eq (x_ : dens [(.int .i64)]) : den circ_turns.G Go.Proofs.Tryd.f68 [(.int .i64)] [.bool] x_ = circ_turns x_ := by kernel_rfl
theorem circ_turns.p0 : PieceOk circ_turns.G (pieceAt (pieces circ_turns.G.cks (bodyOf Go.Proofs.Tryd.f68)) 0).1 (pieceAt (pieces circ_turns.G.cks (bodyOf Go.Proofs.Tryd.f68)) 0).2 :=
  region_ok (s := circ_turns.c1r) (by kernel_rfl) (by kernel_rfl) (sums_of (sh := circ_turns.c1s) (fun ρ x_ k_ => (nat_br nat_leaf nat_leaf)) (fun ρ x_ t k => (by kernel_rfl)) (fun x_ => by kernel_rfl))
theorem circ_turns.ok : CalleeOk Go.Proofs.Tryd.prog 68 circ_turns.ce := fn_ok (G := circ_turns.G) tab_ok mixed Go.Proofs.Tryd.func68 ⟨fns_nil, mfns_nil, tab_eqs_ok⟩ (m := 1) (by kernel_rfl) ⟨trivial, circ_turns.p0⟩ (by kernel_rfl) circ_turns.eq
def circ_gate.c1 {ρ : Type} (kind : Int) (k_ : Bool → Option ρ) : Option ρ :=
  br (kind == (2 : Int))
   (k_ true)
   (br (kind == (3 : Int))
     (k_ true)
     (k_ (kind == (4 : Int))))
def circ_gate.c1s : Shape := ⟨[(0, q0), (2, q1)], []⟩
def circ_gate.c1x0 : Shape := ⟨[(0, q0), (2, q1)], []⟩
def circ_gate.c1r : Ck := Ck.of (T := Bool) circ_gate.c1s (fun ρ x_ k_ => uP x_ fun kind x_ => uP x_ fun t2 x_ => circ_gate.c1 kind k_) (fun ρ x_ r_ k_ => uP x_ fun kind x_ => uP x_ fun t2 x_ => k_ 0 (Shape.inj circ_gate.c1x0 (kind, r_, ())))
def circ_gate (kind : Int) : Option (Bool) :=
  bnd (W.circ_gate.c1 kind some) fun y =>
  some y
def circ_gate.ce : Go.Ql.Callee := ⟨[(.int .i64)], [.bool], fun x_ => circ_gate x_⟩
def circ_gate.G : Env := ⟨13, tab, [], [0, 2], [], [], [(1, circ_gate.c1r)], [], tab_eqs⟩
theorem circ_gate.eq (x_ : dens [(.int .i64)]) : den circ_gate.G Go.Proofs.Tryd.f69 [(.int .i64)] [.bool] x_ = circ_gate x_ := by kernel_rfl
theorem circ_gate.p0 : PieceOk circ_gate.G (pieceAt (pieces circ_gate.G.cks (bodyOf Go.Proofs.Tryd.f69)) 0).1 (pieceAt (pieces circ_gate.G.cks (bodyOf Go.Proofs.Tryd.f69)) 0).2 :=
  region_ok (s := circ_gate.c1r) (by kernel_rfl) (by kernel_rfl) (sums_of (sh := circ_gate.c1s) (fun ρ x_ k_ => (nat_br nat_leaf (nat_br nat_leaf nat_leaf))) (fun ρ x_ t k => (by kernel_rfl)) (fun x_ => by kernel_rfl))
theorem circ_gate.ok : CalleeOk Go.Proofs.Tryd.prog 69 circ_gate.ce := fn_ok (G := circ_gate.G) tab_ok mixed Go.Proofs.Tryd.func69 ⟨fns_nil, mfns_nil, tab_eqs_ok⟩ (m := 1) (by kernel_rfl) ⟨trivial, circ_gate.p0⟩ (by kernel_rfl) circ_gate.eq
abbrev q2 : SD := .one (.val (.st (.pair (.int .i64) (.pair (.int .i64) (.pair (.sl (.int .i64)) (.pair (.int .i64) (.pair (.int .i64) (.sl (.int .i64)))))))))
abbrev q3 : SD := .one (.ref 1000100 0)
abbrev q4 : SO := .box [.val (.int .i64), .val (.int .i64), .val (.sl (.st (.pair (.int .i64) (.pair (.int .i64) (.pair (.sl (.int .i64)) (.pair (.int .i64) (.pair (.int .i64) (.sl (.int .i64)))))))))]
abbrev q5 : SD := .one (.ref 2 0)
abbrev q6 : SO := .box [.val (.int .i64), .val (.int .i64), .val (.sl (.int .i64)), .val (.int .i64), .val (.int .i64), .val (.sl (.int .i64))]
abbrev q7 : SD := .one (.aptr 5 0)
abbrev q8 : SD := .one (.val (.sl (.int .i64)))
abbrev q9 : SO := .arr 0 false 96 .bool
def circ_one.pre : Shape := ⟨[(0, q2), (1, q3)], [(1000100, q4)]⟩
def circ_one.post : Shape := ⟨[(0, q0)], [(1000100, q4)]⟩
def circ_one.c1 {ρ : Type} (o0 : Int) (k_ : Bool → Option ρ) : Option ρ :=
  br (decide (o0 < (1 : Int)))
   (k_ true)
   (k_ (decide (o0 > (6 : Int))))
def circ_one.c1s : Shape := ⟨[(0, q2), (1, q3), (2, q5), (4, q0)], [(2, q6), (1000100, q4)]⟩
def circ_one.c1x0 : Shape := ⟨[(0, q2), (1, q3), (2, q5), (4, q0), (17, q1)], [(2, q6), (1000100, q4)]⟩
def circ_one.c1r : Ck := Ck.of (T := Bool) circ_one.c1s (fun ρ x_ k_ => uP x_ fun o x_ => uP x_ fun t4 x_ => uP x_ fun o0 x_ => uP x_ fun o1 x_ => uP x_ fun o2 x_ => uP x_ fun o3 x_ => uP x_ fun o4 x_ => uP x_ fun o5 x_ => uP x_ fun t10001000 x_ => uP x_ fun t10001001 x_ => uP x_ fun t10001002 x_ => circ_one.c1 o0 k_) (fun ρ x_ r_ k_ => uP x_ fun o x_ => uP x_ fun t4 x_ => uP x_ fun o0 x_ => uP x_ fun o1 x_ => uP x_ fun o2 x_ => uP x_ fun o3 x_ => uP x_ fun o4 x_ => uP x_ fun o5 x_ => uP x_ fun t10001000 x_ => uP x_ fun t10001001 x_ => uP x_ fun t10001002 x_ => k_ 0 (Shape.inj circ_one.c1x0 (o, t4, r_, o0, o1, o2, o3, o4, o5, t10001000, t10001001, t10001002, ())))
def circ_one.c3 {ρ : Type} (o0 : Int) (o1 : Int) (k_ : Bool → Option ρ) : Option ρ :=
  br (decide (o1 < (0 : Int)))
   (k_ true)
   (br (decide (o1 > (15 : Int)))
     (k_ true)
     (bnd (W.circ_turns o0) fun y =>
      br (!y)
       (k_ (o1 != (0 : Int)))
       (k_ false)))
def circ_one.c3s : Shape := ⟨[(0, q2), (1, q3), (2, q5), (4, q0)], [(2, q6), (1000100, q4)]⟩
def circ_one.c3x0 : Shape := ⟨[(0, q2), (1, q3), (2, q5), (4, q0), (36, q1)], [(2, q6), (1000100, q4)]⟩
def circ_one.c3r : Ck := Ck.of (T := Bool) circ_one.c3s (fun ρ x_ k_ => uP x_ fun o x_ => uP x_ fun t4 x_ => uP x_ fun o0 x_ => uP x_ fun o1 x_ => uP x_ fun o2 x_ => uP x_ fun o3 x_ => uP x_ fun o4 x_ => uP x_ fun o5 x_ => uP x_ fun t10001000 x_ => uP x_ fun t10001001 x_ => uP x_ fun t10001002 x_ => circ_one.c3 o0 o1 k_) (fun ρ x_ r_ k_ => uP x_ fun o x_ => uP x_ fun t4 x_ => uP x_ fun o0 x_ => uP x_ fun o1 x_ => uP x_ fun o2 x_ => uP x_ fun o3 x_ => uP x_ fun o4 x_ => uP x_ fun o5 x_ => uP x_ fun t10001000 x_ => uP x_ fun t10001001 x_ => uP x_ fun t10001002 x_ => k_ 0 (Shape.inj circ_one.c3x0 (o, t4, r_, o0, o1, o2, o3, o4, o5, t10001000, t10001001, t10001002, ())))
def circ_one.c5 {ρ : Type} (o0 : Int) (o3 : Int) (t10001000 : Int) (k_ : Bool → Option ρ) : Option ρ :=
  br (decide (o3 < (0 : Int)))
   (k_ true)
   (br (decide (o3 ≥ t10001000))
     (k_ true)
     (br (o0 == (1 : Int))
       (k_ (o3 != (0 : Int)))
       (k_ false)))
def circ_one.c5s : Shape := ⟨[(0, q2), (1, q3), (2, q5), (4, q0)], [(2, q6), (1000100, q4)]⟩
def circ_one.c5x0 : Shape := ⟨[(0, q2), (1, q3), (2, q5), (4, q0), (58, q1)], [(2, q6), (1000100, q4)]⟩
def circ_one.c5r : Ck := Ck.of (T := Bool) circ_one.c5s (fun ρ x_ k_ => uP x_ fun o x_ => uP x_ fun t4 x_ => uP x_ fun o0 x_ => uP x_ fun o1 x_ => uP x_ fun o2 x_ => uP x_ fun o3 x_ => uP x_ fun o4 x_ => uP x_ fun o5 x_ => uP x_ fun t10001000 x_ => uP x_ fun t10001001 x_ => uP x_ fun t10001002 x_ => circ_one.c5 o0 o3 t10001000 k_) (fun ρ x_ r_ k_ => uP x_ fun o x_ => uP x_ fun t4 x_ => uP x_ fun o0 x_ => uP x_ fun o1 x_ => uP x_ fun o2 x_ => uP x_ fun o3 x_ => uP x_ fun o4 x_ => uP x_ fun o5 x_ => uP x_ fun t10001000 x_ => uP x_ fun t10001001 x_ => uP x_ fun t10001002 x_ => k_ 0 (Shape.inj circ_one.c5x0 (o, t4, r_, o0, o1, o2, o3, o4, o5, t10001000, t10001001, t10001002, ())))
def circ_one.c7 {ρ : Type} (o0 : Int) (o2 : List (Int)) (k_ : Bool → Option ρ) : Option ρ :=
  br (decide ((↑(List.length o2) : Int) > (0 : Int)))
   (bnd (W.circ_gate o0) fun y =>
    k_ (!y))
   (k_ false)
def circ_one.c7s : Shape := ⟨[(0, q2), (1, q3), (2, q5), (4, q0)], [(2, q6), (1000100, q4)]⟩
def circ_one.c7x0 : Shape := ⟨[(0, q2), (1, q3), (2, q5), (4, q0), (68, q1)], [(2, q6), (1000100, q4)]⟩
def circ_one.c7r : Ck := Ck.of (T := Bool) circ_one.c7s (fun ρ x_ k_ => uP x_ fun o x_ => uP x_ fun t4 x_ => uP x_ fun o0 x_ => uP x_ fun o1 x_ => uP x_ fun o2 x_ => uP x_ fun o3 x_ => uP x_ fun o4 x_ => uP x_ fun o5 x_ => uP x_ fun t10001000 x_ => uP x_ fun t10001001 x_ => uP x_ fun t10001002 x_ => circ_one.c7 o0 o2 k_) (fun ρ x_ r_ k_ => uP x_ fun o x_ => uP x_ fun t4 x_ => uP x_ fun o0 x_ => uP x_ fun o1 x_ => uP x_ fun o2 x_ => uP x_ fun o3 x_ => uP x_ fun o4 x_ => uP x_ fun o5 x_ => uP x_ fun t10001000 x_ => uP x_ fun t10001001 x_ => uP x_ fun t10001002 x_ => k_ 0 (Shape.inj circ_one.c7x0 (o, t4, r_, o0, o1, o2, o3, o4, o5, t10001000, t10001001, t10001002, ())))
def circ_one.c14 {ρ : Type} (q : Int) (t10001000 : Int) (k_ : Bool → Option ρ) : Option ρ :=
  br (decide (q < (0 : Int)))
   (k_ true)
   (k_ (decide (q ≥ t10001000)))
def circ_one.c14s : Shape := ⟨[(0, q2), (1, q3), (2, q5), (4, q0), (5, q7), (7, q0), (74, q8), (75, q0), (76, q0)], [(2, q6), (5, q9), (1000100, q4)]⟩
def circ_one.c14x0 : Shape := ⟨[(0, q2), (1, q3), (2, q5), (4, q0), (5, q7), (7, q0), (74, q8), (75, q0), (76, q0), (80, q1)], [(2, q6), (5, q9), (1000100, q4)]⟩
def circ_one.c14r : Ck := Ck.of (T := Bool) circ_one.c14s (fun ρ x_ k_ => uP x_ fun o x_ => uP x_ fun t4 x_ => uP x_ fun q x_ => uP x_ fun t74 x_ => uP x_ fun t75 x_ => uP x_ fun t76 x_ => uP x_ fun o0 x_ => uP x_ fun o1 x_ => uP x_ fun o2 x_ => uP x_ fun o3 x_ => uP x_ fun o4 x_ => uP x_ fun o5 x_ => uP x_ fun seen x_ => uP x_ fun t10001000 x_ => uP x_ fun t10001001 x_ => uP x_ fun t10001002 x_ => circ_one.c14 q t10001000 k_) (fun ρ x_ r_ k_ => uP x_ fun o x_ => uP x_ fun t4 x_ => uP x_ fun q x_ => uP x_ fun t74 x_ => uP x_ fun t75 x_ => uP x_ fun t76 x_ => uP x_ fun o0 x_ => uP x_ fun o1 x_ => uP x_ fun o2 x_ => uP x_ fun o3 x_ => uP x_ fun o4 x_ => uP x_ fun o5 x_ => uP x_ fun seen x_ => uP x_ fun t10001000 x_ => uP x_ fun t10001001 x_ => uP x_ fun t10001002 x_ => k_ 0 (Shape.inj circ_one.c14x0 (o, t4, q, t74, t75, t76, r_, o0, o1, o2, o3, o4, o5, seen, t10001000, t10001001, t10001002, ())))
def circ_one.c100012 {ρ : Type} (t74 : List (Int)) (t75 : Int) (t76 : Int) (seen : List (Bool)) (t10001000 : Int) (k_ : ((Int) × (List (Bool))) ⊕ (((Int) × (Int) × (List (Bool))) ⊕ ((Int) × (List (Bool)))) → Option ρ) : Option ρ :=
  br (decide (t76 < t75))
   (bnd (idx t74 t76) fun y =>
    bnd (W.circ_one.c14 y t10001000 some) fun y_1 =>
    br y_1
     (k_ (.inr (.inl ((10 : Int), t76, seen))))
     (bnd (okIf (decide ((0 : Ty.den (Ty.int IntKind.i64)) ≤ y) && decide (y < (↑(12 : Nat) : Int)))) fun y_2 =>
      bnd (inR (List.length seen) y) fun y_3 =>
      bnd (idx seen y) fun y_4 =>
      br y_4
       (k_ (.inr (.inl ((12 : Int), t76, seen))))
       (bnd (okIf (decide ((0 : Ty.den (Ty.int IntKind.i64)) ≤ y) && decide (y < (↑(12 : Nat) : Int)))) fun y_5 =>
        bnd (inR (List.length seen) y) fun y_6 =>
        bnd (idx seen y) fun y_7 =>
        k_ (.inl ((IntKind.wrap IntKind.i64 (t76 + (1 : Int))), (List.set seen (Int.toNat y) true))))))
   (k_ (.inr (.inr (t76, seen))))
def circ_one.c100012s : Shape := ⟨[(0, q2), (1, q3), (2, q5), (4, q0), (5, q7), (74, q8), (75, q0), (76, q0)], [(2, q6), (5, q9), (1000100, q4)]⟩
def circ_one.c100012x0 : Shape := ⟨[(0, q2), (1, q3), (2, q5), (4, q0), (5, q7), (74, q8), (75, q0), (76, q0)], [(2, q6), (5, q9), (1000100, q4)]⟩
def circ_one.c100012x1 : Shape := ⟨[(0, q2), (1, q3), (2, q5), (4, q0), (5, q7), (74, q8), (75, q0), (76, q0)], [(2, q6), (5, q9), (1000100, q4)]⟩
def circ_one.c100012r : Ck := Ck.ofLoop (S := (Int) × (List (Bool))) (T := ((Int) × (Int) × (List (Bool))) ⊕ ((Int) × (List (Bool)))) circ_one.c100012s (fun x_ => uP x_ fun o x_ => uP x_ fun t4 x_ => uP x_ fun t74 x_ => uP x_ fun t75 x_ => uP x_ fun t76 x_ => uP x_ fun o0 x_ => uP x_ fun o1 x_ => uP x_ fun o2 x_ => uP x_ fun o3 x_ => uP x_ fun o4 x_ => uP x_ fun o5 x_ => uP x_ fun seen x_ => uP x_ fun t10001000 x_ => uP x_ fun t10001001 x_ => uP x_ fun t10001002 x_ => (t76, seen)) (fun ρ x_ s_ k_ => uP x_ fun o x_ => uP x_ fun t4 x_ => uP x_ fun t74 x_ => uP x_ fun t75 x_ => uP x_ fun t76 x_ => uP x_ fun o0 x_ => uP x_ fun o1 x_ => uP x_ fun o2 x_ => uP x_ fun o3 x_ => uP x_ fun o4 x_ => uP x_ fun o5 x_ => uP x_ fun seen x_ => uP x_ fun t10001000 x_ => uP x_ fun t10001001 x_ => uP x_ fun t10001002 x_ => circ_one.c100012 t74 t75 s_.1 s_.2 t10001000 k_) (fun ρ x_ r_ k_ => uP x_ fun o x_ => uP x_ fun t4 x_ => uP x_ fun t74 x_ => uP x_ fun t75 x_ => uP x_ fun t76 x_ => uP x_ fun o0 x_ => uP x_ fun o1 x_ => uP x_ fun o2 x_ => uP x_ fun o3 x_ => uP x_ fun o4 x_ => uP x_ fun o5 x_ => uP x_ fun seen x_ => uP x_ fun t10001000 x_ => uP x_ fun t10001001 x_ => uP x_ fun t10001002 x_ => sel r_ (fun r_ => k_ 1 (Shape.inj circ_one.c100012x0 (o, r_.1, t74, t75, r_.2.1, o0, o1, o2, o3, o4, o5, r_.2.2, t10001000, t10001001, t10001002, ()))) (fun r_ => k_ 2 (Shape.inj circ_one.c100012x1 (o, t4, t74, t75, r_.1, o0, o1, o2, o3, o4, o5, r_.2, t10001000, t10001001, t10001002, ()))))
def circ_one.c20 {ρ : Type} (o0 : Int) (o4 : Int) (t10001001 : Int) (k_ : Bool → Option ρ) : Option ρ :=
  br (o0 == (5 : Int))
   (br (decide (o4 < (0 : Int)))
     (k_ true)
     (br (decide (o4 ≥ t10001001))
       (k_ true)
       (br (o0 != (5 : Int))
         (k_ (o4 != (0 : Int)))
         (k_ false))))
   (br (o0 != (5 : Int))
     (k_ (o4 != (0 : Int)))
     (k_ false))
def circ_one.c20s : Shape := ⟨[(0, q2), (1, q3), (2, q5), (4, q0), (5, q7), (74, q8), (75, q0), (76, q0)], [(2, q6), (5, q9), (1000100, q4)]⟩
def circ_one.c20x0 : Shape := ⟨[(0, q2), (1, q3), (2, q5), (4, q0), (5, q7), (74, q8), (75, q0), (76, q0), (124, q1)], [(2, q6), (5, q9), (1000100, q4)]⟩
def circ_one.c20r : Ck := Ck.of (T := Bool) circ_one.c20s (fun ρ x_ k_ => uP x_ fun o x_ => uP x_ fun t4 x_ => uP x_ fun t74 x_ => uP x_ fun t75 x_ => uP x_ fun t76 x_ => uP x_ fun o0 x_ => uP x_ fun o1 x_ => uP x_ fun o2 x_ => uP x_ fun o3 x_ => uP x_ fun o4 x_ => uP x_ fun o5 x_ => uP x_ fun seen x_ => uP x_ fun t10001000 x_ => uP x_ fun t10001001 x_ => uP x_ fun t10001002 x_ => circ_one.c20 o0 o4 t10001001 k_) (fun ρ x_ r_ k_ => uP x_ fun o x_ => uP x_ fun t4 x_ => uP x_ fun t74 x_ => uP x_ fun t75 x_ => uP x_ fun t76 x_ => uP x_ fun o0 x_ => uP x_ fun o1 x_ => uP x_ fun o2 x_ => uP x_ fun o3 x_ => uP x_ fun o4 x_ => uP x_ fun o5 x_ => uP x_ fun seen x_ => uP x_ fun t10001000 x_ => uP x_ fun t10001001 x_ => uP x_ fun t10001002 x_ => k_ 0 (Shape.inj circ_one.c20x0 (o, t4, t74, t75, t76, r_, o0, o1, o2, o3, o4, o5, seen, t10001000, t10001001, t10001002, ())))
def circ_one.c27 {ρ : Type} (v : Int) (t10001001 : Int) (k_ : Bool → Option ρ) : Option ρ :=
  br (v == (0 : Int))
   (k_ true)
   (br (decide (v > t10001001))
     (k_ true)
     (k_ (decide (v < IntKind.wrap IntKind.i64 ((0 : Int) - t10001001)))))
def circ_one.c27s : Shape := ⟨[(0, q2), (1, q3), (2, q5), (4, q0), (5, q7), (9, q0), (74, q8), (75, q0), (76, q0), (130, q8), (131, q0), (132, q0)], [(2, q6), (5, q9), (1000100, q4)]⟩
def circ_one.c27x0 : Shape := ⟨[(0, q2), (1, q3), (2, q5), (4, q0), (5, q7), (9, q0), (74, q8), (75, q0), (76, q0), (130, q8), (131, q0), (132, q0), (154, q1)], [(2, q6), (5, q9), (1000100, q4)]⟩
def circ_one.c27r : Ck := Ck.of (T := Bool) circ_one.c27s (fun ρ x_ k_ => uP x_ fun o x_ => uP x_ fun t4 x_ => uP x_ fun v x_ => uP x_ fun t74 x_ => uP x_ fun t75 x_ => uP x_ fun t76 x_ => uP x_ fun t130 x_ => uP x_ fun t131 x_ => uP x_ fun t132 x_ => uP x_ fun o0 x_ => uP x_ fun o1 x_ => uP x_ fun o2 x_ => uP x_ fun o3 x_ => uP x_ fun o4 x_ => uP x_ fun o5 x_ => uP x_ fun seen x_ => uP x_ fun t10001000 x_ => uP x_ fun t10001001 x_ => uP x_ fun t10001002 x_ => circ_one.c27 v t10001001 k_) (fun ρ x_ r_ k_ => uP x_ fun o x_ => uP x_ fun t4 x_ => uP x_ fun v x_ => uP x_ fun t74 x_ => uP x_ fun t75 x_ => uP x_ fun t76 x_ => uP x_ fun t130 x_ => uP x_ fun t131 x_ => uP x_ fun t132 x_ => uP x_ fun o0 x_ => uP x_ fun o1 x_ => uP x_ fun o2 x_ => uP x_ fun o3 x_ => uP x_ fun o4 x_ => uP x_ fun o5 x_ => uP x_ fun seen x_ => uP x_ fun t10001000 x_ => uP x_ fun t10001001 x_ => uP x_ fun t10001002 x_ => k_ 0 (Shape.inj circ_one.c27x0 (o, t4, v, t74, t75, t76, t130, t131, t132, r_, o0, o1, o2, o3, o4, o5, seen, t10001000, t10001001, t10001002, ())))
def circ_one.c100025 {ρ : Type} (t130 : List (Int)) (t131 : Int) (t132 : Int) (t10001001 : Int) (k_ : (Int) ⊕ ((Int) ⊕ (Int)) → Option ρ) : Option ρ :=
  br (decide (t132 < t131))
   (bnd (idx t130 t132) fun y =>
    bnd (W.circ_one.c27 y t10001001 some) fun y_1 =>
    br y_1
     (k_ (.inr (.inl t132)))
     (k_ (.inl (IntKind.wrap IntKind.i64 (t132 + (1 : Int))))))
   (k_ (.inr (.inr t132)))
def circ_one.c100025s : Shape := ⟨[(0, q2), (1, q3), (2, q5), (4, q0), (5, q7), (74, q8), (75, q0), (76, q0), (130, q8), (131, q0), (132, q0)], [(2, q6), (5, q9), (1000100, q4)]⟩
def circ_one.c100025x0 : Shape := ⟨[(0, q2), (1, q3), (2, q5), (4, q0), (5, q7), (74, q8), (75, q0), (76, q0), (130, q8), (131, q0), (132, q0)], [(2, q6), (5, q9), (1000100, q4)]⟩
def circ_one.c100025x1 : Shape := ⟨[(0, q2), (1, q3), (2, q5), (4, q0), (5, q7), (74, q8), (75, q0), (76, q0), (130, q8), (131, q0), (132, q0)], [(2, q6), (5, q9), (1000100, q4)]⟩
def circ_one.c100025r : Ck := Ck.ofLoop (S := Int) (T := (Int) ⊕ (Int)) circ_one.c100025s (fun x_ => uP x_ fun o x_ => uP x_ fun t4 x_ => uP x_ fun t74 x_ => uP x_ fun t75 x_ => uP x_ fun t76 x_ => uP x_ fun t130 x_ => uP x_ fun t131 x_ => uP x_ fun t132 x_ => uP x_ fun o0 x_ => uP x_ fun o1 x_ => uP x_ fun o2 x_ => uP x_ fun o3 x_ => uP x_ fun o4 x_ => uP x_ fun o5 x_ => uP x_ fun seen x_ => uP x_ fun t10001000 x_ => uP x_ fun t10001001 x_ => uP x_ fun t10001002 x_ => t132) (fun ρ x_ s_ k_ => uP x_ fun o x_ => uP x_ fun t4 x_ => uP x_ fun t74 x_ => uP x_ fun t75 x_ => uP x_ fun t76 x_ => uP x_ fun t130 x_ => uP x_ fun t131 x_ => uP x_ fun t132 x_ => uP x_ fun o0 x_ => uP x_ fun o1 x_ => uP x_ fun o2 x_ => uP x_ fun o3 x_ => uP x_ fun o4 x_ => uP x_ fun o5 x_ => uP x_ fun seen x_ => uP x_ fun t10001000 x_ => uP x_ fun t10001001 x_ => uP x_ fun t10001002 x_ => circ_one.c100025 t130 t131 s_ t10001001 k_) (fun ρ x_ r_ k_ => uP x_ fun o x_ => uP x_ fun t4 x_ => uP x_ fun t74 x_ => uP x_ fun t75 x_ => uP x_ fun t76 x_ => uP x_ fun t130 x_ => uP x_ fun t131 x_ => uP x_ fun t132 x_ => uP x_ fun o0 x_ => uP x_ fun o1 x_ => uP x_ fun o2 x_ => uP x_ fun o3 x_ => uP x_ fun o4 x_ => uP x_ fun o5 x_ => uP x_ fun seen x_ => uP x_ fun t10001000 x_ => uP x_ fun t10001001 x_ => uP x_ fun t10001002 x_ => sel r_ (fun r_ => k_ 1 (Shape.inj circ_one.c100025x0 (o, (14 : Int), t74, t75, t76, t130, t131, r_, o0, o1, o2, o3, o4, o5, seen, t10001000, t10001001, t10001002, ()))) (fun r_ => k_ 5 (Shape.inj circ_one.c100025x1 (o, t4, t74, t75, t76, t130, t131, r_, o0, o1, o2, o3, o4, o5, seen, t10001000, t10001001, t10001002, ()))))
def circ_one (o : (Int) × ((Int) × ((List Int) × ((Int) × ((Int) × (List Int)))))) (t10001000 : Int) (t10001001 : Int) (t10001002 : List ((Int) × ((Int) × ((List Int) × ((Int) × ((Int) × (List Int))))))) : Option ((Int) × (Int) × (Int) × (List ((Int) × ((Int) × ((List Int) × ((Int) × ((Int) × (List Int))))))) × Unit) :=
  bnd (W.circ_one.c1 (Prod.fst o) some) fun y =>
  br y
   (some (uP (uP ((8 : Int), ()) fun u r ↦ (u, ())) fun u r ↦ (u, uP (uP (t10001000, ()) fun u r ↦ (u, uP (t10001001, ()) fun u r ↦ (u, uP (t10001002, ()) fun u r ↦ (u, ())))) fun u r ↦ (u, uP r fun u r ↦ (u, uP r fun u r ↦ (u, ()))))))
   (bnd (W.circ_one.c3 (Prod.fst o) (Prod.fst (Prod.snd o)) some) fun y_1 =>
    br y_1
     (some (uP (uP ((9 : Int), ()) fun u r ↦ (u, ())) fun u r ↦ (u, uP (uP (t10001000, ()) fun u r ↦ (u, uP (t10001001, ()) fun u r ↦ (u, uP (t10001002, ()) fun u r ↦ (u, ())))) fun u r ↦ (u, uP r fun u r ↦ (u, uP r fun u r ↦ (u, ()))))))
     (bnd (W.circ_one.c5 (Prod.fst o) (Prod.fst (Prod.snd (Prod.snd (Prod.snd o)))) t10001000 some) fun y_2 =>
      br y_2
       (some (uP (uP ((10 : Int), ()) fun u r ↦ (u, ())) fun u r ↦ (u, uP (uP (t10001000, ()) fun u r ↦ (u, uP (t10001001, ()) fun u r ↦ (u, uP (t10001002, ()) fun u r ↦ (u, ())))) fun u r ↦ (u, uP r fun u r ↦ (u, uP r fun u r ↦ (u, ()))))))
       (bnd (W.circ_one.c7 (Prod.fst o) (Prod.fst (Prod.snd (Prod.snd o))) some) fun y_3 =>
        br y_3
         (some (uP (uP ((11 : Int), ()) fun u r ↦ (u, ())) fun u r ↦ (u, uP (uP (t10001000, ()) fun u r ↦ (u, uP (t10001001, ()) fun u r ↦ (u, uP (t10001002, ()) fun u r ↦ (u, ())))) fun u r ↦ (u, uP r fun u r ↦ (u, uP r fun u r ↦ (u, ()))))))
         (bnd (okIf (decide ((0 : Ty.den (Ty.int IntKind.i64)) ≤ Prod.fst (Prod.snd (Prod.snd (Prod.snd o)))) && decide (Prod.fst (Prod.snd (Prod.snd (Prod.snd o))) < (↑(12 : Nat) : Int)))) fun y_4 =>
          bnd (inR (List.length (List.replicate (12 : Nat) false)) (Prod.fst (Prod.snd (Prod.snd (Prod.snd o))))) fun y_5 =>
          bnd (idx (List.replicate (12 : Nat) false) (Prod.fst (Prod.snd (Prod.snd (Prod.snd o))))) fun y_6 =>
          bnd (iter (fun s ↦ W.circ_one.c100012 (Prod.fst (Prod.snd (Prod.snd o))) (↑(List.length (Prod.fst (Prod.snd (Prod.snd o)))) : Int) (Prod.fst s) (Prod.snd s) t10001000 some) ((0 : Int), List.set (List.replicate (12 : Nat) false) (Int.toNat (Prod.fst (Prod.snd (Prod.snd (Prod.snd o))))) true)) fun y_7 =>
          sel y_7
           (fun u => some (uP (uP (Prod.fst u, ()) fun u r ↦ (u, ())) fun u r ↦ (u, uP (uP (t10001000, ()) fun u r ↦ (u, uP (t10001001, ()) fun u r ↦ (u, uP (t10001002, ()) fun u r ↦ (u, ())))) fun u r ↦ (u, uP r fun u r ↦ (u, uP r fun u r ↦ (u, ()))))))
           (fun v => bnd (W.circ_one.c20 (Prod.fst o) (Prod.fst (Prod.snd (Prod.snd (Prod.snd (Prod.snd o))))) t10001001 some) fun y_8 =>
            br y_8
             (some (uP (uP ((13 : Int), ()) fun u r ↦ (u, ())) fun u r ↦ (u, uP (uP (t10001000, ()) fun u r ↦ (u, uP (t10001001, ()) fun u r ↦ (u, uP (t10001002, ()) fun u r ↦ (u, ())))) fun u r ↦ (u, uP r fun u r ↦ (u, uP r fun u r ↦ (u, ()))))))
             (br (decide ((↑(List.length (Prod.snd (Prod.snd (Prod.snd (Prod.snd (Prod.snd o)))))) : Int) > (24 : Int)))
               (some (uP (uP ((14 : Int), ()) fun u r ↦ (u, ())) fun u r ↦ (u, uP (uP (t10001000, ()) fun u r ↦ (u, uP (t10001001, ()) fun u r ↦ (u, uP (t10001002, ()) fun u r ↦ (u, ())))) fun u r ↦ (u, uP r fun u r ↦ (u, uP r fun u r ↦ (u, ()))))))
               (bnd (iter (fun s ↦ W.circ_one.c100025 (Prod.snd (Prod.snd (Prod.snd (Prod.snd (Prod.snd o))))) (↑(List.length (Prod.snd (Prod.snd (Prod.snd (Prod.snd (Prod.snd o)))))) : Int) s t10001001 some) (0 : Int)) fun y_9 =>
                sel y_9
                 (fun u_1 => some (uP (uP ((14 : Int), ()) fun u r ↦ (u, ())) fun u r ↦ (u, uP (uP (t10001000, ()) fun u r ↦ (u, uP (t10001001, ()) fun u r ↦ (u, uP (t10001002, ()) fun u r ↦ (u, ())))) fun u r ↦ (u, uP r fun u r ↦ (u, uP r fun u r ↦ (u, ()))))))
                 (fun v_1 => some (uP (uP ((0 : Int), ()) fun u r ↦ (u, ())) fun u r ↦ (u, uP (uP (t10001000, ()) fun u r ↦ (u, uP (t10001001, ()) fun u r ↦ (u, uP (t10001002, ()) fun u r ↦ (u, ())))) fun u r ↦ (u, uP r fun u r ↦ (u, uP r fun u r ↦ (u, ())))))))))))))
def circ_one.mc : MCallee := ⟨41, circ_one.pre, circ_one.post, fun x_ => circ_one x_.1 x_.2.1 x_.2.2.1 x_.2.2.2.1⟩
def circ_one.G : Env := ⟨156, tab, [(68, circ_turns.ce), (69, circ_gate.ce)], [0, 1, 2, 4, 5, 7, 9, 17, 36, 58, 68, 74, 75, 76, 77, 80, 91, 124, 128, 130, 131, 132, 133, 154], [5, 69], [(20, [⟨[], [], [], []⟩, ⟨[0], [], [], []⟩, ⟨[1, 0], [], [], []⟩, ⟨[2, 1, 0], [], [], []⟩, ⟨[3, 2, 1, 0], [], [], []⟩, ⟨[4, 3, 2, 1, 0], [], [], []⟩, ⟨[5, 4, 3, 2, 1, 0], [], [], []⟩, ⟨[6, 5, 4, 3, 2, 1, 0], [], [], []⟩, ⟨[7, 6, 5, 4, 3, 2, 1, 0], [], [108, 109, 110, 111], []⟩, ⟨[8, 7, 6, 5, 4, 3, 2, 1, 0], [], [108, 109, 110, 111], []⟩, ⟨[7, 6, 5, 4, 3, 2, 1, 0], [], [106, 107], []⟩, ⟨[10, 7, 6, 5, 4, 3, 2, 1, 0], [], [106, 107], []⟩, ⟨[11, 10, 7, 6, 5, 4, 3, 2, 1, 0], [], [106, 107], []⟩, ⟨[12, 11, 10, 7, 6, 5, 4, 3, 2, 1, 0], [], [106, 107], []⟩, ⟨[9, 8, 7, 6, 5, 4, 3, 2, 1, 0, 13, 12, 11, 10], [], [], []⟩, ⟨[7, 6, 5, 4, 3, 2, 1, 0, 14, 9, 8, 13, 12, 11, 10], [], [], []⟩, ⟨[3, 2, 1, 0, 15, 7, 6, 5, 4, 14, 9, 8, 13, 12, 11, 10], [], [], []⟩, ⟨[16, 3, 2, 1, 0, 15, 7, 6, 5, 4, 14, 9, 8, 13, 12, 11, 10], [], [], []⟩, ⟨[17, 16, 3, 2, 1, 0, 15, 7, 6, 5, 4, 14, 9, 8, 13, 12, 11, 10], [], [], []⟩, ⟨[18, 17, 16, 3, 2, 1, 0, 15, 7, 6, 5, 4, 14, 9, 8, 13, 12, 11, 10], [], [], []⟩, ⟨[19, 18, 17, 16, 3, 2, 1, 0, 15, 7, 6, 5, 4, 14, 9, 8, 13, 12, 11, 10], [], [], []⟩, ⟨[20, 19, 18, 17, 16, 3, 2, 1, 0, 15, 7, 6, 5, 4, 14, 9, 8, 13, 12, 11, 10], [], [], []⟩, ⟨[21, 20, 19, 18, 17, 16, 3, 2, 1, 0, 15, 7, 6, 5, 4, 14, 9, 8, 13, 12, 11, 10], [], [], []⟩, ⟨[22, 21, 20, 19, 18, 17, 16, 3, 2, 1, 0, 15, 7, 6, 5, 4, 14, 9, 8, 13, 12, 11, 10], [], [], []⟩, ⟨[23, 22, 21, 20, 19, 18, 17, 16, 3, 2, 1, 0, 15, 7, 6, 5, 4, 14, 9, 8, 13, 12, 11, 10], [], [], []⟩, ⟨[21, 20, 19, 18, 17, 16, 3, 2, 1, 0, 15, 7, 6, 5, 4, 14, 9, 8, 13, 12, 11, 10, 24, 23, 22], [], [], []⟩, ⟨[17, 16, 3, 2, 1, 0, 15, 7, 6, 5, 4, 14, 9, 8, 13, 12, 11, 10, 25, 21, 20, 19, 18, 24, 23, 22], [], [], []⟩]),
  (5, [⟨[], [], [], []⟩, ⟨[0], [], [], []⟩, ⟨[1, 0], [], [], []⟩, ⟨[2, 1, 0], [], [], []⟩, ⟨[3, 2, 1, 0], [], [43, 44, 45, 46], []⟩, ⟨[4, 3, 2, 1, 0], [], [43, 44, 45, 46], []⟩, ⟨[3, 2, 1, 0], [], [41, 42], []⟩, ⟨[6, 3, 2, 1, 0], [], [41, 42], []⟩, ⟨[7, 6, 3, 2, 1, 0], [], [41, 42], []⟩, ⟨[8, 7, 6, 3, 2, 1, 0], [], [41, 42], []⟩, ⟨[5, 4, 3, 2, 1, 0, 9, 8, 7, 6], [], [], []⟩, ⟨[3, 2, 1, 0, 10, 5, 4, 9, 8, 7, 6], [], [], []⟩, ⟨[11, 3, 2, 1, 0, 10, 5, 4, 9, 8, 7, 6], [], [], []⟩, ⟨[12, 11, 3, 2, 1, 0, 10, 5, 4, 9, 8, 7, 6], [], [], []⟩, ⟨[13, 12, 11, 3, 2, 1, 0, 10, 5, 4, 9, 8, 7, 6], [], [], []⟩, ⟨[14, 13, 12, 11, 3, 2, 1, 0, 10, 5, 4, 9, 8, 7, 6], [], [], []⟩, ⟨[15, 14, 13, 12, 11, 3, 2, 1, 0, 10, 5, 4, 9, 8, 7, 6], [], [], []⟩, ⟨[16, 15, 14, 13, 12, 11, 3, 2, 1, 0, 10, 5, 4, 9, 8, 7, 6], [], [], []⟩, ⟨[17, 16, 15, 14, 13, 12, 11, 3, 2, 1, 0, 10, 5, 4, 9, 8, 7, 6], [], [], []⟩, ⟨[18, 17, 16, 15, 14, 13, 12, 11, 3, 2, 1, 0, 10, 5, 4, 9, 8, 7, 6], [], [], []⟩, ⟨[16, 15, 14, 13, 12, 11, 3, 2, 1, 0, 10, 5, 4, 9, 8, 7, 6, 19, 18, 17], [], [], []⟩, ⟨[12, 11, 3, 2, 1, 0, 10, 5, 4, 9, 8, 7, 6, 20, 16, 15, 14, 13, 19, 18, 17], [], [], []⟩])], [(100025, circ_one.c100025r), (27, circ_one.c27r), (20, circ_one.c20r), (100012, circ_one.c100012r), (14, circ_one.c14r), (7, circ_one.c7r), (5, circ_one.c5r), (3, circ_one.c3r), (1, circ_one.c1r)], [], tab_eqs⟩
theorem circ_one.eq (x_ : densU circ_one.mc.pre.tys) : denM circ_one.G Go.Proofs.Tryd.f41 circ_one.mc.pre circ_one.mc.post x_ = circ_one.mc.F x_ := by kernel_rfl
theorem circ_one.p0 : PieceOk circ_one.G (pieceAt (pieces circ_one.G.cks (bodyOf Go.Proofs.Tryd.f41)) 0).1 (pieceAt (pieces circ_one.G.cks (bodyOf Go.Proofs.Tryd.f41)) 0).2 :=
  region_ok (s := circ_one.c1r) (by kernel_rfl) (by kernel_rfl) (sums_of (sh := circ_one.c1s) (fun ρ x_ k_ => (nat_br nat_leaf nat_leaf)) (fun ρ x_ t k => (by kernel_rfl)) (fun x_ => by kernel_rfl))
theorem circ_one.p1 : PieceOk circ_one.G (pieceAt (pieces circ_one.G.cks (bodyOf Go.Proofs.Tryd.f41)) 1).1 (pieceAt (pieces circ_one.G.cks (bodyOf Go.Proofs.Tryd.f41)) 1).2 :=
  region_ok (s := circ_one.c3r) (by kernel_rfl) (by kernel_rfl) (sums_of (sh := circ_one.c3s) (fun ρ x_ k_ => (nat_br nat_leaf (nat_br nat_leaf (nat_bnd fun _ => (nat_br nat_leaf nat_leaf))))) (fun ρ x_ t k => (by kernel_rfl)) (fun x_ => by kernel_rfl))
theorem circ_one.p2 : PieceOk circ_one.G (pieceAt (pieces circ_one.G.cks (bodyOf Go.Proofs.Tryd.f41)) 2).1 (pieceAt (pieces circ_one.G.cks (bodyOf Go.Proofs.Tryd.f41)) 2).2 :=
  region_ok (s := circ_one.c5r) (by kernel_rfl) (by kernel_rfl) (sums_of (sh := circ_one.c5s) (fun ρ x_ k_ => (nat_br nat_leaf (nat_br nat_leaf (nat_br nat_leaf nat_leaf)))) (fun ρ x_ t k => (by kernel_rfl)) (fun x_ => by kernel_rfl))
theorem circ_one.p3 : PieceOk circ_one.G (pieceAt (pieces circ_one.G.cks (bodyOf Go.Proofs.Tryd.f41)) 3).1 (pieceAt (pieces circ_one.G.cks (bodyOf Go.Proofs.Tryd.f41)) 3).2 :=
  region_ok (s := circ_one.c7r) (by kernel_rfl) (by kernel_rfl) (sums_of (sh := circ_one.c7s) (fun ρ x_ k_ => (nat_br (nat_bnd fun _ => nat_leaf) nat_leaf)) (fun ρ x_ t k => (by kernel_rfl)) (fun x_ => by kernel_rfl))
theorem circ_one.p4 : PieceOk circ_one.G (pieceAt (pieces circ_one.G.cks (bodyOf Go.Proofs.Tryd.f41)) 4).1 (pieceAt (pieces circ_one.G.cks (bodyOf Go.Proofs.Tryd.f41)) 4).2 :=
  loop_ok (s := circ_one.c100012r) (by kernel_rfl) (by kernel_rfl) (loops_of (sh := circ_one.c100012s) (I := fun x_ s_ => (x_.1, x_.2.1, x_.2.2.1, x_.2.2.2.1, s_.1, x_.2.2.2.2.2.1, x_.2.2.2.2.2.2.1, x_.2.2.2.2.2.2.2.1, x_.2.2.2.2.2.2.2.2.1, x_.2.2.2.2.2.2.2.2.2.1, x_.2.2.2.2.2.2.2.2.2.2.1, s_.2, x_.2.2.2.2.2.2.2.2.2.2.2.2.1, x_.2.2.2.2.2.2.2.2.2.2.2.2.2.1, x_.2.2.2.2.2.2.2.2.2.2.2.2.2.2.1, ())) (fun x_ => rfl) (fun ρ x_ s_ k_ => (nat_br (nat_bnd fun _ => (nat_bnd fun _ => (nat_br nat_leaf (nat_bnd fun _ => (nat_bnd fun _ => (nat_bnd fun _ => (nat_br nat_leaf (nat_bnd fun _ => (nat_bnd fun _ => (nat_bnd fun _ => nat_leaf)))))))))) nat_leaf)) (fun ρ x_ t k => (nat_sel (fun _ => (by kernel_rfl)) (fun _ => (by kernel_rfl)))) (fun x_ s => by kernel_rfl))
theorem circ_one.p5 : PieceOk circ_one.G (pieceAt (pieces circ_one.G.cks (bodyOf Go.Proofs.Tryd.f41)) 5).1 (pieceAt (pieces circ_one.G.cks (bodyOf Go.Proofs.Tryd.f41)) 5).2 :=
  region_ok (s := circ_one.c14r) (by kernel_rfl) (by kernel_rfl) (sums_of (sh := circ_one.c14s) (fun ρ x_ k_ => (nat_br nat_leaf nat_leaf)) (fun ρ x_ t k => (by kernel_rfl)) (fun x_ => by kernel_rfl))
theorem circ_one.p6 : PieceOk circ_one.G (pieceAt (pieces circ_one.G.cks (bodyOf Go.Proofs.Tryd.f41)) 6).1 (pieceAt (pieces circ_one.G.cks (bodyOf Go.Proofs.Tryd.f41)) 6).2 :=
  region_ok (s := circ_one.c20r) (by kernel_rfl) (by kernel_rfl) (sums_of (sh := circ_one.c20s) (fun ρ x_ k_ => (nat_br (nat_br nat_leaf (nat_br nat_leaf (nat_br nat_leaf nat_leaf))) (nat_br nat_leaf nat_leaf))) (fun ρ x_ t k => (by kernel_rfl)) (fun x_ => by kernel_rfl))
theorem circ_one.p7 : PieceOk circ_one.G (pieceAt (pieces circ_one.G.cks (bodyOf Go.Proofs.Tryd.f41)) 7).1 (pieceAt (pieces circ_one.G.cks (bodyOf Go.Proofs.Tryd.f41)) 7).2 :=
  loop_ok (s := circ_one.c100025r) (by kernel_rfl) (by kernel_rfl) (loops_of (sh := circ_one.c100025s) (I := fun x_ s_ => (x_.1, x_.2.1, x_.2.2.1, x_.2.2.2.1, x_.2.2.2.2.1, x_.2.2.2.2.2.1, x_.2.2.2.2.2.2.1, s_, x_.2.2.2.2.2.2.2.2.1, x_.2.2.2.2.2.2.2.2.2.1, x_.2.2.2.2.2.2.2.2.2.2.1, x_.2.2.2.2.2.2.2.2.2.2.2.1, x_.2.2.2.2.2.2.2.2.2.2.2.2.1, x_.2.2.2.2.2.2.2.2.2.2.2.2.2.1, x_.2.2.2.2.2.2.2.2.2.2.2.2.2.2.1, x_.2.2.2.2.2.2.2.2.2.2.2.2.2.2.2.1, x_.2.2.2.2.2.2.2.2.2.2.2.2.2.2.2.2.1, x_.2.2.2.2.2.2.2.2.2.2.2.2.2.2.2.2.2.1, ())) (fun x_ => rfl) (fun ρ x_ s_ k_ => (nat_br (nat_bnd fun _ => (nat_bnd fun _ => (nat_br nat_leaf nat_leaf))) nat_leaf)) (fun ρ x_ t k => (nat_sel (fun _ => (by kernel_rfl)) (fun _ => (by kernel_rfl)))) (fun x_ s => by kernel_rfl))
theorem circ_one.p8 : PieceOk circ_one.G (pieceAt (pieces circ_one.G.cks (bodyOf Go.Proofs.Tryd.f41)) 8).1 (pieceAt (pieces circ_one.G.cks (bodyOf Go.Proofs.Tryd.f41)) 8).2 :=
  region_ok (s := circ_one.c27r) (by kernel_rfl) (by kernel_rfl) (sums_of (sh := circ_one.c27s) (fun ρ x_ k_ => (nat_br nat_leaf (nat_br nat_leaf nat_leaf))) (fun ρ x_ t k => (by kernel_rfl)) (fun x_ => by kernel_rfl))
theorem circ_one.ok : MOk Go.Proofs.Tryd.prog 41 circ_one.mc := fnm_ok (G := circ_one.G) tab_ok mixed Go.Proofs.Tryd.func41 ⟨(fns_cons circ_turns.ok (fns_cons circ_gate.ok fns_nil)), mfns_nil, tab_eqs_ok⟩ (m := 9) (by kernel_rfl) ⟨⟨⟨⟨⟨⟨⟨⟨⟨trivial, circ_one.p0⟩, circ_one.p1⟩, circ_one.p2⟩, circ_one.p3⟩, circ_one.p4⟩, circ_one.p5⟩, circ_one.p6⟩, circ_one.p7⟩, circ_one.p8⟩ (by kernel_rfl) circ_one.eq
abbrev q10 : SD := .one (.val (.st (.pair (.int .i64) (.pair (.int .i64) (.sl (.st (.pair (.int .i64) (.pair (.int .i64) (.pair (.sl (.int .i64)) (.pair (.int .i64) (.pair (.int .i64) (.sl (.int .i64)))))))))))))
abbrev q11 : SD := .one (.ref 1 0)
abbrev q12 : SO := .box [.val (.int .i64), .val (.int .i64)]
abbrev q13 : SD := .one (.val (.sl (.st (.pair (.int .i64) (.pair (.int .i64) (.pair (.sl (.int .i64)) (.pair (.int .i64) (.pair (.int .i64) (.sl (.int .i64))))))))))
def circ_Check.c1 {ρ : Type} (c0 : Int) (k_ : Bool → Option ρ) : Option ρ :=
  br (decide (c0 < (1 : Int)))
   (k_ true)
   (k_ (decide (c0 > (12 : Int))))
def circ_Check.c1s : Shape := ⟨[(0, q10), (1, q11), (2, q5)], [(1, q4), (2, q12)]⟩
def circ_Check.c1x0 : Shape := ⟨[(0, q10), (1, q11), (2, q5), (6, q1)], [(1, q4), (2, q12)]⟩
def circ_Check.c1r : Ck := Ck.of (T := Bool) circ_Check.c1s (fun ρ x_ k_ => uP x_ fun c x_ => uP x_ fun c0 x_ => uP x_ fun c1 x_ => uP x_ fun c2 x_ => uP x_ fun t20 x_ => uP x_ fun t21 x_ => circ_Check.c1 c0 k_) (fun ρ x_ r_ k_ => uP x_ fun c x_ => uP x_ fun c0 x_ => uP x_ fun c1 x_ => uP x_ fun c2 x_ => uP x_ fun t20 x_ => uP x_ fun t21 x_ => k_ 0 (Shape.inj circ_Check.c1x0 (c, r_, c0, c1, c2, t20, t21, ())))
def circ_Check.c3 {ρ : Type} (c1 : Int) (k_ : Bool → Option ρ) : Option ρ :=
  br (decide (c1 < (0 : Int)))
   (k_ true)
   (k_ (decide (c1 > (12 : Int))))
def circ_Check.c3s : Shape := ⟨[(0, q10), (1, q11), (2, q5)], [(1, q4), (2, q12)]⟩
def circ_Check.c3x0 : Shape := ⟨[(0, q10), (1, q11), (2, q5), (16, q1)], [(1, q4), (2, q12)]⟩
def circ_Check.c3r : Ck := Ck.of (T := Bool) circ_Check.c3s (fun ρ x_ k_ => uP x_ fun c x_ => uP x_ fun c0 x_ => uP x_ fun c1 x_ => uP x_ fun c2 x_ => uP x_ fun t20 x_ => uP x_ fun t21 x_ => circ_Check.c3 c1 k_) (fun ρ x_ r_ k_ => uP x_ fun c x_ => uP x_ fun c0 x_ => uP x_ fun c1 x_ => uP x_ fun c2 x_ => uP x_ fun t20 x_ => uP x_ fun t21 x_ => k_ 0 (Shape.inj circ_Check.c3x0 (c, r_, c0, c1, c2, t20, t21, ())))
def circ_Check.c100008 {ρ : Type} (t33 : List ((Int) × ((Int) × ((List Int) × ((Int) × ((Int) × (List Int))))))) (t34 : Int) (t35 : Int) (c0 : Int) (c1 : Int) (c2 : List ((Int) × ((Int) × ((List Int) × ((Int) × ((Int) × (List Int))))))) (k_ : ((Int) × (Int) × (Int) × (List ((Int) × ((Int) × ((List Int) × ((Int) × ((Int) × (List Int)))))))) ⊕ (((Int) × (Int) × (Int) × (List ((Int) × ((Int) × ((List Int) × ((Int) × ((Int) × (List Int))))))) × (Int) × (Int)) ⊕ ((Int) × (Int) × (Int) × (List ((Int) × ((Int) × ((List Int) × ((Int) × ((Int) × (List Int))))))))) → Option ρ) : Option ρ :=
  br (decide (t35 < t34))
   (bnd (idx t33 t35) fun y =>
    bnd (W.circ_one (Prod.fst (uP (uP ((Prod.fst y, Prod.fst (Prod.snd y), Prod.fst (Prod.snd (Prod.snd y)), Prod.fst (Prod.snd (Prod.snd (Prod.snd y))), Prod.fst (Prod.snd (Prod.snd (Prod.snd (Prod.snd y)))), Prod.snd (Prod.snd (Prod.snd (Prod.snd (Prod.snd y))))), ()) fun u r ↦ (u, ())) fun u r ↦ (u, uP (uP (c0, ()) fun u r ↦ (u, uP (c1, ()) fun u r ↦ (u, uP (c2, ()) fun u r ↦ (u, ())))) fun u r ↦ (u, uP r fun u r ↦ (u, uP r fun u r ↦ (u, ())))))) (Prod.fst (Prod.snd (uP (uP ((Prod.fst y, Prod.fst (Prod.snd y), Prod.fst (Prod.snd (Prod.snd y)), Prod.fst (Prod.snd (Prod.snd (Prod.snd y))), Prod.fst (Prod.snd (Prod.snd (Prod.snd (Prod.snd y)))), Prod.snd (Prod.snd (Prod.snd (Prod.snd (Prod.snd y))))), ()) fun u r ↦ (u, ())) fun u r ↦ (u, uP (uP (c0, ()) fun u r ↦ (u, uP (c1, ()) fun u r ↦ (u, uP (c2, ()) fun u r ↦ (u, ())))) fun u r ↦ (u, uP r fun u r ↦ (u, uP r fun u r ↦ (u, ()))))))) (Prod.fst (Prod.snd (Prod.snd (uP (uP ((Prod.fst y, Prod.fst (Prod.snd y), Prod.fst (Prod.snd (Prod.snd y)), Prod.fst (Prod.snd (Prod.snd (Prod.snd y))), Prod.fst (Prod.snd (Prod.snd (Prod.snd (Prod.snd y)))), Prod.snd (Prod.snd (Prod.snd (Prod.snd (Prod.snd y))))), ()) fun u r ↦ (u, ())) fun u r ↦ (u, uP (uP (c0, ()) fun u r ↦ (u, uP (c1, ()) fun u r ↦ (u, uP (c2, ()) fun u r ↦ (u, ())))) fun u r ↦ (u, uP r fun u r ↦ (u, uP r fun u r ↦ (u, ())))))))) (Prod.fst (Prod.snd (Prod.snd (Prod.snd (uP (uP ((Prod.fst y, Prod.fst (Prod.snd y), Prod.fst (Prod.snd (Prod.snd y)), Prod.fst (Prod.snd (Prod.snd (Prod.snd y))), Prod.fst (Prod.snd (Prod.snd (Prod.snd (Prod.snd y)))), Prod.snd (Prod.snd (Prod.snd (Prod.snd (Prod.snd y))))), ()) fun u r ↦ (u, ())) fun u r ↦ (u, uP (uP (c0, ()) fun u r ↦ (u, uP (c1, ()) fun u r ↦ (u, uP (c2, ()) fun u r ↦ (u, ())))) fun u r ↦ (u, uP r fun u r ↦ (u, uP r fun u r ↦ (u, ())))))))))) fun y_1 =>
    br (Prod.fst y_1 != (0 : Int))
     (bnd (W.circ_fault (Prod.fst y_1) t35) fun y_2 =>
      k_ (.inr (.inl (t35, (Prod.fst y_1.2), (Prod.fst y_1.2.2), (Prod.fst y_1.2.2.2), (Prod.fst y_2), (Prod.snd y_2)))))
     (k_ (.inl ((IntKind.wrap IntKind.i64 (t35 + (1 : Int))), (Prod.fst y_1.2), (Prod.fst y_1.2.2), (Prod.fst y_1.2.2.2)))))
   (k_ (.inr (.inr (t35, c0, c1, c2))))
def circ_Check.c100008s : Shape := ⟨[(0, q10), (1, q11), (2, q5), (33, q13), (34, q0), (35, q0)], [(1, q4), (2, q12)]⟩
def circ_Check.c100008x0 : Shape := ⟨[(0, q10), (1, q11), (2, q5), (33, q13), (34, q0), (35, q0)], [(1, q4), (2, q12)]⟩
def circ_Check.c100008x1 : Shape := ⟨[(0, q10), (1, q11), (2, q5), (33, q13), (34, q0), (35, q0)], [(1, q4), (2, q12)]⟩
def circ_Check.c100008r : Ck := Ck.ofLoop (S := (Int) × (Int) × (Int) × (List ((Int) × ((Int) × ((List Int) × ((Int) × ((Int) × (List Int)))))))) (T := ((Int) × (Int) × (Int) × (List ((Int) × ((Int) × ((List Int) × ((Int) × ((Int) × (List Int))))))) × (Int) × (Int)) ⊕ ((Int) × (Int) × (Int) × (List ((Int) × ((Int) × ((List Int) × ((Int) × ((Int) × (List Int))))))))) circ_Check.c100008s (fun x_ => uP x_ fun c x_ => uP x_ fun t33 x_ => uP x_ fun t34 x_ => uP x_ fun t35 x_ => uP x_ fun c0 x_ => uP x_ fun c1 x_ => uP x_ fun c2 x_ => uP x_ fun t20 x_ => uP x_ fun t21 x_ => (t35, c0, c1, c2)) (fun ρ x_ s_ k_ => uP x_ fun c x_ => uP x_ fun t33 x_ => uP x_ fun t34 x_ => uP x_ fun t35 x_ => uP x_ fun c0 x_ => uP x_ fun c1 x_ => uP x_ fun c2 x_ => uP x_ fun t20 x_ => uP x_ fun t21 x_ => circ_Check.c100008 t33 t34 s_.1 s_.2.1 s_.2.2.1 s_.2.2.2 k_) (fun ρ x_ r_ k_ => uP x_ fun c x_ => uP x_ fun t33 x_ => uP x_ fun t34 x_ => uP x_ fun t35 x_ => uP x_ fun c0 x_ => uP x_ fun c1 x_ => uP x_ fun c2 x_ => uP x_ fun t20 x_ => uP x_ fun t21 x_ => sel r_ (fun r_ => k_ 1 (Shape.inj circ_Check.c100008x0 (c, t33, t34, r_.1, r_.2.1, r_.2.2.1, r_.2.2.2.1, r_.2.2.2.2.1, r_.2.2.2.2.2, ()))) (fun r_ => k_ 3 (Shape.inj circ_Check.c100008x1 (c, t33, t34, r_.1, r_.2.1, r_.2.2.1, r_.2.2.2, t20, t21, ()))))
def circ_Check (c : (Int) × ((Int) × (List ((Int) × ((Int) × ((List Int) × ((Int) × ((Int) × (List Int))))))))) : Option ((Int) × (Int)) :=
  bnd (W.circ_Check.c1 (Prod.fst c) some) fun y =>
  br y
   (bnd (W.circ_fault (6 : Int) (0 : Int)) fun y_1 =>
    some (Prod.fst y_1, Prod.snd y_1))
   (bnd (W.circ_Check.c3 (Prod.fst (Prod.snd c)) some) fun y_2 =>
    br y_2
     (bnd (W.circ_fault (7 : Int) (0 : Int)) fun y_3 =>
      some (Prod.fst y_3, Prod.snd y_3))
     (br (decide ((↑(List.length (Prod.snd (Prod.snd c))) : Int) > (4096 : Int)))
       (bnd (W.circ_fault (2 : Int) (0 : Int)) fun y_4 =>
        some (Prod.fst y_4, Prod.snd y_4))
       (bnd (iter (fun s ↦ W.circ_Check.c100008 (Prod.snd (Prod.snd c)) (↑(List.length (Prod.snd (Prod.snd c))) : Int) (Prod.fst s) (Prod.fst (Prod.snd s)) (Prod.fst (Prod.snd (Prod.snd s))) (Prod.snd (Prod.snd (Prod.snd s))) some) ((0 : Int), Prod.fst c, Prod.fst (Prod.snd c), Prod.snd (Prod.snd c))) fun y_5 =>
        sel y_5
         (fun u => some (Prod.fst (Prod.snd (Prod.snd (Prod.snd (Prod.snd u)))), Prod.snd (Prod.snd (Prod.snd (Prod.snd (Prod.snd u))))))
         (fun v => some ((0 : Int), (0 : Int))))))
def circ_Check.ce : Go.Ql.Callee := ⟨[(.st (.pair (.int .i64) (.pair (.int .i64) (.sl (.st (.pair (.int .i64) (.pair (.int .i64) (.pair (.sl (.int .i64)) (.pair (.int .i64) (.pair (.int .i64) (.sl (.int .i64))))))))))))], [(.st (.pair (.int .i64) (.int .i64)))], fun x_ => circ_Check x_⟩
def circ_Check.G : Env := ⟨49, tab, [(40, circ_fault.ce)], [0, 1, 2, 3, 4, 5, 6, 16, 26, 33, 34, 35, 36, 43], [], [], [(100008, circ_Check.c100008r), (3, circ_Check.c3r), (1, circ_Check.c1r)], [(41, circ_one.mc)], tab_eqs⟩
theorem circ_Check.eq (x_ : dens [(.st (.pair (.int .i64) (.pair (.int .i64) (.sl (.st (.pair (.int .i64) (.pair (.int .i64) (.pair (.sl (.int .i64)) (.pair (.int .i64) (.pair (.int .i64) (.sl (.int .i64))))))))))))]) : den circ_Check.G Go.Proofs.Tryd.f14 [(.st (.pair (.int .i64) (.pair (.int .i64) (.sl (.st (.pair (.int .i64) (.pair (.int .i64) (.pair (.sl (.int .i64)) (.pair (.int .i64) (.pair (.int .i64) (.sl (.int .i64))))))))))))] [(.st (.pair (.int .i64) (.int .i64)))] x_ = circ_Check x_ := by kernel_rfl
theorem circ_Check.p0 : PieceOk circ_Check.G (pieceAt (pieces circ_Check.G.cks (bodyOf Go.Proofs.Tryd.f14)) 0).1 (pieceAt (pieces circ_Check.G.cks (bodyOf Go.Proofs.Tryd.f14)) 0).2 :=
  region_ok (s := circ_Check.c1r) (by kernel_rfl) (by kernel_rfl) (sums_of (sh := circ_Check.c1s) (fun ρ x_ k_ => (nat_br nat_leaf nat_leaf)) (fun ρ x_ t k => (by kernel_rfl)) (fun x_ => by kernel_rfl))
theorem circ_Check.p1 : PieceOk circ_Check.G (pieceAt (pieces circ_Check.G.cks (bodyOf Go.Proofs.Tryd.f14)) 1).1 (pieceAt (pieces circ_Check.G.cks (bodyOf Go.Proofs.Tryd.f14)) 1).2 :=
  region_ok (s := circ_Check.c3r) (by kernel_rfl) (by kernel_rfl) (sums_of (sh := circ_Check.c3s) (fun ρ x_ k_ => (nat_br nat_leaf nat_leaf)) (fun ρ x_ t k => (by kernel_rfl)) (fun x_ => by kernel_rfl))
theorem circ_Check.p2 : PieceOk circ_Check.G (pieceAt (pieces circ_Check.G.cks (bodyOf Go.Proofs.Tryd.f14)) 2).1 (pieceAt (pieces circ_Check.G.cks (bodyOf Go.Proofs.Tryd.f14)) 2).2 :=
  loop_ok (s := circ_Check.c100008r) (by kernel_rfl) (by kernel_rfl) (loops_of (sh := circ_Check.c100008s) (I := fun x_ s_ => (x_.1, x_.2.1, x_.2.2.1, s_.1, s_.2.1, s_.2.2.1, s_.2.2.2, x_.2.2.2.2.2.2.2.1, x_.2.2.2.2.2.2.2.2.1, ())) (fun x_ => rfl) (fun ρ x_ s_ k_ => (nat_br (nat_bnd fun _ => (nat_bnd fun _ => (nat_br (nat_bnd fun _ => nat_leaf) nat_leaf))) nat_leaf)) (fun ρ x_ t k => (nat_sel (fun _ => (by kernel_rfl)) (fun _ => (by kernel_rfl)))) (fun x_ s => by kernel_rfl))
theorem circ_Check.ok : CalleeOk Go.Proofs.Tryd.prog 14 circ_Check.ce := fn_ok (G := circ_Check.G) tab_ok mixed Go.Proofs.Tryd.func14 ⟨(fns_cons circ_fault.ok fns_nil), (mfns_cons circ_one.ok mfns_nil), tab_eqs_ok⟩ (m := 3) (by kernel_rfl) ⟨⟨⟨trivial, circ_Check.p0⟩, circ_Check.p1⟩, circ_Check.p2⟩ (by kernel_rfl) circ_Check.eq
def istrconv_small (i : Int) : Option (List UInt8) :=
  br (decide (i < (10 : Int)))
   (bnd (okIf (decide ((0 : Int) ≤ i) && decide (i ≤ IntKind.wrap IntKind.i64 (i + (1 : Int))) && decide (IntKind.wrap IntKind.i64 (i + (1 : Int)) ≤ (↑(List.length (Array.toList (ByteArray.data (ByteArray.mk #[(48 : UInt8), (49 : UInt8), (50 : UInt8), (51 : UInt8), (52 : UInt8), (53 : UInt8), (54 : UInt8), (55 : UInt8), (56 : UInt8), (57 : UInt8), (97 : UInt8), (98 : UInt8), (99 : UInt8), (100 : UInt8), (101 : UInt8), (102 : UInt8), (103 : UInt8), (104 : UInt8), (105 : UInt8), (106 : UInt8), (107 : UInt8), (108 : UInt8), (109 : UInt8), (110 : UInt8), (111 : UInt8), (112 : UInt8), (113 : UInt8), (114 : UInt8), (115 : UInt8), (116 : UInt8), (117 : UInt8), (118 : UInt8), (119 : UInt8), (120 : UInt8), (121 : UInt8), (122 : UInt8)])))) : Int)))) fun y =>
    some (List.drop (Int.toNat i) (List.take (Int.toNat (IntKind.wrap IntKind.i64 (i + (1 : Int)))) (Array.toList (ByteArray.data (ByteArray.mk #[(48 : UInt8), (49 : UInt8), (50 : UInt8), (51 : UInt8), (52 : UInt8), (53 : UInt8), (54 : UInt8), (55 : UInt8), (56 : UInt8), (57 : UInt8), (97 : UInt8), (98 : UInt8), (99 : UInt8), (100 : UInt8), (101 : UInt8), (102 : UInt8), (103 : UInt8), (104 : UInt8), (105 : UInt8), (106 : UInt8), (107 : UInt8), (108 : UInt8), (109 : UInt8), (110 : UInt8), (111 : UInt8), (112 : UInt8), (113 : UInt8), (114 : UInt8), (115 : UInt8), (116 : UInt8), (117 : UInt8), (118 : UInt8), (119 : UInt8), (120 : UInt8), (121 : UInt8), (122 : UInt8)]))))))
   (bnd (okIf (decide ((0 : Int) ≤ IntKind.wrap IntKind.i64 (i * (2 : Int))) && decide (IntKind.wrap IntKind.i64 (i * (2 : Int)) ≤ IntKind.wrap IntKind.i64 (IntKind.wrap IntKind.i64 (i * (2 : Int)) + (2 : Int))) && decide (IntKind.wrap IntKind.i64 (IntKind.wrap IntKind.i64 (i * (2 : Int)) + (2 : Int)) ≤ (↑(List.length (Array.toList (ByteArray.data (ByteArray.mk (List.toArray (List.append (List.append [(48 : UInt8), (48 : UInt8), (48 : UInt8), (49 : UInt8), (48 : UInt8), (50 : UInt8), (48 : UInt8), (51 : UInt8), (48 : UInt8), (52 : UInt8), (48 : UInt8), (53 : UInt8), (48 : UInt8), (54 : UInt8), (48 : UInt8), (55 : UInt8), (48 : UInt8), (56 : UInt8), (48 : UInt8), (57 : UInt8), (49 : UInt8), (48 : UInt8), (49 : UInt8), (49 : UInt8), (49 : UInt8), (50 : UInt8), (49 : UInt8), (51 : UInt8), (49 : UInt8), (52 : UInt8), (49 : UInt8), (53 : UInt8), (49 : UInt8), (54 : UInt8), (49 : UInt8), (55 : UInt8), (49 : UInt8), (56 : UInt8), (49 : UInt8), (57 : UInt8), (50 : UInt8), (48 : UInt8), (50 : UInt8), (49 : UInt8), (50 : UInt8), (50 : UInt8), (50 : UInt8), (51 : UInt8), (50 : UInt8), (52 : UInt8)] [(50 : UInt8), (53 : UInt8), (50 : UInt8), (54 : UInt8), (50 : UInt8), (55 : UInt8), (50 : UInt8), (56 : UInt8), (50 : UInt8), (57 : UInt8), (51 : UInt8), (48 : UInt8), (51 : UInt8), (49 : UInt8), (51 : UInt8), (50 : UInt8), (51 : UInt8), (51 : UInt8), (51 : UInt8), (52 : UInt8), (51 : UInt8), (53 : UInt8), (51 : UInt8), (54 : UInt8), (51 : UInt8), (55 : UInt8), (51 : UInt8), (56 : UInt8), (51 : UInt8), (57 : UInt8), (52 : UInt8), (48 : UInt8), (52 : UInt8), (49 : UInt8), (52 : UInt8), (50 : UInt8), (52 : UInt8), (51 : UInt8), (52 : UInt8), (52 : UInt8), (52 : UInt8), (53 : UInt8), (52 : UInt8), (54 : UInt8), (52 : UInt8), (55 : UInt8), (52 : UInt8), (56 : UInt8), (52 : UInt8), (57 : UInt8)]) (List.append [(53 : UInt8), (48 : UInt8), (53 : UInt8), (49 : UInt8), (53 : UInt8), (50 : UInt8), (53 : UInt8), (51 : UInt8), (53 : UInt8), (52 : UInt8), (53 : UInt8), (53 : UInt8), (53 : UInt8), (54 : UInt8), (53 : UInt8), (55 : UInt8), (53 : UInt8), (56 : UInt8), (53 : UInt8), (57 : UInt8), (54 : UInt8), (48 : UInt8), (54 : UInt8), (49 : UInt8), (54 : UInt8), (50 : UInt8), (54 : UInt8), (51 : UInt8), (54 : UInt8), (52 : UInt8), (54 : UInt8), (53 : UInt8), (54 : UInt8), (54 : UInt8), (54 : UInt8), (55 : UInt8), (54 : UInt8), (56 : UInt8), (54 : UInt8), (57 : UInt8), (55 : UInt8), (48 : UInt8), (55 : UInt8), (49 : UInt8), (55 : UInt8), (50 : UInt8), (55 : UInt8), (51 : UInt8), (55 : UInt8), (52 : UInt8)] [(55 : UInt8), (53 : UInt8), (55 : UInt8), (54 : UInt8), (55 : UInt8), (55 : UInt8), (55 : UInt8), (56 : UInt8), (55 : UInt8), (57 : UInt8), (56 : UInt8), (48 : UInt8), (56 : UInt8), (49 : UInt8), (56 : UInt8), (50 : UInt8), (56 : UInt8), (51 : UInt8), (56 : UInt8), (52 : UInt8), (56 : UInt8), (53 : UInt8), (56 : UInt8), (54 : UInt8), (56 : UInt8), (55 : UInt8), (56 : UInt8), (56 : UInt8), (56 : UInt8), (57 : UInt8), (57 : UInt8), (48 : UInt8), (57 : UInt8), (49 : UInt8), (57 : UInt8), (50 : UInt8), (57 : UInt8), (51 : UInt8), (57 : UInt8), (52 : UInt8), (57 : UInt8), (53 : UInt8), (57 : UInt8), (54 : UInt8), (57 : UInt8), (55 : UInt8), (57 : UInt8), (56 : UInt8), (57 : UInt8), (57 : UInt8)]))))))) : Int)))) fun y_1 =>
    some (List.drop (Int.toNat (IntKind.wrap IntKind.i64 (i * (2 : Int)))) (List.take (Int.toNat (IntKind.wrap IntKind.i64 (IntKind.wrap IntKind.i64 (i * (2 : Int)) + (2 : Int)))) (Array.toList (ByteArray.data (ByteArray.mk (List.toArray (List.append (List.append [(48 : UInt8), (48 : UInt8), (48 : UInt8), (49 : UInt8), (48 : UInt8), (50 : UInt8), (48 : UInt8), (51 : UInt8), (48 : UInt8), (52 : UInt8), (48 : UInt8), (53 : UInt8), (48 : UInt8), (54 : UInt8), (48 : UInt8), (55 : UInt8), (48 : UInt8), (56 : UInt8), (48 : UInt8), (57 : UInt8), (49 : UInt8), (48 : UInt8), (49 : UInt8), (49 : UInt8), (49 : UInt8), (50 : UInt8), (49 : UInt8), (51 : UInt8), (49 : UInt8), (52 : UInt8), (49 : UInt8), (53 : UInt8), (49 : UInt8), (54 : UInt8), (49 : UInt8), (55 : UInt8), (49 : UInt8), (56 : UInt8), (49 : UInt8), (57 : UInt8), (50 : UInt8), (48 : UInt8), (50 : UInt8), (49 : UInt8), (50 : UInt8), (50 : UInt8), (50 : UInt8), (51 : UInt8), (50 : UInt8), (52 : UInt8)] [(50 : UInt8), (53 : UInt8), (50 : UInt8), (54 : UInt8), (50 : UInt8), (55 : UInt8), (50 : UInt8), (56 : UInt8), (50 : UInt8), (57 : UInt8), (51 : UInt8), (48 : UInt8), (51 : UInt8), (49 : UInt8), (51 : UInt8), (50 : UInt8), (51 : UInt8), (51 : UInt8), (51 : UInt8), (52 : UInt8), (51 : UInt8), (53 : UInt8), (51 : UInt8), (54 : UInt8), (51 : UInt8), (55 : UInt8), (51 : UInt8), (56 : UInt8), (51 : UInt8), (57 : UInt8), (52 : UInt8), (48 : UInt8), (52 : UInt8), (49 : UInt8), (52 : UInt8), (50 : UInt8), (52 : UInt8), (51 : UInt8), (52 : UInt8), (52 : UInt8), (52 : UInt8), (53 : UInt8), (52 : UInt8), (54 : UInt8), (52 : UInt8), (55 : UInt8), (52 : UInt8), (56 : UInt8), (52 : UInt8), (57 : UInt8)]) (List.append [(53 : UInt8), (48 : UInt8), (53 : UInt8), (49 : UInt8), (53 : UInt8), (50 : UInt8), (53 : UInt8), (51 : UInt8), (53 : UInt8), (52 : UInt8), (53 : UInt8), (53 : UInt8), (53 : UInt8), (54 : UInt8), (53 : UInt8), (55 : UInt8), (53 : UInt8), (56 : UInt8), (53 : UInt8), (57 : UInt8), (54 : UInt8), (48 : UInt8), (54 : UInt8), (49 : UInt8), (54 : UInt8), (50 : UInt8), (54 : UInt8), (51 : UInt8), (54 : UInt8), (52 : UInt8), (54 : UInt8), (53 : UInt8), (54 : UInt8), (54 : UInt8), (54 : UInt8), (55 : UInt8), (54 : UInt8), (56 : UInt8), (54 : UInt8), (57 : UInt8), (55 : UInt8), (48 : UInt8), (55 : UInt8), (49 : UInt8), (55 : UInt8), (50 : UInt8), (55 : UInt8), (51 : UInt8), (55 : UInt8), (52 : UInt8)] [(55 : UInt8), (53 : UInt8), (55 : UInt8), (54 : UInt8), (55 : UInt8), (55 : UInt8), (55 : UInt8), (56 : UInt8), (55 : UInt8), (57 : UInt8), (56 : UInt8), (48 : UInt8), (56 : UInt8), (49 : UInt8), (56 : UInt8), (50 : UInt8), (56 : UInt8), (51 : UInt8), (56 : UInt8), (52 : UInt8), (56 : UInt8), (53 : UInt8), (56 : UInt8), (54 : UInt8), (56 : UInt8), (55 : UInt8), (56 : UInt8), (56 : UInt8), (56 : UInt8), (57 : UInt8), (57 : UInt8), (48 : UInt8), (57 : UInt8), (49 : UInt8), (57 : UInt8), (50 : UInt8), (57 : UInt8), (51 : UInt8), (57 : UInt8), (52 : UInt8), (57 : UInt8), (53 : UInt8), (57 : UInt8), (54 : UInt8), (57 : UInt8), (55 : UInt8), (57 : UInt8), (56 : UInt8), (57 : UInt8), (57 : UInt8)])))))))))
def istrconv_small.ce : Go.Ql.Callee := ⟨[(.int .i64)], [.str], fun x_ => istrconv_small x_⟩
def istrconv_small.G : Env := ⟨15, tab, [], [0, 2, 4], [], [], [], [], tab_eqs⟩
theorem istrconv_small.eq (x_ : dens [(.int .i64)]) : den istrconv_small.G Go.Proofs.Tryd.f91 [(.int .i64)] [.str] x_ = istrconv_small x_ := by kernel_rfl
theorem istrconv_small.ok : CalleeOk Go.Proofs.Tryd.prog 91 istrconv_small.ce := fn_ok (G := istrconv_small.G) tab_ok mixed Go.Proofs.Tryd.func91 ⟨fns_nil, mfns_nil, tab_eqs_ok⟩ (m := 0) (by kernel_rfl) trivial (by kernel_rfl) istrconv_small.eq
abbrev q14 : SD := .one (.val .str)
abbrev q15 : SD := .one (.val (.int .u64))
abbrev q16 : SO := .arr 0 false 118 (.int .u8)
def istrconv_FormatInt.c2 {ρ : Type} (i : Int) (k_ : Bool → Option ρ) : Option ρ :=
  br (decide ((0 : Int) ≤ i))
   (k_ (decide (i < (100 : Int))))
   (k_ false)
def istrconv_FormatInt.c2s : Shape := ⟨[(0, q0), (1, q0), (4, q14)], []⟩
def istrconv_FormatInt.c2x0 : Shape := ⟨[(0, q0), (1, q0), (4, q14), (17, q1)], []⟩
def istrconv_FormatInt.c2r : Ck := Ck.of (T := Bool) istrconv_FormatInt.c2s (fun ρ x_ k_ => uP x_ fun i x_ => uP x_ fun base x_ => uP x_ fun t4 x_ => istrconv_FormatInt.c2 i k_) (fun ρ x_ r_ k_ => uP x_ fun i x_ => uP x_ fun base x_ => uP x_ fun t4 x_ => k_ 0 (Shape.inj istrconv_FormatInt.c2x0 (i, base, t4, r_, ())))
def istrconv_FormatInt.c224581 {ρ : Type} (i : Int) (u : Int) (k_ : Int → Option ρ) : Option ρ :=
  br (decide (i < (0 : Int)))
   (k_ (IntKind.wrap IntKind.u64 ((0 : Int) - u)))
   (k_ u)
def istrconv_FormatInt.c224581s : Shape := ⟨[(0, q0), (1, q0), (4, q14), (5, q7), (6, q15)], [(5, q16)]⟩
def istrconv_FormatInt.c224581x0 : Shape := ⟨[(0, q0), (1, q0), (4, q14), (5, q7), (6, q15)], [(5, q16)]⟩
def istrconv_FormatInt.c224581r : Ck := Ck.of (T := Int) istrconv_FormatInt.c224581s (fun ρ x_ k_ => uP x_ fun i x_ => uP x_ fun base x_ => uP x_ fun t4 x_ => uP x_ fun u x_ => uP x_ fun a x_ => istrconv_FormatInt.c224581 i u k_) (fun ρ x_ r_ k_ => uP x_ fun i x_ => uP x_ fun base x_ => uP x_ fun t4 x_ => uP x_ fun u x_ => uP x_ fun a x_ => k_ 0 (Shape.inj istrconv_FormatInt.c224581x0 (i, base, t4, r_, a, ())))
def istrconv_FormatInt (i : Int) (base : Int) : Option (List UInt8) :=
  br (base == (10 : Int))
   (bnd (W.istrconv_FormatInt.c2 i some) fun y =>
    br y
     (bnd (W.istrconv_small i) fun y_1 =>
      some y_1)
     (bnd (W.istrconv_FormatInt.c224581 i (IntKind.wrap IntKind.u64 i) some) fun y_2 =>
      none))
   (none)
def istrconv_FormatInt.ce : Go.Ql.Callee := ⟨[(.int .i64), (.int .i64)], [.str], fun x_ => istrconv_FormatInt x_.1 x_.2⟩
def istrconv_FormatInt.G : Env := ⟨54, tab, [(91, istrconv_small.ce)], [0, 1, 4, 5, 6, 7, 9, 11, 17, 23, 34], [5], [], [(224581, istrconv_FormatInt.c224581r), (2, istrconv_FormatInt.c2r)], [], tab_eqs⟩
theorem istrconv_FormatInt.eq (x_ : dens [(.int .i64), (.int .i64)]) : den istrconv_FormatInt.G Go.Proofs.Tryd.f85 [(.int .i64), (.int .i64)] [.str] x_ = istrconv_FormatInt x_.1 x_.2 := by kernel_rfl
theorem istrconv_FormatInt.p0 : PieceOk istrconv_FormatInt.G (pieceAt (pieces istrconv_FormatInt.G.cks (bodyOf Go.Proofs.Tryd.f85)) 0).1 (pieceAt (pieces istrconv_FormatInt.G.cks (bodyOf Go.Proofs.Tryd.f85)) 0).2 :=
  region_ok (s := istrconv_FormatInt.c2r) (by kernel_rfl) (by kernel_rfl) (sums_of (sh := istrconv_FormatInt.c2s) (fun ρ x_ k_ => (nat_br nat_leaf nat_leaf)) (fun ρ x_ t k => (by kernel_rfl)) (fun x_ => by kernel_rfl))
theorem istrconv_FormatInt.p1 : PieceOk istrconv_FormatInt.G (pieceAt (pieces istrconv_FormatInt.G.cks (bodyOf Go.Proofs.Tryd.f85)) 1).1 (pieceAt (pieces istrconv_FormatInt.G.cks (bodyOf Go.Proofs.Tryd.f85)) 1).2 :=
  join_ok (s := istrconv_FormatInt.c224581r) (by kernel_rfl) (by kernel_rfl) (sums_of (sh := istrconv_FormatInt.c224581s) (fun ρ x_ k_ => (nat_br nat_leaf nat_leaf)) (fun ρ x_ t k => (by kernel_rfl)) (fun x_ => by kernel_rfl))
theorem istrconv_FormatInt.ok : CalleeOk Go.Proofs.Tryd.prog 85 istrconv_FormatInt.ce := fn_ok (G := istrconv_FormatInt.G) tab_ok mixed Go.Proofs.Tryd.func85 ⟨(fns_cons istrconv_small.ok fns_nil), mfns_nil, tab_eqs_ok⟩ (m := 2) (by kernel_rfl) ⟨⟨trivial, istrconv_FormatInt.p0⟩, istrconv_FormatInt.p1⟩ (by kernel_rfl) istrconv_FormatInt.eq
def istrconv_Itoa (i : Int) : Option (List UInt8) :=
  bnd (W.istrconv_FormatInt i (10 : Int)) fun y =>
  some y
def istrconv_Itoa.ce : Go.Ql.Callee := ⟨[(.int .i64)], [.str], fun x_ => istrconv_Itoa x_⟩
def istrconv_Itoa.G : Env := ⟨5, tab, [(85, istrconv_FormatInt.ce)], [0, 2], [], [], [], [], tab_eqs⟩
theorem istrconv_Itoa.eq (x_ : dens [(.int .i64)]) : den istrconv_Itoa.G Go.Proofs.Tryd.f73 [(.int .i64)] [.str] x_ = istrconv_Itoa x_ := by kernel_rfl
theorem istrconv_Itoa.ok : CalleeOk Go.Proofs.Tryd.prog 73 istrconv_Itoa.ce := fn_ok (G := istrconv_Itoa.G) tab_ok mixed Go.Proofs.Tryd.func73 ⟨(fns_cons istrconv_FormatInt.ok fns_nil), mfns_nil, tab_eqs_ok⟩ (m := 0) (by kernel_rfl) trivial (by kernel_rfl) istrconv_Itoa.eq
def strconv_Itoa (i : Int) : Option (List UInt8) :=
  bnd (W.istrconv_Itoa i) fun y =>
  some y
def strconv_Itoa.ce : Go.Ql.Callee := ⟨[(.int .i64)], [.str], fun x_ => strconv_Itoa x_⟩
def strconv_Itoa.G : Env := ⟨5, tab, [(73, istrconv_Itoa.ce)], [0, 2], [], [], [], [], tab_eqs⟩
theorem strconv_Itoa.eq (x_ : dens [(.int .i64)]) : den strconv_Itoa.G Go.Proofs.Tryd.f55 [(.int .i64)] [.str] x_ = strconv_Itoa x_ := by kernel_rfl
theorem strconv_Itoa.ok : CalleeOk Go.Proofs.Tryd.prog 55 strconv_Itoa.ce := fn_ok (G := strconv_Itoa.G) tab_ok mixed Go.Proofs.Tryd.func55 ⟨(fns_cons istrconv_Itoa.ok fns_nil), mfns_nil, tab_eqs_ok⟩ (m := 0) (by kernel_rfl) trivial (by kernel_rfl) strconv_Itoa.eq
abbrev q17 : SD := .one (.ref 1000000 0)
abbrev q18 : SO := .box [.selfp 1000000 72, .own 1000001 0]
abbrev q19 : SO := .arr 0 false 5 (.int .u8)
abbrev q20 : SD := .one (.val (.nilv 1))
def strings_Builder_WriteString.pre : Shape := ⟨[(0, q17), (1, q14)], [(1000000, q18), (1000001, q19)]⟩
def strings_Builder_WriteString.post : Shape := ⟨[(0, q0), (1, q20)], [(1000001, q19), (1000000, q18)]⟩
def strings_Builder_WriteString (s : List UInt8) (t1000001 : List (Int)) : Option ((Int) × (Unit) × (List Int) × Unit) :=
  bnd (W.strings_Builder_copyCheck (Prod.fst (uP (t1000001, ()) fun u r ↦ (u, ())))) fun y =>
  bnd (okIf (decide (List.length (Prod.fst y) + List.length s ≤ (140737488355328 : Nat)))) fun y_1 =>
  some (uP (uP ((↑(List.length s) : Int), ()) fun u r ↦ (u, uP ((), ()) fun u r ↦ (u, ()))) fun u r ↦ (u, uP r fun u r ↦ (u, uP (Prod.fst y ++ List.map (fun b ↦ (↑(UInt8.toNat b) : Int)) s, ()) fun u r ↦ (u, ()))))
def strings_Builder_WriteString.mc : MCallee := ⟨54, strings_Builder_WriteString.pre, strings_Builder_WriteString.post, fun x_ => strings_Builder_WriteString x_.1 x_.2.1⟩
def strings_Builder_WriteString.G : Env := ⟨19, tab, [], [0, 1, 4, 5], [1000000, 1000001], [], [], [(72, strings_Builder_copyCheck.mc)], tab_eqs⟩
theorem strings_Builder_WriteString.eq (x_ : densU strings_Builder_WriteString.mc.pre.tys) : denM strings_Builder_WriteString.G Go.Proofs.Tryd.f54 strings_Builder_WriteString.mc.pre strings_Builder_WriteString.mc.post x_ = strings_Builder_WriteString.mc.F x_ := by kernel_rfl
theorem strings_Builder_WriteString.ok : MOk Go.Proofs.Tryd.prog 54 strings_Builder_WriteString.mc := fnm_ok (G := strings_Builder_WriteString.G) tab_ok mixed Go.Proofs.Tryd.func54 ⟨fns_nil, (mfns_cons strings_Builder_copyCheck.ok mfns_nil), tab_eqs_ok⟩ (m := 0) (by kernel_rfl) trivial (by kernel_rfl) strings_Builder_WriteString.eq
def circ_word (kind : Int) : Option (List UInt8) :=
  br (kind == (1 : Int))
   (some (Array.toList (ByteArray.data (ByteArray.mk #[(112 : UInt8), (104 : UInt8), (97 : UInt8), (115 : UInt8), (101 : UInt8)]))))
   (br (kind == (2 : Int))
     (some (Array.toList (ByteArray.data (ByteArray.mk #[(120 : UInt8)]))))
     (br (kind == (3 : Int))
       (some (Array.toList (ByteArray.data (ByteArray.mk #[(104 : UInt8)]))))
       (br (kind == (4 : Int))
         (some (Array.toList (ByteArray.data (ByteArray.mk #[(112 : UInt8)]))))
         (br (kind == (5 : Int))
           (some (Array.toList (ByteArray.data (ByteArray.mk #[(109 : UInt8), (101 : UInt8), (97 : UInt8), (115 : UInt8), (117 : UInt8), (114 : UInt8), (101 : UInt8)]))))
           (some (Array.toList (ByteArray.data (ByteArray.mk #[(114 : UInt8), (101 : UInt8), (115 : UInt8), (101 : UInt8), (116 : UInt8)]))))))))
def circ_word.ce : Go.Ql.Callee := ⟨[(.int .i64)], [.str], fun x_ => circ_word x_⟩
def circ_word.G : Env := ⟨14, tab, [], [0, 2, 3, 4, 6, 8, 10, 12], [], [], [], [], tab_eqs⟩
theorem circ_word.eq (x_ : dens [(.int .i64)]) : den circ_word.G Go.Proofs.Tryd.f75 [(.int .i64)] [.str] x_ = circ_word x_ := by kernel_rfl
theorem circ_word.ok : CalleeOk Go.Proofs.Tryd.prog 75 circ_word.ce := fn_ok (G := circ_word.G) tab_ok mixed Go.Proofs.Tryd.func75 ⟨fns_nil, mfns_nil, tab_eqs_ok⟩ (m := 0) (by kernel_rfl) trivial (by kernel_rfl) circ_word.eq
abbrev q21 : SD := .one (.val (.int .u8))
def strings_Builder_WriteByte.pre : Shape := ⟨[(0, q17), (1, q21)], [(1000000, q18), (1000001, q19)]⟩
def strings_Builder_WriteByte.post : Shape := ⟨[(0, q20)], [(1000001, q19), (1000000, q18)]⟩
def strings_Builder_WriteByte (c : Int) (t1000001 : List (Int)) : Option ((Unit) × (List Int) × Unit) :=
  bnd (W.strings_Builder_copyCheck (Prod.fst (uP (t1000001, ()) fun u r ↦ (u, ())))) fun y =>
  bnd (okIf (decide ((List.length (Prod.fst y) + List.length [c]) * (1 : Nat) ≤ (140737488355328 : Nat)) && decide (List.length (Prod.fst y) + List.length [c] ≤ (140737488355328 : Nat)))) fun y_1 =>
  some (uP (uP ((), ()) fun u r ↦ (u, ())) fun u r ↦ (u, uP (Prod.fst y ++ [c], ()) fun u r ↦ (u, ())))
def strings_Builder_WriteByte.mc : MCallee := ⟨76, strings_Builder_WriteByte.pre, strings_Builder_WriteByte.post, fun x_ => strings_Builder_WriteByte x_.1 x_.2.1⟩
def strings_Builder_WriteByte.G : Env := ⟨17, tab, [], [0, 1, 4], [1000000, 1000001], [], [], [(72, strings_Builder_copyCheck.mc)], tab_eqs⟩
theorem strings_Builder_WriteByte.eq (x_ : densU strings_Builder_WriteByte.mc.pre.tys) : denM strings_Builder_WriteByte.G Go.Proofs.Tryd.f76 strings_Builder_WriteByte.mc.pre strings_Builder_WriteByte.mc.post x_ = strings_Builder_WriteByte.mc.F x_ := by kernel_rfl
theorem strings_Builder_WriteByte.ok : MOk Go.Proofs.Tryd.prog 76 strings_Builder_WriteByte.mc := fnm_ok (G := strings_Builder_WriteByte.G) tab_ok mixed Go.Proofs.Tryd.func76 ⟨fns_nil, (mfns_cons strings_Builder_copyCheck.ok mfns_nil), tab_eqs_ok⟩ (m := 0) (by kernel_rfl) trivial (by kernel_rfl) strings_Builder_WriteByte.eq
abbrev q22 : SO := .box [.ref 1000200 0]
abbrev q23 : SO := .box [.selfp 1000200 72, .own 1000201 0]
def circ_line_1.pre : Shape := ⟨[(0, q8), (1, q3)], [(1000100, q22), (1000200, q23), (1000201, q19)]⟩
def circ_line_1.post : Shape := ⟨[], [(1000201, q19), (1000200, q23), (1000100, q22)]⟩
def circ_line_1.c3 {ρ : Type} (n : Int) (t1000201 : List (Int)) (k_ : List (Int) → Option ρ) : Option ρ :=
  bnd (W.strconv_Itoa n) fun y =>
  bnd (okIf (decide (List.length (Array.toList (ByteArray.data (ByteArray.mk #[(32 : UInt8)]))) + List.length y ≤ (9223372036854775807 : Nat)))) fun y_1 =>
  bnd (W.strings_Builder_WriteString (Prod.fst (uP (uP (Array.toList (ByteArray.data (ByteArray.mk #[(32 : UInt8)])) ++ y, ()) fun u r ↦ (u, ())) fun u r ↦ (u, uP (t1000201, ()) fun u r ↦ (u, ())))) (Prod.fst (Prod.snd (uP (uP (Array.toList (ByteArray.data (ByteArray.mk #[(32 : UInt8)])) ++ y, ()) fun u r ↦ (u, ())) fun u r ↦ (u, uP (t1000201, ()) fun u r ↦ (u, ())))))) fun y_2 =>
  k_ (Prod.fst y_2.2.2)
def circ_line_1.c3s : Shape := ⟨[(0, q8), (1, q3), (4, q0), (5, q8), (6, q0), (7, q0)], [(1000100, q22), (1000200, q23), (1000201, q19)]⟩
def circ_line_1.c3x0 : Shape := ⟨[(0, q8), (1, q3), (4, q0), (5, q8), (6, q0), (7, q0)], [(1000100, q22), (1000200, q23), (1000201, q19)]⟩
def circ_line_1.c3r : Ck := Ck.of (T := List (Int)) circ_line_1.c3s (fun ρ x_ k_ => uP x_ fun ns x_ => uP x_ fun n x_ => uP x_ fun t5 x_ => uP x_ fun t6 x_ => uP x_ fun t7 x_ => uP x_ fun t1000201 x_ => circ_line_1.c3 n t1000201 k_) (fun ρ x_ r_ k_ => uP x_ fun ns x_ => uP x_ fun n x_ => uP x_ fun t5 x_ => uP x_ fun t6 x_ => uP x_ fun t7 x_ => uP x_ fun t1000201 x_ => k_ 0 (Shape.inj circ_line_1.c3x0 (ns, n, t5, t6, t7, r_, ())))
def circ_line_1.c100001 {ρ : Type} (t5 : List (Int)) (t6 : Int) (t7 : Int) (t1000201 : List (Int)) (k_ : ((Int) × (List Int)) ⊕ ((Int) × (List Int)) → Option ρ) : Option ρ :=
  br (decide (t7 < t6))
   (bnd (idx t5 t7) fun y =>
    bnd (W.circ_line_1.c3 y t1000201 some) fun y_1 =>
    k_ (.inl ((IntKind.wrap IntKind.i64 (t7 + (1 : Int))), y_1)))
   (k_ (.inr (t7, t1000201)))
def circ_line_1.c100001s : Shape := ⟨[(0, q8), (1, q3), (5, q8), (6, q0), (7, q0)], [(1000100, q22), (1000200, q23), (1000201, q19)]⟩
def circ_line_1.c100001x0 : Shape := ⟨[(0, q8), (1, q3), (5, q8), (6, q0), (7, q0)], [(1000100, q22), (1000200, q23), (1000201, q19)]⟩
def circ_line_1.c100001r : Ck := Ck.ofLoop (S := (Int) × (List Int)) (T := (Int) × (List Int)) circ_line_1.c100001s (fun x_ => uP x_ fun ns x_ => uP x_ fun t5 x_ => uP x_ fun t6 x_ => uP x_ fun t7 x_ => uP x_ fun t1000201 x_ => (t7, t1000201)) (fun ρ x_ s_ k_ => uP x_ fun ns x_ => uP x_ fun t5 x_ => uP x_ fun t6 x_ => uP x_ fun t7 x_ => uP x_ fun t1000201 x_ => circ_line_1.c100001 t5 t6 s_.1 s_.2 k_) (fun ρ x_ r_ k_ => uP x_ fun ns x_ => uP x_ fun t5 x_ => uP x_ fun t6 x_ => uP x_ fun t7 x_ => uP x_ fun t1000201 x_ => k_ 2 (Shape.inj circ_line_1.c100001x0 (ns, t5, t6, r_.1, r_.2, ())))
def circ_line_1 (ns : List (Int)) (t1000201 : List (Int)) : Option ((List Int) × Unit) :=
  bnd (iter (fun s ↦ W.circ_line_1.c100001 ns (↑(List.length ns) : Int) (Prod.fst s) (Prod.snd s) some) ((0 : Int), t1000201)) fun y =>
  some (uP (Prod.snd y, ()) fun u r ↦ (u, ()))
def circ_line_1.mc : MCallee := ⟨74, circ_line_1.pre, circ_line_1.post, fun x_ => circ_line_1 x_.1 x_.2.1⟩
def circ_line_1.G : Env := ⟨17, tab, [(55, strconv_Itoa.ce)], [0, 1, 4, 5, 6, 7, 8], [1000100, 1000200, 1000201], [(3, [⟨[], [], [12, 13, 14], []⟩, ⟨[], [], [11], []⟩, ⟨[1], [], [11], []⟩, ⟨[2, 1], [], [11], []⟩, ⟨[0, 3, 2, 1], [1000201, 1000200], [], []⟩])], [(100001, circ_line_1.c100001r), (3, circ_line_1.c3r)], [(54, strings_Builder_WriteString.mc)], tab_eqs⟩
theorem circ_line_1.eq (x_ : densU circ_line_1.mc.pre.tys) : denM circ_line_1.G Go.Proofs.Tryd.f74 circ_line_1.mc.pre circ_line_1.mc.post x_ = circ_line_1.mc.F x_ := by kernel_rfl
theorem circ_line_1.p0 : PieceOk circ_line_1.G (pieceAt (pieces circ_line_1.G.cks (bodyOf Go.Proofs.Tryd.f74)) 0).1 (pieceAt (pieces circ_line_1.G.cks (bodyOf Go.Proofs.Tryd.f74)) 0).2 :=
  loop_ok (s := circ_line_1.c100001r) (by kernel_rfl) (by kernel_rfl) (loops_of (sh := circ_line_1.c100001s) (I := fun x_ s_ => (x_.1, x_.2.1, x_.2.2.1, s_.1, s_.2, ())) (fun x_ => rfl) (fun ρ x_ s_ k_ => (nat_br (nat_bnd fun _ => (nat_bnd fun _ => nat_leaf)) nat_leaf)) (fun ρ x_ t k => (by kernel_rfl)) (fun x_ s => by kernel_rfl))
theorem circ_line_1.p1 : PieceOk circ_line_1.G (pieceAt (pieces circ_line_1.G.cks (bodyOf Go.Proofs.Tryd.f74)) 1).1 (pieceAt (pieces circ_line_1.G.cks (bodyOf Go.Proofs.Tryd.f74)) 1).2 :=
  region_ok (s := circ_line_1.c3r) (by kernel_rfl) (by kernel_rfl) (sums_of (sh := circ_line_1.c3s) (fun ρ x_ k_ => (nat_bnd fun _ => (nat_bnd fun _ => (nat_bnd fun _ => nat_leaf)))) (fun ρ x_ t k => (by kernel_rfl)) (fun x_ => by kernel_rfl))
theorem circ_line_1.ok : MOk Go.Proofs.Tryd.prog 74 circ_line_1.mc := fnm_ok (G := circ_line_1.G) tab_ok mixed Go.Proofs.Tryd.func74 ⟨(fns_cons strconv_Itoa.ok fns_nil), (mfns_cons strings_Builder_WriteString.ok mfns_nil), tab_eqs_ok⟩ (m := 2) (by kernel_rfl) ⟨⟨trivial, circ_line_1.p0⟩, circ_line_1.p1⟩ (by kernel_rfl) circ_line_1.eq
abbrev q24 : SD := .one (.ref 3 0)
abbrev q25 : SD := .one (.clo 7)
abbrev q26 : SO := .box [.ref 1000000 0]
abbrev q27 : SO := .clo 74 [] [.ref 2 0]
def circ_line.pre : Shape := ⟨[(0, q17), (1, q2)], [(1000000, q18), (1000001, q19)]⟩
def circ_line.post : Shape := ⟨[], [(1000001, q19), (1000000, q18)]⟩
def circ_line.c2 {ρ : Type} (o0 : Int) (t1000001 : List (Int)) (k_ : List (Int) → Option ρ) : Option ρ :=
  bnd (W.circ_word o0) fun y =>
  bnd (W.strings_Builder_WriteString (Prod.fst (uP (uP (y, ()) fun u r ↦ (u, ())) fun u r ↦ (u, uP (t1000001, ()) fun u r ↦ (u, ())))) (Prod.fst (Prod.snd (uP (uP (y, ()) fun u r ↦ (u, ())) fun u r ↦ (u, uP (t1000001, ()) fun u r ↦ (u, ())))))) fun y_1 =>
  k_ (Prod.fst y_1.2.2)
def circ_line.c2s : Shape := ⟨[(0, q17), (1, q2), (2, q5), (3, q24), (4, q25)], [(2, q26), (3, q6), (7, q27), (1000000, q18), (1000001, q19)]⟩
def circ_line.c2x0 : Shape := ⟨[(0, q17), (1, q2), (2, q5), (3, q24), (4, q25)], [(2, q26), (3, q6), (7, q27), (1000000, q18), (1000001, q19)]⟩
def circ_line.c2r : Ck := Ck.of (T := List (Int)) circ_line.c2s (fun ρ x_ k_ => uP x_ fun o x_ => uP x_ fun o0 x_ => uP x_ fun o1 x_ => uP x_ fun o2 x_ => uP x_ fun o3 x_ => uP x_ fun o4 x_ => uP x_ fun o5 x_ => uP x_ fun t1000001 x_ => circ_line.c2 o0 t1000001 k_) (fun ρ x_ r_ k_ => uP x_ fun o x_ => uP x_ fun o0 x_ => uP x_ fun o1 x_ => uP x_ fun o2 x_ => uP x_ fun o3 x_ => uP x_ fun o4 x_ => uP x_ fun o5 x_ => uP x_ fun t1000001 x_ => k_ 0 (Shape.inj circ_line.c2x0 (o, o0, o1, o2, o3, o4, o5, r_, ())))
def circ_line.c212293 {ρ : Type} (o0 : Int) (o1 : Int) (t1000001 : List (Int)) (k_ : List (Int) → Option ρ) : Option ρ :=
  bnd (W.circ_turns o0) fun y =>
  br y
   (bnd (W.circ_line_1 (Prod.fst (uP (uP ([o1], ()) fun u r ↦ (u, ())) fun u r ↦ (u, uP (t1000001, ()) fun u r ↦ (u, ())))) (Prod.fst (Prod.snd (uP (uP ([o1], ()) fun u r ↦ (u, ())) fun u r ↦ (u, uP (t1000001, ()) fun u r ↦ (u, ())))))) fun y_1 =>
    k_ (Prod.fst y_1))
   (k_ t1000001)
def circ_line.c212293s : Shape := ⟨[(0, q17), (1, q2), (2, q5), (3, q24), (4, q25)], [(2, q26), (3, q6), (7, q27), (1000000, q18), (1000001, q19)]⟩
def circ_line.c212293x0 : Shape := ⟨[(0, q17), (1, q2), (2, q5), (3, q24), (4, q25)], [(2, q26), (3, q6), (7, q27), (1000000, q18), (1000001, q19)]⟩
def circ_line.c212293r : Ck := Ck.of (T := List (Int)) circ_line.c212293s (fun ρ x_ k_ => uP x_ fun o x_ => uP x_ fun o0 x_ => uP x_ fun o1 x_ => uP x_ fun o2 x_ => uP x_ fun o3 x_ => uP x_ fun o4 x_ => uP x_ fun o5 x_ => uP x_ fun t1000001 x_ => circ_line.c212293 o0 o1 t1000001 k_) (fun ρ x_ r_ k_ => uP x_ fun o x_ => uP x_ fun o0 x_ => uP x_ fun o1 x_ => uP x_ fun o2 x_ => uP x_ fun o3 x_ => uP x_ fun o4 x_ => uP x_ fun o5 x_ => uP x_ fun t1000001 x_ => k_ 0 (Shape.inj circ_line.c212293x0 (o, o0, o1, o2, o3, o4, o5, r_, ())))
def circ_line.c220485 {ρ : Type} (o0 : Int) (o3 : Int) (t1000001 : List (Int)) (k_ : List (Int) → Option ρ) : Option ρ :=
  br (o0 != (1 : Int))
   (bnd (W.circ_line_1 (Prod.fst (uP (uP ([o3], ()) fun u r ↦ (u, ())) fun u r ↦ (u, uP (t1000001, ()) fun u r ↦ (u, ())))) (Prod.fst (Prod.snd (uP (uP ([o3], ()) fun u r ↦ (u, ())) fun u r ↦ (u, uP (t1000001, ()) fun u r ↦ (u, ())))))) fun y =>
    k_ (Prod.fst y))
   (k_ t1000001)
def circ_line.c220485s : Shape := ⟨[(0, q17), (1, q2), (2, q5), (3, q24), (4, q25)], [(2, q26), (3, q6), (7, q27), (1000000, q18), (1000001, q19)]⟩
def circ_line.c220485x0 : Shape := ⟨[(0, q17), (1, q2), (2, q5), (3, q24), (4, q25)], [(2, q26), (3, q6), (7, q27), (1000000, q18), (1000001, q19)]⟩
def circ_line.c220485r : Ck := Ck.of (T := List (Int)) circ_line.c220485s (fun ρ x_ k_ => uP x_ fun o x_ => uP x_ fun o0 x_ => uP x_ fun o1 x_ => uP x_ fun o2 x_ => uP x_ fun o3 x_ => uP x_ fun o4 x_ => uP x_ fun o5 x_ => uP x_ fun t1000001 x_ => circ_line.c220485 o0 o3 t1000001 k_) (fun ρ x_ r_ k_ => uP x_ fun o x_ => uP x_ fun o0 x_ => uP x_ fun o1 x_ => uP x_ fun o2 x_ => uP x_ fun o3 x_ => uP x_ fun o4 x_ => uP x_ fun o5 x_ => uP x_ fun t1000001 x_ => k_ 0 (Shape.inj circ_line.c220485x0 (o, o0, o1, o2, o3, o4, o5, r_, ())))
def circ_line.c228679 {ρ : Type} (o2 : List (Int)) (t1000001 : List (Int)) (k_ : List (Int) → Option ρ) : Option ρ :=
  br (decide ((↑(List.length o2) : Int) > (0 : Int)))
   (bnd (W.strings_Builder_WriteString (Prod.fst (uP (uP (Array.toList (ByteArray.data (ByteArray.mk #[(32 : UInt8), (111 : UInt8), (110 : UInt8)])), ()) fun u r ↦ (u, ())) fun u r ↦ (u, uP (t1000001, ()) fun u r ↦ (u, ())))) (Prod.fst (Prod.snd (uP (uP (Array.toList (ByteArray.data (ByteArray.mk #[(32 : UInt8), (111 : UInt8), (110 : UInt8)])), ()) fun u r ↦ (u, ())) fun u r ↦ (u, uP (t1000001, ()) fun u r ↦ (u, ())))))) fun y =>
    bnd (W.circ_line_1 (Prod.fst (uP (uP (o2, ()) fun u r ↦ (u, ())) fun u r ↦ (u, uP (Prod.fst y.2.2, ()) fun u r ↦ (u, ())))) (Prod.fst (Prod.snd (uP (uP (o2, ()) fun u r ↦ (u, ())) fun u r ↦ (u, uP (Prod.fst y.2.2, ()) fun u r ↦ (u, ())))))) fun y_1 =>
    k_ (Prod.fst y_1))
   (k_ t1000001)
def circ_line.c228679s : Shape := ⟨[(0, q17), (1, q2), (2, q5), (3, q24), (4, q25)], [(2, q26), (3, q6), (7, q27), (1000000, q18), (1000001, q19)]⟩
def circ_line.c228679x0 : Shape := ⟨[(0, q17), (1, q2), (2, q5), (3, q24), (4, q25)], [(2, q26), (3, q6), (7, q27), (1000000, q18), (1000001, q19)]⟩
def circ_line.c228679r : Ck := Ck.of (T := List (Int)) circ_line.c228679s (fun ρ x_ k_ => uP x_ fun o x_ => uP x_ fun o0 x_ => uP x_ fun o1 x_ => uP x_ fun o2 x_ => uP x_ fun o3 x_ => uP x_ fun o4 x_ => uP x_ fun o5 x_ => uP x_ fun t1000001 x_ => circ_line.c228679 o2 t1000001 k_) (fun ρ x_ r_ k_ => uP x_ fun o x_ => uP x_ fun o0 x_ => uP x_ fun o1 x_ => uP x_ fun o2 x_ => uP x_ fun o3 x_ => uP x_ fun o4 x_ => uP x_ fun o5 x_ => uP x_ fun t1000001 x_ => k_ 0 (Shape.inj circ_line.c228679x0 (o, o0, o1, o2, o3, o4, o5, r_, ())))
def circ_line.c240967 {ρ : Type} (o0 : Int) (o4 : Int) (t1000001 : List (Int)) (k_ : List (Int) → Option ρ) : Option ρ :=
  br (o0 == (5 : Int))
   (bnd (W.strings_Builder_WriteString (Prod.fst (uP (uP (Array.toList (ByteArray.data (ByteArray.mk #[(32 : UInt8), (116 : UInt8), (111 : UInt8)])), ()) fun u r ↦ (u, ())) fun u r ↦ (u, uP (t1000001, ()) fun u r ↦ (u, ())))) (Prod.fst (Prod.snd (uP (uP (Array.toList (ByteArray.data (ByteArray.mk #[(32 : UInt8), (116 : UInt8), (111 : UInt8)])), ()) fun u r ↦ (u, ())) fun u r ↦ (u, uP (t1000001, ()) fun u r ↦ (u, ())))))) fun y =>
    bnd (W.circ_line_1 (Prod.fst (uP (uP ([o4], ()) fun u r ↦ (u, ())) fun u r ↦ (u, uP (Prod.fst y.2.2, ()) fun u r ↦ (u, ())))) (Prod.fst (Prod.snd (uP (uP ([o4], ()) fun u r ↦ (u, ())) fun u r ↦ (u, uP (Prod.fst y.2.2, ()) fun u r ↦ (u, ())))))) fun y_1 =>
    k_ (Prod.fst y_1))
   (k_ t1000001)
def circ_line.c240967s : Shape := ⟨[(0, q17), (1, q2), (2, q5), (3, q24), (4, q25)], [(2, q26), (3, q6), (7, q27), (1000000, q18), (1000001, q19)]⟩
def circ_line.c240967x0 : Shape := ⟨[(0, q17), (1, q2), (2, q5), (3, q24), (4, q25)], [(2, q26), (3, q6), (7, q27), (1000000, q18), (1000001, q19)]⟩
def circ_line.c240967r : Ck := Ck.of (T := List (Int)) circ_line.c240967s (fun ρ x_ k_ => uP x_ fun o x_ => uP x_ fun o0 x_ => uP x_ fun o1 x_ => uP x_ fun o2 x_ => uP x_ fun o3 x_ => uP x_ fun o4 x_ => uP x_ fun o5 x_ => uP x_ fun t1000001 x_ => circ_line.c240967 o0 o4 t1000001 k_) (fun ρ x_ r_ k_ => uP x_ fun o x_ => uP x_ fun o0 x_ => uP x_ fun o1 x_ => uP x_ fun o2 x_ => uP x_ fun o3 x_ => uP x_ fun o4 x_ => uP x_ fun o5 x_ => uP x_ fun t1000001 x_ => k_ 0 (Shape.inj circ_line.c240967x0 (o, o0, o1, o2, o3, o4, o5, r_, ())))
def circ_line.c19 {ρ : Type} (v : Int) (t1000001 : List (Int)) (k_ : List (Int) → Option ρ) : Option ρ :=
  bnd (W.strconv_Itoa (IntKind.wrap IntKind.i64 (IntKind.wrap IntKind.i64 ((0 : Int) - v) - (1 : Int)))) fun y =>
  bnd (okIf (decide (List.length (Array.toList (ByteArray.data (ByteArray.mk #[(32 : UInt8), (33 : UInt8)]))) + List.length y ≤ (9223372036854775807 : Nat)))) fun y_1 =>
  bnd (W.strings_Builder_WriteString (Prod.fst (uP (uP (Array.toList (ByteArray.data (ByteArray.mk #[(32 : UInt8), (33 : UInt8)])) ++ y, ()) fun u r ↦ (u, ())) fun u r ↦ (u, uP (t1000001, ()) fun u r ↦ (u, ())))) (Prod.fst (Prod.snd (uP (uP (Array.toList (ByteArray.data (ByteArray.mk #[(32 : UInt8), (33 : UInt8)])) ++ y, ()) fun u r ↦ (u, ())) fun u r ↦ (u, uP (t1000001, ()) fun u r ↦ (u, ())))))) fun y_2 =>
  k_ (Prod.fst y_2.2.2)
def circ_line.c19s : Shape := ⟨[(0, q17), (1, q2), (2, q5), (3, q24), (4, q25), (6, q0), (56, q8), (57, q0), (58, q0)], [(2, q26), (3, q6), (7, q27), (1000000, q18), (1000001, q19)]⟩
def circ_line.c19x0 : Shape := ⟨[(0, q17), (1, q2), (2, q5), (3, q24), (4, q25), (6, q0), (56, q8), (57, q0), (58, q0)], [(2, q26), (3, q6), (7, q27), (1000000, q18), (1000001, q19)]⟩
def circ_line.c19r : Ck := Ck.of (T := List (Int)) circ_line.c19s (fun ρ x_ k_ => uP x_ fun o x_ => uP x_ fun v x_ => uP x_ fun t56 x_ => uP x_ fun t57 x_ => uP x_ fun t58 x_ => uP x_ fun o0 x_ => uP x_ fun o1 x_ => uP x_ fun o2 x_ => uP x_ fun o3 x_ => uP x_ fun o4 x_ => uP x_ fun o5 x_ => uP x_ fun t1000001 x_ => circ_line.c19 v t1000001 k_) (fun ρ x_ r_ k_ => uP x_ fun o x_ => uP x_ fun v x_ => uP x_ fun t56 x_ => uP x_ fun t57 x_ => uP x_ fun t58 x_ => uP x_ fun o0 x_ => uP x_ fun o1 x_ => uP x_ fun o2 x_ => uP x_ fun o3 x_ => uP x_ fun o4 x_ => uP x_ fun o5 x_ => uP x_ fun t1000001 x_ => k_ 0 (Shape.inj circ_line.c19x0 (o, v, t56, t57, t58, o0, o1, o2, o3, o4, o5, r_, ())))
def circ_line.c269640 {ρ : Type} (t56 : List (Int)) (t58 : Int) (t1000001 : List (Int)) (k_ : List (Int) → Option ρ) : Option ρ :=
  bnd (idx t56 t58) fun y =>
  br (decide (y < (0 : Int)))
   (bnd (W.circ_line.c19 y t1000001 some) fun y_1 =>
    k_ y_1)
   (bnd (W.circ_line_1 (Prod.fst (uP (uP ([IntKind.wrap IntKind.i64 (y - (1 : Int))], ()) fun u r ↦ (u, ())) fun u r ↦ (u, uP (t1000001, ()) fun u r ↦ (u, ())))) (Prod.fst (Prod.snd (uP (uP ([IntKind.wrap IntKind.i64 (y - (1 : Int))], ()) fun u r ↦ (u, ())) fun u r ↦ (u, uP (t1000001, ()) fun u r ↦ (u, ())))))) fun y_2 =>
    k_ (Prod.fst y_2))
def circ_line.c269640s : Shape := ⟨[(0, q17), (1, q2), (2, q5), (3, q24), (4, q25), (56, q8), (57, q0), (58, q0)], [(2, q26), (3, q6), (7, q27), (1000000, q18), (1000001, q19)]⟩
def circ_line.c269640x0 : Shape := ⟨[(0, q17), (1, q2), (2, q5), (3, q24), (4, q25), (56, q8), (57, q0), (58, q0)], [(2, q26), (3, q6), (7, q27), (1000000, q18), (1000001, q19)]⟩
def circ_line.c269640r : Ck := Ck.of (T := List (Int)) circ_line.c269640s (fun ρ x_ k_ => uP x_ fun o x_ => uP x_ fun t56 x_ => uP x_ fun t57 x_ => uP x_ fun t58 x_ => uP x_ fun o0 x_ => uP x_ fun o1 x_ => uP x_ fun o2 x_ => uP x_ fun o3 x_ => uP x_ fun o4 x_ => uP x_ fun o5 x_ => uP x_ fun t1000001 x_ => circ_line.c269640 t56 t58 t1000001 k_) (fun ρ x_ r_ k_ => uP x_ fun o x_ => uP x_ fun t56 x_ => uP x_ fun t57 x_ => uP x_ fun t58 x_ => uP x_ fun o0 x_ => uP x_ fun o1 x_ => uP x_ fun o2 x_ => uP x_ fun o3 x_ => uP x_ fun o4 x_ => uP x_ fun o5 x_ => uP x_ fun t1000001 x_ => k_ 0 (Shape.inj circ_line.c269640x0 (o, t56, t57, t58, o0, o1, o2, o3, o4, o5, r_, ())))
def circ_line.c100016 {ρ : Type} (t56 : List (Int)) (t57 : Int) (t58 : Int) (t1000001 : List (Int)) (k_ : ((Int) × (List Int)) ⊕ ((Int) × (List Int)) → Option ρ) : Option ρ :=
  br (decide (t58 < t57))
   (bnd (W.circ_line.c269640 t56 t58 t1000001 some) fun y =>
    k_ (.inl ((IntKind.wrap IntKind.i64 (t58 + (1 : Int))), y)))
   (k_ (.inr (t58, t1000001)))
def circ_line.c100016s : Shape := ⟨[(0, q17), (1, q2), (2, q5), (3, q24), (4, q25), (56, q8), (57, q0), (58, q0)], [(2, q26), (3, q6), (7, q27), (1000000, q18), (1000001, q19)]⟩
def circ_line.c100016x0 : Shape := ⟨[(0, q17), (1, q2), (2, q5), (3, q24), (4, q25), (56, q8), (57, q0), (58, q0)], [(2, q26), (3, q6), (7, q27), (1000000, q18), (1000001, q19)]⟩
def circ_line.c100016r : Ck := Ck.ofLoop (S := (Int) × (List Int)) (T := (Int) × (List Int)) circ_line.c100016s (fun x_ => uP x_ fun o x_ => uP x_ fun t56 x_ => uP x_ fun t57 x_ => uP x_ fun t58 x_ => uP x_ fun o0 x_ => uP x_ fun o1 x_ => uP x_ fun o2 x_ => uP x_ fun o3 x_ => uP x_ fun o4 x_ => uP x_ fun o5 x_ => uP x_ fun t1000001 x_ => (t58, t1000001)) (fun ρ x_ s_ k_ => uP x_ fun o x_ => uP x_ fun t56 x_ => uP x_ fun t57 x_ => uP x_ fun t58 x_ => uP x_ fun o0 x_ => uP x_ fun o1 x_ => uP x_ fun o2 x_ => uP x_ fun o3 x_ => uP x_ fun o4 x_ => uP x_ fun o5 x_ => uP x_ fun t1000001 x_ => circ_line.c100016 t56 t57 s_.1 s_.2 k_) (fun ρ x_ r_ k_ => uP x_ fun o x_ => uP x_ fun t56 x_ => uP x_ fun t57 x_ => uP x_ fun t58 x_ => uP x_ fun o0 x_ => uP x_ fun o1 x_ => uP x_ fun o2 x_ => uP x_ fun o3 x_ => uP x_ fun o4 x_ => uP x_ fun o5 x_ => uP x_ fun t1000001 x_ => k_ 2 (Shape.inj circ_line.c100016x0 (o, t56, t57, r_.1, o0, o1, o2, o3, o4, o5, r_.2, ())))
def circ_line.c253274 {ρ : Type} (o5 : List (Int)) (t1000001 : List (Int)) (k_ : List (Int) → Option ρ) : Option ρ :=
  br (decide ((↑(List.length o5) : Int) > (0 : Int)))
   (bnd (W.strings_Builder_WriteString (Prod.fst (uP (uP (Array.toList (ByteArray.data (ByteArray.mk #[(32 : UInt8), (105 : UInt8), (102 : UInt8)])), ()) fun u r ↦ (u, ())) fun u r ↦ (u, uP (t1000001, ()) fun u r ↦ (u, ())))) (Prod.fst (Prod.snd (uP (uP (Array.toList (ByteArray.data (ByteArray.mk #[(32 : UInt8), (105 : UInt8), (102 : UInt8)])), ()) fun u r ↦ (u, ())) fun u r ↦ (u, uP (t1000001, ()) fun u r ↦ (u, ())))))) fun y =>
    bnd (iter (fun s ↦ W.circ_line.c100016 o5 (↑(List.length o5) : Int) (Prod.fst s) (Prod.snd s) some) ((0 : Int), Prod.fst y.2.2)) fun y_1 =>
    k_ (Prod.snd y_1))
   (k_ t1000001)
def circ_line.c253274s : Shape := ⟨[(0, q17), (1, q2), (2, q5), (3, q24), (4, q25)], [(2, q26), (3, q6), (7, q27), (1000000, q18), (1000001, q19)]⟩
def circ_line.c253274x0 : Shape := ⟨[(0, q17), (1, q2), (2, q5), (3, q24), (4, q25)], [(2, q26), (3, q6), (7, q27), (1000000, q18), (1000001, q19)]⟩
def circ_line.c253274r : Ck := Ck.of (T := List (Int)) circ_line.c253274s (fun ρ x_ k_ => uP x_ fun o x_ => uP x_ fun o0 x_ => uP x_ fun o1 x_ => uP x_ fun o2 x_ => uP x_ fun o3 x_ => uP x_ fun o4 x_ => uP x_ fun o5 x_ => uP x_ fun t1000001 x_ => circ_line.c253274 o5 t1000001 k_) (fun ρ x_ r_ k_ => uP x_ fun o x_ => uP x_ fun o0 x_ => uP x_ fun o1 x_ => uP x_ fun o2 x_ => uP x_ fun o3 x_ => uP x_ fun o4 x_ => uP x_ fun o5 x_ => uP x_ fun t1000001 x_ => k_ 0 (Shape.inj circ_line.c253274x0 (o, o0, o1, o2, o3, o4, o5, r_, ())))
def circ_line (o : (Int) × ((Int) × ((List Int) × ((Int) × ((Int) × (List Int)))))) (t1000001 : List (Int)) : Option ((List Int) × Unit) :=
  bnd (W.circ_line.c2 (Prod.fst o) t1000001 some) fun y =>
  bnd (W.circ_line.c212293 (Prod.fst o) (Prod.fst (Prod.snd o)) y some) fun y_1 =>
  bnd (W.circ_line.c220485 (Prod.fst o) (Prod.fst (Prod.snd (Prod.snd (Prod.snd o)))) y_1 some) fun y_2 =>
  bnd (W.circ_line.c228679 (Prod.fst (Prod.snd (Prod.snd o))) y_2 some) fun y_3 =>
  bnd (W.circ_line.c240967 (Prod.fst o) (Prod.fst (Prod.snd (Prod.snd (Prod.snd (Prod.snd o))))) y_3 some) fun y_4 =>
  bnd (W.circ_line.c253274 (Prod.snd (Prod.snd (Prod.snd (Prod.snd (Prod.snd o))))) y_4 some) fun y_5 =>
  bnd (W.strings_Builder_WriteByte (Prod.fst (uP (uP ((10 : Int), ()) fun u r ↦ (u, ())) fun u r ↦ (u, uP (y_5, ()) fun u r ↦ (u, ())))) (Prod.fst (Prod.snd (uP (uP ((10 : Int), ()) fun u r ↦ (u, ())) fun u r ↦ (u, uP (y_5, ()) fun u r ↦ (u, ())))))) fun y_6 =>
  some (uP (Prod.fst y_6.2, ()) fun u r ↦ (u, ()))
def circ_line.mc : MCallee := ⟨56, circ_line.pre, circ_line.post, fun x_ => circ_line x_.1 x_.2.1⟩
def circ_line.G : Env := ⟨79, tab, [(75, circ_word.ce), (68, circ_turns.ce), (55, strconv_Itoa.ce)], [0, 1, 2, 3, 4, 6, 15, 23, 32, 41, 52, 56, 57, 58, 59, 63], [2, 1002, 1000000, 1000001], [(19, [⟨[], [], [65, 66, 67, 68, 69], []⟩, ⟨[], [], [64], []⟩, ⟨[1], [], [64], []⟩, ⟨[2, 1], [], [64], []⟩, ⟨[3, 2, 1], [], [64], []⟩, ⟨[4, 3, 2, 1], [], [64], []⟩, ⟨[0, 5, 4, 3, 2, 1], [1000001, 1000000], [], []⟩]),
  (2, [⟨[], [], [9, 10, 11], []⟩, ⟨[], [], [8], []⟩, ⟨[1], [], [8], []⟩, ⟨[2, 1], [], [8], []⟩, ⟨[0, 3, 2, 1], [1000001, 1000000], [], []⟩])], [(253274, circ_line.c253274r), (100016, circ_line.c100016r), (269640, circ_line.c269640r), (19, circ_line.c19r), (240967, circ_line.c240967r), (228679, circ_line.c228679r), (220485, circ_line.c220485r), (212293, circ_line.c212293r), (2, circ_line.c2r)], [(54, strings_Builder_WriteString.mc), (76, strings_Builder_WriteByte.mc), (74, circ_line_1.mc)], tab_eqs⟩
theorem circ_line.eq (x_ : densU circ_line.mc.pre.tys) : denM circ_line.G Go.Proofs.Tryd.f56 circ_line.mc.pre circ_line.mc.post x_ = circ_line.mc.F x_ := by kernel_rfl
theorem circ_line.p0 : PieceOk circ_line.G (pieceAt (pieces circ_line.G.cks (bodyOf Go.Proofs.Tryd.f56)) 0).1 (pieceAt (pieces circ_line.G.cks (bodyOf Go.Proofs.Tryd.f56)) 0).2 :=
  region_ok (s := circ_line.c2r) (by kernel_rfl) (by kernel_rfl) (sums_of (sh := circ_line.c2s) (fun ρ x_ k_ => (nat_bnd fun _ => (nat_bnd fun _ => nat_leaf))) (fun ρ x_ t k => (by kernel_rfl)) (fun x_ => by kernel_rfl))
theorem circ_line.p1 : PieceOk circ_line.G (pieceAt (pieces circ_line.G.cks (bodyOf Go.Proofs.Tryd.f56)) 1).1 (pieceAt (pieces circ_line.G.cks (bodyOf Go.Proofs.Tryd.f56)) 1).2 :=
  join_ok (s := circ_line.c212293r) (by kernel_rfl) (by kernel_rfl) (sums_of (sh := circ_line.c212293s) (fun ρ x_ k_ => (nat_bnd fun _ => (nat_br (nat_bnd fun _ => nat_leaf) nat_leaf))) (fun ρ x_ t k => (by kernel_rfl)) (fun x_ => by kernel_rfl))
theorem circ_line.p2 : PieceOk circ_line.G (pieceAt (pieces circ_line.G.cks (bodyOf Go.Proofs.Tryd.f56)) 2).1 (pieceAt (pieces circ_line.G.cks (bodyOf Go.Proofs.Tryd.f56)) 2).2 :=
  join_ok (s := circ_line.c220485r) (by kernel_rfl) (by kernel_rfl) (sums_of (sh := circ_line.c220485s) (fun ρ x_ k_ => (nat_br (nat_bnd fun _ => nat_leaf) nat_leaf)) (fun ρ x_ t k => (by kernel_rfl)) (fun x_ => by kernel_rfl))
theorem circ_line.p3 : PieceOk circ_line.G (pieceAt (pieces circ_line.G.cks (bodyOf Go.Proofs.Tryd.f56)) 3).1 (pieceAt (pieces circ_line.G.cks (bodyOf Go.Proofs.Tryd.f56)) 3).2 :=
  join_ok (s := circ_line.c228679r) (by kernel_rfl) (by kernel_rfl) (sums_of (sh := circ_line.c228679s) (fun ρ x_ k_ => (nat_br (nat_bnd fun _ => (nat_bnd fun _ => nat_leaf)) nat_leaf)) (fun ρ x_ t k => (by kernel_rfl)) (fun x_ => by kernel_rfl))
theorem circ_line.p4 : PieceOk circ_line.G (pieceAt (pieces circ_line.G.cks (bodyOf Go.Proofs.Tryd.f56)) 4).1 (pieceAt (pieces circ_line.G.cks (bodyOf Go.Proofs.Tryd.f56)) 4).2 :=
  join_ok (s := circ_line.c240967r) (by kernel_rfl) (by kernel_rfl) (sums_of (sh := circ_line.c240967s) (fun ρ x_ k_ => (nat_br (nat_bnd fun _ => (nat_bnd fun _ => nat_leaf)) nat_leaf)) (fun ρ x_ t k => (by kernel_rfl)) (fun x_ => by kernel_rfl))
theorem circ_line.p5 : PieceOk circ_line.G (pieceAt (pieces circ_line.G.cks (bodyOf Go.Proofs.Tryd.f56)) 5).1 (pieceAt (pieces circ_line.G.cks (bodyOf Go.Proofs.Tryd.f56)) 5).2 :=
  join_ok (s := circ_line.c253274r) (by kernel_rfl) (by kernel_rfl) (sums_of (sh := circ_line.c253274s) (fun ρ x_ k_ => (nat_br (nat_bnd fun _ => (nat_bnd fun _ => nat_leaf)) nat_leaf)) (fun ρ x_ t k => (by kernel_rfl)) (fun x_ => by kernel_rfl))
theorem circ_line.p6 : PieceOk circ_line.G (pieceAt (pieces circ_line.G.cks (bodyOf Go.Proofs.Tryd.f56)) 6).1 (pieceAt (pieces circ_line.G.cks (bodyOf Go.Proofs.Tryd.f56)) 6).2 :=
  loop_ok (s := circ_line.c100016r) (by kernel_rfl) (by kernel_rfl) (loops_of (sh := circ_line.c100016s) (I := fun x_ s_ => (x_.1, x_.2.1, x_.2.2.1, s_.1, x_.2.2.2.2.1, x_.2.2.2.2.2.1, x_.2.2.2.2.2.2.1, x_.2.2.2.2.2.2.2.1, x_.2.2.2.2.2.2.2.2.1, x_.2.2.2.2.2.2.2.2.2.1, s_.2, ())) (fun x_ => rfl) (fun ρ x_ s_ k_ => (nat_br (nat_bnd fun _ => nat_leaf) nat_leaf)) (fun ρ x_ t k => (by kernel_rfl)) (fun x_ s => by kernel_rfl))
theorem circ_line.p7 : PieceOk circ_line.G (pieceAt (pieces circ_line.G.cks (bodyOf Go.Proofs.Tryd.f56)) 7).1 (pieceAt (pieces circ_line.G.cks (bodyOf Go.Proofs.Tryd.f56)) 7).2 :=
  join_ok (s := circ_line.c269640r) (by kernel_rfl) (by kernel_rfl) (sums_of (sh := circ_line.c269640s) (fun ρ x_ k_ => (nat_bnd fun _ => (nat_br (nat_bnd fun _ => nat_leaf) (nat_bnd fun _ => nat_leaf)))) (fun ρ x_ t k => (by kernel_rfl)) (fun x_ => by kernel_rfl))
theorem circ_line.p8 : PieceOk circ_line.G (pieceAt (pieces circ_line.G.cks (bodyOf Go.Proofs.Tryd.f56)) 8).1 (pieceAt (pieces circ_line.G.cks (bodyOf Go.Proofs.Tryd.f56)) 8).2 :=
  region_ok (s := circ_line.c19r) (by kernel_rfl) (by kernel_rfl) (sums_of (sh := circ_line.c19s) (fun ρ x_ k_ => (nat_bnd fun _ => (nat_bnd fun _ => (nat_bnd fun _ => nat_leaf)))) (fun ρ x_ t k => (by kernel_rfl)) (fun x_ => by kernel_rfl))
theorem circ_line.ok : MOk Go.Proofs.Tryd.prog 56 circ_line.mc := fnm_ok (G := circ_line.G) tab_ok mixed Go.Proofs.Tryd.func56 ⟨(fns_cons circ_word.ok (fns_cons circ_turns.ok (fns_cons strconv_Itoa.ok fns_nil))), (mfns_cons strings_Builder_WriteString.ok (mfns_cons strings_Builder_WriteByte.ok (mfns_cons circ_line_1.ok mfns_nil))), tab_eqs_ok⟩ (m := 9) (by kernel_rfl) ⟨⟨⟨⟨⟨⟨⟨⟨⟨trivial, circ_line.p0⟩, circ_line.p1⟩, circ_line.p2⟩, circ_line.p3⟩, circ_line.p4⟩, circ_line.p5⟩, circ_line.p6⟩, circ_line.p7⟩, circ_line.p8⟩ (by kernel_rfl) circ_line.eq
abbrev q28 : SD := .one (.ref 4 0)
abbrev q29 : SD := .one (.ref 5 0)
abbrev q30 : SO := .box [.selfp 5 72, .own 2005 0]
def circ_Print.c3 {ρ : Type}  (k_ : Unit → Option ρ) : Option ρ :=
  k_ ()
def circ_Print.c3s : Shape := ⟨[(0, q10), (1, q11), (2, q14), (3, q24), (4, q28)], [(1, q4), (3, q12), (4, q12)]⟩
def circ_Print.c3x0 : Shape := ⟨[(0, q10), (1, q11), (2, q14), (3, q24), (4, q28)], [(1, q4), (3, q12), (4, q12)]⟩
def circ_Print.c3r : Ck := Ck.of (T := Unit) circ_Print.c3s (fun ρ x_ k_ => uP x_ fun c x_ => uP x_ fun t2 x_ => uP x_ fun c0 x_ => uP x_ fun c1 x_ => uP x_ fun c2 x_ => uP x_ fun t30 x_ => uP x_ fun t31 x_ => uP x_ fun f0 x_ => uP x_ fun f1 x_ => circ_Print.c3  k_) (fun ρ x_ r_ k_ => uP x_ fun c x_ => uP x_ fun t2 x_ => uP x_ fun c0 x_ => uP x_ fun c1 x_ => uP x_ fun c2 x_ => uP x_ fun t30 x_ => uP x_ fun t31 x_ => uP x_ fun f0 x_ => uP x_ fun f1 x_ => k_ 0 (Shape.inj circ_Print.c3x0 (c, (Array.toList (ByteArray.data (ByteArray.mk #[]))), c0, c1, c2, f0, f1, f0, f1, ())))
def circ_Print.c5 {ρ : Type} (c0 : Int) (c1 : Int) (t2005 : List (Int)) (k_ : List (Int) → Option ρ) : Option ρ :=
  bnd (W.strconv_Itoa c0) fun y =>
  bnd (okIf (decide (List.length (Array.toList (ByteArray.data (ByteArray.mk #[(113 : UInt8), (117 : UInt8), (98 : UInt8), (105 : UInt8), (116 : UInt8), (115 : UInt8), (32 : UInt8)]))) + List.length y ≤ (9223372036854775807 : Nat)))) fun y_1 =>
  bnd (okIf (decide (List.length (Array.toList (ByteArray.data (ByteArray.mk #[(113 : UInt8), (117 : UInt8), (98 : UInt8), (105 : UInt8), (116 : UInt8), (115 : UInt8), (32 : UInt8)])) ++ y) + List.length (Array.toList (ByteArray.data (ByteArray.mk #[(32 : UInt8), (98 : UInt8), (105 : UInt8), (116 : UInt8), (115 : UInt8), (32 : UInt8)]))) ≤ (9223372036854775807 : Nat)))) fun y_2 =>
  bnd (W.strconv_Itoa c1) fun y_3 =>
  bnd (okIf (decide (List.length (Array.toList (ByteArray.data (ByteArray.mk #[(113 : UInt8), (117 : UInt8), (98 : UInt8), (105 : UInt8), (116 : UInt8), (115 : UInt8), (32 : UInt8)])) ++ y ++ Array.toList (ByteArray.data (ByteArray.mk #[(32 : UInt8), (98 : UInt8), (105 : UInt8), (116 : UInt8), (115 : UInt8), (32 : UInt8)]))) + List.length y_3 ≤ (9223372036854775807 : Nat)))) fun y_4 =>
  bnd (okIf (decide (List.length (Array.toList (ByteArray.data (ByteArray.mk #[(113 : UInt8), (117 : UInt8), (98 : UInt8), (105 : UInt8), (116 : UInt8), (115 : UInt8), (32 : UInt8)])) ++ y ++ Array.toList (ByteArray.data (ByteArray.mk #[(32 : UInt8), (98 : UInt8), (105 : UInt8), (116 : UInt8), (115 : UInt8), (32 : UInt8)])) ++ y_3) + List.length (Array.toList (ByteArray.data (ByteArray.mk #[(10 : UInt8)]))) ≤ (9223372036854775807 : Nat)))) fun y_5 =>
  bnd (W.strings_Builder_WriteString (Prod.fst (uP (uP (Array.toList (ByteArray.data (ByteArray.mk #[(113 : UInt8), (117 : UInt8), (98 : UInt8), (105 : UInt8), (116 : UInt8), (115 : UInt8), (32 : UInt8)])) ++ y ++ Array.toList (ByteArray.data (ByteArray.mk #[(32 : UInt8), (98 : UInt8), (105 : UInt8), (116 : UInt8), (115 : UInt8), (32 : UInt8)])) ++ y_3 ++ Array.toList (ByteArray.data (ByteArray.mk #[(10 : UInt8)])), ()) fun u r ↦ (u, ())) fun u r ↦ (u, uP (t2005, ()) fun u r ↦ (u, ())))) (Prod.fst (Prod.snd (uP (uP (Array.toList (ByteArray.data (ByteArray.mk #[(113 : UInt8), (117 : UInt8), (98 : UInt8), (105 : UInt8), (116 : UInt8), (115 : UInt8), (32 : UInt8)])) ++ y ++ Array.toList (ByteArray.data (ByteArray.mk #[(32 : UInt8), (98 : UInt8), (105 : UInt8), (116 : UInt8), (115 : UInt8), (32 : UInt8)])) ++ y_3 ++ Array.toList (ByteArray.data (ByteArray.mk #[(10 : UInt8)])), ()) fun u r ↦ (u, ())) fun u r ↦ (u, uP (t2005, ()) fun u r ↦ (u, ())))))) fun y_6 =>
  k_ (Prod.fst y_6.2.2)
def circ_Print.c5s : Shape := ⟨[(0, q10), (1, q11), (2, q14), (3, q24), (4, q28), (5, q29)], [(1, q4), (3, q12), (4, q12), (5, q30), (2005, q19)]⟩
def circ_Print.c5x0 : Shape := ⟨[(0, q10), (1, q11), (2, q14), (3, q24), (4, q28), (5, q29)], [(1, q4), (3, q12), (4, q12), (5, q30), (2005, q19)]⟩
def circ_Print.c5r : Ck := Ck.of (T := List (Int)) circ_Print.c5s (fun ρ x_ k_ => uP x_ fun c x_ => uP x_ fun t2 x_ => uP x_ fun c0 x_ => uP x_ fun c1 x_ => uP x_ fun c2 x_ => uP x_ fun t30 x_ => uP x_ fun t31 x_ => uP x_ fun f0 x_ => uP x_ fun f1 x_ => uP x_ fun t2005 x_ => circ_Print.c5 c0 c1 t2005 k_) (fun ρ x_ r_ k_ => uP x_ fun c x_ => uP x_ fun t2 x_ => uP x_ fun c0 x_ => uP x_ fun c1 x_ => uP x_ fun c2 x_ => uP x_ fun t30 x_ => uP x_ fun t31 x_ => uP x_ fun f0 x_ => uP x_ fun f1 x_ => uP x_ fun t2005 x_ => k_ 0 (Shape.inj circ_Print.c5x0 (c, t2, c0, c1, c2, t30, t31, f0, f1, r_, ())))
def circ_Print.c100007 {ρ : Type} (t26 : List ((Int) × ((Int) × ((List Int) × ((Int) × ((Int) × (List Int))))))) (t27 : Int) (t28 : Int) (t2005 : List (Int)) (k_ : ((Int) × (List Int)) ⊕ ((Int) × (List Int)) → Option ρ) : Option ρ :=
  br (decide (t28 < t27))
   (bnd (idx t26 t28) fun y =>
    bnd (W.circ_line (Prod.fst (uP (uP ((Prod.fst y, Prod.fst (Prod.snd y), Prod.fst (Prod.snd (Prod.snd y)), Prod.fst (Prod.snd (Prod.snd (Prod.snd y))), Prod.fst (Prod.snd (Prod.snd (Prod.snd (Prod.snd y)))), Prod.snd (Prod.snd (Prod.snd (Prod.snd (Prod.snd y))))), ()) fun u r ↦ (u, ())) fun u r ↦ (u, uP (t2005, ()) fun u r ↦ (u, ())))) (Prod.fst (Prod.snd (uP (uP ((Prod.fst y, Prod.fst (Prod.snd y), Prod.fst (Prod.snd (Prod.snd y)), Prod.fst (Prod.snd (Prod.snd (Prod.snd y))), Prod.fst (Prod.snd (Prod.snd (Prod.snd (Prod.snd y)))), Prod.snd (Prod.snd (Prod.snd (Prod.snd (Prod.snd y))))), ()) fun u r ↦ (u, ())) fun u r ↦ (u, uP (t2005, ()) fun u r ↦ (u, ())))))) fun y_1 =>
    k_ (.inl ((IntKind.wrap IntKind.i64 (t28 + (1 : Int))), (Prod.fst y_1))))
   (k_ (.inr (t28, t2005)))
def circ_Print.c100007s : Shape := ⟨[(0, q10), (1, q11), (2, q14), (3, q24), (4, q28), (5, q29), (26, q13), (27, q0), (28, q0)], [(1, q4), (3, q12), (4, q12), (5, q30), (2005, q19)]⟩
def circ_Print.c100007x0 : Shape := ⟨[(0, q10), (1, q11), (2, q14), (3, q24), (4, q28), (5, q29), (26, q13), (27, q0), (28, q0)], [(1, q4), (3, q12), (4, q12), (5, q30), (2005, q19)]⟩
def circ_Print.c100007r : Ck := Ck.ofLoop (S := (Int) × (List Int)) (T := (Int) × (List Int)) circ_Print.c100007s (fun x_ => uP x_ fun c x_ => uP x_ fun t2 x_ => uP x_ fun t26 x_ => uP x_ fun t27 x_ => uP x_ fun t28 x_ => uP x_ fun c0 x_ => uP x_ fun c1 x_ => uP x_ fun c2 x_ => uP x_ fun t30 x_ => uP x_ fun t31 x_ => uP x_ fun f0 x_ => uP x_ fun f1 x_ => uP x_ fun t2005 x_ => (t28, t2005)) (fun ρ x_ s_ k_ => uP x_ fun c x_ => uP x_ fun t2 x_ => uP x_ fun t26 x_ => uP x_ fun t27 x_ => uP x_ fun t28 x_ => uP x_ fun c0 x_ => uP x_ fun c1 x_ => uP x_ fun c2 x_ => uP x_ fun t30 x_ => uP x_ fun t31 x_ => uP x_ fun f0 x_ => uP x_ fun f1 x_ => uP x_ fun t2005 x_ => circ_Print.c100007 t26 t27 s_.1 s_.2 k_) (fun ρ x_ r_ k_ => uP x_ fun c x_ => uP x_ fun t2 x_ => uP x_ fun t26 x_ => uP x_ fun t27 x_ => uP x_ fun t28 x_ => uP x_ fun c0 x_ => uP x_ fun c1 x_ => uP x_ fun c2 x_ => uP x_ fun t30 x_ => uP x_ fun t31 x_ => uP x_ fun f0 x_ => uP x_ fun f1 x_ => uP x_ fun t2005 x_ => k_ 2 (Shape.inj circ_Print.c100007x0 (c, t2, t26, t27, r_.1, c0, c1, c2, t30, t31, f0, f1, r_.2, ())))
def circ_Print (c : (Int) × ((Int) × (List ((Int) × ((Int) × ((List Int) × ((Int) × ((Int) × (List Int))))))))) : Option ((List UInt8) × ((Int) × (Int))) :=
  bnd (W.circ_Check (Prod.fst c, Prod.fst (Prod.snd c), Prod.snd (Prod.snd c))) fun y =>
  br (Prod.fst y != (0 : Int))
   (bnd (W.circ_Print.c3 some) fun y_1 =>
    some (Array.toList (ByteArray.data (ByteArray.mk #[])), Prod.fst y, Prod.snd y))
   (bnd (W.circ_Print.c5 (Prod.fst c) (Prod.fst (Prod.snd c)) [] some) fun y_2 =>
    bnd (iter (fun s ↦ W.circ_Print.c100007 (Prod.snd (Prod.snd c)) (↑(List.length (Prod.snd (Prod.snd c))) : Int) (Prod.fst s) (Prod.snd s) some) ((0 : Int), y_2)) fun y_3 =>
    bnd (W.strings_Builder_String (Prod.fst (uP (Prod.snd y_3, ()) fun u r ↦ (u, ())))) fun y_4 =>
    some (Prod.fst y_4, (0 : Int), (0 : Int)))
def circ_Print.ce : Go.Ql.Callee := ⟨[(.st (.pair (.int .i64) (.pair (.int .i64) (.sl (.st (.pair (.int .i64) (.pair (.int .i64) (.pair (.sl (.int .i64)) (.pair (.int .i64) (.pair (.int .i64) (.sl (.int .i64))))))))))))], [.str, (.st (.pair (.int .i64) (.int .i64)))], fun x_ => circ_Print x_⟩
def circ_Print.G : Env := ⟨37, tab, [(14, circ_Check.ce), (55, strconv_Itoa.ce)], [0, 1, 2, 3, 4, 5, 7, 12, 26, 27, 28, 29], [5, 2005], [(5, [⟨[], [], [19, 20], []⟩, ⟨[0], [], [19, 20], []⟩, ⟨[1, 0], [], [19, 20], []⟩, ⟨[2, 1, 0], [], [19, 20, 21], []⟩, ⟨[3, 2, 1, 0], [], [19, 20, 21], []⟩, ⟨[], [], [14, 15, 16, 17, 18], []⟩, ⟨[5], [], [14, 15, 16, 17, 18], []⟩, ⟨[6, 5, 2, 1, 0], [], [17, 18], []⟩, ⟨[4, 3, 2, 1, 0, 7, 6, 5], [], [], []⟩, ⟨[8, 4, 3, 2, 1, 0, 7, 6, 5], [], [], []⟩, ⟨[9, 8, 4, 3, 2, 1, 0, 7, 6, 5], [2005, 5], [], []⟩]),
  (3, [⟨[], [], [2], []⟩, ⟨[], [], [13], []⟩, ⟨[0, 1], [3], [], []⟩])], [(100007, circ_Print.c100007r), (5, circ_Print.c5r), (3, circ_Print.c3r)], [(54, strings_Builder_WriteString.mc), (56, circ_line.mc), (57, strings_Builder_String.mc)], tab_eqs⟩
theorem circ_Print.eq (x_ : dens [(.st (.pair (.int .i64) (.pair (.int .i64) (.sl (.st (.pair (.int .i64) (.pair (.int .i64) (.pair (.sl (.int .i64)) (.pair (.int .i64) (.pair (.int .i64) (.sl (.int .i64))))))))))))]) : den circ_Print.G Go.Proofs.Tryd.f32 [(.st (.pair (.int .i64) (.pair (.int .i64) (.sl (.st (.pair (.int .i64) (.pair (.int .i64) (.pair (.sl (.int .i64)) (.pair (.int .i64) (.pair (.int .i64) (.sl (.int .i64))))))))))))] [.str, (.st (.pair (.int .i64) (.int .i64)))] x_ = circ_Print x_ := by kernel_rfl
theorem circ_Print.p0 : PieceOk circ_Print.G (pieceAt (pieces circ_Print.G.cks (bodyOf Go.Proofs.Tryd.f32)) 0).1 (pieceAt (pieces circ_Print.G.cks (bodyOf Go.Proofs.Tryd.f32)) 0).2 :=
  region_ok (s := circ_Print.c3r) (by kernel_rfl) (by kernel_rfl) (sums_of (sh := circ_Print.c3s) (fun ρ x_ k_ => nat_leaf) (fun ρ x_ t k => (by kernel_rfl)) (fun x_ => by kernel_rfl))
theorem circ_Print.p1 : PieceOk circ_Print.G (pieceAt (pieces circ_Print.G.cks (bodyOf Go.Proofs.Tryd.f32)) 1).1 (pieceAt (pieces circ_Print.G.cks (bodyOf Go.Proofs.Tryd.f32)) 1).2 :=
  region_ok (s := circ_Print.c5r) (by kernel_rfl) (by kernel_rfl) (sums_of (sh := circ_Print.c5s) (fun ρ x_ k_ => (nat_bnd fun _ => (nat_bnd fun _ => (nat_bnd fun _ => (nat_bnd fun _ => (nat_bnd fun _ => (nat_bnd fun _ => (nat_bnd fun _ => nat_leaf)))))))) (fun ρ x_ t k => (by kernel_rfl)) (fun x_ => by kernel_rfl))
theorem circ_Print.p2 : PieceOk circ_Print.G (pieceAt (pieces circ_Print.G.cks (bodyOf Go.Proofs.Tryd.f32)) 2).1 (pieceAt (pieces circ_Print.G.cks (bodyOf Go.Proofs.Tryd.f32)) 2).2 :=
  loop_ok (s := circ_Print.c100007r) (by kernel_rfl) (by kernel_rfl) (loops_of (sh := circ_Print.c100007s) (I := fun x_ s_ => (x_.1, x_.2.1, x_.2.2.1, x_.2.2.2.1, s_.1, x_.2.2.2.2.2.1, x_.2.2.2.2.2.2.1, x_.2.2.2.2.2.2.2.1, x_.2.2.2.2.2.2.2.2.1, x_.2.2.2.2.2.2.2.2.2.1, x_.2.2.2.2.2.2.2.2.2.2.1, x_.2.2.2.2.2.2.2.2.2.2.2.1, s_.2, ())) (fun x_ => rfl) (fun ρ x_ s_ k_ => (nat_br (nat_bnd fun _ => (nat_bnd fun _ => nat_leaf)) nat_leaf)) (fun ρ x_ t k => (by kernel_rfl)) (fun x_ s => by kernel_rfl))
theorem circ_Print.ok : CalleeOk Go.Proofs.Tryd.prog 32 circ_Print.ce := fn_ok (G := circ_Print.G) tab_ok mixed Go.Proofs.Tryd.func32 ⟨(fns_cons circ_Check.ok (fns_cons strconv_Itoa.ok fns_nil)), (mfns_cons strings_Builder_WriteString.ok (mfns_cons circ_line.ok (mfns_cons strings_Builder_String.ok mfns_nil))), tab_eqs_ok⟩ (m := 3) (by kernel_rfl) ⟨⟨⟨trivial, circ_Print.p0⟩, circ_Print.p1⟩, circ_Print.p2⟩ (by kernel_rfl) circ_Print.eq
def Law_small  : Option ((Int) × ((Int) × (List ((Int) × ((Int) × ((List Int) × ((Int) × ((Int) × (List Int))))))))) :=
  some ((2 : Int), (1 : Int), [((3 : Int), (0 : Int), [], (0 : Int), (0 : Int), []), ((2 : Int), (0 : Int), [(0 : Int)], (1 : Int), (0 : Int), []), ((5 : Int), (0 : Int), [], (1 : Int), (0 : Int), [(-1 : Int)])])
def Law_small.ce : Go.Ql.Callee := ⟨[], [(.st (.pair (.int .i64) (.pair (.int .i64) (.sl (.st (.pair (.int .i64) (.pair (.int .i64) (.pair (.sl (.int .i64)) (.pair (.int .i64) (.pair (.int .i64) (.sl (.int .i64))))))))))))], fun x_ => Law_small⟩
def Law_small.G : Env := ⟨8, tab, [], [0], [], [], [], [], tab_eqs⟩
theorem Law_small.eq (x_ : dens []) : den Law_small.G Go.Proofs.Tryd.f39 [] [(.st (.pair (.int .i64) (.pair (.int .i64) (.sl (.st (.pair (.int .i64) (.pair (.int .i64) (.pair (.sl (.int .i64)) (.pair (.int .i64) (.pair (.int .i64) (.sl (.int .i64))))))))))))] x_ = Law_small := by kernel_rfl
theorem Law_small.ok : CalleeOk Go.Proofs.Tryd.prog 39 Law_small.ce := fn_ok (G := Law_small.G) tab_ok mixed Go.Proofs.Tryd.func39 ⟨fns_nil, mfns_nil, tab_eqs_ok⟩ (m := 0) (by kernel_rfl) trivial (by kernel_rfl) Law_small.eq
def Law_circBegun.c2 {ρ : Type} (t : List UInt8) (f0 : Int) (k_ : Bool → Option ρ) : Option ρ :=
  br (f0 == (0 : Int))
   (k_ (t == Array.toList (ByteArray.data (ByteArray.mk #[(113 : UInt8), (117 : UInt8), (98 : UInt8), (105 : UInt8), (116 : UInt8), (115 : UInt8), (32 : UInt8), (50 : UInt8), (32 : UInt8), (98 : UInt8), (105 : UInt8), (116 : UInt8), (115 : UInt8), (32 : UInt8), (49 : UInt8), (10 : UInt8), (104 : UInt8), (32 : UInt8), (48 : UInt8), (10 : UInt8), (120 : UInt8), (32 : UInt8), (49 : UInt8), (32 : UInt8), (111 : UInt8), (110 : UInt8), (32 : UInt8), (48 : UInt8), (10 : UInt8), (109 : UInt8), (101 : UInt8), (97 : UInt8), (115 : UInt8), (117 : UInt8), (114 : UInt8), (101 : UInt8), (32 : UInt8), (49 : UInt8), (32 : UInt8), (116 : UInt8), (111 : UInt8), (32 : UInt8), (48 : UInt8), (32 : UInt8), (105 : UInt8), (102 : UInt8), (32 : UInt8), (33 : UInt8), (48 : UInt8), (10 : UInt8)]))))
   (k_ false)
def Law_circBegun.c2s : Shape := ⟨[(0, q1), (1, q14), (2, q5)], [(2, q12)]⟩
def Law_circBegun.c2x0 : Shape := ⟨[(0, q1), (1, q14), (2, q5)], [(2, q12)]⟩
def Law_circBegun.c2r : Ck := Ck.of (T := Bool) Law_circBegun.c2s (fun ρ x_ k_ => uP x_ fun t0 x_ => uP x_ fun t x_ => uP x_ fun f0 x_ => uP x_ fun f1 x_ => Law_circBegun.c2 t f0 k_) (fun ρ x_ r_ k_ => uP x_ fun t0 x_ => uP x_ fun t x_ => uP x_ fun f0 x_ => uP x_ fun f1 x_ => k_ 0 (Shape.inj Law_circBegun.c2x0 (r_, t, f0, f1, ())))
def Law_circBegun  : Option (Bool) :=
  bnd W.Law_small fun y =>
  bnd (W.circ_Print y) fun y_1 =>
  bnd (W.Law_circBegun.c2 (Prod.fst y_1) (Prod.fst (Prod.snd y_1)) some) fun y_2 =>
  some y_2
def Law_circBegun.ce : Go.Ql.Callee := ⟨[], [.bool], fun x_ => Law_circBegun⟩
def Law_circBegun.G : Env := ⟨15, tab, [(39, Law_small.ce), (32, circ_Print.ce)], [0, 1, 2], [], [], [(2, Law_circBegun.c2r)], [], tab_eqs⟩
theorem Law_circBegun.eq (x_ : dens []) : den Law_circBegun.G Go.Proofs.Tryd.f13 [] [.bool] x_ = Law_circBegun := by kernel_rfl
theorem Law_circBegun.p0 : PieceOk Law_circBegun.G (pieceAt (pieces Law_circBegun.G.cks (bodyOf Go.Proofs.Tryd.f13)) 0).1 (pieceAt (pieces Law_circBegun.G.cks (bodyOf Go.Proofs.Tryd.f13)) 0).2 :=
  region_ok (s := Law_circBegun.c2r) (by kernel_rfl) (by kernel_rfl) (sums_of (sh := Law_circBegun.c2s) (fun ρ x_ k_ => (nat_br nat_leaf nat_leaf)) (fun ρ x_ t k => (by kernel_rfl)) (fun x_ => by kernel_rfl))
theorem Law_circBegun.ok : CalleeOk Go.Proofs.Tryd.prog 13 Law_circBegun.ce := fn_ok (G := Law_circBegun.G) tab_ok mixed Go.Proofs.Tryd.func13 ⟨(fns_cons Law_small.ok (fns_cons circ_Print.ok fns_nil)), mfns_nil, tab_eqs_ok⟩ (m := 1) (by kernel_rfl) ⟨trivial, Law_circBegun.p0⟩ (by kernel_rfl) Law_circBegun.eq
abbrev q32 : SO := .arr 0 false 3 (.int .i64)
abbrev q42 : SD := .one (.ref 7 0)
abbrev q44 : SO := .arr 0 false 57 (.st (.pair (.int .i64) (.pair (.int .i64) (.pair (.sl (.int .i64)) (.pair (.int .i64) (.pair (.int .i64) (.sl (.int .i64))))))))
abbrev q45 : SD := .one (.ref 6 0)
def R_rfault (code : Int) (t1 : Int) : Option ((Int) × (Int)) :=
  some (code, t1)
def R_rfault.ce : Go.Ql.Callee := ⟨[(.int .i64), (.int .i64)], [(.st (.pair (.int .i64) (.int .i64)))], fun x_ => R_rfault x_.1 x_.2⟩
def R_rfault.G : Env := ⟨8, tab, [], [0, 1, 4], [], [], [], [], tab_eqs⟩
theorem R_rfault.eq (x_ : dens [(.int .i64), (.int .i64)]) : den R_rfault.G Go.Proofs.Tryd.f42 [(.int .i64), (.int .i64)] [(.st (.pair (.int .i64) (.int .i64)))] x_ = R_rfault x_.1 x_.2 := by kernel_rfl
theorem R_rfault.ok : CalleeOk Go.Proofs.Tryd.prog 42 R_rfault.ce := fn_ok (G := R_rfault.G) tab_ok mixed Go.Proofs.Tryd.func42 ⟨fns_nil, mfns_nil, tab_eqs_ok⟩ (m := 0) (by kernel_rfl) trivial (by kernel_rfl) R_rfault.eq
def R_member.c100002 {ρ : Type} (l : List (Int)) (x : Int) (i : Int) (k_ : (Int) ⊕ ((Int) ⊕ (Int)) → Option ρ) : Option ρ :=
  br (decide (i < (↑(List.length l) : Int)))
   (bnd (idx l i) fun y =>
    br (y == x)
     (k_ (.inr (.inl i)))
     (k_ (.inl (IntKind.wrap IntKind.i64 (i + (1 : Int))))))
   (k_ (.inr (.inr i)))
def R_member.c100002s : Shape := ⟨[(0, q8), (1, q0), (4, q1), (5, q0)], []⟩
def R_member.c100002x0 : Shape := ⟨[(0, q8), (1, q0), (4, q1), (5, q0)], []⟩
def R_member.c100002x1 : Shape := ⟨[(0, q8), (1, q0), (4, q1), (5, q0)], []⟩
def R_member.c100002r : Ck := Ck.ofLoop (S := Int) (T := (Int) ⊕ (Int)) R_member.c100002s (fun x_ => uP x_ fun l x_ => uP x_ fun x x_ => uP x_ fun t4 x_ => uP x_ fun i x_ => i) (fun ρ x_ s_ k_ => uP x_ fun l x_ => uP x_ fun x x_ => uP x_ fun t4 x_ => uP x_ fun i x_ => R_member.c100002 l x s_ k_) (fun ρ x_ r_ k_ => uP x_ fun l x_ => uP x_ fun x x_ => uP x_ fun t4 x_ => uP x_ fun i x_ => sel r_ (fun r_ => k_ 1 (Shape.inj R_member.c100002x0 (l, x, true, r_, ()))) (fun r_ => k_ 2 (Shape.inj R_member.c100002x1 (l, x, t4, r_, ()))))
def R_member (l : List (Int)) (x : Int) : Option (Bool) :=
  bnd (iter (fun s ↦ W.R_member.c100002 l x s some) (0 : Int)) fun y =>
  sel y
   (fun u => some true)
   (fun v => some false)
def R_member.ce : Go.Ql.Callee := ⟨[(.sl (.int .i64)), (.int .i64)], [.bool], fun x_ => R_member x_.1 x_.2⟩
def R_member.G : Env := ⟨18, tab, [], [0, 1, 4, 5, 9, 17], [], [], [(100002, R_member.c100002r)], [], tab_eqs⟩
theorem R_member.eq (x_ : dens [(.sl (.int .i64)), (.int .i64)]) : den R_member.G Go.Proofs.Tryd.f52 [(.sl (.int .i64)), (.int .i64)] [.bool] x_ = R_member x_.1 x_.2 := by kernel_rfl
theorem R_member.p0 : PieceOk R_member.G (pieceAt (pieces R_member.G.cks (bodyOf Go.Proofs.Tryd.f52)) 0).1 (pieceAt (pieces R_member.G.cks (bodyOf Go.Proofs.Tryd.f52)) 0).2 :=
  loop_ok (s := R_member.c100002r) (by kernel_rfl) (by kernel_rfl) (loops_of (sh := R_member.c100002s) (I := fun x_ s_ => (x_.1, x_.2.1, x_.2.2.1, s_, ())) (fun x_ => rfl) (fun ρ x_ s_ k_ => (nat_br (nat_bnd fun _ => (nat_br nat_leaf nat_leaf)) nat_leaf)) (fun ρ x_ t k => (nat_sel (fun _ => (by kernel_rfl)) (fun _ => (by kernel_rfl)))) (fun x_ s => by kernel_rfl))
theorem R_member.ok : CalleeOk Go.Proofs.Tryd.prog 52 R_member.ce := fn_ok (G := R_member.G) tab_ok mixed Go.Proofs.Tryd.func52 ⟨fns_nil, mfns_nil, tab_eqs_ok⟩ (m := 1) (by kernel_rfl) ⟨trivial, R_member.p0⟩ (by kernel_rfl) R_member.eq
def R_badOp.c1 {ρ : Type} (o0 : Int) (k_ : Bool → Option ρ) : Option ρ :=
  br (decide (o0 < (1 : Int)))
   (k_ true)
   (k_ (decide (o0 > (6 : Int))))
def R_badOp.c1s : Shape := ⟨[(0, q2), (1, q0), (2, q0), (3, q24), (6, q0)], [(3, q6)]⟩
def R_badOp.c1x0 : Shape := ⟨[(0, q2), (1, q0), (2, q0), (3, q24), (6, q0), (17, q1)], [(3, q6)]⟩
def R_badOp.c1r : Ck := Ck.of (T := Bool) R_badOp.c1s (fun ρ x_ k_ => uP x_ fun o x_ => uP x_ fun qubits x_ => uP x_ fun bits x_ => uP x_ fun t6 x_ => uP x_ fun o0 x_ => uP x_ fun o1 x_ => uP x_ fun o2 x_ => uP x_ fun o3 x_ => uP x_ fun o4 x_ => uP x_ fun o5 x_ => R_badOp.c1 o0 k_) (fun ρ x_ r_ k_ => uP x_ fun o x_ => uP x_ fun qubits x_ => uP x_ fun bits x_ => uP x_ fun t6 x_ => uP x_ fun o0 x_ => uP x_ fun o1 x_ => uP x_ fun o2 x_ => uP x_ fun o3 x_ => uP x_ fun o4 x_ => uP x_ fun o5 x_ => k_ 0 (Shape.inj R_badOp.c1x0 (o, qubits, bits, t6, r_, o0, o1, o2, o3, o4, o5, ())))
def R_badOp.c3 {ρ : Type} (o0 : Int) (k_ : Bool → Option ρ) : Option ρ :=
  br (o0 == (1 : Int))
   (k_ true)
   (k_ (o0 == (4 : Int)))
def R_badOp.c3s : Shape := ⟨[(0, q2), (1, q0), (2, q0), (3, q24), (6, q0)], [(3, q6)]⟩
def R_badOp.c3x0 : Shape := ⟨[(0, q2), (1, q0), (2, q0), (3, q24), (6, q0), (7, q1)], [(3, q6)]⟩
def R_badOp.c3r : Ck := Ck.of (T := Bool) R_badOp.c3s (fun ρ x_ k_ => uP x_ fun o x_ => uP x_ fun qubits x_ => uP x_ fun bits x_ => uP x_ fun t6 x_ => uP x_ fun o0 x_ => uP x_ fun o1 x_ => uP x_ fun o2 x_ => uP x_ fun o3 x_ => uP x_ fun o4 x_ => uP x_ fun o5 x_ => R_badOp.c3 o0 k_) (fun ρ x_ r_ k_ => uP x_ fun o x_ => uP x_ fun qubits x_ => uP x_ fun bits x_ => uP x_ fun t6 x_ => uP x_ fun o0 x_ => uP x_ fun o1 x_ => uP x_ fun o2 x_ => uP x_ fun o3 x_ => uP x_ fun o4 x_ => uP x_ fun o5 x_ => k_ 0 (Shape.inj R_badOp.c3x0 (o, qubits, bits, t6, r_, o0, o1, o2, o3, o4, o5, ())))
def R_badOp.c4 {ρ : Type} (angle : Bool) (o1 : Int) (k_ : Bool → Option ρ) : Option ρ :=
  br (decide (o1 < (0 : Int)))
   (k_ true)
   (br (decide (o1 > (15 : Int)))
     (k_ true)
     (br (decide (o1 > (0 : Int)))
       (k_ (!angle))
       (k_ false)))
def R_badOp.c4s : Shape := ⟨[(0, q2), (1, q0), (2, q0), (3, q24), (6, q0), (7, q1)], [(3, q6)]⟩
def R_badOp.c4x0 : Shape := ⟨[(0, q2), (1, q0), (2, q0), (3, q24), (6, q0), (7, q1), (42, q1)], [(3, q6)]⟩
def R_badOp.c4r : Ck := Ck.of (T := Bool) R_badOp.c4s (fun ρ x_ k_ => uP x_ fun o x_ => uP x_ fun qubits x_ => uP x_ fun bits x_ => uP x_ fun t6 x_ => uP x_ fun angle x_ => uP x_ fun o0 x_ => uP x_ fun o1 x_ => uP x_ fun o2 x_ => uP x_ fun o3 x_ => uP x_ fun o4 x_ => uP x_ fun o5 x_ => R_badOp.c4 angle o1 k_) (fun ρ x_ r_ k_ => uP x_ fun o x_ => uP x_ fun qubits x_ => uP x_ fun bits x_ => uP x_ fun t6 x_ => uP x_ fun angle x_ => uP x_ fun o0 x_ => uP x_ fun o1 x_ => uP x_ fun o2 x_ => uP x_ fun o3 x_ => uP x_ fun o4 x_ => uP x_ fun o5 x_ => k_ 0 (Shape.inj R_badOp.c4x0 (o, qubits, bits, t6, angle, r_, o0, o1, o2, o3, o4, o5, ())))
def R_badOp.c6 {ρ : Type} (qubits : Int) (o0 : Int) (o3 : Int) (k_ : Bool → Option ρ) : Option ρ :=
  br (decide (o3 < (0 : Int)))
   (k_ true)
   (br (decide (o3 ≥ qubits))
     (k_ true)
     (br (o0 == (1 : Int))
       (k_ (decide (o3 > (0 : Int))))
       (k_ false)))
def R_badOp.c6s : Shape := ⟨[(0, q2), (1, q0), (2, q0), (3, q24), (6, q0), (7, q1)], [(3, q6)]⟩
def R_badOp.c6x0 : Shape := ⟨[(0, q2), (1, q0), (2, q0), (3, q24), (6, q0), (7, q1), (61, q1)], [(3, q6)]⟩
def R_badOp.c6r : Ck := Ck.of (T := Bool) R_badOp.c6s (fun ρ x_ k_ => uP x_ fun o x_ => uP x_ fun qubits x_ => uP x_ fun bits x_ => uP x_ fun t6 x_ => uP x_ fun angle x_ => uP x_ fun o0 x_ => uP x_ fun o1 x_ => uP x_ fun o2 x_ => uP x_ fun o3 x_ => uP x_ fun o4 x_ => uP x_ fun o5 x_ => R_badOp.c6 qubits o0 o3 k_) (fun ρ x_ r_ k_ => uP x_ fun o x_ => uP x_ fun qubits x_ => uP x_ fun bits x_ => uP x_ fun t6 x_ => uP x_ fun angle x_ => uP x_ fun o0 x_ => uP x_ fun o1 x_ => uP x_ fun o2 x_ => uP x_ fun o3 x_ => uP x_ fun o4 x_ => uP x_ fun o5 x_ => k_ 0 (Shape.inj R_badOp.c6x0 (o, qubits, bits, t6, angle, r_, o0, o1, o2, o3, o4, o5, ())))
def R_badOp.c8 {ρ : Type} (o0 : Int) (o2 : List (Int)) (k_ : Bool → Option ρ) : Option ρ :=
  br (decide ((↑(List.length o2) : Int) > (0 : Int)))
   (br (o0 != (2 : Int))
     (br (o0 != (3 : Int))
       (k_ (o0 != (4 : Int)))
       (k_ false))
     (k_ false))
   (k_ false)
def R_badOp.c8s : Shape := ⟨[(0, q2), (1, q0), (2, q0), (3, q24), (6, q0), (7, q1)], [(3, q6)]⟩
def R_badOp.c8x0 : Shape := ⟨[(0, q2), (1, q0), (2, q0), (3, q24), (6, q0), (7, q1), (80, q1)], [(3, q6)]⟩
def R_badOp.c8r : Ck := Ck.of (T := Bool) R_badOp.c8s (fun ρ x_ k_ => uP x_ fun o x_ => uP x_ fun qubits x_ => uP x_ fun bits x_ => uP x_ fun t6 x_ => uP x_ fun angle x_ => uP x_ fun o0 x_ => uP x_ fun o1 x_ => uP x_ fun o2 x_ => uP x_ fun o3 x_ => uP x_ fun o4 x_ => uP x_ fun o5 x_ => R_badOp.c8 o0 o2 k_) (fun ρ x_ r_ k_ => uP x_ fun o x_ => uP x_ fun qubits x_ => uP x_ fun bits x_ => uP x_ fun t6 x_ => uP x_ fun angle x_ => uP x_ fun o0 x_ => uP x_ fun o1 x_ => uP x_ fun o2 x_ => uP x_ fun o3 x_ => uP x_ fun o4 x_ => uP x_ fun o5 x_ => k_ 0 (Shape.inj R_badOp.c8x0 (o, qubits, bits, t6, angle, r_, o0, o1, o2, o3, o4, o5, ())))
def R_badOp.c13 {ρ : Type} (qubits : Int) (i : Int) (o2 : List (Int)) (k_ : Bool → Option ρ) : Option ρ :=
  bnd (idx o2 i) fun y =>
  br (decide (y < (0 : Int)))
   (k_ true)
   (bnd (idx o2 i) fun y_1 =>
    k_ (decide (y_1 ≥ qubits)))
def R_badOp.c13s : Shape := ⟨[(0, q2), (1, q0), (2, q0), (3, q24), (6, q0), (7, q1), (8, q0)], [(3, q6)]⟩
def R_badOp.c13x0 : Shape := ⟨[(0, q2), (1, q0), (2, q0), (3, q24), (6, q0), (7, q1), (8, q0), (102, q1)], [(3, q6)]⟩
def R_badOp.c13r : Ck := Ck.of (T := Bool) R_badOp.c13s (fun ρ x_ k_ => uP x_ fun o x_ => uP x_ fun qubits x_ => uP x_ fun bits x_ => uP x_ fun t6 x_ => uP x_ fun angle x_ => uP x_ fun i x_ => uP x_ fun o0 x_ => uP x_ fun o1 x_ => uP x_ fun o2 x_ => uP x_ fun o3 x_ => uP x_ fun o4 x_ => uP x_ fun o5 x_ => R_badOp.c13 qubits i o2 k_) (fun ρ x_ r_ k_ => uP x_ fun o x_ => uP x_ fun qubits x_ => uP x_ fun bits x_ => uP x_ fun t6 x_ => uP x_ fun angle x_ => uP x_ fun i x_ => uP x_ fun o0 x_ => uP x_ fun o1 x_ => uP x_ fun o2 x_ => uP x_ fun o3 x_ => uP x_ fun o4 x_ => uP x_ fun o5 x_ => k_ 0 (Shape.inj R_badOp.c13x0 (o, qubits, bits, t6, angle, i, r_, o0, o1, o2, o3, o4, o5, ())))
def R_badOp.c15 {ρ : Type} (i : Int) (o2 : List (Int)) (o3 : Int) (k_ : Bool → Option ρ) : Option ρ :=
  bnd (idx o2 i) fun y =>
  br (y == o3)
   (k_ true)
   (bnd (okIf (decide ((0 : Int) ≤ i) && decide (i ≤ (↑(List.length o2) : Int)))) fun y_1 =>
    bnd (idx o2 i) fun y_2 =>
    bnd (W.R_member (List.take (Int.toNat i) o2) y_2) fun y_3 =>
    k_ y_3)
def R_badOp.c15s : Shape := ⟨[(0, q2), (1, q0), (2, q0), (3, q24), (6, q0), (7, q1), (8, q0)], [(3, q6)]⟩
def R_badOp.c15x0 : Shape := ⟨[(0, q2), (1, q0), (2, q0), (3, q24), (6, q0), (7, q1), (8, q0), (122, q1)], [(3, q6)]⟩
def R_badOp.c15r : Ck := Ck.of (T := Bool) R_badOp.c15s (fun ρ x_ k_ => uP x_ fun o x_ => uP x_ fun qubits x_ => uP x_ fun bits x_ => uP x_ fun t6 x_ => uP x_ fun angle x_ => uP x_ fun i x_ => uP x_ fun o0 x_ => uP x_ fun o1 x_ => uP x_ fun o2 x_ => uP x_ fun o3 x_ => uP x_ fun o4 x_ => uP x_ fun o5 x_ => R_badOp.c15 i o2 o3 k_) (fun ρ x_ r_ k_ => uP x_ fun o x_ => uP x_ fun qubits x_ => uP x_ fun bits x_ => uP x_ fun t6 x_ => uP x_ fun angle x_ => uP x_ fun i x_ => uP x_ fun o0 x_ => uP x_ fun o1 x_ => uP x_ fun o2 x_ => uP x_ fun o3 x_ => uP x_ fun o4 x_ => uP x_ fun o5 x_ => k_ 0 (Shape.inj R_badOp.c15x0 (o, qubits, bits, t6, angle, i, r_, o0, o1, o2, o3, o4, o5, ())))
def R_badOp.c100011 {ρ : Type} (qubits : Int) (i : Int) (o2 : List (Int)) (o3 : Int) (k_ : (Int) ⊕ (((Int) × (Int)) ⊕ (Int)) → Option ρ) : Option ρ :=
  br (decide (i < (↑(List.length o2) : Int)))
   (bnd (W.R_badOp.c13 qubits i o2 some) fun y =>
    br y
     (k_ (.inr (.inl ((10 : Int), i))))
     (bnd (W.R_badOp.c15 i o2 o3 some) fun y_1 =>
      br y_1
       (k_ (.inr (.inl ((12 : Int), i))))
       (k_ (.inl (IntKind.wrap IntKind.i64 (i + (1 : Int)))))))
   (k_ (.inr (.inr i)))
def R_badOp.c100011s : Shape := ⟨[(0, q2), (1, q0), (2, q0), (3, q24), (6, q0), (7, q1), (8, q0)], [(3, q6)]⟩
def R_badOp.c100011x0 : Shape := ⟨[(0, q2), (1, q0), (2, q0), (3, q24), (6, q0), (7, q1), (8, q0)], [(3, q6)]⟩
def R_badOp.c100011x1 : Shape := ⟨[(0, q2), (1, q0), (2, q0), (3, q24), (6, q0), (7, q1), (8, q0)], [(3, q6)]⟩
def R_badOp.c100011r : Ck := Ck.ofLoop (S := Int) (T := ((Int) × (Int)) ⊕ (Int)) R_badOp.c100011s (fun x_ => uP x_ fun o x_ => uP x_ fun qubits x_ => uP x_ fun bits x_ => uP x_ fun t6 x_ => uP x_ fun angle x_ => uP x_ fun i x_ => uP x_ fun o0 x_ => uP x_ fun o1 x_ => uP x_ fun o2 x_ => uP x_ fun o3 x_ => uP x_ fun o4 x_ => uP x_ fun o5 x_ => i) (fun ρ x_ s_ k_ => uP x_ fun o x_ => uP x_ fun qubits x_ => uP x_ fun bits x_ => uP x_ fun t6 x_ => uP x_ fun angle x_ => uP x_ fun i x_ => uP x_ fun o0 x_ => uP x_ fun o1 x_ => uP x_ fun o2 x_ => uP x_ fun o3 x_ => uP x_ fun o4 x_ => uP x_ fun o5 x_ => R_badOp.c100011 qubits s_ o2 o3 k_) (fun ρ x_ r_ k_ => uP x_ fun o x_ => uP x_ fun qubits x_ => uP x_ fun bits x_ => uP x_ fun t6 x_ => uP x_ fun angle x_ => uP x_ fun i x_ => uP x_ fun o0 x_ => uP x_ fun o1 x_ => uP x_ fun o2 x_ => uP x_ fun o3 x_ => uP x_ fun o4 x_ => uP x_ fun o5 x_ => sel r_ (fun r_ => k_ 1 (Shape.inj R_badOp.c100011x0 (o, qubits, bits, r_.1, angle, r_.2, o0, o1, o2, o3, o4, o5, ()))) (fun r_ => k_ 2 (Shape.inj R_badOp.c100011x1 (o, qubits, bits, t6, angle, r_, o0, o1, o2, o3, o4, o5, ()))))
def R_badOp.c18 {ρ : Type} (bits : Int) (o4 : Int) (k_ : Bool → Option ρ) : Option ρ :=
  br (decide (o4 < (0 : Int)))
   (k_ true)
   (k_ (decide (o4 ≥ bits)))
def R_badOp.c18s : Shape := ⟨[(0, q2), (1, q0), (2, q0), (3, q24), (6, q0), (7, q1), (8, q0)], [(3, q6)]⟩
def R_badOp.c18x0 : Shape := ⟨[(0, q2), (1, q0), (2, q0), (3, q24), (6, q0), (7, q1), (8, q0), (134, q1)], [(3, q6)]⟩
def R_badOp.c18r : Ck := Ck.of (T := Bool) R_badOp.c18s (fun ρ x_ k_ => uP x_ fun o x_ => uP x_ fun qubits x_ => uP x_ fun bits x_ => uP x_ fun t6 x_ => uP x_ fun angle x_ => uP x_ fun i x_ => uP x_ fun o0 x_ => uP x_ fun o1 x_ => uP x_ fun o2 x_ => uP x_ fun o3 x_ => uP x_ fun o4 x_ => uP x_ fun o5 x_ => R_badOp.c18 bits o4 k_) (fun ρ x_ r_ k_ => uP x_ fun o x_ => uP x_ fun qubits x_ => uP x_ fun bits x_ => uP x_ fun t6 x_ => uP x_ fun angle x_ => uP x_ fun i x_ => uP x_ fun o0 x_ => uP x_ fun o1 x_ => uP x_ fun o2 x_ => uP x_ fun o3 x_ => uP x_ fun o4 x_ => uP x_ fun o5 x_ => k_ 0 (Shape.inj R_badOp.c18x0 (o, qubits, bits, t6, angle, i, r_, o0, o1, o2, o3, o4, o5, ())))
def R_badOp.c269649 {ρ : Type} (bits : Int) (o0 : Int) (o4 : Int) (k_ : (Unit) ⊕ (Unit) → Option ρ) : Option ρ :=
  br (o0 == (5 : Int))
   (bnd (W.R_badOp.c18 bits o4 some) fun y =>
    br y
     (k_ (.inl ()))
     (k_ (.inr ())))
   (br (o4 != (0 : Int))
     (k_ (.inl ()))
     (k_ (.inr ())))
def R_badOp.c269649s : Shape := ⟨[(0, q2), (1, q0), (2, q0), (3, q24), (6, q0), (7, q1), (8, q0)], [(3, q6)]⟩
def R_badOp.c269649x0 : Shape := ⟨[(0, q2), (1, q0), (2, q0), (3, q24), (6, q0), (7, q1), (8, q0)], [(3, q6)]⟩
def R_badOp.c269649x1 : Shape := ⟨[(0, q2), (1, q0), (2, q0), (3, q24), (6, q0), (7, q1), (8, q0)], [(3, q6)]⟩
def R_badOp.c269649r : Ck := Ck.of (T := (Unit) ⊕ (Unit)) R_badOp.c269649s (fun ρ x_ k_ => uP x_ fun o x_ => uP x_ fun qubits x_ => uP x_ fun bits x_ => uP x_ fun t6 x_ => uP x_ fun angle x_ => uP x_ fun i x_ => uP x_ fun o0 x_ => uP x_ fun o1 x_ => uP x_ fun o2 x_ => uP x_ fun o3 x_ => uP x_ fun o4 x_ => uP x_ fun o5 x_ => R_badOp.c269649 bits o0 o4 k_) (fun ρ x_ r_ k_ => uP x_ fun o x_ => uP x_ fun qubits x_ => uP x_ fun bits x_ => uP x_ fun t6 x_ => uP x_ fun angle x_ => uP x_ fun i x_ => uP x_ fun o0 x_ => uP x_ fun o1 x_ => uP x_ fun o2 x_ => uP x_ fun o3 x_ => uP x_ fun o4 x_ => uP x_ fun o5 x_ => sel r_ (fun r_ => k_ 1 (Shape.inj R_badOp.c269649x0 (o, qubits, bits, (13 : Int), angle, i, o0, o1, o2, o3, o4, o5, ()))) (fun r_ => k_ 0 (Shape.inj R_badOp.c269649x1 (o, qubits, bits, t6, angle, i, o0, o1, o2, o3, o4, o5, ()))))
def R_badOp.c27 {ρ : Type} (bits : Int) (i_1 : Int) (o5 : List (Int)) (k_ : Bool → Option ρ) : Option ρ :=
  bnd (idx o5 i_1) fun y =>
  br (y == (0 : Int))
   (k_ true)
   (bnd (idx o5 i_1) fun y_1 =>
    br (decide (y_1 > bits))
     (k_ true)
     (bnd (idx o5 i_1) fun y_2 =>
      k_ (decide (y_2 < IntKind.wrap IntKind.i64 ((0 : Int) - bits)))))
def R_badOp.c27s : Shape := ⟨[(0, q2), (1, q0), (2, q0), (3, q24), (6, q0), (7, q1), (8, q0), (9, q0)], [(3, q6)]⟩
def R_badOp.c27x0 : Shape := ⟨[(0, q2), (1, q0), (2, q0), (3, q24), (6, q0), (7, q1), (8, q0), (9, q0), (173, q1)], [(3, q6)]⟩
def R_badOp.c27r : Ck := Ck.of (T := Bool) R_badOp.c27s (fun ρ x_ k_ => uP x_ fun o x_ => uP x_ fun qubits x_ => uP x_ fun bits x_ => uP x_ fun t6 x_ => uP x_ fun angle x_ => uP x_ fun i x_ => uP x_ fun i_1 x_ => uP x_ fun o0 x_ => uP x_ fun o1 x_ => uP x_ fun o2 x_ => uP x_ fun o3 x_ => uP x_ fun o4 x_ => uP x_ fun o5 x_ => R_badOp.c27 bits i_1 o5 k_) (fun ρ x_ r_ k_ => uP x_ fun o x_ => uP x_ fun qubits x_ => uP x_ fun bits x_ => uP x_ fun t6 x_ => uP x_ fun angle x_ => uP x_ fun i x_ => uP x_ fun i_1 x_ => uP x_ fun o0 x_ => uP x_ fun o1 x_ => uP x_ fun o2 x_ => uP x_ fun o3 x_ => uP x_ fun o4 x_ => uP x_ fun o5 x_ => k_ 0 (Shape.inj R_badOp.c27x0 (o, qubits, bits, t6, angle, i, i_1, r_, o0, o1, o2, o3, o4, o5, ())))
def R_badOp.c100025 {ρ : Type} (bits : Int) (i_1 : Int) (o5 : List (Int)) (k_ : (Int) ⊕ ((Int) ⊕ (Int)) → Option ρ) : Option ρ :=
  br (decide (i_1 < (↑(List.length o5) : Int)))
   (bnd (W.R_badOp.c27 bits i_1 o5 some) fun y =>
    br y
     (k_ (.inr (.inl i_1)))
     (k_ (.inl (IntKind.wrap IntKind.i64 (i_1 + (1 : Int))))))
   (k_ (.inr (.inr i_1)))
def R_badOp.c100025s : Shape := ⟨[(0, q2), (1, q0), (2, q0), (3, q24), (6, q0), (7, q1), (8, q0), (9, q0)], [(3, q6)]⟩
def R_badOp.c100025x0 : Shape := ⟨[(0, q2), (1, q0), (2, q0), (3, q24), (6, q0), (7, q1), (8, q0), (9, q0)], [(3, q6)]⟩
def R_badOp.c100025x1 : Shape := ⟨[(0, q2), (1, q0), (2, q0), (3, q24), (6, q0), (7, q1), (8, q0), (9, q0)], [(3, q6)]⟩
def R_badOp.c100025r : Ck := Ck.ofLoop (S := Int) (T := (Int) ⊕ (Int)) R_badOp.c100025s (fun x_ => uP x_ fun o x_ => uP x_ fun qubits x_ => uP x_ fun bits x_ => uP x_ fun t6 x_ => uP x_ fun angle x_ => uP x_ fun i x_ => uP x_ fun i_1 x_ => uP x_ fun o0 x_ => uP x_ fun o1 x_ => uP x_ fun o2 x_ => uP x_ fun o3 x_ => uP x_ fun o4 x_ => uP x_ fun o5 x_ => i_1) (fun ρ x_ s_ k_ => uP x_ fun o x_ => uP x_ fun qubits x_ => uP x_ fun bits x_ => uP x_ fun t6 x_ => uP x_ fun angle x_ => uP x_ fun i x_ => uP x_ fun i_1 x_ => uP x_ fun o0 x_ => uP x_ fun o1 x_ => uP x_ fun o2 x_ => uP x_ fun o3 x_ => uP x_ fun o4 x_ => uP x_ fun o5 x_ => R_badOp.c100025 bits s_ o5 k_) (fun ρ x_ r_ k_ => uP x_ fun o x_ => uP x_ fun qubits x_ => uP x_ fun bits x_ => uP x_ fun t6 x_ => uP x_ fun angle x_ => uP x_ fun i x_ => uP x_ fun i_1 x_ => uP x_ fun o0 x_ => uP x_ fun o1 x_ => uP x_ fun o2 x_ => uP x_ fun o3 x_ => uP x_ fun o4 x_ => uP x_ fun o5 x_ => sel r_ (fun r_ => k_ 1 (Shape.inj R_badOp.c100025x0 (o, qubits, bits, (14 : Int), angle, i, r_, o0, o1, o2, o3, o4, o5, ()))) (fun r_ => k_ 4 (Shape.inj R_badOp.c100025x1 (o, qubits, bits, t6, angle, i, r_, o0, o1, o2, o3, o4, o5, ()))))
def R_badOp (o : (Int) × ((Int) × ((List Int) × ((Int) × ((Int) × (List Int)))))) (qubits : Int) (bits : Int) : Option (Int) :=
  bnd (W.R_badOp.c1 (Prod.fst o) some) fun y =>
  br y
   (some (8 : Int))
   (bnd (W.R_badOp.c3 (Prod.fst o) some) fun y_1 =>
    bnd (W.R_badOp.c4 y_1 (Prod.fst (Prod.snd o)) some) fun y_2 =>
    br y_2
     (some (9 : Int))
     (bnd (W.R_badOp.c6 qubits (Prod.fst o) (Prod.fst (Prod.snd (Prod.snd (Prod.snd o)))) some) fun y_3 =>
      br y_3
       (some (10 : Int))
       (bnd (W.R_badOp.c8 (Prod.fst o) (Prod.fst (Prod.snd (Prod.snd o))) some) fun y_4 =>
        br y_4
         (some (11 : Int))
         (bnd (iter (fun s ↦ W.R_badOp.c100011 qubits s (Prod.fst (Prod.snd (Prod.snd o))) (Prod.fst (Prod.snd (Prod.snd (Prod.snd o)))) some) (0 : Int)) fun y_5 =>
          sel y_5
           (fun u => some (Prod.fst u))
           (fun v => bnd (W.R_badOp.c269649 bits (Prod.fst o) (Prod.fst (Prod.snd (Prod.snd (Prod.snd (Prod.snd o))))) some) fun y_6 =>
            sel y_6
             (fun u_1 => some (13 : Int))
             (fun v_1 => br (decide ((↑(List.length (Prod.snd (Prod.snd (Prod.snd (Prod.snd (Prod.snd o)))))) : Int) > (24 : Int)))
               (some (14 : Int))
               (bnd (iter (fun s ↦ W.R_badOp.c100025 bits s (Prod.snd (Prod.snd (Prod.snd (Prod.snd (Prod.snd o))))) some) (0 : Int)) fun y_7 =>
                sel y_7
                 (fun u_2 => some (14 : Int))
                 (fun v_2 => some (0 : Int)))))))))
def R_badOp.ce : Go.Ql.Callee := ⟨[(.st (.pair (.int .i64) (.pair (.int .i64) (.pair (.sl (.int .i64)) (.pair (.int .i64) (.pair (.int .i64) (.sl (.int .i64)))))))), (.int .i64), (.int .i64)], [(.int .i64)], fun x_ => R_badOp x_.1 x_.2.1 x_.2.2⟩
def R_badOp.G : Env := ⟨174, tab, [(52, R_member.ce)], [0, 1, 2, 3, 6, 7, 8, 9, 17, 42, 61, 80, 85, 102, 122, 125, 134, 137, 141, 146, 173], [], [(15, [⟨[], [], [105, 108, 109], []⟩, ⟨[0], [], [105, 108, 109], []⟩, ⟨[], [], [103, 104, 108, 109], []⟩, ⟨[1, 0, 2], [], [108, 109], []⟩, ⟨[3, 1, 0, 2], [], [108, 109], []⟩, ⟨[], [], [103, 104, 105, 106, 107], []⟩, ⟨[5], [], [103, 104, 105, 106, 107], []⟩, ⟨[4, 3, 1, 0, 2, 6, 5], [], [], []⟩, ⟨[7, 4, 3, 1, 0, 2, 6, 5], [], [], []⟩, ⟨[8, 7, 4, 3, 1, 0, 2, 6, 5], [], [114, 116, 117, 118, 119, 120], []⟩, ⟨[9, 8, 7, 4, 3, 1, 0, 2, 6, 5], [], [114, 116, 117, 118, 119, 120], []⟩, ⟨[8, 7, 4, 3, 1, 0, 2, 6, 5], [], [112, 113, 116, 117, 118, 119, 120], []⟩, ⟨[10, 9, 8, 7, 4, 3, 1, 0, 2, 6, 5, 11], [], [116, 117, 118, 119, 120], []⟩, ⟨[8, 7, 4, 3, 1, 0, 2, 6, 5], [], [112, 113, 114, 115, 118], []⟩, ⟨[13, 8, 7, 4, 3, 1, 0, 2, 6, 5], [], [112, 113, 114, 115, 118], []⟩, ⟨[8, 7, 4, 3, 1, 0, 2, 6, 5], [], [112, 113, 114, 115, 116, 117], []⟩, ⟨[14, 13, 8, 7, 4, 3, 1, 0, 2, 6, 5, 15], [], [112, 113, 114, 115], []⟩, ⟨[16, 14, 13, 8, 7, 4, 3, 1, 0, 2, 6, 5, 15], [], [112, 113, 114, 115], []⟩, ⟨[12, 10, 9, 8, 7, 4, 3, 1, 0, 2, 6, 5, 11, 17, 16, 14, 13, 15], [], [], []⟩, ⟨[8, 7, 4, 3, 1, 0, 2, 6, 5, 18, 12, 10, 9, 11, 17, 16, 14, 13, 15], [], [], []⟩])], [(100025, R_badOp.c100025r), (27, R_badOp.c27r), (269649, R_badOp.c269649r), (18, R_badOp.c18r), (100011, R_badOp.c100011r), (15, R_badOp.c15r), (13, R_badOp.c13r), (8, R_badOp.c8r), (6, R_badOp.c6r), (4, R_badOp.c4r), (3, R_badOp.c3r), (1, R_badOp.c1r)], [], tab_eqs⟩
theorem R_badOp.eq (x_ : dens [(.st (.pair (.int .i64) (.pair (.int .i64) (.pair (.sl (.int .i64)) (.pair (.int .i64) (.pair (.int .i64) (.sl (.int .i64)))))))), (.int .i64), (.int .i64)]) : den R_badOp.G Go.Proofs.Tryd.f43 [(.st (.pair (.int .i64) (.pair (.int .i64) (.pair (.sl (.int .i64)) (.pair (.int .i64) (.pair (.int .i64) (.sl (.int .i64)))))))), (.int .i64), (.int .i64)] [(.int .i64)] x_ = R_badOp x_.1 x_.2.1 x_.2.2 := by kernel_rfl
theorem R_badOp.p0 : PieceOk R_badOp.G (pieceAt (pieces R_badOp.G.cks (bodyOf Go.Proofs.Tryd.f43)) 0).1 (pieceAt (pieces R_badOp.G.cks (bodyOf Go.Proofs.Tryd.f43)) 0).2 :=
  region_ok (s := R_badOp.c1r) (by kernel_rfl) (by kernel_rfl) (sums_of (sh := R_badOp.c1s) (fun ρ x_ k_ => (nat_br nat_leaf nat_leaf)) (fun ρ x_ t k => (by kernel_rfl)) (fun x_ => by kernel_rfl))
theorem R_badOp.p1 : PieceOk R_badOp.G (pieceAt (pieces R_badOp.G.cks (bodyOf Go.Proofs.Tryd.f43)) 1).1 (pieceAt (pieces R_badOp.G.cks (bodyOf Go.Proofs.Tryd.f43)) 1).2 :=
  region_ok (s := R_badOp.c3r) (by kernel_rfl) (by kernel_rfl) (sums_of (sh := R_badOp.c3s) (fun ρ x_ k_ => (nat_br nat_leaf nat_leaf)) (fun ρ x_ t k => (by kernel_rfl)) (fun x_ => by kernel_rfl))
theorem R_badOp.p2 : PieceOk R_badOp.G (pieceAt (pieces R_badOp.G.cks (bodyOf Go.Proofs.Tryd.f43)) 2).1 (pieceAt (pieces R_badOp.G.cks (bodyOf Go.Proofs.Tryd.f43)) 2).2 :=
  region_ok (s := R_badOp.c4r) (by kernel_rfl) (by kernel_rfl) (sums_of (sh := R_badOp.c4s) (fun ρ x_ k_ => (nat_br nat_leaf (nat_br nat_leaf (nat_br nat_leaf nat_leaf)))) (fun ρ x_ t k => (by kernel_rfl)) (fun x_ => by kernel_rfl))
theorem R_badOp.p3 : PieceOk R_badOp.G (pieceAt (pieces R_badOp.G.cks (bodyOf Go.Proofs.Tryd.f43)) 3).1 (pieceAt (pieces R_badOp.G.cks (bodyOf Go.Proofs.Tryd.f43)) 3).2 :=
  region_ok (s := R_badOp.c6r) (by kernel_rfl) (by kernel_rfl) (sums_of (sh := R_badOp.c6s) (fun ρ x_ k_ => (nat_br nat_leaf (nat_br nat_leaf (nat_br nat_leaf nat_leaf)))) (fun ρ x_ t k => (by kernel_rfl)) (fun x_ => by kernel_rfl))
theorem R_badOp.p4 : PieceOk R_badOp.G (pieceAt (pieces R_badOp.G.cks (bodyOf Go.Proofs.Tryd.f43)) 4).1 (pieceAt (pieces R_badOp.G.cks (bodyOf Go.Proofs.Tryd.f43)) 4).2 :=
  region_ok (s := R_badOp.c8r) (by kernel_rfl) (by kernel_rfl) (sums_of (sh := R_badOp.c8s) (fun ρ x_ k_ => (nat_br (nat_br (nat_br nat_leaf nat_leaf) nat_leaf) nat_leaf)) (fun ρ x_ t k => (by kernel_rfl)) (fun x_ => by kernel_rfl))
theorem R_badOp.p5 : PieceOk R_badOp.G (pieceAt (pieces R_badOp.G.cks (bodyOf Go.Proofs.Tryd.f43)) 5).1 (pieceAt (pieces R_badOp.G.cks (bodyOf Go.Proofs.Tryd.f43)) 5).2 :=
  loop_ok (s := R_badOp.c100011r) (by kernel_rfl) (by kernel_rfl) (loops_of (sh := R_badOp.c100011s) (I := fun x_ s_ => (x_.1, x_.2.1, x_.2.2.1, x_.2.2.2.1, x_.2.2.2.2.1, s_, x_.2.2.2.2.2.2.1, x_.2.2.2.2.2.2.2.1, x_.2.2.2.2.2.2.2.2.1, x_.2.2.2.2.2.2.2.2.2.1, x_.2.2.2.2.2.2.2.2.2.2.1, x_.2.2.2.2.2.2.2.2.2.2.2.1, ())) (fun x_ => rfl) (fun ρ x_ s_ k_ => (nat_br (nat_bnd fun _ => (nat_br nat_leaf (nat_bnd fun _ => (nat_br nat_leaf nat_leaf)))) nat_leaf)) (fun ρ x_ t k => (nat_sel (fun _ => (by kernel_rfl)) (fun _ => (by kernel_rfl)))) (fun x_ s => by kernel_rfl))
theorem R_badOp.p6 : PieceOk R_badOp.G (pieceAt (pieces R_badOp.G.cks (bodyOf Go.Proofs.Tryd.f43)) 6).1 (pieceAt (pieces R_badOp.G.cks (bodyOf Go.Proofs.Tryd.f43)) 6).2 :=
  region_ok (s := R_badOp.c13r) (by kernel_rfl) (by kernel_rfl) (sums_of (sh := R_badOp.c13s) (fun ρ x_ k_ => (nat_bnd fun _ => (nat_br nat_leaf (nat_bnd fun _ => nat_leaf)))) (fun ρ x_ t k => (by kernel_rfl)) (fun x_ => by kernel_rfl))
theorem R_badOp.p7 : PieceOk R_badOp.G (pieceAt (pieces R_badOp.G.cks (bodyOf Go.Proofs.Tryd.f43)) 7).1 (pieceAt (pieces R_badOp.G.cks (bodyOf Go.Proofs.Tryd.f43)) 7).2 :=
  region_ok (s := R_badOp.c15r) (by kernel_rfl) (by kernel_rfl) (sums_of (sh := R_badOp.c15s) (fun ρ x_ k_ => (nat_bnd fun _ => (nat_br nat_leaf (nat_bnd fun _ => (nat_bnd fun _ => (nat_bnd fun _ => nat_leaf)))))) (fun ρ x_ t k => (by kernel_rfl)) (fun x_ => by kernel_rfl))
theorem R_badOp.p8 : PieceOk R_badOp.G (pieceAt (pieces R_badOp.G.cks (bodyOf Go.Proofs.Tryd.f43)) 8).1 (pieceAt (pieces R_badOp.G.cks (bodyOf Go.Proofs.Tryd.f43)) 8).2 :=
  join_ok (s := R_badOp.c269649r) (by kernel_rfl) (by kernel_rfl) (sums_of (sh := R_badOp.c269649s) (fun ρ x_ k_ => (nat_br (nat_bnd fun _ => (nat_br nat_leaf nat_leaf)) (nat_br nat_leaf nat_leaf))) (fun ρ x_ t k => (nat_sel (fun _ => (by kernel_rfl)) (fun _ => (by kernel_rfl)))) (fun x_ => by kernel_rfl))
theorem R_badOp.p9 : PieceOk R_badOp.G (pieceAt (pieces R_badOp.G.cks (bodyOf Go.Proofs.Tryd.f43)) 9).1 (pieceAt (pieces R_badOp.G.cks (bodyOf Go.Proofs.Tryd.f43)) 9).2 :=
  region_ok (s := R_badOp.c18r) (by kernel_rfl) (by kernel_rfl) (sums_of (sh := R_badOp.c18s) (fun ρ x_ k_ => (nat_br nat_leaf nat_leaf)) (fun ρ x_ t k => (by kernel_rfl)) (fun x_ => by kernel_rfl))
theorem R_badOp.p10 : PieceOk R_badOp.G (pieceAt (pieces R_badOp.G.cks (bodyOf Go.Proofs.Tryd.f43)) 10).1 (pieceAt (pieces R_badOp.G.cks (bodyOf Go.Proofs.Tryd.f43)) 10).2 :=
  loop_ok (s := R_badOp.c100025r) (by kernel_rfl) (by kernel_rfl) (loops_of (sh := R_badOp.c100025s) (I := fun x_ s_ => (x_.1, x_.2.1, x_.2.2.1, x_.2.2.2.1, x_.2.2.2.2.1, x_.2.2.2.2.2.1, s_, x_.2.2.2.2.2.2.2.1, x_.2.2.2.2.2.2.2.2.1, x_.2.2.2.2.2.2.2.2.2.1, x_.2.2.2.2.2.2.2.2.2.2.1, x_.2.2.2.2.2.2.2.2.2.2.2.1, x_.2.2.2.2.2.2.2.2.2.2.2.2.1, ())) (fun x_ => rfl) (fun ρ x_ s_ k_ => (nat_br (nat_bnd fun _ => (nat_br nat_leaf nat_leaf)) nat_leaf)) (fun ρ x_ t k => (nat_sel (fun _ => (by kernel_rfl)) (fun _ => (by kernel_rfl)))) (fun x_ s => by kernel_rfl))
theorem R_badOp.p11 : PieceOk R_badOp.G (pieceAt (pieces R_badOp.G.cks (bodyOf Go.Proofs.Tryd.f43)) 11).1 (pieceAt (pieces R_badOp.G.cks (bodyOf Go.Proofs.Tryd.f43)) 11).2 :=
  region_ok (s := R_badOp.c27r) (by kernel_rfl) (by kernel_rfl) (sums_of (sh := R_badOp.c27s) (fun ρ x_ k_ => (nat_bnd fun _ => (nat_br nat_leaf (nat_bnd fun _ => (nat_br nat_leaf (nat_bnd fun _ => nat_leaf)))))) (fun ρ x_ t k => (by kernel_rfl)) (fun x_ => by kernel_rfl))
theorem R_badOp.ok : CalleeOk Go.Proofs.Tryd.prog 43 R_badOp.ce := fn_ok (G := R_badOp.G) tab_ok mixed Go.Proofs.Tryd.func43 ⟨(fns_cons R_member.ok fns_nil), mfns_nil, tab_eqs_ok⟩ (m := 12) (by kernel_rfl) ⟨⟨⟨⟨⟨⟨⟨⟨⟨⟨⟨⟨trivial, R_badOp.p0⟩, R_badOp.p1⟩, R_badOp.p2⟩, R_badOp.p3⟩, R_badOp.p4⟩, R_badOp.p5⟩, R_badOp.p6⟩, R_badOp.p7⟩, R_badOp.p8⟩, R_badOp.p9⟩, R_badOp.p10⟩, R_badOp.p11⟩ (by kernel_rfl) R_badOp.eq
def R_Check.c1 {ρ : Type} (c0 : Int) (k_ : Bool → Option ρ) : Option ρ :=
  br (decide (c0 < (1 : Int)))
   (k_ true)
   (k_ (decide (c0 > (12 : Int))))
def R_Check.c1s : Shape := ⟨[(0, q10), (1, q11), (2, q5)], [(1, q4), (2, q12)]⟩
def R_Check.c1x0 : Shape := ⟨[(0, q10), (1, q11), (2, q5), (12, q1)], [(1, q4), (2, q12)]⟩
def R_Check.c1r : Ck := Ck.of (T := Bool) R_Check.c1s (fun ρ x_ k_ => uP x_ fun c x_ => uP x_ fun c0 x_ => uP x_ fun c1 x_ => uP x_ fun c2 x_ => uP x_ fun t20 x_ => uP x_ fun t21 x_ => R_Check.c1 c0 k_) (fun ρ x_ r_ k_ => uP x_ fun c x_ => uP x_ fun c0 x_ => uP x_ fun c1 x_ => uP x_ fun c2 x_ => uP x_ fun t20 x_ => uP x_ fun t21 x_ => k_ 0 (Shape.inj R_Check.c1x0 (c, r_, c0, c1, c2, t20, t21, ())))
def R_Check.c3 {ρ : Type} (c1 : Int) (k_ : Bool → Option ρ) : Option ρ :=
  br (decide (c1 < (0 : Int)))
   (k_ true)
   (k_ (decide (c1 > (12 : Int))))
def R_Check.c3s : Shape := ⟨[(0, q10), (1, q11), (2, q5)], [(1, q4), (2, q12)]⟩
def R_Check.c3x0 : Shape := ⟨[(0, q10), (1, q11), (2, q5), (21, q1)], [(1, q4), (2, q12)]⟩
def R_Check.c3r : Ck := Ck.of (T := Bool) R_Check.c3s (fun ρ x_ k_ => uP x_ fun c x_ => uP x_ fun c0 x_ => uP x_ fun c1 x_ => uP x_ fun c2 x_ => uP x_ fun t20 x_ => uP x_ fun t21 x_ => R_Check.c3 c1 k_) (fun ρ x_ r_ k_ => uP x_ fun c x_ => uP x_ fun c0 x_ => uP x_ fun c1 x_ => uP x_ fun c2 x_ => uP x_ fun t20 x_ => uP x_ fun t21 x_ => k_ 0 (Shape.inj R_Check.c3x0 (c, r_, c0, c1, c2, t20, t21, ())))
def R_Check.c10 {ρ : Type} (i : Int) (c0 : Int) (c1 : Int) (c2 : List ((Int) × ((Int) × ((List Int) × ((Int) × ((Int) × (List Int))))))) (k_ : Int → Option ρ) : Option ρ :=
  bnd (idx c2 i) fun y =>
  bnd (W.R_badOp y c0 c1) fun y_1 =>
  k_ y_1
def R_Check.c10s : Shape := ⟨[(0, q10), (1, q11), (2, q5), (3, q0)], [(1, q4), (2, q12)]⟩
def R_Check.c10x0 : Shape := ⟨[(0, q10), (1, q11), (2, q5), (3, q0), (4, q0)], [(1, q4), (2, q12)]⟩
def R_Check.c10r : Ck := Ck.of (T := Int) R_Check.c10s (fun ρ x_ k_ => uP x_ fun c x_ => uP x_ fun i x_ => uP x_ fun c0 x_ => uP x_ fun c1 x_ => uP x_ fun c2 x_ => uP x_ fun t20 x_ => uP x_ fun t21 x_ => R_Check.c10 i c0 c1 c2 k_) (fun ρ x_ r_ k_ => uP x_ fun c x_ => uP x_ fun i x_ => uP x_ fun c0 x_ => uP x_ fun c1 x_ => uP x_ fun c2 x_ => uP x_ fun t20 x_ => uP x_ fun t21 x_ => k_ 0 (Shape.inj R_Check.c10x0 (c, i, r_, c0, c1, c2, t20, t21, ())))
def R_Check.c100008 {ρ : Type} (i : Int) (c0 : Int) (c1 : Int) (c2 : List ((Int) × ((Int) × ((List Int) × ((Int) × ((Int) × (List Int))))))) (k_ : (Int) ⊕ (((Int) × (Int) × (Int)) ⊕ (Int)) → Option ρ) : Option ρ :=
  br (decide (i < (↑(List.length c2) : Int)))
   (bnd (W.R_Check.c10 i c0 c1 c2 some) fun y =>
    br (y != (0 : Int))
     (bnd (W.R_rfault y i) fun y_1 =>
      k_ (.inr (.inl (i, (Prod.fst y_1), (Prod.snd y_1)))))
     (k_ (.inl (IntKind.wrap IntKind.i64 (i + (1 : Int))))))
   (k_ (.inr (.inr i)))
def R_Check.c100008s : Shape := ⟨[(0, q10), (1, q11), (2, q5), (3, q0)], [(1, q4), (2, q12)]⟩
def R_Check.c100008x0 : Shape := ⟨[(0, q10), (1, q11), (2, q5), (3, q0)], [(1, q4), (2, q12)]⟩
def R_Check.c100008x1 : Shape := ⟨[(0, q10), (1, q11), (2, q5), (3, q0)], [(1, q4), (2, q12)]⟩
def R_Check.c100008r : Ck := Ck.ofLoop (S := Int) (T := ((Int) × (Int) × (Int)) ⊕ (Int)) R_Check.c100008s (fun x_ => uP x_ fun c x_ => uP x_ fun i x_ => uP x_ fun c0 x_ => uP x_ fun c1 x_ => uP x_ fun c2 x_ => uP x_ fun t20 x_ => uP x_ fun t21 x_ => i) (fun ρ x_ s_ k_ => uP x_ fun c x_ => uP x_ fun i x_ => uP x_ fun c0 x_ => uP x_ fun c1 x_ => uP x_ fun c2 x_ => uP x_ fun t20 x_ => uP x_ fun t21 x_ => R_Check.c100008 s_ c0 c1 c2 k_) (fun ρ x_ r_ k_ => uP x_ fun c x_ => uP x_ fun i x_ => uP x_ fun c0 x_ => uP x_ fun c1 x_ => uP x_ fun c2 x_ => uP x_ fun t20 x_ => uP x_ fun t21 x_ => sel r_ (fun r_ => k_ 1 (Shape.inj R_Check.c100008x0 (c, r_.1, c0, c1, c2, r_.2.1, r_.2.2, ()))) (fun r_ => k_ 2 (Shape.inj R_Check.c100008x1 (c, r_, c0, c1, c2, t20, t21, ()))))
def R_Check (c : (Int) × ((Int) × (List ((Int) × ((Int) × ((List Int) × ((Int) × ((Int) × (List Int))))))))) : Option ((Int) × (Int)) :=
  bnd (W.R_Check.c1 (Prod.fst c) some) fun y =>
  br y
   (bnd (W.R_rfault (6 : Int) (0 : Int)) fun y_1 =>
    some (Prod.fst y_1, Prod.snd y_1))
   (bnd (W.R_Check.c3 (Prod.fst (Prod.snd c)) some) fun y_2 =>
    br y_2
     (bnd (W.R_rfault (7 : Int) (0 : Int)) fun y_3 =>
      some (Prod.fst y_3, Prod.snd y_3))
     (br (decide ((↑(List.length (Prod.snd (Prod.snd c))) : Int) > (4096 : Int)))
       (bnd (W.R_rfault (2 : Int) (0 : Int)) fun y_4 =>
        some (Prod.fst y_4, Prod.snd y_4))
       (bnd (iter (fun s ↦ W.R_Check.c100008 s (Prod.fst c) (Prod.fst (Prod.snd c)) (Prod.snd (Prod.snd c)) some) (0 : Int)) fun y_5 =>
        sel y_5
         (fun u => some (Prod.fst (Prod.snd u), Prod.snd (Prod.snd u)))
         (fun v => some ((0 : Int), (0 : Int))))))
def R_Check.ce : Go.Ql.Callee := ⟨[(.st (.pair (.int .i64) (.pair (.int .i64) (.sl (.st (.pair (.int .i64) (.pair (.int .i64) (.pair (.sl (.int .i64)) (.pair (.int .i64) (.pair (.int .i64) (.sl (.int .i64))))))))))))], [(.st (.pair (.int .i64) (.int .i64)))], fun x_ => R_Check x_⟩
def R_Check.G : Env := ⟨51, tab, [(42, R_rfault.ce), (43, R_badOp.ce)], [0, 1, 2, 3, 4, 12, 21, 26, 32, 46], [], [(10, [⟨[], [], [37, 40, 41, 42, 43], []⟩, ⟨[0], [], [37, 40, 41, 42, 43], []⟩, ⟨[], [], [35, 36, 40, 41, 42, 43], []⟩, ⟨[1, 0, 2], [], [40, 41, 42, 43], []⟩, ⟨[3, 1, 0, 2], [], [40, 41, 42, 43], []⟩, ⟨[], [], [35, 36, 37, 38, 39, 42, 43], []⟩, ⟨[5], [], [35, 36, 37, 38, 39, 42, 43], []⟩, ⟨[], [], [35, 36, 37, 38, 39, 40, 41], []⟩, ⟨[7], [], [35, 36, 37, 38, 39, 40, 41], []⟩, ⟨[4, 3, 1, 0, 2, 6, 5, 8, 7], [], [], []⟩, ⟨[9, 4, 3, 1, 0, 2, 6, 5, 8, 7], [], [], []⟩])], [(100008, R_Check.c100008r), (10, R_Check.c10r), (3, R_Check.c3r), (1, R_Check.c1r)], [], tab_eqs⟩
theorem R_Check.eq (x_ : dens [(.st (.pair (.int .i64) (.pair (.int .i64) (.sl (.st (.pair (.int .i64) (.pair (.int .i64) (.pair (.sl (.int .i64)) (.pair (.int .i64) (.pair (.int .i64) (.sl (.int .i64))))))))))))]) : den R_Check.G Go.Proofs.Tryd.f15 [(.st (.pair (.int .i64) (.pair (.int .i64) (.sl (.st (.pair (.int .i64) (.pair (.int .i64) (.pair (.sl (.int .i64)) (.pair (.int .i64) (.pair (.int .i64) (.sl (.int .i64))))))))))))] [(.st (.pair (.int .i64) (.int .i64)))] x_ = R_Check x_ := by kernel_rfl
theorem R_Check.p0 : PieceOk R_Check.G (pieceAt (pieces R_Check.G.cks (bodyOf Go.Proofs.Tryd.f15)) 0).1 (pieceAt (pieces R_Check.G.cks (bodyOf Go.Proofs.Tryd.f15)) 0).2 :=
  region_ok (s := R_Check.c1r) (by kernel_rfl) (by kernel_rfl) (sums_of (sh := R_Check.c1s) (fun ρ x_ k_ => (nat_br nat_leaf nat_leaf)) (fun ρ x_ t k => (by kernel_rfl)) (fun x_ => by kernel_rfl))
theorem R_Check.p1 : PieceOk R_Check.G (pieceAt (pieces R_Check.G.cks (bodyOf Go.Proofs.Tryd.f15)) 1).1 (pieceAt (pieces R_Check.G.cks (bodyOf Go.Proofs.Tryd.f15)) 1).2 :=
  region_ok (s := R_Check.c3r) (by kernel_rfl) (by kernel_rfl) (sums_of (sh := R_Check.c3s) (fun ρ x_ k_ => (nat_br nat_leaf nat_leaf)) (fun ρ x_ t k => (by kernel_rfl)) (fun x_ => by kernel_rfl))
theorem R_Check.p2 : PieceOk R_Check.G (pieceAt (pieces R_Check.G.cks (bodyOf Go.Proofs.Tryd.f15)) 2).1 (pieceAt (pieces R_Check.G.cks (bodyOf Go.Proofs.Tryd.f15)) 2).2 :=
  loop_ok (s := R_Check.c100008r) (by kernel_rfl) (by kernel_rfl) (loops_of (sh := R_Check.c100008s) (I := fun x_ s_ => (x_.1, s_, x_.2.2.1, x_.2.2.2.1, x_.2.2.2.2.1, x_.2.2.2.2.2.1, x_.2.2.2.2.2.2.1, ())) (fun x_ => rfl) (fun ρ x_ s_ k_ => (nat_br (nat_bnd fun _ => (nat_br (nat_bnd fun _ => nat_leaf) nat_leaf)) nat_leaf)) (fun ρ x_ t k => (nat_sel (fun _ => (by kernel_rfl)) (fun _ => (by kernel_rfl)))) (fun x_ s => by kernel_rfl))
theorem R_Check.p3 : PieceOk R_Check.G (pieceAt (pieces R_Check.G.cks (bodyOf Go.Proofs.Tryd.f15)) 3).1 (pieceAt (pieces R_Check.G.cks (bodyOf Go.Proofs.Tryd.f15)) 3).2 :=
  region_ok (s := R_Check.c10r) (by kernel_rfl) (by kernel_rfl) (sums_of (sh := R_Check.c10s) (fun ρ x_ k_ => (nat_bnd fun _ => (nat_bnd fun _ => nat_leaf))) (fun ρ x_ t k => (by kernel_rfl)) (fun x_ => by kernel_rfl))
theorem R_Check.ok : CalleeOk Go.Proofs.Tryd.prog 15 R_Check.ce := fn_ok (G := R_Check.G) tab_ok mixed Go.Proofs.Tryd.func15 ⟨(fns_cons R_rfault.ok (fns_cons R_badOp.ok fns_nil)), mfns_nil, tab_eqs_ok⟩ (m := 4) (by kernel_rfl) ⟨⟨⟨⟨trivial, R_Check.p0⟩, R_Check.p1⟩, R_Check.p2⟩, R_Check.p3⟩ (by kernel_rfl) R_Check.eq
abbrev q59 : SD := .one (.own 3 0)
def R_copyInts.c100003 {ρ : Type} (l : List (Int)) (i : Int) (out : List (Int)) (k_ : ((Int) × (List Int)) ⊕ ((Int) × (List Int)) → Option ρ) : Option ρ :=
  br (decide (i < (↑(List.length l) : Int)))
   (bnd (idx l i) fun y =>
    bnd (okIf (decide ((List.length out + List.length [y]) * (8 : Nat) ≤ (140737488355328 : Nat)) && decide (List.length out + List.length [y] ≤ (140737488355328 : Nat)))) fun y_1 =>
    k_ (.inl ((IntKind.wrap IntKind.i64 (i + (1 : Int))), (out ++ [y]))))
   (k_ (.inr (i, out)))
def R_copyInts.c100003s : Shape := ⟨[(0, q8), (2, q8), (3, q59), (4, q0)], [(3, q32)]⟩
def R_copyInts.c100003x0 : Shape := ⟨[(0, q8), (2, q8), (3, q59), (4, q0)], [(3, q32)]⟩
def R_copyInts.c100003r : Ck := Ck.ofLoop (S := (Int) × (List Int)) (T := (Int) × (List Int)) R_copyInts.c100003s (fun x_ => uP x_ fun l x_ => uP x_ fun t2 x_ => uP x_ fun i x_ => uP x_ fun out x_ => (i, out)) (fun ρ x_ s_ k_ => uP x_ fun l x_ => uP x_ fun t2 x_ => uP x_ fun i x_ => uP x_ fun out x_ => R_copyInts.c100003 l s_.1 s_.2 k_) (fun ρ x_ r_ k_ => uP x_ fun l x_ => uP x_ fun t2 x_ => uP x_ fun i x_ => uP x_ fun out x_ => k_ 2 (Shape.inj R_copyInts.c100003x0 (l, t2, r_.1, r_.2, ())))
def R_copyInts (l : List (Int)) : Option (List Int) :=
  bnd (iter (fun s ↦ W.R_copyInts.c100003 l (Prod.fst s) (Prod.snd s) some) ((0 : Int), [])) fun y =>
  some (Prod.snd y)
def R_copyInts.ce : Go.Ql.Callee := ⟨[(.sl (.int .i64))], [(.sl (.int .i64))], fun x_ => R_copyInts x_⟩
def R_copyInts.G : Env := ⟨19, tab, [], [0, 2, 3, 4, 8], [3], [], [(100003, R_copyInts.c100003r)], [], tab_eqs⟩
theorem R_copyInts.eq (x_ : dens [(.sl (.int .i64))]) : den R_copyInts.G Go.Proofs.Tryd.f67 [(.sl (.int .i64))] [(.sl (.int .i64))] x_ = R_copyInts x_ := by kernel_rfl
theorem R_copyInts.p0 : PieceOk R_copyInts.G (pieceAt (pieces R_copyInts.G.cks (bodyOf Go.Proofs.Tryd.f67)) 0).1 (pieceAt (pieces R_copyInts.G.cks (bodyOf Go.Proofs.Tryd.f67)) 0).2 :=
  loop_ok (s := R_copyInts.c100003r) (by kernel_rfl) (by kernel_rfl) (loops_of (sh := R_copyInts.c100003s) (I := fun x_ s_ => (x_.1, x_.2.1, s_.1, s_.2, ())) (fun x_ => rfl) (fun ρ x_ s_ k_ => (nat_br (nat_bnd fun _ => (nat_bnd fun _ => nat_leaf)) nat_leaf)) (fun ρ x_ t k => (by kernel_rfl)) (fun x_ s => by kernel_rfl))
theorem R_copyInts.ok : CalleeOk Go.Proofs.Tryd.prog 67 R_copyInts.ce := fn_ok (G := R_copyInts.G) tab_ok mixed Go.Proofs.Tryd.func67 ⟨fns_nil, mfns_nil, tab_eqs_ok⟩ (m := 1) (by kernel_rfl) ⟨trivial, R_copyInts.p0⟩ (by kernel_rfl) R_copyInts.eq
def R_copyOp (o : (Int) × ((Int) × ((List Int) × ((Int) × ((Int) × (List Int)))))) : Option ((Int) × ((Int) × ((List Int) × ((Int) × ((Int) × (List Int)))))) :=
  bnd (W.R_copyInts (Prod.fst (Prod.snd (Prod.snd o)))) fun y =>
  bnd (W.R_copyInts (Prod.snd (Prod.snd (Prod.snd (Prod.snd (Prod.snd o)))))) fun y_1 =>
  some (Prod.fst o, Prod.fst (Prod.snd o), y, Prod.fst (Prod.snd (Prod.snd (Prod.snd o))), Prod.fst (Prod.snd (Prod.snd (Prod.snd (Prod.snd o)))), y_1)
def R_copyOp.ce : Go.Ql.Callee := ⟨[(.st (.pair (.int .i64) (.pair (.int .i64) (.pair (.sl (.int .i64)) (.pair (.int .i64) (.pair (.int .i64) (.sl (.int .i64))))))))], [(.st (.pair (.int .i64) (.pair (.int .i64) (.pair (.sl (.int .i64)) (.pair (.int .i64) (.pair (.int .i64) (.sl (.int .i64))))))))], fun x_ => R_copyOp x_⟩
def R_copyOp.G : Env := ⟨12, tab, [(67, R_copyInts.ce)], [0, 1, 2], [], [], [], [], tab_eqs⟩
theorem R_copyOp.eq (x_ : dens [(.st (.pair (.int .i64) (.pair (.int .i64) (.pair (.sl (.int .i64)) (.pair (.int .i64) (.pair (.int .i64) (.sl (.int .i64))))))))]) : den R_copyOp.G Go.Proofs.Tryd.f37 [(.st (.pair (.int .i64) (.pair (.int .i64) (.pair (.sl (.int .i64)) (.pair (.int .i64) (.pair (.int .i64) (.sl (.int .i64))))))))] [(.st (.pair (.int .i64) (.pair (.int .i64) (.pair (.sl (.int .i64)) (.pair (.int .i64) (.pair (.int .i64) (.sl (.int .i64))))))))] x_ = R_copyOp x_ := by kernel_rfl
theorem R_copyOp.ok : CalleeOk Go.Proofs.Tryd.prog 37 R_copyOp.ce := fn_ok (G := R_copyOp.G) tab_ok mixed Go.Proofs.Tryd.func37 ⟨(fns_cons R_copyInts.ok fns_nil), mfns_nil, tab_eqs_ok⟩ (m := 0) (by kernel_rfl) trivial (by kernel_rfl) R_copyOp.eq
abbrev q60 : SO := .box [.val (.int .i64), .val (.int .i64), .own 3003 0]
def R_CopyCircuit.c5 {ρ : Type} (i : Int) (c2 : List ((Int) × ((Int) × ((List Int) × ((Int) × ((Int) × (List Int))))))) (t3003 : List ((Int) × ((Int) × ((List Int) × ((Int) × ((Int) × (List Int))))))) (k_ : List ((Int) × ((Int) × ((List Int) × ((Int) × ((Int) × (List Int)))))) → Option ρ) : Option ρ :=
  bnd (idx c2 i) fun y =>
  bnd (W.R_copyOp y) fun y_1 =>
  bnd (okIf (decide ((List.length t3003 + List.length [y_1]) * (80 : Nat) ≤ (140737488355328 : Nat)) && decide (List.length t3003 + List.length [y_1] ≤ (140737488355328 : Nat)))) fun y_2 =>
  k_ (t3003 ++ [y_1])
def R_CopyCircuit.c5s : Shape := ⟨[(0, q10), (1, q11), (2, q5), (3, q24), (4, q0)], [(1, q4), (2, q4), (3, q60), (3003, q44)]⟩
def R_CopyCircuit.c5x0 : Shape := ⟨[(0, q10), (1, q11), (2, q5), (3, q24), (4, q0)], [(1, q4), (2, q4), (3, q60), (3003, q44)]⟩
def R_CopyCircuit.c5r : Ck := Ck.of (T := List ((Int) × ((Int) × ((List Int) × ((Int) × ((Int) × (List Int))))))) R_CopyCircuit.c5s (fun ρ x_ k_ => uP x_ fun c x_ => uP x_ fun i x_ => uP x_ fun c0 x_ => uP x_ fun c1 x_ => uP x_ fun c2 x_ => uP x_ fun t20 x_ => uP x_ fun t21 x_ => uP x_ fun t22 x_ => uP x_ fun out0 x_ => uP x_ fun out1 x_ => uP x_ fun t3003 x_ => R_CopyCircuit.c5 i c2 t3003 k_) (fun ρ x_ r_ k_ => uP x_ fun c x_ => uP x_ fun i x_ => uP x_ fun c0 x_ => uP x_ fun c1 x_ => uP x_ fun c2 x_ => uP x_ fun t20 x_ => uP x_ fun t21 x_ => uP x_ fun t22 x_ => uP x_ fun out0 x_ => uP x_ fun out1 x_ => uP x_ fun t3003 x_ => k_ 0 (Shape.inj R_CopyCircuit.c5x0 (c, i, c0, c1, c2, t20, t21, t22, out0, out1, r_, ())))
def R_CopyCircuit.c100003 {ρ : Type} (i : Int) (c2 : List ((Int) × ((Int) × ((List Int) × ((Int) × ((Int) × (List Int))))))) (t3003 : List ((Int) × ((Int) × ((List Int) × ((Int) × ((Int) × (List Int))))))) (k_ : ((Int) × (List ((Int) × ((Int) × ((List Int) × ((Int) × ((Int) × (List Int)))))))) ⊕ ((Int) × (List ((Int) × ((Int) × ((List Int) × ((Int) × ((Int) × (List Int)))))))) → Option ρ) : Option ρ :=
  br (decide (i < (↑(List.length c2) : Int)))
   (bnd (W.R_CopyCircuit.c5 i c2 t3003 some) fun y =>
    k_ (.inl ((IntKind.wrap IntKind.i64 (i + (1 : Int))), y)))
   (k_ (.inr (i, t3003)))
def R_CopyCircuit.c100003s : Shape := ⟨[(0, q10), (1, q11), (2, q5), (3, q24), (4, q0)], [(1, q4), (2, q4), (3, q60), (3003, q44)]⟩
def R_CopyCircuit.c100003x0 : Shape := ⟨[(0, q10), (1, q11), (2, q5), (3, q24), (4, q0)], [(1, q4), (2, q4), (3, q60), (3003, q44)]⟩
def R_CopyCircuit.c100003r : Ck := Ck.ofLoop (S := (Int) × (List ((Int) × ((Int) × ((List Int) × ((Int) × ((Int) × (List Int)))))))) (T := (Int) × (List ((Int) × ((Int) × ((List Int) × ((Int) × ((Int) × (List Int)))))))) R_CopyCircuit.c100003s (fun x_ => uP x_ fun c x_ => uP x_ fun i x_ => uP x_ fun c0 x_ => uP x_ fun c1 x_ => uP x_ fun c2 x_ => uP x_ fun t20 x_ => uP x_ fun t21 x_ => uP x_ fun t22 x_ => uP x_ fun out0 x_ => uP x_ fun out1 x_ => uP x_ fun t3003 x_ => (i, t3003)) (fun ρ x_ s_ k_ => uP x_ fun c x_ => uP x_ fun i x_ => uP x_ fun c0 x_ => uP x_ fun c1 x_ => uP x_ fun c2 x_ => uP x_ fun t20 x_ => uP x_ fun t21 x_ => uP x_ fun t22 x_ => uP x_ fun out0 x_ => uP x_ fun out1 x_ => uP x_ fun t3003 x_ => R_CopyCircuit.c100003 s_.1 c2 s_.2 k_) (fun ρ x_ r_ k_ => uP x_ fun c x_ => uP x_ fun i x_ => uP x_ fun c0 x_ => uP x_ fun c1 x_ => uP x_ fun c2 x_ => uP x_ fun t20 x_ => uP x_ fun t21 x_ => uP x_ fun t22 x_ => uP x_ fun out0 x_ => uP x_ fun out1 x_ => uP x_ fun t3003 x_ => k_ 2 (Shape.inj R_CopyCircuit.c100003x0 (c, r_.1, c0, c1, c2, t20, t21, t22, out0, out1, r_.2, ())))
def R_CopyCircuit (c : (Int) × ((Int) × (List ((Int) × ((Int) × ((List Int) × ((Int) × ((Int) × (List Int))))))))) : Option ((Int) × ((Int) × (List ((Int) × ((Int) × ((List Int) × ((Int) × ((Int) × (List Int))))))))) :=
  bnd (iter (fun s ↦ W.R_CopyCircuit.c100003 (Prod.fst s) (Prod.snd (Prod.snd c)) (Prod.snd s) some) ((0 : Int), [])) fun y =>
  some (Prod.fst c, Prod.fst (Prod.snd c), Prod.snd y)
def R_CopyCircuit.ce : Go.Ql.Callee := ⟨[(.st (.pair (.int .i64) (.pair (.int .i64) (.sl (.st (.pair (.int .i64) (.pair (.int .i64) (.pair (.sl (.int .i64)) (.pair (.int .i64) (.pair (.int .i64) (.sl (.int .i64))))))))))))], [(.st (.pair (.int .i64) (.pair (.int .i64) (.sl (.st (.pair (.int .i64) (.pair (.int .i64) (.pair (.sl (.int .i64)) (.pair (.int .i64) (.pair (.int .i64) (.sl (.int .i64))))))))))))], fun x_ => R_CopyCircuit x_⟩
def R_CopyCircuit.G : Env := ⟨29, tab, [(37, R_copyOp.ce)], [0, 1, 2, 3, 4, 14], [1, 3, 9, 3001, 3003], [(5, [⟨[], [], [19, 20, 21, 22, 23, 24, 25], [25]⟩, ⟨[0], [], [19, 20, 21, 22, 23, 24, 25], [25]⟩, ⟨[], [], [17, 18, 21], []⟩, ⟨[2], [], [17, 18, 21], []⟩, ⟨[], [], [17, 18, 19, 20], []⟩, ⟨[3, 2, 4], [], [17, 18], []⟩, ⟨[5, 3, 2, 4], [], [17, 18], []⟩, ⟨[6, 5, 3, 2, 4], [], [17, 18], []⟩, ⟨[7, 6, 5, 3, 2, 4], [25], [17, 18], []⟩, ⟨[1, 0, 8, 7, 6, 5, 3, 2, 4], [3003], [], []⟩, ⟨[0, 1, 2, 3, 4, 5, 6, 7, 8, 9], [], [], []⟩, ⟨[10, 0, 1, 2, 3, 4, 5, 6, 7, 8, 9], [3], [], []⟩])], [(100003, R_CopyCircuit.c100003r), (5, R_CopyCircuit.c5r)], [], tab_eqs⟩
theorem R_CopyCircuit.eq (x_ : dens [(.st (.pair (.int .i64) (.pair (.int .i64) (.sl (.st (.pair (.int .i64) (.pair (.int .i64) (.pair (.sl (.int .i64)) (.pair (.int .i64) (.pair (.int .i64) (.sl (.int .i64))))))))))))]) : den R_CopyCircuit.G Go.Proofs.Tryd.f11 [(.st (.pair (.int .i64) (.pair (.int .i64) (.sl (.st (.pair (.int .i64) (.pair (.int .i64) (.pair (.sl (.int .i64)) (.pair (.int .i64) (.pair (.int .i64) (.sl (.int .i64))))))))))))] [(.st (.pair (.int .i64) (.pair (.int .i64) (.sl (.st (.pair (.int .i64) (.pair (.int .i64) (.pair (.sl (.int .i64)) (.pair (.int .i64) (.pair (.int .i64) (.sl (.int .i64))))))))))))] x_ = R_CopyCircuit x_ := by kernel_rfl
theorem R_CopyCircuit.p0 : PieceOk R_CopyCircuit.G (pieceAt (pieces R_CopyCircuit.G.cks (bodyOf Go.Proofs.Tryd.f11)) 0).1 (pieceAt (pieces R_CopyCircuit.G.cks (bodyOf Go.Proofs.Tryd.f11)) 0).2 :=
  loop_ok (s := R_CopyCircuit.c100003r) (by kernel_rfl) (by kernel_rfl) (loops_of (sh := R_CopyCircuit.c100003s) (I := fun x_ s_ => (x_.1, s_.1, x_.2.2.1, x_.2.2.2.1, x_.2.2.2.2.1, x_.2.2.2.2.2.1, x_.2.2.2.2.2.2.1, x_.2.2.2.2.2.2.2.1, x_.2.2.2.2.2.2.2.2.1, x_.2.2.2.2.2.2.2.2.2.1, s_.2, ())) (fun x_ => rfl) (fun ρ x_ s_ k_ => (nat_br (nat_bnd fun _ => nat_leaf) nat_leaf)) (fun ρ x_ t k => (by kernel_rfl)) (fun x_ s => by kernel_rfl))
theorem R_CopyCircuit.p1 : PieceOk R_CopyCircuit.G (pieceAt (pieces R_CopyCircuit.G.cks (bodyOf Go.Proofs.Tryd.f11)) 1).1 (pieceAt (pieces R_CopyCircuit.G.cks (bodyOf Go.Proofs.Tryd.f11)) 1).2 :=
  region_ok (s := R_CopyCircuit.c5r) (by kernel_rfl) (by kernel_rfl) (sums_of (sh := R_CopyCircuit.c5s) (fun ρ x_ k_ => (nat_bnd fun _ => (nat_bnd fun _ => (nat_bnd fun _ => nat_leaf)))) (fun ρ x_ t k => (by kernel_rfl)) (fun x_ => by kernel_rfl))
theorem R_CopyCircuit.ok : CalleeOk Go.Proofs.Tryd.prog 11 R_CopyCircuit.ce := fn_ok (G := R_CopyCircuit.G) tab_ok mixed Go.Proofs.Tryd.func11 ⟨(fns_cons R_copyOp.ok fns_nil), mfns_nil, tab_eqs_ok⟩ (m := 2) (by kernel_rfl) ⟨⟨trivial, R_CopyCircuit.p0⟩, R_CopyCircuit.p1⟩ (by kernel_rfl) R_CopyCircuit.eq
def R_SameInts.c6 {ρ : Type} (a : List (Int)) (b : List (Int)) (i : Int) (k_ : Bool → Option ρ) : Option ρ :=
  bnd (idx a i) fun y =>
  bnd (idx b i) fun y_1 =>
  k_ (y != y_1)
def R_SameInts.c6s : Shape := ⟨[(0, q8), (1, q8), (4, q1), (5, q0)], []⟩
def R_SameInts.c6x0 : Shape := ⟨[(0, q8), (1, q8), (4, q1), (5, q0), (25, q1)], []⟩
def R_SameInts.c6r : Ck := Ck.of (T := Bool) R_SameInts.c6s (fun ρ x_ k_ => uP x_ fun a x_ => uP x_ fun b x_ => uP x_ fun t4 x_ => uP x_ fun i x_ => R_SameInts.c6 a b i k_) (fun ρ x_ r_ k_ => uP x_ fun a x_ => uP x_ fun b x_ => uP x_ fun t4 x_ => uP x_ fun i x_ => k_ 0 (Shape.inj R_SameInts.c6x0 (a, b, t4, i, r_, ())))
def R_SameInts.c100004 {ρ : Type} (a : List (Int)) (b : List (Int)) (i : Int) (k_ : (Int) ⊕ ((Int) ⊕ (Int)) → Option ρ) : Option ρ :=
  br (decide (i < (↑(List.length a) : Int)))
   (bnd (W.R_SameInts.c6 a b i some) fun y =>
    br y
     (k_ (.inr (.inl i)))
     (k_ (.inl (IntKind.wrap IntKind.i64 (i + (1 : Int))))))
   (k_ (.inr (.inr i)))
def R_SameInts.c100004s : Shape := ⟨[(0, q8), (1, q8), (4, q1), (5, q0)], []⟩
def R_SameInts.c100004x0 : Shape := ⟨[(0, q8), (1, q8), (4, q1), (5, q0)], []⟩
def R_SameInts.c100004x1 : Shape := ⟨[(0, q8), (1, q8), (4, q1), (5, q0)], []⟩
def R_SameInts.c100004r : Ck := Ck.ofLoop (S := Int) (T := (Int) ⊕ (Int)) R_SameInts.c100004s (fun x_ => uP x_ fun a x_ => uP x_ fun b x_ => uP x_ fun t4 x_ => uP x_ fun i x_ => i) (fun ρ x_ s_ k_ => uP x_ fun a x_ => uP x_ fun b x_ => uP x_ fun t4 x_ => uP x_ fun i x_ => R_SameInts.c100004 a b s_ k_) (fun ρ x_ r_ k_ => uP x_ fun a x_ => uP x_ fun b x_ => uP x_ fun t4 x_ => uP x_ fun i x_ => sel r_ (fun r_ => k_ 1 (Shape.inj R_SameInts.c100004x0 (a, b, false, r_, ()))) (fun r_ => k_ 2 (Shape.inj R_SameInts.c100004x1 (a, b, t4, r_, ()))))
def R_SameInts (a : List (Int)) (b : List (Int)) : Option (Bool) :=
  br ((↑(List.length a) : Int) != (↑(List.length b) : Int))
   (some false)
   (bnd (iter (fun s ↦ W.R_SameInts.c100004 a b s some) (0 : Int)) fun y =>
    sel y
     (fun u => some false)
     (fun v => some true))
def R_SameInts.ce : Go.Ql.Callee := ⟨[(.sl (.int .i64)), (.sl (.int .i64))], [.bool], fun x_ => R_SameInts x_.1 x_.2⟩
def R_SameInts.G : Env := ⟨26, tab, [], [0, 1, 4, 5, 10, 14, 25], [], [(6, [⟨[], [], [18, 21, 22, 23, 24], []⟩, ⟨[], [], [17, 21, 22, 23, 24], []⟩, ⟨[0, 1], [], [21, 22, 23, 24], []⟩, ⟨[2, 0, 1], [], [21, 22, 23, 24], []⟩, ⟨[], [], [17, 18, 19, 20, 22], []⟩, ⟨[], [], [17, 18, 19, 20, 21], []⟩, ⟨[4, 5], [], [17, 18, 19, 20], []⟩, ⟨[6, 4, 5], [], [17, 18, 19, 20], []⟩, ⟨[3, 2, 0, 1, 7, 6, 4, 5], [], [], []⟩])], [(100004, R_SameInts.c100004r), (6, R_SameInts.c6r)], [], tab_eqs⟩
theorem R_SameInts.eq (x_ : dens [(.sl (.int .i64)), (.sl (.int .i64))]) : den R_SameInts.G Go.Proofs.Tryd.f30 [(.sl (.int .i64)), (.sl (.int .i64))] [.bool] x_ = R_SameInts x_.1 x_.2 := by kernel_rfl
theorem R_SameInts.p0 : PieceOk R_SameInts.G (pieceAt (pieces R_SameInts.G.cks (bodyOf Go.Proofs.Tryd.f30)) 0).1 (pieceAt (pieces R_SameInts.G.cks (bodyOf Go.Proofs.Tryd.f30)) 0).2 :=
  loop_ok (s := R_SameInts.c100004r) (by kernel_rfl) (by kernel_rfl) (loops_of (sh := R_SameInts.c100004s) (I := fun x_ s_ => (x_.1, x_.2.1, x_.2.2.1, s_, ())) (fun x_ => rfl) (fun ρ x_ s_ k_ => (nat_br (nat_bnd fun _ => (nat_br nat_leaf nat_leaf)) nat_leaf)) (fun ρ x_ t k => (nat_sel (fun _ => (by kernel_rfl)) (fun _ => (by kernel_rfl)))) (fun x_ s => by kernel_rfl))
theorem R_SameInts.p1 : PieceOk R_SameInts.G (pieceAt (pieces R_SameInts.G.cks (bodyOf Go.Proofs.Tryd.f30)) 1).1 (pieceAt (pieces R_SameInts.G.cks (bodyOf Go.Proofs.Tryd.f30)) 1).2 :=
  region_ok (s := R_SameInts.c6r) (by kernel_rfl) (by kernel_rfl) (sums_of (sh := R_SameInts.c6s) (fun ρ x_ k_ => (nat_bnd fun _ => (nat_bnd fun _ => nat_leaf))) (fun ρ x_ t k => (by kernel_rfl)) (fun x_ => by kernel_rfl))
theorem R_SameInts.ok : CalleeOk Go.Proofs.Tryd.prog 30 R_SameInts.ce := fn_ok (G := R_SameInts.G) tab_ok mixed Go.Proofs.Tryd.func30 ⟨fns_nil, mfns_nil, tab_eqs_ok⟩ (m := 2) (by kernel_rfl) ⟨⟨trivial, R_SameInts.p0⟩, R_SameInts.p1⟩ (by kernel_rfl) R_SameInts.eq
def R_SameCircuit.c1 {ρ : Type} (a0 : Int) (a1 : Int) (a2 : List ((Int) × ((Int) × ((List Int) × ((Int) × ((Int) × (List Int))))))) (b0 : Int) (b1 : Int) (b2 : List ((Int) × ((Int) × ((List Int) × ((Int) × ((Int) × (List Int))))))) (k_ : Bool → Option ρ) : Option ρ :=
  br (a0 != b0)
   (k_ true)
   (br (a1 != b1)
     (k_ true)
     (k_ ((↑(List.length a2) : Int) != (↑(List.length b2) : Int))))
def R_SameCircuit.c1s : Shape := ⟨[(0, q10), (1, q10), (2, q5), (3, q24), (4, q1)], [(2, q4), (3, q4)]⟩
def R_SameCircuit.c1x0 : Shape := ⟨[(0, q10), (1, q10), (2, q5), (3, q24), (4, q1), (28, q1)], [(2, q4), (3, q4)]⟩
def R_SameCircuit.c1r : Ck := Ck.of (T := Bool) R_SameCircuit.c1s (fun ρ x_ k_ => uP x_ fun a x_ => uP x_ fun b x_ => uP x_ fun t4 x_ => uP x_ fun a0 x_ => uP x_ fun a1 x_ => uP x_ fun a2 x_ => uP x_ fun b0 x_ => uP x_ fun b1 x_ => uP x_ fun b2 x_ => R_SameCircuit.c1 a0 a1 a2 b0 b1 b2 k_) (fun ρ x_ r_ k_ => uP x_ fun a x_ => uP x_ fun b x_ => uP x_ fun t4 x_ => uP x_ fun a0 x_ => uP x_ fun a1 x_ => uP x_ fun a2 x_ => uP x_ fun b0 x_ => uP x_ fun b1 x_ => uP x_ fun b2 x_ => k_ 0 (Shape.inj R_SameCircuit.c1x0 (a, b, t4, r_, a0, a1, a2, b0, b1, b2, ())))
def R_SameCircuit.c8 {ρ : Type} (x0 : Int) (x1 : Int) (x2 : List (Int)) (x3 : Int) (x4 : Int) (x5 : List (Int)) (y0 : Int) (y1 : Int) (y2 : List (Int)) (y3 : Int) (y4 : Int) (y5 : List (Int)) (k_ : Bool → Option ρ) : Option ρ :=
  br (x0 != y0)
   (k_ true)
   (br (x1 != y1)
     (k_ true)
     (br (x3 != y3)
       (k_ true)
       (br (x4 != y4)
         (k_ true)
         (bnd (W.R_SameInts x2 y2) fun y =>
          br (!y)
           (k_ true)
           (bnd (W.R_SameInts x5 y5) fun y_1 =>
            k_ (!y_1))))))
def R_SameCircuit.c8s : Shape := ⟨[(0, q10), (1, q10), (2, q5), (3, q24), (4, q1), (5, q0), (6, q45), (7, q42)], [(2, q4), (3, q4), (6, q6), (7, q6)]⟩
def R_SameCircuit.c8x0 : Shape := ⟨[(0, q10), (1, q10), (2, q5), (3, q24), (4, q1), (5, q0), (6, q45), (7, q42), (87, q1)], [(2, q4), (3, q4), (6, q6), (7, q6)]⟩
def R_SameCircuit.c8r : Ck := Ck.of (T := Bool) R_SameCircuit.c8s (fun ρ x_ k_ => uP x_ fun a x_ => uP x_ fun b x_ => uP x_ fun t4 x_ => uP x_ fun i x_ => uP x_ fun a0 x_ => uP x_ fun a1 x_ => uP x_ fun a2 x_ => uP x_ fun b0 x_ => uP x_ fun b1 x_ => uP x_ fun b2 x_ => uP x_ fun x0 x_ => uP x_ fun x1 x_ => uP x_ fun x2 x_ => uP x_ fun x3 x_ => uP x_ fun x4 x_ => uP x_ fun x5 x_ => uP x_ fun y0 x_ => uP x_ fun y1 x_ => uP x_ fun y2 x_ => uP x_ fun y3 x_ => uP x_ fun y4 x_ => uP x_ fun y5 x_ => R_SameCircuit.c8 x0 x1 x2 x3 x4 x5 y0 y1 y2 y3 y4 y5 k_) (fun ρ x_ r_ k_ => uP x_ fun a x_ => uP x_ fun b x_ => uP x_ fun t4 x_ => uP x_ fun i x_ => uP x_ fun a0 x_ => uP x_ fun a1 x_ => uP x_ fun a2 x_ => uP x_ fun b0 x_ => uP x_ fun b1 x_ => uP x_ fun b2 x_ => uP x_ fun x0 x_ => uP x_ fun x1 x_ => uP x_ fun x2 x_ => uP x_ fun x3 x_ => uP x_ fun x4 x_ => uP x_ fun x5 x_ => uP x_ fun y0 x_ => uP x_ fun y1 x_ => uP x_ fun y2 x_ => uP x_ fun y3 x_ => uP x_ fun y4 x_ => uP x_ fun y5 x_ => k_ 0 (Shape.inj R_SameCircuit.c8x0 (a, b, t4, i, r_, a0, a1, a2, b0, b1, b2, x0, x1, x2, x3, x4, x5, y0, y1, y2, y3, y4, y5, ())))
def R_SameCircuit.c100004 {ρ : Type} (i : Int) (a2 : List ((Int) × ((Int) × ((List Int) × ((Int) × ((Int) × (List Int))))))) (b2 : List ((Int) × ((Int) × ((List Int) × ((Int) × ((Int) × (List Int))))))) (k_ : (Int) ⊕ ((Int) ⊕ (Int)) → Option ρ) : Option ρ :=
  br (decide (i < (↑(List.length a2) : Int)))
   (bnd (idx a2 i) fun y =>
    bnd (idx b2 i) fun y_1 =>
    bnd (W.R_SameCircuit.c8 (Prod.fst y) (Prod.fst (Prod.snd y)) (Prod.fst (Prod.snd (Prod.snd y))) (Prod.fst (Prod.snd (Prod.snd (Prod.snd y)))) (Prod.fst (Prod.snd (Prod.snd (Prod.snd (Prod.snd y))))) (Prod.snd (Prod.snd (Prod.snd (Prod.snd (Prod.snd y))))) (Prod.fst y_1) (Prod.fst (Prod.snd y_1)) (Prod.fst (Prod.snd (Prod.snd y_1))) (Prod.fst (Prod.snd (Prod.snd (Prod.snd y_1)))) (Prod.fst (Prod.snd (Prod.snd (Prod.snd (Prod.snd y_1))))) (Prod.snd (Prod.snd (Prod.snd (Prod.snd (Prod.snd y_1))))) some) fun y_2 =>
    br y_2
     (k_ (.inr (.inl i)))
     (k_ (.inl (IntKind.wrap IntKind.i64 (i + (1 : Int))))))
   (k_ (.inr (.inr i)))
def R_SameCircuit.c100004s : Shape := ⟨[(0, q10), (1, q10), (2, q5), (3, q24), (4, q1), (5, q0)], [(2, q4), (3, q4)]⟩
def R_SameCircuit.c100004x0 : Shape := ⟨[(0, q10), (1, q10), (2, q5), (3, q24), (4, q1), (5, q0)], [(2, q4), (3, q4)]⟩
def R_SameCircuit.c100004x1 : Shape := ⟨[(0, q10), (1, q10), (2, q5), (3, q24), (4, q1), (5, q0)], [(2, q4), (3, q4)]⟩
def R_SameCircuit.c100004r : Ck := Ck.ofLoop (S := Int) (T := (Int) ⊕ (Int)) R_SameCircuit.c100004s (fun x_ => uP x_ fun a x_ => uP x_ fun b x_ => uP x_ fun t4 x_ => uP x_ fun i x_ => uP x_ fun a0 x_ => uP x_ fun a1 x_ => uP x_ fun a2 x_ => uP x_ fun b0 x_ => uP x_ fun b1 x_ => uP x_ fun b2 x_ => i) (fun ρ x_ s_ k_ => uP x_ fun a x_ => uP x_ fun b x_ => uP x_ fun t4 x_ => uP x_ fun i x_ => uP x_ fun a0 x_ => uP x_ fun a1 x_ => uP x_ fun a2 x_ => uP x_ fun b0 x_ => uP x_ fun b1 x_ => uP x_ fun b2 x_ => R_SameCircuit.c100004 s_ a2 b2 k_) (fun ρ x_ r_ k_ => uP x_ fun a x_ => uP x_ fun b x_ => uP x_ fun t4 x_ => uP x_ fun i x_ => uP x_ fun a0 x_ => uP x_ fun a1 x_ => uP x_ fun a2 x_ => uP x_ fun b0 x_ => uP x_ fun b1 x_ => uP x_ fun b2 x_ => sel r_ (fun r_ => k_ 1 (Shape.inj R_SameCircuit.c100004x0 (a, b, false, r_, a0, a1, a2, b0, b1, b2, ()))) (fun r_ => k_ 2 (Shape.inj R_SameCircuit.c100004x1 (a, b, t4, r_, a0, a1, a2, b0, b1, b2, ()))))
def R_SameCircuit (a : (Int) × ((Int) × (List ((Int) × ((Int) × ((List Int) × ((Int) × ((Int) × (List Int))))))))) (b : (Int) × ((Int) × (List ((Int) × ((Int) × ((List Int) × ((Int) × ((Int) × (List Int))))))))) : Option (Bool) :=
  bnd (W.R_SameCircuit.c1 (Prod.fst a) (Prod.fst (Prod.snd a)) (Prod.snd (Prod.snd a)) (Prod.fst b) (Prod.fst (Prod.snd b)) (Prod.snd (Prod.snd b)) some) fun y =>
  br y
   (some false)
   (bnd (iter (fun s ↦ W.R_SameCircuit.c100004 s (Prod.snd (Prod.snd a)) (Prod.snd (Prod.snd b)) some) (0 : Int)) fun y_1 =>
    sel y_1
     (fun u => some false)
     (fun v => some true))
def R_SameCircuit.ce : Go.Ql.Callee := ⟨[(.st (.pair (.int .i64) (.pair (.int .i64) (.sl (.st (.pair (.int .i64) (.pair (.int .i64) (.pair (.sl (.int .i64)) (.pair (.int .i64) (.pair (.int .i64) (.sl (.int .i64)))))))))))), (.st (.pair (.int .i64) (.pair (.int .i64) (.sl (.st (.pair (.int .i64) (.pair (.int .i64) (.pair (.sl (.int .i64)) (.pair (.int .i64) (.pair (.int .i64) (.sl (.int .i64))))))))))))], [.bool], fun x_ => R_SameCircuit x_.1 x_.2⟩
def R_SameCircuit.G : Env := ⟨88, tab, [(30, R_SameInts.ce)], [0, 1, 2, 3, 4, 5, 6, 7, 28, 33, 87], [], [], [(100004, R_SameCircuit.c100004r), (8, R_SameCircuit.c8r), (1, R_SameCircuit.c1r)], [], tab_eqs⟩
theorem R_SameCircuit.eq (x_ : dens [(.st (.pair (.int .i64) (.pair (.int .i64) (.sl (.st (.pair (.int .i64) (.pair (.int .i64) (.pair (.sl (.int .i64)) (.pair (.int .i64) (.pair (.int .i64) (.sl (.int .i64)))))))))))), (.st (.pair (.int .i64) (.pair (.int .i64) (.sl (.st (.pair (.int .i64) (.pair (.int .i64) (.pair (.sl (.int .i64)) (.pair (.int .i64) (.pair (.int .i64) (.sl (.int .i64))))))))))))]) : den R_SameCircuit.G Go.Proofs.Tryd.f29 [(.st (.pair (.int .i64) (.pair (.int .i64) (.sl (.st (.pair (.int .i64) (.pair (.int .i64) (.pair (.sl (.int .i64)) (.pair (.int .i64) (.pair (.int .i64) (.sl (.int .i64)))))))))))), (.st (.pair (.int .i64) (.pair (.int .i64) (.sl (.st (.pair (.int .i64) (.pair (.int .i64) (.pair (.sl (.int .i64)) (.pair (.int .i64) (.pair (.int .i64) (.sl (.int .i64))))))))))))] [.bool] x_ = R_SameCircuit x_.1 x_.2 := by kernel_rfl
theorem R_SameCircuit.p0 : PieceOk R_SameCircuit.G (pieceAt (pieces R_SameCircuit.G.cks (bodyOf Go.Proofs.Tryd.f29)) 0).1 (pieceAt (pieces R_SameCircuit.G.cks (bodyOf Go.Proofs.Tryd.f29)) 0).2 :=
  region_ok (s := R_SameCircuit.c1r) (by kernel_rfl) (by kernel_rfl) (sums_of (sh := R_SameCircuit.c1s) (fun ρ x_ k_ => (nat_br nat_leaf (nat_br nat_leaf nat_leaf))) (fun ρ x_ t k => (by kernel_rfl)) (fun x_ => by kernel_rfl))
theorem R_SameCircuit.p1 : PieceOk R_SameCircuit.G (pieceAt (pieces R_SameCircuit.G.cks (bodyOf Go.Proofs.Tryd.f29)) 1).1 (pieceAt (pieces R_SameCircuit.G.cks (bodyOf Go.Proofs.Tryd.f29)) 1).2 :=
  loop_ok (s := R_SameCircuit.c100004r) (by kernel_rfl) (by kernel_rfl) (loops_of (sh := R_SameCircuit.c100004s) (I := fun x_ s_ => (x_.1, x_.2.1, x_.2.2.1, s_, x_.2.2.2.2.1, x_.2.2.2.2.2.1, x_.2.2.2.2.2.2.1, x_.2.2.2.2.2.2.2.1, x_.2.2.2.2.2.2.2.2.1, x_.2.2.2.2.2.2.2.2.2.1, ())) (fun x_ => rfl) (fun ρ x_ s_ k_ => (nat_br (nat_bnd fun _ => (nat_bnd fun _ => (nat_bnd fun _ => (nat_br nat_leaf nat_leaf)))) nat_leaf)) (fun ρ x_ t k => (nat_sel (fun _ => (by kernel_rfl)) (fun _ => (by kernel_rfl)))) (fun x_ s => by kernel_rfl))
theorem R_SameCircuit.p2 : PieceOk R_SameCircuit.G (pieceAt (pieces R_SameCircuit.G.cks (bodyOf Go.Proofs.Tryd.f29)) 2).1 (pieceAt (pieces R_SameCircuit.G.cks (bodyOf Go.Proofs.Tryd.f29)) 2).2 :=
  region_ok (s := R_SameCircuit.c8r) (by kernel_rfl) (by kernel_rfl) (sums_of (sh := R_SameCircuit.c8s) (fun ρ x_ k_ => (nat_br nat_leaf (nat_br nat_leaf (nat_br nat_leaf (nat_br nat_leaf (nat_bnd fun _ => (nat_br nat_leaf (nat_bnd fun _ => nat_leaf)))))))) (fun ρ x_ t k => (by kernel_rfl)) (fun x_ => by kernel_rfl))
theorem R_SameCircuit.ok : CalleeOk Go.Proofs.Tryd.prog 29 R_SameCircuit.ce := fn_ok (G := R_SameCircuit.G) tab_ok mixed Go.Proofs.Tryd.func29 ⟨(fns_cons R_SameInts.ok fns_nil), mfns_nil, tab_eqs_ok⟩ (m := 3) (by kernel_rfl) ⟨⟨⟨trivial, R_SameCircuit.p0⟩, R_SameCircuit.p1⟩, R_SameCircuit.p2⟩ (by kernel_rfl) R_SameCircuit.eq
abbrev qc3 : SD := .one (.ref 1 0)
abbrev qc4 : SD := .one (.ref 2 0)
abbrev qc6 : SD := .one (.val (.int .i64))
abbrev qc10 : SD := .one (.ref 4 0)
abbrev qc14 : SD := .one (.val .bool)
abbrev qc21 : SO := .box [.val (.int .i64), .val (.int .i64), .val (.sl (.int .i64)), .val (.int .i64), .val (.int .i64), .val (.sl (.int .i64))]
abbrev qc22 : SD := .one (.val .str)
abbrev qc24 : SD := .one (.val (.sl .str))
abbrev qc27 : SD := .one (.val (.sl (.int .i64)))
abbrev qc28 : SO := .box [.val .bool, .val (.sl (.int .i64))]
def R_zmade.c2 {ρ : Type} (d : List (Int)) (n : Int) (k_ : Bool → Option ρ) : Option ρ :=
  br (decide (n > (0 : Int)))
   (bnd (idx d (IntKind.wrap IntKind.i64 (n - (1 : Int)))) fun y =>
    k_ (y == (0 : Int)))
   (k_ false)
def R_zmade.c2s : Shape := ⟨[(0, qc14), (1, qc27), (4, qc10), (5, qc6)], [(4, qc28)]⟩
def R_zmade.c2x0 : Shape := ⟨[(0, qc14), (1, qc27), (4, qc10), (5, qc6), (17, qc14)], [(4, qc28)]⟩
def R_zmade.c2r : Ck := Ck.of (T := Bool) R_zmade.c2s (fun ρ x_ k_ => uP x_ fun neg x_ => uP x_ fun d x_ => uP x_ fun n x_ => uP x_ fun t40 x_ => uP x_ fun t41 x_ => R_zmade.c2 d n k_) (fun ρ x_ r_ k_ => uP x_ fun neg x_ => uP x_ fun d x_ => uP x_ fun n x_ => uP x_ fun t40 x_ => uP x_ fun t41 x_ => k_ 0 (Shape.inj R_zmade.c2x0 (neg, d, n, r_, t40, t41, ())))
def R_zmade.c100002 {ρ : Type} (d : List (Int)) (n : Int) (k_ : (Int) ⊕ (Int) → Option ρ) : Option ρ :=
  bnd (W.R_zmade.c2 d n some) fun y =>
  br y
   (k_ (.inl (IntKind.wrap IntKind.i64 (n - (1 : Int)))))
   (k_ (.inr n))
def R_zmade.c100002s : Shape := ⟨[(0, qc14), (1, qc27), (4, qc10), (5, qc6)], [(4, qc28)]⟩
def R_zmade.c100002x0 : Shape := ⟨[(0, qc14), (1, qc27), (4, qc10), (5, qc6)], [(4, qc28)]⟩
def R_zmade.c100002r : Ck := Ck.ofLoop (S := Int) (T := Int) R_zmade.c100002s (fun x_ => uP x_ fun neg x_ => uP x_ fun d x_ => uP x_ fun n x_ => uP x_ fun t40 x_ => uP x_ fun t41 x_ => n) (fun ρ x_ s_ k_ => uP x_ fun neg x_ => uP x_ fun d x_ => uP x_ fun n x_ => uP x_ fun t40 x_ => uP x_ fun t41 x_ => R_zmade.c100002 d s_ k_) (fun ρ x_ r_ k_ => uP x_ fun neg x_ => uP x_ fun d x_ => uP x_ fun n x_ => uP x_ fun t40 x_ => uP x_ fun t41 x_ => k_ 2 (Shape.inj R_zmade.c100002x0 (neg, d, r_, t40, t41, ())))
def R_zmade (neg : Bool) (d : List (Int)) : Option ((Bool) × (List Int)) :=
  bnd (iter (fun s ↦ W.R_zmade.c100002 d s some) ↑(List.length d)) fun y =>
  br (y == (0 : Int))
   (some (false, []))
   (bnd (okIf (decide ((0 : Int) ≤ y) && decide (y ≤ (↑(List.length d) : Int)))) fun y_1 =>
    some (neg, List.take (Int.toNat y) d))
def R_zmade.ce : Go.Ql.Callee := ⟨[.bool, (.sl (.int .i64))], [(.st (.pair .bool (.sl (.int .i64))))], fun x_ => R_zmade x_.1 x_.2⟩
def R_zmade.G : Env := ⟨28, tab, [], [0, 1, 4, 5, 17, 21], [], [], [(100002, R_zmade.c100002r), (2, R_zmade.c2r)], [], tab_eqs⟩
theorem R_zmade.eq (x_ : dens [.bool, (.sl (.int .i64))]) : den R_zmade.G Go.Proofs.Tryd.f86 [.bool, (.sl (.int .i64))] [(.st (.pair .bool (.sl (.int .i64))))] x_ = R_zmade x_.1 x_.2 := by kernel_rfl
theorem R_zmade.p0 : PieceOk R_zmade.G (pieceAt (pieces R_zmade.G.cks (bodyOf Go.Proofs.Tryd.f86)) 0).1 (pieceAt (pieces R_zmade.G.cks (bodyOf Go.Proofs.Tryd.f86)) 0).2 :=
  loop_ok (s := R_zmade.c100002r) (by kernel_rfl) (by kernel_rfl) (loops_of (sh := R_zmade.c100002s) (I := fun x_ s_ => (x_.1, x_.2.1, s_, x_.2.2.2.1, x_.2.2.2.2.1, ())) (fun x_ => rfl) (fun ρ x_ s_ k_ => (nat_bnd fun _ => (nat_br nat_leaf nat_leaf))) (fun ρ x_ t k => (by kernel_rfl)) (fun x_ s => by kernel_rfl))
theorem R_zmade.p1 : PieceOk R_zmade.G (pieceAt (pieces R_zmade.G.cks (bodyOf Go.Proofs.Tryd.f86)) 1).1 (pieceAt (pieces R_zmade.G.cks (bodyOf Go.Proofs.Tryd.f86)) 1).2 :=
  region_ok (s := R_zmade.c2r) (by kernel_rfl) (by kernel_rfl) (sums_of (sh := R_zmade.c2s) (fun ρ x_ k_ => (nat_br (nat_bnd fun _ => nat_leaf) nat_leaf)) (fun ρ x_ t k => (by kernel_rfl)) (fun x_ => by kernel_rfl))
theorem R_zmade.ok : CalleeOk Go.Proofs.Tryd.prog 86 R_zmade.ce := fn_ok (G := R_zmade.G) tab_ok mixed Go.Proofs.Tryd.func86 ⟨fns_nil, mfns_nil, tab_eqs_ok⟩ (m := 2) (by kernel_rfl) ⟨⟨trivial, R_zmade.p0⟩, R_zmade.p1⟩ (by kernel_rfl) R_zmade.eq
abbrev qc29 : SD := .one (.val (.int .u64))
abbrev qc30 : SD := .one (.own 4 0)
abbrev qc31 : SO := .arr 0 false 3 (.int .i64)
def R_ZOf.c208197 {ρ : Type} (n : Int) (u : Int) (k_ : Int → Option ρ) : Option ρ :=
  br (decide (n < (0 : Int)))
   (k_ (IntKind.wrap IntKind.u64 ((0 : Int) - u)))
   (k_ u)
def R_ZOf.c208197s : Shape := ⟨[(0, qc6), (2, qc4), (3, qc29)], [(2, qc28)]⟩
def R_ZOf.c208197x0 : Shape := ⟨[(0, qc6), (2, qc4), (3, qc29)], [(2, qc28)]⟩
def R_ZOf.c208197r : Ck := Ck.of (T := Int) R_ZOf.c208197s (fun ρ x_ k_ => uP x_ fun n x_ => uP x_ fun u x_ => uP x_ fun t20 x_ => uP x_ fun t21 x_ => R_ZOf.c208197 n u k_) (fun ρ x_ r_ k_ => uP x_ fun n x_ => uP x_ fun u x_ => uP x_ fun t20 x_ => uP x_ fun t21 x_ => k_ 0 (Shape.inj R_ZOf.c208197x0 (n, r_, t20, t21, ())))
def R_ZOf.c100005 {ρ : Type} (u : Int) (d : List (Int)) (k_ : ((Int) × (List Int)) ⊕ ((Int) × (List Int)) → Option ρ) : Option ρ :=
  br (decide (u > (0 : Int)))
   (bnd (okIf (decide ((List.length d + (1 : Nat)) * (8 : Nat) ≤ (140737488355328 : Nat)) && decide (List.length d + (1 : Nat) ≤ (140737488355328 : Nat)))) fun y =>
    k_ (.inl ((IntKind.wrap IntKind.u64 (Int.tdiv u (10000 : Int))), (d ++ [IntKind.wrap IntKind.i64 (Int.tmod u (10000 : Int))]))))
   (k_ (.inr (u, d)))
def R_ZOf.c100005s : Shape := ⟨[(0, qc6), (2, qc4), (3, qc29), (4, qc30)], [(2, qc28), (4, qc31)]⟩
def R_ZOf.c100005x0 : Shape := ⟨[(0, qc6), (2, qc4), (3, qc29), (4, qc30)], [(2, qc28), (4, qc31)]⟩
def R_ZOf.c100005r : Ck := Ck.ofLoop (S := (Int) × (List Int)) (T := (Int) × (List Int)) R_ZOf.c100005s (fun x_ => uP x_ fun n x_ => uP x_ fun u x_ => uP x_ fun t20 x_ => uP x_ fun t21 x_ => uP x_ fun d x_ => (u, d)) (fun ρ x_ s_ k_ => uP x_ fun n x_ => uP x_ fun u x_ => uP x_ fun t20 x_ => uP x_ fun t21 x_ => uP x_ fun d x_ => R_ZOf.c100005 s_.1 s_.2 k_) (fun ρ x_ r_ k_ => uP x_ fun n x_ => uP x_ fun u x_ => uP x_ fun t20 x_ => uP x_ fun t21 x_ => uP x_ fun d x_ => k_ 2 (Shape.inj R_ZOf.c100005x0 (n, r_.1, t20, t21, r_.2, ())))
def R_ZOf (n : Int) : Option ((Bool) × (List Int)) :=
  bnd (W.R_ZOf.c208197 n (IntKind.wrap IntKind.u64 n) some) fun y =>
  bnd (iter (fun s ↦ W.R_ZOf.c100005 (Prod.fst s) (Prod.snd s) some) (y, [])) fun y_1 =>
  bnd (W.R_zmade (decide (n < (0 : Int))) (Prod.snd y_1)) fun y_2 =>
  some (Prod.fst y_2, Prod.snd y_2)
def R_ZOf.ce : Go.Ql.Callee := ⟨[(.int .i64)], [(.st (.pair .bool (.sl (.int .i64))))], fun x_ => R_ZOf x_⟩
def R_ZOf.G : Env := ⟨25, tab, [(86, R_zmade.ce)], [0, 2, 3, 4, 8, 12], [4], [], [(100005, R_ZOf.c100005r), (208197, R_ZOf.c208197r)], [], tab_eqs⟩
theorem R_ZOf.eq (x_ : dens [(.int .i64)]) : den R_ZOf.G Go.Proofs.Tryd.f78 [(.int .i64)] [(.st (.pair .bool (.sl (.int .i64))))] x_ = R_ZOf x_ := by kernel_rfl
theorem R_ZOf.p0 : PieceOk R_ZOf.G (pieceAt (pieces R_ZOf.G.cks (bodyOf Go.Proofs.Tryd.f78)) 0).1 (pieceAt (pieces R_ZOf.G.cks (bodyOf Go.Proofs.Tryd.f78)) 0).2 :=
  join_ok (s := R_ZOf.c208197r) (by kernel_rfl) (by kernel_rfl) (sums_of (sh := R_ZOf.c208197s) (fun ρ x_ k_ => (nat_br nat_leaf nat_leaf)) (fun ρ x_ t k => (by kernel_rfl)) (fun x_ => by kernel_rfl))
theorem R_ZOf.p1 : PieceOk R_ZOf.G (pieceAt (pieces R_ZOf.G.cks (bodyOf Go.Proofs.Tryd.f78)) 1).1 (pieceAt (pieces R_ZOf.G.cks (bodyOf Go.Proofs.Tryd.f78)) 1).2 :=
  loop_ok (s := R_ZOf.c100005r) (by kernel_rfl) (by kernel_rfl) (loops_of (sh := R_ZOf.c100005s) (I := fun x_ s_ => (x_.1, s_.1, x_.2.2.1, x_.2.2.2.1, s_.2, ())) (fun x_ => rfl) (fun ρ x_ s_ k_ => (nat_br (nat_bnd fun _ => nat_leaf) nat_leaf)) (fun ρ x_ t k => (by kernel_rfl)) (fun x_ s => by kernel_rfl))
theorem R_ZOf.ok : CalleeOk Go.Proofs.Tryd.prog 78 R_ZOf.ce := fn_ok (G := R_ZOf.G) tab_ok mixed Go.Proofs.Tryd.func78 ⟨(fns_cons R_zmade.ok fns_nil), mfns_nil, tab_eqs_ok⟩ (m := 2) (by kernel_rfl) ⟨⟨trivial, R_ZOf.p0⟩, R_ZOf.p1⟩ (by kernel_rfl) R_ZOf.eq
abbrev qc32 : SD := .one (.val (.st (.pair .bool (.sl (.int .i64)))))
abbrev qc33 : SD := .one (.val (.sl (.int .u8)))
def R_ZText.c216389 {ρ : Type} (text : List UInt8) (a0 : Bool) (k_ : List UInt8 → Option ρ) : Option ρ :=
  br a0
   (k_ (Array.toList (ByteArray.data (ByteArray.mk #[(45 : UInt8)]))))
   (k_ text)
def R_ZText.c216389s : Shape := ⟨[(0, qc32), (1, qc3), (2, qc22), (3, qc22)], [(1, qc28)]⟩
def R_ZText.c216389x0 : Shape := ⟨[(0, qc32), (1, qc3), (2, qc22), (3, qc22)], [(1, qc28)]⟩
def R_ZText.c216389r : Ck := Ck.of (T := List UInt8) R_ZText.c216389s (fun ρ x_ k_ => uP x_ fun a x_ => uP x_ fun t2 x_ => uP x_ fun text x_ => uP x_ fun a0 x_ => uP x_ fun a1 x_ => R_ZText.c216389 text a0 k_) (fun ρ x_ r_ k_ => uP x_ fun a x_ => uP x_ fun t2 x_ => uP x_ fun text x_ => uP x_ fun a0 x_ => uP x_ fun a1 x_ => k_ 0 (Shape.inj R_ZText.c216389x0 (a, t2, r_, a0, a1, ())))
def R_ZText.c9 {ρ : Type} (i : Int) (a1 : List (Int)) (k_ : List (Int) → Option ρ) : Option ρ :=
  bnd (idx a1 i) fun y =>
  bnd (idx a1 i) fun y_1 =>
  bnd (idx a1 i) fun y_2 =>
  bnd (idx a1 i) fun y_3 =>
  k_ ([IntKind.wrap IntKind.u8 (IntKind.wrap IntKind.i64 ((48 : Int) + IntKind.wrap IntKind.i64 (Int.tdiv y (1000 : Int)))), IntKind.wrap IntKind.u8 (IntKind.wrap IntKind.i64 ((48 : Int) + Int.tmod (IntKind.wrap IntKind.i64 (Int.tdiv y_1 (100 : Int))) (10 : Int))), IntKind.wrap IntKind.u8 (IntKind.wrap IntKind.i64 ((48 : Int) + Int.tmod (IntKind.wrap IntKind.i64 (Int.tdiv y_2 (10 : Int))) (10 : Int))), IntKind.wrap IntKind.u8 (IntKind.wrap IntKind.i64 ((48 : Int) + Int.tmod y_3 (10 : Int)))])
def R_ZText.c9s : Shape := ⟨[(0, qc32), (1, qc3), (2, qc22), (3, qc22), (4, qc6)], [(1, qc28)]⟩
def R_ZText.c9x0 : Shape := ⟨[(0, qc32), (1, qc3), (2, qc22), (3, qc22), (4, qc6), (5, qc33)], [(1, qc28)]⟩
def R_ZText.c9r : Ck := Ck.of (T := List (Int)) R_ZText.c9s (fun ρ x_ k_ => uP x_ fun a x_ => uP x_ fun t2 x_ => uP x_ fun text x_ => uP x_ fun i x_ => uP x_ fun a0 x_ => uP x_ fun a1 x_ => R_ZText.c9 i a1 k_) (fun ρ x_ r_ k_ => uP x_ fun a x_ => uP x_ fun t2 x_ => uP x_ fun text x_ => uP x_ fun i x_ => uP x_ fun a0 x_ => uP x_ fun a1 x_ => k_ 0 (Shape.inj R_ZText.c9x0 (a, t2, text, i, r_, a0, a1, ())))
def R_ZText.c11 {ρ : Type} (i : Int) (four : List (Int)) (t6 : Int) (a1 : List (Int)) (k_ : Bool → Option ρ) : Option ρ :=
  br (i == IntKind.wrap IntKind.i64 ((↑(List.length a1) : Int) - (1 : Int)))
   (br (decide (t6 < (3 : Int)))
     (bnd (idx four t6) fun y =>
      k_ (y == (48 : Int)))
     (k_ false))
   (k_ false)
def R_ZText.c11s : Shape := ⟨[(0, qc32), (1, qc3), (2, qc22), (3, qc22), (4, qc6), (5, qc33), (6, qc6)], [(1, qc28)]⟩
def R_ZText.c11x0 : Shape := ⟨[(0, qc32), (1, qc3), (2, qc22), (3, qc22), (4, qc6), (5, qc33), (6, qc6), (72, qc14)], [(1, qc28)]⟩
def R_ZText.c11r : Ck := Ck.of (T := Bool) R_ZText.c11s (fun ρ x_ k_ => uP x_ fun a x_ => uP x_ fun t2 x_ => uP x_ fun text x_ => uP x_ fun i x_ => uP x_ fun four x_ => uP x_ fun t6 x_ => uP x_ fun a0 x_ => uP x_ fun a1 x_ => R_ZText.c11 i four t6 a1 k_) (fun ρ x_ r_ k_ => uP x_ fun a x_ => uP x_ fun t2 x_ => uP x_ fun text x_ => uP x_ fun i x_ => uP x_ fun four x_ => uP x_ fun t6 x_ => uP x_ fun a0 x_ => uP x_ fun a1 x_ => k_ 0 (Shape.inj R_ZText.c11x0 (a, t2, text, i, four, t6, r_, a0, a1, ())))
def R_ZText.c100011 {ρ : Type} (i : Int) (four : List (Int)) (t6 : Int) (a1 : List (Int)) (k_ : (Int) ⊕ (Int) → Option ρ) : Option ρ :=
  bnd (W.R_ZText.c11 i four t6 a1 some) fun y =>
  br y
   (k_ (.inl (IntKind.wrap IntKind.i64 (t6 + (1 : Int)))))
   (k_ (.inr t6))
def R_ZText.c100011s : Shape := ⟨[(0, qc32), (1, qc3), (2, qc22), (3, qc22), (4, qc6), (5, qc33), (6, qc6)], [(1, qc28)]⟩
def R_ZText.c100011x0 : Shape := ⟨[(0, qc32), (1, qc3), (2, qc22), (3, qc22), (4, qc6), (5, qc33), (6, qc6)], [(1, qc28)]⟩
def R_ZText.c100011r : Ck := Ck.ofLoop (S := Int) (T := Int) R_ZText.c100011s (fun x_ => uP x_ fun a x_ => uP x_ fun t2 x_ => uP x_ fun text x_ => uP x_ fun i x_ => uP x_ fun four x_ => uP x_ fun t6 x_ => uP x_ fun a0 x_ => uP x_ fun a1 x_ => t6) (fun ρ x_ s_ k_ => uP x_ fun a x_ => uP x_ fun t2 x_ => uP x_ fun text x_ => uP x_ fun i x_ => uP x_ fun four x_ => uP x_ fun t6 x_ => uP x_ fun a0 x_ => uP x_ fun a1 x_ => R_ZText.c100011 i four s_ a1 k_) (fun ρ x_ r_ k_ => uP x_ fun a x_ => uP x_ fun t2 x_ => uP x_ fun text x_ => uP x_ fun i x_ => uP x_ fun four x_ => uP x_ fun t6 x_ => uP x_ fun a0 x_ => uP x_ fun a1 x_ => k_ 4 (Shape.inj R_ZText.c100011x0 (a, t2, text, i, four, r_, a0, a1, ())))
def R_ZText.c100007 {ρ : Type} (text : List UInt8) (i : Int) (a1 : List (Int)) (k_ : ((List UInt8) × (Int)) ⊕ ((List UInt8) × (Int)) → Option ρ) : Option ρ :=
  br (decide (i ≥ (0 : Int)))
   (bnd (W.R_ZText.c9 i a1 some) fun y =>
    bnd (iter (fun s ↦ W.R_ZText.c100011 i y s a1 some) (0 : Int)) fun y_1 =>
    bnd (okIf (decide ((0 : Int) ≤ y_1) && decide (y_1 ≤ (↑(List.length y) : Int)) && decide ((↑(List.length y) : Int) ≤ (↑(List.length y) : Int)))) fun y_2 =>
    bnd (okIf (decide (List.length text + List.length (List.map (fun n ↦ UInt8.ofNat (Int.toNat n)) (List.drop (Int.toNat y_1) (List.take (Int.toNat (↑(List.length y) : Int)) y))) ≤ (9223372036854775807 : Nat)))) fun y_3 =>
    k_ (.inl ((text ++ List.map (fun n ↦ UInt8.ofNat (Int.toNat n)) (List.drop (Int.toNat y_1) (List.take (Int.toNat (↑(List.length y) : Int)) y))), (IntKind.wrap IntKind.i64 (i - (1 : Int))))))
   (k_ (.inr (text, i)))
def R_ZText.c100007s : Shape := ⟨[(0, qc32), (1, qc3), (2, qc22), (3, qc22), (4, qc6)], [(1, qc28)]⟩
def R_ZText.c100007x0 : Shape := ⟨[(0, qc32), (1, qc3), (2, qc22), (3, qc22), (4, qc6)], [(1, qc28)]⟩
def R_ZText.c100007r : Ck := Ck.ofLoop (S := (List UInt8) × (Int)) (T := (List UInt8) × (Int)) R_ZText.c100007s (fun x_ => uP x_ fun a x_ => uP x_ fun t2 x_ => uP x_ fun text x_ => uP x_ fun i x_ => uP x_ fun a0 x_ => uP x_ fun a1 x_ => (text, i)) (fun ρ x_ s_ k_ => uP x_ fun a x_ => uP x_ fun t2 x_ => uP x_ fun text x_ => uP x_ fun i x_ => uP x_ fun a0 x_ => uP x_ fun a1 x_ => R_ZText.c100007 s_.1 s_.2 a1 k_) (fun ρ x_ r_ k_ => uP x_ fun a x_ => uP x_ fun t2 x_ => uP x_ fun text x_ => uP x_ fun i x_ => uP x_ fun a0 x_ => uP x_ fun a1 x_ => k_ 2 (Shape.inj R_ZText.c100007x0 (a, t2, r_.1, r_.2, a0, a1, ())))
def R_ZText (a : (Bool) × (List Int)) : Option (List UInt8) :=
  br ((↑(List.length (Prod.snd a)) : Int) == (0 : Int))
   (some (Array.toList (ByteArray.data (ByteArray.mk #[(48 : UInt8)]))))
   (bnd (W.R_ZText.c216389 (Array.toList (ByteArray.data (ByteArray.mk #[]))) (Prod.fst a) some) fun y =>
    bnd (iter (fun s ↦ W.R_ZText.c100007 (Prod.fst s) (Prod.snd s) (Prod.snd a) some) (y, IntKind.wrap IntKind.i64 ((↑(List.length (Prod.snd a)) : Int) - (1 : Int)))) fun y_1 =>
    some (Prod.fst y_1))
def R_ZText.ce : Go.Ql.Callee := ⟨[(.st (.pair .bool (.sl (.int .i64))))], [.str], fun x_ => R_ZText x_⟩
def R_ZText.G : Env := ⟨82, tab, [], [0, 1, 2, 3, 4, 5, 6, 10, 12, 18, 72], [], [(9, [⟨[], [], [23, 29, 30, 31, 32, 33, 34, 35, 36, 37, 38, 39, 40, 41, 42, 43, 44, 45, 46, 47, 48, 49, 50, 51, 52, 53, 54], []⟩, ⟨[0], [], [23, 29, 30, 31, 32, 33, 34, 35, 36, 37, 38, 39, 40, 41, 42, 43, 44, 45, 46, 47, 48, 49, 50, 51, 52, 53, 54], []⟩, ⟨[], [], [21, 22, 29, 30, 31, 32, 33, 34, 35, 36, 37, 38, 39, 40, 41, 42, 43, 44, 45, 46, 47, 48, 49, 50, 51, 52, 53, 54], []⟩, ⟨[1, 0, 2], [], [29, 30, 31, 32, 33, 34, 35, 36, 37, 38, 39, 40, 41, 42, 43, 44, 45, 46, 47, 48, 49, 50, 51, 52, 53, 54], []⟩, ⟨[3, 1, 0, 2], [], [29, 30, 31, 32, 33, 34, 35, 36, 37, 38, 39, 40, 41, 42, 43, 44, 45, 46, 47, 48, 49, 50, 51, 52, 53, 54], []⟩, ⟨[4, 3, 1, 0, 2], [], [29, 30, 31, 32, 33, 34, 35, 36, 37, 38, 39, 40, 41, 42, 43, 44, 45, 46, 47, 48, 49, 50, 51, 52, 53, 54], []⟩, ⟨[5, 4, 3, 1, 0, 2], [], [29, 30, 31, 32, 33, 34, 35, 36, 37, 38, 39, 40, 41, 42, 43, 44, 45, 46, 47, 48, 49, 50, 51, 52, 53, 54], []⟩, ⟨[6, 5, 4, 3, 1, 0, 2], [], [29, 30, 31, 32, 33, 34, 35, 36, 37, 38, 39, 40, 41, 42, 43, 44, 45, 46, 47, 48, 49, 50, 51, 52, 53, 54], []⟩, ⟨[], [], [21, 22, 23, 24, 25, 26, 27, 28, 31, 38, 39, 40, 41, 42, 43, 44, 45, 46, 47, 48, 49, 50, 51, 52, 53, 54], []⟩, ⟨[8], [], [21, 22, 23, 24, 25, 26, 27, 28, 31, 38, 39, 40, 41, 42, 43, 44, 45, 46, 47, 48, 49, 50, 51, 52, 53, 54], []⟩, ⟨[], [], [21, 22, 23, 24, 25, 26, 27, 28, 29, 30, 38, 39, 40, 41, 42, 43, 44, 45, 46, 47, 48, 49, 50, 51, 52, 53, 54], []⟩, ⟨[9, 8, 10], [], [21, 22, 23, 24, 25, 26, 27, 28, 38, 39, 40, 41, 42, 43, 44, 45, 46, 47, 48, 49, 50, 51, 52, 53, 54], []⟩, ⟨[11, 9, 8, 10], [], [21, 22, 23, 24, 25, 26, 27, 28, 38, 39, 40, 41, 42, 43, 44, 45, 46, 47, 48, 49, 50, 51, 52, 53, 54], []⟩, ⟨[12, 11, 9, 8, 10], [], [21, 22, 23, 24, 25, 26, 27, 28, 38, 39, 40, 41, 42, 43, 44, 45, 46, 47, 48, 49, 50, 51, 52, 53, 54], []⟩, ⟨[13, 12, 11, 9, 8, 10], [], [21, 22, 23, 24, 25, 26, 27, 28, 38, 39, 40, 41, 42, 43, 44, 45, 46, 47, 48, 49, 50, 51, 52, 53, 54], []⟩, ⟨[14, 13, 12, 11, 9, 8, 10], [], [21, 22, 23, 24, 25, 26, 27, 28, 38, 39, 40, 41, 42, 43, 44, 45, 46, 47, 48, 49, 50, 51, 52, 53, 54], []⟩, ⟨[15, 14, 13, 12, 11, 9, 8, 10], [], [21, 22, 23, 24, 25, 26, 27, 28, 38, 39, 40, 41, 42, 43, 44, 45, 46, 47, 48, 49, 50, 51, 52, 53, 54], []⟩, ⟨[], [], [21, 22, 23, 24, 25, 26, 27, 28, 29, 30, 31, 32, 33, 34, 35, 36, 37, 40, 47, 48, 49, 50, 51, 52, 53, 54], []⟩, ⟨[17], [], [21, 22, 23, 24, 25, 26, 27, 28, 29, 30, 31, 32, 33, 34, 35, 36, 37, 40, 47, 48, 49, 50, 51, 52, 53, 54], []⟩, ⟨[], [], [21, 22, 23, 24, 25, 26, 27, 28, 29, 30, 31, 32, 33, 34, 35, 36, 37, 38, 39, 47, 48, 49, 50, 51, 52, 53, 54], []⟩, ⟨[18, 17, 19], [], [21, 22, 23, 24, 25, 26, 27, 28, 29, 30, 31, 32, 33, 34, 35, 36, 37, 47, 48, 49, 50, 51, 52, 53, 54], []⟩, ⟨[20, 18, 17, 19], [], [21, 22, 23, 24, 25, 26, 27, 28, 29, 30, 31, 32, 33, 34, 35, 36, 37, 47, 48, 49, 50, 51, 52, 53, 54], []⟩, ⟨[21, 20, 18, 17, 19], [], [21, 22, 23, 24, 25, 26, 27, 28, 29, 30, 31, 32, 33, 34, 35, 36, 37, 47, 48, 49, 50, 51, 52, 53, 54], []⟩, ⟨[22, 21, 20, 18, 17, 19], [], [21, 22, 23, 24, 25, 26, 27, 28, 29, 30, 31, 32, 33, 34, 35, 36, 37, 47, 48, 49, 50, 51, 52, 53, 54], []⟩, ⟨[23, 22, 21, 20, 18, 17, 19], [], [21, 22, 23, 24, 25, 26, 27, 28, 29, 30, 31, 32, 33, 34, 35, 36, 37, 47, 48, 49, 50, 51, 52, 53, 54], []⟩, ⟨[24, 23, 22, 21, 20, 18, 17, 19], [], [21, 22, 23, 24, 25, 26, 27, 28, 29, 30, 31, 32, 33, 34, 35, 36, 37, 47, 48, 49, 50, 51, 52, 53, 54], []⟩, ⟨[], [], [21, 22, 23, 24, 25, 26, 27, 28, 29, 30, 31, 32, 33, 34, 35, 36, 37, 38, 39, 40, 41, 42, 43, 44, 45, 46, 49], []⟩, ⟨[26], [], [21, 22, 23, 24, 25, 26, 27, 28, 29, 30, 31, 32, 33, 34, 35, 36, 37, 38, 39, 40, 41, 42, 43, 44, 45, 46, 49], []⟩, ⟨[], [], [21, 22, 23, 24, 25, 26, 27, 28, 29, 30, 31, 32, 33, 34, 35, 36, 37, 38, 39, 40, 41, 42, 43, 44, 45, 46, 47, 48], []⟩, ⟨[27, 26, 28], [], [21, 22, 23, 24, 25, 26, 27, 28, 29, 30, 31, 32, 33, 34, 35, 36, 37, 38, 39, 40, 41, 42, 43, 44, 45, 46], []⟩, ⟨[29, 27, 26, 28], [], [21, 22, 23, 24, 25, 26, 27, 28, 29, 30, 31, 32, 33, 34, 35, 36, 37, 38, 39, 40, 41, 42, 43, 44, 45, 46], []⟩, ⟨[30, 29, 27, 26, 28], [], [21, 22, 23, 24, 25, 26, 27, 28, 29, 30, 31, 32, 33, 34, 35, 36, 37, 38, 39, 40, 41, 42, 43, 44, 45, 46], []⟩, ⟨[31, 30, 29, 27, 26, 28], [], [21, 22, 23, 24, 25, 26, 27, 28, 29, 30, 31, 32, 33, 34, 35, 36, 37, 38, 39, 40, 41, 42, 43, 44, 45, 46], []⟩, ⟨[32, 31, 30, 29, 27, 26, 28], [], [21, 22, 23, 24, 25, 26, 27, 28, 29, 30, 31, 32, 33, 34, 35, 36, 37, 38, 39, 40, 41, 42, 43, 44, 45, 46], []⟩, ⟨[7, 6, 5, 4, 3, 1, 0, 2, 16, 15, 14, 13, 12, 11, 9, 8, 10, 25, 24, 23, 22, 21, 20, 18, 17, 19, 33, 32, 31, 30, 29, 27, 26, 28], [55], [], []⟩, ⟨[34, 7, 6, 5, 4, 3, 1, 0, 2, 16, 15, 14, 13, 12, 11, 9, 8, 10, 25, 24, 23, 22, 21, 20, 18, 17, 19, 33, 32, 31, 30, 29, 27, 26, 28], [], [], []⟩])], [(100007, R_ZText.c100007r), (100011, R_ZText.c100011r), (11, R_ZText.c11r), (9, R_ZText.c9r), (216389, R_ZText.c216389r)], [], tab_eqs⟩
theorem R_ZText.eq (x_ : dens [(.st (.pair .bool (.sl (.int .i64))))]) : den R_ZText.G Go.Proofs.Tryd.f77 [(.st (.pair .bool (.sl (.int .i64))))] [.str] x_ = R_ZText x_ := by kernel_rfl
theorem R_ZText.p0 : PieceOk R_ZText.G (pieceAt (pieces R_ZText.G.cks (bodyOf Go.Proofs.Tryd.f77)) 0).1 (pieceAt (pieces R_ZText.G.cks (bodyOf Go.Proofs.Tryd.f77)) 0).2 :=
  join_ok (s := R_ZText.c216389r) (by kernel_rfl) (by kernel_rfl) (sums_of (sh := R_ZText.c216389s) (fun ρ x_ k_ => (nat_br nat_leaf nat_leaf)) (fun ρ x_ t k => (by kernel_rfl)) (fun x_ => by kernel_rfl))
theorem R_ZText.p1 : PieceOk R_ZText.G (pieceAt (pieces R_ZText.G.cks (bodyOf Go.Proofs.Tryd.f77)) 1).1 (pieceAt (pieces R_ZText.G.cks (bodyOf Go.Proofs.Tryd.f77)) 1).2 :=
  loop_ok (s := R_ZText.c100007r) (by kernel_rfl) (by kernel_rfl) (loops_of (sh := R_ZText.c100007s) (I := fun x_ s_ => (x_.1, x_.2.1, s_.1, s_.2, x_.2.2.2.2.1, x_.2.2.2.2.2.1, ())) (fun x_ => rfl) (fun ρ x_ s_ k_ => (nat_br (nat_bnd fun _ => (nat_bnd fun _ => (nat_bnd fun _ => (nat_bnd fun _ => nat_leaf)))) nat_leaf)) (fun ρ x_ t k => (by kernel_rfl)) (fun x_ s => by kernel_rfl))
theorem R_ZText.p2 : PieceOk R_ZText.G (pieceAt (pieces R_ZText.G.cks (bodyOf Go.Proofs.Tryd.f77)) 2).1 (pieceAt (pieces R_ZText.G.cks (bodyOf Go.Proofs.Tryd.f77)) 2).2 :=
  region_ok (s := R_ZText.c9r) (by kernel_rfl) (by kernel_rfl) (sums_of (sh := R_ZText.c9s) (fun ρ x_ k_ => (nat_bnd fun _ => (nat_bnd fun _ => (nat_bnd fun _ => (nat_bnd fun _ => nat_leaf))))) (fun ρ x_ t k => (by kernel_rfl)) (fun x_ => by kernel_rfl))
theorem R_ZText.p3 : PieceOk R_ZText.G (pieceAt (pieces R_ZText.G.cks (bodyOf Go.Proofs.Tryd.f77)) 3).1 (pieceAt (pieces R_ZText.G.cks (bodyOf Go.Proofs.Tryd.f77)) 3).2 :=
  loop_ok (s := R_ZText.c100011r) (by kernel_rfl) (by kernel_rfl) (loops_of (sh := R_ZText.c100011s) (I := fun x_ s_ => (x_.1, x_.2.1, x_.2.2.1, x_.2.2.2.1, x_.2.2.2.2.1, s_, x_.2.2.2.2.2.2.1, x_.2.2.2.2.2.2.2.1, ())) (fun x_ => rfl) (fun ρ x_ s_ k_ => (nat_bnd fun _ => (nat_br nat_leaf nat_leaf))) (fun ρ x_ t k => (by kernel_rfl)) (fun x_ s => by kernel_rfl))
theorem R_ZText.p4 : PieceOk R_ZText.G (pieceAt (pieces R_ZText.G.cks (bodyOf Go.Proofs.Tryd.f77)) 4).1 (pieceAt (pieces R_ZText.G.cks (bodyOf Go.Proofs.Tryd.f77)) 4).2 :=
  region_ok (s := R_ZText.c11r) (by kernel_rfl) (by kernel_rfl) (sums_of (sh := R_ZText.c11s) (fun ρ x_ k_ => (nat_br (nat_br (nat_bnd fun _ => nat_leaf) nat_leaf) nat_leaf)) (fun ρ x_ t k => (by kernel_rfl)) (fun x_ => by kernel_rfl))
theorem R_ZText.ok : CalleeOk Go.Proofs.Tryd.prog 77 R_ZText.ce := fn_ok (G := R_ZText.G) tab_ok mixed Go.Proofs.Tryd.func77 ⟨fns_nil, mfns_nil, tab_eqs_ok⟩ (m := 5) (by kernel_rfl) ⟨⟨⟨⟨⟨trivial, R_ZText.p0⟩, R_ZText.p1⟩, R_ZText.p2⟩, R_ZText.p3⟩, R_ZText.p4⟩ (by kernel_rfl) R_ZText.eq
def R_num (n : Int) : Option (List UInt8) :=
  bnd (W.R_ZOf n) fun y =>
  bnd (W.R_ZText y) fun y_1 =>
  some y_1
def R_num.ce : Go.Ql.Callee := ⟨[(.int .i64)], [.str], fun x_ => R_num x_⟩
def R_num.G : Env := ⟨6, tab, [(78, R_ZOf.ce), (77, R_ZText.ce)], [0, 2], [], [], [], [], tab_eqs⟩
theorem R_num.eq (x_ : dens [(.int .i64)]) : den R_num.G Go.Proofs.Tryd.f58 [(.int .i64)] [.str] x_ = R_num x_ := by kernel_rfl
theorem R_num.ok : CalleeOk Go.Proofs.Tryd.prog 58 R_num.ce := fn_ok (G := R_num.G) tab_ok mixed Go.Proofs.Tryd.func58 ⟨(fns_cons R_ZOf.ok (fns_cons R_ZText.ok fns_nil)), mfns_nil, tab_eqs_ok⟩ (m := 0) (by kernel_rfl) trivial (by kernel_rfl) R_num.eq
abbrev qc36 : SD := .one (.val (.st (.pair (.int .i64) (.pair (.int .i64) (.pair (.sl (.int .i64)) (.pair (.int .i64) (.pair (.int .i64) (.sl (.int .i64)))))))))
def R_opText.c3 {ρ : Type} (o0 : Int) (k_ : Bool → Option ρ) : Option ρ :=
  br (o0 == (1 : Int))
   (k_ true)
   (k_ (o0 == (4 : Int)))
def R_opText.c3s : Shape := ⟨[(0, qc36), (1, qc3), (2, qc22), (3, qc24), (4, qc22)], [(1, qc21)]⟩
def R_opText.c3x0 : Shape := ⟨[(0, qc36), (1, qc3), (2, qc22), (3, qc24), (4, qc22), (20, qc14)], [(1, qc21)]⟩
def R_opText.c3r : Ck := Ck.of (T := Bool) R_opText.c3s (fun ρ x_ k_ => uP x_ fun o x_ => uP x_ fun t2 x_ => uP x_ fun names x_ => uP x_ fun t x_ => uP x_ fun o0 x_ => uP x_ fun o1 x_ => uP x_ fun o2 x_ => uP x_ fun o3 x_ => uP x_ fun o4 x_ => uP x_ fun o5 x_ => R_opText.c3 o0 k_) (fun ρ x_ r_ k_ => uP x_ fun o x_ => uP x_ fun t2 x_ => uP x_ fun names x_ => uP x_ fun t x_ => uP x_ fun o0 x_ => uP x_ fun o1 x_ => uP x_ fun o2 x_ => uP x_ fun o3 x_ => uP x_ fun o4 x_ => uP x_ fun o5 x_ => k_ 0 (Shape.inj R_opText.c3x0 (o, t2, names, t, r_, o0, o1, o2, o3, o4, o5, ())))
def R_opText.c212293 {ρ : Type} (t : List UInt8) (o0 : Int) (o1 : Int) (k_ : List UInt8 → Option ρ) : Option ρ :=
  bnd (W.R_opText.c3 o0 some) fun y =>
  br y
   (bnd (W.R_num o1) fun y_1 =>
    bnd (okIf (decide (List.length (Array.toList (ByteArray.data (ByteArray.mk #[(32 : UInt8)]))) + List.length y_1 ≤ (9223372036854775807 : Nat)))) fun y_2 =>
    bnd (okIf (decide (List.length t + List.length (Array.toList (ByteArray.data (ByteArray.mk #[(32 : UInt8)])) ++ y_1) ≤ (9223372036854775807 : Nat)))) fun y_3 =>
    k_ (t ++ (Array.toList (ByteArray.data (ByteArray.mk #[(32 : UInt8)])) ++ y_1)))
   (k_ t)
def R_opText.c212293s : Shape := ⟨[(0, qc36), (1, qc3), (2, qc22), (3, qc24), (4, qc22)], [(1, qc21)]⟩
def R_opText.c212293x0 : Shape := ⟨[(0, qc36), (1, qc3), (2, qc22), (3, qc24), (4, qc22)], [(1, qc21)]⟩
def R_opText.c212293r : Ck := Ck.of (T := List UInt8) R_opText.c212293s (fun ρ x_ k_ => uP x_ fun o x_ => uP x_ fun t2 x_ => uP x_ fun names x_ => uP x_ fun t x_ => uP x_ fun o0 x_ => uP x_ fun o1 x_ => uP x_ fun o2 x_ => uP x_ fun o3 x_ => uP x_ fun o4 x_ => uP x_ fun o5 x_ => R_opText.c212293 t o0 o1 k_) (fun ρ x_ r_ k_ => uP x_ fun o x_ => uP x_ fun t2 x_ => uP x_ fun names x_ => uP x_ fun t x_ => uP x_ fun o0 x_ => uP x_ fun o1 x_ => uP x_ fun o2 x_ => uP x_ fun o3 x_ => uP x_ fun o4 x_ => uP x_ fun o5 x_ => k_ 0 (Shape.inj R_opText.c212293x0 (o, t2, names, r_, o0, o1, o2, o3, o4, o5, ())))
def R_opText.c220485 {ρ : Type} (t : List UInt8) (o0 : Int) (o3 : Int) (k_ : List UInt8 → Option ρ) : Option ρ :=
  br (o0 != (1 : Int))
   (bnd (W.R_num o3) fun y =>
    bnd (okIf (decide (List.length (Array.toList (ByteArray.data (ByteArray.mk #[(32 : UInt8)]))) + List.length y ≤ (9223372036854775807 : Nat)))) fun y_1 =>
    bnd (okIf (decide (List.length t + List.length (Array.toList (ByteArray.data (ByteArray.mk #[(32 : UInt8)])) ++ y) ≤ (9223372036854775807 : Nat)))) fun y_2 =>
    k_ (t ++ (Array.toList (ByteArray.data (ByteArray.mk #[(32 : UInt8)])) ++ y)))
   (k_ t)
def R_opText.c220485s : Shape := ⟨[(0, qc36), (1, qc3), (2, qc22), (3, qc24), (4, qc22)], [(1, qc21)]⟩
def R_opText.c220485x0 : Shape := ⟨[(0, qc36), (1, qc3), (2, qc22), (3, qc24), (4, qc22)], [(1, qc21)]⟩
def R_opText.c220485r : Ck := Ck.of (T := List UInt8) R_opText.c220485s (fun ρ x_ k_ => uP x_ fun o x_ => uP x_ fun t2 x_ => uP x_ fun names x_ => uP x_ fun t x_ => uP x_ fun o0 x_ => uP x_ fun o1 x_ => uP x_ fun o2 x_ => uP x_ fun o3 x_ => uP x_ fun o4 x_ => uP x_ fun o5 x_ => R_opText.c220485 t o0 o3 k_) (fun ρ x_ r_ k_ => uP x_ fun o x_ => uP x_ fun t2 x_ => uP x_ fun names x_ => uP x_ fun t x_ => uP x_ fun o0 x_ => uP x_ fun o1 x_ => uP x_ fun o2 x_ => uP x_ fun o3 x_ => uP x_ fun o4 x_ => uP x_ fun o5 x_ => k_ 0 (Shape.inj R_opText.c220485x0 (o, t2, names, r_, o0, o1, o2, o3, o4, o5, ())))
def R_opText.c228677 {ρ : Type} (t : List UInt8) (o2 : List (Int)) (k_ : List UInt8 → Option ρ) : Option ρ :=
  br (decide ((↑(List.length o2) : Int) > (0 : Int)))
   (bnd (okIf (decide (List.length t + List.length (Array.toList (ByteArray.data (ByteArray.mk #[(32 : UInt8), (111 : UInt8), (110 : UInt8)]))) ≤ (9223372036854775807 : Nat)))) fun y =>
    k_ (t ++ Array.toList (ByteArray.data (ByteArray.mk #[(32 : UInt8), (111 : UInt8), (110 : UInt8)]))))
   (k_ t)
def R_opText.c228677s : Shape := ⟨[(0, qc36), (1, qc3), (2, qc22), (3, qc24), (4, qc22)], [(1, qc21)]⟩
def R_opText.c228677x0 : Shape := ⟨[(0, qc36), (1, qc3), (2, qc22), (3, qc24), (4, qc22)], [(1, qc21)]⟩
def R_opText.c228677r : Ck := Ck.of (T := List UInt8) R_opText.c228677s (fun ρ x_ k_ => uP x_ fun o x_ => uP x_ fun t2 x_ => uP x_ fun names x_ => uP x_ fun t x_ => uP x_ fun o0 x_ => uP x_ fun o1 x_ => uP x_ fun o2 x_ => uP x_ fun o3 x_ => uP x_ fun o4 x_ => uP x_ fun o5 x_ => R_opText.c228677 t o2 k_) (fun ρ x_ r_ k_ => uP x_ fun o x_ => uP x_ fun t2 x_ => uP x_ fun names x_ => uP x_ fun t x_ => uP x_ fun o0 x_ => uP x_ fun o1 x_ => uP x_ fun o2 x_ => uP x_ fun o3 x_ => uP x_ fun o4 x_ => uP x_ fun o5 x_ => k_ 0 (Shape.inj R_opText.c228677x0 (o, t2, names, r_, o0, o1, o2, o3, o4, o5, ())))
def R_opText.c100010 {ρ : Type} (t : List UInt8) (i : Int) (o2 : List (Int)) (k_ : ((List UInt8) × (Int)) ⊕ ((List UInt8) × (Int)) → Option ρ) : Option ρ :=
  br (decide (i < (↑(List.length o2) : Int)))
   (bnd (idx o2 i) fun y =>
    bnd (W.R_num y) fun y_1 =>
    bnd (okIf (decide (List.length (Array.toList (ByteArray.data (ByteArray.mk #[(32 : UInt8)]))) + List.length y_1 ≤ (9223372036854775807 : Nat)))) fun y_2 =>
    bnd (okIf (decide (List.length t + List.length (Array.toList (ByteArray.data (ByteArray.mk #[(32 : UInt8)])) ++ y_1) ≤ (9223372036854775807 : Nat)))) fun y_3 =>
    k_ (.inl ((t ++ (Array.toList (ByteArray.data (ByteArray.mk #[(32 : UInt8)])) ++ y_1)), (IntKind.wrap IntKind.i64 (i + (1 : Int))))))
   (k_ (.inr (t, i)))
def R_opText.c100010s : Shape := ⟨[(0, qc36), (1, qc3), (2, qc22), (3, qc24), (4, qc22), (5, qc6)], [(1, qc21)]⟩
def R_opText.c100010x0 : Shape := ⟨[(0, qc36), (1, qc3), (2, qc22), (3, qc24), (4, qc22), (5, qc6)], [(1, qc21)]⟩
def R_opText.c100010r : Ck := Ck.ofLoop (S := (List UInt8) × (Int)) (T := (List UInt8) × (Int)) R_opText.c100010s (fun x_ => uP x_ fun o x_ => uP x_ fun t2 x_ => uP x_ fun names x_ => uP x_ fun t x_ => uP x_ fun i x_ => uP x_ fun o0 x_ => uP x_ fun o1 x_ => uP x_ fun o2 x_ => uP x_ fun o3 x_ => uP x_ fun o4 x_ => uP x_ fun o5 x_ => (t, i)) (fun ρ x_ s_ k_ => uP x_ fun o x_ => uP x_ fun t2 x_ => uP x_ fun names x_ => uP x_ fun t x_ => uP x_ fun i x_ => uP x_ fun o0 x_ => uP x_ fun o1 x_ => uP x_ fun o2 x_ => uP x_ fun o3 x_ => uP x_ fun o4 x_ => uP x_ fun o5 x_ => R_opText.c100010 s_.1 s_.2 o2 k_) (fun ρ x_ r_ k_ => uP x_ fun o x_ => uP x_ fun t2 x_ => uP x_ fun names x_ => uP x_ fun t x_ => uP x_ fun i x_ => uP x_ fun o0 x_ => uP x_ fun o1 x_ => uP x_ fun o2 x_ => uP x_ fun o3 x_ => uP x_ fun o4 x_ => uP x_ fun o5 x_ => k_ 2 (Shape.inj R_opText.c100010x0 (o, t2, names, r_.1, r_.2, o0, o1, o2, o3, o4, o5, ())))
def R_opText.c253253 {ρ : Type} (t : List UInt8) (o0 : Int) (o4 : Int) (k_ : List UInt8 → Option ρ) : Option ρ :=
  br (o0 == (5 : Int))
   (bnd (W.R_num o4) fun y =>
    bnd (okIf (decide (List.length (Array.toList (ByteArray.data (ByteArray.mk #[(32 : UInt8), (116 : UInt8), (111 : UInt8), (32 : UInt8)]))) + List.length y ≤ (9223372036854775807 : Nat)))) fun y_1 =>
    bnd (okIf (decide (List.length t + List.length (Array.toList (ByteArray.data (ByteArray.mk #[(32 : UInt8), (116 : UInt8), (111 : UInt8), (32 : UInt8)])) ++ y) ≤ (9223372036854775807 : Nat)))) fun y_2 =>
    k_ (t ++ (Array.toList (ByteArray.data (ByteArray.mk #[(32 : UInt8), (116 : UInt8), (111 : UInt8), (32 : UInt8)])) ++ y)))
   (k_ t)
def R_opText.c253253s : Shape := ⟨[(0, qc36), (1, qc3), (2, qc22), (3, qc24), (4, qc22), (5, qc6)], [(1, qc21)]⟩
def R_opText.c253253x0 : Shape := ⟨[(0, qc36), (1, qc3), (2, qc22), (3, qc24), (4, qc22), (5, qc6)], [(1, qc21)]⟩
def R_opText.c253253r : Ck := Ck.of (T := List UInt8) R_opText.c253253s (fun ρ x_ k_ => uP x_ fun o x_ => uP x_ fun t2 x_ => uP x_ fun names x_ => uP x_ fun t x_ => uP x_ fun i x_ => uP x_ fun o0 x_ => uP x_ fun o1 x_ => uP x_ fun o2 x_ => uP x_ fun o3 x_ => uP x_ fun o4 x_ => uP x_ fun o5 x_ => R_opText.c253253 t o0 o4 k_) (fun ρ x_ r_ k_ => uP x_ fun o x_ => uP x_ fun t2 x_ => uP x_ fun names x_ => uP x_ fun t x_ => uP x_ fun i x_ => uP x_ fun o0 x_ => uP x_ fun o1 x_ => uP x_ fun o2 x_ => uP x_ fun o3 x_ => uP x_ fun o4 x_ => uP x_ fun o5 x_ => k_ 0 (Shape.inj R_opText.c253253x0 (o, t2, names, r_, i, o0, o1, o2, o3, o4, o5, ())))
def R_opText.c261445 {ρ : Type} (t : List UInt8) (o5 : List (Int)) (k_ : List UInt8 → Option ρ) : Option ρ :=
  br (decide ((↑(List.length o5) : Int) > (0 : Int)))
   (bnd (okIf (decide (List.length t + List.length (Array.toList (ByteArray.data (ByteArray.mk #[(32 : UInt8), (105 : UInt8), (102 : UInt8)]))) ≤ (9223372036854775807 : Nat)))) fun y =>
    k_ (t ++ Array.toList (ByteArray.data (ByteArray.mk #[(32 : UInt8), (105 : UInt8), (102 : UInt8)]))))
   (k_ t)
def R_opText.c261445s : Shape := ⟨[(0, qc36), (1, qc3), (2, qc22), (3, qc24), (4, qc22), (5, qc6)], [(1, qc21)]⟩
def R_opText.c261445x0 : Shape := ⟨[(0, qc36), (1, qc3), (2, qc22), (3, qc24), (4, qc22), (5, qc6)], [(1, qc21)]⟩
def R_opText.c261445r : Ck := Ck.of (T := List UInt8) R_opText.c261445s (fun ρ x_ k_ => uP x_ fun o x_ => uP x_ fun t2 x_ => uP x_ fun names x_ => uP x_ fun t x_ => uP x_ fun i x_ => uP x_ fun o0 x_ => uP x_ fun o1 x_ => uP x_ fun o2 x_ => uP x_ fun o3 x_ => uP x_ fun o4 x_ => uP x_ fun o5 x_ => R_opText.c261445 t o5 k_) (fun ρ x_ r_ k_ => uP x_ fun o x_ => uP x_ fun t2 x_ => uP x_ fun names x_ => uP x_ fun t x_ => uP x_ fun i x_ => uP x_ fun o0 x_ => uP x_ fun o1 x_ => uP x_ fun o2 x_ => uP x_ fun o3 x_ => uP x_ fun o4 x_ => uP x_ fun o5 x_ => k_ 0 (Shape.inj R_opText.c261445x0 (o, t2, names, r_, i, o0, o1, o2, o3, o4, o5, ())))
def R_opText.c281926 {ρ : Type} (t : List UInt8) (i_1 : Int) (o5 : List (Int)) (k_ : List UInt8 → Option ρ) : Option ρ :=
  bnd (idx o5 i_1) fun y =>
  br (decide (y > (0 : Int)))
   (bnd (idx o5 i_1) fun y_1 =>
    bnd (W.R_num (IntKind.wrap IntKind.i64 (y_1 - (1 : Int)))) fun y_2 =>
    bnd (okIf (decide (List.length (Array.toList (ByteArray.data (ByteArray.mk #[(32 : UInt8)]))) + List.length y_2 ≤ (9223372036854775807 : Nat)))) fun y_3 =>
    bnd (okIf (decide (List.length t + List.length (Array.toList (ByteArray.data (ByteArray.mk #[(32 : UInt8)])) ++ y_2) ≤ (9223372036854775807 : Nat)))) fun y_4 =>
    k_ (t ++ (Array.toList (ByteArray.data (ByteArray.mk #[(32 : UInt8)])) ++ y_2)))
   (bnd (idx o5 i_1) fun y_5 =>
    bnd (W.R_num (IntKind.wrap IntKind.i64 (IntKind.wrap IntKind.i64 ((0 : Int) - y_5) - (1 : Int)))) fun y_6 =>
    bnd (okIf (decide (List.length (Array.toList (ByteArray.data (ByteArray.mk #[(32 : UInt8), (33 : UInt8)]))) + List.length y_6 ≤ (9223372036854775807 : Nat)))) fun y_7 =>
    bnd (okIf (decide (List.length t + List.length (Array.toList (ByteArray.data (ByteArray.mk #[(32 : UInt8), (33 : UInt8)])) ++ y_6) ≤ (9223372036854775807 : Nat)))) fun y_8 =>
    k_ (t ++ (Array.toList (ByteArray.data (ByteArray.mk #[(32 : UInt8), (33 : UInt8)])) ++ y_6)))
def R_opText.c281926s : Shape := ⟨[(0, qc36), (1, qc3), (2, qc22), (3, qc24), (4, qc22), (5, qc6), (6, qc6)], [(1, qc21)]⟩
def R_opText.c281926x0 : Shape := ⟨[(0, qc36), (1, qc3), (2, qc22), (3, qc24), (4, qc22), (5, qc6), (6, qc6)], [(1, qc21)]⟩
def R_opText.c281926r : Ck := Ck.of (T := List UInt8) R_opText.c281926s (fun ρ x_ k_ => uP x_ fun o x_ => uP x_ fun t2 x_ => uP x_ fun names x_ => uP x_ fun t x_ => uP x_ fun i x_ => uP x_ fun i_1 x_ => uP x_ fun o0 x_ => uP x_ fun o1 x_ => uP x_ fun o2 x_ => uP x_ fun o3 x_ => uP x_ fun o4 x_ => uP x_ fun o5 x_ => R_opText.c281926 t i_1 o5 k_) (fun ρ x_ r_ k_ => uP x_ fun o x_ => uP x_ fun t2 x_ => uP x_ fun names x_ => uP x_ fun t x_ => uP x_ fun i x_ => uP x_ fun i_1 x_ => uP x_ fun o0 x_ => uP x_ fun o1 x_ => uP x_ fun o2 x_ => uP x_ fun o3 x_ => uP x_ fun o4 x_ => uP x_ fun o5 x_ => k_ 0 (Shape.inj R_opText.c281926x0 (o, t2, names, r_, i, i_1, o0, o1, o2, o3, o4, o5, ())))
def R_opText.c100018 {ρ : Type} (t : List UInt8) (i_1 : Int) (o5 : List (Int)) (k_ : ((List UInt8) × (Int)) ⊕ ((List UInt8) × (Int)) → Option ρ) : Option ρ :=
  br (decide (i_1 < (↑(List.length o5) : Int)))
   (bnd (W.R_opText.c281926 t i_1 o5 some) fun y =>
    k_ (.inl (y, (IntKind.wrap IntKind.i64 (i_1 + (1 : Int))))))
   (k_ (.inr (t, i_1)))
def R_opText.c100018s : Shape := ⟨[(0, qc36), (1, qc3), (2, qc22), (3, qc24), (4, qc22), (5, qc6), (6, qc6)], [(1, qc21)]⟩
def R_opText.c100018x0 : Shape := ⟨[(0, qc36), (1, qc3), (2, qc22), (3, qc24), (4, qc22), (5, qc6), (6, qc6)], [(1, qc21)]⟩
def R_opText.c100018r : Ck := Ck.ofLoop (S := (List UInt8) × (Int)) (T := (List UInt8) × (Int)) R_opText.c100018s (fun x_ => uP x_ fun o x_ => uP x_ fun t2 x_ => uP x_ fun names x_ => uP x_ fun t x_ => uP x_ fun i x_ => uP x_ fun i_1 x_ => uP x_ fun o0 x_ => uP x_ fun o1 x_ => uP x_ fun o2 x_ => uP x_ fun o3 x_ => uP x_ fun o4 x_ => uP x_ fun o5 x_ => (t, i_1)) (fun ρ x_ s_ k_ => uP x_ fun o x_ => uP x_ fun t2 x_ => uP x_ fun names x_ => uP x_ fun t x_ => uP x_ fun i x_ => uP x_ fun i_1 x_ => uP x_ fun o0 x_ => uP x_ fun o1 x_ => uP x_ fun o2 x_ => uP x_ fun o3 x_ => uP x_ fun o4 x_ => uP x_ fun o5 x_ => R_opText.c100018 s_.1 s_.2 o5 k_) (fun ρ x_ r_ k_ => uP x_ fun o x_ => uP x_ fun t2 x_ => uP x_ fun names x_ => uP x_ fun t x_ => uP x_ fun i x_ => uP x_ fun i_1 x_ => uP x_ fun o0 x_ => uP x_ fun o1 x_ => uP x_ fun o2 x_ => uP x_ fun o3 x_ => uP x_ fun o4 x_ => uP x_ fun o5 x_ => k_ 4 (Shape.inj R_opText.c100018x0 (o, t2, names, r_.1, i, r_.2, o0, o1, o2, o3, o4, o5, ())))
def R_opText (o : (Int) × ((Int) × ((List Int) × ((Int) × ((Int) × (List Int)))))) : Option (List UInt8) :=
  bnd (idx [Array.toList (ByteArray.data (ByteArray.mk #[])), Array.toList (ByteArray.data (ByteArray.mk #[(112 : UInt8), (104 : UInt8), (97 : UInt8), (115 : UInt8), (101 : UInt8)])), Array.toList (ByteArray.data (ByteArray.mk #[(120 : UInt8)])), Array.toList (ByteArray.data (ByteArray.mk #[(104 : UInt8)])), Array.toList (ByteArray.data (ByteArray.mk #[(112 : UInt8)])), Array.toList (ByteArray.data (ByteArray.mk #[(109 : UInt8), (101 : UInt8), (97 : UInt8), (115 : UInt8), (117 : UInt8), (114 : UInt8), (101 : UInt8)])), Array.toList (ByteArray.data (ByteArray.mk #[(114 : UInt8), (101 : UInt8), (115 : UInt8), (101 : UInt8), (116 : UInt8)]))] (Prod.fst o)) fun y =>
  bnd (W.R_opText.c212293 y (Prod.fst o) (Prod.fst (Prod.snd o)) some) fun y_1 =>
  bnd (W.R_opText.c220485 y_1 (Prod.fst o) (Prod.fst (Prod.snd (Prod.snd (Prod.snd o)))) some) fun y_2 =>
  bnd (W.R_opText.c228677 y_2 (Prod.fst (Prod.snd (Prod.snd o))) some) fun y_3 =>
  bnd (iter (fun s ↦ W.R_opText.c100010 (Prod.fst s) (Prod.snd s) (Prod.fst (Prod.snd (Prod.snd o))) some) (y_3, (0 : Int))) fun y_4 =>
  bnd (W.R_opText.c253253 (Prod.fst y_4) (Prod.fst o) (Prod.fst (Prod.snd (Prod.snd (Prod.snd (Prod.snd o))))) some) fun y_5 =>
  bnd (W.R_opText.c261445 y_5 (Prod.snd (Prod.snd (Prod.snd (Prod.snd (Prod.snd o))))) some) fun y_6 =>
  bnd (iter (fun s ↦ W.R_opText.c100018 (Prod.fst s) (Prod.snd s) (Prod.snd (Prod.snd (Prod.snd (Prod.snd (Prod.snd o))))) some) (y_6, (0 : Int))) fun y_7 =>
  bnd (okIf (decide (List.length (Prod.fst y_7) + List.length (Array.toList (ByteArray.data (ByteArray.mk #[(10 : UInt8)]))) ≤ (9223372036854775807 : Nat)))) fun y_8 =>
  some (Prod.fst y_7 ++ Array.toList (ByteArray.data (ByteArray.mk #[(10 : UInt8)])))
def R_opText.ce : Go.Ql.Callee := ⟨[(.st (.pair (.int .i64) (.pair (.int .i64) (.pair (.sl (.int .i64)) (.pair (.int .i64) (.pair (.int .i64) (.sl (.int .i64))))))))], [.str], fun x_ => R_opText x_⟩
def R_opText.G : Env := ⟨109, tab, [(58, R_num.ce)], [0, 1, 2, 3, 4, 5, 6, 20, 29, 39, 46, 60, 70, 77, 85], [], [], [(100018, R_opText.c100018r), (281926, R_opText.c281926r), (261445, R_opText.c261445r), (253253, R_opText.c253253r), (100010, R_opText.c100010r), (228677, R_opText.c228677r), (220485, R_opText.c220485r), (212293, R_opText.c212293r), (3, R_opText.c3r)], [], tab_eqs⟩
theorem R_opText.eq (x_ : dens [(.st (.pair (.int .i64) (.pair (.int .i64) (.pair (.sl (.int .i64)) (.pair (.int .i64) (.pair (.int .i64) (.sl (.int .i64))))))))]) : den R_opText.G Go.Proofs.Tryd.f59 [(.st (.pair (.int .i64) (.pair (.int .i64) (.pair (.sl (.int .i64)) (.pair (.int .i64) (.pair (.int .i64) (.sl (.int .i64))))))))] [.str] x_ = R_opText x_ := by kernel_rfl
theorem R_opText.p0 : PieceOk R_opText.G (pieceAt (pieces R_opText.G.cks (bodyOf Go.Proofs.Tryd.f59)) 0).1 (pieceAt (pieces R_opText.G.cks (bodyOf Go.Proofs.Tryd.f59)) 0).2 :=
  join_ok (s := R_opText.c212293r) (by kernel_rfl) (by kernel_rfl) (sums_of (sh := R_opText.c212293s) (fun ρ x_ k_ => (nat_bnd fun _ => (nat_br (nat_bnd fun _ => (nat_bnd fun _ => (nat_bnd fun _ => nat_leaf))) nat_leaf))) (fun ρ x_ t k => (by kernel_rfl)) (fun x_ => by kernel_rfl))
theorem R_opText.p1 : PieceOk R_opText.G (pieceAt (pieces R_opText.G.cks (bodyOf Go.Proofs.Tryd.f59)) 1).1 (pieceAt (pieces R_opText.G.cks (bodyOf Go.Proofs.Tryd.f59)) 1).2 :=
  region_ok (s := R_opText.c3r) (by kernel_rfl) (by kernel_rfl) (sums_of (sh := R_opText.c3s) (fun ρ x_ k_ => (nat_br nat_leaf nat_leaf)) (fun ρ x_ t k => (by kernel_rfl)) (fun x_ => by kernel_rfl))
theorem R_opText.p2 : PieceOk R_opText.G (pieceAt (pieces R_opText.G.cks (bodyOf Go.Proofs.Tryd.f59)) 2).1 (pieceAt (pieces R_opText.G.cks (bodyOf Go.Proofs.Tryd.f59)) 2).2 :=
  join_ok (s := R_opText.c220485r) (by kernel_rfl) (by kernel_rfl) (sums_of (sh := R_opText.c220485s) (fun ρ x_ k_ => (nat_br (nat_bnd fun _ => (nat_bnd fun _ => (nat_bnd fun _ => nat_leaf))) nat_leaf)) (fun ρ x_ t k => (by kernel_rfl)) (fun x_ => by kernel_rfl))
theorem R_opText.p3 : PieceOk R_opText.G (pieceAt (pieces R_opText.G.cks (bodyOf Go.Proofs.Tryd.f59)) 3).1 (pieceAt (pieces R_opText.G.cks (bodyOf Go.Proofs.Tryd.f59)) 3).2 :=
  join_ok (s := R_opText.c228677r) (by kernel_rfl) (by kernel_rfl) (sums_of (sh := R_opText.c228677s) (fun ρ x_ k_ => (nat_br (nat_bnd fun _ => nat_leaf) nat_leaf)) (fun ρ x_ t k => (by kernel_rfl)) (fun x_ => by kernel_rfl))
theorem R_opText.p4 : PieceOk R_opText.G (pieceAt (pieces R_opText.G.cks (bodyOf Go.Proofs.Tryd.f59)) 4).1 (pieceAt (pieces R_opText.G.cks (bodyOf Go.Proofs.Tryd.f59)) 4).2 :=
  loop_ok (s := R_opText.c100010r) (by kernel_rfl) (by kernel_rfl) (loops_of (sh := R_opText.c100010s) (I := fun x_ s_ => (x_.1, x_.2.1, x_.2.2.1, s_.1, s_.2, x_.2.2.2.2.2.1, x_.2.2.2.2.2.2.1, x_.2.2.2.2.2.2.2.1, x_.2.2.2.2.2.2.2.2.1, x_.2.2.2.2.2.2.2.2.2.1, x_.2.2.2.2.2.2.2.2.2.2.1, ())) (fun x_ => rfl) (fun ρ x_ s_ k_ => (nat_br (nat_bnd fun _ => (nat_bnd fun _ => (nat_bnd fun _ => (nat_bnd fun _ => nat_leaf)))) nat_leaf)) (fun ρ x_ t k => (by kernel_rfl)) (fun x_ s => by kernel_rfl))
theorem R_opText.p5 : PieceOk R_opText.G (pieceAt (pieces R_opText.G.cks (bodyOf Go.Proofs.Tryd.f59)) 5).1 (pieceAt (pieces R_opText.G.cks (bodyOf Go.Proofs.Tryd.f59)) 5).2 :=
  join_ok (s := R_opText.c253253r) (by kernel_rfl) (by kernel_rfl) (sums_of (sh := R_opText.c253253s) (fun ρ x_ k_ => (nat_br (nat_bnd fun _ => (nat_bnd fun _ => (nat_bnd fun _ => nat_leaf))) nat_leaf)) (fun ρ x_ t k => (by kernel_rfl)) (fun x_ => by kernel_rfl))
theorem R_opText.p6 : PieceOk R_opText.G (pieceAt (pieces R_opText.G.cks (bodyOf Go.Proofs.Tryd.f59)) 6).1 (pieceAt (pieces R_opText.G.cks (bodyOf Go.Proofs.Tryd.f59)) 6).2 :=
  join_ok (s := R_opText.c261445r) (by kernel_rfl) (by kernel_rfl) (sums_of (sh := R_opText.c261445s) (fun ρ x_ k_ => (nat_br (nat_bnd fun _ => nat_leaf) nat_leaf)) (fun ρ x_ t k => (by kernel_rfl)) (fun x_ => by kernel_rfl))
theorem R_opText.p7 : PieceOk R_opText.G (pieceAt (pieces R_opText.G.cks (bodyOf Go.Proofs.Tryd.f59)) 7).1 (pieceAt (pieces R_opText.G.cks (bodyOf Go.Proofs.Tryd.f59)) 7).2 :=
  loop_ok (s := R_opText.c100018r) (by kernel_rfl) (by kernel_rfl) (loops_of (sh := R_opText.c100018s) (I := fun x_ s_ => (x_.1, x_.2.1, x_.2.2.1, s_.1, x_.2.2.2.2.1, s_.2, x_.2.2.2.2.2.2.1, x_.2.2.2.2.2.2.2.1, x_.2.2.2.2.2.2.2.2.1, x_.2.2.2.2.2.2.2.2.2.1, x_.2.2.2.2.2.2.2.2.2.2.1, x_.2.2.2.2.2.2.2.2.2.2.2.1, ())) (fun x_ => rfl) (fun ρ x_ s_ k_ => (nat_br (nat_bnd fun _ => nat_leaf) nat_leaf)) (fun ρ x_ t k => (by kernel_rfl)) (fun x_ s => by kernel_rfl))
theorem R_opText.p8 : PieceOk R_opText.G (pieceAt (pieces R_opText.G.cks (bodyOf Go.Proofs.Tryd.f59)) 8).1 (pieceAt (pieces R_opText.G.cks (bodyOf Go.Proofs.Tryd.f59)) 8).2 :=
  join_ok (s := R_opText.c281926r) (by kernel_rfl) (by kernel_rfl) (sums_of (sh := R_opText.c281926s) (fun ρ x_ k_ => (nat_bnd fun _ => (nat_br (nat_bnd fun _ => (nat_bnd fun _ => (nat_bnd fun _ => (nat_bnd fun _ => nat_leaf)))) (nat_bnd fun _ => (nat_bnd fun _ => (nat_bnd fun _ => (nat_bnd fun _ => nat_leaf))))))) (fun ρ x_ t k => (by kernel_rfl)) (fun x_ => by kernel_rfl))
theorem R_opText.ok : CalleeOk Go.Proofs.Tryd.prog 59 R_opText.ce := fn_ok (G := R_opText.G) tab_ok mixed Go.Proofs.Tryd.func59 ⟨(fns_cons R_num.ok fns_nil), mfns_nil, tab_eqs_ok⟩ (m := 9) (by kernel_rfl) ⟨⟨⟨⟨⟨⟨⟨⟨⟨trivial, R_opText.p0⟩, R_opText.p1⟩, R_opText.p2⟩, R_opText.p3⟩, R_opText.p4⟩, R_opText.p5⟩, R_opText.p6⟩, R_opText.p7⟩, R_opText.p8⟩ (by kernel_rfl) R_opText.eq
abbrev qd0 : SD := .one (.val .str)
abbrev qd1 : SD := .one (.val (.int .i64))
abbrev qd2 : SD := .one (.own 0 0)
abbrev qd3 : SO := .arr 0 false 9 .str
abbrev qd4 : SD := .one (.own 8 0)
abbrev qd5 : SD := .one (.own 31 0)
end
end W
end
