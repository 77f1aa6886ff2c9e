/- Lifted functions, part 1: each with its contract. -/
import Derived.Test.YtbaankfibhmcaaaLf
import Derived.Test.YtbaankfibhmcaaaProg
section
/- The program's types. -/
set_option maxHeartbeats 4000000
set_option maxRecDepth 100000
set_option linter.unusedVariables false
namespace W
open Go Go.Ql
noncomputable section
instance gInv : GInv := ⟨fun _ => True, 0, fun _ _ => trivial, fun _ => Nat.zero_le _⟩
def tab : List (Nat × TI) := [(1, ⟨.nilv 3, .nul⟩),
 (2, ⟨.int .i64, .scalar⟩),
 (3, ⟨.int .i64, .scalar⟩),
 (4, ⟨.bool, .scalar⟩),
 (5, ⟨.int .u8, .scalar⟩),
 (6, ⟨.int .u8, .scalar⟩),
 (7, ⟨.st (.pair (.int .i64) (.pair (.int .i64) (.pair .bool (.int .u8)))), .struct [(0, 2), (1, 3), (2, 4), (3, 6)]⟩),
 (8, ⟨.st (.pair (.int .i64) (.pair (.int .i64) (.pair .bool (.int .u8)))), .struct [(0, 2), (1, 3), (2, 4), (3, 6)]⟩),
 (9, ⟨.str, .scalar⟩),
 (10, ⟨.str, .scalar⟩),
 (11, ⟨.str, .scalar⟩),
 (12, ⟨.int .u64, .scalar⟩),
 (13, ⟨.st (.pair .str (.int .u64)), .struct [(0, 9), (1, 12)]⟩),
 (14, ⟨.st (.pair .str (.int .u64)), .struct [(0, 9), (1, 12)]⟩),
 (15, ⟨.nilv 0, .nul⟩),
 (16, ⟨.nilv 0, .nul⟩),
 (17, ⟨.nilv 0, .nul⟩),
 (18, ⟨.st (.nilv 0), .struct [(0, 17)]⟩),
 (19, ⟨.st (.nilv 0), .struct [(0, 17)]⟩),
 (20, ⟨.nilv 1, .nul⟩),
 (21, ⟨.int .i32, .scalar⟩),
 (22, ⟨.sl (.st (.pair (.int .i64) (.pair (.int .i64) (.pair (.sl (.int .i64)) (.pair (.int .i64) (.pair (.int .i64) (.sl (.int .i64)))))))), .slice 37 80⟩),
 (23, ⟨.st (.pair (.int .i64) (.pair (.int .i64) (.sl (.st (.pair (.int .i64) (.pair (.int .i64) (.pair (.sl (.int .i64)) (.pair (.int .i64) (.pair (.int .i64) (.sl (.int .i64))))))))))), .struct [(0, 3), (1, 3), (2, 22)]⟩),
 (24, ⟨.st (.pair (.int .i64) (.pair (.int .i64) (.sl (.st (.pair (.int .i64) (.pair (.int .i64) (.pair (.sl (.int .i64)) (.pair (.int .i64) (.pair (.int .i64) (.sl (.int .i64))))))))))), .struct [(0, 3), (1, 3), (2, 22)]⟩),
 (26, ⟨.st (.pair (.int .i64) (.int .i64)), .struct [(0, 3), (1, 3)]⟩),
 (27, ⟨.st (.pair (.int .i64) (.int .i64)), .struct [(0, 3), (1, 3)]⟩),
 (35, ⟨.sl (.int .i64), .slice 3 8⟩),
 (36, ⟨.st (.pair (.int .i64) (.pair (.int .i64) (.pair (.sl (.int .i64)) (.pair (.int .i64) (.pair (.int .i64) (.sl (.int .i64))))))), .struct [(0, 3), (1, 3), (2, 35), (3, 3), (4, 3), (5, 35)]⟩),
 (37, ⟨.st (.pair (.int .i64) (.pair (.int .i64) (.pair (.sl (.int .i64)) (.pair (.int .i64) (.pair (.int .i64) (.sl (.int .i64))))))), .struct [(0, 3), (1, 3), (2, 35), (3, 3), (4, 3), (5, 35)]⟩),
 (40, ⟨.sl (.st (.pair (.ar 8 (.st (.pair .bool (.sl (.int .i64))))) (.int .i64))), .slice 49 264⟩),
 (45, ⟨.st (.pair .bool (.sl (.int .i64))), .struct [(0, 4), (1, 35)]⟩),
 (46, ⟨.st (.pair .bool (.sl (.int .i64))), .struct [(0, 4), (1, 35)]⟩),
 (47, ⟨.ar 8 (.st (.pair .bool (.sl (.int .i64)))), .arr 8 46⟩),
 (48, ⟨.st (.pair (.ar 8 (.st (.pair .bool (.sl (.int .i64))))) (.int .i64)), .struct [(0, 47), (16, 3)]⟩),
 (49, ⟨.st (.pair (.ar 8 (.st (.pair .bool (.sl (.int .i64))))) (.int .i64)), .struct [(0, 47), (16, 3)]⟩),
 (54, ⟨.nilv 0, .nul⟩),
 (55, ⟨.nilv 0, .nul⟩),
 (56, ⟨.st (.pair (.nilv 0) (.pair (.int .i64) (.sl (.int .i64)))), .struct [(0, 55), (1, 3), (2, 35)]⟩),
 (57, ⟨.st (.pair (.nilv 0) (.pair (.int .i64) (.sl (.int .i64)))), .struct [(0, 55), (1, 3), (2, 35)]⟩),
 (80, ⟨.ar 12 .bool, .arr 12 4⟩),
 (82, ⟨.int .u64, .scalar⟩),
 (92, ⟨.st (.pair (.nilv 0) (.pair (.nilv 0) (.pair (.nilv 0) .str))), .struct [(0, 17), (1, 17), (2, 17), (3, 9)]⟩),
 (93, ⟨.st (.pair (.nilv 0) (.pair (.nilv 0) (.pair (.nilv 0) .str))), .struct [(0, 17), (1, 17), (2, 17), (3, 9)]⟩),
 (94, ⟨.ar 0 (.nilv 0), .arr 0 16⟩),
 (95, ⟨.st (.ar 0 (.nilv 0)), .struct [(0, 94)]⟩),
 (96, ⟨.st (.ar 0 (.nilv 0)), .struct [(0, 94)]⟩),
 (98, ⟨.int .u32, .scalar⟩),
 (99, ⟨.int .u8, .scalar⟩),
 (100, ⟨.int .u8, .scalar⟩),
 (102, ⟨.nilv 0, .nul⟩),
 (103, ⟨.int .i32, .scalar⟩),
 (104, ⟨.int .i32, .scalar⟩),
 (105, ⟨.st (.pair (.int .u64) (.pair (.int .u64) (.pair (.int .u32) (.pair (.int .u8) (.pair (.int .u8) (.pair (.int .u8) (.pair (.int .u8) (.pair (.nilv 3) (.pair (.nilv 0) (.pair (.int .i32) (.int .i32))))))))))), .struct [(0, 12), (1, 12), (2, 98), (3, 99), (4, 5), (5, 5), (6, 100), (7, 101), (8, 102), (9, 103), (10, 104)]⟩),
 (106, ⟨.st (.pair (.int .u64) (.pair (.int .u64) (.pair (.int .u32) (.pair (.int .u8) (.pair (.int .u8) (.pair (.int .u8) (.pair (.int .u8) (.pair (.nilv 3) (.pair (.nilv 0) (.pair (.int .i32) (.int .i32))))))))))), .struct [(0, 12), (1, 12), (2, 98), (3, 99), (4, 5), (5, 5), (6, 100), (7, 101), (8, 102), (9, 103), (10, 104)]⟩)]
theorem mixed : Go.Proofs.Try.prog.follows .mixedOrders = true := by kernel_rfl
theorem tab_ok : TabOk Go.Proofs.Try.prog tab := tabB_ok (by kernel_rfl)
def tab_eqs : List Nat := [27]
theorem tab_eqs_ok : EqsOk Go.Proofs.Try.prog tab tab_eqs := eqsB_ok (by kernel_rfl)
end
end W
end

section
/- Functions of the program as typed functions, printed by a program of mine, with their proofs. -/
set_option maxHeartbeats 4000000
set_option maxRecDepth 100000
set_option linter.unusedVariables false
namespace W
open Go Go.Ql
noncomputable section
def circ_fault (code : Int) (t1 : Int) : Option ((Int) × (Int)) :=
  some (code, t1)
def circ_fault.ce : Go.Ql.Callee := ⟨[(.int .i64), (.int .i64)], [(.st (.pair (.int .i64) (.int .i64)))], fun x_ => circ_fault x_.1 x_.2⟩
def circ_fault.G : Env := ⟨8, tab, [], [0, 1, 4], [], [], [], [], tab_eqs⟩
theorem circ_fault.eq (x_ : dens [(.int .i64), (.int .i64)]) : den circ_fault.G Go.Proofs.Try.f29 [(.int .i64), (.int .i64)] [(.st (.pair (.int .i64) (.int .i64)))] x_ = circ_fault x_.1 x_.2 := by kernel_rfl
theorem circ_fault.ok : CalleeOk Go.Proofs.Try.prog 29 circ_fault.ce := fn_ok (G := circ_fault.G) tab_ok mixed Go.Proofs.Try.func29 ⟨fns_nil, mfns_nil, tab_eqs_ok⟩ (m := 0) (by kernel_rfl) trivial (by kernel_rfl) circ_fault.eq
abbrev la0 : SD := .one (.val (.int .i64))
abbrev la1 : SD := .one (.val .bool)
def circ_turns.c1 {ρ : Type} (kind : Int) (k_ : Bool → Option ρ) : Option ρ :=
  br (kind == (1 : Int))
   (k_ true)
   (k_ (kind == (4 : Int)))
def circ_turns.c1s : Shape := ⟨[(0, la0), (2, la1)], []⟩
def circ_turns.c1x0 : Shape := ⟨[(0, la0), (2, la1)], []⟩
def circ_turns.c1r : Ck := Ck.of (T := Bool) circ_turns.c1s (fun ρ x_ k_ => uP x_ fun kind x_ => uP x_ fun t2 x_ => circ_turns.c1 kind k_) (fun ρ x_ r_ k_ => uP x_ fun kind x_ => uP x_ fun t2 x_ => k_ 0 (Shape.inj circ_turns.c1x0 (kind, r_, ())))
def circ_turns (kind : Int) : Option (Bool) :=
  bnd (W.circ_turns.c1 kind some) fun y =>
  some y
def circ_turns.ce : Go.Ql.Callee := ⟨[(.int .i64)], [.bool], fun x_ => circ_turns x_⟩
def circ_turns.G : Env := ⟨9, tab, [], [0, 2], [], [], [(1, circ_turns.c1r)], [], tab_eqs⟩
theorem circ_turns.eq (x_ : dens [(.int .i64)]) : den circ_turns.G Go.Proofs.Try.f45 [(.int .i64)] [.bool] x_ = circ_turns x_ := by kernel_rfl
theorem circ_turns.p0 : PieceOk circ_turns.G (pieceAt (pieces circ_turns.G.cks (bodyOf Go.Proofs.Try.f45)) 0).1 (pieceAt (pieces circ_turns.G.cks (bodyOf Go.Proofs.Try.f45)) 0).2 :=
  region_ok (s := circ_turns.c1r) (by kernel_rfl) (by kernel_rfl) (sums_of (sh := circ_turns.c1s) (fun ρ x_ k_ => (nat_br nat_leaf nat_leaf)) (fun ρ x_ t k => (by kernel_rfl)) (fun x_ => by kernel_rfl))
theorem circ_turns.ok : CalleeOk Go.Proofs.Try.prog 45 circ_turns.ce := fn_ok (G := circ_turns.G) tab_ok mixed Go.Proofs.Try.func45 ⟨fns_nil, mfns_nil, tab_eqs_ok⟩ (m := 1) (by kernel_rfl) ⟨trivial, circ_turns.p0⟩ (by kernel_rfl) circ_turns.eq
def circ_gate.c1 {ρ : Type} (kind : Int) (k_ : Bool → Option ρ) : Option ρ :=
  br (kind == (2 : Int))
   (k_ true)
   (br (kind == (3 : Int))
     (k_ true)
     (k_ (kind == (4 : Int))))
def circ_gate.c1s : Shape := ⟨[(0, la0), (2, la1)], []⟩
def circ_gate.c1x0 : Shape := ⟨[(0, la0), (2, la1)], []⟩
def circ_gate.c1r : Ck := Ck.of (T := Bool) circ_gate.c1s (fun ρ x_ k_ => uP x_ fun kind x_ => uP x_ fun t2 x_ => circ_gate.c1 kind k_) (fun ρ x_ r_ k_ => uP x_ fun kind x_ => uP x_ fun t2 x_ => k_ 0 (Shape.inj circ_gate.c1x0 (kind, r_, ())))
def circ_gate (kind : Int) : Option (Bool) :=
  bnd (W.circ_gate.c1 kind some) fun y =>
  some y
def circ_gate.ce : Go.Ql.Callee := ⟨[(.int .i64)], [.bool], fun x_ => circ_gate x_⟩
def circ_gate.G : Env := ⟨13, tab, [], [0, 2], [], [], [(1, circ_gate.c1r)], [], tab_eqs⟩
theorem circ_gate.eq (x_ : dens [(.int .i64)]) : den circ_gate.G Go.Proofs.Try.f46 [(.int .i64)] [.bool] x_ = circ_gate x_ := by kernel_rfl
theorem circ_gate.p0 : PieceOk circ_gate.G (pieceAt (pieces circ_gate.G.cks (bodyOf Go.Proofs.Try.f46)) 0).1 (pieceAt (pieces circ_gate.G.cks (bodyOf Go.Proofs.Try.f46)) 0).2 :=
  region_ok (s := circ_gate.c1r) (by kernel_rfl) (by kernel_rfl) (sums_of (sh := circ_gate.c1s) (fun ρ x_ k_ => (nat_br nat_leaf (nat_br nat_leaf nat_leaf))) (fun ρ x_ t k => (by kernel_rfl)) (fun x_ => by kernel_rfl))
theorem circ_gate.ok : CalleeOk Go.Proofs.Try.prog 46 circ_gate.ce := fn_ok (G := circ_gate.G) tab_ok mixed Go.Proofs.Try.func46 ⟨fns_nil, mfns_nil, tab_eqs_ok⟩ (m := 1) (by kernel_rfl) ⟨trivial, circ_gate.p0⟩ (by kernel_rfl) circ_gate.eq
abbrev la2 : SD := .one (.val (.st (.pair (.int .i64) (.pair (.int .i64) (.pair (.sl (.int .i64)) (.pair (.int .i64) (.pair (.int .i64) (.sl (.int .i64)))))))))
abbrev la3 : SD := .one (.ref 1000100 0)
abbrev la4 : SO := .box [.val (.int .i64), .val (.int .i64), .val (.sl (.st (.pair (.int .i64) (.pair (.int .i64) (.pair (.sl (.int .i64)) (.pair (.int .i64) (.pair (.int .i64) (.sl (.int .i64)))))))))]
abbrev la5 : SD := .one (.ref 2 0)
abbrev la6 : SO := .box [.val (.int .i64), .val (.int .i64), .val (.sl (.int .i64)), .val (.int .i64), .val (.int .i64), .val (.sl (.int .i64))]
abbrev la7 : SD := .one (.aptr 5 0)
abbrev la8 : SD := .one (.val (.sl (.int .i64)))
abbrev la9 : SO := .arr 0 false 80 .bool
def circ_one.pre : Shape := ⟨[(0, la2), (1, la3)], [(1000100, la4)]⟩
def circ_one.post : Shape := ⟨[(0, la0)], [(1000100, la4)]⟩
def circ_one.c1 {ρ : Type} (o0 : Int) (k_ : Bool → Option ρ) : Option ρ :=
  br (decide (o0 < (1 : Int)))
   (k_ true)
   (k_ (decide (o0 > (6 : Int))))
def circ_one.c1s : Shape := ⟨[(0, la2), (1, la3), (2, la5), (4, la0)], [(2, la6), (1000100, la4)]⟩
def circ_one.c1x0 : Shape := ⟨[(0, la2), (1, la3), (2, la5), (4, la0), (17, la1)], [(2, la6), (1000100, la4)]⟩
def circ_one.c1r : Ck := Ck.of (T := Bool) circ_one.c1s (fun ρ x_ k_ => uP x_ fun o x_ => uP x_ fun t4 x_ => uP x_ fun o0 x_ => uP x_ fun o1 x_ => uP x_ fun o2 x_ => uP x_ fun o3 x_ => uP x_ fun o4 x_ => uP x_ fun o5 x_ => uP x_ fun t10001000 x_ => uP x_ fun t10001001 x_ => uP x_ fun t10001002 x_ => circ_one.c1 o0 k_) (fun ρ x_ r_ k_ => uP x_ fun o x_ => uP x_ fun t4 x_ => uP x_ fun o0 x_ => uP x_ fun o1 x_ => uP x_ fun o2 x_ => uP x_ fun o3 x_ => uP x_ fun o4 x_ => uP x_ fun o5 x_ => uP x_ fun t10001000 x_ => uP x_ fun t10001001 x_ => uP x_ fun t10001002 x_ => k_ 0 (Shape.inj circ_one.c1x0 (o, t4, r_, o0, o1, o2, o3, o4, o5, t10001000, t10001001, t10001002, ())))
def circ_one.c3 {ρ : Type} (o0 : Int) (o1 : Int) (k_ : Bool → Option ρ) : Option ρ :=
  br (decide (o1 < (0 : Int)))
   (k_ true)
   (br (decide (o1 > (15 : Int)))
     (k_ true)
     (bnd (W.circ_turns o0) fun y =>
      br (!y)
       (k_ (o1 != (0 : Int)))
       (k_ false)))
def circ_one.c3s : Shape := ⟨[(0, la2), (1, la3), (2, la5), (4, la0)], [(2, la6), (1000100, la4)]⟩
def circ_one.c3x0 : Shape := ⟨[(0, la2), (1, la3), (2, la5), (4, la0), (36, la1)], [(2, la6), (1000100, la4)]⟩
def circ_one.c3r : Ck := Ck.of (T := Bool) circ_one.c3s (fun ρ x_ k_ => uP x_ fun o x_ => uP x_ fun t4 x_ => uP x_ fun o0 x_ => uP x_ fun o1 x_ => uP x_ fun o2 x_ => uP x_ fun o3 x_ => uP x_ fun o4 x_ => uP x_ fun o5 x_ => uP x_ fun t10001000 x_ => uP x_ fun t10001001 x_ => uP x_ fun t10001002 x_ => circ_one.c3 o0 o1 k_) (fun ρ x_ r_ k_ => uP x_ fun o x_ => uP x_ fun t4 x_ => uP x_ fun o0 x_ => uP x_ fun o1 x_ => uP x_ fun o2 x_ => uP x_ fun o3 x_ => uP x_ fun o4 x_ => uP x_ fun o5 x_ => uP x_ fun t10001000 x_ => uP x_ fun t10001001 x_ => uP x_ fun t10001002 x_ => k_ 0 (Shape.inj circ_one.c3x0 (o, t4, r_, o0, o1, o2, o3, o4, o5, t10001000, t10001001, t10001002, ())))
def circ_one.c5 {ρ : Type} (o0 : Int) (o3 : Int) (t10001000 : Int) (k_ : Bool → Option ρ) : Option ρ :=
  br (decide (o3 < (0 : Int)))
   (k_ true)
   (br (decide (o3 ≥ t10001000))
     (k_ true)
     (br (o0 == (1 : Int))
       (k_ (o3 != (0 : Int)))
       (k_ false)))
def circ_one.c5s : Shape := ⟨[(0, la2), (1, la3), (2, la5), (4, la0)], [(2, la6), (1000100, la4)]⟩
def circ_one.c5x0 : Shape := ⟨[(0, la2), (1, la3), (2, la5), (4, la0), (58, la1)], [(2, la6), (1000100, la4)]⟩
def circ_one.c5r : Ck := Ck.of (T := Bool) circ_one.c5s (fun ρ x_ k_ => uP x_ fun o x_ => uP x_ fun t4 x_ => uP x_ fun o0 x_ => uP x_ fun o1 x_ => uP x_ fun o2 x_ => uP x_ fun o3 x_ => uP x_ fun o4 x_ => uP x_ fun o5 x_ => uP x_ fun t10001000 x_ => uP x_ fun t10001001 x_ => uP x_ fun t10001002 x_ => circ_one.c5 o0 o3 t10001000 k_) (fun ρ x_ r_ k_ => uP x_ fun o x_ => uP x_ fun t4 x_ => uP x_ fun o0 x_ => uP x_ fun o1 x_ => uP x_ fun o2 x_ => uP x_ fun o3 x_ => uP x_ fun o4 x_ => uP x_ fun o5 x_ => uP x_ fun t10001000 x_ => uP x_ fun t10001001 x_ => uP x_ fun t10001002 x_ => k_ 0 (Shape.inj circ_one.c5x0 (o, t4, r_, o0, o1, o2, o3, o4, o5, t10001000, t10001001, t10001002, ())))
def circ_one.c7 {ρ : Type} (o0 : Int) (o2 : List (Int)) (k_ : Bool → Option ρ) : Option ρ :=
  br (decide ((↑(List.length o2) : Int) > (0 : Int)))
   (bnd (W.circ_gate o0) fun y =>
    k_ (!y))
   (k_ false)
def circ_one.c7s : Shape := ⟨[(0, la2), (1, la3), (2, la5), (4, la0)], [(2, la6), (1000100, la4)]⟩
def circ_one.c7x0 : Shape := ⟨[(0, la2), (1, la3), (2, la5), (4, la0), (68, la1)], [(2, la6), (1000100, la4)]⟩
def circ_one.c7r : Ck := Ck.of (T := Bool) circ_one.c7s (fun ρ x_ k_ => uP x_ fun o x_ => uP x_ fun t4 x_ => uP x_ fun o0 x_ => uP x_ fun o1 x_ => uP x_ fun o2 x_ => uP x_ fun o3 x_ => uP x_ fun o4 x_ => uP x_ fun o5 x_ => uP x_ fun t10001000 x_ => uP x_ fun t10001001 x_ => uP x_ fun t10001002 x_ => circ_one.c7 o0 o2 k_) (fun ρ x_ r_ k_ => uP x_ fun o x_ => uP x_ fun t4 x_ => uP x_ fun o0 x_ => uP x_ fun o1 x_ => uP x_ fun o2 x_ => uP x_ fun o3 x_ => uP x_ fun o4 x_ => uP x_ fun o5 x_ => uP x_ fun t10001000 x_ => uP x_ fun t10001001 x_ => uP x_ fun t10001002 x_ => k_ 0 (Shape.inj circ_one.c7x0 (o, t4, r_, o0, o1, o2, o3, o4, o5, t10001000, t10001001, t10001002, ())))
def circ_one.c14 {ρ : Type} (q : Int) (t10001000 : Int) (k_ : Bool → Option ρ) : Option ρ :=
  br (decide (q < (0 : Int)))
   (k_ true)
   (k_ (decide (q ≥ t10001000)))
def circ_one.c14s : Shape := ⟨[(0, la2), (1, la3), (2, la5), (4, la0), (5, la7), (7, la0), (74, la8), (75, la0), (76, la0)], [(2, la6), (5, la9), (1000100, la4)]⟩
def circ_one.c14x0 : Shape := ⟨[(0, la2), (1, la3), (2, la5), (4, la0), (5, la7), (7, la0), (74, la8), (75, la0), (76, la0), (80, la1)], [(2, la6), (5, la9), (1000100, la4)]⟩
def circ_one.c14r : Ck := Ck.of (T := Bool) circ_one.c14s (fun ρ x_ k_ => uP x_ fun o x_ => uP x_ fun t4 x_ => uP x_ fun q x_ => uP x_ fun t74 x_ => uP x_ fun t75 x_ => uP x_ fun t76 x_ => uP x_ fun o0 x_ => uP x_ fun o1 x_ => uP x_ fun o2 x_ => uP x_ fun o3 x_ => uP x_ fun o4 x_ => uP x_ fun o5 x_ => uP x_ fun seen x_ => uP x_ fun t10001000 x_ => uP x_ fun t10001001 x_ => uP x_ fun t10001002 x_ => circ_one.c14 q t10001000 k_) (fun ρ x_ r_ k_ => uP x_ fun o x_ => uP x_ fun t4 x_ => uP x_ fun q x_ => uP x_ fun t74 x_ => uP x_ fun t75 x_ => uP x_ fun t76 x_ => uP x_ fun o0 x_ => uP x_ fun o1 x_ => uP x_ fun o2 x_ => uP x_ fun o3 x_ => uP x_ fun o4 x_ => uP x_ fun o5 x_ => uP x_ fun seen x_ => uP x_ fun t10001000 x_ => uP x_ fun t10001001 x_ => uP x_ fun t10001002 x_ => k_ 0 (Shape.inj circ_one.c14x0 (o, t4, q, t74, t75, t76, r_, o0, o1, o2, o3, o4, o5, seen, t10001000, t10001001, t10001002, ())))
def circ_one.c100012 {ρ : Type} (t74 : List (Int)) (t75 : Int) (t76 : Int) (seen : List (Bool)) (t10001000 : Int) (k_ : ((Int) × (List (Bool))) ⊕ (((Int) × (Int) × (List (Bool))) ⊕ ((Int) × (List (Bool)))) → Option ρ) : Option ρ :=
  br (decide (t76 < t75))
   (bnd (idx t74 t76) fun y =>
    bnd (W.circ_one.c14 y t10001000 some) fun y_1 =>
    br y_1
     (k_ (.inr (.inl ((10 : Int), t76, seen))))
     (bnd (okIf (decide ((0 : Ty.den (Ty.int IntKind.i64)) ≤ y) && decide (y < (↑(12 : Nat) : Int)))) fun y_2 =>
      bnd (inR (List.length seen) y) fun y_3 =>
      bnd (idx seen y) fun y_4 =>
      br y_4
       (k_ (.inr (.inl ((12 : Int), t76, seen))))
       (bnd (okIf (decide ((0 : Ty.den (Ty.int IntKind.i64)) ≤ y) && decide (y < (↑(12 : Nat) : Int)))) fun y_5 =>
        bnd (inR (List.length seen) y) fun y_6 =>
        bnd (idx seen y) fun y_7 =>
        k_ (.inl ((IntKind.wrap IntKind.i64 (t76 + (1 : Int))), (List.set seen (Int.toNat y) true))))))
   (k_ (.inr (.inr (t76, seen))))
def circ_one.c100012s : Shape := ⟨[(0, la2), (1, la3), (2, la5), (4, la0), (5, la7), (74, la8), (75, la0), (76, la0)], [(2, la6), (5, la9), (1000100, la4)]⟩
def circ_one.c100012x0 : Shape := ⟨[(0, la2), (1, la3), (2, la5), (4, la0), (5, la7), (74, la8), (75, la0), (76, la0)], [(2, la6), (5, la9), (1000100, la4)]⟩
def circ_one.c100012x1 : Shape := ⟨[(0, la2), (1, la3), (2, la5), (4, la0), (5, la7), (74, la8), (75, la0), (76, la0)], [(2, la6), (5, la9), (1000100, la4)]⟩
def circ_one.c100012r : Ck := Ck.ofLoop (S := (Int) × (List (Bool))) (T := ((Int) × (Int) × (List (Bool))) ⊕ ((Int) × (List (Bool)))) circ_one.c100012s (fun x_ => uP x_ fun o x_ => uP x_ fun t4 x_ => uP x_ fun t74 x_ => uP x_ fun t75 x_ => uP x_ fun t76 x_ => uP x_ fun o0 x_ => uP x_ fun o1 x_ => uP x_ fun o2 x_ => uP x_ fun o3 x_ => uP x_ fun o4 x_ => uP x_ fun o5 x_ => uP x_ fun seen x_ => uP x_ fun t10001000 x_ => uP x_ fun t10001001 x_ => uP x_ fun t10001002 x_ => (t76, seen)) (fun ρ x_ s_ k_ => uP x_ fun o x_ => uP x_ fun t4 x_ => uP x_ fun t74 x_ => uP x_ fun t75 x_ => uP x_ fun t76 x_ => uP x_ fun o0 x_ => uP x_ fun o1 x_ => uP x_ fun o2 x_ => uP x_ fun o3 x_ => uP x_ fun o4 x_ => uP x_ fun o5 x_ => uP x_ fun seen x_ => uP x_ fun t10001000 x_ => uP x_ fun t10001001 x_ => uP x_ fun t10001002 x_ => circ_one.c100012 t74 t75 s_.1 s_.2 t10001000 k_) (fun ρ x_ r_ k_ => uP x_ fun o x_ => uP x_ fun t4 x_ => uP x_ fun t74 x_ => uP x_ fun t75 x_ => uP x_ fun t76 x_ => uP x_ fun o0 x_ => uP x_ fun o1 x_ => uP x_ fun o2 x_ => uP x_ fun o3 x_ => uP x_ fun o4 x_ => uP x_ fun o5 x_ => uP x_ fun seen x_ => uP x_ fun t10001000 x_ => uP x_ fun t10001001 x_ => uP x_ fun t10001002 x_ => sel r_ (fun r_ => k_ 1 (Shape.inj circ_one.c100012x0 (o, r_.1, t74, t75, r_.2.1, o0, o1, o2, o3, o4, o5, r_.2.2, t10001000, t10001001, t10001002, ()))) (fun r_ => k_ 2 (Shape.inj circ_one.c100012x1 (o, t4, t74, t75, r_.1, o0, o1, o2, o3, o4, o5, r_.2, t10001000, t10001001, t10001002, ()))))
def circ_one.c20 {ρ : Type} (o0 : Int) (o4 : Int) (t10001001 : Int) (k_ : Bool → Option ρ) : Option ρ :=
  br (o0 == (5 : Int))
   (br (decide (o4 < (0 : Int)))
     (k_ true)
     (br (decide (o4 ≥ t10001001))
       (k_ true)
       (br (o0 != (5 : Int))
         (k_ (o4 != (0 : Int)))
         (k_ false))))
   (br (o0 != (5 : Int))
     (k_ (o4 != (0 : Int)))
     (k_ false))
def circ_one.c20s : Shape := ⟨[(0, la2), (1, la3), (2, la5), (4, la0), (5, la7), (74, la8), (75, la0), (76, la0)], [(2, la6), (5, la9), (1000100, la4)]⟩
def circ_one.c20x0 : Shape := ⟨[(0, la2), (1, la3), (2, la5), (4, la0), (5, la7), (74, la8), (75, la0), (76, la0), (124, la1)], [(2, la6), (5, la9), (1000100, la4)]⟩
def circ_one.c20r : Ck := Ck.of (T := Bool) circ_one.c20s (fun ρ x_ k_ => uP x_ fun o x_ => uP x_ fun t4 x_ => uP x_ fun t74 x_ => uP x_ fun t75 x_ => uP x_ fun t76 x_ => uP x_ fun o0 x_ => uP x_ fun o1 x_ => uP x_ fun o2 x_ => uP x_ fun o3 x_ => uP x_ fun o4 x_ => uP x_ fun o5 x_ => uP x_ fun seen x_ => uP x_ fun t10001000 x_ => uP x_ fun t10001001 x_ => uP x_ fun t10001002 x_ => circ_one.c20 o0 o4 t10001001 k_) (fun ρ x_ r_ k_ => uP x_ fun o x_ => uP x_ fun t4 x_ => uP x_ fun t74 x_ => uP x_ fun t75 x_ => uP x_ fun t76 x_ => uP x_ fun o0 x_ => uP x_ fun o1 x_ => uP x_ fun o2 x_ => uP x_ fun o3 x_ => uP x_ fun o4 x_ => uP x_ fun o5 x_ => uP x_ fun seen x_ => uP x_ fun t10001000 x_ => uP x_ fun t10001001 x_ => uP x_ fun t10001002 x_ => k_ 0 (Shape.inj circ_one.c20x0 (o, t4, t74, t75, t76, r_, o0, o1, o2, o3, o4, o5, seen, t10001000, t10001001, t10001002, ())))
def circ_one.c27 {ρ : Type} (v : Int) (t10001001 : Int) (k_ : Bool → Option ρ) : Option ρ :=
  br (v == (0 : Int))
   (k_ true)
   (br (decide (v > t10001001))
     (k_ true)
     (k_ (decide (v < IntKind.wrap IntKind.i64 ((0 : Int) - t10001001)))))
def circ_one.c27s : Shape := ⟨[(0, la2), (1, la3), (2, la5), (4, la0), (5, la7), (9, la0), (74, la8), (75, la0), (76, la0), (130, la8), (131, la0), (132, la0)], [(2, la6), (5, la9), (1000100, la4)]⟩
def circ_one.c27x0 : Shape := ⟨[(0, la2), (1, la3), (2, la5), (4, la0), (5, la7), (9, la0), (74, la8), (75, la0), (76, la0), (130, la8), (131, la0), (132, la0), (154, la1)], [(2, la6), (5, la9), (1000100, la4)]⟩
def circ_one.c27r : Ck := Ck.of (T := Bool) circ_one.c27s (fun ρ x_ k_ => uP x_ fun o x_ => uP x_ fun t4 x_ => uP x_ fun v x_ => uP x_ fun t74 x_ => uP x_ fun t75 x_ => uP x_ fun t76 x_ => uP x_ fun t130 x_ => uP x_ fun t131 x_ => uP x_ fun t132 x_ => uP x_ fun o0 x_ => uP x_ fun o1 x_ => uP x_ fun o2 x_ => uP x_ fun o3 x_ => uP x_ fun o4 x_ => uP x_ fun o5 x_ => uP x_ fun seen x_ => uP x_ fun t10001000 x_ => uP x_ fun t10001001 x_ => uP x_ fun t10001002 x_ => circ_one.c27 v t10001001 k_) (fun ρ x_ r_ k_ => uP x_ fun o x_ => uP x_ fun t4 x_ => uP x_ fun v x_ => uP x_ fun t74 x_ => uP x_ fun t75 x_ => uP x_ fun t76 x_ => uP x_ fun t130 x_ => uP x_ fun t131 x_ => uP x_ fun t132 x_ => uP x_ fun o0 x_ => uP x_ fun o1 x_ => uP x_ fun o2 x_ => uP x_ fun o3 x_ => uP x_ fun o4 x_ => uP x_ fun o5 x_ => uP x_ fun seen x_ => uP x_ fun t10001000 x_ => uP x_ fun t10001001 x_ => uP x_ fun t10001002 x_ => k_ 0 (Shape.inj circ_one.c27x0 (o, t4, v, t74, t75, t76, t130, t131, t132, r_, o0, o1, o2, o3, o4, o5, seen, t10001000, t10001001, t10001002, ())))
def circ_one.c100025 {ρ : Type} (t130 : List (Int)) (t131 : Int) (t132 : Int) (t10001001 : Int) (k_ : (Int) ⊕ ((Int) ⊕ (Int)) → Option ρ) : Option ρ :=
  br (decide (t132 < t131))
   (bnd (idx t130 t132) fun y =>
    bnd (W.circ_one.c27 y t10001001 some) fun y_1 =>
    br y_1
     (k_ (.inr (.inl t132)))
     (k_ (.inl (IntKind.wrap IntKind.i64 (t132 + (1 : Int))))))
   (k_ (.inr (.inr t132)))
def circ_one.c100025s : Shape := ⟨[(0, la2), (1, la3), (2, la5), (4, la0), (5, la7), (74, la8), (75, la0), (76, la0), (130, la8), (131, la0), (132, la0)], [(2, la6), (5, la9), (1000100, la4)]⟩
def circ_one.c100025x0 : Shape := ⟨[(0, la2), (1, la3), (2, la5), (4, la0), (5, la7), (74, la8), (75, la0), (76, la0), (130, la8), (131, la0), (132, la0)], [(2, la6), (5, la9), (1000100, la4)]⟩
def circ_one.c100025x1 : Shape := ⟨[(0, la2), (1, la3), (2, la5), (4, la0), (5, la7), (74, la8), (75, la0), (76, la0), (130, la8), (131, la0), (132, la0)], [(2, la6), (5, la9), (1000100, la4)]⟩
def circ_one.c100025r : Ck := Ck.ofLoop (S := Int) (T := (Int) ⊕ (Int)) circ_one.c100025s (fun x_ => uP x_ fun o x_ => uP x_ fun t4 x_ => uP x_ fun t74 x_ => uP x_ fun t75 x_ => uP x_ fun t76 x_ => uP x_ fun t130 x_ => uP x_ fun t131 x_ => uP x_ fun t132 x_ => uP x_ fun o0 x_ => uP x_ fun o1 x_ => uP x_ fun o2 x_ => uP x_ fun o3 x_ => uP x_ fun o4 x_ => uP x_ fun o5 x_ => uP x_ fun seen x_ => uP x_ fun t10001000 x_ => uP x_ fun t10001001 x_ => uP x_ fun t10001002 x_ => t132) (fun ρ x_ s_ k_ => uP x_ fun o x_ => uP x_ fun t4 x_ => uP x_ fun t74 x_ => uP x_ fun t75 x_ => uP x_ fun t76 x_ => uP x_ fun t130 x_ => uP x_ fun t131 x_ => uP x_ fun t132 x_ => uP x_ fun o0 x_ => uP x_ fun o1 x_ => uP x_ fun o2 x_ => uP x_ fun o3 x_ => uP x_ fun o4 x_ => uP x_ fun o5 x_ => uP x_ fun seen x_ => uP x_ fun t10001000 x_ => uP x_ fun t10001001 x_ => uP x_ fun t10001002 x_ => circ_one.c100025 t130 t131 s_ t10001001 k_) (fun ρ x_ r_ k_ => uP x_ fun o x_ => uP x_ fun t4 x_ => uP x_ fun t74 x_ => uP x_ fun t75 x_ => uP x_ fun t76 x_ => uP x_ fun t130 x_ => uP x_ fun t131 x_ => uP x_ fun t132 x_ => uP x_ fun o0 x_ => uP x_ fun o1 x_ => uP x_ fun o2 x_ => uP x_ fun o3 x_ => uP x_ fun o4 x_ => uP x_ fun o5 x_ => uP x_ fun seen x_ => uP x_ fun t10001000 x_ => uP x_ fun t10001001 x_ => uP x_ fun t10001002 x_ => sel r_ (fun r_ => k_ 1 (Shape.inj circ_one.c100025x0 (o, (14 : Int), t74, t75, t76, t130, t131, r_, o0, o1, o2, o3, o4, o5, seen, t10001000, t10001001, t10001002, ()))) (fun r_ => k_ 5 (Shape.inj circ_one.c100025x1 (o, t4, t74, t75, t76, t130, t131, r_, o0, o1, o2, o3, o4, o5, seen, t10001000, t10001001, t10001002, ()))))
def circ_one (o : (Int) × ((Int) × ((List Int) × ((Int) × ((Int) × (List Int)))))) (t10001000 : Int) (t10001001 : Int) (t10001002 : List ((Int) × ((Int) × ((List Int) × ((Int) × ((Int) × (List Int))))))) : Option ((Int) × (Int) × (Int) × (List ((Int) × ((Int) × ((List Int) × ((Int) × ((Int) × (List Int))))))) × Unit) :=
  bnd (W.circ_one.c1 (Prod.fst o) some) fun y =>
  br y
   (some (uP (uP ((8 : Int), ()) fun u r ↦ (u, ())) fun u r ↦ (u, uP (uP (t10001000, ()) fun u r ↦ (u, uP (t10001001, ()) fun u r ↦ (u, uP (t10001002, ()) fun u r ↦ (u, ())))) fun u r ↦ (u, uP r fun u r ↦ (u, uP r fun u r ↦ (u, ()))))))
   (bnd (W.circ_one.c3 (Prod.fst o) (Prod.fst (Prod.snd o)) some) fun y_1 =>
    br y_1
     (some (uP (uP ((9 : Int), ()) fun u r ↦ (u, ())) fun u r ↦ (u, uP (uP (t10001000, ()) fun u r ↦ (u, uP (t10001001, ()) fun u r ↦ (u, uP (t10001002, ()) fun u r ↦ (u, ())))) fun u r ↦ (u, uP r fun u r ↦ (u, uP r fun u r ↦ (u, ()))))))
     (bnd (W.circ_one.c5 (Prod.fst o) (Prod.fst (Prod.snd (Prod.snd (Prod.snd o)))) t10001000 some) fun y_2 =>
      br y_2
       (some (uP (uP ((10 : Int), ()) fun u r ↦ (u, ())) fun u r ↦ (u, uP (uP (t10001000, ()) fun u r ↦ (u, uP (t10001001, ()) fun u r ↦ (u, uP (t10001002, ()) fun u r ↦ (u, ())))) fun u r ↦ (u, uP r fun u r ↦ (u, uP r fun u r ↦ (u, ()))))))
       (bnd (W.circ_one.c7 (Prod.fst o) (Prod.fst (Prod.snd (Prod.snd o))) some) fun y_3 =>
        br y_3
         (some (uP (uP ((11 : Int), ()) fun u r ↦ (u, ())) fun u r ↦ (u, uP (uP (t10001000, ()) fun u r ↦ (u, uP (t10001001, ()) fun u r ↦ (u, uP (t10001002, ()) fun u r ↦ (u, ())))) fun u r ↦ (u, uP r fun u r ↦ (u, uP r fun u r ↦ (u, ()))))))
         (bnd (okIf (decide ((0 : Ty.den (Ty.int IntKind.i64)) ≤ Prod.fst (Prod.snd (Prod.snd (Prod.snd o)))) && decide (Prod.fst (Prod.snd (Prod.snd (Prod.snd o))) < (↑(12 : Nat) : Int)))) fun y_4 =>
          bnd (inR (List.length (List.replicate (12 : Nat) false)) (Prod.fst (Prod.snd (Prod.snd (Prod.snd o))))) fun y_5 =>
          bnd (idx (List.replicate (12 : Nat) false) (Prod.fst (Prod.snd (Prod.snd (Prod.snd o))))) fun y_6 =>
          bnd (iter (fun s ↦ W.circ_one.c100012 (Prod.fst (Prod.snd (Prod.snd o))) (↑(List.length (Prod.fst (Prod.snd (Prod.snd o)))) : Int) (Prod.fst s) (Prod.snd s) t10001000 some) ((0 : Int), List.set (List.replicate (12 : Nat) false) (Int.toNat (Prod.fst (Prod.snd (Prod.snd (Prod.snd o))))) true)) fun y_7 =>
          sel y_7
           (fun u => some (uP (uP (Prod.fst u, ()) fun u r ↦ (u, ())) fun u r ↦ (u, uP (uP (t10001000, ()) fun u r ↦ (u, uP (t10001001, ()) fun u r ↦ (u, uP (t10001002, ()) fun u r ↦ (u, ())))) fun u r ↦ (u, uP r fun u r ↦ (u, uP r fun u r ↦ (u, ()))))))
           (fun v => bnd (W.circ_one.c20 (Prod.fst o) (Prod.fst (Prod.snd (Prod.snd (Prod.snd (Prod.snd o))))) t10001001 some) fun y_8 =>
            br y_8
             (some (uP (uP ((13 : Int), ()) fun u r ↦ (u, ())) fun u r ↦ (u, uP (uP (t10001000, ()) fun u r ↦ (u, uP (t10001001, ()) fun u r ↦ (u, uP (t10001002, ()) fun u r ↦ (u, ())))) fun u r ↦ (u, uP r fun u r ↦ (u, uP r fun u r ↦ (u, ()))))))
             (br (decide ((↑(List.length (Prod.snd (Prod.snd (Prod.snd (Prod.snd (Prod.snd o)))))) : Int) > (24 : Int)))
               (some (uP (uP ((14 : Int), ()) fun u r ↦ (u, ())) fun u r ↦ (u, uP (uP (t10001000, ()) fun u r ↦ (u, uP (t10001001, ()) fun u r ↦ (u, uP (t10001002, ()) fun u r ↦ (u, ())))) fun u r ↦ (u, uP r fun u r ↦ (u, uP r fun u r ↦ (u, ()))))))
               (bnd (iter (fun s ↦ W.circ_one.c100025 (Prod.snd (Prod.snd (Prod.snd (Prod.snd (Prod.snd o))))) (↑(List.length (Prod.snd (Prod.snd (Prod.snd (Prod.snd (Prod.snd o)))))) : Int) s t10001001 some) (0 : Int)) fun y_9 =>
                sel y_9
                 (fun u_1 => some (uP (uP ((14 : Int), ()) fun u r ↦ (u, ())) fun u r ↦ (u, uP (uP (t10001000, ()) fun u r ↦ (u, uP (t10001001, ()) fun u r ↦ (u, uP (t10001002, ()) fun u r ↦ (u, ())))) fun u r ↦ (u, uP r fun u r ↦ (u, uP r fun u r ↦ (u, ()))))))
                 (fun v_1 => some (uP (uP ((0 : Int), ()) fun u r ↦ (u, ())) fun u r ↦ (u, uP (uP (t10001000, ()) fun u r ↦ (u, uP (t10001001, ()) fun u r ↦ (u, uP (t10001002, ()) fun u r ↦ (u, ())))) fun u r ↦ (u, uP r fun u r ↦ (u, uP r fun u r ↦ (u, ())))))))))))))
def circ_one.mc : MCallee := ⟨30, circ_one.pre, circ_one.post, fun x_ => circ_one x_.1 x_.2.1 x_.2.2.1 x_.2.2.2.1⟩
def circ_one.G : Env := ⟨156, tab, [(45, circ_turns.ce), (46, circ_gate.ce)], [0, 1, 2, 4, 5, 7, 9, 17, 36, 58, 68, 74, 75, 76, 77, 80, 91, 124, 128, 130, 131, 132, 133, 154], [5, 69], [(20, [⟨[], [], [], []⟩, ⟨[0], [], [], []⟩, ⟨[1, 0], [], [], []⟩, ⟨[2, 1, 0], [], [], []⟩, ⟨[3, 2, 1, 0], [], [], []⟩, ⟨[4, 3, 2, 1, 0], [], [], []⟩, ⟨[5, 4, 3, 2, 1, 0], [], [], []⟩, ⟨[6, 5, 4, 3, 2, 1, 0], [], [], []⟩, ⟨[7, 6, 5, 4, 3, 2, 1, 0], [], [108, 109, 110, 111], []⟩, ⟨[8, 7, 6, 5, 4, 3, 2, 1, 0], [], [108, 109, 110, 111], []⟩, ⟨[7, 6, 5, 4, 3, 2, 1, 0], [], [106, 107], []⟩, ⟨[10, 7, 6, 5, 4, 3, 2, 1, 0], [], [106, 107], []⟩, ⟨[11, 10, 7, 6, 5, 4, 3, 2, 1, 0], [], [106, 107], []⟩, ⟨[12, 11, 10, 7, 6, 5, 4, 3, 2, 1, 0], [], [106, 107], []⟩, ⟨[9, 8, 7, 6, 5, 4, 3, 2, 1, 0, 13, 12, 11, 10], [], [], []⟩, ⟨[7, 6, 5, 4, 3, 2, 1, 0, 14, 9, 8, 13, 12, 11, 10], [], [], []⟩, ⟨[3, 2, 1, 0, 15, 7, 6, 5, 4, 14, 9, 8, 13, 12, 11, 10], [], [], []⟩, ⟨[16, 3, 2, 1, 0, 15, 7, 6, 5, 4, 14, 9, 8, 13, 12, 11, 10], [], [], []⟩, ⟨[17, 16, 3, 2, 1, 0, 15, 7, 6, 5, 4, 14, 9, 8, 13, 12, 11, 10], [], [], []⟩, ⟨[18, 17, 16, 3, 2, 1, 0, 15, 7, 6, 5, 4, 14, 9, 8, 13, 12, 11, 10], [], [], []⟩, ⟨[19, 18, 17, 16, 3, 2, 1, 0, 15, 7, 6, 5, 4, 14, 9, 8, 13, 12, 11, 10], [], [], []⟩, ⟨[20, 19, 18, 17, 16, 3, 2, 1, 0, 15, 7, 6, 5, 4, 14, 9, 8, 13, 12, 11, 10], [], [], []⟩, ⟨[21, 20, 19, 18, 17, 16, 3, 2, 1, 0, 15, 7, 6, 5, 4, 14, 9, 8, 13, 12, 11, 10], [], [], []⟩, ⟨[22, 21, 20, 19, 18, 17, 16, 3, 2, 1, 0, 15, 7, 6, 5, 4, 14, 9, 8, 13, 12, 11, 10], [], [], []⟩, ⟨[23, 22, 21, 20, 19, 18, 17, 16, 3, 2, 1, 0, 15, 7, 6, 5, 4, 14, 9, 8, 13, 12, 11, 10], [], [], []⟩, ⟨[21, 20, 19, 18, 17, 16, 3, 2, 1, 0, 15, 7, 6, 5, 4, 14, 9, 8, 13, 12, 11, 10, 24, 23, 22], [], [], []⟩, ⟨[17, 16, 3, 2, 1, 0, 15, 7, 6, 5, 4, 14, 9, 8, 13, 12, 11, 10, 25, 21, 20, 19, 18, 24, 23, 22], [], [], []⟩]),
  (5, [⟨[], [], [], []⟩, ⟨[0], [], [], []⟩, ⟨[1, 0], [], [], []⟩, ⟨[2, 1, 0], [], [], []⟩, ⟨[3, 2, 1, 0], [], [43, 44, 45, 46], []⟩, ⟨[4, 3, 2, 1, 0], [], [43, 44, 45, 46], []⟩, ⟨[3, 2, 1, 0], [], [41, 42], []⟩, ⟨[6, 3, 2, 1, 0], [], [41, 42], []⟩, ⟨[7, 6, 3, 2, 1, 0], [], [41, 42], []⟩, ⟨[8, 7, 6, 3, 2, 1, 0], [], [41, 42], []⟩, ⟨[5, 4, 3, 2, 1, 0, 9, 8, 7, 6], [], [], []⟩, ⟨[3, 2, 1, 0, 10, 5, 4, 9, 8, 7, 6], [], [], []⟩, ⟨[11, 3, 2, 1, 0, 10, 5, 4, 9, 8, 7, 6], [], [], []⟩, ⟨[12, 11, 3, 2, 1, 0, 10, 5, 4, 9, 8, 7, 6], [], [], []⟩, ⟨[13, 12, 11, 3, 2, 1, 0, 10, 5, 4, 9, 8, 7, 6], [], [], []⟩, ⟨[14, 13, 12, 11, 3, 2, 1, 0, 10, 5, 4, 9, 8, 7, 6], [], [], []⟩, ⟨[15, 14, 13, 12, 11, 3, 2, 1, 0, 10, 5, 4, 9, 8, 7, 6], [], [], []⟩, ⟨[16, 15, 14, 13, 12, 11, 3, 2, 1, 0, 10, 5, 4, 9, 8, 7, 6], [], [], []⟩, ⟨[17, 16, 15, 14, 13, 12, 11, 3, 2, 1, 0, 10, 5, 4, 9, 8, 7, 6], [], [], []⟩, ⟨[18, 17, 16, 15, 14, 13, 12, 11, 3, 2, 1, 0, 10, 5, 4, 9, 8, 7, 6], [], [], []⟩, ⟨[16, 15, 14, 13, 12, 11, 3, 2, 1, 0, 10, 5, 4, 9, 8, 7, 6, 19, 18, 17], [], [], []⟩, ⟨[12, 11, 3, 2, 1, 0, 10, 5, 4, 9, 8, 7, 6, 20, 16, 15, 14, 13, 19, 18, 17], [], [], []⟩])], [(100025, circ_one.c100025r), (27, circ_one.c27r), (20, circ_one.c20r), (100012, circ_one.c100012r), (14, circ_one.c14r), (7, circ_one.c7r), (5, circ_one.c5r), (3, circ_one.c3r), (1, circ_one.c1r)], [], tab_eqs⟩
theorem circ_one.eq (x_ : densU circ_one.mc.pre.tys) : denM circ_one.G Go.Proofs.Try.f30 circ_one.mc.pre circ_one.mc.post x_ = circ_one.mc.F x_ := by kernel_rfl
theorem circ_one.p0 : PieceOk circ_one.G (pieceAt (pieces circ_one.G.cks (bodyOf Go.Proofs.Try.f30)) 0).1 (pieceAt (pieces circ_one.G.cks (bodyOf Go.Proofs.Try.f30)) 0).2 :=
  region_ok (s := circ_one.c1r) (by kernel_rfl) (by kernel_rfl) (sums_of (sh := circ_one.c1s) (fun ρ x_ k_ => (nat_br nat_leaf nat_leaf)) (fun ρ x_ t k => (by kernel_rfl)) (fun x_ => by kernel_rfl))
theorem circ_one.p1 : PieceOk circ_one.G (pieceAt (pieces circ_one.G.cks (bodyOf Go.Proofs.Try.f30)) 1).1 (pieceAt (pieces circ_one.G.cks (bodyOf Go.Proofs.Try.f30)) 1).2 :=
  region_ok (s := circ_one.c3r) (by kernel_rfl) (by kernel_rfl) (sums_of (sh := circ_one.c3s) (fun ρ x_ k_ => (nat_br nat_leaf (nat_br nat_leaf (nat_bnd fun _ => (nat_br nat_leaf nat_leaf))))) (fun ρ x_ t k => (by kernel_rfl)) (fun x_ => by kernel_rfl))
theorem circ_one.p2 : PieceOk circ_one.G (pieceAt (pieces circ_one.G.cks (bodyOf Go.Proofs.Try.f30)) 2).1 (pieceAt (pieces circ_one.G.cks (bodyOf Go.Proofs.Try.f30)) 2).2 :=
  region_ok (s := circ_one.c5r) (by kernel_rfl) (by kernel_rfl) (sums_of (sh := circ_one.c5s) (fun ρ x_ k_ => (nat_br nat_leaf (nat_br nat_leaf (nat_br nat_leaf nat_leaf)))) (fun ρ x_ t k => (by kernel_rfl)) (fun x_ => by kernel_rfl))
theorem circ_one.p3 : PieceOk circ_one.G (pieceAt (pieces circ_one.G.cks (bodyOf Go.Proofs.Try.f30)) 3).1 (pieceAt (pieces circ_one.G.cks (bodyOf Go.Proofs.Try.f30)) 3).2 :=
  region_ok (s := circ_one.c7r) (by kernel_rfl) (by kernel_rfl) (sums_of (sh := circ_one.c7s) (fun ρ x_ k_ => (nat_br (nat_bnd fun _ => nat_leaf) nat_leaf)) (fun ρ x_ t k => (by kernel_rfl)) (fun x_ => by kernel_rfl))
theorem circ_one.p4 : PieceOk circ_one.G (pieceAt (pieces circ_one.G.cks (bodyOf Go.Proofs.Try.f30)) 4).1 (pieceAt (pieces circ_one.G.cks (bodyOf Go.Proofs.Try.f30)) 4).2 :=
  loop_ok (s := circ_one.c100012r) (by kernel_rfl) (by kernel_rfl) (loops_of (sh := circ_one.c100012s) (I := fun x_ s_ => (x_.1, x_.2.1, x_.2.2.1, x_.2.2.2.1, s_.1, x_.2.2.2.2.2.1, x_.2.2.2.2.2.2.1, x_.2.2.2.2.2.2.2.1, x_.2.2.2.2.2.2.2.2.1, x_.2.2.2.2.2.2.2.2.2.1, x_.2.2.2.2.2.2.2.2.2.2.1, s_.2, x_.2.2.2.2.2.2.2.2.2.2.2.2.1, x_.2.2.2.2.2.2.2.2.2.2.2.2.2.1, x_.2.2.2.2.2.2.2.2.2.2.2.2.2.2.1, ())) (fun x_ => rfl) (fun ρ x_ s_ k_ => (nat_br (nat_bnd fun _ => (nat_bnd fun _ => (nat_br nat_leaf (nat_bnd fun _ => (nat_bnd fun _ => (nat_bnd fun _ => (nat_br nat_leaf (nat_bnd fun _ => (nat_bnd fun _ => (nat_bnd fun _ => nat_leaf)))))))))) nat_leaf)) (fun ρ x_ t k => (nat_sel (fun _ => (by kernel_rfl)) (fun _ => (by kernel_rfl)))) (fun x_ s => by kernel_rfl))
theorem circ_one.p5 : PieceOk circ_one.G (pieceAt (pieces circ_one.G.cks (bodyOf Go.Proofs.Try.f30)) 5).1 (pieceAt (pieces circ_one.G.cks (bodyOf Go.Proofs.Try.f30)) 5).2 :=
  region_ok (s := circ_one.c14r) (by kernel_rfl) (by kernel_rfl) (sums_of (sh := circ_one.c14s) (fun ρ x_ k_ => (nat_br nat_leaf nat_leaf)) (fun ρ x_ t k => (by kernel_rfl)) (fun x_ => by kernel_rfl))
theorem circ_one.p6 : PieceOk circ_one.G (pieceAt (pieces circ_one.G.cks (bodyOf Go.Proofs.Try.f30)) 6).1 (pieceAt (pieces circ_one.G.cks (bodyOf Go.Proofs.Try.f30)) 6).2 :=
  region_ok (s := circ_one.c20r) (by kernel_rfl) (by kernel_rfl) (sums_of (sh := circ_one.c20s) (fun ρ x_ k_ => (nat_br (nat_br nat_leaf (nat_br nat_leaf (nat_br nat_leaf nat_leaf))) (nat_br nat_leaf nat_leaf))) (fun ρ x_ t k => (by kernel_rfl)) (fun x_ => by kernel_rfl))
theorem circ_one.p7 : PieceOk circ_one.G (pieceAt (pieces circ_one.G.cks (bodyOf Go.Proofs.Try.f30)) 7).1 (pieceAt (pieces circ_one.G.cks (bodyOf Go.Proofs.Try.f30)) 7).2 :=
  loop_ok (s := circ_one.c100025r) (by kernel_rfl) (by kernel_rfl) (loops_of (sh := circ_one.c100025s) (I := fun x_ s_ => (x_.1, x_.2.1, x_.2.2.1, x_.2.2.2.1, x_.2.2.2.2.1, x_.2.2.2.2.2.1, x_.2.2.2.2.2.2.1, s_, x_.2.2.2.2.2.2.2.2.1, x_.2.2.2.2.2.2.2.2.2.1, x_.2.2.2.2.2.2.2.2.2.2.1, x_.2.2.2.2.2.2.2.2.2.2.2.1, x_.2.2.2.2.2.2.2.2.2.2.2.2.1, x_.2.2.2.2.2.2.2.2.2.2.2.2.2.1, x_.2.2.2.2.2.2.2.2.2.2.2.2.2.2.1, x_.2.2.2.2.2.2.2.2.2.2.2.2.2.2.2.1, x_.2.2.2.2.2.2.2.2.2.2.2.2.2.2.2.2.1, x_.2.2.2.2.2.2.2.2.2.2.2.2.2.2.2.2.2.1, ())) (fun x_ => rfl) (fun ρ x_ s_ k_ => (nat_br (nat_bnd fun _ => (nat_bnd fun _ => (nat_br nat_leaf nat_leaf))) nat_leaf)) (fun ρ x_ t k => (nat_sel (fun _ => (by kernel_rfl)) (fun _ => (by kernel_rfl)))) (fun x_ s => by kernel_rfl))
theorem circ_one.p8 : PieceOk circ_one.G (pieceAt (pieces circ_one.G.cks (bodyOf Go.Proofs.Try.f30)) 8).1 (pieceAt (pieces circ_one.G.cks (bodyOf Go.Proofs.Try.f30)) 8).2 :=
  region_ok (s := circ_one.c27r) (by kernel_rfl) (by kernel_rfl) (sums_of (sh := circ_one.c27s) (fun ρ x_ k_ => (nat_br nat_leaf (nat_br nat_leaf nat_leaf))) (fun ρ x_ t k => (by kernel_rfl)) (fun x_ => by kernel_rfl))
theorem circ_one.ok : MOk Go.Proofs.Try.prog 30 circ_one.mc := fnm_ok (G := circ_one.G) tab_ok mixed Go.Proofs.Try.func30 ⟨(fns_cons circ_turns.ok (fns_cons circ_gate.ok fns_nil)), mfns_nil, tab_eqs_ok⟩ (m := 9) (by kernel_rfl) ⟨⟨⟨⟨⟨⟨⟨⟨⟨trivial, circ_one.p0⟩, circ_one.p1⟩, circ_one.p2⟩, circ_one.p3⟩, circ_one.p4⟩, circ_one.p5⟩, circ_one.p6⟩, circ_one.p7⟩, circ_one.p8⟩ (by kernel_rfl) circ_one.eq
abbrev la10 : SD := .one (.val (.st (.pair (.int .i64) (.pair (.int .i64) (.sl (.st (.pair (.int .i64) (.pair (.int .i64) (.pair (.sl (.int .i64)) (.pair (.int .i64) (.pair (.int .i64) (.sl (.int .i64)))))))))))))
abbrev la11 : SD := .one (.ref 1 0)
abbrev la12 : SO := .box [.val (.int .i64), .val (.int .i64)]
abbrev la13 : SD := .one (.val (.sl (.st (.pair (.int .i64) (.pair (.int .i64) (.pair (.sl (.int .i64)) (.pair (.int .i64) (.pair (.int .i64) (.sl (.int .i64))))))))))
def circ_Check.c1 {ρ : Type} (c0 : Int) (k_ : Bool → Option ρ) : Option ρ :=
  br (decide (c0 < (1 : Int)))
   (k_ true)
   (k_ (decide (c0 > (12 : Int))))
def circ_Check.c1s : Shape := ⟨[(0, la10), (1, la11), (2, la5)], [(1, la4), (2, la12)]⟩
def circ_Check.c1x0 : Shape := ⟨[(0, la10), (1, la11), (2, la5), (6, la1)], [(1, la4), (2, la12)]⟩
def circ_Check.c1r : Ck := Ck.of (T := Bool) circ_Check.c1s (fun ρ x_ k_ => uP x_ fun c x_ => uP x_ fun c0 x_ => uP x_ fun c1 x_ => uP x_ fun c2 x_ => uP x_ fun t20 x_ => uP x_ fun t21 x_ => circ_Check.c1 c0 k_) (fun ρ x_ r_ k_ => uP x_ fun c x_ => uP x_ fun c0 x_ => uP x_ fun c1 x_ => uP x_ fun c2 x_ => uP x_ fun t20 x_ => uP x_ fun t21 x_ => k_ 0 (Shape.inj circ_Check.c1x0 (c, r_, c0, c1, c2, t20, t21, ())))
def circ_Check.c3 {ρ : Type} (c1 : Int) (k_ : Bool → Option ρ) : Option ρ :=
  br (decide (c1 < (0 : Int)))
   (k_ true)
   (k_ (decide (c1 > (12 : Int))))
def circ_Check.c3s : Shape := ⟨[(0, la10), (1, la11), (2, la5)], [(1, la4), (2, la12)]⟩
def circ_Check.c3x0 : Shape := ⟨[(0, la10), (1, la11), (2, la5), (16, la1)], [(1, la4), (2, la12)]⟩
def circ_Check.c3r : Ck := Ck.of (T := Bool) circ_Check.c3s (fun ρ x_ k_ => uP x_ fun c x_ => uP x_ fun c0 x_ => uP x_ fun c1 x_ => uP x_ fun c2 x_ => uP x_ fun t20 x_ => uP x_ fun t21 x_ => circ_Check.c3 c1 k_) (fun ρ x_ r_ k_ => uP x_ fun c x_ => uP x_ fun c0 x_ => uP x_ fun c1 x_ => uP x_ fun c2 x_ => uP x_ fun t20 x_ => uP x_ fun t21 x_ => k_ 0 (Shape.inj circ_Check.c3x0 (c, r_, c0, c1, c2, t20, t21, ())))
def circ_Check.c100008 {ρ : Type} (t33 : List ((Int) × ((Int) × ((List Int) × ((Int) × ((Int) × (List Int))))))) (t34 : Int) (t35 : Int) (c0 : Int) (c1 : Int) (c2 : List ((Int) × ((Int) × ((List Int) × ((Int) × ((Int) × (List Int))))))) (k_ : ((Int) × (Int) × (Int) × (List ((Int) × ((Int) × ((List Int) × ((Int) × ((Int) × (List Int)))))))) ⊕ (((Int) × (Int) × (Int) × (List ((Int) × ((Int) × ((List Int) × ((Int) × ((Int) × (List Int))))))) × (Int) × (Int)) ⊕ ((Int) × (Int) × (Int) × (List ((Int) × ((Int) × ((List Int) × ((Int) × ((Int) × (List Int))))))))) → Option ρ) : Option ρ :=
  br (decide (t35 < t34))
   (bnd (idx t33 t35) fun y =>
    bnd (W.circ_one (Prod.fst (uP (uP ((Prod.fst y, Prod.fst (Prod.snd y), Prod.fst (Prod.snd (Prod.snd y)), Prod.fst (Prod.snd (Prod.snd (Prod.snd y))), Prod.fst (Prod.snd (Prod.snd (Prod.snd (Prod.snd y)))), Prod.snd (Prod.snd (Prod.snd (Prod.snd (Prod.snd y))))), ()) fun u r ↦ (u, ())) fun u r ↦ (u, uP (uP (c0, ()) fun u r ↦ (u, uP (c1, ()) fun u r ↦ (u, uP (c2, ()) fun u r ↦ (u, ())))) fun u r ↦ (u, uP r fun u r ↦ (u, uP r fun u r ↦ (u, ())))))) (Prod.fst (Prod.snd (uP (uP ((Prod.fst y, Prod.fst (Prod.snd y), Prod.fst (Prod.snd (Prod.snd y)), Prod.fst (Prod.snd (Prod.snd (Prod.snd y))), Prod.fst (Prod.snd (Prod.snd (Prod.snd (Prod.snd y)))), Prod.snd (Prod.snd (Prod.snd (Prod.snd (Prod.snd y))))), ()) fun u r ↦ (u, ())) fun u r ↦ (u, uP (uP (c0, ()) fun u r ↦ (u, uP (c1, ()) fun u r ↦ (u, uP (c2, ()) fun u r ↦ (u, ())))) fun u r ↦ (u, uP r fun u r ↦ (u, uP r fun u r ↦ (u, ()))))))) (Prod.fst (Prod.snd (Prod.snd (uP (uP ((Prod.fst y, Prod.fst (Prod.snd y), Prod.fst (Prod.snd (Prod.snd y)), Prod.fst (Prod.snd (Prod.snd (Prod.snd y))), Prod.fst (Prod.snd (Prod.snd (Prod.snd (Prod.snd y)))), Prod.snd (Prod.snd (Prod.snd (Prod.snd (Prod.snd y))))), ()) fun u r ↦ (u, ())) fun u r ↦ (u, uP (uP (c0, ()) fun u r ↦ (u, uP (c1, ()) fun u r ↦ (u, uP (c2, ()) fun u r ↦ (u, ())))) fun u r ↦ (u, uP r fun u r ↦ (u, uP r fun u r ↦ (u, ())))))))) (Prod.fst (Prod.snd (Prod.snd (Prod.snd (uP (uP ((Prod.fst y, Prod.fst (Prod.snd y), Prod.fst (Prod.snd (Prod.snd y)), Prod.fst (Prod.snd (Prod.snd (Prod.snd y))), Prod.fst (Prod.snd (Prod.snd (Prod.snd (Prod.snd y)))), Prod.snd (Prod.snd (Prod.snd (Prod.snd (Prod.snd y))))), ()) fun u r ↦ (u, ())) fun u r ↦ (u, uP (uP (c0, ()) fun u r ↦ (u, uP (c1, ()) fun u r ↦ (u, uP (c2, ()) fun u r ↦ (u, ())))) fun u r ↦ (u, uP r fun u r ↦ (u, uP r fun u r ↦ (u, ())))))))))) fun y_1 =>
    br (Prod.fst y_1 != (0 : Int))
     (bnd (W.circ_fault (Prod.fst y_1) t35) fun y_2 =>
      k_ (.inr (.inl (t35, (Prod.fst y_1.2), (Prod.fst y_1.2.2), (Prod.fst y_1.2.2.2), (Prod.fst y_2), (Prod.snd y_2)))))
     (k_ (.inl ((IntKind.wrap IntKind.i64 (t35 + (1 : Int))), (Prod.fst y_1.2), (Prod.fst y_1.2.2), (Prod.fst y_1.2.2.2)))))
   (k_ (.inr (.inr (t35, c0, c1, c2))))
def circ_Check.c100008s : Shape := ⟨[(0, la10), (1, la11), (2, la5), (33, la13), (34, la0), (35, la0)], [(1, la4), (2, la12)]⟩
def circ_Check.c100008x0 : Shape := ⟨[(0, la10), (1, la11), (2, la5), (33, la13), (34, la0), (35, la0)], [(1, la4), (2, la12)]⟩
def circ_Check.c100008x1 : Shape := ⟨[(0, la10), (1, la11), (2, la5), (33, la13), (34, la0), (35, la0)], [(1, la4), (2, la12)]⟩
def circ_Check.c100008r : Ck := Ck.ofLoop (S := (Int) × (Int) × (Int) × (List ((Int) × ((Int) × ((List Int) × ((Int) × ((Int) × (List Int)))))))) (T := ((Int) × (Int) × (Int) × (List ((Int) × ((Int) × ((List Int) × ((Int) × ((Int) × (List Int))))))) × (Int) × (Int)) ⊕ ((Int) × (Int) × (Int) × (List ((Int) × ((Int) × ((List Int) × ((Int) × ((Int) × (List Int))))))))) circ_Check.c100008s (fun x_ => uP x_ fun c x_ => uP x_ fun t33 x_ => uP x_ fun t34 x_ => uP x_ fun t35 x_ => uP x_ fun c0 x_ => uP x_ fun c1 x_ => uP x_ fun c2 x_ => uP x_ fun t20 x_ => uP x_ fun t21 x_ => (t35, c0, c1, c2)) (fun ρ x_ s_ k_ => uP x_ fun c x_ => uP x_ fun t33 x_ => uP x_ fun t34 x_ => uP x_ fun t35 x_ => uP x_ fun c0 x_ => uP x_ fun c1 x_ => uP x_ fun c2 x_ => uP x_ fun t20 x_ => uP x_ fun t21 x_ => circ_Check.c100008 t33 t34 s_.1 s_.2.1 s_.2.2.1 s_.2.2.2 k_) (fun ρ x_ r_ k_ => uP x_ fun c x_ => uP x_ fun t33 x_ => uP x_ fun t34 x_ => uP x_ fun t35 x_ => uP x_ fun c0 x_ => uP x_ fun c1 x_ => uP x_ fun c2 x_ => uP x_ fun t20 x_ => uP x_ fun t21 x_ => sel r_ (fun r_ => k_ 1 (Shape.inj circ_Check.c100008x0 (c, t33, t34, r_.1, r_.2.1, r_.2.2.1, r_.2.2.2.1, r_.2.2.2.2.1, r_.2.2.2.2.2, ()))) (fun r_ => k_ 3 (Shape.inj circ_Check.c100008x1 (c, t33, t34, r_.1, r_.2.1, r_.2.2.1, r_.2.2.2, t20, t21, ()))))
def circ_Check (c : (Int) × ((Int) × (List ((Int) × ((Int) × ((List Int) × ((Int) × ((Int) × (List Int))))))))) : Option ((Int) × (Int)) :=
  bnd (W.circ_Check.c1 (Prod.fst c) some) fun y =>
  br y
   (bnd (W.circ_fault (6 : Int) (0 : Int)) fun y_1 =>
    some (Prod.fst y_1, Prod.snd y_1))
   (bnd (W.circ_Check.c3 (Prod.fst (Prod.snd c)) some) fun y_2 =>
    br y_2
     (bnd (W.circ_fault (7 : Int) (0 : Int)) fun y_3 =>
      some (Prod.fst y_3, Prod.snd y_3))
     (br (decide ((↑(List.length (Prod.snd (Prod.snd c))) : Int) > (4096 : Int)))
       (bnd (W.circ_fault (2 : Int) (0 : Int)) fun y_4 =>
        some (Prod.fst y_4, Prod.snd y_4))
       (bnd (iter (fun s ↦ W.circ_Check.c100008 (Prod.snd (Prod.snd c)) (↑(List.length (Prod.snd (Prod.snd c))) : Int) (Prod.fst s) (Prod.fst (Prod.snd s)) (Prod.fst (Prod.snd (Prod.snd s))) (Prod.snd (Prod.snd (Prod.snd s))) some) ((0 : Int), Prod.fst c, Prod.fst (Prod.snd c), Prod.snd (Prod.snd c))) fun y_5 =>
        sel y_5
         (fun u => some (Prod.fst (Prod.snd (Prod.snd (Prod.snd (Prod.snd u)))), Prod.snd (Prod.snd (Prod.snd (Prod.snd (Prod.snd u))))))
         (fun v => some ((0 : Int), (0 : Int))))))
def circ_Check.ce : Go.Ql.Callee := ⟨[(.st (.pair (.int .i64) (.pair (.int .i64) (.sl (.st (.pair (.int .i64) (.pair (.int .i64) (.pair (.sl (.int .i64)) (.pair (.int .i64) (.pair (.int .i64) (.sl (.int .i64))))))))))))], [(.st (.pair (.int .i64) (.int .i64)))], fun x_ => circ_Check x_⟩
def circ_Check.G : Env := ⟨49, tab, [(29, circ_fault.ce)], [0, 1, 2, 3, 4, 5, 6, 16, 26, 33, 34, 35, 36, 43], [], [], [(100008, circ_Check.c100008r), (3, circ_Check.c3r), (1, circ_Check.c1r)], [(30, circ_one.mc)], tab_eqs⟩
theorem circ_Check.eq (x_ : dens [(.st (.pair (.int .i64) (.pair (.int .i64) (.sl (.st (.pair (.int .i64) (.pair (.int .i64) (.pair (.sl (.int .i64)) (.pair (.int .i64) (.pair (.int .i64) (.sl (.int .i64))))))))))))]) : den circ_Check.G Go.Proofs.Try.f17 [(.st (.pair (.int .i64) (.pair (.int .i64) (.sl (.st (.pair (.int .i64) (.pair (.int .i64) (.pair (.sl (.int .i64)) (.pair (.int .i64) (.pair (.int .i64) (.sl (.int .i64))))))))))))] [(.st (.pair (.int .i64) (.int .i64)))] x_ = circ_Check x_ := by kernel_rfl
theorem circ_Check.p0 : PieceOk circ_Check.G (pieceAt (pieces circ_Check.G.cks (bodyOf Go.Proofs.Try.f17)) 0).1 (pieceAt (pieces circ_Check.G.cks (bodyOf Go.Proofs.Try.f17)) 0).2 :=
  region_ok (s := circ_Check.c1r) (by kernel_rfl) (by kernel_rfl) (sums_of (sh := circ_Check.c1s) (fun ρ x_ k_ => (nat_br nat_leaf nat_leaf)) (fun ρ x_ t k => (by kernel_rfl)) (fun x_ => by kernel_rfl))
theorem circ_Check.p1 : PieceOk circ_Check.G (pieceAt (pieces circ_Check.G.cks (bodyOf Go.Proofs.Try.f17)) 1).1 (pieceAt (pieces circ_Check.G.cks (bodyOf Go.Proofs.Try.f17)) 1).2 :=
  region_ok (s := circ_Check.c3r) (by kernel_rfl) (by kernel_rfl) (sums_of (sh := circ_Check.c3s) (fun ρ x_ k_ => (nat_br nat_leaf nat_leaf)) (fun ρ x_ t k => (by kernel_rfl)) (fun x_ => by kernel_rfl))
theorem circ_Check.p2 : PieceOk circ_Check.G (pieceAt (pieces circ_Check.G.cks (bodyOf Go.Proofs.Try.f17)) 2).1 (pieceAt (pieces circ_Check.G.cks (bodyOf Go.Proofs.Try.f17)) 2).2 :=
  loop_ok (s := circ_Check.c100008r) (by kernel_rfl) (by kernel_rfl) (loops_of (sh := circ_Check.c100008s) (I := fun x_ s_ => (x_.1, x_.2.1, x_.2.2.1, s_.1, s_.2.1, s_.2.2.1, s_.2.2.2, x_.2.2.2.2.2.2.2.1, x_.2.2.2.2.2.2.2.2.1, ())) (fun x_ => rfl) (fun ρ x_ s_ k_ => (nat_br (nat_bnd fun _ => (nat_bnd fun _ => (nat_br (nat_bnd fun _ => nat_leaf) nat_leaf))) nat_leaf)) (fun ρ x_ t k => (nat_sel (fun _ => (by kernel_rfl)) (fun _ => (by kernel_rfl)))) (fun x_ s => by kernel_rfl))
theorem circ_Check.ok : CalleeOk Go.Proofs.Try.prog 17 circ_Check.ce := fn_ok (G := circ_Check.G) tab_ok mixed Go.Proofs.Try.func17 ⟨(fns_cons circ_fault.ok fns_nil), (mfns_cons circ_one.ok mfns_nil), tab_eqs_ok⟩ (m := 3) (by kernel_rfl) ⟨⟨⟨trivial, circ_Check.p0⟩, circ_Check.p1⟩, circ_Check.p2⟩ (by kernel_rfl) circ_Check.eq
def lower_spares.c208197 {ρ : Type} (t4 : Int) (o0 : Int) (o1 : Int) (k_ : Int → Option ρ) : Option ρ :=
  br (o0 == (4 : Int))
   (k_ o1)
   (k_ t4)
def lower_spares.c208197s : Shape := ⟨[(0, la2), (1, la11), (2, la0), (3, la0), (4, la0)], [(1, la6)]⟩
def lower_spares.c208197x0 : Shape := ⟨[(0, la2), (1, la11), (2, la0), (3, la0), (4, la0)], [(1, la6)]⟩
def lower_spares.c208197r : Ck := Ck.of (T := Int) lower_spares.c208197s (fun ρ x_ k_ => uP x_ fun o x_ => uP x_ fun t2 x_ => uP x_ fun r x_ => uP x_ fun t4 x_ => uP x_ fun o0 x_ => uP x_ fun o1 x_ => uP x_ fun o2 x_ => uP x_ fun o3 x_ => uP x_ fun o4 x_ => uP x_ fun o5 x_ => lower_spares.c208197 t4 o0 o1 k_) (fun ρ x_ r_ k_ => uP x_ fun o x_ => uP x_ fun t2 x_ => uP x_ fun r x_ => uP x_ fun t4 x_ => uP x_ fun o0 x_ => uP x_ fun o1 x_ => uP x_ fun o2 x_ => uP x_ fun o3 x_ => uP x_ fun o4 x_ => uP x_ fun o5 x_ => k_ 0 (Shape.inj lower_spares.c208197x0 (o, t2, r, r_, o0, o1, o2, o3, o4, o5, ())))
def lower_spares.c4 {ρ : Type} (r : Int) (t4 : Int) (o0 : Int) (k_ : Bool → Option ρ) : Option ρ :=
  br (r == (1 : Int))
   (k_ true)
   (br (t4 == (0 : Int))
     (k_ true)
     (k_ (o0 == (1 : Int))))
def lower_spares.c4s : Shape := ⟨[(0, la2), (1, la11), (2, la0), (3, la0), (4, la0)], [(1, la6)]⟩
def lower_spares.c4x0 : Shape := ⟨[(0, la2), (1, la11), (2, la0), (3, la0), (4, la0), (25, la1)], [(1, la6)]⟩
def lower_spares.c4r : Ck := Ck.of (T := Bool) lower_spares.c4s (fun ρ x_ k_ => uP x_ fun o x_ => uP x_ fun t2 x_ => uP x_ fun r x_ => uP x_ fun t4 x_ => uP x_ fun o0 x_ => uP x_ fun o1 x_ => uP x_ fun o2 x_ => uP x_ fun o3 x_ => uP x_ fun o4 x_ => uP x_ fun o5 x_ => lower_spares.c4 r t4 o0 k_) (fun ρ x_ r_ k_ => uP x_ fun o x_ => uP x_ fun t2 x_ => uP x_ fun r x_ => uP x_ fun t4 x_ => uP x_ fun o0 x_ => uP x_ fun o1 x_ => uP x_ fun o2 x_ => uP x_ fun o3 x_ => uP x_ fun o4 x_ => uP x_ fun o5 x_ => k_ 0 (Shape.inj lower_spares.c4x0 (o, t2, r, t4, r_, o0, o1, o2, o3, o4, o5, ())))
def lower_spares.c100007 {ρ : Type} (r : Int) (t4 : Int) (j : Int) (k_ : (Int) ⊕ (Int) → Option ρ) : Option ρ :=
  bnd (okIf (decide ((0 : Int) ≤ IntKind.wrap IntKind.i64 (IntKind.wrap IntKind.i64 (r - j) - (1 : Int))))) fun y =>
  bnd (okIf (IntKind.wrap IntKind.i64 ((1 : Int) * (2 : Int) ^ Min.min (Int.toNat (IntKind.wrap IntKind.i64 (IntKind.wrap IntKind.i64 (r - j) - (1 : Int)))) (64 : Nat)) != (0 : Int))) fun y_1 =>
  br (Int.tmod t4 (IntKind.wrap IntKind.i64 ((1 : Int) * (2 : Int) ^ Min.min (Int.toNat (IntKind.wrap IntKind.i64 (IntKind.wrap IntKind.i64 (r - j) - (1 : Int)))) (64 : Nat))) != (0 : Int))
   (k_ (.inl (IntKind.wrap IntKind.i64 (j + (1 : Int)))))
   (k_ (.inr j))
def lower_spares.c100007s : Shape := ⟨[(0, la2), (1, la11), (2, la0), (3, la0), (4, la0), (5, la0)], [(1, la6)]⟩
def lower_spares.c100007x0 : Shape := ⟨[(0, la2), (1, la11), (2, la0), (3, la0), (4, la0), (5, la0)], [(1, la6)]⟩
def lower_spares.c100007r : Ck := Ck.ofLoop (S := Int) (T := Int) lower_spares.c100007s (fun x_ => uP x_ fun o x_ => uP x_ fun t2 x_ => uP x_ fun r x_ => uP x_ fun t4 x_ => uP x_ fun j x_ => uP x_ fun o0 x_ => uP x_ fun o1 x_ => uP x_ fun o2 x_ => uP x_ fun o3 x_ => uP x_ fun o4 x_ => uP x_ fun o5 x_ => j) (fun ρ x_ s_ k_ => uP x_ fun o x_ => uP x_ fun t2 x_ => uP x_ fun r x_ => uP x_ fun t4 x_ => uP x_ fun j x_ => uP x_ fun o0 x_ => uP x_ fun o1 x_ => uP x_ fun o2 x_ => uP x_ fun o3 x_ => uP x_ fun o4 x_ => uP x_ fun o5 x_ => lower_spares.c100007 r t4 s_ k_) (fun ρ x_ r_ k_ => uP x_ fun o x_ => uP x_ fun t2 x_ => uP x_ fun r x_ => uP x_ fun t4 x_ => uP x_ fun j x_ => uP x_ fun o0 x_ => uP x_ fun o1 x_ => uP x_ fun o2 x_ => uP x_ fun o3 x_ => uP x_ fun o4 x_ => uP x_ fun o5 x_ => k_ 2 (Shape.inj lower_spares.c100007x0 (o, t2, r, t4, r_, o0, o1, o2, o3, o4, o5, ())))
def lower_spares (o : (Int) × ((Int) × ((List Int) × ((Int) × ((Int) × (List Int)))))) : Option (Int) :=
  bnd (W.lower_spares.c208197 (8 : Int) (Prod.fst o) (Prod.fst (Prod.snd o)) some) fun y =>
  bnd (W.lower_spares.c4 (IntKind.wrap IntKind.i64 ((↑(List.length (Prod.fst (Prod.snd (Prod.snd o)))) : Int) + (1 : Int))) y (Prod.fst o) some) fun y_1 =>
  br y_1
   (some (0 : Int))
   (bnd (iter (fun s ↦ W.lower_spares.c100007 (IntKind.wrap IntKind.i64 ((↑(List.length (Prod.fst (Prod.snd (Prod.snd o)))) : Int) + (1 : Int))) y s some) (0 : Int)) fun y_2 =>
    some y_2)
def lower_spares.ce : Go.Ql.Callee := ⟨[(.st (.pair (.int .i64) (.pair (.int .i64) (.pair (.sl (.int .i64)) (.pair (.int .i64) (.pair (.int .i64) (.sl (.int .i64))))))))], [(.int .i64)], fun x_ => lower_spares x_⟩
def lower_spares.G : Env := ⟨37, tab, [], [0, 1, 2, 3, 4, 5, 12, 25, 33], [], [], [(100007, lower_spares.c100007r), (4, lower_spares.c4r), (208197, lower_spares.c208197r)], [], tab_eqs⟩
theorem lower_spares.eq (x_ : dens [(.st (.pair (.int .i64) (.pair (.int .i64) (.pair (.sl (.int .i64)) (.pair (.int .i64) (.pair (.int .i64) (.sl (.int .i64))))))))]) : den lower_spares.G Go.Proofs.Try.f18 [(.st (.pair (.int .i64) (.pair (.int .i64) (.pair (.sl (.int .i64)) (.pair (.int .i64) (.pair (.int .i64) (.sl (.int .i64))))))))] [(.int .i64)] x_ = lower_spares x_ := by kernel_rfl
theorem lower_spares.p0 : PieceOk lower_spares.G (pieceAt (pieces lower_spares.G.cks (bodyOf Go.Proofs.Try.f18)) 0).1 (pieceAt (pieces lower_spares.G.cks (bodyOf Go.Proofs.Try.f18)) 0).2 :=
  join_ok (s := lower_spares.c208197r) (by kernel_rfl) (by kernel_rfl) (sums_of (sh := lower_spares.c208197s) (fun ρ x_ k_ => (nat_br nat_leaf nat_leaf)) (fun ρ x_ t k => (by kernel_rfl)) (fun x_ => by kernel_rfl))
theorem lower_spares.p1 : PieceOk lower_spares.G (pieceAt (pieces lower_spares.G.cks (bodyOf Go.Proofs.Try.f18)) 1).1 (pieceAt (pieces lower_spares.G.cks (bodyOf Go.Proofs.Try.f18)) 1).2 :=
  region_ok (s := lower_spares.c4r) (by kernel_rfl) (by kernel_rfl) (sums_of (sh := lower_spares.c4s) (fun ρ x_ k_ => (nat_br nat_leaf (nat_br nat_leaf nat_leaf))) (fun ρ x_ t k => (by kernel_rfl)) (fun x_ => by kernel_rfl))
theorem lower_spares.p2 : PieceOk lower_spares.G (pieceAt (pieces lower_spares.G.cks (bodyOf Go.Proofs.Try.f18)) 2).1 (pieceAt (pieces lower_spares.G.cks (bodyOf Go.Proofs.Try.f18)) 2).2 :=
  loop_ok (s := lower_spares.c100007r) (by kernel_rfl) (by kernel_rfl) (loops_of (sh := lower_spares.c100007s) (I := fun x_ s_ => (x_.1, x_.2.1, x_.2.2.1, x_.2.2.2.1, s_, x_.2.2.2.2.2.1, x_.2.2.2.2.2.2.1, x_.2.2.2.2.2.2.2.1, x_.2.2.2.2.2.2.2.2.1, x_.2.2.2.2.2.2.2.2.2.1, x_.2.2.2.2.2.2.2.2.2.2.1, ())) (fun x_ => rfl) (fun ρ x_ s_ k_ => (nat_bnd fun _ => (nat_bnd fun _ => (nat_br nat_leaf nat_leaf)))) (fun ρ x_ t k => (by kernel_rfl)) (fun x_ s => by kernel_rfl))
theorem lower_spares.ok : CalleeOk Go.Proofs.Try.prog 18 lower_spares.ce := fn_ok (G := lower_spares.G) tab_ok mixed Go.Proofs.Try.func18 ⟨fns_nil, mfns_nil, tab_eqs_ok⟩ (m := 3) (by kernel_rfl) ⟨⟨⟨trivial, lower_spares.p0⟩, lower_spares.p1⟩, lower_spares.p2⟩ (by kernel_rfl) lower_spares.eq
abbrev la14 : SD := .one (.ref 1000700 0)
abbrev la15 : SO := .box [.ref 1000701 0, .val (.int .i64), .val (.sl (.int .i64))]
abbrev la16 : SO := .box [.val (.int .i64), .val (.int .i64), .own 1000702 0]
abbrev la17 : SO := .arr 0 false 37 (.st (.pair (.int .i64) (.pair (.int .i64) (.pair (.sl (.int .i64)) (.pair (.int .i64) (.pair (.int .i64) (.sl (.int .i64))))))))
abbrev la18 : SD := .one (.ref 3 0)
def lower_maker_put.pre : Shape := ⟨[(0, la14), (1, la2)], [(1000700, la15), (1000701, la16), (1000702, la17)]⟩
def lower_maker_put.post : Shape := ⟨[], [(1000702, la17), (1000701, la16), (1000700, la15)]⟩
def lower_maker_put.c2 {ρ : Type} (o0 : Int) (o1 : Int) (o2 : List (Int)) (o3 : Int) (o4 : Int) (o5 : List (Int)) (t1000702 : List ((Int) × ((Int) × ((List Int) × ((Int) × ((Int) × (List Int))))))) (k_ : Unit → Option ρ) : Option ρ :=
  bnd (okIf (decide ((List.length t1000702 + (1 : Nat)) * (80 : Nat) ≤ (140737488355328 : Nat)) && decide (List.length t1000702 + (1 : Nat) ≤ (140737488355328 : Nat)))) fun y =>
  k_ ()
def lower_maker_put.c2s : Shape := ⟨[(0, la14), (1, la2), (3, la18)], [(3, la6), (1000700, la15), (1000701, la16), (1000702, la17)]⟩
def lower_maker_put.c2x0 : Shape := ⟨[(0, la14), (1, la2), (3, la18)], [(3, la6), (1000700, la15), (1000701, la16), (1000702, la17)]⟩
def lower_maker_put.c2r : Ck := Ck.of (T := Unit) lower_maker_put.c2s (fun ρ x_ k_ => uP x_ fun o x_ => uP x_ fun o0 x_ => uP x_ fun o1 x_ => uP x_ fun o2 x_ => uP x_ fun o3 x_ => uP x_ fun o4 x_ => uP x_ fun o5 x_ => uP x_ fun t10007001 x_ => uP x_ fun t10007002 x_ => uP x_ fun t10007010 x_ => uP x_ fun t10007011 x_ => uP x_ fun t1000702 x_ => lower_maker_put.c2 o0 o1 o2 o3 o4 o5 t1000702 k_) (fun ρ x_ r_ k_ => uP x_ fun o x_ => uP x_ fun o0 x_ => uP x_ fun o1 x_ => uP x_ fun o2 x_ => uP x_ fun o3 x_ => uP x_ fun o4 x_ => uP x_ fun o5 x_ => uP x_ fun t10007001 x_ => uP x_ fun t10007002 x_ => uP x_ fun t10007010 x_ => uP x_ fun t10007011 x_ => uP x_ fun t1000702 x_ => k_ 0 (Shape.inj lower_maker_put.c2x0 (o, o0, o1, o2, o3, o4, o5, t10007001, t10007002, t10007010, t10007011, (t1000702 ++ [(o0, o1, o2, o3, o4, o5)]), ())))
def lower_maker_put (o : (Int) × ((Int) × ((List Int) × ((Int) × ((Int) × (List Int)))))) (t10007001 : Int) (t10007002 : List (Int)) (t10007010 : Int) (t10007011 : Int) (t1000702 : List ((Int) × ((Int) × ((List Int) × ((Int) × ((Int) × (List Int))))))) : Option ((List ((Int) × ((Int) × ((List Int) × ((Int) × ((Int) × (List Int))))))) × (Int) × (Int) × (Int) × (List Int) × Unit) :=
  bnd (okIf (decide (((0 : Nat) + List.length t10007002) * (8 : Nat) ≤ (140737488355328 : Nat)) && decide ((0 : Nat) + List.length t10007002 ≤ (140737488355328 : Nat)))) fun y =>
  bnd (W.lower_maker_put.c2 (Prod.fst o) (Prod.fst (Prod.snd o)) (Prod.fst (Prod.snd (Prod.snd o))) (Prod.fst (Prod.snd (Prod.snd (Prod.snd o)))) (Prod.fst (Prod.snd (Prod.snd (Prod.snd (Prod.snd o))))) t10007002 t1000702 some) fun y_1 =>
  some (uP (t1000702 ++ [(Prod.fst o, Prod.fst (Prod.snd o), Prod.fst (Prod.snd (Prod.snd o)), Prod.fst (Prod.snd (Prod.snd (Prod.snd o))), Prod.fst (Prod.snd (Prod.snd (Prod.snd (Prod.snd o)))), t10007002)], ()) fun u r ↦ (u, uP (uP (t10007010, ()) fun u r ↦ (u, uP (t10007011, ()) fun u r ↦ (u, ()))) fun u r ↦ (u, uP r fun u r ↦ (u, uP (uP (t10007001, ()) fun u r ↦ (u, uP (t10007002, ()) fun u r ↦ (u, ()))) fun u r ↦ (u, uP r fun u r ↦ (u, ()))))))
def lower_maker_put.mc : MCallee := ⟨31, lower_maker_put.pre, lower_maker_put.post, fun x_ => lower_maker_put x_.1 x_.2.1 x_.2.2.1 x_.2.2.2.1 x_.2.2.2.2.1 x_.2.2.2.2.2.1⟩
def lower_maker_put.G : Env := ⟨26, tab, [], [0, 1, 3], [1000700, 1000701, 1000702], [(2, [⟨[], [], [14, 15, 16, 17, 18, 19, 20, 21, 22, 23], [22, 1000702]⟩, ⟨[0], [], [14, 15, 16, 17, 18, 19, 20, 21, 22, 23], [22, 1000702]⟩, ⟨[1, 0], [], [14, 15, 16, 17, 18, 19, 20, 21, 22, 23], [22, 1000702]⟩, ⟨[2, 1, 0], [], [14, 15, 16, 17, 18, 19, 20, 21, 22, 23], [22, 1000702]⟩, ⟨[], [], [10, 11, 12, 13, 21, 22], [22]⟩, ⟨[4], [], [10, 11, 12, 13, 21, 22], [22]⟩, ⟨[5, 4], [], [10, 11, 12, 13, 21, 22], [22]⟩, ⟨[6, 5, 4], [], [10, 11, 12, 13, 21, 22], [22]⟩, ⟨[7, 6, 5, 4], [], [10, 11, 12, 13, 21, 22], [22]⟩, ⟨[8, 7, 6, 5, 4], [], [10, 11, 12, 13, 21, 22], [22]⟩, ⟨[9, 8, 7, 6, 5, 4], [], [10, 11, 12, 13, 21, 22], [22]⟩, ⟨[], [], [10, 11, 12, 13, 14, 15, 16, 17, 18, 19, 20], []⟩, ⟨[11], [22], [10, 11, 12, 13, 14, 15, 16, 17, 18, 19, 20], []⟩, ⟨[10, 9, 8, 7, 6, 5, 4, 12, 11], [1000702], [10, 11, 12, 13], []⟩, ⟨[3, 2, 1, 0, 4, 5, 6, 7, 8, 9, 10, 11, 12, 13], [], [], []⟩, ⟨[14, 3, 2, 1, 0, 4, 5, 6, 7, 8, 9, 10, 11, 12, 13], [], [], []⟩, ⟨[15, 14, 3, 2, 1, 0, 4, 5, 6, 7, 8, 9, 10, 11, 12, 13], [1000701], [], []⟩])], [(2, lower_maker_put.c2r)], [], tab_eqs⟩
theorem lower_maker_put.eq (x_ : densU lower_maker_put.mc.pre.tys) : denM lower_maker_put.G Go.Proofs.Try.f31 lower_maker_put.mc.pre lower_maker_put.mc.post x_ = lower_maker_put.mc.F x_ := by kernel_rfl
theorem lower_maker_put.p0 : PieceOk lower_maker_put.G (pieceAt (pieces lower_maker_put.G.cks (bodyOf Go.Proofs.Try.f31)) 0).1 (pieceAt (pieces lower_maker_put.G.cks (bodyOf Go.Proofs.Try.f31)) 0).2 :=
  region_ok (s := lower_maker_put.c2r) (by kernel_rfl) (by kernel_rfl) (sums_of (sh := lower_maker_put.c2s) (fun ρ x_ k_ => (nat_bnd fun _ => nat_leaf)) (fun ρ x_ t k => (by kernel_rfl)) (fun x_ => by kernel_rfl))
theorem lower_maker_put.ok : MOk Go.Proofs.Try.prog 31 lower_maker_put.mc := fnm_ok (G := lower_maker_put.G) tab_ok mixed Go.Proofs.Try.func31 ⟨fns_nil, mfns_nil, tab_eqs_ok⟩ (m := 1) (by kernel_rfl) ⟨trivial, lower_maker_put.p0⟩ (by kernel_rfl) lower_maker_put.eq
end
end W
end

section
/- Functions of the program as typed functions, printed by a program of mine, with their proofs. -/
set_option maxHeartbeats 4000000
set_option maxRecDepth 100000
set_option linter.unusedVariables false
namespace W
open Go Go.Ql
noncomputable section
abbrev lb0 : SD := .one (.ref 1000700 0)
abbrev lb1 : SD := .one (.val (.int .i64))
abbrev lb2 : SO := .box [.ref 1000701 0, .val (.int .i64), .val (.sl (.int .i64))]
abbrev lb3 : SO := .box [.val (.int .i64), .val (.int .i64), .own 1000702 0]
abbrev lb4 : SO := .arr 0 false 37 (.st (.pair (.int .i64) (.pair (.int .i64) (.pair (.sl (.int .i64)) (.pair (.int .i64) (.pair (.int .i64) (.sl (.int .i64))))))))
def lower_maker_turn.pre : Shape := ⟨[(0, lb0), (1, lb1), (2, lb1)], [(1000700, lb2), (1000701, lb3), (1000702, lb4)]⟩
def lower_maker_turn.post : Shape := ⟨[], [(1000702, lb4), (1000701, lb3), (1000700, lb2)]⟩
def lower_maker_turn (q : Int) (t2 : Int) (t10007001 : Int) (t10007002 : List (Int)) (t10007010 : Int) (t10007011 : Int) (t1000702 : List ((Int) × ((Int) × ((List Int) × ((Int) × ((Int) × (List Int))))))) : Option ((List ((Int) × ((Int) × ((List Int) × ((Int) × ((Int) × (List Int))))))) × (Int) × (Int) × (Int) × (List Int) × Unit) :=
  br (Int.tmod (IntKind.wrap IntKind.i64 (Int.tmod t2 (16 : Int) + (16 : Int))) (16 : Int) != (0 : Int))
   (bnd (W.lower_maker_put ((4 : Int), Int.tmod (IntKind.wrap IntKind.i64 (Int.tmod t2 (16 : Int) + (16 : Int))) (16 : Int), [], q, (0 : Int), []) t10007001 t10007002 t10007010 t10007011 t1000702) fun y =>
    some (Prod.fst y, Prod.fst y.2, Prod.fst y.2.2, Prod.fst y.2.2.2, Prod.fst y.2.2.2.2, ()))
   (some (t1000702, t10007010, t10007011, t10007001, t10007002, ()))
def lower_maker_turn.mc : MCallee := ⟨34, lower_maker_turn.pre, lower_maker_turn.post, fun x_ => lower_maker_turn x_.1 x_.2.1 x_.2.2.1 x_.2.2.2.1 x_.2.2.2.2.1 x_.2.2.2.2.2.1 x_.2.2.2.2.2.2.1⟩
def lower_maker_turn.G : Env := ⟨17, tab, [], [0, 1, 2, 11], [1000700, 1000701, 1000702], [], [], [(31, lower_maker_put.mc)], tab_eqs⟩
theorem lower_maker_turn.eq (x_ : densU lower_maker_turn.mc.pre.tys) : denM lower_maker_turn.G Go.Proofs.Try.f34 lower_maker_turn.mc.pre lower_maker_turn.mc.post x_ = lower_maker_turn.mc.F x_ := by kernel_rfl
theorem lower_maker_turn.ok : MOk Go.Proofs.Try.prog 34 lower_maker_turn.mc := fnm_ok (G := lower_maker_turn.G) tab_ok mixed Go.Proofs.Try.func34 ⟨fns_nil, (mfns_cons lower_maker_put.ok mfns_nil), tab_eqs_ok⟩ (m := 0) (by kernel_rfl) trivial (by kernel_rfl) lower_maker_turn.eq
def lower_maker_cx.pre : Shape := ⟨[(0, lb0), (1, lb1), (2, lb1)], [(1000700, lb2), (1000701, lb3), (1000702, lb4)]⟩
def lower_maker_cx.post : Shape := ⟨[], [(1000702, lb4), (1000701, lb3), (1000700, lb2)]⟩
def lower_maker_cx (a : Int) (q : Int) (t10007001 : Int) (t10007002 : List (Int)) (t10007010 : Int) (t10007011 : Int) (t1000702 : List ((Int) × ((Int) × ((List Int) × ((Int) × ((Int) × (List Int))))))) : Option ((List ((Int) × ((Int) × ((List Int) × ((Int) × ((Int) × (List Int))))))) × (Int) × (Int) × (Int) × (List Int) × Unit) :=
  bnd (W.lower_maker_put ((2 : Int), (0 : Int), [a], q, (0 : Int), []) t10007001 t10007002 t10007010 t10007011 t1000702) fun y =>
  some (Prod.fst y, Prod.fst y.2, Prod.fst y.2.2, Prod.fst y.2.2.2, Prod.fst y.2.2.2.2, ())
def lower_maker_cx.mc : MCallee := ⟨49, lower_maker_cx.pre, lower_maker_cx.post, fun x_ => lower_maker_cx x_.1 x_.2.1 x_.2.2.1 x_.2.2.2.1 x_.2.2.2.2.1 x_.2.2.2.2.2.1 x_.2.2.2.2.2.2.1⟩
def lower_maker_cx.G : Env := ⟨12, tab, [], [0, 1, 2], [1000700, 1000701, 1000702], [], [], [(31, lower_maker_put.mc)], tab_eqs⟩
theorem lower_maker_cx.eq (x_ : densU lower_maker_cx.mc.pre.tys) : denM lower_maker_cx.G Go.Proofs.Try.f49 lower_maker_cx.mc.pre lower_maker_cx.mc.post x_ = lower_maker_cx.mc.F x_ := by kernel_rfl
theorem lower_maker_cx.ok : MOk Go.Proofs.Try.prog 49 lower_maker_cx.mc := fnm_ok (G := lower_maker_cx.G) tab_ok mixed Go.Proofs.Try.func49 ⟨fns_nil, (mfns_cons lower_maker_put.ok mfns_nil), tab_eqs_ok⟩ (m := 0) (by kernel_rfl) trivial (by kernel_rfl) lower_maker_cx.eq
abbrev lb5 : SD := .one (.ref 1000720 0)
abbrev lb6 : SD := .one (.ref 1000740 0)
abbrev lb7 : SD := .one (.ref 1000760 0)
abbrev lb8 : SO := .box [.val (.sl (.int .i64))]
abbrev lb9 : SO := .box [.val (.int .i64)]
abbrev lb10 : SO := .box [.ref 1000761 0]
abbrev lb11 : SO := .box [.ref 1000762 0, .val (.int .i64), .val (.sl (.int .i64))]
abbrev lb12 : SO := .box [.val (.int .i64), .val (.int .i64), .own 1000763 0]
abbrev lb13 : SD := .one (.val (.sl (.int .i64)))
abbrev lb14 : SD := .one (.val .bool)
def lower_maker_parities_1.pre : Shape := ⟨[(0, lb0), (1, lb5), (2, lb6), (3, lb7)], [(1000700, lb8), (1000720, lb9), (1000740, lb9), (1000760, lb10), (1000761, lb11), (1000762, lb12), (1000763, lb4)]⟩
def lower_maker_parities_1.post : Shape := ⟨[], [(1000763, lb4), (1000762, lb12), (1000761, lb11), (1000760, lb10), (1000740, lb9), (1000720, lb9), (1000700, lb8)]⟩
def lower_maker_parities_1.c3 {ρ : Type} (i : Int) (q : Int) (t10007200 : Int) (t10007400 : Int) (k_ : Bool → Option ρ) : Option ρ :=
  bnd (okIf (decide ((0 : Int) ≤ i))) fun y =>
  br (ibits BinOp.and IntKind.i64 (Int.fdiv t10007200 ((2 : Int) ^ Min.min (Int.toNat i) (64 : Nat))) (1 : Int) == (1 : Int))
   (k_ (q != t10007400))
   (k_ false)
def lower_maker_parities_1.c3s : Shape := ⟨[(0, lb0), (1, lb5), (2, lb6), (3, lb7), (4, lb1), (5, lb1), (6, lb13), (7, lb1), (8, lb1)], [(1000700, lb8), (1000720, lb9), (1000740, lb9), (1000760, lb10), (1000761, lb11), (1000762, lb12), (1000763, lb4)]⟩
def lower_maker_parities_1.c3x0 : Shape := ⟨[(0, lb0), (1, lb5), (2, lb6), (3, lb7), (4, lb1), (5, lb1), (6, lb13), (7, lb1), (8, lb1), (22, lb14)], [(1000700, lb8), (1000720, lb9), (1000740, lb9), (1000760, lb10), (1000761, lb11), (1000762, lb12), (1000763, lb4)]⟩
def lower_maker_parities_1.c3r : Ck := Ck.of (T := Bool) lower_maker_parities_1.c3s (fun ρ x_ k_ => uP x_ fun i x_ => uP x_ fun q x_ => uP x_ fun t6 x_ => uP x_ fun t7 x_ => uP x_ fun t8 x_ => uP x_ fun t10007000 x_ => uP x_ fun t10007200 x_ => uP x_ fun t10007400 x_ => uP x_ fun t10007611 x_ => uP x_ fun t10007612 x_ => uP x_ fun t10007620 x_ => uP x_ fun t10007621 x_ => uP x_ fun t1000763 x_ => lower_maker_parities_1.c3 i q t10007200 t10007400 k_) (fun ρ x_ r_ k_ => uP x_ fun i x_ => uP x_ fun q x_ => uP x_ fun t6 x_ => uP x_ fun t7 x_ => uP x_ fun t8 x_ => uP x_ fun t10007000 x_ => uP x_ fun t10007200 x_ => uP x_ fun t10007400 x_ => uP x_ fun t10007611 x_ => uP x_ fun t10007612 x_ => uP x_ fun t10007620 x_ => uP x_ fun t10007621 x_ => uP x_ fun t1000763 x_ => k_ 0 (Shape.inj lower_maker_parities_1.c3x0 (i, q, t6, t7, t8, r_, t10007000, t10007200, t10007400, t10007611, t10007612, t10007620, t10007621, t1000763, ())))
def lower_maker_parities_1.c208200 {ρ : Type} (t6 : List (Int)) (t8 : Int) (t10007200 : Int) (t10007400 : Int) (t10007611 : Int) (t10007612 : List (Int)) (t10007620 : Int) (t10007621 : Int) (t1000763 : List ((Int) × ((Int) × ((List Int) × ((Int) × ((Int) × (List Int))))))) (k_ : (Int) × (List Int) × (Int) × (Int) × (List ((Int) × ((Int) × ((List Int) × ((Int) × ((Int) × (List Int))))))) → Option ρ) : Option ρ :=
  bnd (idx t6 t8) fun y =>
  bnd (W.lower_maker_parities_1.c3 t8 y t10007200 t10007400 some) fun y_1 =>
  br y_1
   (bnd (W.lower_maker_cx y t10007400 t10007611 t10007612 t10007620 t10007621 t1000763) fun y_2 =>
    k_ ((Prod.fst y_2.2.2.2), (Prod.fst y_2.2.2.2.2), (Prod.fst y_2.2), (Prod.fst y_2.2.2), (Prod.fst y_2)))
   (k_ (t10007611, t10007612, t10007620, t10007621, t1000763))
def lower_maker_parities_1.c208200s : Shape := ⟨[(0, lb0), (1, lb5), (2, lb6), (3, lb7), (6, lb13), (7, lb1), (8, lb1)], [(1000700, lb8), (1000720, lb9), (1000740, lb9), (1000760, lb10), (1000761, lb11), (1000762, lb12), (1000763, lb4)]⟩
def lower_maker_parities_1.c208200x0 : Shape := ⟨[(0, lb0), (1, lb5), (2, lb6), (3, lb7), (6, lb13), (7, lb1), (8, lb1)], [(1000700, lb8), (1000720, lb9), (1000740, lb9), (1000760, lb10), (1000761, lb11), (1000762, lb12), (1000763, lb4)]⟩
def lower_maker_parities_1.c208200r : Ck := Ck.of (T := (Int) × (List Int) × (Int) × (Int) × (List ((Int) × ((Int) × ((List Int) × ((Int) × ((Int) × (List Int)))))))) lower_maker_parities_1.c208200s (fun ρ x_ k_ => uP x_ fun t6 x_ => uP x_ fun t7 x_ => uP x_ fun t8 x_ => uP x_ fun t10007000 x_ => uP x_ fun t10007200 x_ => uP x_ fun t10007400 x_ => uP x_ fun t10007611 x_ => uP x_ fun t10007612 x_ => uP x_ fun t10007620 x_ => uP x_ fun t10007621 x_ => uP x_ fun t1000763 x_ => lower_maker_parities_1.c208200 t6 t8 t10007200 t10007400 t10007611 t10007612 t10007620 t10007621 t1000763 k_) (fun ρ x_ r_ k_ => uP x_ fun t6 x_ => uP x_ fun t7 x_ => uP x_ fun t8 x_ => uP x_ fun t10007000 x_ => uP x_ fun t10007200 x_ => uP x_ fun t10007400 x_ => uP x_ fun t10007611 x_ => uP x_ fun t10007612 x_ => uP x_ fun t10007620 x_ => uP x_ fun t10007621 x_ => uP x_ fun t1000763 x_ => k_ 0 (Shape.inj lower_maker_parities_1.c208200x0 (t6, t7, t8, t10007000, t10007200, t10007400, r_.1, r_.2.1, r_.2.2.1, r_.2.2.2.1, r_.2.2.2.2, ())))
def lower_maker_parities_1.c100001 {ρ : Type} (t6 : List (Int)) (t7 : Int) (t8 : Int) (t10007200 : Int) (t10007400 : Int) (t10007611 : Int) (t10007612 : List (Int)) (t10007620 : Int) (t10007621 : Int) (t1000763 : List ((Int) × ((Int) × ((List Int) × ((Int) × ((Int) × (List Int))))))) (k_ : ((Int) × (Int) × (List Int) × (Int) × (Int) × (List ((Int) × ((Int) × ((List Int) × ((Int) × ((Int) × (List Int)))))))) ⊕ ((Int) × (Int) × (List Int) × (Int) × (Int) × (List ((Int) × ((Int) × ((List Int) × ((Int) × ((Int) × (List Int)))))))) → Option ρ) : Option ρ :=
  br (decide (t8 < t7))
   (bnd (W.lower_maker_parities_1.c208200 t6 t8 t10007200 t10007400 t10007611 t10007612 t10007620 t10007621 t1000763 some) fun y =>
    k_ (.inl ((IntKind.wrap IntKind.i64 (t8 + (1 : Int))), (Prod.fst y), (Prod.fst (Prod.snd y)), (Prod.fst (Prod.snd (Prod.snd y))), (Prod.fst (Prod.snd (Prod.snd (Prod.snd y)))), (Prod.snd (Prod.snd (Prod.snd (Prod.snd y)))))))
   (k_ (.inr (t8, t10007611, t10007612, t10007620, t10007621, t1000763)))
def lower_maker_parities_1.c100001s : Shape := ⟨[(0, lb0), (1, lb5), (2, lb6), (3, lb7), (6, lb13), (7, lb1), (8, lb1)], [(1000700, lb8), (1000720, lb9), (1000740, lb9), (1000760, lb10), (1000761, lb11), (1000762, lb12), (1000763, lb4)]⟩
def lower_maker_parities_1.c100001x0 : Shape := ⟨[(0, lb0), (1, lb5), (2, lb6), (3, lb7), (6, lb13), (7, lb1), (8, lb1)], [(1000700, lb8), (1000720, lb9), (1000740, lb9), (1000760, lb10), (1000761, lb11), (1000762, lb12), (1000763, lb4)]⟩
def lower_maker_parities_1.c100001r : Ck := Ck.ofLoop (S := (Int) × (Int) × (List Int) × (Int) × (Int) × (List ((Int) × ((Int) × ((List Int) × ((Int) × ((Int) × (List Int)))))))) (T := (Int) × (Int) × (List Int) × (Int) × (Int) × (List ((Int) × ((Int) × ((List Int) × ((Int) × ((Int) × (List Int)))))))) lower_maker_parities_1.c100001s (fun x_ => uP x_ fun t6 x_ => uP x_ fun t7 x_ => uP x_ fun t8 x_ => uP x_ fun t10007000 x_ => uP x_ fun t10007200 x_ => uP x_ fun t10007400 x_ => uP x_ fun t10007611 x_ => uP x_ fun t10007612 x_ => uP x_ fun t10007620 x_ => uP x_ fun t10007621 x_ => uP x_ fun t1000763 x_ => (t8, t10007611, t10007612, t10007620, t10007621, t1000763)) (fun ρ x_ s_ k_ => uP x_ fun t6 x_ => uP x_ fun t7 x_ => uP x_ fun t8 x_ => uP x_ fun t10007000 x_ => uP x_ fun t10007200 x_ => uP x_ fun t10007400 x_ => uP x_ fun t10007611 x_ => uP x_ fun t10007612 x_ => uP x_ fun t10007620 x_ => uP x_ fun t10007621 x_ => uP x_ fun t1000763 x_ => lower_maker_parities_1.c100001 t6 t7 s_.1 t10007200 t10007400 s_.2.1 s_.2.2.1 s_.2.2.2.1 s_.2.2.2.2.1 s_.2.2.2.2.2 k_) (fun ρ x_ r_ k_ => uP x_ fun t6 x_ => uP x_ fun t7 x_ => uP x_ fun t8 x_ => uP x_ fun t10007000 x_ => uP x_ fun t10007200 x_ => uP x_ fun t10007400 x_ => uP x_ fun t10007611 x_ => uP x_ fun t10007612 x_ => uP x_ fun t10007620 x_ => uP x_ fun t10007621 x_ => uP x_ fun t1000763 x_ => k_ 2 (Shape.inj lower_maker_parities_1.c100001x0 (t6, t7, r_.1, t10007000, t10007200, t10007400, r_.2.1, r_.2.2.1, r_.2.2.2.1, r_.2.2.2.2.1, r_.2.2.2.2.2, ())))
def lower_maker_parities_1 (t10007000 : List (Int)) (t10007200 : Int) (t10007400 : Int) (t10007611 : Int) (t10007612 : List (Int)) (t10007620 : Int) (t10007621 : Int) (t1000763 : List ((Int) × ((Int) × ((List Int) × ((Int) × ((Int) × (List Int))))))) : Option ((List ((Int) × ((Int) × ((List Int) × ((Int) × ((Int) × (List Int))))))) × (Int) × (Int) × (Int) × (List Int) × (Int) × (Int) × (List Int) × Unit) :=
  bnd (iter (fun s ↦ W.lower_maker_parities_1.c100001 t10007000 (↑(List.length t10007000) : Int) (Prod.fst s) t10007200 t10007400 (Prod.fst (Prod.snd s)) (Prod.fst (Prod.snd (Prod.snd s))) (Prod.fst (Prod.snd (Prod.snd (Prod.snd s)))) (Prod.fst (Prod.snd (Prod.snd (Prod.snd (Prod.snd s))))) (Prod.snd (Prod.snd (Prod.snd (Prod.snd (Prod.snd s))))) some) ((0 : Int), t10007611, t10007612, t10007620, t10007621, t1000763)) fun y =>
  some (Prod.snd (Prod.snd (Prod.snd (Prod.snd (Prod.snd y)))), Prod.fst (Prod.snd (Prod.snd (Prod.snd y))), Prod.fst (Prod.snd (Prod.snd (Prod.snd (Prod.snd y)))), Prod.fst (Prod.snd y), Prod.fst (Prod.snd (Prod.snd y)), t10007400, t10007200, t10007000, ())
def lower_maker_parities_1.mc : MCallee := ⟨55, lower_maker_parities_1.pre, lower_maker_parities_1.post, fun x_ => lower_maker_parities_1 x_.1 x_.2.1 x_.2.2.1 x_.2.2.2.1 x_.2.2.2.2.1 x_.2.2.2.2.2.1 x_.2.2.2.2.2.2.1 x_.2.2.2.2.2.2.2.1⟩
def lower_maker_parities_1.G : Env := ⟨28, tab, [], [0, 1, 2, 3, 4, 5, 6, 7, 8, 9, 22], [1000700, 1000720, 1000740, 1000760, 1000761, 1000762, 1000763], [], [(100001, lower_maker_parities_1.c100001r), (208200, lower_maker_parities_1.c208200r), (3, lower_maker_parities_1.c3r)], [(49, lower_maker_cx.mc)], tab_eqs⟩
theorem lower_maker_parities_1.eq (x_ : densU lower_maker_parities_1.mc.pre.tys) : denM lower_maker_parities_1.G Go.Proofs.Try.f55 lower_maker_parities_1.mc.pre lower_maker_parities_1.mc.post x_ = lower_maker_parities_1.mc.F x_ := by kernel_rfl
theorem lower_maker_parities_1.p0 : PieceOk lower_maker_parities_1.G (pieceAt (pieces lower_maker_parities_1.G.cks (bodyOf Go.Proofs.Try.f55)) 0).1 (pieceAt (pieces lower_maker_parities_1.G.cks (bodyOf Go.Proofs.Try.f55)) 0).2 :=
  loop_ok (s := lower_maker_parities_1.c100001r) (by kernel_rfl) (by kernel_rfl) (loops_of (sh := lower_maker_parities_1.c100001s) (I := fun x_ s_ => (x_.1, x_.2.1, s_.1, x_.2.2.2.1, x_.2.2.2.2.1, x_.2.2.2.2.2.1, s_.2.1, s_.2.2.1, s_.2.2.2.1, s_.2.2.2.2.1, s_.2.2.2.2.2, ())) (fun x_ => rfl) (fun ρ x_ s_ k_ => (nat_br (nat_bnd fun _ => nat_leaf) nat_leaf)) (fun ρ x_ t k => (by kernel_rfl)) (fun x_ s => by kernel_rfl))
theorem lower_maker_parities_1.p1 : PieceOk lower_maker_parities_1.G (pieceAt (pieces lower_maker_parities_1.G.cks (bodyOf Go.Proofs.Try.f55)) 1).1 (pieceAt (pieces lower_maker_parities_1.G.cks (bodyOf Go.Proofs.Try.f55)) 1).2 :=
  join_ok (s := lower_maker_parities_1.c208200r) (by kernel_rfl) (by kernel_rfl) (sums_of (sh := lower_maker_parities_1.c208200s) (fun ρ x_ k_ => (nat_bnd fun _ => (nat_bnd fun _ => (nat_br (nat_bnd fun _ => nat_leaf) nat_leaf)))) (fun ρ x_ t k => (by kernel_rfl)) (fun x_ => by kernel_rfl))
theorem lower_maker_parities_1.p2 : PieceOk lower_maker_parities_1.G (pieceAt (pieces lower_maker_parities_1.G.cks (bodyOf Go.Proofs.Try.f55)) 2).1 (pieceAt (pieces lower_maker_parities_1.G.cks (bodyOf Go.Proofs.Try.f55)) 2).2 :=
  region_ok (s := lower_maker_parities_1.c3r) (by kernel_rfl) (by kernel_rfl) (sums_of (sh := lower_maker_parities_1.c3s) (fun ρ x_ k_ => (nat_bnd fun _ => (nat_br nat_leaf nat_leaf))) (fun ρ x_ t k => (by kernel_rfl)) (fun x_ => by kernel_rfl))
theorem lower_maker_parities_1.ok : MOk Go.Proofs.Try.prog 55 lower_maker_parities_1.mc := fnm_ok (G := lower_maker_parities_1.G) tab_ok mixed Go.Proofs.Try.func55 ⟨fns_nil, (mfns_cons lower_maker_cx.ok mfns_nil), tab_eqs_ok⟩ (m := 3) (by kernel_rfl) ⟨⟨⟨trivial, lower_maker_parities_1.p0⟩, lower_maker_parities_1.p1⟩, lower_maker_parities_1.p2⟩ (by kernel_rfl) lower_maker_parities_1.eq
abbrev lb15 : SD := .one (.ref 3 0)
abbrev lb16 : SD := .one (.ref 4 0)
abbrev lb17 : SD := .one (.ref 6 0)
abbrev lb18 : SO := .box [.ref 1000700 0]
abbrev lb19 : SD := .one (.ref 7 0)
abbrev lb20 : SD := .one (.clo 41)
abbrev lb21 : SO := .clo 55 [] [.ref 4 0, .ref 6 0, .ref 7 0, .ref 3 0]
def lower_maker_parities.pre : Shape := ⟨[(0, lb0), (1, lb13), (2, lb1)], [(1000700, lb2), (1000701, lb3), (1000702, lb4)]⟩
def lower_maker_parities.post : Shape := ⟨[], [(1000702, lb4), (1000701, lb3), (1000700, lb2)]⟩
def lower_maker_parities.c3 {ρ : Type} (qs0 : List (Int)) (k_ : Unit → Option ρ) : Option ρ :=
  bnd (okIf (decide ((0 : Int) ≤ (↑(List.length qs0) : Int)))) fun y =>
  k_ ()
def lower_maker_parities.c3s : Shape := ⟨[(0, lb0), (1, lb13), (2, lb1), (3, lb15), (4, lb16), (6, lb17)], [(3, lb18), (4, lb8), (6, lb9), (1000700, lb2), (1000701, lb3), (1000702, lb4)]⟩
def lower_maker_parities.c3x0 : Shape := ⟨[(0, lb0), (1, lb13), (2, lb1), (3, lb15), (4, lb16), (6, lb17), (22, lb14)], [(3, lb18), (4, lb8), (6, lb9), (1000700, lb2), (1000701, lb3), (1000702, lb4)]⟩
def lower_maker_parities.c3r : Ck := Ck.of (T := Unit) lower_maker_parities.c3s (fun ρ x_ k_ => uP x_ fun qs x_ => uP x_ fun t2 x_ => uP x_ fun qs0 x_ => uP x_ fun t60 x_ => uP x_ fun t10007001 x_ => uP x_ fun t10007002 x_ => uP x_ fun t10007010 x_ => uP x_ fun t10007011 x_ => uP x_ fun t1000702 x_ => lower_maker_parities.c3 qs0 k_) (fun ρ x_ r_ k_ => uP x_ fun qs x_ => uP x_ fun t2 x_ => uP x_ fun qs0 x_ => uP x_ fun t60 x_ => uP x_ fun t10007001 x_ => uP x_ fun t10007002 x_ => uP x_ fun t10007010 x_ => uP x_ fun t10007011 x_ => uP x_ fun t1000702 x_ => k_ 0 (Shape.inj lower_maker_parities.c3x0 (qs, t2, (decide (t60 < IntKind.wrap IntKind.i64 ((1 : Int) * (2 : Int) ^ Min.min (Int.toNat (↑(List.length qs0) : Int)) (64 : Nat)))), qs0, t60, t10007001, t10007002, t10007010, t10007011, t1000702, ())))
def lower_maker_parities.c232778 {ρ : Type} (n : Int) (t25 : List (Int)) (t27 : Int) (t60 : Int) (last0 : Int) (k_ : (Int) × (Int) → Option ρ) : Option ρ :=
  bnd (idx t25 t27) fun y =>
  bnd (okIf (decide ((0 : Int) ≤ t27))) fun y_1 =>
  br (ibits BinOp.and IntKind.i64 (Int.fdiv t60 ((2 : Int) ^ Min.min (Int.toNat t27) (64 : Nat))) (1 : Int) == (1 : Int))
   (k_ ((IntKind.wrap IntKind.i64 (n + (1 : Int))), y))
   (k_ (n, last0))
def lower_maker_parities.c232778s : Shape := ⟨[(0, lb0), (1, lb13), (2, lb1), (3, lb15), (4, lb16), (6, lb17), (7, lb19), (8, lb1), (25, lb13), (26, lb1), (27, lb1)], [(3, lb18), (4, lb8), (6, lb9), (7, lb9), (1000700, lb2), (1000701, lb3), (1000702, lb4)]⟩
def lower_maker_parities.c232778x0 : Shape := ⟨[(0, lb0), (1, lb13), (2, lb1), (3, lb15), (4, lb16), (6, lb17), (7, lb19), (8, lb1), (25, lb13), (26, lb1), (27, lb1)], [(3, lb18), (4, lb8), (6, lb9), (7, lb9), (1000700, lb2), (1000701, lb3), (1000702, lb4)]⟩
def lower_maker_parities.c232778r : Ck := Ck.of (T := (Int) × (Int)) lower_maker_parities.c232778s (fun ρ x_ k_ => uP x_ fun qs x_ => uP x_ fun t2 x_ => uP x_ fun n x_ => uP x_ fun t25 x_ => uP x_ fun t26 x_ => uP x_ fun t27 x_ => uP x_ fun qs0 x_ => uP x_ fun t60 x_ => uP x_ fun last0 x_ => uP x_ fun t10007001 x_ => uP x_ fun t10007002 x_ => uP x_ fun t10007010 x_ => uP x_ fun t10007011 x_ => uP x_ fun t1000702 x_ => lower_maker_parities.c232778 n t25 t27 t60 last0 k_) (fun ρ x_ r_ k_ => uP x_ fun qs x_ => uP x_ fun t2 x_ => uP x_ fun n x_ => uP x_ fun t25 x_ => uP x_ fun t26 x_ => uP x_ fun t27 x_ => uP x_ fun qs0 x_ => uP x_ fun t60 x_ => uP x_ fun last0 x_ => uP x_ fun t10007001 x_ => uP x_ fun t10007002 x_ => uP x_ fun t10007010 x_ => uP x_ fun t10007011 x_ => uP x_ fun t1000702 x_ => k_ 0 (Shape.inj lower_maker_parities.c232778x0 (qs, t2, r_.1, t25, t26, t27, qs0, t60, r_.2, t10007001, t10007002, t10007010, t10007011, t1000702, ())))
def lower_maker_parities.c100007 {ρ : Type} (n : Int) (t25 : List (Int)) (t26 : Int) (t27 : Int) (t60 : Int) (last0 : Int) (k_ : ((Int) × (Int) × (Int)) ⊕ ((Int) × (Int) × (Int)) → Option ρ) : Option ρ :=
  br (decide (t27 < t26))
   (bnd (W.lower_maker_parities.c232778 n t25 t27 t60 last0 some) fun y =>
    k_ (.inl ((Prod.fst y), (IntKind.wrap IntKind.i64 (t27 + (1 : Int))), (Prod.snd y))))
   (k_ (.inr (n, t27, last0)))
def lower_maker_parities.c100007s : Shape := ⟨[(0, lb0), (1, lb13), (2, lb1), (3, lb15), (4, lb16), (6, lb17), (7, lb19), (8, lb1), (25, lb13), (26, lb1), (27, lb1)], [(3, lb18), (4, lb8), (6, lb9), (7, lb9), (1000700, lb2), (1000701, lb3), (1000702, lb4)]⟩
def lower_maker_parities.c100007x0 : Shape := ⟨[(0, lb0), (1, lb13), (2, lb1), (3, lb15), (4, lb16), (6, lb17), (7, lb19), (8, lb1), (25, lb13), (26, lb1), (27, lb1)], [(3, lb18), (4, lb8), (6, lb9), (7, lb9), (1000700, lb2), (1000701, lb3), (1000702, lb4)]⟩
def lower_maker_parities.c100007r : Ck := Ck.ofLoop (S := (Int) × (Int) × (Int)) (T := (Int) × (Int) × (Int)) lower_maker_parities.c100007s (fun x_ => uP x_ fun qs x_ => uP x_ fun t2 x_ => uP x_ fun n x_ => uP x_ fun t25 x_ => uP x_ fun t26 x_ => uP x_ fun t27 x_ => uP x_ fun qs0 x_ => uP x_ fun t60 x_ => uP x_ fun last0 x_ => uP x_ fun t10007001 x_ => uP x_ fun t10007002 x_ => uP x_ fun t10007010 x_ => uP x_ fun t10007011 x_ => uP x_ fun t1000702 x_ => (n, t27, last0)) (fun ρ x_ s_ k_ => uP x_ fun qs x_ => uP x_ fun t2 x_ => uP x_ fun n x_ => uP x_ fun t25 x_ => uP x_ fun t26 x_ => uP x_ fun t27 x_ => uP x_ fun qs0 x_ => uP x_ fun t60 x_ => uP x_ fun last0 x_ => uP x_ fun t10007001 x_ => uP x_ fun t10007002 x_ => uP x_ fun t10007010 x_ => uP x_ fun t10007011 x_ => uP x_ fun t1000702 x_ => lower_maker_parities.c100007 s_.1 t25 t26 s_.2.1 t60 s_.2.2 k_) (fun ρ x_ r_ k_ => uP x_ fun qs x_ => uP x_ fun t2 x_ => uP x_ fun n x_ => uP x_ fun t25 x_ => uP x_ fun t26 x_ => uP x_ fun t27 x_ => uP x_ fun qs0 x_ => uP x_ fun t60 x_ => uP x_ fun last0 x_ => uP x_ fun t10007001 x_ => uP x_ fun t10007002 x_ => uP x_ fun t10007010 x_ => uP x_ fun t10007011 x_ => uP x_ fun t1000702 x_ => k_ 4 (Shape.inj lower_maker_parities.c100007x0 (qs, t2, r_.1, t25, t26, r_.2.1, qs0, t60, r_.2.2, t10007001, t10007002, t10007010, t10007011, t1000702, ())))
def lower_maker_parities.c261445 {ρ : Type} (t2 : Int) (n : Int) (last0 : Int) (t10007001 : Int) (t10007002 : List (Int)) (t10007010 : Int) (t10007011 : Int) (t1000702 : List ((Int) × ((Int) × ((List Int) × ((Int) × ((Int) × (List Int))))))) (k_ : (Int) × (List Int) × (Int) × (Int) × (List ((Int) × ((Int) × ((List Int) × ((Int) × ((Int) × (List Int))))))) → Option ρ) : Option ρ :=
  br (Int.tmod n (2 : Int) == (1 : Int))
   (bnd (W.lower_maker_turn last0 t2 t10007001 t10007002 t10007010 t10007011 t1000702) fun y =>
    k_ ((Prod.fst y.2.2.2), (Prod.fst y.2.2.2.2), (Prod.fst y.2), (Prod.fst y.2.2), (Prod.fst y)))
   (bnd (W.lower_maker_turn last0 (IntKind.wrap IntKind.i64 ((0 : Int) - t2)) t10007001 t10007002 t10007010 t10007011 t1000702) fun y_1 =>
    k_ ((Prod.fst y_1.2.2.2), (Prod.fst y_1.2.2.2.2), (Prod.fst y_1.2), (Prod.fst y_1.2.2), (Prod.fst y_1)))
def lower_maker_parities.c261445s : Shape := ⟨[(0, lb0), (1, lb13), (2, lb1), (3, lb15), (4, lb16), (6, lb17), (7, lb19), (8, lb1), (11, lb20), (25, lb13), (26, lb1), (27, lb1)], [(3, lb18), (4, lb8), (6, lb9), (7, lb9), (41, lb21), (1000700, lb2), (1000701, lb3), (1000702, lb4)]⟩
def lower_maker_parities.c261445x0 : Shape := ⟨[(0, lb0), (1, lb13), (2, lb1), (3, lb15), (4, lb16), (6, lb17), (7, lb19), (8, lb1), (11, lb20), (25, lb13), (26, lb1), (27, lb1)], [(3, lb18), (4, lb8), (6, lb9), (7, lb9), (41, lb21), (1000700, lb2), (1000701, lb3), (1000702, lb4)]⟩
def lower_maker_parities.c261445r : Ck := Ck.of (T := (Int) × (List Int) × (Int) × (Int) × (List ((Int) × ((Int) × ((List Int) × ((Int) × ((Int) × (List Int)))))))) lower_maker_parities.c261445s (fun ρ x_ k_ => uP x_ fun qs x_ => uP x_ fun t2 x_ => uP x_ fun n x_ => uP x_ fun t25 x_ => uP x_ fun t26 x_ => uP x_ fun t27 x_ => uP x_ fun qs0 x_ => uP x_ fun t60 x_ => uP x_ fun last0 x_ => uP x_ fun t10007001 x_ => uP x_ fun t10007002 x_ => uP x_ fun t10007010 x_ => uP x_ fun t10007011 x_ => uP x_ fun t1000702 x_ => lower_maker_parities.c261445 t2 n last0 t10007001 t10007002 t10007010 t10007011 t1000702 k_) (fun ρ x_ r_ k_ => uP x_ fun qs x_ => uP x_ fun t2 x_ => uP x_ fun n x_ => uP x_ fun t25 x_ => uP x_ fun t26 x_ => uP x_ fun t27 x_ => uP x_ fun qs0 x_ => uP x_ fun t60 x_ => uP x_ fun last0 x_ => uP x_ fun t10007001 x_ => uP x_ fun t10007002 x_ => uP x_ fun t10007010 x_ => uP x_ fun t10007011 x_ => uP x_ fun t1000702 x_ => k_ 0 (Shape.inj lower_maker_parities.c261445x0 (qs, t2, n, t25, t26, t27, qs0, t60, last0, r_.1, r_.2.1, r_.2.2.1, r_.2.2.2.1, r_.2.2.2.2, ())))
def lower_maker_parities.c100003 {ρ : Type} (t2 : Int) (qs0 : List (Int)) (t60 : Int) (t10007001 : Int) (t10007002 : List (Int)) (t10007010 : Int) (t10007011 : Int) (t1000702 : List ((Int) × ((Int) × ((List Int) × ((Int) × ((Int) × (List Int))))))) (k_ : ((List Int) × (Int) × (Int) × (List Int) × (Int) × (Int) × (List ((Int) × ((Int) × ((List Int) × ((Int) × ((Int) × (List Int)))))))) ⊕ ((List Int) × (Int) × (Int) × (List Int) × (Int) × (Int) × (List ((Int) × ((Int) × ((List Int) × ((Int) × ((Int) × (List Int)))))))) → Option ρ) : Option ρ :=
  bnd (W.lower_maker_parities.c3 qs0 some) fun y =>
  br (decide (t60 < IntKind.wrap IntKind.i64 ((1 : Int) * (2 : Int) ^ Min.min (Int.toNat (↑(List.length qs0) : Int)) (64 : Nat))))
   (bnd (iter (fun s ↦ W.lower_maker_parities.c100007 (Prod.fst s) qs0 (↑(List.length qs0) : Int) (Prod.fst (Prod.snd s)) t60 (Prod.snd (Prod.snd s)) some) ((0 : Int), (0 : Int), (-1 : Int))) fun y_1 =>
    bnd (W.lower_maker_parities_1 qs0 t60 (Prod.snd (Prod.snd y_1)) t10007001 t10007002 t10007010 t10007011 t1000702) fun y_2 =>
    bnd (W.lower_maker_parities.c261445 t2 (Prod.fst y_1) (Prod.fst y_2.2.2.2.2.2) (Prod.fst y_2.2.2.2) (Prod.fst y_2.2.2.2.2) (Prod.fst y_2.2) (Prod.fst y_2.2.2) (Prod.fst y_2) some) fun y_3 =>
    bnd (W.lower_maker_parities_1 (Prod.fst y_2.2.2.2.2.2.2.2) (Prod.fst y_2.2.2.2.2.2.2) (Prod.fst y_2.2.2.2.2.2) (Prod.fst y_3) (Prod.fst (Prod.snd y_3)) (Prod.fst (Prod.snd (Prod.snd y_3))) (Prod.fst (Prod.snd (Prod.snd (Prod.snd y_3)))) (Prod.snd (Prod.snd (Prod.snd (Prod.snd y_3))))) fun y_4 =>
    k_ (.inl ((Prod.fst y_4.2.2.2.2.2.2.2), (IntKind.wrap IntKind.i64 (Prod.fst y_4.2.2.2.2.2.2 + (1 : Int))), (Prod.fst y_4.2.2.2), (Prod.fst y_4.2.2.2.2), (Prod.fst y_4.2), (Prod.fst y_4.2.2), (Prod.fst y_4))))
   (k_ (.inr (qs0, t60, t10007001, t10007002, t10007010, t10007011, t1000702)))
def lower_maker_parities.c100003s : Shape := ⟨[(0, lb0), (1, lb13), (2, lb1), (3, lb15), (4, lb16), (6, lb17)], [(3, lb18), (4, lb8), (6, lb9), (1000700, lb2), (1000701, lb3), (1000702, lb4)]⟩
def lower_maker_parities.c100003x0 : Shape := ⟨[(0, lb0), (1, lb13), (2, lb1), (3, lb15), (4, lb16), (6, lb17)], [(3, lb18), (4, lb8), (6, lb9), (1000700, lb2), (1000701, lb3), (1000702, lb4)]⟩
def lower_maker_parities.c100003r : Ck := Ck.ofLoop (S := (List Int) × (Int) × (Int) × (List Int) × (Int) × (Int) × (List ((Int) × ((Int) × ((List Int) × ((Int) × ((Int) × (List Int)))))))) (T := (List Int) × (Int) × (Int) × (List Int) × (Int) × (Int) × (List ((Int) × ((Int) × ((List Int) × ((Int) × ((Int) × (List Int)))))))) lower_maker_parities.c100003s (fun x_ => uP x_ fun qs x_ => uP x_ fun t2 x_ => uP x_ fun qs0 x_ => uP x_ fun t60 x_ => uP x_ fun t10007001 x_ => uP x_ fun t10007002 x_ => uP x_ fun t10007010 x_ => uP x_ fun t10007011 x_ => uP x_ fun t1000702 x_ => (qs0, t60, t10007001, t10007002, t10007010, t10007011, t1000702)) (fun ρ x_ s_ k_ => uP x_ fun qs x_ => uP x_ fun t2 x_ => uP x_ fun qs0 x_ => uP x_ fun t60 x_ => uP x_ fun t10007001 x_ => uP x_ fun t10007002 x_ => uP x_ fun t10007010 x_ => uP x_ fun t10007011 x_ => uP x_ fun t1000702 x_ => lower_maker_parities.c100003 t2 s_.1 s_.2.1 s_.2.2.1 s_.2.2.2.1 s_.2.2.2.2.1 s_.2.2.2.2.2.1 s_.2.2.2.2.2.2 k_) (fun ρ x_ r_ k_ => uP x_ fun qs x_ => uP x_ fun t2 x_ => uP x_ fun qs0 x_ => uP x_ fun t60 x_ => uP x_ fun t10007001 x_ => uP x_ fun t10007002 x_ => uP x_ fun t10007010 x_ => uP x_ fun t10007011 x_ => uP x_ fun t1000702 x_ => k_ 2 (Shape.inj lower_maker_parities.c100003x0 (qs, t2, r_.1, r_.2.1, r_.2.2.1, r_.2.2.2.1, r_.2.2.2.2.1, r_.2.2.2.2.2.1, r_.2.2.2.2.2.2, ())))
def lower_maker_parities (qs : List (Int)) (t2 : Int) (t10007001 : Int) (t10007002 : List (Int)) (t10007010 : Int) (t10007011 : Int) (t1000702 : List ((Int) × ((Int) × ((List Int) × ((Int) × ((Int) × (List Int))))))) : Option ((List ((Int) × ((Int) × ((List Int) × ((Int) × ((Int) × (List Int))))))) × (Int) × (Int) × (Int) × (List Int) × Unit) :=
  bnd (okIf (decide ((0 : Int) ≤ IntKind.wrap IntKind.i64 ((↑(List.length qs) : Int) - (1 : Int))))) fun y =>
  bnd (okIf (IntKind.wrap IntKind.i64 ((1 : Int) * (2 : Int) ^ Min.min (Int.toNat (IntKind.wrap IntKind.i64 ((↑(List.length qs) : Int) - (1 : Int)))) (64 : Nat)) != (0 : Int))) fun y_1 =>
  bnd (iter (fun s ↦ W.lower_maker_parities.c100003 (IntKind.wrap IntKind.i64 (Int.tdiv t2 (IntKind.wrap IntKind.i64 ((1 : Int) * (2 : Int) ^ Min.min (Int.toNat (IntKind.wrap IntKind.i64 ((↑(List.length qs) : Int) - (1 : Int)))) (64 : Nat))))) (Prod.fst s) (Prod.fst (Prod.snd s)) (Prod.fst (Prod.snd (Prod.snd s))) (Prod.fst (Prod.snd (Prod.snd (Prod.snd s)))) (Prod.fst (Prod.snd (Prod.snd (Prod.snd (Prod.snd s))))) (Prod.fst (Prod.snd (Prod.snd (Prod.snd (Prod.snd (Prod.snd s)))))) (Prod.snd (Prod.snd (Prod.snd (Prod.snd (Prod.snd (Prod.snd s)))))) some) (qs, (1 : Int), t10007001, t10007002, t10007010, t10007011, t1000702)) fun y_2 =>
  some (Prod.snd (Prod.snd (Prod.snd (Prod.snd (Prod.snd (Prod.snd y_2))))), Prod.fst (Prod.snd (Prod.snd (Prod.snd (Prod.snd y_2)))), Prod.fst (Prod.snd (Prod.snd (Prod.snd (Prod.snd (Prod.snd y_2))))), Prod.fst (Prod.snd (Prod.snd y_2)), Prod.fst (Prod.snd (Prod.snd (Prod.snd y_2))), ())
def lower_maker_parities.mc : MCallee := ⟨47, lower_maker_parities.pre, lower_maker_parities.post, fun x_ => lower_maker_parities x_.1 x_.2.1 x_.2.2.1 x_.2.2.2.1 x_.2.2.2.2.1 x_.2.2.2.2.2.1 x_.2.2.2.2.2.2.1⟩
def lower_maker_parities.G : Env := ⟨59, tab, [], [0, 1, 2, 3, 4, 6, 7, 8, 9, 10, 11, 22, 25, 26, 27, 28, 36, 46, 58], [3, 1003, 1000700, 1000701, 1000702, 7019006, 7019011, 7019041], [(3, [⟨[], [], [19, 20, 21], []⟩, ⟨[], [], [18], []⟩, ⟨[1], [], [18], []⟩, ⟨[2, 1], [], [18], []⟩, ⟨[0, 3, 2, 1], [], [], []⟩])], [(100003, lower_maker_parities.c100003r), (261445, lower_maker_parities.c261445r), (100007, lower_maker_parities.c100007r), (232778, lower_maker_parities.c232778r), (3, lower_maker_parities.c3r)], [(34, lower_maker_turn.mc), (55, lower_maker_parities_1.mc)], tab_eqs⟩
theorem lower_maker_parities.eq (x_ : densU lower_maker_parities.mc.pre.tys) : denM lower_maker_parities.G Go.Proofs.Try.f47 lower_maker_parities.mc.pre lower_maker_parities.mc.post x_ = lower_maker_parities.mc.F x_ := by kernel_rfl
theorem lower_maker_parities.p0 : PieceOk lower_maker_parities.G (pieceAt (pieces lower_maker_parities.G.cks (bodyOf Go.Proofs.Try.f47)) 0).1 (pieceAt (pieces lower_maker_parities.G.cks (bodyOf Go.Proofs.Try.f47)) 0).2 :=
  loop_ok (s := lower_maker_parities.c100003r) (by kernel_rfl) (by kernel_rfl) (loops_of (sh := lower_maker_parities.c100003s) (I := fun x_ s_ => (x_.1, x_.2.1, s_.1, s_.2.1, s_.2.2.1, s_.2.2.2.1, s_.2.2.2.2.1, s_.2.2.2.2.2.1, s_.2.2.2.2.2.2, ())) (fun x_ => rfl) (fun ρ x_ s_ k_ => (nat_bnd fun _ => (nat_br (nat_bnd fun _ => (nat_bnd fun _ => (nat_bnd fun _ => (nat_bnd fun _ => nat_leaf)))) nat_leaf))) (fun ρ x_ t k => (by kernel_rfl)) (fun x_ s => by kernel_rfl))
theorem lower_maker_parities.p1 : PieceOk lower_maker_parities.G (pieceAt (pieces lower_maker_parities.G.cks (bodyOf Go.Proofs.Try.f47)) 1).1 (pieceAt (pieces lower_maker_parities.G.cks (bodyOf Go.Proofs.Try.f47)) 1).2 :=
  region_ok (s := lower_maker_parities.c3r) (by kernel_rfl) (by kernel_rfl) (sums_of (sh := lower_maker_parities.c3s) (fun ρ x_ k_ => (nat_bnd fun _ => nat_leaf)) (fun ρ x_ t k => (by kernel_rfl)) (fun x_ => by kernel_rfl))
theorem lower_maker_parities.p2 : PieceOk lower_maker_parities.G (pieceAt (pieces lower_maker_parities.G.cks (bodyOf Go.Proofs.Try.f47)) 2).1 (pieceAt (pieces lower_maker_parities.G.cks (bodyOf Go.Proofs.Try.f47)) 2).2 :=
  loop_ok (s := lower_maker_parities.c100007r) (by kernel_rfl) (by kernel_rfl) (loops_of (sh := lower_maker_parities.c100007s) (I := fun x_ s_ => (x_.1, x_.2.1, s_.1, x_.2.2.2.1, x_.2.2.2.2.1, s_.2.1, x_.2.2.2.2.2.2.1, x_.2.2.2.2.2.2.2.1, s_.2.2, x_.2.2.2.2.2.2.2.2.2.1, x_.2.2.2.2.2.2.2.2.2.2.1, x_.2.2.2.2.2.2.2.2.2.2.2.1, x_.2.2.2.2.2.2.2.2.2.2.2.2.1, x_.2.2.2.2.2.2.2.2.2.2.2.2.2.1, ())) (fun x_ => rfl) (fun ρ x_ s_ k_ => (nat_br (nat_bnd fun _ => nat_leaf) nat_leaf)) (fun ρ x_ t k => (by kernel_rfl)) (fun x_ s => by kernel_rfl))
theorem lower_maker_parities.p3 : PieceOk lower_maker_parities.G (pieceAt (pieces lower_maker_parities.G.cks (bodyOf Go.Proofs.Try.f47)) 3).1 (pieceAt (pieces lower_maker_parities.G.cks (bodyOf Go.Proofs.Try.f47)) 3).2 :=
  join_ok (s := lower_maker_parities.c232778r) (by kernel_rfl) (by kernel_rfl) (sums_of (sh := lower_maker_parities.c232778s) (fun ρ x_ k_ => (nat_bnd fun _ => (nat_bnd fun _ => (nat_br nat_leaf nat_leaf)))) (fun ρ x_ t k => (by kernel_rfl)) (fun x_ => by kernel_rfl))
theorem lower_maker_parities.p4 : PieceOk lower_maker_parities.G (pieceAt (pieces lower_maker_parities.G.cks (bodyOf Go.Proofs.Try.f47)) 4).1 (pieceAt (pieces lower_maker_parities.G.cks (bodyOf Go.Proofs.Try.f47)) 4).2 :=
  join_ok (s := lower_maker_parities.c261445r) (by kernel_rfl) (by kernel_rfl) (sums_of (sh := lower_maker_parities.c261445s) (fun ρ x_ k_ => (nat_br (nat_bnd fun _ => nat_leaf) (nat_bnd fun _ => nat_leaf))) (fun ρ x_ t k => (by kernel_rfl)) (fun x_ => by kernel_rfl))
theorem lower_maker_parities.ok : MOk Go.Proofs.Try.prog 47 lower_maker_parities.mc := fnm_ok (G := lower_maker_parities.G) tab_ok mixed Go.Proofs.Try.func47 ⟨fns_nil, (mfns_cons lower_maker_turn.ok (mfns_cons lower_maker_parities_1.ok mfns_nil)), tab_eqs_ok⟩ (m := 5) (by kernel_rfl) ⟨⟨⟨⟨⟨trivial, lower_maker_parities.p0⟩, lower_maker_parities.p1⟩, lower_maker_parities.p2⟩, lower_maker_parities.p3⟩, lower_maker_parities.p4⟩ (by kernel_rfl) lower_maker_parities.eq
def lower_maker_h.pre : Shape := ⟨[(0, lb0), (1, lb1)], [(1000700, lb2), (1000701, lb3), (1000702, lb4)]⟩
def lower_maker_h.post : Shape := ⟨[], [(1000702, lb4), (1000701, lb3), (1000700, lb2)]⟩
def lower_maker_h (q : Int) (t10007001 : Int) (t10007002 : List (Int)) (t10007010 : Int) (t10007011 : Int) (t1000702 : List ((Int) × ((Int) × ((List Int) × ((Int) × ((Int) × (List Int))))))) : Option ((List ((Int) × ((Int) × ((List Int) × ((Int) × ((Int) × (List Int))))))) × (Int) × (Int) × (Int) × (List Int) × Unit) :=
  bnd (W.lower_maker_put ((3 : Int), (0 : Int), [], q, (0 : Int), []) t10007001 t10007002 t10007010 t10007011 t1000702) fun y =>
  some (Prod.fst y, Prod.fst y.2, Prod.fst y.2.2, Prod.fst y.2.2.2, Prod.fst y.2.2.2.2, ())
def lower_maker_h.mc : MCallee := ⟨35, lower_maker_h.pre, lower_maker_h.post, fun x_ => lower_maker_h x_.1 x_.2.1 x_.2.2.1 x_.2.2.2.1 x_.2.2.2.2.1 x_.2.2.2.2.2.1⟩
def lower_maker_h.G : Env := ⟨8, tab, [], [0, 1], [1000700, 1000701, 1000702], [], [], [(31, lower_maker_put.mc)], tab_eqs⟩
theorem lower_maker_h.eq (x_ : densU lower_maker_h.mc.pre.tys) : denM lower_maker_h.G Go.Proofs.Try.f35 lower_maker_h.mc.pre lower_maker_h.mc.post x_ = lower_maker_h.mc.F x_ := by kernel_rfl
theorem lower_maker_h.ok : MOk Go.Proofs.Try.prog 35 lower_maker_h.mc := fnm_ok (G := lower_maker_h.G) tab_ok mixed Go.Proofs.Try.func35 ⟨fns_nil, (mfns_cons lower_maker_put.ok mfns_nil), tab_eqs_ok⟩ (m := 0) (by kernel_rfl) trivial (by kernel_rfl) lower_maker_h.eq
abbrev lb22 : SO := .box [.ref 1000701 0]
abbrev lb23 : SO := .box [.ref 1000702 0, .val (.int .i64), .val (.sl (.int .i64))]
abbrev lb24 : SO := .box [.val (.int .i64), .val (.int .i64), .own 1000703 0]
def lower_maker_product_1.pre : Shape := ⟨[(0, lb0), (1, lb5), (2, lb6)], [(1000700, lb22), (1000701, lb23), (1000702, lb24), (1000703, lb4), (1000720, lb9), (1000740, lb8)]⟩
def lower_maker_product_1.post : Shape := ⟨[], [(1000740, lb8), (1000720, lb9), (1000703, lb4), (1000702, lb24), (1000701, lb23), (1000700, lb22)]⟩
def lower_maker_product_1.c1 {ρ : Type} (t10007011 : Int) (t10007012 : List (Int)) (t10007020 : Int) (t10007021 : Int) (t1000703 : List ((Int) × ((Int) × ((List Int) × ((Int) × ((Int) × (List Int))))))) (t10007200 : Int) (t10007400 : List (Int)) (k_ : (Int) × (List Int) × (Int) × (Int) × (List ((Int) × ((Int) × ((List Int) × ((Int) × ((Int) × (List Int))))))) → Option ρ) : Option ρ :=
  bnd (idx t10007400 (0 : Int)) fun y =>
  bnd (idx t10007400 (1 : Int)) fun y_1 =>
  bnd (W.lower_maker_parities [y, y_1, t10007200] (8 : Int) t10007011 t10007012 t10007020 t10007021 t1000703) fun y_2 =>
  k_ ((Prod.fst y_2.2.2.2), (Prod.fst y_2.2.2.2.2), (Prod.fst y_2.2), (Prod.fst y_2.2.2), (Prod.fst y_2))
def lower_maker_product_1.c1s : Shape := ⟨[(0, lb0), (1, lb5), (2, lb6)], [(1000700, lb22), (1000701, lb23), (1000702, lb24), (1000703, lb4), (1000720, lb9), (1000740, lb8)]⟩
def lower_maker_product_1.c1x0 : Shape := ⟨[(0, lb0), (1, lb5), (2, lb6)], [(1000700, lb22), (1000701, lb23), (1000702, lb24), (1000703, lb4), (1000720, lb9), (1000740, lb8)]⟩
def lower_maker_product_1.c1r : Ck := Ck.of (T := (Int) × (List Int) × (Int) × (Int) × (List ((Int) × ((Int) × ((List Int) × ((Int) × ((Int) × (List Int)))))))) lower_maker_product_1.c1s (fun ρ x_ k_ => uP x_ fun t10007011 x_ => uP x_ fun t10007012 x_ => uP x_ fun t10007020 x_ => uP x_ fun t10007021 x_ => uP x_ fun t1000703 x_ => uP x_ fun t10007200 x_ => uP x_ fun t10007400 x_ => lower_maker_product_1.c1 t10007011 t10007012 t10007020 t10007021 t1000703 t10007200 t10007400 k_) (fun ρ x_ r_ k_ => uP x_ fun t10007011 x_ => uP x_ fun t10007012 x_ => uP x_ fun t10007020 x_ => uP x_ fun t10007021 x_ => uP x_ fun t1000703 x_ => uP x_ fun t10007200 x_ => uP x_ fun t10007400 x_ => k_ 0 (Shape.inj lower_maker_product_1.c1x0 (r_.1, r_.2.1, r_.2.2.1, r_.2.2.2.1, r_.2.2.2.2, t10007200, t10007400, ())))
def lower_maker_product_1 (t10007011 : Int) (t10007012 : List (Int)) (t10007020 : Int) (t10007021 : Int) (t1000703 : List ((Int) × ((Int) × ((List Int) × ((Int) × ((Int) × (List Int))))))) (t10007200 : Int) (t10007400 : List (Int)) : Option ((List Int) × (Int) × (List ((Int) × ((Int) × ((List Int) × ((Int) × ((Int) × (List Int))))))) × (Int) × (Int) × (Int) × (List Int) × Unit) :=
  bnd (W.lower_maker_h t10007200 t10007011 t10007012 t10007020 t10007021 t1000703) fun y =>
  bnd (W.lower_maker_product_1.c1 (Prod.fst y.2.2.2) (Prod.fst y.2.2.2.2) (Prod.fst y.2) (Prod.fst y.2.2) (Prod.fst y) t10007200 t10007400 some) fun y_1 =>
  bnd (W.lower_maker_h t10007200 (Prod.fst y_1) (Prod.fst (Prod.snd y_1)) (Prod.fst (Prod.snd (Prod.snd y_1))) (Prod.fst (Prod.snd (Prod.snd (Prod.snd y_1)))) (Prod.snd (Prod.snd (Prod.snd (Prod.snd y_1))))) fun y_2 =>
  some (t10007400, t10007200, Prod.fst y_2, Prod.fst y_2.2, Prod.fst y_2.2.2, Prod.fst y_2.2.2.2, Prod.fst y_2.2.2.2.2, ())
def lower_maker_product_1.mc : MCallee := ⟨48, lower_maker_product_1.pre, lower_maker_product_1.post, fun x_ => lower_maker_product_1 x_.1 x_.2.1 x_.2.2.1 x_.2.2.2.1 x_.2.2.2.2.1 x_.2.2.2.2.2.1 x_.2.2.2.2.2.2.1⟩
def lower_maker_product_1.G : Env := ⟨19, tab, [], [0, 1, 2], [1000700, 1000701, 1000702, 1000703, 1000720, 1000740], [(1, [⟨[], [], [7, 8, 9, 10, 11, 12, 13, 14], [14]⟩, ⟨[], [], [6, 10, 11, 12, 13], []⟩, ⟨[1], [], [6, 10, 11, 12, 13], []⟩, ⟨[2, 1], [], [6, 10, 11, 12, 13], []⟩, ⟨[], [], [6, 7, 8, 9, 13], []⟩, ⟨[4], [], [6, 7, 8, 9, 13], []⟩, ⟨[5, 4], [], [6, 7, 8, 9, 13], []⟩, ⟨[], [], [6, 7, 8, 9, 10, 11, 12], []⟩, ⟨[3, 2, 1, 6, 5, 4, 7], [14], [6], []⟩, ⟨[0, 8, 3, 2, 1, 6, 5, 4, 7], [14, 1000703, 1000702, 1000701], [], []⟩])], [(1, lower_maker_product_1.c1r)], [(35, lower_maker_h.mc), (47, lower_maker_parities.mc)], tab_eqs⟩
theorem lower_maker_product_1.eq (x_ : densU lower_maker_product_1.mc.pre.tys) : denM lower_maker_product_1.G Go.Proofs.Try.f48 lower_maker_product_1.mc.pre lower_maker_product_1.mc.post x_ = lower_maker_product_1.mc.F x_ := by kernel_rfl
theorem lower_maker_product_1.p0 : PieceOk lower_maker_product_1.G (pieceAt (pieces lower_maker_product_1.G.cks (bodyOf Go.Proofs.Try.f48)) 0).1 (pieceAt (pieces lower_maker_product_1.G.cks (bodyOf Go.Proofs.Try.f48)) 0).2 :=
  region_ok (s := lower_maker_product_1.c1r) (by kernel_rfl) (by kernel_rfl) (sums_of (sh := lower_maker_product_1.c1s) (fun ρ x_ k_ => (nat_bnd fun _ => (nat_bnd fun _ => (nat_bnd fun _ => nat_leaf)))) (fun ρ x_ t k => (by kernel_rfl)) (fun x_ => by kernel_rfl))
theorem lower_maker_product_1.ok : MOk Go.Proofs.Try.prog 48 lower_maker_product_1.mc := fnm_ok (G := lower_maker_product_1.G) tab_ok mixed Go.Proofs.Try.func48 ⟨fns_nil, (mfns_cons lower_maker_h.ok (mfns_cons lower_maker_parities.ok mfns_nil)), tab_eqs_ok⟩ (m := 1) (by kernel_rfl) ⟨trivial, lower_maker_product_1.p0⟩ (by kernel_rfl) lower_maker_product_1.eq
abbrev lb25 : SD := .one (.ref 5 0)
abbrev lb26 : SD := .one (.ref 8 0)
abbrev lb27 : SD := .one (.clo 23)
abbrev lb28 : SO := .clo 48 [] [.ref 4 0, .ref 8 0, .ref 5 0]
def lower_maker_product_b.self.pre : Shape := ⟨[(0, lb0), (1, lb13), (2, lb1), (3, lb1)], [(1000700, lb2), (1000701, lb3), (1000702, lb4)]⟩
def lower_maker_product_b.self.post : Shape := ⟨[], [(1000702, lb4), (1000701, lb3), (1000700, lb2)]⟩
class lower_maker_product_b.Self where
  F : densU lower_maker_product_b.self.pre.tys → Option (densU lower_maker_product_b.self.post.tys)
  ok : MOk Go.Proofs.Try.prog 32 ⟨32, lower_maker_product_b.self.pre, lower_maker_product_b.self.post, F⟩
section
variable [lower_maker_product_b.Self]
def lower_maker_product_b.self (x_ : densU lower_maker_product_b.self.pre.tys) : Option (densU lower_maker_product_b.self.post.tys) := lower_maker_product_b.Self.F x_
def lower_maker_product_b.self.mc : MCallee := ⟨32, lower_maker_product_b.self.pre, lower_maker_product_b.self.post, fun x_ => lower_maker_product_b.self x_⟩
theorem lower_maker_product_b.self.ok : MOk Go.Proofs.Try.prog 32 lower_maker_product_b.self.mc := lower_maker_product_b.Self.ok
def lower_maker_product_b.pre : Shape := ⟨[(0, lb0), (1, lb13), (2, lb1), (3, lb1)], [(1000700, lb2), (1000701, lb3), (1000702, lb4)]⟩
def lower_maker_product_b.post : Shape := ⟨[], [(1000702, lb4), (1000701, lb3), (1000700, lb2)]⟩
def lower_maker_product_b.c6 {ρ : Type} (t2 : Int) (spare : Int) (qs0 : List (Int)) (s0 : Int) (t10007001 : Int) (t10007002 : List (Int)) (t10007010 : Int) (t10007011 : Int) (t1000702 : List ((Int) × ((Int) × ((List Int) × ((Int) × ((Int) × (List Int))))))) (k_ : (Int) × (List Int) × (Int) × (Int) × (List ((Int) × ((Int) × ((List Int) × ((Int) × ((Int) × (List Int))))))) → Option ρ) : Option ρ :=
  bnd (okIf (decide ((2 : Int) ≤ (↑(List.length qs0) : Int)) && decide ((↑(List.length qs0) : Int) ≤ (↑(List.length qs0) : Int)))) fun y =>
  bnd (okIf (decide (((1 : Nat) + List.length (List.drop (2 : Nat) (List.take (Int.toNat (↑(List.length qs0) : Int)) qs0))) * (8 : Nat) ≤ (140737488355328 : Nat)) && decide ((1 : Nat) + List.length (List.drop (2 : Nat) (List.take (Int.toNat (↑(List.length qs0) : Int)) qs0)) ≤ (140737488355328 : Nat)))) fun y_1 =>
  bnd (W.lower_maker_product_b.self ([s0] ++ List.drop (2 : Nat) (List.take (Int.toNat (↑(List.length qs0) : Int)) qs0), t2, IntKind.wrap IntKind.i64 (spare - (1 : Int)), t10007001, t10007002, t10007010, t10007011, t1000702, ())) fun y_2 =>
  k_ ((Prod.fst y_2.2.2.2), (Prod.fst y_2.2.2.2.2), (Prod.fst y_2.2), (Prod.fst y_2.2.2), (Prod.fst y_2))
def lower_maker_product_b.c6s : Shape := ⟨[(0, lb0), (1, lb13), (2, lb1), (3, lb1), (4, lb16), (5, lb25), (8, lb26), (9, lb27)], [(4, lb18), (5, lb8), (8, lb9), (23, lb28), (1000700, lb2), (1000701, lb3), (1000702, lb4)]⟩
def lower_maker_product_b.c6x0 : Shape := ⟨[(0, lb0), (1, lb13), (2, lb1), (3, lb1), (4, lb16), (5, lb25), (8, lb26), (9, lb27)], [(4, lb18), (5, lb8), (8, lb9), (23, lb28), (1000700, lb2), (1000701, lb3), (1000702, lb4)]⟩
def lower_maker_product_b.c6r : Ck := Ck.of (T := (Int) × (List Int) × (Int) × (Int) × (List ((Int) × ((Int) × ((List Int) × ((Int) × ((Int) × (List Int)))))))) lower_maker_product_b.c6s (fun ρ x_ k_ => uP x_ fun qs x_ => uP x_ fun t2 x_ => uP x_ fun spare x_ => uP x_ fun qs0 x_ => uP x_ fun s0 x_ => uP x_ fun t10007001 x_ => uP x_ fun t10007002 x_ => uP x_ fun t10007010 x_ => uP x_ fun t10007011 x_ => uP x_ fun t1000702 x_ => lower_maker_product_b.c6 t2 spare qs0 s0 t10007001 t10007002 t10007010 t10007011 t1000702 k_) (fun ρ x_ r_ k_ => uP x_ fun qs x_ => uP x_ fun t2 x_ => uP x_ fun spare x_ => uP x_ fun qs0 x_ => uP x_ fun s0 x_ => uP x_ fun t10007001 x_ => uP x_ fun t10007002 x_ => uP x_ fun t10007010 x_ => uP x_ fun t10007011 x_ => uP x_ fun t1000702 x_ => k_ 0 (Shape.inj lower_maker_product_b.c6x0 (qs, t2, spare, qs0, s0, r_.1, r_.2.1, r_.2.2.1, r_.2.2.2.1, r_.2.2.2.2, ())))
def lower_maker_product_b (qs : List (Int)) (t2 : Int) (spare : Int) (t10007001 : Int) (t10007002 : List (Int)) (t10007010 : Int) (t10007011 : Int) (t1000702 : List ((Int) × ((Int) × ((List Int) × ((Int) × ((Int) × (List Int))))))) : Option ((List ((Int) × ((Int) × ((List Int) × ((Int) × ((Int) × (List Int))))))) × (Int) × (Int) × (Int) × (List Int) × Unit) :=
  br (spare == (0 : Int))
   (bnd (W.lower_maker_parities qs t2 t10007001 t10007002 t10007010 t10007011 t1000702) fun y =>
    some (Prod.fst y, Prod.fst y.2, Prod.fst y.2.2, Prod.fst y.2.2.2, Prod.fst y.2.2.2.2, ()))
   (bnd (W.lower_maker_product_1 t10007001 t10007002 t10007010 t10007011 t1000702 (IntKind.wrap IntKind.i64 (IntKind.wrap IntKind.i64 (t10007001 + spare) - (1 : Int))) qs) fun y_1 =>
    bnd (W.lower_maker_product_b.c6 t2 spare (Prod.fst y_1) (Prod.fst y_1.2) (Prod.fst y_1.2.2.2.2.2) (Prod.fst y_1.2.2.2.2.2.2) (Prod.fst y_1.2.2.2) (Prod.fst y_1.2.2.2.2) (Prod.fst y_1.2.2) some) fun y_2 =>
    bnd (W.lower_maker_product_1 (Prod.fst y_2) (Prod.fst (Prod.snd y_2)) (Prod.fst (Prod.snd (Prod.snd y_2))) (Prod.fst (Prod.snd (Prod.snd (Prod.snd y_2)))) (Prod.snd (Prod.snd (Prod.snd (Prod.snd y_2)))) (Prod.fst y_1.2) (Prod.fst y_1)) fun y_3 =>
    some (Prod.fst y_3.2.2, Prod.fst y_3.2.2.2, Prod.fst y_3.2.2.2.2, Prod.fst y_3.2.2.2.2.2, Prod.fst y_3.2.2.2.2.2.2, ()))
def lower_maker_product_b.mc : MCallee := ⟨32, lower_maker_product_b.pre, lower_maker_product_b.post, fun x_ => lower_maker_product_b x_.1 x_.2.1 x_.2.2.1 x_.2.2.2.1 x_.2.2.2.2.1 x_.2.2.2.2.2.1 x_.2.2.2.2.2.2.1 x_.2.2.2.2.2.2.2.1⟩
def lower_maker_product_b.G : Env := ⟨38, tab, [], [0, 1, 2, 3, 4, 5, 8, 9, 11], [4, 28, 1004, 1000700, 1000701, 1000702], [(6, [⟨[], [], [27, 28, 29, 30, 31, 32, 33, 34], [28]⟩, ⟨[], [], [26, 29, 30, 32, 33, 34], []⟩, ⟨[1], [28], [26, 29, 30, 32, 33, 34], []⟩, ⟨[], [], [26, 27, 28, 32, 33, 34], [28]⟩, ⟨[3], [], [26, 27, 28, 32, 33, 34], [28]⟩, ⟨[2, 1, 4, 3], [28], [26, 32, 33, 34], []⟩, ⟨[], [], [26, 27, 28, 29, 30, 31, 33, 34], [28]⟩, ⟨[], [], [26, 27, 28, 29, 30, 31, 32], [28]⟩, ⟨[7], [], [26, 27, 28, 29, 30, 31, 32], [28]⟩, ⟨[0, 5, 2, 1, 4, 3, 6, 8, 7], [28, 1000702, 1000701, 1000700], [], []⟩])], [(6, lower_maker_product_b.c6r)], [(47, lower_maker_parities.mc), (32, lower_maker_product_b.self.mc), (48, lower_maker_product_1.mc)], tab_eqs⟩
theorem lower_maker_product_b.eq (x_ : densU lower_maker_product_b.mc.pre.tys) : denM lower_maker_product_b.G Go.Proofs.Try.f32 lower_maker_product_b.mc.pre lower_maker_product_b.mc.post x_ = lower_maker_product_b.mc.F x_ := by kernel_rfl
theorem lower_maker_product_b.p0 : PieceOk lower_maker_product_b.G (pieceAt (pieces lower_maker_product_b.G.cks (bodyOf Go.Proofs.Try.f32)) 0).1 (pieceAt (pieces lower_maker_product_b.G.cks (bodyOf Go.Proofs.Try.f32)) 0).2 :=
  region_ok (s := lower_maker_product_b.c6r) (by kernel_rfl) (by kernel_rfl) (sums_of (sh := lower_maker_product_b.c6s) (fun ρ x_ k_ => (nat_bnd fun _ => (nat_bnd fun _ => (nat_bnd fun _ => nat_leaf)))) (fun ρ x_ t k => (by kernel_rfl)) (fun x_ => by kernel_rfl))
theorem lower_maker_product_b.ok : MOk Go.Proofs.Try.prog 32 lower_maker_product_b.mc := fnm_ok (G := lower_maker_product_b.G) tab_ok mixed Go.Proofs.Try.func32 ⟨fns_nil, (mfns_cons lower_maker_parities.ok (mfns_cons lower_maker_product_b.self.ok (mfns_cons lower_maker_product_1.ok mfns_nil))), tab_eqs_ok⟩ (m := 1) (by kernel_rfl) ⟨trivial, lower_maker_product_b.p0⟩ (by kernel_rfl) lower_maker_product_b.eq
end
@[reducible] def lower_maker_product_b.fuel : Nat → lower_maker_product_b.Self
  | 0 => ⟨fun _ => none, ⟨⟨Go.Proofs.Try.f32, Go.Proofs.Try.func32, by kernel_rfl, by kernel_rfl⟩, fun _ _ _ _ _ _ _ hy => by cases hy⟩⟩
  | n + 1 => ⟨fun x_ => (@lower_maker_product_b.mc (lower_maker_product_b.fuel n)).F x_, @lower_maker_product_b.ok (lower_maker_product_b.fuel n)⟩
def lower_maker_product (x_ : densU lower_maker_product_b.self.pre.tys) : Option (densU lower_maker_product_b.self.post.tys) := (lower_maker_product_b.fuel 16).F x_
def lower_maker_product.mc : MCallee := ⟨32, lower_maker_product_b.self.pre, lower_maker_product_b.self.post, fun x_ => lower_maker_product x_⟩
theorem lower_maker_product.ok : MOk Go.Proofs.Try.prog 32 lower_maker_product.mc := (lower_maker_product_b.fuel 16).ok
abbrev lb29 : SD := .one (.val (.st (.pair (.int .i64) (.pair (.int .i64) (.pair (.sl (.int .i64)) (.pair (.int .i64) (.pair (.int .i64) (.sl (.int .i64)))))))))
abbrev lb30 : SO := .box [.val (.int .i64), .val (.int .i64), .val (.sl (.int .i64)), .val (.int .i64), .val (.int .i64), .val (.sl (.int .i64))]
def lower_maker_flip.pre : Shape := ⟨[(0, lb0), (1, lb29), (2, lb1)], [(1000700, lb2), (1000701, lb3), (1000702, lb4)]⟩
def lower_maker_flip.post : Shape := ⟨[], [(1000702, lb4), (1000701, lb3), (1000700, lb2)]⟩
def lower_maker_flip.c2 {ρ : Type} (o2 : List (Int)) (o3 : Int) (t10007001 : Int) (t10007002 : List (Int)) (t10007010 : Int) (t10007011 : Int) (t1000702 : List ((Int) × ((Int) × ((List Int) × ((Int) × ((Int) × (List Int))))))) (k_ : (Int) × (List Int) × (Int) × (Int) × (List ((Int) × ((Int) × ((List Int) × ((Int) × ((Int) × (List Int))))))) → Option ρ) : Option ρ :=
  bnd (idx o2 (0 : Int)) fun y =>
  bnd (W.lower_maker_cx y o3 t10007001 t10007002 t10007010 t10007011 t1000702) fun y_1 =>
  k_ ((Prod.fst y_1.2.2.2), (Prod.fst y_1.2.2.2.2), (Prod.fst y_1.2), (Prod.fst y_1.2.2), (Prod.fst y_1))
def lower_maker_flip.c2s : Shape := ⟨[(0, lb0), (1, lb29), (2, lb1), (4, lb16)], [(4, lb30), (1000700, lb2), (1000701, lb3), (1000702, lb4)]⟩
def lower_maker_flip.c2x0 : Shape := ⟨[(0, lb0), (1, lb29), (2, lb1), (4, lb16)], [(4, lb30), (1000700, lb2), (1000701, lb3), (1000702, lb4)]⟩
def lower_maker_flip.c2r : Ck := Ck.of (T := (Int) × (List Int) × (Int) × (Int) × (List ((Int) × ((Int) × ((List Int) × ((Int) × ((Int) × (List Int)))))))) lower_maker_flip.c2s (fun ρ x_ k_ => uP x_ fun o x_ => uP x_ fun n x_ => uP x_ fun o0 x_ => uP x_ fun o1 x_ => uP x_ fun o2 x_ => uP x_ fun o3 x_ => uP x_ fun o4 x_ => uP x_ fun o5 x_ => uP x_ fun t10007001 x_ => uP x_ fun t10007002 x_ => uP x_ fun t10007010 x_ => uP x_ fun t10007011 x_ => uP x_ fun t1000702 x_ => lower_maker_flip.c2 o2 o3 t10007001 t10007002 t10007010 t10007011 t1000702 k_) (fun ρ x_ r_ k_ => uP x_ fun o x_ => uP x_ fun n x_ => uP x_ fun o0 x_ => uP x_ fun o1 x_ => uP x_ fun o2 x_ => uP x_ fun o3 x_ => uP x_ fun o4 x_ => uP x_ fun o5 x_ => uP x_ fun t10007001 x_ => uP x_ fun t10007002 x_ => uP x_ fun t10007010 x_ => uP x_ fun t10007011 x_ => uP x_ fun t1000702 x_ => k_ 0 (Shape.inj lower_maker_flip.c2x0 (o, n, o0, o1, o2, o3, o4, o5, r_.1, r_.2.1, r_.2.2.1, r_.2.2.2.1, r_.2.2.2.2, ())))
def lower_maker_flip.c4 {ρ : Type} (n : Int) (o2 : List (Int)) (o3 : Int) (t10007001 : Int) (t10007002 : List (Int)) (t10007010 : Int) (t10007011 : Int) (t1000702 : List ((Int) × ((Int) × ((List Int) × ((Int) × ((Int) × (List Int))))))) (k_ : (Int) × (List Int) × (Int) × (Int) × (List ((Int) × ((Int) × ((List Int) × ((Int) × ((Int) × (List Int))))))) → Option ρ) : Option ρ :=
  bnd (okIf (decide (((0 : Nat) + List.length o2) * (8 : Nat) ≤ (140737488355328 : Nat)) && decide ((0 : Nat) + List.length o2 ≤ (140737488355328 : Nat)))) fun y =>
  bnd (okIf (decide ((List.length o2 + (1 : Nat)) * (8 : Nat) ≤ (140737488355328 : Nat)) && decide (List.length o2 + (1 : Nat) ≤ (140737488355328 : Nat)))) fun y_1 =>
  bnd (W.lower_maker_product (o2 ++ [o3], (8 : Int), n, t10007001, t10007002, t10007010, t10007011, t1000702, ())) fun y_2 =>
  k_ ((Prod.fst y_2.2.2.2), (Prod.fst y_2.2.2.2.2), (Prod.fst y_2.2), (Prod.fst y_2.2.2), (Prod.fst y_2))
def lower_maker_flip.c4s : Shape := ⟨[(0, lb0), (1, lb29), (2, lb1), (4, lb16)], [(4, lb30), (1000700, lb2), (1000701, lb3), (1000702, lb4)]⟩
def lower_maker_flip.c4x0 : Shape := ⟨[(0, lb0), (1, lb29), (2, lb1), (4, lb16)], [(4, lb30), (1000700, lb2), (1000701, lb3), (1000702, lb4)]⟩
def lower_maker_flip.c4r : Ck := Ck.of (T := (Int) × (List Int) × (Int) × (Int) × (List ((Int) × ((Int) × ((List Int) × ((Int) × ((Int) × (List Int)))))))) lower_maker_flip.c4s (fun ρ x_ k_ => uP x_ fun o x_ => uP x_ fun n x_ => uP x_ fun o0 x_ => uP x_ fun o1 x_ => uP x_ fun o2 x_ => uP x_ fun o3 x_ => uP x_ fun o4 x_ => uP x_ fun o5 x_ => uP x_ fun t10007001 x_ => uP x_ fun t10007002 x_ => uP x_ fun t10007010 x_ => uP x_ fun t10007011 x_ => uP x_ fun t1000702 x_ => lower_maker_flip.c4 n o2 o3 t10007001 t10007002 t10007010 t10007011 t1000702 k_) (fun ρ x_ r_ k_ => uP x_ fun o x_ => uP x_ fun n x_ => uP x_ fun o0 x_ => uP x_ fun o1 x_ => uP x_ fun o2 x_ => uP x_ fun o3 x_ => uP x_ fun o4 x_ => uP x_ fun o5 x_ => uP x_ fun t10007001 x_ => uP x_ fun t10007002 x_ => uP x_ fun t10007010 x_ => uP x_ fun t10007011 x_ => uP x_ fun t1000702 x_ => k_ 0 (Shape.inj lower_maker_flip.c4x0 (o, n, o0, o1, o2, o3, o4, o5, r_.1, r_.2.1, r_.2.2.1, r_.2.2.2.1, r_.2.2.2.2, ())))
def lower_maker_flip (o : (Int) × ((Int) × ((List Int) × ((Int) × ((Int) × (List Int)))))) (n : Int) (t10007001 : Int) (t10007002 : List (Int)) (t10007010 : Int) (t10007011 : Int) (t1000702 : List ((Int) × ((Int) × ((List Int) × ((Int) × ((Int) × (List Int))))))) : Option ((List ((Int) × ((Int) × ((List Int) × ((Int) × ((Int) × (List Int))))))) × (Int) × (Int) × (Int) × (List Int) × Unit) :=
  br ((↑(List.length (Prod.fst (Prod.snd (Prod.snd o)))) : Int) == (1 : Int))
   (bnd (W.lower_maker_flip.c2 (Prod.fst (Prod.snd (Prod.snd o))) (Prod.fst (Prod.snd (Prod.snd (Prod.snd o)))) t10007001 t10007002 t10007010 t10007011 t1000702 some) fun y =>
    some (Prod.snd (Prod.snd (Prod.snd (Prod.snd y))), Prod.fst (Prod.snd (Prod.snd y)), Prod.fst (Prod.snd (Prod.snd (Prod.snd y))), Prod.fst y, Prod.fst (Prod.snd y), ()))
   (bnd (W.lower_maker_h (Prod.fst (Prod.snd (Prod.snd (Prod.snd o)))) t10007001 t10007002 t10007010 t10007011 t1000702) fun y_1 =>
    bnd (W.lower_maker_flip.c4 n (Prod.fst (Prod.snd (Prod.snd o))) (Prod.fst (Prod.snd (Prod.snd (Prod.snd o)))) (Prod.fst y_1.2.2.2) (Prod.fst y_1.2.2.2.2) (Prod.fst y_1.2) (Prod.fst y_1.2.2) (Prod.fst y_1) some) fun y_2 =>
    bnd (W.lower_maker_h (Prod.fst (Prod.snd (Prod.snd (Prod.snd o)))) (Prod.fst y_2) (Prod.fst (Prod.snd y_2)) (Prod.fst (Prod.snd (Prod.snd y_2))) (Prod.fst (Prod.snd (Prod.snd (Prod.snd y_2)))) (Prod.snd (Prod.snd (Prod.snd (Prod.snd y_2))))) fun y_3 =>
    some (Prod.fst y_3, Prod.fst y_3.2, Prod.fst y_3.2.2, Prod.fst y_3.2.2.2, Prod.fst y_3.2.2.2.2, ()))
def lower_maker_flip.mc : MCallee := ⟨33, lower_maker_flip.pre, lower_maker_flip.post, fun x_ => lower_maker_flip x_.1 x_.2.1 x_.2.2.1 x_.2.2.2.1 x_.2.2.2.2.1 x_.2.2.2.2.2.1 x_.2.2.2.2.2.2.1⟩
def lower_maker_flip.G : Env := ⟨36, tab, [], [0, 1, 2, 4, 9], [25, 1000700, 1000701, 1000702], [(4, [⟨[], [], [23, 24, 25, 26, 27, 28, 29, 30], [25, 28]⟩, ⟨[], [], [22, 26, 27, 28, 30], [28]⟩, ⟨[1], [], [22, 26, 27, 28, 30], [28]⟩, ⟨[2, 1], [25], [22, 26, 27, 28, 30], [28]⟩, ⟨[], [], [22, 23, 24, 25, 30], [25]⟩, ⟨[4], [], [22, 23, 24, 25, 30], [25]⟩, ⟨[5, 4], [28], [22, 23, 24, 25, 30], [25]⟩, ⟨[3, 2, 1, 6, 5, 4], [25], [22, 30], []⟩, ⟨[], [], [22, 23, 24, 25, 26, 27, 28, 29], [25, 28]⟩, ⟨[0, 7, 3, 2, 1, 6, 5, 4, 8], [25, 1000702, 1000701, 1000700], [], []⟩]),
  (2, [⟨[], [], [11, 12, 13, 14, 15, 16], []⟩, ⟨[], [], [10, 15, 16], []⟩, ⟨[1], [], [10, 15, 16], []⟩, ⟨[2, 1], [], [10, 15, 16], []⟩, ⟨[3, 2, 1], [], [10, 15, 16], []⟩, ⟨[], [], [10, 11, 12, 13, 14], []⟩, ⟨[5], [], [10, 11, 12, 13, 14], []⟩, ⟨[0, 4, 3, 2, 1, 6, 5], [1000702, 1000701, 1000700], [], []⟩])], [(4, lower_maker_flip.c4r), (2, lower_maker_flip.c2r)], [(49, lower_maker_cx.mc), (35, lower_maker_h.mc), (32, lower_maker_product.mc)], tab_eqs⟩
theorem lower_maker_flip.eq (x_ : densU lower_maker_flip.mc.pre.tys) : denM lower_maker_flip.G Go.Proofs.Try.f33 lower_maker_flip.mc.pre lower_maker_flip.mc.post x_ = lower_maker_flip.mc.F x_ := by kernel_rfl
theorem lower_maker_flip.p0 : PieceOk lower_maker_flip.G (pieceAt (pieces lower_maker_flip.G.cks (bodyOf Go.Proofs.Try.f33)) 0).1 (pieceAt (pieces lower_maker_flip.G.cks (bodyOf Go.Proofs.Try.f33)) 0).2 :=
  region_ok (s := lower_maker_flip.c2r) (by kernel_rfl) (by kernel_rfl) (sums_of (sh := lower_maker_flip.c2s) (fun ρ x_ k_ => (nat_bnd fun _ => (nat_bnd fun _ => nat_leaf))) (fun ρ x_ t k => (by kernel_rfl)) (fun x_ => by kernel_rfl))
theorem lower_maker_flip.p1 : PieceOk lower_maker_flip.G (pieceAt (pieces lower_maker_flip.G.cks (bodyOf Go.Proofs.Try.f33)) 1).1 (pieceAt (pieces lower_maker_flip.G.cks (bodyOf Go.Proofs.Try.f33)) 1).2 :=
  region_ok (s := lower_maker_flip.c4r) (by kernel_rfl) (by kernel_rfl) (sums_of (sh := lower_maker_flip.c4s) (fun ρ x_ k_ => (nat_bnd fun _ => (nat_bnd fun _ => (nat_bnd fun _ => nat_leaf)))) (fun ρ x_ t k => (by kernel_rfl)) (fun x_ => by kernel_rfl))
theorem lower_maker_flip.ok : MOk Go.Proofs.Try.prog 33 lower_maker_flip.mc := fnm_ok (G := lower_maker_flip.G) tab_ok mixed Go.Proofs.Try.func33 ⟨fns_nil, (mfns_cons lower_maker_cx.ok (mfns_cons lower_maker_h.ok (mfns_cons lower_maker_product.ok mfns_nil))), tab_eqs_ok⟩ (m := 2) (by kernel_rfl) ⟨⟨trivial, lower_maker_flip.p0⟩, lower_maker_flip.p1⟩ (by kernel_rfl) lower_maker_flip.eq
def lower_maker_op.pre : Shape := ⟨[(0, lb0), (1, lb29)], [(1000700, lb2), (1000701, lb3), (1000702, lb4)]⟩
def lower_maker_op.post : Shape := ⟨[], [(1000702, lb4), (1000701, lb3), (1000700, lb2)]⟩
def lower_maker_op.c11 {ρ : Type} (o0 : Int) (o1 : Int) (k_ : Bool → Option ρ) : Option ρ :=
  br (o0 == (4 : Int))
   (k_ (o1 == (0 : Int)))
   (k_ false)
def lower_maker_op.c11s : Shape := ⟨[(0, lb0), (1, lb29), (3, lb15), (4, lb1)], [(3, lb30), (1000700, lb2), (1000701, lb3), (1000702, lb4)]⟩
def lower_maker_op.c11x0 : Shape := ⟨[(0, lb0), (1, lb29), (3, lb15), (4, lb1), (43, lb14)], [(3, lb30), (1000700, lb2), (1000701, lb3), (1000702, lb4)]⟩
def lower_maker_op.c11r : Ck := Ck.of (T := Bool) lower_maker_op.c11s (fun ρ x_ k_ => uP x_ fun o x_ => uP x_ fun n x_ => uP x_ fun o0 x_ => uP x_ fun o1 x_ => uP x_ fun o2 x_ => uP x_ fun o3 x_ => uP x_ fun o4 x_ => uP x_ fun o5 x_ => uP x_ fun t10007001 x_ => uP x_ fun t10007002 x_ => uP x_ fun t10007010 x_ => uP x_ fun t10007011 x_ => uP x_ fun t1000702 x_ => lower_maker_op.c11 o0 o1 k_) (fun ρ x_ r_ k_ => uP x_ fun o x_ => uP x_ fun n x_ => uP x_ fun o0 x_ => uP x_ fun o1 x_ => uP x_ fun o2 x_ => uP x_ fun o3 x_ => uP x_ fun o4 x_ => uP x_ fun o5 x_ => uP x_ fun t10007001 x_ => uP x_ fun t10007002 x_ => uP x_ fun t10007010 x_ => uP x_ fun t10007011 x_ => uP x_ fun t1000702 x_ => k_ 0 (Shape.inj lower_maker_op.c11x0 (o, n, r_, o0, o1, o2, o3, o4, o5, t10007001, t10007002, t10007010, t10007011, t1000702, ())))
def lower_maker_op.c13 {ρ : Type} (n : Int) (o1 : Int) (o2 : List (Int)) (o3 : Int) (t10007001 : Int) (t10007002 : List (Int)) (t10007010 : Int) (t10007011 : Int) (t1000702 : List ((Int) × ((Int) × ((List Int) × ((Int) × ((Int) × (List Int))))))) (k_ : (Int) × (List Int) × (Int) × (Int) × (List ((Int) × ((Int) × ((List Int) × ((Int) × ((Int) × (List Int))))))) → Option ρ) : Option ρ :=
  bnd (okIf (decide (((0 : Nat) + List.length o2) * (8 : Nat) ≤ (140737488355328 : Nat)) && decide ((0 : Nat) + List.length o2 ≤ (140737488355328 : Nat)))) fun y =>
  bnd (okIf (decide ((List.length o2 + (1 : Nat)) * (8 : Nat) ≤ (140737488355328 : Nat)) && decide (List.length o2 + (1 : Nat) ≤ (140737488355328 : Nat)))) fun y_1 =>
  bnd (W.lower_maker_product (o2 ++ [o3], o1, n, t10007001, t10007002, t10007010, t10007011, t1000702, ())) fun y_2 =>
  k_ ((Prod.fst y_2.2.2.2), (Prod.fst y_2.2.2.2.2), (Prod.fst y_2.2), (Prod.fst y_2.2.2), (Prod.fst y_2))
def lower_maker_op.c13s : Shape := ⟨[(0, lb0), (1, lb29), (3, lb15), (4, lb1)], [(3, lb30), (1000700, lb2), (1000701, lb3), (1000702, lb4)]⟩
def lower_maker_op.c13x0 : Shape := ⟨[(0, lb0), (1, lb29), (3, lb15), (4, lb1)], [(3, lb30), (1000700, lb2), (1000701, lb3), (1000702, lb4)]⟩
def lower_maker_op.c13r : Ck := Ck.of (T := (Int) × (List Int) × (Int) × (Int) × (List ((Int) × ((Int) × ((List Int) × ((Int) × ((Int) × (List Int)))))))) lower_maker_op.c13s (fun ρ x_ k_ => uP x_ fun o x_ => uP x_ fun n x_ => uP x_ fun o0 x_ => uP x_ fun o1 x_ => uP x_ fun o2 x_ => uP x_ fun o3 x_ => uP x_ fun o4 x_ => uP x_ fun o5 x_ => uP x_ fun t10007001 x_ => uP x_ fun t10007002 x_ => uP x_ fun t10007010 x_ => uP x_ fun t10007011 x_ => uP x_ fun t1000702 x_ => lower_maker_op.c13 n o1 o2 o3 t10007001 t10007002 t10007010 t10007011 t1000702 k_) (fun ρ x_ r_ k_ => uP x_ fun o x_ => uP x_ fun n x_ => uP x_ fun o0 x_ => uP x_ fun o1 x_ => uP x_ fun o2 x_ => uP x_ fun o3 x_ => uP x_ fun o4 x_ => uP x_ fun o5 x_ => uP x_ fun t10007001 x_ => uP x_ fun t10007002 x_ => uP x_ fun t10007010 x_ => uP x_ fun t10007011 x_ => uP x_ fun t1000702 x_ => k_ 0 (Shape.inj lower_maker_op.c13x0 (o, n, o0, o1, o2, o3, o4, o5, r_.1, r_.2.1, r_.2.2.1, r_.2.2.2.1, r_.2.2.2.2, ())))
def lower_maker_op (o : (Int) × ((Int) × ((List Int) × ((Int) × ((Int) × (List Int)))))) (t10007001 : Int) (t10007002 : List (Int)) (t10007010 : Int) (t10007011 : Int) (t1000702 : List ((Int) × ((Int) × ((List Int) × ((Int) × ((Int) × (List Int))))))) : Option ((List ((Int) × ((Int) × ((List Int) × ((Int) × ((Int) × (List Int))))))) × (Int) × (Int) × (Int) × (List Int) × Unit) :=
  bnd (W.lower_spares (Prod.fst o, Prod.fst (Prod.snd o), Prod.fst (Prod.snd (Prod.snd o)), Prod.fst (Prod.snd (Prod.snd (Prod.snd o))), Prod.fst (Prod.snd (Prod.snd (Prod.snd (Prod.snd o)))), Prod.snd (Prod.snd (Prod.snd (Prod.snd (Prod.snd o)))))) fun y =>
  br ((↑(List.length (Prod.fst (Prod.snd (Prod.snd o)))) : Int) == (0 : Int))
   (bnd (W.lower_maker_put (Prod.fst o, Prod.fst (Prod.snd o), Prod.fst (Prod.snd (Prod.snd o)), Prod.fst (Prod.snd (Prod.snd (Prod.snd o))), Prod.fst (Prod.snd (Prod.snd (Prod.snd (Prod.snd o)))), Prod.snd (Prod.snd (Prod.snd (Prod.snd (Prod.snd o))))) t10007001 t10007002 t10007010 t10007011 t1000702) fun y_1 =>
    some (Prod.fst y_1, Prod.fst y_1.2, Prod.fst y_1.2.2, Prod.fst y_1.2.2.2, Prod.fst y_1.2.2.2.2, ()))
   (bnd (W.lower_maker_op.c11 (Prod.fst o) (Prod.fst (Prod.snd o)) some) fun y_2 =>
    br y_2
     (some (t1000702, t10007010, t10007011, t10007001, t10007002, ()))
     (br (Prod.fst o == (4 : Int))
       (bnd (W.lower_maker_op.c13 y (Prod.fst (Prod.snd o)) (Prod.fst (Prod.snd (Prod.snd o))) (Prod.fst (Prod.snd (Prod.snd (Prod.snd o)))) t10007001 t10007002 t10007010 t10007011 t1000702 some) fun y_3 =>
        some (Prod.snd (Prod.snd (Prod.snd (Prod.snd y_3))), Prod.fst (Prod.snd (Prod.snd y_3)), Prod.fst (Prod.snd (Prod.snd (Prod.snd y_3))), Prod.fst y_3, Prod.fst (Prod.snd y_3), ()))
       (br (Prod.fst o == (2 : Int))
         (bnd (W.lower_maker_flip (Prod.fst o, Prod.fst (Prod.snd o), Prod.fst (Prod.snd (Prod.snd o)), Prod.fst (Prod.snd (Prod.snd (Prod.snd o))), Prod.fst (Prod.snd (Prod.snd (Prod.snd (Prod.snd o)))), Prod.snd (Prod.snd (Prod.snd (Prod.snd (Prod.snd o))))) y t10007001 t10007002 t10007010 t10007011 t1000702) fun y_4 =>
          some (Prod.fst y_4, Prod.fst y_4.2, Prod.fst y_4.2.2, Prod.fst y_4.2.2.2, Prod.fst y_4.2.2.2.2, ()))
         (bnd (W.lower_maker_turn (Prod.fst (Prod.snd (Prod.snd (Prod.snd o)))) (4 : Int) t10007001 t10007002 t10007010 t10007011 t1000702) fun y_5 =>
          bnd (W.lower_maker_h (Prod.fst (Prod.snd (Prod.snd (Prod.snd o)))) (Prod.fst y_5.2.2.2) (Prod.fst y_5.2.2.2.2) (Prod.fst y_5.2) (Prod.fst y_5.2.2) (Prod.fst y_5)) fun y_6 =>
          bnd (W.lower_maker_turn (Prod.fst (Prod.snd (Prod.snd (Prod.snd o)))) (2 : Int) (Prod.fst y_6.2.2.2) (Prod.fst y_6.2.2.2.2) (Prod.fst y_6.2) (Prod.fst y_6.2.2) (Prod.fst y_6)) fun y_7 =>
          bnd (W.lower_maker_flip (Prod.fst o, Prod.fst (Prod.snd o), Prod.fst (Prod.snd (Prod.snd o)), Prod.fst (Prod.snd (Prod.snd (Prod.snd o))), Prod.fst (Prod.snd (Prod.snd (Prod.snd (Prod.snd o)))), Prod.snd (Prod.snd (Prod.snd (Prod.snd (Prod.snd o))))) y (Prod.fst y_7.2.2.2) (Prod.fst y_7.2.2.2.2) (Prod.fst y_7.2) (Prod.fst y_7.2.2) (Prod.fst y_7)) fun y_8 =>
          bnd (W.lower_maker_turn (Prod.fst (Prod.snd (Prod.snd (Prod.snd o)))) (-2 : Int) (Prod.fst y_8.2.2.2) (Prod.fst y_8.2.2.2.2) (Prod.fst y_8.2) (Prod.fst y_8.2.2) (Prod.fst y_8)) fun y_9 =>
          bnd (W.lower_maker_h (Prod.fst (Prod.snd (Prod.snd (Prod.snd o)))) (Prod.fst y_9.2.2.2) (Prod.fst y_9.2.2.2.2) (Prod.fst y_9.2) (Prod.fst y_9.2.2) (Prod.fst y_9)) fun y_10 =>
          bnd (W.lower_maker_turn (Prod.fst (Prod.snd (Prod.snd (Prod.snd o)))) (-4 : Int) (Prod.fst y_10.2.2.2) (Prod.fst y_10.2.2.2.2) (Prod.fst y_10.2) (Prod.fst y_10.2.2) (Prod.fst y_10)) fun y_11 =>
          some (Prod.fst y_11, Prod.fst y_11.2, Prod.fst y_11.2.2, Prod.fst y_11.2.2.2, Prod.fst y_11.2.2.2.2, ())))))
def lower_maker_op.mc : MCallee := ⟨19, lower_maker_op.pre, lower_maker_op.post, fun x_ => lower_maker_op x_.1 x_.2.1 x_.2.2.1 x_.2.2.2.1 x_.2.2.2.2.1 x_.2.2.2.2.2.1⟩
def lower_maker_op.G : Env := ⟨76, tab, [(18, lower_spares.ce)], [0, 1, 3, 4, 35, 43, 52, 68], [59, 1000700, 1000701, 1000702], [(13, [⟨[], [], [57, 58, 59, 60, 61, 62, 63, 64, 65, 66], [59, 62]⟩, ⟨[], [], [56, 60, 61, 62, 64, 65, 66], [62]⟩, ⟨[1], [], [56, 60, 61, 62, 64, 65, 66], [62]⟩, ⟨[2, 1], [59], [56, 60, 61, 62, 64, 65, 66], [62]⟩, ⟨[], [], [56, 57, 58, 59, 64, 65, 66], [59]⟩, ⟨[4], [], [56, 57, 58, 59, 64, 65, 66], [59]⟩, ⟨[5, 4], [62], [56, 57, 58, 59, 64, 65, 66], [59]⟩, ⟨[3, 2, 1, 6, 5, 4], [59], [56, 64, 65, 66], []⟩, ⟨[], [], [56, 57, 58, 59, 60, 61, 62, 63, 66], [59, 62]⟩, ⟨[8], [], [56, 57, 58, 59, 60, 61, 62, 63, 66], [59, 62]⟩, ⟨[], [], [56, 57, 58, 59, 60, 61, 62, 63, 64, 65], [59, 62]⟩, ⟨[0, 7, 3, 2, 1, 6, 5, 4, 9, 8, 10], [59, 1000702, 1000701, 1000700], [], []⟩])], [(13, lower_maker_op.c13r), (11, lower_maker_op.c11r)], [(31, lower_maker_put.mc), (32, lower_maker_product.mc), (33, lower_maker_flip.mc), (34, lower_maker_turn.mc), (35, lower_maker_h.mc)], tab_eqs⟩
theorem lower_maker_op.eq (x_ : densU lower_maker_op.mc.pre.tys) : denM lower_maker_op.G Go.Proofs.Try.f19 lower_maker_op.mc.pre lower_maker_op.mc.post x_ = lower_maker_op.mc.F x_ := by kernel_rfl
theorem lower_maker_op.p0 : PieceOk lower_maker_op.G (pieceAt (pieces lower_maker_op.G.cks (bodyOf Go.Proofs.Try.f19)) 0).1 (pieceAt (pieces lower_maker_op.G.cks (bodyOf Go.Proofs.Try.f19)) 0).2 :=
  region_ok (s := lower_maker_op.c11r) (by kernel_rfl) (by kernel_rfl) (sums_of (sh := lower_maker_op.c11s) (fun ρ x_ k_ => (nat_br nat_leaf nat_leaf)) (fun ρ x_ t k => (by kernel_rfl)) (fun x_ => by kernel_rfl))
theorem lower_maker_op.p1 : PieceOk lower_maker_op.G (pieceAt (pieces lower_maker_op.G.cks (bodyOf Go.Proofs.Try.f19)) 1).1 (pieceAt (pieces lower_maker_op.G.cks (bodyOf Go.Proofs.Try.f19)) 1).2 :=
  region_ok (s := lower_maker_op.c13r) (by kernel_rfl) (by kernel_rfl) (sums_of (sh := lower_maker_op.c13s) (fun ρ x_ k_ => (nat_bnd fun _ => (nat_bnd fun _ => (nat_bnd fun _ => nat_leaf)))) (fun ρ x_ t k => (by kernel_rfl)) (fun x_ => by kernel_rfl))
theorem lower_maker_op.ok : MOk Go.Proofs.Try.prog 19 lower_maker_op.mc := fnm_ok (G := lower_maker_op.G) tab_ok mixed Go.Proofs.Try.func19 ⟨(fns_cons lower_spares.ok fns_nil), (mfns_cons lower_maker_put.ok (mfns_cons lower_maker_product.ok (mfns_cons lower_maker_flip.ok (mfns_cons lower_maker_turn.ok (mfns_cons lower_maker_h.ok mfns_nil))))), tab_eqs_ok⟩ (m := 2) (by kernel_rfl) ⟨⟨trivial, lower_maker_op.p0⟩, lower_maker_op.p1⟩ (by kernel_rfl) lower_maker_op.eq
abbrev lb31 : SD := .one (.val (.st (.pair (.int .i64) (.pair (.int .i64) (.sl (.st (.pair (.int .i64) (.pair (.int .i64) (.pair (.sl (.int .i64)) (.pair (.int .i64) (.pair (.int .i64) (.sl (.int .i64)))))))))))))
abbrev lb32 : SD := .one (.ref 1 0)
abbrev lb33 : SD := .one (.ref 2 0)
abbrev lb34 : SO := .box [.val (.int .i64), .val (.int .i64), .val (.sl (.st (.pair (.int .i64) (.pair (.int .i64) (.pair (.sl (.int .i64)) (.pair (.int .i64) (.pair (.int .i64) (.sl (.int .i64)))))))))]
abbrev lb35 : SO := .box [.val (.int .i64), .val (.int .i64)]
abbrev lb36 : SD := .one (.val (.sl (.st (.pair (.int .i64) (.pair (.int .i64) (.pair (.sl (.int .i64)) (.pair (.int .i64) (.pair (.int .i64) (.sl (.int .i64))))))))))
abbrev lb37 : SD := .one (.ref 9 0)
abbrev lb38 : SO := .box [.val (.int .i64), .val (.int .i64), .own 3009 0]
def lower_Base.c3 {ρ : Type}  (k_ : Unit → Option ρ) : Option ρ :=
  k_ ()
def lower_Base.c3s : Shape := ⟨[(0, lb31), (1, lb32), (2, lb33), (3, lb15), (4, lb16)], [(1, lb34), (2, lb34), (3, lb35), (4, lb35)]⟩
def lower_Base.c3x0 : Shape := ⟨[(0, lb31), (1, lb32), (2, lb33), (3, lb15), (4, lb16)], [(1, lb34), (2, lb34), (3, lb35), (4, lb35)]⟩
def lower_Base.c3r : Ck := Ck.of (T := Unit) lower_Base.c3s (fun ρ x_ k_ => uP x_ fun c x_ => uP x_ fun c0 x_ => uP x_ fun c1 x_ => uP x_ fun c2 x_ => uP x_ fun t20 x_ => uP x_ fun t21 x_ => uP x_ fun t22 x_ => uP x_ fun t30 x_ => uP x_ fun t31 x_ => uP x_ fun f0 x_ => uP x_ fun f1 x_ => lower_Base.c3  k_) (fun ρ x_ r_ k_ => uP x_ fun c x_ => uP x_ fun c0 x_ => uP x_ fun c1 x_ => uP x_ fun c2 x_ => uP x_ fun t20 x_ => uP x_ fun t21 x_ => uP x_ fun t22 x_ => uP x_ fun t30 x_ => uP x_ fun t31 x_ => uP x_ fun f0 x_ => uP x_ fun f1 x_ => k_ 0 (Shape.inj lower_Base.c3x0 (c, c0, c1, c2, (0 : Int), (0 : Int), [], f0, f1, f0, f1, ())))
def lower_Base.c232773 {ρ : Type} (size : Int) (o2 : List (Int)) (k_ : Int → Option ρ) : Option ρ :=
  br (decide ((↑(List.length o2) : Int) > (0 : Int)))
   (k_ (IntKind.wrap IntKind.i64 (size + (220 : Int))))
   (k_ size)
def lower_Base.c232773s : Shape := ⟨[(0, lb31), (1, lb32), (2, lb33), (3, lb15), (4, lb16), (5, lb1), (6, lb1), (8, lb26), (24, lb36), (25, lb1), (26, lb1)], [(1, lb34), (2, lb34), (3, lb35), (4, lb35), (8, lb30)]⟩
def lower_Base.c232773x0 : Shape := ⟨[(0, lb31), (1, lb32), (2, lb33), (3, lb15), (4, lb16), (5, lb1), (6, lb1), (8, lb26), (24, lb36), (25, lb1), (26, lb1)], [(1, lb34), (2, lb34), (3, lb35), (4, lb35), (8, lb30)]⟩
def lower_Base.c232773r : Ck := Ck.of (T := Int) lower_Base.c232773s (fun ρ x_ k_ => uP x_ fun c x_ => uP x_ fun size x_ => uP x_ fun a x_ => uP x_ fun t24 x_ => uP x_ fun t25 x_ => uP x_ fun t26 x_ => uP x_ fun c0 x_ => uP x_ fun c1 x_ => uP x_ fun c2 x_ => uP x_ fun t20 x_ => uP x_ fun t21 x_ => uP x_ fun t22 x_ => uP x_ fun t30 x_ => uP x_ fun t31 x_ => uP x_ fun f0 x_ => uP x_ fun f1 x_ => uP x_ fun o0 x_ => uP x_ fun o1 x_ => uP x_ fun o2 x_ => uP x_ fun o3 x_ => uP x_ fun o4 x_ => uP x_ fun o5 x_ => lower_Base.c232773 size o2 k_) (fun ρ x_ r_ k_ => uP x_ fun c x_ => uP x_ fun size x_ => uP x_ fun a x_ => uP x_ fun t24 x_ => uP x_ fun t25 x_ => uP x_ fun t26 x_ => uP x_ fun c0 x_ => uP x_ fun c1 x_ => uP x_ fun c2 x_ => uP x_ fun t20 x_ => uP x_ fun t21 x_ => uP x_ fun t22 x_ => uP x_ fun t30 x_ => uP x_ fun t31 x_ => uP x_ fun f0 x_ => uP x_ fun f1 x_ => uP x_ fun o0 x_ => uP x_ fun o1 x_ => uP x_ fun o2 x_ => uP x_ fun o3 x_ => uP x_ fun o4 x_ => uP x_ fun o5 x_ => k_ 0 (Shape.inj lower_Base.c232773x0 (c, r_, a, t24, t25, t26, c0, c1, c2, t20, t21, t22, t30, t31, f0, f1, o0, o1, o2, o3, o4, o5, ())))
def lower_Base.c100006 {ρ : Type} (size : Int) (a : Int) (t24 : List ((Int) × ((Int) × ((List Int) × ((Int) × ((Int) × (List Int))))))) (t25 : Int) (t26 : Int) (k_ : ((Int) × (Int) × (Int)) ⊕ ((Int) × (Int) × (Int)) → Option ρ) : Option ρ :=
  br (decide (t26 < t25))
   (bnd (idx t24 t26) fun y =>
    bnd (W.lower_Base.c232773 size (Prod.fst (Prod.snd (Prod.snd y))) some) fun y_1 =>
    bnd (W.lower_spares (Prod.fst y, Prod.fst (Prod.snd y), Prod.fst (Prod.snd (Prod.snd y)), Prod.fst (Prod.snd (Prod.snd (Prod.snd y))), Prod.fst (Prod.snd (Prod.snd (Prod.snd (Prod.snd y)))), Prod.snd (Prod.snd (Prod.snd (Prod.snd (Prod.snd y)))))) fun y_2 =>
    k_ (.inl (y_1, (Max.max a y_2), (IntKind.wrap IntKind.i64 (t26 + (1 : Int))))))
   (k_ (.inr (size, a, t26)))
def lower_Base.c100006s : Shape := ⟨[(0, lb31), (1, lb32), (2, lb33), (3, lb15), (4, lb16), (5, lb1), (6, lb1), (24, lb36), (25, lb1), (26, lb1)], [(1, lb34), (2, lb34), (3, lb35), (4, lb35)]⟩
def lower_Base.c100006x0 : Shape := ⟨[(0, lb31), (1, lb32), (2, lb33), (3, lb15), (4, lb16), (5, lb1), (6, lb1), (24, lb36), (25, lb1), (26, lb1)], [(1, lb34), (2, lb34), (3, lb35), (4, lb35)]⟩
def lower_Base.c100006r : Ck := Ck.ofLoop (S := (Int) × (Int) × (Int)) (T := (Int) × (Int) × (Int)) lower_Base.c100006s (fun x_ => uP x_ fun c x_ => uP x_ fun size x_ => uP x_ fun a x_ => uP x_ fun t24 x_ => uP x_ fun t25 x_ => uP x_ fun t26 x_ => uP x_ fun c0 x_ => uP x_ fun c1 x_ => uP x_ fun c2 x_ => uP x_ fun t20 x_ => uP x_ fun t21 x_ => uP x_ fun t22 x_ => uP x_ fun t30 x_ => uP x_ fun t31 x_ => uP x_ fun f0 x_ => uP x_ fun f1 x_ => (size, a, t26)) (fun ρ x_ s_ k_ => uP x_ fun c x_ => uP x_ fun size x_ => uP x_ fun a x_ => uP x_ fun t24 x_ => uP x_ fun t25 x_ => uP x_ fun t26 x_ => uP x_ fun c0 x_ => uP x_ fun c1 x_ => uP x_ fun c2 x_ => uP x_ fun t20 x_ => uP x_ fun t21 x_ => uP x_ fun t22 x_ => uP x_ fun t30 x_ => uP x_ fun t31 x_ => uP x_ fun f0 x_ => uP x_ fun f1 x_ => lower_Base.c100006 s_.1 s_.2.1 t24 t25 s_.2.2 k_) (fun ρ x_ r_ k_ => uP x_ fun c x_ => uP x_ fun size x_ => uP x_ fun a x_ => uP x_ fun t24 x_ => uP x_ fun t25 x_ => uP x_ fun t26 x_ => uP x_ fun c0 x_ => uP x_ fun c1 x_ => uP x_ fun c2 x_ => uP x_ fun t20 x_ => uP x_ fun t21 x_ => uP x_ fun t22 x_ => uP x_ fun t30 x_ => uP x_ fun t31 x_ => uP x_ fun f0 x_ => uP x_ fun f1 x_ => k_ 2 (Shape.inj lower_Base.c100006x0 (c, r_.1, r_.2.1, t24, t25, r_.2.2, c0, c1, c2, t20, t21, t22, t30, t31, f0, f1, ())))
def lower_Base.c100018 {ρ : Type} (t60 : List ((Int) × ((Int) × ((List Int) × ((Int) × ((Int) × (List Int))))))) (t61 : Int) (t62 : Int) (c0 : Int) (out0 : Int) (out1 : Int) (t3009 : List ((Int) × ((Int) × ((List Int) × ((Int) × ((Int) × (List Int))))))) (k_ : ((Int) × (Int) × (Int) × (List ((Int) × ((Int) × ((List Int) × ((Int) × ((Int) × (List Int)))))))) ⊕ ((Int) × (Int) × (Int) × (List ((Int) × ((Int) × ((List Int) × ((Int) × ((Int) × (List Int)))))))) → Option ρ) : Option ρ :=
  br (decide (t62 < t61))
   (bnd (idx t60 t62) fun y =>
    bnd (W.lower_maker_op (Prod.fst y, Prod.fst (Prod.snd y), Prod.fst (Prod.snd (Prod.snd y)), Prod.fst (Prod.snd (Prod.snd (Prod.snd y))), Prod.fst (Prod.snd (Prod.snd (Prod.snd (Prod.snd y)))), Prod.snd (Prod.snd (Prod.snd (Prod.snd (Prod.snd y))))) c0 (Prod.snd (Prod.snd (Prod.snd (Prod.snd (Prod.snd y))))) out0 out1 t3009) fun y_1 =>
    k_ (.inl ((IntKind.wrap IntKind.i64 (t62 + (1 : Int))), (Prod.fst y_1.2), (Prod.fst y_1.2.2), (Prod.fst y_1))))
   (k_ (.inr (t62, out0, out1, t3009)))
def lower_Base.c100018s : Shape := ⟨[(0, lb31), (1, lb32), (2, lb33), (3, lb15), (4, lb16), (5, lb1), (6, lb1), (9, lb37), (24, lb36), (25, lb1), (26, lb1), (60, lb36), (61, lb1), (62, lb1)], [(1, lb34), (2, lb34), (3, lb35), (4, lb35), (9, lb38), (3009, lb4)]⟩
def lower_Base.c100018x0 : Shape := ⟨[(0, lb31), (1, lb32), (2, lb33), (3, lb15), (4, lb16), (5, lb1), (6, lb1), (9, lb37), (24, lb36), (25, lb1), (26, lb1), (60, lb36), (61, lb1), (62, lb1)], [(1, lb34), (2, lb34), (3, lb35), (4, lb35), (9, lb38), (3009, lb4)]⟩
def lower_Base.c100018r : Ck := Ck.ofLoop (S := (Int) × (Int) × (Int) × (List ((Int) × ((Int) × ((List Int) × ((Int) × ((Int) × (List Int)))))))) (T := (Int) × (Int) × (Int) × (List ((Int) × ((Int) × ((List Int) × ((Int) × ((Int) × (List Int)))))))) lower_Base.c100018s (fun x_ => uP x_ fun c x_ => uP x_ fun size x_ => uP x_ fun a x_ => uP x_ fun t24 x_ => uP x_ fun t25 x_ => uP x_ fun t26 x_ => uP x_ fun t60 x_ => uP x_ fun t61 x_ => uP x_ fun t62 x_ => uP x_ fun c0 x_ => uP x_ fun c1 x_ => uP x_ fun c2 x_ => uP x_ fun t20 x_ => uP x_ fun t21 x_ => uP x_ fun t22 x_ => uP x_ fun t30 x_ => uP x_ fun t31 x_ => uP x_ fun f0 x_ => uP x_ fun f1 x_ => uP x_ fun out0 x_ => uP x_ fun out1 x_ => uP x_ fun t3009 x_ => (t62, out0, out1, t3009)) (fun ρ x_ s_ k_ => uP x_ fun c x_ => uP x_ fun size x_ => uP x_ fun a x_ => uP x_ fun t24 x_ => uP x_ fun t25 x_ => uP x_ fun t26 x_ => uP x_ fun t60 x_ => uP x_ fun t61 x_ => uP x_ fun t62 x_ => uP x_ fun c0 x_ => uP x_ fun c1 x_ => uP x_ fun c2 x_ => uP x_ fun t20 x_ => uP x_ fun t21 x_ => uP x_ fun t22 x_ => uP x_ fun t30 x_ => uP x_ fun t31 x_ => uP x_ fun f0 x_ => uP x_ fun f1 x_ => uP x_ fun out0 x_ => uP x_ fun out1 x_ => uP x_ fun t3009 x_ => lower_Base.c100018 t60 t61 s_.1 c0 s_.2.1 s_.2.2.1 s_.2.2.2 k_) (fun ρ x_ r_ k_ => uP x_ fun c x_ => uP x_ fun size x_ => uP x_ fun a x_ => uP x_ fun t24 x_ => uP x_ fun t25 x_ => uP x_ fun t26 x_ => uP x_ fun t60 x_ => uP x_ fun t61 x_ => uP x_ fun t62 x_ => uP x_ fun c0 x_ => uP x_ fun c1 x_ => uP x_ fun c2 x_ => uP x_ fun t20 x_ => uP x_ fun t21 x_ => uP x_ fun t22 x_ => uP x_ fun t30 x_ => uP x_ fun t31 x_ => uP x_ fun f0 x_ => uP x_ fun f1 x_ => uP x_ fun out0 x_ => uP x_ fun out1 x_ => uP x_ fun t3009 x_ => k_ 4 (Shape.inj lower_Base.c100018x0 (c, size, a, t24, t25, t26, t60, t61, r_.1, c0, c1, c2, t20, t21, t22, t30, t31, f0, f1, r_.2.1, r_.2.2.1, r_.2.2.2, ())))
def lower_Base (c : (Int) × ((Int) × (List ((Int) × ((Int) × ((List Int) × ((Int) × ((Int) × (List Int))))))))) : Option (((Int) × ((Int) × (List ((Int) × ((Int) × ((List Int) × ((Int) × ((Int) × (List Int))))))))) × ((Int) × (Int))) :=
  bnd (W.circ_Check (Prod.fst c, Prod.fst (Prod.snd c), Prod.snd (Prod.snd c))) fun y =>
  br (Prod.fst y != (0 : Int))
   (bnd (W.lower_Base.c3 some) fun y_1 =>
    some (((0 : Int), (0 : Int), []), Prod.fst y, Prod.snd y))
   (bnd (iter (fun s ↦ W.lower_Base.c100006 (Prod.fst s) (Prod.fst (Prod.snd s)) (Prod.snd (Prod.snd c)) (↑(List.length (Prod.snd (Prod.snd c))) : Int) (Prod.snd (Prod.snd s)) some) ((↑(List.length (Prod.snd (Prod.snd c))) : Int), (0 : Int), (0 : Int))) fun y_2 =>
    br (decide (Prod.fst y_2 > (4096 : Int)))
     (some (((0 : Int), (0 : Int), []), (21 : Int), (0 : Int)))
     (br (decide (IntKind.wrap IntKind.i64 (Prod.fst c + Prod.fst (Prod.snd y_2)) > (12 : Int)))
       (some (((0 : Int), (0 : Int), []), (36 : Int), (0 : Int)))
       (bnd (iter (fun s ↦ W.lower_Base.c100018 (Prod.snd (Prod.snd c)) (↑(List.length (Prod.snd (Prod.snd c))) : Int) (Prod.fst s) (Prod.fst c) (Prod.fst (Prod.snd s)) (Prod.fst (Prod.snd (Prod.snd s))) (Prod.snd (Prod.snd (Prod.snd s))) some) ((0 : Int), IntKind.wrap IntKind.i64 (Prod.fst c + Prod.fst (Prod.snd y_2)), Prod.fst (Prod.snd c), [])) fun y_3 =>
        some ((Prod.fst (Prod.snd y_3), Prod.fst (Prod.snd (Prod.snd y_3)), Prod.snd (Prod.snd (Prod.snd y_3))), (0 : Int), (0 : Int)))))
def lower_Base.ce : Go.Ql.Callee := ⟨[(.st (.pair (.int .i64) (.pair (.int .i64) (.sl (.st (.pair (.int .i64) (.pair (.int .i64) (.pair (.sl (.int .i64)) (.pair (.int .i64) (.pair (.int .i64) (.sl (.int .i64))))))))))))], [(.st (.pair (.int .i64) (.pair (.int .i64) (.sl (.st (.pair (.int .i64) (.pair (.int .i64) (.pair (.sl (.int .i64)) (.pair (.int .i64) (.pair (.int .i64) (.sl (.int .i64)))))))))))), (.st (.pair (.int .i64) (.int .i64)))], fun x_ => lower_Base x_⟩
def lower_Base.G : Env := ⟨78, tab, [(17, circ_Check.ce), (18, lower_spares.ce)], [0, 1, 2, 3, 4, 5, 6, 8, 9, 11, 12, 17, 24, 25, 26, 27, 33, 42, 49, 60, 61, 62, 63], [9, 12, 58, 71, 2009, 3009], [(3, [⟨[], [], [19], []⟩, ⟨[], [], [18], [2]⟩, ⟨[0], [2], [19], []⟩, ⟨[1, 2, 0], [3], [], []⟩])], [(100018, lower_Base.c100018r), (100006, lower_Base.c100006r), (232773, lower_Base.c232773r), (3, lower_Base.c3r)], [(19, lower_maker_op.mc)], tab_eqs⟩
theorem lower_Base.eq (x_ : dens [(.st (.pair (.int .i64) (.pair (.int .i64) (.sl (.st (.pair (.int .i64) (.pair (.int .i64) (.pair (.sl (.int .i64)) (.pair (.int .i64) (.pair (.int .i64) (.sl (.int .i64))))))))))))]) : den lower_Base.G Go.Proofs.Try.f6 [(.st (.pair (.int .i64) (.pair (.int .i64) (.sl (.st (.pair (.int .i64) (.pair (.int .i64) (.pair (.sl (.int .i64)) (.pair (.int .i64) (.pair (.int .i64) (.sl (.int .i64))))))))))))] [(.st (.pair (.int .i64) (.pair (.int .i64) (.sl (.st (.pair (.int .i64) (.pair (.int .i64) (.pair (.sl (.int .i64)) (.pair (.int .i64) (.pair (.int .i64) (.sl (.int .i64)))))))))))), (.st (.pair (.int .i64) (.int .i64)))] x_ = lower_Base x_ := by kernel_rfl
theorem lower_Base.p0 : PieceOk lower_Base.G (pieceAt (pieces lower_Base.G.cks (bodyOf Go.Proofs.Try.f6)) 0).1 (pieceAt (pieces lower_Base.G.cks (bodyOf Go.Proofs.Try.f6)) 0).2 :=
  region_ok (s := lower_Base.c3r) (by kernel_rfl) (by kernel_rfl) (sums_of (sh := lower_Base.c3s) (fun ρ x_ k_ => nat_leaf) (fun ρ x_ t k => (by kernel_rfl)) (fun x_ => by kernel_rfl))
theorem lower_Base.p1 : PieceOk lower_Base.G (pieceAt (pieces lower_Base.G.cks (bodyOf Go.Proofs.Try.f6)) 1).1 (pieceAt (pieces lower_Base.G.cks (bodyOf Go.Proofs.Try.f6)) 1).2 :=
  loop_ok (s := lower_Base.c100006r) (by kernel_rfl) (by kernel_rfl) (loops_of (sh := lower_Base.c100006s) (I := fun x_ s_ => (x_.1, s_.1, s_.2.1, x_.2.2.2.1, x_.2.2.2.2.1, s_.2.2, x_.2.2.2.2.2.2.1, x_.2.2.2.2.2.2.2.1, x_.2.2.2.2.2.2.2.2.1, x_.2.2.2.2.2.2.2.2.2.1, x_.2.2.2.2.2.2.2.2.2.2.1, x_.2.2.2.2.2.2.2.2.2.2.2.1, x_.2.2.2.2.2.2.2.2.2.2.2.2.1, x_.2.2.2.2.2.2.2.2.2.2.2.2.2.1, x_.2.2.2.2.2.2.2.2.2.2.2.2.2.2.1, x_.2.2.2.2.2.2.2.2.2.2.2.2.2.2.2.1, ())) (fun x_ => rfl) (fun ρ x_ s_ k_ => (nat_br (nat_bnd fun _ => (nat_bnd fun _ => (nat_bnd fun _ => nat_leaf))) nat_leaf)) (fun ρ x_ t k => (by kernel_rfl)) (fun x_ s => by kernel_rfl))
theorem lower_Base.p2 : PieceOk lower_Base.G (pieceAt (pieces lower_Base.G.cks (bodyOf Go.Proofs.Try.f6)) 2).1 (pieceAt (pieces lower_Base.G.cks (bodyOf Go.Proofs.Try.f6)) 2).2 :=
  join_ok (s := lower_Base.c232773r) (by kernel_rfl) (by kernel_rfl) (sums_of (sh := lower_Base.c232773s) (fun ρ x_ k_ => (nat_br nat_leaf nat_leaf)) (fun ρ x_ t k => (by kernel_rfl)) (fun x_ => by kernel_rfl))
theorem lower_Base.p3 : PieceOk lower_Base.G (pieceAt (pieces lower_Base.G.cks (bodyOf Go.Proofs.Try.f6)) 3).1 (pieceAt (pieces lower_Base.G.cks (bodyOf Go.Proofs.Try.f6)) 3).2 :=
  loop_ok (s := lower_Base.c100018r) (by kernel_rfl) (by kernel_rfl) (loops_of (sh := lower_Base.c100018s) (I := fun x_ s_ => (x_.1, x_.2.1, x_.2.2.1, x_.2.2.2.1, x_.2.2.2.2.1, x_.2.2.2.2.2.1, x_.2.2.2.2.2.2.1, x_.2.2.2.2.2.2.2.1, s_.1, x_.2.2.2.2.2.2.2.2.2.1, x_.2.2.2.2.2.2.2.2.2.2.1, x_.2.2.2.2.2.2.2.2.2.2.2.1, x_.2.2.2.2.2.2.2.2.2.2.2.2.1, x_.2.2.2.2.2.2.2.2.2.2.2.2.2.1, x_.2.2.2.2.2.2.2.2.2.2.2.2.2.2.1, x_.2.2.2.2.2.2.2.2.2.2.2.2.2.2.2.1, x_.2.2.2.2.2.2.2.2.2.2.2.2.2.2.2.2.1, x_.2.2.2.2.2.2.2.2.2.2.2.2.2.2.2.2.2.1, x_.2.2.2.2.2.2.2.2.2.2.2.2.2.2.2.2.2.2.1, s_.2.1, s_.2.2.1, s_.2.2.2, ())) (fun x_ => rfl) (fun ρ x_ s_ k_ => (nat_br (nat_bnd fun _ => (nat_bnd fun _ => nat_leaf)) nat_leaf)) (fun ρ x_ t k => (by kernel_rfl)) (fun x_ s => by kernel_rfl))
theorem lower_Base.ok : CalleeOk Go.Proofs.Try.prog 6 lower_Base.ce := fn_ok (G := lower_Base.G) tab_ok mixed Go.Proofs.Try.func6 ⟨(fns_cons circ_Check.ok (fns_cons lower_spares.ok fns_nil)), (mfns_cons lower_maker_op.ok mfns_nil), tab_eqs_ok⟩ (m := 4) (by kernel_rfl) ⟨⟨⟨⟨trivial, lower_Base.p0⟩, lower_Base.p1⟩, lower_Base.p2⟩, lower_Base.p3⟩ (by kernel_rfl) lower_Base.eq
end
end W
end
