/- Lifted functions, part 1: each with its contract. -/
import Derived.Test.YtbaankfibhmcaaaLf
import Derived.Test.YtbaankfibhmcaaaProg
section
set_option maxHeartbeats 4000000
set_option maxRecDepth 100000
set_option linter.unusedVariables false
namespace W
open Go Go.Ql
noncomputable section
instance gInv : GInv := ⟨fun _ => True, 0, fun _ _ => trivial, fun _ => Nat.zero_le _⟩
def tab : List (Nat × TI) := [(1, ⟨.nilv 3, .nul⟩),
 (2, ⟨.int .i64, .scalar⟩),
 (3, ⟨.int .i64, .scalar⟩),
 (4, ⟨.bool, .scalar⟩),
 (5, ⟨.int .u8, .scalar⟩),
 (6, ⟨.int .u8, .scalar⟩),
 (7, ⟨.st (.pair (.int .i64) (.pair (.int .i64) (.pair .bool (.int .u8)))), .struct [(0, 2), (1, 3), (2, 4), (3, 6)]⟩),
 (8, ⟨.st (.pair (.int .i64) (.pair (.int .i64) (.pair .bool (.int .u8)))), .struct [(0, 2), (1, 3), (2, 4), (3, 6)]⟩),
 (9, ⟨.str, .scalar⟩),
 (10, ⟨.str, .scalar⟩),
 (11, ⟨.str, .scalar⟩),
 (12, ⟨.int .u64, .scalar⟩),
 (13, ⟨.st (.pair .str (.int .u64)), .struct [(0, 9), (1, 12)]⟩),
 (14, ⟨.st (.pair .str (.int .u64)), .struct [(0, 9), (1, 12)]⟩),
 (15, ⟨.nilv 0, .nul⟩),
 (16, ⟨.nilv 0, .nul⟩),
 (17, ⟨.nilv 0, .nul⟩),
 (18, ⟨.st (.nilv 0), .struct [(0, 17)]⟩),
 (19, ⟨.st (.nilv 0), .struct [(0, 17)]⟩),
 (20, ⟨.nilv 1, .nul⟩),
 (21, ⟨.int .i32, .scalar⟩),
 (22, ⟨.sl (.st (.pair (.int .i64) (.pair (.int .i64) (.pair (.sl (.int .i64)) (.pair (.int .i64) (.pair (.int .i64) (.sl (.int .i64)))))))), .slice 37 80⟩),
 (23, ⟨.st (.pair (.int .i64) (.pair (.int .i64) (.sl (.st (.pair (.int .i64) (.pair (.int .i64) (.pair (.sl (.int .i64)) (.pair (.int .i64) (.pair (.int .i64) (.sl (.int .i64))))))))))), .struct [(0, 3), (1, 3), (2, 22)]⟩),
 (24, ⟨.st (.pair (.int .i64) (.pair (.int .i64) (.sl (.st (.pair (.int .i64) (.pair (.int .i64) (.pair (.sl (.int .i64)) (.pair (.int .i64) (.pair (.int .i64) (.sl (.int .i64))))))))))), .struct [(0, 3), (1, 3), (2, 22)]⟩),
 (26, ⟨.st (.pair (.int .i64) (.int .i64)), .struct [(0, 3), (1, 3)]⟩),
 (27, ⟨.st (.pair (.int .i64) (.int .i64)), .struct [(0, 3), (1, 3)]⟩),
 (35, ⟨.sl (.int .i64), .slice 3 8⟩),
 (36, ⟨.st (.pair (.int .i64) (.pair (.int .i64) (.pair (.sl (.int .i64)) (.pair (.int .i64) (.pair (.int .i64) (.sl (.int .i64))))))), .struct [(0, 3), (1, 3), (2, 35), (3, 3), (4, 3), (5, 35)]⟩),
 (37, ⟨.st (.pair (.int .i64) (.pair (.int .i64) (.pair (.sl (.int .i64)) (.pair (.int .i64) (.pair (.int .i64) (.sl (.int .i64))))))), .struct [(0, 3), (1, 3), (2, 35), (3, 3), (4, 3), (5, 35)]⟩),
 (40, ⟨.sl (.st (.pair (.ar 8 (.st (.pair .bool (.sl (.int .i64))))) (.int .i64))), .slice 49 264⟩),
 (45, ⟨.st (.pair .bool (.sl (.int .i64))), .struct [(0, 4), (1, 35)]⟩),
 (46, ⟨.st (.pair .bool (.sl (.int .i64))), .struct [(0, 4), (1, 35)]⟩),
 (47, ⟨.ar 8 (.st (.pair .bool (.sl (.int .i64)))), .arr 8 46⟩),
 (48, ⟨.st (.pair (.ar 8 (.st (.pair .bool (.sl (.int .i64))))) (.int .i64)), .struct [(0, 47), (16, 3)]⟩),
 (49, ⟨.st (.pair (.ar 8 (.st (.pair .bool (.sl (.int .i64))))) (.int .i64)), .struct [(0, 47), (16, 3)]⟩),
 (54, ⟨.nilv 0, .nul⟩),
 (55, ⟨.nilv 0, .nul⟩),
 (56, ⟨.st (.pair (.nilv 0) (.pair (.int .i64) (.sl (.int .i64)))), .struct [(0, 55), (1, 3), (2, 35)]⟩),
 (57, ⟨.st (.pair (.nilv 0) (.pair (.int .i64) (.sl (.int .i64)))), .struct [(0, 55), (1, 3), (2, 35)]⟩),
 (80, ⟨.ar 12 .bool, .arr 12 4⟩),
 (82, ⟨.int .u64, .scalar⟩),
 (92, ⟨.st (.pair (.nilv 0) (.pair (.nilv 0) (.pair (.nilv 0) .str))), .struct [(0, 17), (1, 17), (2, 17), (3, 9)]⟩),
 (93, ⟨.st (.pair (.nilv 0) (.pair (.nilv 0) (.pair (.nilv 0) .str))), .struct [(0, 17), (1, 17), (2, 17), (3, 9)]⟩),
 (94, ⟨.ar 0 (.nilv 0), .arr 0 16⟩),
 (95, ⟨.st (.ar 0 (.nilv 0)), .struct [(0, 94)]⟩),
 (96, ⟨.st (.ar 0 (.nilv 0)), .struct [(0, 94)]⟩),
 (98, ⟨.int .u32, .scalar⟩),
 (99, ⟨.int .u8, .scalar⟩),
 (100, ⟨.int .u8, .scalar⟩),
 (102, ⟨.nilv 0, .nul⟩),
 (103, ⟨.int .i32, .scalar⟩),
 (104, ⟨.int .i32, .scalar⟩),
 (105, ⟨.st (.pair (.int .u64) (.pair (.int .u64) (.pair (.int .u32) (.pair (.int .u8) (.pair (.int .u8) (.pair (.int .u8) (.pair (.int .u8) (.pair (.nilv 3) (.pair (.nilv 0) (.pair (.int .i32) (.int .i32))))))))))), .struct [(0, 12), (1, 12), (2, 98), (3, 99), (4, 5), (5, 5), (6, 100), (7, 101), (8, 102), (9, 103), (10, 104)]⟩),
 (106, ⟨.st (.pair (.int .u64) (.pair (.int .u64) (.pair (.int .u32) (.pair (.int .u8) (.pair (.int .u8) (.pair (.int .u8) (.pair (.int .u8) (.pair (.nilv 3) (.pair (.nilv 0) (.pair (.int .i32) (.int .i32))))))))))), .struct [(0, 12), (1, 12), (2, 98), (3, 99), (4, 5), (5, 5), (6, 100), (7, 101), (8, 102), (9, 103), (10, 104)]⟩)]
theorem mixed : Go.Proofs.Try.prog.follows .mixedOrders = true := by kernel_rfl
theorem tab_ok : TabOk Go.Proofs.Try.prog tab := tabB_ok (by kernel_rfl)
def tab_eqs : List Nat := [27]
theorem tab_eqs_ok : EqsOk Go.Proofs.Try.prog tab tab_eqs := eqsB_ok (by kernel_rfl)
end
end W
end

section
set_option maxHeartbeats 4000000
set_option maxRecDepth 100000
set_option linter.unusedVariables false
namespace W
open Go Go.Ql Go.Proofs
noncomputable section
abbrev lb0 : SD := .one (.val (.sl (.int .i64)))
abbrev lb1 : SD := .one (.own 3 0)
abbrev lb2 : SD := .one (.val (.int .i64))
abbrev lb3 : SO := .arr 0 false 3 (.int .i64)
def R_copyInts.c100003 {ρ : Type} (l : List (Int)) (i : Int) (out : List (Int)) (k_ : ((Int) × (List Int)) ⊕ ((Int) × (List Int)) → Option ρ) : Option ρ :=
  br (decide (i < (↑(List.length l) : Int)))
   (bnd (idx l i) fun y =>
    bnd (okIf (decide ((List.length out + (1 : Nat)) * (8 : Nat) ≤ (140737488355328 : Nat)) && decide (List.length out + (1 : Nat) ≤ (140737488355328 : Nat)))) fun y_1 =>
    k_ (.inl ((IntKind.wrap IntKind.i64 (i + (1 : Int))), (out ++ [y]))))
   (k_ (.inr (i, out)))
def R_copyInts.c100003s : Shape := ⟨[(0, lb0), (2, lb0), (3, lb1), (4, lb2)], [(3, lb3)]⟩
def R_copyInts.c100003x0 : Shape := R_copyInts.c100003s
def R_copyInts.c100003r : Ck := Ck.ofLoop (S := (Int) × (List Int)) (T := (Int) × (List Int)) R_copyInts.c100003s (fun x_ => (x_.2.2.1, x_.2.2.2.1)) (fun ρ x_ s_ k_ => R_copyInts.c100003 x_.1 s_.1 s_.2 k_) (fun ρ x_ r_ k_ => k_ 2 (Shape.inj R_copyInts.c100003x0 (x_.1, x_.2.1, r_.1, r_.2, ())))
def R_copyInts (l : List (Int)) : Option (List Int) :=
  bnd (iter (fun s ↦ W.R_copyInts.c100003 l (Prod.fst s) (Prod.snd s) some) ((0 : Int), [])) fun y =>
  some (Prod.snd y)
def R_copyInts.ce : Go.Ql.Callee := ⟨[(.sl (.int .i64))], [(.sl (.int .i64))], fun x_ => R_copyInts x_⟩
def R_copyInts.G : Env := ⟨19, tab, [], [0, 2, 3, 4, 8], [3], [], [(100003, R_copyInts.c100003r)], [], tab_eqs⟩
theorem R_copyInts.eq (x_ : dens R_copyInts.ce.params) : den R_copyInts.G Try.f28 R_copyInts.ce.params R_copyInts.ce.res x_ = R_copyInts.ce.F x_ := by kernel_rfl
theorem R_copyInts.p0 : PcA R_copyInts.G Try.f28 0 :=
  loop_ok (s := R_copyInts.c100003r) (by kernel_rfl) (by kernel_rfl) (loops_of (sh := R_copyInts.c100003s) (I := fun x_ s_ => (x_.1, x_.2.1, s_.1, s_.2, ())) (fun x_ => rfl) (fun ρ x_ s_ k_ => (nat_br (nat_bnd fun _ => (nat_bnd fun _ => nat_leaf)) nat_leaf)) (fun ρ x_ t k => (by kernel_rfl)) (fun x_ s => by kernel_rfl))
theorem R_copyInts.ok : CalleeOk Try.prog 28 R_copyInts.ce := fn_ok (G := R_copyInts.G) tab_ok mixed Try.func28 ⟨fns_nil, mfns_nil, tab_eqs_ok⟩ (m := 1) (by kernel_rfl) ⟨trivial, R_copyInts.p0⟩ (by kernel_rfl) R_copyInts.eq
def R_copyOp (o : (Int) × ((Int) × ((List Int) × ((Int) × ((Int) × (List Int)))))) : Option ((Int) × ((Int) × ((List Int) × ((Int) × ((Int) × (List Int)))))) :=
  bnd (W.R_copyInts (Prod.fst (Prod.snd (Prod.snd o)))) fun y =>
  bnd (W.R_copyInts (Prod.snd (Prod.snd (Prod.snd (Prod.snd (Prod.snd o)))))) fun y_1 =>
  some (Prod.fst o, Prod.fst (Prod.snd o), y, Prod.fst (Prod.snd (Prod.snd (Prod.snd o))), Prod.fst (Prod.snd (Prod.snd (Prod.snd (Prod.snd o)))), y_1)
def R_copyOp.ce : Go.Ql.Callee := ⟨[(.st (.pair (.int .i64) (.pair (.int .i64) (.pair (.sl (.int .i64)) (.pair (.int .i64) (.pair (.int .i64) (.sl (.int .i64))))))))], [(.st (.pair (.int .i64) (.pair (.int .i64) (.pair (.sl (.int .i64)) (.pair (.int .i64) (.pair (.int .i64) (.sl (.int .i64))))))))], fun x_ => R_copyOp x_⟩
def R_copyOp.G : Env := ⟨12, tab, [(28, R_copyInts.ce)], [0, 1, 2], [], [], [], [], tab_eqs⟩
theorem R_copyOp.eq (x_ : dens R_copyOp.ce.params) : den R_copyOp.G Try.f16 R_copyOp.ce.params R_copyOp.ce.res x_ = R_copyOp.ce.F x_ := by kernel_rfl
theorem R_copyOp.ok : CalleeOk Try.prog 16 R_copyOp.ce := fn_ok (G := R_copyOp.G) tab_ok mixed Try.func16 ⟨(fns_cons R_copyInts.ok fns_nil), mfns_nil, tab_eqs_ok⟩ (m := 0) (by kernel_rfl) trivial (by kernel_rfl) R_copyOp.eq
abbrev lb4 : SD := .one (.val (.st (.pair (.int .i64) (.pair (.int .i64) (.sl (.st (.pair (.int .i64) (.pair (.int .i64) (.pair (.sl (.int .i64)) (.pair (.int .i64) (.pair (.int .i64) (.sl (.int .i64)))))))))))))
abbrev lb5 : SD := .one (.ref 1 0)
abbrev lb6 : SD := .one (.ref 2 0)
abbrev lb7 : SD := .one (.ref 3 0)
abbrev lb8 : SO := .box [.val (.int .i64), .val (.int .i64), .val (.sl (.st (.pair (.int .i64) (.pair (.int .i64) (.pair (.sl (.int .i64)) (.pair (.int .i64) (.pair (.int .i64) (.sl (.int .i64)))))))))]
abbrev lb9 : SO := .box [.val (.int .i64), .val (.int .i64), .own 3003 0]
abbrev lb10 : SO := .arr 0 false 37 (.st (.pair (.int .i64) (.pair (.int .i64) (.pair (.sl (.int .i64)) (.pair (.int .i64) (.pair (.int .i64) (.sl (.int .i64))))))))
def R_CopyCircuit.c5 {ρ : Type} (i : Int) (c2 : List ((Int) × ((Int) × ((List Int) × ((Int) × ((Int) × (List Int))))))) (t3003 : List ((Int) × ((Int) × ((List Int) × ((Int) × ((Int) × (List Int))))))) (k_ : List ((Int) × ((Int) × ((List Int) × ((Int) × ((Int) × (List Int)))))) → Option ρ) : Option ρ :=
  bnd (idx c2 i) fun y =>
  bnd (W.R_copyOp y) fun y_1 =>
  bnd (okIf (decide ((List.length t3003 + (1 : Nat)) * (80 : Nat) ≤ (140737488355328 : Nat)) && decide (List.length t3003 + (1 : Nat) ≤ (140737488355328 : Nat)))) fun y_2 =>
  k_ (t3003 ++ [y_1])
def R_CopyCircuit.c5s : Shape := ⟨[(0, lb4), (1, lb5), (2, lb6), (3, lb7), (4, lb2)], [(1, lb8), (2, lb8), (3, lb9), (3003, lb10)]⟩
def R_CopyCircuit.c5x0 : Shape := R_CopyCircuit.c5s
def R_CopyCircuit.c5r : Ck := Ck.of (T := List ((Int) × ((Int) × ((List Int) × ((Int) × ((Int) × (List Int))))))) R_CopyCircuit.c5s (fun ρ x_ k_ => R_CopyCircuit.c5 x_.2.1 x_.2.2.2.2.1 x_.2.2.2.2.2.2.2.2.2.2.1 k_) (fun ρ x_ r_ k_ => k_ 0 (Shape.inj R_CopyCircuit.c5x0 (x_.1, x_.2.1, x_.2.2.1, x_.2.2.2.1, x_.2.2.2.2.1, x_.2.2.2.2.2.1, x_.2.2.2.2.2.2.1, x_.2.2.2.2.2.2.2.1, x_.2.2.2.2.2.2.2.2.1, x_.2.2.2.2.2.2.2.2.2.1, r_, ())))
def R_CopyCircuit.c100003 {ρ : Type} (i : Int) (c2 : List ((Int) × ((Int) × ((List Int) × ((Int) × ((Int) × (List Int))))))) (t3003 : List ((Int) × ((Int) × ((List Int) × ((Int) × ((Int) × (List Int))))))) (k_ : ((Int) × (List ((Int) × ((Int) × ((List Int) × ((Int) × ((Int) × (List Int)))))))) ⊕ ((Int) × (List ((Int) × ((Int) × ((List Int) × ((Int) × ((Int) × (List Int)))))))) → Option ρ) : Option ρ :=
  br (decide (i < (↑(List.length c2) : Int)))
   (bnd (W.R_CopyCircuit.c5 i c2 t3003 some) fun y =>
    k_ (.inl ((IntKind.wrap IntKind.i64 (i + (1 : Int))), y)))
   (k_ (.inr (i, t3003)))
def R_CopyCircuit.c100003s : Shape := R_CopyCircuit.c5s
def R_CopyCircuit.c100003x0 : Shape := R_CopyCircuit.c5s
def R_CopyCircuit.c100003r : Ck := Ck.ofLoop (S := (Int) × (List ((Int) × ((Int) × ((List Int) × ((Int) × ((Int) × (List Int)))))))) (T := (Int) × (List ((Int) × ((Int) × ((List Int) × ((Int) × ((Int) × (List Int)))))))) R_CopyCircuit.c100003s (fun x_ => (x_.2.1, x_.2.2.2.2.2.2.2.2.2.2.1)) (fun ρ x_ s_ k_ => R_CopyCircuit.c100003 s_.1 x_.2.2.2.2.1 s_.2 k_) (fun ρ x_ r_ k_ => k_ 2 (Shape.inj R_CopyCircuit.c100003x0 (x_.1, r_.1, x_.2.2.1, x_.2.2.2.1, x_.2.2.2.2.1, x_.2.2.2.2.2.1, x_.2.2.2.2.2.2.1, x_.2.2.2.2.2.2.2.1, x_.2.2.2.2.2.2.2.2.1, x_.2.2.2.2.2.2.2.2.2.1, r_.2, ())))
def R_CopyCircuit (c : (Int) × ((Int) × (List ((Int) × ((Int) × ((List Int) × ((Int) × ((Int) × (List Int))))))))) : Option ((Int) × ((Int) × (List ((Int) × ((Int) × ((List Int) × ((Int) × ((Int) × (List Int))))))))) :=
  bnd (iter (fun s ↦ W.R_CopyCircuit.c100003 (Prod.fst s) (Prod.snd (Prod.snd c)) (Prod.snd s) some) ((0 : Int), [])) fun y =>
  some (Prod.fst c, Prod.fst (Prod.snd c), Prod.snd y)
def R_CopyCircuit.ce : Go.Ql.Callee := ⟨[(.st (.pair (.int .i64) (.pair (.int .i64) (.sl (.st (.pair (.int .i64) (.pair (.int .i64) (.pair (.sl (.int .i64)) (.pair (.int .i64) (.pair (.int .i64) (.sl (.int .i64))))))))))))], [(.st (.pair (.int .i64) (.pair (.int .i64) (.sl (.st (.pair (.int .i64) (.pair (.int .i64) (.pair (.sl (.int .i64)) (.pair (.int .i64) (.pair (.int .i64) (.sl (.int .i64))))))))))))], fun x_ => R_CopyCircuit x_⟩
def R_CopyCircuit.G : Env := ⟨29, tab, [(16, R_copyOp.ce)], [0, 1, 2, 3, 4, 14], [1, 3, 9, 3001, 3003], [(5, [⟨[], [], [19, 20, 21, 22, 23, 24, 25], [25]⟩, ⟨[0], [], [19, 20, 21, 22, 23, 24, 25], [25]⟩, ⟨[], [], [17, 18, 21], []⟩, ⟨[2], [], [17, 18, 21], []⟩, ⟨[], [], [17, 18, 19, 20], []⟩, ⟨[3, 2, 4], [], [17, 18], []⟩, ⟨[5, 3, 2, 4], [], [17, 18], []⟩, ⟨[6, 5, 3, 2, 4], [], [17, 18], []⟩, ⟨[7, 6, 5, 3, 2, 4], [25], [17, 18], []⟩, ⟨[1, 0, 8, 7, 6, 5, 3, 2, 4], [3003], [], []⟩, ⟨[0, 1, 2, 3, 4, 5, 6, 7, 8, 9], [], [], []⟩, ⟨[10, 0, 1, 2, 3, 4, 5, 6, 7, 8, 9], [3], [], []⟩])], [(100003, R_CopyCircuit.c100003r), (5, R_CopyCircuit.c5r)], [], tab_eqs⟩
theorem R_CopyCircuit.eq (x_ : dens R_CopyCircuit.ce.params) : den R_CopyCircuit.G Try.f5 R_CopyCircuit.ce.params R_CopyCircuit.ce.res x_ = R_CopyCircuit.ce.F x_ := by kernel_rfl
theorem R_CopyCircuit.p0 : PcA R_CopyCircuit.G Try.f5 0 :=
  loop_ok (s := R_CopyCircuit.c100003r) (by kernel_rfl) (by kernel_rfl) (loops_of (sh := R_CopyCircuit.c100003s) (I := fun x_ s_ => (x_.1, s_.1, x_.2.2.1, x_.2.2.2.1, x_.2.2.2.2.1, x_.2.2.2.2.2.1, x_.2.2.2.2.2.2.1, x_.2.2.2.2.2.2.2.1, x_.2.2.2.2.2.2.2.2.1, x_.2.2.2.2.2.2.2.2.2.1, s_.2, ())) (fun x_ => rfl) (fun ρ x_ s_ k_ => (nat_br (nat_bnd fun _ => nat_leaf) nat_leaf)) (fun ρ x_ t k => (by kernel_rfl)) (fun x_ s => by kernel_rfl))
theorem R_CopyCircuit.p1 : PcA R_CopyCircuit.G Try.f5 1 :=
  region_ok (s := R_CopyCircuit.c5r) (by kernel_rfl) (by kernel_rfl) (sums_of (sh := R_CopyCircuit.c5s) (fun ρ x_ k_ => (nat_bnd fun _ => (nat_bnd fun _ => (nat_bnd fun _ => nat_leaf)))) (fun ρ x_ t k => (by kernel_rfl)) (fun x_ => by kernel_rfl))
theorem R_CopyCircuit.ok : CalleeOk Try.prog 5 R_CopyCircuit.ce := fn_ok (G := R_CopyCircuit.G) tab_ok mixed Try.func5 ⟨(fns_cons R_copyOp.ok fns_nil), mfns_nil, tab_eqs_ok⟩ (m := 2) (by kernel_rfl) ⟨⟨trivial, R_CopyCircuit.p0⟩, R_CopyCircuit.p1⟩ (by kernel_rfl) R_CopyCircuit.eq
def circ_fault (code : Int) (t1 : Int) : Option ((Int) × (Int)) :=
  some (code, t1)
def circ_fault.ce : Go.Ql.Callee := ⟨[(.int .i64), (.int .i64)], [(.st (.pair (.int .i64) (.int .i64)))], fun x_ => circ_fault x_.1 x_.2⟩
def circ_fault.G : Env := ⟨8, tab, [], [0, 1, 4], [], [], [], [], tab_eqs⟩
theorem circ_fault.eq (x_ : dens circ_fault.ce.params) : den circ_fault.G Try.f29 circ_fault.ce.params circ_fault.ce.res x_ = circ_fault.ce.F x_ := by kernel_rfl
theorem circ_fault.ok : CalleeOk Try.prog 29 circ_fault.ce := fn_ok (G := circ_fault.G) tab_ok mixed Try.func29 ⟨fns_nil, mfns_nil, tab_eqs_ok⟩ (m := 0) (by kernel_rfl) trivial (by kernel_rfl) circ_fault.eq
abbrev lb11 : SD := .one (.val .bool)
def circ_turns.c1 {ρ : Type} (kind : Int) (k_ : Bool → Option ρ) : Option ρ :=
  br (kind == (1 : Int))
   (k_ true)
   (k_ (kind == (4 : Int)))
def circ_turns.c1s : Shape := ⟨[(0, lb2), (2, lb11)], []⟩
def circ_turns.c1x0 : Shape := circ_turns.c1s
def circ_turns.c1r : Ck := Ck.of (T := Bool) circ_turns.c1s (fun ρ x_ k_ => circ_turns.c1 x_.1 k_) (fun ρ x_ r_ k_ => k_ 0 (Shape.inj circ_turns.c1x0 (x_.1, r_, ())))
def circ_turns (kind : Int) : Option (Bool) :=
  bnd (W.circ_turns.c1 kind some) fun y =>
  some y
def circ_turns.ce : Go.Ql.Callee := ⟨[(.int .i64)], [.bool], fun x_ => circ_turns x_⟩
def circ_turns.G : Env := ⟨9, tab, [], [0, 2], [], [], [(1, circ_turns.c1r)], [], tab_eqs⟩
theorem circ_turns.eq (x_ : dens circ_turns.ce.params) : den circ_turns.G Try.f45 circ_turns.ce.params circ_turns.ce.res x_ = circ_turns.ce.F x_ := by kernel_rfl
theorem circ_turns.p0 : PcA circ_turns.G Try.f45 0 :=
  region_ok (s := circ_turns.c1r) (by kernel_rfl) (by kernel_rfl) (sums_of (sh := circ_turns.c1s) (fun ρ x_ k_ => (nat_br nat_leaf nat_leaf)) (fun ρ x_ t k => (by kernel_rfl)) (fun x_ => by kernel_rfl))
theorem circ_turns.ok : CalleeOk Try.prog 45 circ_turns.ce := fn_ok (G := circ_turns.G) tab_ok mixed Try.func45 ⟨fns_nil, mfns_nil, tab_eqs_ok⟩ (m := 1) (by kernel_rfl) ⟨trivial, circ_turns.p0⟩ (by kernel_rfl) circ_turns.eq
def circ_gate.c1 {ρ : Type} (kind : Int) (k_ : Bool → Option ρ) : Option ρ :=
  br (kind == (2 : Int))
   (k_ true)
   (br (kind == (3 : Int))
     (k_ true)
     (k_ (kind == (4 : Int))))
def circ_gate.c1s : Shape := ⟨[(0, lb2), (2, lb11)], []⟩
def circ_gate.c1x0 : Shape := circ_gate.c1s
def circ_gate.c1r : Ck := Ck.of (T := Bool) circ_gate.c1s (fun ρ x_ k_ => circ_gate.c1 x_.1 k_) (fun ρ x_ r_ k_ => k_ 0 (Shape.inj circ_gate.c1x0 (x_.1, r_, ())))
def circ_gate (kind : Int) : Option (Bool) :=
  bnd (W.circ_gate.c1 kind some) fun y =>
  some y
def circ_gate.ce : Go.Ql.Callee := ⟨[(.int .i64)], [.bool], fun x_ => circ_gate x_⟩
def circ_gate.G : Env := ⟨13, tab, [], [0, 2], [], [], [(1, circ_gate.c1r)], [], tab_eqs⟩
theorem circ_gate.eq (x_ : dens circ_gate.ce.params) : den circ_gate.G Try.f46 circ_gate.ce.params circ_gate.ce.res x_ = circ_gate.ce.F x_ := by kernel_rfl
theorem circ_gate.p0 : PcA circ_gate.G Try.f46 0 :=
  region_ok (s := circ_gate.c1r) (by kernel_rfl) (by kernel_rfl) (sums_of (sh := circ_gate.c1s) (fun ρ x_ k_ => (nat_br nat_leaf (nat_br nat_leaf nat_leaf))) (fun ρ x_ t k => (by kernel_rfl)) (fun x_ => by kernel_rfl))
theorem circ_gate.ok : CalleeOk Try.prog 46 circ_gate.ce := fn_ok (G := circ_gate.G) tab_ok mixed Try.func46 ⟨fns_nil, mfns_nil, tab_eqs_ok⟩ (m := 1) (by kernel_rfl) ⟨trivial, circ_gate.p0⟩ (by kernel_rfl) circ_gate.eq
abbrev lb12 : SD := .one (.val (.st (.pair (.int .i64) (.pair (.int .i64) (.pair (.sl (.int .i64)) (.pair (.int .i64) (.pair (.int .i64) (.sl (.int .i64)))))))))
abbrev lb13 : SD := .one (.ref 1000100 0)
abbrev lb14 : SO := .box [.val (.int .i64), .val (.int .i64), .val (.sl (.int .i64)), .val (.int .i64), .val (.int .i64), .val (.sl (.int .i64))]
abbrev lb15 : SD := .one (.aptr 5 0)
abbrev lb16 : SO := .arr 0 false 80 .bool
def circ_one.pre : Shape := ⟨[(0, lb12), (1, lb13)], [(1000100, lb8)]⟩
def circ_one.post : Shape := ⟨[(0, lb2)], [(1000100, lb8)]⟩
def circ_one.c1 {ρ : Type} (o0 : Int) (k_ : Bool → Option ρ) : Option ρ :=
  br (decide (o0 < (1 : Int)))
   (k_ true)
   (k_ (decide (o0 > (6 : Int))))
def circ_one.c1s : Shape := ⟨[(0, lb12), (1, lb13), (2, lb6), (4, lb2)], [(2, lb14), (1000100, lb8)]⟩
def circ_one.c1x0 : Shape := ⟨[(0, lb12), (1, lb13), (2, lb6), (4, lb2), (17, lb11)], [(2, lb14), (1000100, lb8)]⟩
def circ_one.c1r : Ck := Ck.of (T := Bool) circ_one.c1s (fun ρ x_ k_ => circ_one.c1 x_.2.2.1 k_) (fun ρ x_ r_ k_ => k_ 0 (Shape.inj circ_one.c1x0 (x_.1, x_.2.1, r_, x_.2.2)))
def circ_one.c3 {ρ : Type} (o0 : Int) (o1 : Int) (k_ : Bool → Option ρ) : Option ρ :=
  br (decide (o1 < (0 : Int)))
   (k_ true)
   (br (decide (o1 > (15 : Int)))
     (k_ true)
     (bnd (W.circ_turns o0) fun y =>
      br (!y)
       (k_ (o1 != (0 : Int)))
       (k_ false)))
def circ_one.c3s : Shape := circ_one.c1s
def circ_one.c3x0 : Shape := ⟨[(0, lb12), (1, lb13), (2, lb6), (4, lb2), (36, lb11)], [(2, lb14), (1000100, lb8)]⟩
def circ_one.c3r : Ck := Ck.of (T := Bool) circ_one.c3s (fun ρ x_ k_ => circ_one.c3 x_.2.2.1 x_.2.2.2.1 k_) (fun ρ x_ r_ k_ => k_ 0 (Shape.inj circ_one.c3x0 (x_.1, x_.2.1, r_, x_.2.2)))
def circ_one.c5 {ρ : Type} (o0 : Int) (o3 : Int) (t10001000 : Int) (k_ : Bool → Option ρ) : Option ρ :=
  br (decide (o3 < (0 : Int)))
   (k_ true)
   (br (decide (o3 ≥ t10001000))
     (k_ true)
     (br (o0 == (1 : Int))
       (k_ (o3 != (0 : Int)))
       (k_ false)))
def circ_one.c5s : Shape := circ_one.c1s
def circ_one.c5x0 : Shape := ⟨[(0, lb12), (1, lb13), (2, lb6), (4, lb2), (58, lb11)], [(2, lb14), (1000100, lb8)]⟩
def circ_one.c5r : Ck := Ck.of (T := Bool) circ_one.c5s (fun ρ x_ k_ => circ_one.c5 x_.2.2.1 x_.2.2.2.2.2.1 x_.2.2.2.2.2.2.2.2.1 k_) (fun ρ x_ r_ k_ => k_ 0 (Shape.inj circ_one.c5x0 (x_.1, x_.2.1, r_, x_.2.2)))
def circ_one.c7 {ρ : Type} (o0 : Int) (o2 : List (Int)) (k_ : Bool → Option ρ) : Option ρ :=
  br (decide ((↑(List.length o2) : Int) > (0 : Int)))
   (bnd (W.circ_gate o0) fun y =>
    k_ (!y))
   (k_ false)
def circ_one.c7s : Shape := circ_one.c1s
def circ_one.c7x0 : Shape := ⟨[(0, lb12), (1, lb13), (2, lb6), (4, lb2), (68, lb11)], [(2, lb14), (1000100, lb8)]⟩
def circ_one.c7r : Ck := Ck.of (T := Bool) circ_one.c7s (fun ρ x_ k_ => circ_one.c7 x_.2.2.1 x_.2.2.2.2.1 k_) (fun ρ x_ r_ k_ => k_ 0 (Shape.inj circ_one.c7x0 (x_.1, x_.2.1, r_, x_.2.2)))
def circ_one.c14 {ρ : Type} (q : Int) (t10001000 : Int) (k_ : Bool → Option ρ) : Option ρ :=
  br (decide (q < (0 : Int)))
   (k_ true)
   (k_ (decide (q ≥ t10001000)))
def circ_one.c14s : Shape := ⟨[(0, lb12), (1, lb13), (2, lb6), (4, lb2), (5, lb15), (7, lb2), (74, lb0), (75, lb2), (76, lb2)], [(2, lb14), (5, lb16), (1000100, lb8)]⟩
def circ_one.c14x0 : Shape := ⟨[(0, lb12), (1, lb13), (2, lb6), (4, lb2), (5, lb15), (7, lb2), (74, lb0), (75, lb2), (76, lb2), (80, lb11)], [(2, lb14), (5, lb16), (1000100, lb8)]⟩
def circ_one.c14r : Ck := Ck.of (T := Bool) circ_one.c14s (fun ρ x_ k_ => circ_one.c14 x_.2.2.1 x_.2.2.2.2.2.2.2.2.2.2.2.2.2.1 k_) (fun ρ x_ r_ k_ => k_ 0 (Shape.inj circ_one.c14x0 (x_.1, x_.2.1, x_.2.2.1, x_.2.2.2.1, x_.2.2.2.2.1, x_.2.2.2.2.2.1, r_, x_.2.2.2.2.2.2)))
def circ_one.c100012 {ρ : Type} (t74 : List (Int)) (t75 : Int) (t76 : Int) (seen : List (Bool)) (t10001000 : Int) (k_ : ((Int) × (List (Bool))) ⊕ (((Int) × (Int) × (List (Bool))) ⊕ ((Int) × (List (Bool)))) → Option ρ) : Option ρ :=
  br (decide (t76 < t75))
   (bnd (idx t74 t76) fun y =>
    bnd (W.circ_one.c14 y t10001000 some) fun y_1 =>
    br y_1
     (k_ (.inr (.inl ((10 : Int), t76, seen))))
     (bnd (okIf (decide ((0 : Ty.den (Ty.int IntKind.i64)) ≤ y) && decide (y < (↑(12 : Nat) : Int)))) fun y_2 =>
      bnd (inR (List.length seen) y) fun y_3 =>
      bnd (idx seen y) fun y_4 =>
      br y_4
       (k_ (.inr (.inl ((12 : Int), t76, seen))))
       (bnd (okIf (decide ((0 : Ty.den (Ty.int IntKind.i64)) ≤ y) && decide (y < (↑(12 : Nat) : Int)))) fun y_5 =>
        bnd (inR (List.length seen) y) fun y_6 =>
        bnd (idx seen y) fun y_7 =>
        k_ (.inl ((IntKind.wrap IntKind.i64 (t76 + (1 : Int))), (List.set seen (Int.toNat y) true))))))
   (k_ (.inr (.inr (t76, seen))))
def circ_one.c100012s : Shape := ⟨[(0, lb12), (1, lb13), (2, lb6), (4, lb2), (5, lb15), (74, lb0), (75, lb2), (76, lb2)], [(2, lb14), (5, lb16), (1000100, lb8)]⟩
def circ_one.c100012x0 : Shape := circ_one.c100012s
def circ_one.c100012x1 : Shape := circ_one.c100012s
def circ_one.c100012r : Ck := Ck.ofLoop (S := (Int) × (List (Bool))) (T := ((Int) × (Int) × (List (Bool))) ⊕ ((Int) × (List (Bool)))) circ_one.c100012s (fun x_ => (x_.2.2.2.2.1, x_.2.2.2.2.2.2.2.2.2.2.2.1)) (fun ρ x_ s_ k_ => circ_one.c100012 x_.2.2.1 x_.2.2.2.1 s_.1 s_.2 x_.2.2.2.2.2.2.2.2.2.2.2.2.1 k_) (fun ρ x_ r_ k_ => sel r_ (fun r_ => k_ 1 (Shape.inj circ_one.c100012x0 (x_.1, r_.1, x_.2.2.1, x_.2.2.2.1, r_.2.1, x_.2.2.2.2.2.1, x_.2.2.2.2.2.2.1, x_.2.2.2.2.2.2.2.1, x_.2.2.2.2.2.2.2.2.1, x_.2.2.2.2.2.2.2.2.2.1, x_.2.2.2.2.2.2.2.2.2.2.1, r_.2.2, x_.2.2.2.2.2.2.2.2.2.2.2.2))) (fun r_ => k_ 2 (Shape.inj circ_one.c100012x1 (x_.1, x_.2.1, x_.2.2.1, x_.2.2.2.1, r_.1, x_.2.2.2.2.2.1, x_.2.2.2.2.2.2.1, x_.2.2.2.2.2.2.2.1, x_.2.2.2.2.2.2.2.2.1, x_.2.2.2.2.2.2.2.2.2.1, x_.2.2.2.2.2.2.2.2.2.2.1, r_.2, x_.2.2.2.2.2.2.2.2.2.2.2.2))))
def circ_one.c20 {ρ : Type} (o0 : Int) (o4 : Int) (t10001001 : Int) (k_ : Bool → Option ρ) : Option ρ :=
  br (o0 == (5 : Int))
   (br (decide (o4 < (0 : Int)))
     (k_ true)
     (br (decide (o4 ≥ t10001001))
       (k_ true)
       (br (o0 != (5 : Int))
         (k_ (o4 != (0 : Int)))
         (k_ false))))
   (br (o0 != (5 : Int))
     (k_ (o4 != (0 : Int)))
     (k_ false))
def circ_one.c20s : Shape := circ_one.c100012s
def circ_one.c20x0 : Shape := ⟨[(0, lb12), (1, lb13), (2, lb6), (4, lb2), (5, lb15), (74, lb0), (75, lb2), (76, lb2), (124, lb11)], [(2, lb14), (5, lb16), (1000100, lb8)]⟩
def circ_one.c20r : Ck := Ck.of (T := Bool) circ_one.c20s (fun ρ x_ k_ => circ_one.c20 x_.2.2.2.2.2.1 x_.2.2.2.2.2.2.2.2.2.1 x_.2.2.2.2.2.2.2.2.2.2.2.2.2.1 k_) (fun ρ x_ r_ k_ => k_ 0 (Shape.inj circ_one.c20x0 (x_.1, x_.2.1, x_.2.2.1, x_.2.2.2.1, x_.2.2.2.2.1, r_, x_.2.2.2.2.2)))
def circ_one.c27 {ρ : Type} (v : Int) (t10001001 : Int) (k_ : Bool → Option ρ) : Option ρ :=
  br (v == (0 : Int))
   (k_ true)
   (br (decide (v > t10001001))
     (k_ true)
     (k_ (decide (v < IntKind.wrap IntKind.i64 ((0 : Int) - t10001001)))))
def circ_one.c27s : Shape := ⟨[(0, lb12), (1, lb13), (2, lb6), (4, lb2), (5, lb15), (9, lb2), (74, lb0), (75, lb2), (76, lb2), (130, lb0), (131, lb2), (132, lb2)], [(2, lb14), (5, lb16), (1000100, lb8)]⟩
def circ_one.c27x0 : Shape := ⟨[(0, lb12), (1, lb13), (2, lb6), (4, lb2), (5, lb15), (9, lb2), (74, lb0), (75, lb2), (76, lb2), (130, lb0), (131, lb2), (132, lb2), (154, lb11)], [(2, lb14), (5, lb16), (1000100, lb8)]⟩
def circ_one.c27r : Ck := Ck.of (T := Bool) circ_one.c27s (fun ρ x_ k_ => circ_one.c27 x_.2.2.1 x_.2.2.2.2.2.2.2.2.2.2.2.2.2.2.2.2.2.1 k_) (fun ρ x_ r_ k_ => k_ 0 (Shape.inj circ_one.c27x0 (x_.1, x_.2.1, x_.2.2.1, x_.2.2.2.1, x_.2.2.2.2.1, x_.2.2.2.2.2.1, x_.2.2.2.2.2.2.1, x_.2.2.2.2.2.2.2.1, x_.2.2.2.2.2.2.2.2.1, r_, x_.2.2.2.2.2.2.2.2.2)))
def circ_one.c100025 {ρ : Type} (t130 : List (Int)) (t131 : Int) (t132 : Int) (t10001001 : Int) (k_ : (Int) ⊕ ((Int) ⊕ (Int)) → Option ρ) : Option ρ :=
  br (decide (t132 < t131))
   (bnd (idx t130 t132) fun y =>
    bnd (W.circ_one.c27 y t10001001 some) fun y_1 =>
    br y_1
     (k_ (.inr (.inl t132)))
     (k_ (.inl (IntKind.wrap IntKind.i64 (t132 + (1 : Int))))))
   (k_ (.inr (.inr t132)))
def circ_one.c100025s : Shape := ⟨[(0, lb12), (1, lb13), (2, lb6), (4, lb2), (5, lb15), (74, lb0), (75, lb2), (76, lb2), (130, lb0), (131, lb2), (132, lb2)], [(2, lb14), (5, lb16), (1000100, lb8)]⟩
def circ_one.c100025x0 : Shape := circ_one.c100025s
def circ_one.c100025x1 : Shape := circ_one.c100025s
def circ_one.c100025r : Ck := Ck.ofLoop (S := Int) (T := (Int) ⊕ (Int)) circ_one.c100025s (fun x_ => x_.2.2.2.2.2.2.2.1) (fun ρ x_ s_ k_ => circ_one.c100025 x_.2.2.2.2.2.1 x_.2.2.2.2.2.2.1 s_ x_.2.2.2.2.2.2.2.2.2.2.2.2.2.2.2.2.1 k_) (fun ρ x_ r_ k_ => sel r_ (fun r_ => k_ 1 (Shape.inj circ_one.c100025x0 (x_.1, (14 : Int), x_.2.2.1, x_.2.2.2.1, x_.2.2.2.2.1, x_.2.2.2.2.2.1, x_.2.2.2.2.2.2.1, r_, x_.2.2.2.2.2.2.2.2))) (fun r_ => k_ 5 (Shape.inj circ_one.c100025x1 (x_.1, x_.2.1, x_.2.2.1, x_.2.2.2.1, x_.2.2.2.2.1, x_.2.2.2.2.2.1, x_.2.2.2.2.2.2.1, r_, x_.2.2.2.2.2.2.2.2))))
def circ_one (o : (Int) × ((Int) × ((List Int) × ((Int) × ((Int) × (List Int)))))) (t10001000 : Int) (t10001001 : Int) (t10001002 : List ((Int) × ((Int) × ((List Int) × ((Int) × ((Int) × (List Int))))))) : Option ((Int) × (Int) × (Int) × (List ((Int) × ((Int) × ((List Int) × ((Int) × ((Int) × (List Int))))))) × Unit) :=
  bnd (W.circ_one.c1 (Prod.fst o) some) fun y =>
  br y
   (some ((8 : Int), t10001000, t10001001, t10001002, ()))
   (bnd (W.circ_one.c3 (Prod.fst o) (Prod.fst (Prod.snd o)) some) fun y_1 =>
    br y_1
     (some ((9 : Int), t10001000, t10001001, t10001002, ()))
     (bnd (W.circ_one.c5 (Prod.fst o) (Prod.fst (Prod.snd (Prod.snd (Prod.snd o)))) t10001000 some) fun y_2 =>
      br y_2
       (some ((10 : Int), t10001000, t10001001, t10001002, ()))
       (bnd (W.circ_one.c7 (Prod.fst o) (Prod.fst (Prod.snd (Prod.snd o))) some) fun y_3 =>
        br y_3
         (some ((11 : Int), t10001000, t10001001, t10001002, ()))
         (bnd (okIf (decide ((0 : Ty.den (Ty.int IntKind.i64)) ≤ Prod.fst (Prod.snd (Prod.snd (Prod.snd o)))) && decide (Prod.fst (Prod.snd (Prod.snd (Prod.snd o))) < (↑(12 : Nat) : Int)))) fun y_4 =>
          bnd (inR (List.length (List.replicate (12 : Nat) false)) (Prod.fst (Prod.snd (Prod.snd (Prod.snd o))))) fun y_5 =>
          bnd (idx (List.replicate (12 : Nat) false) (Prod.fst (Prod.snd (Prod.snd (Prod.snd o))))) fun y_6 =>
          bnd (iter (fun s ↦ W.circ_one.c100012 (Prod.fst (Prod.snd (Prod.snd o))) (↑(List.length (Prod.fst (Prod.snd (Prod.snd o)))) : Int) (Prod.fst s) (Prod.snd s) t10001000 some) ((0 : Int), List.set (List.replicate (12 : Nat) false) (Int.toNat (Prod.fst (Prod.snd (Prod.snd (Prod.snd o))))) true)) fun y_7 =>
          sel y_7
           (fun u => some (Prod.fst u, t10001000, t10001001, t10001002, ()))
           (fun v => bnd (W.circ_one.c20 (Prod.fst o) (Prod.fst (Prod.snd (Prod.snd (Prod.snd (Prod.snd o))))) t10001001 some) fun y_8 =>
            br y_8
             (some ((13 : Int), t10001000, t10001001, t10001002, ()))
             (br (decide ((↑(List.length (Prod.snd (Prod.snd (Prod.snd (Prod.snd (Prod.snd o)))))) : Int) > (24 : Int)))
               (some ((14 : Int), t10001000, t10001001, t10001002, ()))
               (bnd (iter (fun s ↦ W.circ_one.c100025 (Prod.snd (Prod.snd (Prod.snd (Prod.snd (Prod.snd o))))) (↑(List.length (Prod.snd (Prod.snd (Prod.snd (Prod.snd (Prod.snd o)))))) : Int) s t10001001 some) (0 : Int)) fun y_9 =>
                sel y_9
                 (fun u_1 => some ((14 : Int), t10001000, t10001001, t10001002, ()))
                 (fun v_1 => some ((0 : Int), t10001000, t10001001, t10001002, ())))))))))
def circ_one.mc : MCallee := ⟨30, circ_one.pre, circ_one.post, fun x_ => circ_one x_.1 x_.2.1 x_.2.2.1 x_.2.2.2.1⟩
def circ_one.G : Env := ⟨156, tab, [(45, circ_turns.ce), (46, circ_gate.ce)], [0, 1, 2, 4, 5, 7, 9, 17, 36, 58, 68, 74, 75, 76, 77, 80, 91, 124, 128, 130, 131, 132, 133, 154], [5, 69], [(20, [⟨[], [], [], []⟩, ⟨[0], [], [], []⟩, ⟨[1, 0], [], [], []⟩, ⟨[2, 1, 0], [], [], []⟩, ⟨[3, 2, 1, 0], [], [], []⟩, ⟨[4, 3, 2, 1, 0], [], [], []⟩, ⟨[5, 4, 3, 2, 1, 0], [], [], []⟩, ⟨[6, 5, 4, 3, 2, 1, 0], [], [], []⟩, ⟨[7, 6, 5, 4, 3, 2, 1, 0], [], [108, 109, 110, 111], []⟩, ⟨[8, 7, 6, 5, 4, 3, 2, 1, 0], [], [108, 109, 110, 111], []⟩, ⟨[7, 6, 5, 4, 3, 2, 1, 0], [], [106, 107], []⟩, ⟨[10, 7, 6, 5, 4, 3, 2, 1, 0], [], [106, 107], []⟩, ⟨[11, 10, 7, 6, 5, 4, 3, 2, 1, 0], [], [106, 107], []⟩, ⟨[12, 11, 10, 7, 6, 5, 4, 3, 2, 1, 0], [], [106, 107], []⟩, ⟨[9, 8, 7, 6, 5, 4, 3, 2, 1, 0, 13, 12, 11, 10], [], [], []⟩, ⟨[7, 6, 5, 4, 3, 2, 1, 0, 14, 9, 8, 13, 12, 11, 10], [], [], []⟩, ⟨[3, 2, 1, 0, 15, 7, 6, 5, 4, 14, 9, 8, 13, 12, 11, 10], [], [], []⟩, ⟨[16, 3, 2, 1, 0, 15, 7, 6, 5, 4, 14, 9, 8, 13, 12, 11, 10], [], [], []⟩, ⟨[17, 16, 3, 2, 1, 0, 15, 7, 6, 5, 4, 14, 9, 8, 13, 12, 11, 10], [], [], []⟩, ⟨[18, 17, 16, 3, 2, 1, 0, 15, 7, 6, 5, 4, 14, 9, 8, 13, 12, 11, 10], [], [], []⟩, ⟨[19, 18, 17, 16, 3, 2, 1, 0, 15, 7, 6, 5, 4, 14, 9, 8, 13, 12, 11, 10], [], [], []⟩, ⟨[20, 19, 18, 17, 16, 3, 2, 1, 0, 15, 7, 6, 5, 4, 14, 9, 8, 13, 12, 11, 10], [], [], []⟩, ⟨[21, 20, 19, 18, 17, 16, 3, 2, 1, 0, 15, 7, 6, 5, 4, 14, 9, 8, 13, 12, 11, 10], [], [], []⟩, ⟨[22, 21, 20, 19, 18, 17, 16, 3, 2, 1, 0, 15, 7, 6, 5, 4, 14, 9, 8, 13, 12, 11, 10], [], [], []⟩, ⟨[23, 22, 21, 20, 19, 18, 17, 16, 3, 2, 1, 0, 15, 7, 6, 5, 4, 14, 9, 8, 13, 12, 11, 10], [], [], []⟩, ⟨[21, 20, 19, 18, 17, 16, 3, 2, 1, 0, 15, 7, 6, 5, 4, 14, 9, 8, 13, 12, 11, 10, 24, 23, 22], [], [], []⟩, ⟨[17, 16, 3, 2, 1, 0, 15, 7, 6, 5, 4, 14, 9, 8, 13, 12, 11, 10, 25, 21, 20, 19, 18, 24, 23, 22], [], [], []⟩]),
  (5, [⟨[], [], [], []⟩, ⟨[0], [], [], []⟩, ⟨[1, 0], [], [], []⟩, ⟨[2, 1, 0], [], [], []⟩, ⟨[3, 2, 1, 0], [], [43, 44, 45, 46], []⟩, ⟨[4, 3, 2, 1, 0], [], [43, 44, 45, 46], []⟩, ⟨[3, 2, 1, 0], [], [41, 42], []⟩, ⟨[6, 3, 2, 1, 0], [], [41, 42], []⟩, ⟨[7, 6, 3, 2, 1, 0], [], [41, 42], []⟩, ⟨[8, 7, 6, 3, 2, 1, 0], [], [41, 42], []⟩, ⟨[5, 4, 3, 2, 1, 0, 9, 8, 7, 6], [], [], []⟩, ⟨[3, 2, 1, 0, 10, 5, 4, 9, 8, 7, 6], [], [], []⟩, ⟨[11, 3, 2, 1, 0, 10, 5, 4, 9, 8, 7, 6], [], [], []⟩, ⟨[12, 11, 3, 2, 1, 0, 10, 5, 4, 9, 8, 7, 6], [], [], []⟩, ⟨[13, 12, 11, 3, 2, 1, 0, 10, 5, 4, 9, 8, 7, 6], [], [], []⟩, ⟨[14, 13, 12, 11, 3, 2, 1, 0, 10, 5, 4, 9, 8, 7, 6], [], [], []⟩, ⟨[15, 14, 13, 12, 11, 3, 2, 1, 0, 10, 5, 4, 9, 8, 7, 6], [], [], []⟩, ⟨[16, 15, 14, 13, 12, 11, 3, 2, 1, 0, 10, 5, 4, 9, 8, 7, 6], [], [], []⟩, ⟨[17, 16, 15, 14, 13, 12, 11, 3, 2, 1, 0, 10, 5, 4, 9, 8, 7, 6], [], [], []⟩, ⟨[18, 17, 16, 15, 14, 13, 12, 11, 3, 2, 1, 0, 10, 5, 4, 9, 8, 7, 6], [], [], []⟩, ⟨[16, 15, 14, 13, 12, 11, 3, 2, 1, 0, 10, 5, 4, 9, 8, 7, 6, 19, 18, 17], [], [], []⟩, ⟨[12, 11, 3, 2, 1, 0, 10, 5, 4, 9, 8, 7, 6, 20, 16, 15, 14, 13, 19, 18, 17], [], [], []⟩])], [(100025, circ_one.c100025r), (27, circ_one.c27r), (20, circ_one.c20r), (100012, circ_one.c100012r), (14, circ_one.c14r), (7, circ_one.c7r), (5, circ_one.c5r), (3, circ_one.c3r), (1, circ_one.c1r)], [], tab_eqs⟩
theorem circ_one.eq (x_ : densU circ_one.mc.pre.tys) : denM circ_one.G Try.f30 circ_one.mc.pre circ_one.mc.post x_ = circ_one.mc.F x_ := by kernel_rfl
theorem circ_one.p0 : PcA circ_one.G Try.f30 0 :=
  region_ok (s := circ_one.c1r) (by kernel_rfl) (by kernel_rfl) (sums_of (sh := circ_one.c1s) (fun ρ x_ k_ => (nat_br nat_leaf nat_leaf)) (fun ρ x_ t k => (by kernel_rfl)) (fun x_ => by kernel_rfl))
theorem circ_one.p1 : PcA circ_one.G Try.f30 1 :=
  region_ok (s := circ_one.c3r) (by kernel_rfl) (by kernel_rfl) (sums_of (sh := circ_one.c3s) (fun ρ x_ k_ => (nat_br nat_leaf (nat_br nat_leaf (nat_bnd fun _ => (nat_br nat_leaf nat_leaf))))) (fun ρ x_ t k => (by kernel_rfl)) (fun x_ => by kernel_rfl))
theorem circ_one.p2 : PcA circ_one.G Try.f30 2 :=
  region_ok (s := circ_one.c5r) (by kernel_rfl) (by kernel_rfl) (sums_of (sh := circ_one.c5s) (fun ρ x_ k_ => (nat_br nat_leaf (nat_br nat_leaf (nat_br nat_leaf nat_leaf)))) (fun ρ x_ t k => (by kernel_rfl)) (fun x_ => by kernel_rfl))
theorem circ_one.p3 : PcA circ_one.G Try.f30 3 :=
  region_ok (s := circ_one.c7r) (by kernel_rfl) (by kernel_rfl) (sums_of (sh := circ_one.c7s) (fun ρ x_ k_ => (nat_br (nat_bnd fun _ => nat_leaf) nat_leaf)) (fun ρ x_ t k => (by kernel_rfl)) (fun x_ => by kernel_rfl))
theorem circ_one.p4 : PcA circ_one.G Try.f30 4 :=
  loop_ok (s := circ_one.c100012r) (by kernel_rfl) (by kernel_rfl) (loops_of (sh := circ_one.c100012s) (I := fun x_ s_ => (x_.1, x_.2.1, x_.2.2.1, x_.2.2.2.1, s_.1, x_.2.2.2.2.2.1, x_.2.2.2.2.2.2.1, x_.2.2.2.2.2.2.2.1, x_.2.2.2.2.2.2.2.2.1, x_.2.2.2.2.2.2.2.2.2.1, x_.2.2.2.2.2.2.2.2.2.2.1, s_.2, x_.2.2.2.2.2.2.2.2.2.2.2.2)) (fun x_ => rfl) (fun ρ x_ s_ k_ => (nat_br (nat_bnd fun _ => (nat_bnd fun _ => (nat_br nat_leaf (nat_bnd fun _ => (nat_bnd fun _ => (nat_bnd fun _ => (nat_br nat_leaf (nat_bnd fun _ => (nat_bnd fun _ => (nat_bnd fun _ => nat_leaf)))))))))) nat_leaf)) (fun ρ x_ t k => (nat_sel (fun _ => (by kernel_rfl)) (fun _ => (by kernel_rfl)))) (fun x_ s => by kernel_rfl))
theorem circ_one.p5 : PcA circ_one.G Try.f30 5 :=
  region_ok (s := circ_one.c14r) (by kernel_rfl) (by kernel_rfl) (sums_of (sh := circ_one.c14s) (fun ρ x_ k_ => (nat_br nat_leaf nat_leaf)) (fun ρ x_ t k => (by kernel_rfl)) (fun x_ => by kernel_rfl))
theorem circ_one.p6 : PcA circ_one.G Try.f30 6 :=
  region_ok (s := circ_one.c20r) (by kernel_rfl) (by kernel_rfl) (sums_of (sh := circ_one.c20s) (fun ρ x_ k_ => (nat_br (nat_br nat_leaf (nat_br nat_leaf (nat_br nat_leaf nat_leaf))) (nat_br nat_leaf nat_leaf))) (fun ρ x_ t k => (by kernel_rfl)) (fun x_ => by kernel_rfl))
theorem circ_one.p7 : PcA circ_one.G Try.f30 7 :=
  loop_ok (s := circ_one.c100025r) (by kernel_rfl) (by kernel_rfl) (loops_of (sh := circ_one.c100025s) (I := fun x_ s_ => (x_.1, x_.2.1, x_.2.2.1, x_.2.2.2.1, x_.2.2.2.2.1, x_.2.2.2.2.2.1, x_.2.2.2.2.2.2.1, s_, x_.2.2.2.2.2.2.2.2)) (fun x_ => rfl) (fun ρ x_ s_ k_ => (nat_br (nat_bnd fun _ => (nat_bnd fun _ => (nat_br nat_leaf nat_leaf))) nat_leaf)) (fun ρ x_ t k => (nat_sel (fun _ => (by kernel_rfl)) (fun _ => (by kernel_rfl)))) (fun x_ s => by kernel_rfl))
theorem circ_one.p8 : PcA circ_one.G Try.f30 8 :=
  region_ok (s := circ_one.c27r) (by kernel_rfl) (by kernel_rfl) (sums_of (sh := circ_one.c27s) (fun ρ x_ k_ => (nat_br nat_leaf (nat_br nat_leaf nat_leaf))) (fun ρ x_ t k => (by kernel_rfl)) (fun x_ => by kernel_rfl))
theorem circ_one.ok : MOk Try.prog 30 circ_one.mc := fnm_ok (G := circ_one.G) tab_ok mixed Try.func30 ⟨(fns_cons circ_turns.ok (fns_cons circ_gate.ok fns_nil)), mfns_nil, tab_eqs_ok⟩ (m := 9) (by kernel_rfl) ⟨⟨⟨⟨⟨⟨⟨⟨⟨trivial, circ_one.p0⟩, circ_one.p1⟩, circ_one.p2⟩, circ_one.p3⟩, circ_one.p4⟩, circ_one.p5⟩, circ_one.p6⟩, circ_one.p7⟩, circ_one.p8⟩ (by kernel_rfl) circ_one.eq
abbrev lb17 : SO := .box [.val (.int .i64), .val (.int .i64)]
abbrev lb18 : SD := .one (.val (.sl (.st (.pair (.int .i64) (.pair (.int .i64) (.pair (.sl (.int .i64)) (.pair (.int .i64) (.pair (.int .i64) (.sl (.int .i64))))))))))
def circ_Check.c1 {ρ : Type} (c0 : Int) (k_ : Bool → Option ρ) : Option ρ :=
  br (decide (c0 < (1 : Int)))
   (k_ true)
   (k_ (decide (c0 > (12 : Int))))
def circ_Check.c1s : Shape := ⟨[(0, lb4), (1, lb5), (2, lb6)], [(1, lb8), (2, lb17)]⟩
def circ_Check.c1x0 : Shape := ⟨[(0, lb4), (1, lb5), (2, lb6), (6, lb11)], [(1, lb8), (2, lb17)]⟩
def circ_Check.c1r : Ck := Ck.of (T := Bool) circ_Check.c1s (fun ρ x_ k_ => circ_Check.c1 x_.2.1 k_) (fun ρ x_ r_ k_ => k_ 0 (Shape.inj circ_Check.c1x0 (x_.1, r_, x_.2)))
def circ_Check.c3 {ρ : Type} (c1 : Int) (k_ : Bool → Option ρ) : Option ρ :=
  br (decide (c1 < (0 : Int)))
   (k_ true)
   (k_ (decide (c1 > (12 : Int))))
def circ_Check.c3s : Shape := circ_Check.c1s
def circ_Check.c3x0 : Shape := ⟨[(0, lb4), (1, lb5), (2, lb6), (16, lb11)], [(1, lb8), (2, lb17)]⟩
def circ_Check.c3r : Ck := Ck.of (T := Bool) circ_Check.c3s (fun ρ x_ k_ => circ_Check.c3 x_.2.2.1 k_) (fun ρ x_ r_ k_ => k_ 0 (Shape.inj circ_Check.c3x0 (x_.1, r_, x_.2)))
def circ_Check.c100008 {ρ : Type} (t33 : List ((Int) × ((Int) × ((List Int) × ((Int) × ((Int) × (List Int))))))) (t34 : Int) (t35 : Int) (c0 : Int) (c1 : Int) (c2 : List ((Int) × ((Int) × ((List Int) × ((Int) × ((Int) × (List Int))))))) (k_ : ((Int) × (Int) × (Int) × (List ((Int) × ((Int) × ((List Int) × ((Int) × ((Int) × (List Int)))))))) ⊕ (((Int) × (Int) × (Int) × (List ((Int) × ((Int) × ((List Int) × ((Int) × ((Int) × (List Int))))))) × (Int) × (Int)) ⊕ ((Int) × (Int) × (Int) × (List ((Int) × ((Int) × ((List Int) × ((Int) × ((Int) × (List Int))))))))) → Option ρ) : Option ρ :=
  br (decide (t35 < t34))
   (bnd (idx t33 t35) fun y =>
    bnd (W.circ_one (Prod.fst y, Prod.fst (Prod.snd y), Prod.fst (Prod.snd (Prod.snd y)), Prod.fst (Prod.snd (Prod.snd (Prod.snd y))), Prod.fst (Prod.snd (Prod.snd (Prod.snd (Prod.snd y)))), Prod.snd (Prod.snd (Prod.snd (Prod.snd (Prod.snd y))))) c0 c1 c2) fun y_1 =>
    br (Prod.fst y_1 != (0 : Int))
     (bnd (W.circ_fault (Prod.fst y_1) t35) fun y_2 =>
      k_ (.inr (.inl (t35, (Prod.fst y_1.2), (Prod.fst y_1.2.2), (Prod.fst y_1.2.2.2), (Prod.fst y_2), (Prod.snd y_2)))))
     (k_ (.inl ((IntKind.wrap IntKind.i64 (t35 + (1 : Int))), (Prod.fst y_1.2), (Prod.fst y_1.2.2), (Prod.fst y_1.2.2.2)))))
   (k_ (.inr (.inr (t35, c0, c1, c2))))
def circ_Check.c100008s : Shape := ⟨[(0, lb4), (1, lb5), (2, lb6), (33, lb18), (34, lb2), (35, lb2)], [(1, lb8), (2, lb17)]⟩
def circ_Check.c100008x0 : Shape := circ_Check.c100008s
def circ_Check.c100008x1 : Shape := circ_Check.c100008s
def circ_Check.c100008r : Ck := Ck.ofLoop (S := (Int) × (Int) × (Int) × (List ((Int) × ((Int) × ((List Int) × ((Int) × ((Int) × (List Int)))))))) (T := ((Int) × (Int) × (Int) × (List ((Int) × ((Int) × ((List Int) × ((Int) × ((Int) × (List Int))))))) × (Int) × (Int)) ⊕ ((Int) × (Int) × (Int) × (List ((Int) × ((Int) × ((List Int) × ((Int) × ((Int) × (List Int))))))))) circ_Check.c100008s (fun x_ => (x_.2.2.2.1, x_.2.2.2.2.1, x_.2.2.2.2.2.1, x_.2.2.2.2.2.2.1)) (fun ρ x_ s_ k_ => circ_Check.c100008 x_.2.1 x_.2.2.1 s_.1 s_.2.1 s_.2.2.1 s_.2.2.2 k_) (fun ρ x_ r_ k_ => sel r_ (fun r_ => k_ 1 (Shape.inj circ_Check.c100008x0 (x_.1, x_.2.1, x_.2.2.1, r_.1, r_.2.1, r_.2.2.1, r_.2.2.2.1, r_.2.2.2.2.1, r_.2.2.2.2.2, ()))) (fun r_ => k_ 3 (Shape.inj circ_Check.c100008x1 (x_.1, x_.2.1, x_.2.2.1, r_.1, r_.2.1, r_.2.2.1, r_.2.2.2, x_.2.2.2.2.2.2.2))))
def circ_Check (c : (Int) × ((Int) × (List ((Int) × ((Int) × ((List Int) × ((Int) × ((Int) × (List Int))))))))) : Option ((Int) × (Int)) :=
  bnd (W.circ_Check.c1 (Prod.fst c) some) fun y =>
  br y
   (bnd (W.circ_fault (6 : Int) (0 : Int)) fun y_1 =>
    some (Prod.fst y_1, Prod.snd y_1))
   (bnd (W.circ_Check.c3 (Prod.fst (Prod.snd c)) some) fun y_2 =>
    br y_2
     (bnd (W.circ_fault (7 : Int) (0 : Int)) fun y_3 =>
      some (Prod.fst y_3, Prod.snd y_3))
     (br (decide ((↑(List.length (Prod.snd (Prod.snd c))) : Int) > (4096 : Int)))
       (bnd (W.circ_fault (2 : Int) (0 : Int)) fun y_4 =>
        some (Prod.fst y_4, Prod.snd y_4))
       (bnd (iter (fun s ↦ W.circ_Check.c100008 (Prod.snd (Prod.snd c)) (↑(List.length (Prod.snd (Prod.snd c))) : Int) (Prod.fst s) (Prod.fst (Prod.snd s)) (Prod.fst (Prod.snd (Prod.snd s))) (Prod.snd (Prod.snd (Prod.snd s))) some) ((0 : Int), Prod.fst c, Prod.fst (Prod.snd c), Prod.snd (Prod.snd c))) fun y_5 =>
        sel y_5
         (fun u => some (Prod.fst (Prod.snd (Prod.snd (Prod.snd (Prod.snd u)))), Prod.snd (Prod.snd (Prod.snd (Prod.snd (Prod.snd u))))))
         (fun v => some ((0 : Int), (0 : Int))))))
def circ_Check.ce : Go.Ql.Callee := ⟨[(.st (.pair (.int .i64) (.pair (.int .i64) (.sl (.st (.pair (.int .i64) (.pair (.int .i64) (.pair (.sl (.int .i64)) (.pair (.int .i64) (.pair (.int .i64) (.sl (.int .i64))))))))))))], [(.st (.pair (.int .i64) (.int .i64)))], fun x_ => circ_Check x_⟩
def circ_Check.G : Env := ⟨49, tab, [(29, circ_fault.ce)], [0, 1, 2, 3, 4, 5, 6, 16, 26, 33, 34, 35, 36, 43], [], [], [(100008, circ_Check.c100008r), (3, circ_Check.c3r), (1, circ_Check.c1r)], [(30, circ_one.mc)], tab_eqs⟩
theorem circ_Check.eq (x_ : dens circ_Check.ce.params) : den circ_Check.G Try.f17 circ_Check.ce.params circ_Check.ce.res x_ = circ_Check.ce.F x_ := by kernel_rfl
theorem circ_Check.p0 : PcA circ_Check.G Try.f17 0 :=
  region_ok (s := circ_Check.c1r) (by kernel_rfl) (by kernel_rfl) (sums_of (sh := circ_Check.c1s) (fun ρ x_ k_ => (nat_br nat_leaf nat_leaf)) (fun ρ x_ t k => (by kernel_rfl)) (fun x_ => by kernel_rfl))
theorem circ_Check.p1 : PcA circ_Check.G Try.f17 1 :=
  region_ok (s := circ_Check.c3r) (by kernel_rfl) (by kernel_rfl) (sums_of (sh := circ_Check.c3s) (fun ρ x_ k_ => (nat_br nat_leaf nat_leaf)) (fun ρ x_ t k => (by kernel_rfl)) (fun x_ => by kernel_rfl))
theorem circ_Check.p2 : PcA circ_Check.G Try.f17 2 :=
  loop_ok (s := circ_Check.c100008r) (by kernel_rfl) (by kernel_rfl) (loops_of (sh := circ_Check.c100008s) (I := fun x_ s_ => (x_.1, x_.2.1, x_.2.2.1, s_.1, s_.2.1, s_.2.2.1, s_.2.2.2, x_.2.2.2.2.2.2.2)) (fun x_ => rfl) (fun ρ x_ s_ k_ => (nat_br (nat_bnd fun _ => (nat_bnd fun _ => (nat_br (nat_bnd fun _ => nat_leaf) nat_leaf))) nat_leaf)) (fun ρ x_ t k => (nat_sel (fun _ => (by kernel_rfl)) (fun _ => (by kernel_rfl)))) (fun x_ s => by kernel_rfl))
theorem circ_Check.ok : CalleeOk Try.prog 17 circ_Check.ce := fn_ok (G := circ_Check.G) tab_ok mixed Try.func17 ⟨(fns_cons circ_fault.ok fns_nil), (mfns_cons circ_one.ok mfns_nil), tab_eqs_ok⟩ (m := 3) (by kernel_rfl) ⟨⟨⟨trivial, circ_Check.p0⟩, circ_Check.p1⟩, circ_Check.p2⟩ (by kernel_rfl) circ_Check.eq
def lower_spares.c208197 {ρ : Type} (t4 : Int) (o0 : Int) (o1 : Int) (k_ : Int → Option ρ) : Option ρ :=
  br (o0 == (4 : Int))
   (k_ o1)
   (k_ t4)
def lower_spares.c208197s : Shape := ⟨[(0, lb12), (1, lb5), (2, lb2), (3, lb2), (4, lb2)], [(1, lb14)]⟩
def lower_spares.c208197x0 : Shape := lower_spares.c208197s
def lower_spares.c208197r : Ck := Ck.of (T := Int) lower_spares.c208197s (fun ρ x_ k_ => lower_spares.c208197 x_.2.2.2.1 x_.2.2.2.2.1 x_.2.2.2.2.2.1 k_) (fun ρ x_ r_ k_ => k_ 0 (Shape.inj lower_spares.c208197x0 (x_.1, x_.2.1, x_.2.2.1, r_, x_.2.2.2.2)))
def lower_spares.c4 {ρ : Type} (r : Int) (t4 : Int) (o0 : Int) (k_ : Bool → Option ρ) : Option ρ :=
  br (r == (1 : Int))
   (k_ true)
   (br (t4 == (0 : Int))
     (k_ true)
     (k_ (o0 == (1 : Int))))
def lower_spares.c4s : Shape := lower_spares.c208197s
def lower_spares.c4x0 : Shape := ⟨[(0, lb12), (1, lb5), (2, lb2), (3, lb2), (4, lb2), (25, lb11)], [(1, lb14)]⟩
def lower_spares.c4r : Ck := Ck.of (T := Bool) lower_spares.c4s (fun ρ x_ k_ => lower_spares.c4 x_.2.2.1 x_.2.2.2.1 x_.2.2.2.2.1 k_) (fun ρ x_ r_ k_ => k_ 0 (Shape.inj lower_spares.c4x0 (x_.1, x_.2.1, x_.2.2.1, x_.2.2.2.1, r_, x_.2.2.2.2)))
def lower_spares.c100007 {ρ : Type} (r : Int) (t4 : Int) (j : Int) (k_ : (Int) ⊕ (Int) → Option ρ) : Option ρ :=
  bnd (okIf (decide ((0 : Int) ≤ IntKind.wrap IntKind.i64 (IntKind.wrap IntKind.i64 (r - j) - (1 : Int))))) fun y =>
  bnd (okIf (IntKind.wrap IntKind.i64 ((1 : Int) * (2 : Int) ^ Min.min (Int.toNat (IntKind.wrap IntKind.i64 (IntKind.wrap IntKind.i64 (r - j) - (1 : Int)))) (64 : Nat)) != (0 : Int))) fun y_1 =>
  br (Int.tmod t4 (IntKind.wrap IntKind.i64 ((1 : Int) * (2 : Int) ^ Min.min (Int.toNat (IntKind.wrap IntKind.i64 (IntKind.wrap IntKind.i64 (r - j) - (1 : Int)))) (64 : Nat))) != (0 : Int))
   (k_ (.inl (IntKind.wrap IntKind.i64 (j + (1 : Int)))))
   (k_ (.inr j))
def lower_spares.c100007s : Shape := ⟨[(0, lb12), (1, lb5), (2, lb2), (3, lb2), (4, lb2), (5, lb2)], [(1, lb14)]⟩
def lower_spares.c100007x0 : Shape := lower_spares.c100007s
def lower_spares.c100007r : Ck := Ck.ofLoop (S := Int) (T := Int) lower_spares.c100007s (fun x_ => x_.2.2.2.2.1) (fun ρ x_ s_ k_ => lower_spares.c100007 x_.2.2.1 x_.2.2.2.1 s_ k_) (fun ρ x_ r_ k_ => k_ 2 (Shape.inj lower_spares.c100007x0 (x_.1, x_.2.1, x_.2.2.1, x_.2.2.2.1, r_, x_.2.2.2.2.2)))
def lower_spares (o : (Int) × ((Int) × ((List Int) × ((Int) × ((Int) × (List Int)))))) : Option (Int) :=
  bnd (W.lower_spares.c208197 (8 : Int) (Prod.fst o) (Prod.fst (Prod.snd o)) some) fun y =>
  bnd (W.lower_spares.c4 (IntKind.wrap IntKind.i64 ((↑(List.length (Prod.fst (Prod.snd (Prod.snd o)))) : Int) + (1 : Int))) y (Prod.fst o) some) fun y_1 =>
  br y_1
   (some (0 : Int))
   (bnd (iter (fun s ↦ W.lower_spares.c100007 (IntKind.wrap IntKind.i64 ((↑(List.length (Prod.fst (Prod.snd (Prod.snd o)))) : Int) + (1 : Int))) y s some) (0 : Int)) fun y_2 =>
    some y_2)
def lower_spares.ce : Go.Ql.Callee := ⟨[(.st (.pair (.int .i64) (.pair (.int .i64) (.pair (.sl (.int .i64)) (.pair (.int .i64) (.pair (.int .i64) (.sl (.int .i64))))))))], [(.int .i64)], fun x_ => lower_spares x_⟩
def lower_spares.G : Env := ⟨37, tab, [], [0, 1, 2, 3, 4, 5, 12, 25, 33], [], [], [(100007, lower_spares.c100007r), (4, lower_spares.c4r), (208197, lower_spares.c208197r)], [], tab_eqs⟩
theorem lower_spares.eq (x_ : dens lower_spares.ce.params) : den lower_spares.G Try.f18 lower_spares.ce.params lower_spares.ce.res x_ = lower_spares.ce.F x_ := by kernel_rfl
theorem lower_spares.p0 : PcA lower_spares.G Try.f18 0 :=
  join_ok (s := lower_spares.c208197r) (by kernel_rfl) (by kernel_rfl) (sums_of (sh := lower_spares.c208197s) (fun ρ x_ k_ => (nat_br nat_leaf nat_leaf)) (fun ρ x_ t k => (by kernel_rfl)) (fun x_ => by kernel_rfl))
theorem lower_spares.p1 : PcA lower_spares.G Try.f18 1 :=
  region_ok (s := lower_spares.c4r) (by kernel_rfl) (by kernel_rfl) (sums_of (sh := lower_spares.c4s) (fun ρ x_ k_ => (nat_br nat_leaf (nat_br nat_leaf nat_leaf))) (fun ρ x_ t k => (by kernel_rfl)) (fun x_ => by kernel_rfl))
theorem lower_spares.p2 : PcA lower_spares.G Try.f18 2 :=
  loop_ok (s := lower_spares.c100007r) (by kernel_rfl) (by kernel_rfl) (loops_of (sh := lower_spares.c100007s) (I := fun x_ s_ => (x_.1, x_.2.1, x_.2.2.1, x_.2.2.2.1, s_, x_.2.2.2.2.2)) (fun x_ => rfl) (fun ρ x_ s_ k_ => (nat_bnd fun _ => (nat_bnd fun _ => (nat_br nat_leaf nat_leaf)))) (fun ρ x_ t k => (by kernel_rfl)) (fun x_ s => by kernel_rfl))
theorem lower_spares.ok : CalleeOk Try.prog 18 lower_spares.ce := fn_ok (G := lower_spares.G) tab_ok mixed Try.func18 ⟨fns_nil, mfns_nil, tab_eqs_ok⟩ (m := 3) (by kernel_rfl) ⟨⟨⟨trivial, lower_spares.p0⟩, lower_spares.p1⟩, lower_spares.p2⟩ (by kernel_rfl) lower_spares.eq
abbrev lb19 : SD := .one (.ref 1000700 0)
abbrev lb20 : SO := .box [.ref 1000701 0, .val (.int .i64), .val (.sl (.int .i64))]
abbrev lb21 : SO := .box [.val (.int .i64), .val (.int .i64), .own 1000702 0]
def lower_maker_put.pre : Shape := ⟨[(0, lb19), (1, lb12)], [(1000700, lb20), (1000701, lb21), (1000702, lb10)]⟩
def lower_maker_put.post : Shape := ⟨[], [(1000702, lb10), (1000701, lb21), (1000700, lb20)]⟩
def lower_maker_put.c2 {ρ : Type} (o0 : Int) (o1 : Int) (o2 : List (Int)) (o3 : Int) (o4 : Int) (o5 : List (Int)) (t1000702 : List ((Int) × ((Int) × ((List Int) × ((Int) × ((Int) × (List Int))))))) (k_ : Unit → Option ρ) : Option ρ :=
  bnd (okIf (decide ((List.length t1000702 + (1 : Nat)) * (80 : Nat) ≤ (140737488355328 : Nat)) && decide (List.length t1000702 + (1 : Nat) ≤ (140737488355328 : Nat)))) fun y =>
  k_ ()
def lower_maker_put.c2s : Shape := ⟨[(0, lb19), (1, lb12), (3, lb7)], [(3, lb14), (1000700, lb20), (1000701, lb21), (1000702, lb10)]⟩
def lower_maker_put.c2x0 : Shape := lower_maker_put.c2s
def lower_maker_put.c2r : Ck := Ck.of (T := Unit) lower_maker_put.c2s (fun ρ x_ k_ => lower_maker_put.c2 x_.2.1 x_.2.2.1 x_.2.2.2.1 x_.2.2.2.2.1 x_.2.2.2.2.2.1 x_.2.2.2.2.2.2.1 x_.2.2.2.2.2.2.2.2.2.2.2.1 k_) (fun ρ x_ r_ k_ => k_ 0 (Shape.inj lower_maker_put.c2x0 (x_.1, x_.2.1, x_.2.2.1, x_.2.2.2.1, x_.2.2.2.2.1, x_.2.2.2.2.2.1, x_.2.2.2.2.2.2.1, x_.2.2.2.2.2.2.2.1, x_.2.2.2.2.2.2.2.2.1, x_.2.2.2.2.2.2.2.2.2.1, x_.2.2.2.2.2.2.2.2.2.2.1, (x_.2.2.2.2.2.2.2.2.2.2.2.1 ++ [(x_.2.1, x_.2.2.1, x_.2.2.2.1, x_.2.2.2.2.1, x_.2.2.2.2.2.1, x_.2.2.2.2.2.2.1)]), ())))
def lower_maker_put (o : (Int) × ((Int) × ((List Int) × ((Int) × ((Int) × (List Int)))))) (t10007001 : Int) (t10007002 : List (Int)) (t10007010 : Int) (t10007011 : Int) (t1000702 : List ((Int) × ((Int) × ((List Int) × ((Int) × ((Int) × (List Int))))))) : Option ((List ((Int) × ((Int) × ((List Int) × ((Int) × ((Int) × (List Int))))))) × (Int) × (Int) × (Int) × (List Int) × Unit) :=
  bnd (okIf (decide (((0 : Nat) + List.length t10007002) * (8 : Nat) ≤ (140737488355328 : Nat)) && decide ((0 : Nat) + List.length t10007002 ≤ (140737488355328 : Nat)))) fun y =>
  bnd (W.lower_maker_put.c2 (Prod.fst o) (Prod.fst (Prod.snd o)) (Prod.fst (Prod.snd (Prod.snd o))) (Prod.fst (Prod.snd (Prod.snd (Prod.snd o)))) (Prod.fst (Prod.snd (Prod.snd (Prod.snd (Prod.snd o))))) t10007002 t1000702 some) fun y_1 =>
  some (t1000702 ++ [(Prod.fst o, Prod.fst (Prod.snd o), Prod.fst (Prod.snd (Prod.snd o)), Prod.fst (Prod.snd (Prod.snd (Prod.snd o))), Prod.fst (Prod.snd (Prod.snd (Prod.snd (Prod.snd o)))), t10007002)], t10007010, t10007011, t10007001, t10007002, ())
def lower_maker_put.mc : MCallee := ⟨31, lower_maker_put.pre, lower_maker_put.post, fun x_ => lower_maker_put x_.1 x_.2.1 x_.2.2.1 x_.2.2.2.1 x_.2.2.2.2.1 x_.2.2.2.2.2.1⟩
def lower_maker_put.G : Env := ⟨26, tab, [], [0, 1, 3], [1000700, 1000701, 1000702], [(2, [⟨[], [], [14, 15, 16, 17, 18, 19, 20, 21, 22, 23], [22, 1000702]⟩, ⟨[0], [], [14, 15, 16, 17, 18, 19, 20, 21, 22, 23], [22, 1000702]⟩, ⟨[1, 0], [], [14, 15, 16, 17, 18, 19, 20, 21, 22, 23], [22, 1000702]⟩, ⟨[2, 1, 0], [], [14, 15, 16, 17, 18, 19, 20, 21, 22, 23], [22, 1000702]⟩, ⟨[], [], [10, 11, 12, 13, 21, 22], [22]⟩, ⟨[4], [], [10, 11, 12, 13, 21, 22], [22]⟩, ⟨[5, 4], [], [10, 11, 12, 13, 21, 22], [22]⟩, ⟨[6, 5, 4], [], [10, 11, 12, 13, 21, 22], [22]⟩, ⟨[7, 6, 5, 4], [], [10, 11, 12, 13, 21, 22], [22]⟩, ⟨[8, 7, 6, 5, 4], [], [10, 11, 12, 13, 21, 22], [22]⟩, ⟨[9, 8, 7, 6, 5, 4], [], [10, 11, 12, 13, 21, 22], [22]⟩, ⟨[], [], [10, 11, 12, 13, 14, 15, 16, 17, 18, 19, 20], []⟩, ⟨[11], [22], [10, 11, 12, 13, 14, 15, 16, 17, 18, 19, 20], []⟩, ⟨[10, 9, 8, 7, 6, 5, 4, 12, 11], [1000702], [10, 11, 12, 13], []⟩, ⟨[3, 2, 1, 0, 4, 5, 6, 7, 8, 9, 10, 11, 12, 13], [], [], []⟩, ⟨[14, 3, 2, 1, 0, 4, 5, 6, 7, 8, 9, 10, 11, 12, 13], [], [], []⟩, ⟨[15, 14, 3, 2, 1, 0, 4, 5, 6, 7, 8, 9, 10, 11, 12, 13], [1000701], [], []⟩])], [(2, lower_maker_put.c2r)], [], tab_eqs⟩
theorem lower_maker_put.eq (x_ : densU lower_maker_put.mc.pre.tys) : denM lower_maker_put.G Try.f31 lower_maker_put.mc.pre lower_maker_put.mc.post x_ = lower_maker_put.mc.F x_ := by kernel_rfl
theorem lower_maker_put.p0 : PcA lower_maker_put.G Try.f31 0 :=
  region_ok (s := lower_maker_put.c2r) (by kernel_rfl) (by kernel_rfl) (sums_of (sh := lower_maker_put.c2s) (fun ρ x_ k_ => (nat_bnd fun _ => nat_leaf)) (fun ρ x_ t k => (by kernel_rfl)) (fun x_ => by kernel_rfl))
theorem lower_maker_put.ok : MOk Try.prog 31 lower_maker_put.mc := fnm_ok (G := lower_maker_put.G) tab_ok mixed Try.func31 ⟨fns_nil, mfns_nil, tab_eqs_ok⟩ (m := 1) (by kernel_rfl) ⟨trivial, lower_maker_put.p0⟩ (by kernel_rfl) lower_maker_put.eq
def lower_maker_turn.pre : Shape := ⟨[(0, lb19), (1, lb2), (2, lb2)], [(1000700, lb20), (1000701, lb21), (1000702, lb10)]⟩
def lower_maker_turn.post : Shape := ⟨[], [(1000702, lb10), (1000701, lb21), (1000700, lb20)]⟩
def lower_maker_turn (q : Int) (t2 : Int) (t10007001 : Int) (t10007002 : List (Int)) (t10007010 : Int) (t10007011 : Int) (t1000702 : List ((Int) × ((Int) × ((List Int) × ((Int) × ((Int) × (List Int))))))) : Option ((List ((Int) × ((Int) × ((List Int) × ((Int) × ((Int) × (List Int))))))) × (Int) × (Int) × (Int) × (List Int) × Unit) :=
  br (Int.tmod (IntKind.wrap IntKind.i64 (Int.tmod t2 (16 : Int) + (16 : Int))) (16 : Int) != (0 : Int))
   (bnd (W.lower_maker_put ((4 : Int), Int.tmod (IntKind.wrap IntKind.i64 (Int.tmod t2 (16 : Int) + (16 : Int))) (16 : Int), [], q, (0 : Int), []) t10007001 t10007002 t10007010 t10007011 t1000702) fun y =>
    some (Prod.fst y, Prod.fst y.2, Prod.fst y.2.2, Prod.fst y.2.2.2, Prod.fst y.2.2.2.2, ()))
   (some (t1000702, t10007010, t10007011, t10007001, t10007002, ()))
def lower_maker_turn.mc : MCallee := ⟨34, lower_maker_turn.pre, lower_maker_turn.post, fun x_ => lower_maker_turn x_.1 x_.2.1 x_.2.2.1 x_.2.2.2.1 x_.2.2.2.2.1 x_.2.2.2.2.2.1 x_.2.2.2.2.2.2.1⟩
def lower_maker_turn.G : Env := ⟨17, tab, [], [0, 1, 2, 11], [1000700, 1000701, 1000702], [], [], [(31, lower_maker_put.mc)], tab_eqs⟩
theorem lower_maker_turn.eq (x_ : densU lower_maker_turn.mc.pre.tys) : denM lower_maker_turn.G Try.f34 lower_maker_turn.mc.pre lower_maker_turn.mc.post x_ = lower_maker_turn.mc.F x_ := by kernel_rfl
theorem lower_maker_turn.ok : MOk Try.prog 34 lower_maker_turn.mc := fnm_ok (G := lower_maker_turn.G) tab_ok mixed Try.func34 ⟨fns_nil, (mfns_cons lower_maker_put.ok mfns_nil), tab_eqs_ok⟩ (m := 0) (by kernel_rfl) trivial (by kernel_rfl) lower_maker_turn.eq
def lower_maker_cx.pre : Shape := ⟨[(0, lb19), (1, lb2), (2, lb2)], [(1000700, lb20), (1000701, lb21), (1000702, lb10)]⟩
def lower_maker_cx.post : Shape := ⟨[], [(1000702, lb10), (1000701, lb21), (1000700, lb20)]⟩
def lower_maker_cx (a : Int) (q : Int) (t10007001 : Int) (t10007002 : List (Int)) (t10007010 : Int) (t10007011 : Int) (t1000702 : List ((Int) × ((Int) × ((List Int) × ((Int) × ((Int) × (List Int))))))) : Option ((List ((Int) × ((Int) × ((List Int) × ((Int) × ((Int) × (List Int))))))) × (Int) × (Int) × (Int) × (List Int) × Unit) :=
  bnd (W.lower_maker_put ((2 : Int), (0 : Int), [a], q, (0 : Int), []) t10007001 t10007002 t10007010 t10007011 t1000702) fun y =>
  some (Prod.fst y, Prod.fst y.2, Prod.fst y.2.2, Prod.fst y.2.2.2, Prod.fst y.2.2.2.2, ())
def lower_maker_cx.mc : MCallee := ⟨49, lower_maker_cx.pre, lower_maker_cx.post, fun x_ => lower_maker_cx x_.1 x_.2.1 x_.2.2.1 x_.2.2.2.1 x_.2.2.2.2.1 x_.2.2.2.2.2.1 x_.2.2.2.2.2.2.1⟩
def lower_maker_cx.G : Env := ⟨12, tab, [], [0, 1, 2], [1000700, 1000701, 1000702], [], [], [(31, lower_maker_put.mc)], tab_eqs⟩
theorem lower_maker_cx.eq (x_ : densU lower_maker_cx.mc.pre.tys) : denM lower_maker_cx.G Try.f49 lower_maker_cx.mc.pre lower_maker_cx.mc.post x_ = lower_maker_cx.mc.F x_ := by kernel_rfl
theorem lower_maker_cx.ok : MOk Try.prog 49 lower_maker_cx.mc := fnm_ok (G := lower_maker_cx.G) tab_ok mixed Try.func49 ⟨fns_nil, (mfns_cons lower_maker_put.ok mfns_nil), tab_eqs_ok⟩ (m := 0) (by kernel_rfl) trivial (by kernel_rfl) lower_maker_cx.eq
abbrev lb22 : SD := .one (.ref 1000720 0)
abbrev lb23 : SD := .one (.ref 1000740 0)
abbrev lb24 : SD := .one (.ref 1000760 0)
abbrev lb25 : SO := .box [.val (.sl (.int .i64))]
abbrev lb26 : SO := .box [.val (.int .i64)]
abbrev lb27 : SO := .box [.ref 1000761 0]
abbrev lb28 : SO := .box [.ref 1000762 0, .val (.int .i64), .val (.sl (.int .i64))]
abbrev lb29 : SO := .box [.val (.int .i64), .val (.int .i64), .own 1000763 0]
def lower_maker_parities_1.pre : Shape := ⟨[(0, lb19), (1, lb22), (2, lb23), (3, lb24)], [(1000700, lb25), (1000720, lb26), (1000740, lb26), (1000760, lb27), (1000761, lb28), (1000762, lb29), (1000763, lb10)]⟩
def lower_maker_parities_1.post : Shape := ⟨[], [(1000763, lb10), (1000762, lb29), (1000761, lb28), (1000760, lb27), (1000740, lb26), (1000720, lb26), (1000700, lb25)]⟩
def lower_maker_parities_1.c3 {ρ : Type} (i : Int) (q : Int) (t10007200 : Int) (t10007400 : Int) (k_ : Bool → Option ρ) : Option ρ :=
  bnd (okIf (decide ((0 : Int) ≤ i))) fun y =>
  br (ibits BinOp.and IntKind.i64 (Int.fdiv t10007200 ((2 : Int) ^ Min.min (Int.toNat i) (64 : Nat))) (1 : Int) == (1 : Int))
   (k_ (q != t10007400))
   (k_ false)
def lower_maker_parities_1.c3s : Shape := ⟨[(0, lb19), (1, lb22), (2, lb23), (3, lb24), (4, lb2), (5, lb2), (6, lb0), (7, lb2), (8, lb2)], [(1000700, lb25), (1000720, lb26), (1000740, lb26), (1000760, lb27), (1000761, lb28), (1000762, lb29), (1000763, lb10)]⟩
def lower_maker_parities_1.c3x0 : Shape := ⟨[(0, lb19), (1, lb22), (2, lb23), (3, lb24), (4, lb2), (5, lb2), (6, lb0), (7, lb2), (8, lb2), (22, lb11)], [(1000700, lb25), (1000720, lb26), (1000740, lb26), (1000760, lb27), (1000761, lb28), (1000762, lb29), (1000763, lb10)]⟩
def lower_maker_parities_1.c3r : Ck := Ck.of (T := Bool) lower_maker_parities_1.c3s (fun ρ x_ k_ => lower_maker_parities_1.c3 x_.1 x_.2.1 x_.2.2.2.2.2.2.1 x_.2.2.2.2.2.2.2.1 k_) (fun ρ x_ r_ k_ => k_ 0 (Shape.inj lower_maker_parities_1.c3x0 (x_.1, x_.2.1, x_.2.2.1, x_.2.2.2.1, x_.2.2.2.2.1, r_, x_.2.2.2.2.2)))
def lower_maker_parities_1.c208200 {ρ : Type} (t6 : List (Int)) (t8 : Int) (t10007200 : Int) (t10007400 : Int) (t10007611 : Int) (t10007612 : List (Int)) (t10007620 : Int) (t10007621 : Int) (t1000763 : List ((Int) × ((Int) × ((List Int) × ((Int) × ((Int) × (List Int))))))) (k_ : (Int) × (List Int) × (Int) × (Int) × (List ((Int) × ((Int) × ((List Int) × ((Int) × ((Int) × (List Int))))))) → Option ρ) : Option ρ :=
  bnd (idx t6 t8) fun y =>
  bnd (W.lower_maker_parities_1.c3 t8 y t10007200 t10007400 some) fun y_1 =>
  br y_1
   (bnd (W.lower_maker_cx y t10007400 t10007611 t10007612 t10007620 t10007621 t1000763) fun y_2 =>
    k_ ((Prod.fst y_2.2.2.2), (Prod.fst y_2.2.2.2.2), (Prod.fst y_2.2), (Prod.fst y_2.2.2), (Prod.fst y_2)))
   (k_ (t10007611, t10007612, t10007620, t10007621, t1000763))
def lower_maker_parities_1.c208200s : Shape := ⟨[(0, lb19), (1, lb22), (2, lb23), (3, lb24), (6, lb0), (7, lb2), (8, lb2)], [(1000700, lb25), (1000720, lb26), (1000740, lb26), (1000760, lb27), (1000761, lb28), (1000762, lb29), (1000763, lb10)]⟩
def lower_maker_parities_1.c208200x0 : Shape := lower_maker_parities_1.c208200s
def lower_maker_parities_1.c208200r : Ck := Ck.of (T := (Int) × (List Int) × (Int) × (Int) × (List ((Int) × ((Int) × ((List Int) × ((Int) × ((Int) × (List Int)))))))) lower_maker_parities_1.c208200s (fun ρ x_ k_ => lower_maker_parities_1.c208200 x_.1 x_.2.2.1 x_.2.2.2.2.1 x_.2.2.2.2.2.1 x_.2.2.2.2.2.2.1 x_.2.2.2.2.2.2.2.1 x_.2.2.2.2.2.2.2.2.1 x_.2.2.2.2.2.2.2.2.2.1 x_.2.2.2.2.2.2.2.2.2.2.1 k_) (fun ρ x_ r_ k_ => k_ 0 (Shape.inj lower_maker_parities_1.c208200x0 (x_.1, x_.2.1, x_.2.2.1, x_.2.2.2.1, x_.2.2.2.2.1, x_.2.2.2.2.2.1, r_.1, r_.2.1, r_.2.2.1, r_.2.2.2.1, r_.2.2.2.2, ())))
def lower_maker_parities_1.c100001 {ρ : Type} (t6 : List (Int)) (t7 : Int) (t8 : Int) (t10007200 : Int) (t10007400 : Int) (t10007611 : Int) (t10007612 : List (Int)) (t10007620 : Int) (t10007621 : Int) (t1000763 : List ((Int) × ((Int) × ((List Int) × ((Int) × ((Int) × (List Int))))))) (k_ : ((Int) × (Int) × (List Int) × (Int) × (Int) × (List ((Int) × ((Int) × ((List Int) × ((Int) × ((Int) × (List Int)))))))) ⊕ ((Int) × (Int) × (List Int) × (Int) × (Int) × (List ((Int) × ((Int) × ((List Int) × ((Int) × ((Int) × (List Int)))))))) → Option ρ) : Option ρ :=
  br (decide (t8 < t7))
   (bnd (W.lower_maker_parities_1.c208200 t6 t8 t10007200 t10007400 t10007611 t10007612 t10007620 t10007621 t1000763 some) fun y =>
    k_ (.inl ((IntKind.wrap IntKind.i64 (t8 + (1 : Int))), (Prod.fst y), (Prod.fst (Prod.snd y)), (Prod.fst (Prod.snd (Prod.snd y))), (Prod.fst (Prod.snd (Prod.snd (Prod.snd y)))), (Prod.snd (Prod.snd (Prod.snd (Prod.snd y)))))))
   (k_ (.inr (t8, t10007611, t10007612, t10007620, t10007621, t1000763)))
def lower_maker_parities_1.c100001s : Shape := lower_maker_parities_1.c208200s
def lower_maker_parities_1.c100001x0 : Shape := lower_maker_parities_1.c208200s
def lower_maker_parities_1.c100001r : Ck := Ck.ofLoop (S := (Int) × (Int) × (List Int) × (Int) × (Int) × (List ((Int) × ((Int) × ((List Int) × ((Int) × ((Int) × (List Int)))))))) (T := (Int) × (Int) × (List Int) × (Int) × (Int) × (List ((Int) × ((Int) × ((List Int) × ((Int) × ((Int) × (List Int)))))))) lower_maker_parities_1.c100001s (fun x_ => (x_.2.2.1, x_.2.2.2.2.2.2.1, x_.2.2.2.2.2.2.2.1, x_.2.2.2.2.2.2.2.2.1, x_.2.2.2.2.2.2.2.2.2.1, x_.2.2.2.2.2.2.2.2.2.2.1)) (fun ρ x_ s_ k_ => lower_maker_parities_1.c100001 x_.1 x_.2.1 s_.1 x_.2.2.2.2.1 x_.2.2.2.2.2.1 s_.2.1 s_.2.2.1 s_.2.2.2.1 s_.2.2.2.2.1 s_.2.2.2.2.2 k_) (fun ρ x_ r_ k_ => k_ 2 (Shape.inj lower_maker_parities_1.c100001x0 (x_.1, x_.2.1, r_.1, x_.2.2.2.1, x_.2.2.2.2.1, x_.2.2.2.2.2.1, r_.2.1, r_.2.2.1, r_.2.2.2.1, r_.2.2.2.2.1, r_.2.2.2.2.2, ())))
def lower_maker_parities_1 (t10007000 : List (Int)) (t10007200 : Int) (t10007400 : Int) (t10007611 : Int) (t10007612 : List (Int)) (t10007620 : Int) (t10007621 : Int) (t1000763 : List ((Int) × ((Int) × ((List Int) × ((Int) × ((Int) × (List Int))))))) : Option ((List ((Int) × ((Int) × ((List Int) × ((Int) × ((Int) × (List Int))))))) × (Int) × (Int) × (Int) × (List Int) × (Int) × (Int) × (List Int) × Unit) :=
  bnd (iter (fun s ↦ W.lower_maker_parities_1.c100001 t10007000 (↑(List.length t10007000) : Int) (Prod.fst s) t10007200 t10007400 (Prod.fst (Prod.snd s)) (Prod.fst (Prod.snd (Prod.snd s))) (Prod.fst (Prod.snd (Prod.snd (Prod.snd s)))) (Prod.fst (Prod.snd (Prod.snd (Prod.snd (Prod.snd s))))) (Prod.snd (Prod.snd (Prod.snd (Prod.snd (Prod.snd s))))) some) ((0 : Int), t10007611, t10007612, t10007620, t10007621, t1000763)) fun y =>
  some (Prod.snd (Prod.snd (Prod.snd (Prod.snd (Prod.snd y)))), Prod.fst (Prod.snd (Prod.snd (Prod.snd y))), Prod.fst (Prod.snd (Prod.snd (Prod.snd (Prod.snd y)))), Prod.fst (Prod.snd y), Prod.fst (Prod.snd (Prod.snd y)), t10007400, t10007200, t10007000, ())
def lower_maker_parities_1.mc : MCallee := ⟨55, lower_maker_parities_1.pre, lower_maker_parities_1.post, fun x_ => lower_maker_parities_1 x_.1 x_.2.1 x_.2.2.1 x_.2.2.2.1 x_.2.2.2.2.1 x_.2.2.2.2.2.1 x_.2.2.2.2.2.2.1 x_.2.2.2.2.2.2.2.1⟩
def lower_maker_parities_1.G : Env := ⟨28, tab, [], [0, 1, 2, 3, 4, 5, 6, 7, 8, 9, 22], [1000700, 1000720, 1000740, 1000760, 1000761, 1000762, 1000763], [], [(100001, lower_maker_parities_1.c100001r), (208200, lower_maker_parities_1.c208200r), (3, lower_maker_parities_1.c3r)], [(49, lower_maker_cx.mc)], tab_eqs⟩
theorem lower_maker_parities_1.eq (x_ : densU lower_maker_parities_1.mc.pre.tys) : denM lower_maker_parities_1.G Try.f55 lower_maker_parities_1.mc.pre lower_maker_parities_1.mc.post x_ = lower_maker_parities_1.mc.F x_ := by kernel_rfl
theorem lower_maker_parities_1.p0 : PcA lower_maker_parities_1.G Try.f55 0 :=
  loop_ok (s := lower_maker_parities_1.c100001r) (by kernel_rfl) (by kernel_rfl) (loops_of (sh := lower_maker_parities_1.c100001s) (I := fun x_ s_ => (x_.1, x_.2.1, s_.1, x_.2.2.2.1, x_.2.2.2.2.1, x_.2.2.2.2.2.1, s_.2.1, s_.2.2.1, s_.2.2.2.1, s_.2.2.2.2.1, s_.2.2.2.2.2, ())) (fun x_ => rfl) (fun ρ x_ s_ k_ => (nat_br (nat_bnd fun _ => nat_leaf) nat_leaf)) (fun ρ x_ t k => (by kernel_rfl)) (fun x_ s => by kernel_rfl))
theorem lower_maker_parities_1.p1 : PcA lower_maker_parities_1.G Try.f55 1 :=
  join_ok (s := lower_maker_parities_1.c208200r) (by kernel_rfl) (by kernel_rfl) (sums_of (sh := lower_maker_parities_1.c208200s) (fun ρ x_ k_ => (nat_bnd fun _ => (nat_bnd fun _ => (nat_br (nat_bnd fun _ => nat_leaf) nat_leaf)))) (fun ρ x_ t k => (by kernel_rfl)) (fun x_ => by kernel_rfl))
theorem lower_maker_parities_1.p2 : PcA lower_maker_parities_1.G Try.f55 2 :=
  region_ok (s := lower_maker_parities_1.c3r) (by kernel_rfl) (by kernel_rfl) (sums_of (sh := lower_maker_parities_1.c3s) (fun ρ x_ k_ => (nat_bnd fun _ => (nat_br nat_leaf nat_leaf))) (fun ρ x_ t k => (by kernel_rfl)) (fun x_ => by kernel_rfl))
theorem lower_maker_parities_1.ok : MOk Try.prog 55 lower_maker_parities_1.mc := fnm_ok (G := lower_maker_parities_1.G) tab_ok mixed Try.func55 ⟨fns_nil, (mfns_cons lower_maker_cx.ok mfns_nil), tab_eqs_ok⟩ (m := 3) (by kernel_rfl) ⟨⟨⟨trivial, lower_maker_parities_1.p0⟩, lower_maker_parities_1.p1⟩, lower_maker_parities_1.p2⟩ (by kernel_rfl) lower_maker_parities_1.eq
abbrev lb30 : SD := .one (.ref 4 0)
abbrev lb31 : SD := .one (.ref 6 0)
abbrev lb32 : SO := .box [.ref 1000700 0]
abbrev lb33 : SD := .one (.ref 7 0)
abbrev lb34 : SD := .one (.clo 41)
abbrev lb35 : SO := .clo 55 [] [.ref 4 0, .ref 6 0, .ref 7 0, .ref 3 0]
def lower_maker_parities.pre : Shape := ⟨[(0, lb19), (1, lb0), (2, lb2)], [(1000700, lb20), (1000701, lb21), (1000702, lb10)]⟩
def lower_maker_parities.post : Shape := ⟨[], [(1000702, lb10), (1000701, lb21), (1000700, lb20)]⟩
def lower_maker_parities.c3 {ρ : Type} (qs0 : List (Int)) (k_ : Unit → Option ρ) : Option ρ :=
  bnd (okIf (decide ((0 : Int) ≤ (↑(List.length qs0) : Int)))) fun y =>
  k_ ()
def lower_maker_parities.c3s : Shape := ⟨[(0, lb19), (1, lb0), (2, lb2), (3, lb7), (4, lb30), (6, lb31)], [(3, lb32), (4, lb25), (6, lb26), (1000700, lb20), (1000701, lb21), (1000702, lb10)]⟩
def lower_maker_parities.c3x0 : Shape := ⟨[(0, lb19), (1, lb0), (2, lb2), (3, lb7), (4, lb30), (6, lb31), (22, lb11)], [(3, lb32), (4, lb25), (6, lb26), (1000700, lb20), (1000701, lb21), (1000702, lb10)]⟩
def lower_maker_parities.c3r : Ck := Ck.of (T := Unit) lower_maker_parities.c3s (fun ρ x_ k_ => lower_maker_parities.c3 x_.2.2.1 k_) (fun ρ x_ r_ k_ => k_ 0 (Shape.inj lower_maker_parities.c3x0 (x_.1, x_.2.1, (decide (x_.2.2.2.1 < IntKind.wrap IntKind.i64 ((1 : Int) * (2 : Int) ^ Min.min (Int.toNat (↑(List.length x_.2.2.1) : Int)) (64 : Nat)))), x_.2.2)))
def lower_maker_parities.c232778 {ρ : Type} (n : Int) (t25 : List (Int)) (t27 : Int) (t60 : Int) (last0 : Int) (k_ : (Int) × (Int) → Option ρ) : Option ρ :=
  bnd (idx t25 t27) fun y =>
  bnd (okIf (decide ((0 : Int) ≤ t27))) fun y_1 =>
  br (ibits BinOp.and IntKind.i64 (Int.fdiv t60 ((2 : Int) ^ Min.min (Int.toNat t27) (64 : Nat))) (1 : Int) == (1 : Int))
   (k_ ((IntKind.wrap IntKind.i64 (n + (1 : Int))), y))
   (k_ (n, last0))
def lower_maker_parities.c232778s : Shape := ⟨[(0, lb19), (1, lb0), (2, lb2), (3, lb7), (4, lb30), (6, lb31), (7, lb33), (8, lb2), (25, lb0), (26, lb2), (27, lb2)], [(3, lb32), (4, lb25), (6, lb26), (7, lb26), (1000700, lb20), (1000701, lb21), (1000702, lb10)]⟩
def lower_maker_parities.c232778x0 : Shape := lower_maker_parities.c232778s
def lower_maker_parities.c232778r : Ck := Ck.of (T := (Int) × (Int)) lower_maker_parities.c232778s (fun ρ x_ k_ => lower_maker_parities.c232778 x_.2.2.1 x_.2.2.2.1 x_.2.2.2.2.2.1 x_.2.2.2.2.2.2.2.1 x_.2.2.2.2.2.2.2.2.1 k_) (fun ρ x_ r_ k_ => k_ 0 (Shape.inj lower_maker_parities.c232778x0 (x_.1, x_.2.1, r_.1, x_.2.2.2.1, x_.2.2.2.2.1, x_.2.2.2.2.2.1, x_.2.2.2.2.2.2.1, x_.2.2.2.2.2.2.2.1, r_.2, x_.2.2.2.2.2.2.2.2.2)))
def lower_maker_parities.c100007 {ρ : Type} (n : Int) (t25 : List (Int)) (t26 : Int) (t27 : Int) (t60 : Int) (last0 : Int) (k_ : ((Int) × (Int) × (Int)) ⊕ ((Int) × (Int) × (Int)) → Option ρ) : Option ρ :=
  br (decide (t27 < t26))
   (bnd (W.lower_maker_parities.c232778 n t25 t27 t60 last0 some) fun y =>
    k_ (.inl ((Prod.fst y), (IntKind.wrap IntKind.i64 (t27 + (1 : Int))), (Prod.snd y))))
   (k_ (.inr (n, t27, last0)))
def lower_maker_parities.c100007s : Shape := lower_maker_parities.c232778s
def lower_maker_parities.c100007x0 : Shape := lower_maker_parities.c232778s
def lower_maker_parities.c100007r : Ck := Ck.ofLoop (S := (Int) × (Int) × (Int)) (T := (Int) × (Int) × (Int)) lower_maker_parities.c100007s (fun x_ => (x_.2.2.1, x_.2.2.2.2.2.1, x_.2.2.2.2.2.2.2.2.1)) (fun ρ x_ s_ k_ => lower_maker_parities.c100007 s_.1 x_.2.2.2.1 x_.2.2.2.2.1 s_.2.1 x_.2.2.2.2.2.2.2.1 s_.2.2 k_) (fun ρ x_ r_ k_ => k_ 4 (Shape.inj lower_maker_parities.c100007x0 (x_.1, x_.2.1, r_.1, x_.2.2.2.1, x_.2.2.2.2.1, r_.2.1, x_.2.2.2.2.2.2.1, x_.2.2.2.2.2.2.2.1, r_.2.2, x_.2.2.2.2.2.2.2.2.2)))
def lower_maker_parities.c261445 {ρ : Type} (t2 : Int) (n : Int) (last0 : Int) (t10007001 : Int) (t10007002 : List (Int)) (t10007010 : Int) (t10007011 : Int) (t1000702 : List ((Int) × ((Int) × ((List Int) × ((Int) × ((Int) × (List Int))))))) (k_ : (Int) × (List Int) × (Int) × (Int) × (List ((Int) × ((Int) × ((List Int) × ((Int) × ((Int) × (List Int))))))) → Option ρ) : Option ρ :=
  br (Int.tmod n (2 : Int) == (1 : Int))
   (bnd (W.lower_maker_turn last0 t2 t10007001 t10007002 t10007010 t10007011 t1000702) fun y =>
    k_ ((Prod.fst y.2.2.2), (Prod.fst y.2.2.2.2), (Prod.fst y.2), (Prod.fst y.2.2), (Prod.fst y)))
   (bnd (W.lower_maker_turn last0 (IntKind.wrap IntKind.i64 ((0 : Int) - t2)) t10007001 t10007002 t10007010 t10007011 t1000702) fun y_1 =>
    k_ ((Prod.fst y_1.2.2.2), (Prod.fst y_1.2.2.2.2), (Prod.fst y_1.2), (Prod.fst y_1.2.2), (Prod.fst y_1)))
def lower_maker_parities.c261445s : Shape := ⟨[(0, lb19), (1, lb0), (2, lb2), (3, lb7), (4, lb30), (6, lb31), (7, lb33), (8, lb2), (11, lb34), (25, lb0), (26, lb2), (27, lb2)], [(3, lb32), (4, lb25), (6, lb26), (7, lb26), (41, lb35), (1000700, lb20), (1000701, lb21), (1000702, lb10)]⟩
def lower_maker_parities.c261445x0 : Shape := lower_maker_parities.c261445s
def lower_maker_parities.c261445r : Ck := Ck.of (T := (Int) × (List Int) × (Int) × (Int) × (List ((Int) × ((Int) × ((List Int) × ((Int) × ((Int) × (List Int)))))))) lower_maker_parities.c261445s (fun ρ x_ k_ => lower_maker_parities.c261445 x_.2.1 x_.2.2.1 x_.2.2.2.2.2.2.2.2.1 x_.2.2.2.2.2.2.2.2.2.1 x_.2.2.2.2.2.2.2.2.2.2.1 x_.2.2.2.2.2.2.2.2.2.2.2.1 x_.2.2.2.2.2.2.2.2.2.2.2.2.1 x_.2.2.2.2.2.2.2.2.2.2.2.2.2.1 k_) (fun ρ x_ r_ k_ => k_ 0 (Shape.inj lower_maker_parities.c261445x0 (x_.1, x_.2.1, x_.2.2.1, x_.2.2.2.1, x_.2.2.2.2.1, x_.2.2.2.2.2.1, x_.2.2.2.2.2.2.1, x_.2.2.2.2.2.2.2.1, x_.2.2.2.2.2.2.2.2.1, r_.1, r_.2.1, r_.2.2.1, r_.2.2.2.1, r_.2.2.2.2, ())))
def lower_maker_parities.c100003 {ρ : Type} (t2 : Int) (qs0 : List (Int)) (t60 : Int) (t10007001 : Int) (t10007002 : List (Int)) (t10007010 : Int) (t10007011 : Int) (t1000702 : List ((Int) × ((Int) × ((List Int) × ((Int) × ((Int) × (List Int))))))) (k_ : ((List Int) × (Int) × (Int) × (List Int) × (Int) × (Int) × (List ((Int) × ((Int) × ((List Int) × ((Int) × ((Int) × (List Int)))))))) ⊕ ((List Int) × (Int) × (Int) × (List Int) × (Int) × (Int) × (List ((Int) × ((Int) × ((List Int) × ((Int) × ((Int) × (List Int)))))))) → Option ρ) : Option ρ :=
  bnd (W.lower_maker_parities.c3 qs0 some) fun y =>
  br (decide (t60 < IntKind.wrap IntKind.i64 ((1 : Int) * (2 : Int) ^ Min.min (Int.toNat (↑(List.length qs0) : Int)) (64 : Nat))))
   (bnd (iter (fun s ↦ W.lower_maker_parities.c100007 (Prod.fst s) qs0 (↑(List.length qs0) : Int) (Prod.fst (Prod.snd s)) t60 (Prod.snd (Prod.snd s)) some) ((0 : Int), (0 : Int), (-1 : Int))) fun y_1 =>
    bnd (W.lower_maker_parities_1 qs0 t60 (Prod.snd (Prod.snd y_1)) t10007001 t10007002 t10007010 t10007011 t1000702) fun y_2 =>
    bnd (W.lower_maker_parities.c261445 t2 (Prod.fst y_1) (Prod.fst y_2.2.2.2.2.2) (Prod.fst y_2.2.2.2) (Prod.fst y_2.2.2.2.2) (Prod.fst y_2.2) (Prod.fst y_2.2.2) (Prod.fst y_2) some) fun y_3 =>
    bnd (W.lower_maker_parities_1 (Prod.fst y_2.2.2.2.2.2.2.2) (Prod.fst y_2.2.2.2.2.2.2) (Prod.fst y_2.2.2.2.2.2) (Prod.fst y_3) (Prod.fst (Prod.snd y_3)) (Prod.fst (Prod.snd (Prod.snd y_3))) (Prod.fst (Prod.snd (Prod.snd (Prod.snd y_3)))) (Prod.snd (Prod.snd (Prod.snd (Prod.snd y_3))))) fun y_4 =>
    k_ (.inl ((Prod.fst y_4.2.2.2.2.2.2.2), (IntKind.wrap IntKind.i64 (Prod.fst y_4.2.2.2.2.2.2 + (1 : Int))), (Prod.fst y_4.2.2.2), (Prod.fst y_4.2.2.2.2), (Prod.fst y_4.2), (Prod.fst y_4.2.2), (Prod.fst y_4))))
   (k_ (.inr (qs0, t60, t10007001, t10007002, t10007010, t10007011, t1000702)))
def lower_maker_parities.c100003s : Shape := lower_maker_parities.c3s
def lower_maker_parities.c100003x0 : Shape := lower_maker_parities.c3s
def lower_maker_parities.c100003r : Ck := Ck.ofLoop (S := (List Int) × (Int) × (Int) × (List Int) × (Int) × (Int) × (List ((Int) × ((Int) × ((List Int) × ((Int) × ((Int) × (List Int)))))))) (T := (List Int) × (Int) × (Int) × (List Int) × (Int) × (Int) × (List ((Int) × ((Int) × ((List Int) × ((Int) × ((Int) × (List Int)))))))) lower_maker_parities.c100003s (fun x_ => (x_.2.2.1, x_.2.2.2.1, x_.2.2.2.2.1, x_.2.2.2.2.2.1, x_.2.2.2.2.2.2.1, x_.2.2.2.2.2.2.2.1, x_.2.2.2.2.2.2.2.2.1)) (fun ρ x_ s_ k_ => lower_maker_parities.c100003 x_.2.1 s_.1 s_.2.1 s_.2.2.1 s_.2.2.2.1 s_.2.2.2.2.1 s_.2.2.2.2.2.1 s_.2.2.2.2.2.2 k_) (fun ρ x_ r_ k_ => k_ 2 (Shape.inj lower_maker_parities.c100003x0 (x_.1, x_.2.1, r_.1, r_.2.1, r_.2.2.1, r_.2.2.2.1, r_.2.2.2.2.1, r_.2.2.2.2.2.1, r_.2.2.2.2.2.2, ())))
def lower_maker_parities (qs : List (Int)) (t2 : Int) (t10007001 : Int) (t10007002 : List (Int)) (t10007010 : Int) (t10007011 : Int) (t1000702 : List ((Int) × ((Int) × ((List Int) × ((Int) × ((Int) × (List Int))))))) : Option ((List ((Int) × ((Int) × ((List Int) × ((Int) × ((Int) × (List Int))))))) × (Int) × (Int) × (Int) × (List Int) × Unit) :=
  bnd (okIf (decide ((0 : Int) ≤ IntKind.wrap IntKind.i64 ((↑(List.length qs) : Int) - (1 : Int))))) fun y =>
  bnd (okIf (IntKind.wrap IntKind.i64 ((1 : Int) * (2 : Int) ^ Min.min (Int.toNat (IntKind.wrap IntKind.i64 ((↑(List.length qs) : Int) - (1 : Int)))) (64 : Nat)) != (0 : Int))) fun y_1 =>
  bnd (iter (fun s ↦ W.lower_maker_parities.c100003 (IntKind.wrap IntKind.i64 (Int.tdiv t2 (IntKind.wrap IntKind.i64 ((1 : Int) * (2 : Int) ^ Min.min (Int.toNat (IntKind.wrap IntKind.i64 ((↑(List.length qs) : Int) - (1 : Int)))) (64 : Nat))))) (Prod.fst s) (Prod.fst (Prod.snd s)) (Prod.fst (Prod.snd (Prod.snd s))) (Prod.fst (Prod.snd (Prod.snd (Prod.snd s)))) (Prod.fst (Prod.snd (Prod.snd (Prod.snd (Prod.snd s))))) (Prod.fst (Prod.snd (Prod.snd (Prod.snd (Prod.snd (Prod.snd s)))))) (Prod.snd (Prod.snd (Prod.snd (Prod.snd (Prod.snd (Prod.snd s)))))) some) (qs, (1 : Int), t10007001, t10007002, t10007010, t10007011, t1000702)) fun y_2 =>
  some (Prod.snd (Prod.snd (Prod.snd (Prod.snd (Prod.snd (Prod.snd y_2))))), Prod.fst (Prod.snd (Prod.snd (Prod.snd (Prod.snd y_2)))), Prod.fst (Prod.snd (Prod.snd (Prod.snd (Prod.snd (Prod.snd y_2))))), Prod.fst (Prod.snd (Prod.snd y_2)), Prod.fst (Prod.snd (Prod.snd (Prod.snd y_2))), ())
def lower_maker_parities.mc : MCallee := ⟨47, lower_maker_parities.pre, lower_maker_parities.post, fun x_ => lower_maker_parities x_.1 x_.2.1 x_.2.2.1 x_.2.2.2.1 x_.2.2.2.2.1 x_.2.2.2.2.2.1 x_.2.2.2.2.2.2.1⟩
def lower_maker_parities.G : Env := ⟨59, tab, [], [0, 1, 2, 3, 4, 6, 7, 8, 9, 10, 11, 22, 25, 26, 27, 28, 36, 46, 58], [3, 1003, 1000700, 1000701, 1000702, 7019006, 7019011, 7019041], [(3, [⟨[], [], [19, 20, 21], []⟩, ⟨[], [], [18], []⟩, ⟨[1], [], [18], []⟩, ⟨[2, 1], [], [18], []⟩, ⟨[0, 3, 2, 1], [], [], []⟩])], [(100003, lower_maker_parities.c100003r), (261445, lower_maker_parities.c261445r), (100007, lower_maker_parities.c100007r), (232778, lower_maker_parities.c232778r), (3, lower_maker_parities.c3r)], [(34, lower_maker_turn.mc), (55, lower_maker_parities_1.mc)], tab_eqs⟩
theorem lower_maker_parities.eq (x_ : densU lower_maker_parities.mc.pre.tys) : denM lower_maker_parities.G Try.f47 lower_maker_parities.mc.pre lower_maker_parities.mc.post x_ = lower_maker_parities.mc.F x_ := by kernel_rfl
theorem lower_maker_parities.p0 : PcA lower_maker_parities.G Try.f47 0 :=
  loop_ok (s := lower_maker_parities.c100003r) (by kernel_rfl) (by kernel_rfl) (loops_of (sh := lower_maker_parities.c100003s) (I := fun x_ s_ => (x_.1, x_.2.1, s_.1, s_.2.1, s_.2.2.1, s_.2.2.2.1, s_.2.2.2.2.1, s_.2.2.2.2.2.1, s_.2.2.2.2.2.2, ())) (fun x_ => rfl) (fun ρ x_ s_ k_ => (nat_bnd fun _ => (nat_br (nat_bnd fun _ => (nat_bnd fun _ => (nat_bnd fun _ => (nat_bnd fun _ => nat_leaf)))) nat_leaf))) (fun ρ x_ t k => (by kernel_rfl)) (fun x_ s => by kernel_rfl))
theorem lower_maker_parities.p1 : PcA lower_maker_parities.G Try.f47 1 :=
  region_ok (s := lower_maker_parities.c3r) (by kernel_rfl) (by kernel_rfl) (sums_of (sh := lower_maker_parities.c3s) (fun ρ x_ k_ => (nat_bnd fun _ => nat_leaf)) (fun ρ x_ t k => (by kernel_rfl)) (fun x_ => by kernel_rfl))
theorem lower_maker_parities.p2 : PcA lower_maker_parities.G Try.f47 2 :=
  loop_ok (s := lower_maker_parities.c100007r) (by kernel_rfl) (by kernel_rfl) (loops_of (sh := lower_maker_parities.c100007s) (I := fun x_ s_ => (x_.1, x_.2.1, s_.1, x_.2.2.2.1, x_.2.2.2.2.1, s_.2.1, x_.2.2.2.2.2.2.1, x_.2.2.2.2.2.2.2.1, s_.2.2, x_.2.2.2.2.2.2.2.2.2)) (fun x_ => rfl) (fun ρ x_ s_ k_ => (nat_br (nat_bnd fun _ => nat_leaf) nat_leaf)) (fun ρ x_ t k => (by kernel_rfl)) (fun x_ s => by kernel_rfl))
theorem lower_maker_parities.p3 : PcA lower_maker_parities.G Try.f47 3 :=
  join_ok (s := lower_maker_parities.c232778r) (by kernel_rfl) (by kernel_rfl) (sums_of (sh := lower_maker_parities.c232778s) (fun ρ x_ k_ => (nat_bnd fun _ => (nat_bnd fun _ => (nat_br nat_leaf nat_leaf)))) (fun ρ x_ t k => (by kernel_rfl)) (fun x_ => by kernel_rfl))
theorem lower_maker_parities.p4 : PcA lower_maker_parities.G Try.f47 4 :=
  join_ok (s := lower_maker_parities.c261445r) (by kernel_rfl) (by kernel_rfl) (sums_of (sh := lower_maker_parities.c261445s) (fun ρ x_ k_ => (nat_br (nat_bnd fun _ => nat_leaf) (nat_bnd fun _ => nat_leaf))) (fun ρ x_ t k => (by kernel_rfl)) (fun x_ => by kernel_rfl))
theorem lower_maker_parities.ok : MOk Try.prog 47 lower_maker_parities.mc := fnm_ok (G := lower_maker_parities.G) tab_ok mixed Try.func47 ⟨fns_nil, (mfns_cons lower_maker_turn.ok (mfns_cons lower_maker_parities_1.ok mfns_nil)), tab_eqs_ok⟩ (m := 5) (by kernel_rfl) ⟨⟨⟨⟨⟨trivial, lower_maker_parities.p0⟩, lower_maker_parities.p1⟩, lower_maker_parities.p2⟩, lower_maker_parities.p3⟩, lower_maker_parities.p4⟩ (by kernel_rfl) lower_maker_parities.eq
def lower_maker_h.pre : Shape := ⟨[(0, lb19), (1, lb2)], [(1000700, lb20), (1000701, lb21), (1000702, lb10)]⟩
def lower_maker_h.post : Shape := ⟨[], [(1000702, lb10), (1000701, lb21), (1000700, lb20)]⟩
def lower_maker_h (q : Int) (t10007001 : Int) (t10007002 : List (Int)) (t10007010 : Int) (t10007011 : Int) (t1000702 : List ((Int) × ((Int) × ((List Int) × ((Int) × ((Int) × (List Int))))))) : Option ((List ((Int) × ((Int) × ((List Int) × ((Int) × ((Int) × (List Int))))))) × (Int) × (Int) × (Int) × (List Int) × Unit) :=
  bnd (W.lower_maker_put ((3 : Int), (0 : Int), [], q, (0 : Int), []) t10007001 t10007002 t10007010 t10007011 t1000702) fun y =>
  some (Prod.fst y, Prod.fst y.2, Prod.fst y.2.2, Prod.fst y.2.2.2, Prod.fst y.2.2.2.2, ())
def lower_maker_h.mc : MCallee := ⟨35, lower_maker_h.pre, lower_maker_h.post, fun x_ => lower_maker_h x_.1 x_.2.1 x_.2.2.1 x_.2.2.2.1 x_.2.2.2.2.1 x_.2.2.2.2.2.1⟩
def lower_maker_h.G : Env := ⟨8, tab, [], [0, 1], [1000700, 1000701, 1000702], [], [], [(31, lower_maker_put.mc)], tab_eqs⟩
theorem lower_maker_h.eq (x_ : densU lower_maker_h.mc.pre.tys) : denM lower_maker_h.G Try.f35 lower_maker_h.mc.pre lower_maker_h.mc.post x_ = lower_maker_h.mc.F x_ := by kernel_rfl
theorem lower_maker_h.ok : MOk Try.prog 35 lower_maker_h.mc := fnm_ok (G := lower_maker_h.G) tab_ok mixed Try.func35 ⟨fns_nil, (mfns_cons lower_maker_put.ok mfns_nil), tab_eqs_ok⟩ (m := 0) (by kernel_rfl) trivial (by kernel_rfl) lower_maker_h.eq
abbrev lb36 : SO := .box [.ref 1000701 0]
abbrev lb37 : SO := .box [.ref 1000702 0, .val (.int .i64), .val (.sl (.int .i64))]
abbrev lb38 : SO := .box [.val (.int .i64), .val (.int .i64), .own 1000703 0]
def lower_maker_product_1.pre : Shape := ⟨[(0, lb19), (1, lb22), (2, lb23)], [(1000700, lb36), (1000701, lb37), (1000702, lb38), (1000703, lb10), (1000720, lb26), (1000740, lb25)]⟩
def lower_maker_product_1.post : Shape := ⟨[], [(1000740, lb25), (1000720, lb26), (1000703, lb10), (1000702, lb38), (1000701, lb37), (1000700, lb36)]⟩
def lower_maker_product_1.c1 {ρ : Type} (t10007011 : Int) (t10007012 : List (Int)) (t10007020 : Int) (t10007021 : Int) (t1000703 : List ((Int) × ((Int) × ((List Int) × ((Int) × ((Int) × (List Int))))))) (t10007200 : Int) (t10007400 : List (Int)) (k_ : (Int) × (List Int) × (Int) × (Int) × (List ((Int) × ((Int) × ((List Int) × ((Int) × ((Int) × (List Int))))))) → Option ρ) : Option ρ :=
  bnd (idx t10007400 (0 : Int)) fun y =>
  bnd (idx t10007400 (1 : Int)) fun y_1 =>
  bnd (W.lower_maker_parities [y, y_1, t10007200] (8 : Int) t10007011 t10007012 t10007020 t10007021 t1000703) fun y_2 =>
  k_ ((Prod.fst y_2.2.2.2), (Prod.fst y_2.2.2.2.2), (Prod.fst y_2.2), (Prod.fst y_2.2.2), (Prod.fst y_2))
def lower_maker_product_1.c1s : Shape := lower_maker_product_1.pre
def lower_maker_product_1.c1x0 : Shape := lower_maker_product_1.pre
def lower_maker_product_1.c1r : Ck := Ck.of (T := (Int) × (List Int) × (Int) × (Int) × (List ((Int) × ((Int) × ((List Int) × ((Int) × ((Int) × (List Int)))))))) lower_maker_product_1.c1s (fun ρ x_ k_ => lower_maker_product_1.c1 x_.1 x_.2.1 x_.2.2.1 x_.2.2.2.1 x_.2.2.2.2.1 x_.2.2.2.2.2.1 x_.2.2.2.2.2.2.1 k_) (fun ρ x_ r_ k_ => k_ 0 (Shape.inj lower_maker_product_1.c1x0 (r_.1, r_.2.1, r_.2.2.1, r_.2.2.2.1, r_.2.2.2.2, x_.2.2.2.2.2)))
def lower_maker_product_1 (t10007011 : Int) (t10007012 : List (Int)) (t10007020 : Int) (t10007021 : Int) (t1000703 : List ((Int) × ((Int) × ((List Int) × ((Int) × ((Int) × (List Int))))))) (t10007200 : Int) (t10007400 : List (Int)) : Option ((List Int) × (Int) × (List ((Int) × ((Int) × ((List Int) × ((Int) × ((Int) × (List Int))))))) × (Int) × (Int) × (Int) × (List Int) × Unit) :=
  bnd (W.lower_maker_h t10007200 t10007011 t10007012 t10007020 t10007021 t1000703) fun y =>
  bnd (W.lower_maker_product_1.c1 (Prod.fst y.2.2.2) (Prod.fst y.2.2.2.2) (Prod.fst y.2) (Prod.fst y.2.2) (Prod.fst y) t10007200 t10007400 some) fun y_1 =>
  bnd (W.lower_maker_h t10007200 (Prod.fst y_1) (Prod.fst (Prod.snd y_1)) (Prod.fst (Prod.snd (Prod.snd y_1))) (Prod.fst (Prod.snd (Prod.snd (Prod.snd y_1)))) (Prod.snd (Prod.snd (Prod.snd (Prod.snd y_1))))) fun y_2 =>
  some (t10007400, t10007200, Prod.fst y_2, Prod.fst y_2.2, Prod.fst y_2.2.2, Prod.fst y_2.2.2.2, Prod.fst y_2.2.2.2.2, ())
def lower_maker_product_1.mc : MCallee := ⟨48, lower_maker_product_1.pre, lower_maker_product_1.post, fun x_ => lower_maker_product_1 x_.1 x_.2.1 x_.2.2.1 x_.2.2.2.1 x_.2.2.2.2.1 x_.2.2.2.2.2.1 x_.2.2.2.2.2.2.1⟩
def lower_maker_product_1.G : Env := ⟨19, tab, [], [0, 1, 2], [1000700, 1000701, 1000702, 1000703, 1000720, 1000740], [(1, [⟨[], [], [7, 8, 9, 10, 11, 12, 13, 14], [14]⟩, ⟨[], [], [6, 10, 11, 12, 13], []⟩, ⟨[1], [], [6, 10, 11, 12, 13], []⟩, ⟨[2, 1], [], [6, 10, 11, 12, 13], []⟩, ⟨[], [], [6, 7, 8, 9, 13], []⟩, ⟨[4], [], [6, 7, 8, 9, 13], []⟩, ⟨[5, 4], [], [6, 7, 8, 9, 13], []⟩, ⟨[], [], [6, 7, 8, 9, 10, 11, 12], []⟩, ⟨[3, 2, 1, 6, 5, 4, 7], [14], [6], []⟩, ⟨[0, 8, 3, 2, 1, 6, 5, 4, 7], [14, 1000703, 1000702, 1000701], [], []⟩])], [(1, lower_maker_product_1.c1r)], [(35, lower_maker_h.mc), (47, lower_maker_parities.mc)], tab_eqs⟩
theorem lower_maker_product_1.eq (x_ : densU lower_maker_product_1.mc.pre.tys) : denM lower_maker_product_1.G Try.f48 lower_maker_product_1.mc.pre lower_maker_product_1.mc.post x_ = lower_maker_product_1.mc.F x_ := by kernel_rfl
theorem lower_maker_product_1.p0 : PcA lower_maker_product_1.G Try.f48 0 :=
  region_ok (s := lower_maker_product_1.c1r) (by kernel_rfl) (by kernel_rfl) (sums_of (sh := lower_maker_product_1.c1s) (fun ρ x_ k_ => (nat_bnd fun _ => (nat_bnd fun _ => (nat_bnd fun _ => nat_leaf)))) (fun ρ x_ t k => (by kernel_rfl)) (fun x_ => by kernel_rfl))
theorem lower_maker_product_1.ok : MOk Try.prog 48 lower_maker_product_1.mc := fnm_ok (G := lower_maker_product_1.G) tab_ok mixed Try.func48 ⟨fns_nil, (mfns_cons lower_maker_h.ok (mfns_cons lower_maker_parities.ok mfns_nil)), tab_eqs_ok⟩ (m := 1) (by kernel_rfl) ⟨trivial, lower_maker_product_1.p0⟩ (by kernel_rfl) lower_maker_product_1.eq
abbrev lb39 : SD := .one (.ref 5 0)
abbrev lb40 : SD := .one (.ref 8 0)
abbrev lb41 : SD := .one (.clo 23)
abbrev lb42 : SO := .clo 48 [] [.ref 4 0, .ref 8 0, .ref 5 0]
def lower_maker_product_b.self.pre : Shape := ⟨[(0, lb19), (1, lb0), (2, lb2), (3, lb2)], [(1000700, lb20), (1000701, lb21), (1000702, lb10)]⟩
def lower_maker_product_b.self.post : Shape := ⟨[], [(1000702, lb10), (1000701, lb21), (1000700, lb20)]⟩
class lower_maker_product_b.Self where
  F : densU lower_maker_product_b.self.pre.tys → Option (densU lower_maker_product_b.self.post.tys)
  ok : MOk Try.prog 32 ⟨32, lower_maker_product_b.self.pre, lower_maker_product_b.self.post, F⟩
section
variable [lower_maker_product_b.Self]
def lower_maker_product_b.self (x_ : densU lower_maker_product_b.self.pre.tys) : Option (densU lower_maker_product_b.self.post.tys) := lower_maker_product_b.Self.F x_
def lower_maker_product_b.self.mc : MCallee := ⟨32, lower_maker_product_b.self.pre, lower_maker_product_b.self.post, fun x_ => lower_maker_product_b.self x_⟩
theorem lower_maker_product_b.self.ok : MOk Try.prog 32 lower_maker_product_b.self.mc := lower_maker_product_b.Self.ok
def lower_maker_product_b.pre : Shape := ⟨[(0, lb19), (1, lb0), (2, lb2), (3, lb2)], [(1000700, lb20), (1000701, lb21), (1000702, lb10)]⟩
def lower_maker_product_b.post : Shape := ⟨[], [(1000702, lb10), (1000701, lb21), (1000700, lb20)]⟩
def lower_maker_product_b.c6 {ρ : Type} (t2 : Int) (spare : Int) (qs0 : List (Int)) (s0 : Int) (t10007001 : Int) (t10007002 : List (Int)) (t10007010 : Int) (t10007011 : Int) (t1000702 : List ((Int) × ((Int) × ((List Int) × ((Int) × ((Int) × (List Int))))))) (k_ : (Int) × (List Int) × (Int) × (Int) × (List ((Int) × ((Int) × ((List Int) × ((Int) × ((Int) × (List Int))))))) → Option ρ) : Option ρ :=
  bnd (okIf (decide ((2 : Int) ≤ (↑(List.length qs0) : Int)) && decide ((↑(List.length qs0) : Int) ≤ (↑(List.length qs0) : Int)))) fun y =>
  bnd (okIf (decide (((1 : Nat) + List.length (List.drop (2 : Nat) (List.take (Int.toNat (↑(List.length qs0) : Int)) qs0))) * (8 : Nat) ≤ (140737488355328 : Nat)) && decide ((1 : Nat) + List.length (List.drop (2 : Nat) (List.take (Int.toNat (↑(List.length qs0) : Int)) qs0)) ≤ (140737488355328 : Nat)))) fun y_1 =>
  bnd (W.lower_maker_product_b.self ([s0] ++ List.drop (2 : Nat) (List.take (Int.toNat (↑(List.length qs0) : Int)) qs0), t2, IntKind.wrap IntKind.i64 (spare - (1 : Int)), t10007001, t10007002, t10007010, t10007011, t1000702, ())) fun y_2 =>
  k_ ((Prod.fst y_2.2.2.2), (Prod.fst y_2.2.2.2.2), (Prod.fst y_2.2), (Prod.fst y_2.2.2), (Prod.fst y_2))
def lower_maker_product_b.c6s : Shape := ⟨[(0, lb19), (1, lb0), (2, lb2), (3, lb2), (4, lb30), (5, lb39), (8, lb40), (9, lb41)], [(4, lb32), (5, lb25), (8, lb26), (23, lb42), (1000700, lb20), (1000701, lb21), (1000702, lb10)]⟩
def lower_maker_product_b.c6x0 : Shape := lower_maker_product_b.c6s
def lower_maker_product_b.c6r : Ck := Ck.of (T := (Int) × (List Int) × (Int) × (Int) × (List ((Int) × ((Int) × ((List Int) × ((Int) × ((Int) × (List Int)))))))) lower_maker_product_b.c6s (fun ρ x_ k_ => lower_maker_product_b.c6 x_.2.1 x_.2.2.1 x_.2.2.2.1 x_.2.2.2.2.1 x_.2.2.2.2.2.1 x_.2.2.2.2.2.2.1 x_.2.2.2.2.2.2.2.1 x_.2.2.2.2.2.2.2.2.1 x_.2.2.2.2.2.2.2.2.2.1 k_) (fun ρ x_ r_ k_ => k_ 0 (Shape.inj lower_maker_product_b.c6x0 (x_.1, x_.2.1, x_.2.2.1, x_.2.2.2.1, x_.2.2.2.2.1, r_.1, r_.2.1, r_.2.2.1, r_.2.2.2.1, r_.2.2.2.2, ())))
def lower_maker_product_b (qs : List (Int)) (t2 : Int) (spare : Int) (t10007001 : Int) (t10007002 : List (Int)) (t10007010 : Int) (t10007011 : Int) (t1000702 : List ((Int) × ((Int) × ((List Int) × ((Int) × ((Int) × (List Int))))))) : Option ((List ((Int) × ((Int) × ((List Int) × ((Int) × ((Int) × (List Int))))))) × (Int) × (Int) × (Int) × (List Int) × Unit) :=
  br (spare == (0 : Int))
   (bnd (W.lower_maker_parities qs t2 t10007001 t10007002 t10007010 t10007011 t1000702) fun y =>
    some (Prod.fst y, Prod.fst y.2, Prod.fst y.2.2, Prod.fst y.2.2.2, Prod.fst y.2.2.2.2, ()))
   (bnd (W.lower_maker_product_1 t10007001 t10007002 t10007010 t10007011 t1000702 (IntKind.wrap IntKind.i64 (IntKind.wrap IntKind.i64 (t10007001 + spare) - (1 : Int))) qs) fun y_1 =>
    bnd (W.lower_maker_product_b.c6 t2 spare (Prod.fst y_1) (Prod.fst y_1.2) (Prod.fst y_1.2.2.2.2.2) (Prod.fst y_1.2.2.2.2.2.2) (Prod.fst y_1.2.2.2) (Prod.fst y_1.2.2.2.2) (Prod.fst y_1.2.2) some) fun y_2 =>
    bnd (W.lower_maker_product_1 (Prod.fst y_2) (Prod.fst (Prod.snd y_2)) (Prod.fst (Prod.snd (Prod.snd y_2))) (Prod.fst (Prod.snd (Prod.snd (Prod.snd y_2)))) (Prod.snd (Prod.snd (Prod.snd (Prod.snd y_2)))) (Prod.fst y_1.2) (Prod.fst y_1)) fun y_3 =>
    some (Prod.fst y_3.2.2, Prod.fst y_3.2.2.2, Prod.fst y_3.2.2.2.2, Prod.fst y_3.2.2.2.2.2, Prod.fst y_3.2.2.2.2.2.2, ()))
def lower_maker_product_b.mc : MCallee := ⟨32, lower_maker_product_b.pre, lower_maker_product_b.post, fun x_ => lower_maker_product_b x_.1 x_.2.1 x_.2.2.1 x_.2.2.2.1 x_.2.2.2.2.1 x_.2.2.2.2.2.1 x_.2.2.2.2.2.2.1 x_.2.2.2.2.2.2.2.1⟩
def lower_maker_product_b.G : Env := ⟨38, tab, [], [0, 1, 2, 3, 4, 5, 8, 9, 11], [4, 28, 1004, 1000700, 1000701, 1000702], [(6, [⟨[], [], [27, 28, 29, 30, 31, 32, 33, 34], [28]⟩, ⟨[], [], [26, 29, 30, 32, 33, 34], []⟩, ⟨[1], [28], [26, 29, 30, 32, 33, 34], []⟩, ⟨[], [], [26, 27, 28, 32, 33, 34], [28]⟩, ⟨[3], [], [26, 27, 28, 32, 33, 34], [28]⟩, ⟨[2, 1, 4, 3], [28], [26, 32, 33, 34], []⟩, ⟨[], [], [26, 27, 28, 29, 30, 31, 33, 34], [28]⟩, ⟨[], [], [26, 27, 28, 29, 30, 31, 32], [28]⟩, ⟨[7], [], [26, 27, 28, 29, 30, 31, 32], [28]⟩, ⟨[0, 5, 2, 1, 4, 3, 6, 8, 7], [28, 1000702, 1000701, 1000700], [], []⟩])], [(6, lower_maker_product_b.c6r)], [(47, lower_maker_parities.mc), (32, lower_maker_product_b.self.mc), (48, lower_maker_product_1.mc)], tab_eqs⟩
theorem lower_maker_product_b.eq (x_ : densU lower_maker_product_b.mc.pre.tys) : denM lower_maker_product_b.G Try.f32 lower_maker_product_b.mc.pre lower_maker_product_b.mc.post x_ = lower_maker_product_b.mc.F x_ := by kernel_rfl
theorem lower_maker_product_b.p0 : PcA lower_maker_product_b.G Try.f32 0 :=
  region_ok (s := lower_maker_product_b.c6r) (by kernel_rfl) (by kernel_rfl) (sums_of (sh := lower_maker_product_b.c6s) (fun ρ x_ k_ => (nat_bnd fun _ => (nat_bnd fun _ => (nat_bnd fun _ => nat_leaf)))) (fun ρ x_ t k => (by kernel_rfl)) (fun x_ => by kernel_rfl))
theorem lower_maker_product_b.ok : MOk Try.prog 32 lower_maker_product_b.mc := fnm_ok (G := lower_maker_product_b.G) tab_ok mixed Try.func32 ⟨fns_nil, (mfns_cons lower_maker_parities.ok (mfns_cons lower_maker_product_b.self.ok (mfns_cons lower_maker_product_1.ok mfns_nil))), tab_eqs_ok⟩ (m := 1) (by kernel_rfl) ⟨trivial, lower_maker_product_b.p0⟩ (by kernel_rfl) lower_maker_product_b.eq
end
@[reducible] def lower_maker_product_b.fuel : Nat → lower_maker_product_b.Self
  | 0 => ⟨fun _ => none, ⟨⟨Try.f32, Try.func32, by kernel_rfl, by kernel_rfl⟩, fun _ _ _ _ _ _ _ hy => by cases hy⟩⟩
  | n + 1 => ⟨fun x_ => (@lower_maker_product_b.mc (lower_maker_product_b.fuel n)).F x_, @lower_maker_product_b.ok (lower_maker_product_b.fuel n)⟩
def lower_maker_product (x_ : densU lower_maker_product_b.self.pre.tys) : Option (densU lower_maker_product_b.self.post.tys) := (lower_maker_product_b.fuel 16).F x_
def lower_maker_product.mc : MCallee := ⟨32, lower_maker_product_b.self.pre, lower_maker_product_b.self.post, fun x_ => lower_maker_product x_⟩
theorem lower_maker_product.ok : MOk Try.prog 32 lower_maker_product.mc := (lower_maker_product_b.fuel 16).ok
def lower_maker_flip.pre : Shape := ⟨[(0, lb19), (1, lb12), (2, lb2)], [(1000700, lb20), (1000701, lb21), (1000702, lb10)]⟩
def lower_maker_flip.post : Shape := ⟨[], [(1000702, lb10), (1000701, lb21), (1000700, lb20)]⟩
def lower_maker_flip.c2 {ρ : Type} (o2 : List (Int)) (o3 : Int) (t10007001 : Int) (t10007002 : List (Int)) (t10007010 : Int) (t10007011 : Int) (t1000702 : List ((Int) × ((Int) × ((List Int) × ((Int) × ((Int) × (List Int))))))) (k_ : (Int) × (List Int) × (Int) × (Int) × (List ((Int) × ((Int) × ((List Int) × ((Int) × ((Int) × (List Int))))))) → Option ρ) : Option ρ :=
  bnd (idx o2 (0 : Int)) fun y =>
  bnd (W.lower_maker_cx y o3 t10007001 t10007002 t10007010 t10007011 t1000702) fun y_1 =>
  k_ ((Prod.fst y_1.2.2.2), (Prod.fst y_1.2.2.2.2), (Prod.fst y_1.2), (Prod.fst y_1.2.2), (Prod.fst y_1))
def lower_maker_flip.c2s : Shape := ⟨[(0, lb19), (1, lb12), (2, lb2), (4, lb30)], [(4, lb14), (1000700, lb20), (1000701, lb21), (1000702, lb10)]⟩
def lower_maker_flip.c2x0 : Shape := lower_maker_flip.c2s
def lower_maker_flip.c2r : Ck := Ck.of (T := (Int) × (List Int) × (Int) × (Int) × (List ((Int) × ((Int) × ((List Int) × ((Int) × ((Int) × (List Int)))))))) lower_maker_flip.c2s (fun ρ x_ k_ => lower_maker_flip.c2 x_.2.2.2.2.1 x_.2.2.2.2.2.1 x_.2.2.2.2.2.2.2.2.1 x_.2.2.2.2.2.2.2.2.2.1 x_.2.2.2.2.2.2.2.2.2.2.1 x_.2.2.2.2.2.2.2.2.2.2.2.1 x_.2.2.2.2.2.2.2.2.2.2.2.2.1 k_) (fun ρ x_ r_ k_ => k_ 0 (Shape.inj lower_maker_flip.c2x0 (x_.1, x_.2.1, x_.2.2.1, x_.2.2.2.1, x_.2.2.2.2.1, x_.2.2.2.2.2.1, x_.2.2.2.2.2.2.1, x_.2.2.2.2.2.2.2.1, r_.1, r_.2.1, r_.2.2.1, r_.2.2.2.1, r_.2.2.2.2, ())))
def lower_maker_flip.c4 {ρ : Type} (n : Int) (o2 : List (Int)) (o3 : Int) (t10007001 : Int) (t10007002 : List (Int)) (t10007010 : Int) (t10007011 : Int) (t1000702 : List ((Int) × ((Int) × ((List Int) × ((Int) × ((Int) × (List Int))))))) (k_ : (Int) × (List Int) × (Int) × (Int) × (List ((Int) × ((Int) × ((List Int) × ((Int) × ((Int) × (List Int))))))) → Option ρ) : Option ρ :=
  bnd (okIf (decide (((0 : Nat) + List.length o2) * (8 : Nat) ≤ (140737488355328 : Nat)) && decide ((0 : Nat) + List.length o2 ≤ (140737488355328 : Nat)))) fun y =>
  bnd (okIf (decide ((List.length o2 + (1 : Nat)) * (8 : Nat) ≤ (140737488355328 : Nat)) && decide (List.length o2 + (1 : Nat) ≤ (140737488355328 : Nat)))) fun y_1 =>
  bnd (W.lower_maker_product (o2 ++ [o3], (8 : Int), n, t10007001, t10007002, t10007010, t10007011, t1000702, ())) fun y_2 =>
  k_ ((Prod.fst y_2.2.2.2), (Prod.fst y_2.2.2.2.2), (Prod.fst y_2.2), (Prod.fst y_2.2.2), (Prod.fst y_2))
def lower_maker_flip.c4s : Shape := lower_maker_flip.c2s
def lower_maker_flip.c4x0 : Shape := lower_maker_flip.c2s
def lower_maker_flip.c4r : Ck := Ck.of (T := (Int) × (List Int) × (Int) × (Int) × (List ((Int) × ((Int) × ((List Int) × ((Int) × ((Int) × (List Int)))))))) lower_maker_flip.c4s (fun ρ x_ k_ => lower_maker_flip.c4 x_.2.1 x_.2.2.2.2.1 x_.2.2.2.2.2.1 x_.2.2.2.2.2.2.2.2.1 x_.2.2.2.2.2.2.2.2.2.1 x_.2.2.2.2.2.2.2.2.2.2.1 x_.2.2.2.2.2.2.2.2.2.2.2.1 x_.2.2.2.2.2.2.2.2.2.2.2.2.1 k_) (fun ρ x_ r_ k_ => k_ 0 (Shape.inj lower_maker_flip.c4x0 (x_.1, x_.2.1, x_.2.2.1, x_.2.2.2.1, x_.2.2.2.2.1, x_.2.2.2.2.2.1, x_.2.2.2.2.2.2.1, x_.2.2.2.2.2.2.2.1, r_.1, r_.2.1, r_.2.2.1, r_.2.2.2.1, r_.2.2.2.2, ())))
def lower_maker_flip (o : (Int) × ((Int) × ((List Int) × ((Int) × ((Int) × (List Int)))))) (n : Int) (t10007001 : Int) (t10007002 : List (Int)) (t10007010 : Int) (t10007011 : Int) (t1000702 : List ((Int) × ((Int) × ((List Int) × ((Int) × ((Int) × (List Int))))))) : Option ((List ((Int) × ((Int) × ((List Int) × ((Int) × ((Int) × (List Int))))))) × (Int) × (Int) × (Int) × (List Int) × Unit) :=
  br ((↑(List.length (Prod.fst (Prod.snd (Prod.snd o)))) : Int) == (1 : Int))
   (bnd (W.lower_maker_flip.c2 (Prod.fst (Prod.snd (Prod.snd o))) (Prod.fst (Prod.snd (Prod.snd (Prod.snd o)))) t10007001 t10007002 t10007010 t10007011 t1000702 some) fun y =>
    some (Prod.snd (Prod.snd (Prod.snd (Prod.snd y))), Prod.fst (Prod.snd (Prod.snd y)), Prod.fst (Prod.snd (Prod.snd (Prod.snd y))), Prod.fst y, Prod.fst (Prod.snd y), ()))
   (bnd (W.lower_maker_h (Prod.fst (Prod.snd (Prod.snd (Prod.snd o)))) t10007001 t10007002 t10007010 t10007011 t1000702) fun y_1 =>
    bnd (W.lower_maker_flip.c4 n (Prod.fst (Prod.snd (Prod.snd o))) (Prod.fst (Prod.snd (Prod.snd (Prod.snd o)))) (Prod.fst y_1.2.2.2) (Prod.fst y_1.2.2.2.2) (Prod.fst y_1.2) (Prod.fst y_1.2.2) (Prod.fst y_1) some) fun y_2 =>
    bnd (W.lower_maker_h (Prod.fst (Prod.snd (Prod.snd (Prod.snd o)))) (Prod.fst y_2) (Prod.fst (Prod.snd y_2)) (Prod.fst (Prod.snd (Prod.snd y_2))) (Prod.fst (Prod.snd (Prod.snd (Prod.snd y_2)))) (Prod.snd (Prod.snd (Prod.snd (Prod.snd y_2))))) fun y_3 =>
    some (Prod.fst y_3, Prod.fst y_3.2, Prod.fst y_3.2.2, Prod.fst y_3.2.2.2, Prod.fst y_3.2.2.2.2, ()))
def lower_maker_flip.mc : MCallee := ⟨33, lower_maker_flip.pre, lower_maker_flip.post, fun x_ => lower_maker_flip x_.1 x_.2.1 x_.2.2.1 x_.2.2.2.1 x_.2.2.2.2.1 x_.2.2.2.2.2.1 x_.2.2.2.2.2.2.1⟩
def lower_maker_flip.G : Env := ⟨36, tab, [], [0, 1, 2, 4, 9], [25, 1000700, 1000701, 1000702], [(4, [⟨[], [], [23, 24, 25, 26, 27, 28, 29, 30], [25, 28]⟩, ⟨[], [], [22, 26, 27, 28, 30], [28]⟩, ⟨[1], [], [22, 26, 27, 28, 30], [28]⟩, ⟨[2, 1], [25], [22, 26, 27, 28, 30], [28]⟩, ⟨[], [], [22, 23, 24, 25, 30], [25]⟩, ⟨[4], [], [22, 23, 24, 25, 30], [25]⟩, ⟨[5, 4], [28], [22, 23, 24, 25, 30], [25]⟩, ⟨[3, 2, 1, 6, 5, 4], [25], [22, 30], []⟩, ⟨[], [], [22, 23, 24, 25, 26, 27, 28, 29], [25, 28]⟩, ⟨[0, 7, 3, 2, 1, 6, 5, 4, 8], [25, 1000702, 1000701, 1000700], [], []⟩]),
  (2, [⟨[], [], [11, 12, 13, 14, 15, 16], []⟩, ⟨[], [], [10, 15, 16], []⟩, ⟨[1], [], [10, 15, 16], []⟩, ⟨[2, 1], [], [10, 15, 16], []⟩, ⟨[3, 2, 1], [], [10, 15, 16], []⟩, ⟨[], [], [10, 11, 12, 13, 14], []⟩, ⟨[5], [], [10, 11, 12, 13, 14], []⟩, ⟨[0, 4, 3, 2, 1, 6, 5], [1000702, 1000701, 1000700], [], []⟩])], [(4, lower_maker_flip.c4r), (2, lower_maker_flip.c2r)], [(49, lower_maker_cx.mc), (35, lower_maker_h.mc), (32, lower_maker_product.mc)], tab_eqs⟩
theorem lower_maker_flip.eq (x_ : densU lower_maker_flip.mc.pre.tys) : denM lower_maker_flip.G Try.f33 lower_maker_flip.mc.pre lower_maker_flip.mc.post x_ = lower_maker_flip.mc.F x_ := by kernel_rfl
theorem lower_maker_flip.p0 : PcA lower_maker_flip.G Try.f33 0 :=
  region_ok (s := lower_maker_flip.c2r) (by kernel_rfl) (by kernel_rfl) (sums_of (sh := lower_maker_flip.c2s) (fun ρ x_ k_ => (nat_bnd fun _ => (nat_bnd fun _ => nat_leaf))) (fun ρ x_ t k => (by kernel_rfl)) (fun x_ => by kernel_rfl))
theorem lower_maker_flip.p1 : PcA lower_maker_flip.G Try.f33 1 :=
  region_ok (s := lower_maker_flip.c4r) (by kernel_rfl) (by kernel_rfl) (sums_of (sh := lower_maker_flip.c4s) (fun ρ x_ k_ => (nat_bnd fun _ => (nat_bnd fun _ => (nat_bnd fun _ => nat_leaf)))) (fun ρ x_ t k => (by kernel_rfl)) (fun x_ => by kernel_rfl))
theorem lower_maker_flip.ok : MOk Try.prog 33 lower_maker_flip.mc := fnm_ok (G := lower_maker_flip.G) tab_ok mixed Try.func33 ⟨fns_nil, (mfns_cons lower_maker_cx.ok (mfns_cons lower_maker_h.ok (mfns_cons lower_maker_product.ok mfns_nil))), tab_eqs_ok⟩ (m := 2) (by kernel_rfl) ⟨⟨trivial, lower_maker_flip.p0⟩, lower_maker_flip.p1⟩ (by kernel_rfl) lower_maker_flip.eq
def lower_maker_op.pre : Shape := ⟨[(0, lb19), (1, lb12)], [(1000700, lb20), (1000701, lb21), (1000702, lb10)]⟩
def lower_maker_op.post : Shape := ⟨[], [(1000702, lb10), (1000701, lb21), (1000700, lb20)]⟩
def lower_maker_op.c11 {ρ : Type} (o0 : Int) (o1 : Int) (k_ : Bool → Option ρ) : Option ρ :=
  br (o0 == (4 : Int))
   (k_ (o1 == (0 : Int)))
   (k_ false)
def lower_maker_op.c11s : Shape := ⟨[(0, lb19), (1, lb12), (3, lb7), (4, lb2)], [(3, lb14), (1000700, lb20), (1000701, lb21), (1000702, lb10)]⟩
def lower_maker_op.c11x0 : Shape := ⟨[(0, lb19), (1, lb12), (3, lb7), (4, lb2), (43, lb11)], [(3, lb14), (1000700, lb20), (1000701, lb21), (1000702, lb10)]⟩
def lower_maker_op.c11r : Ck := Ck.of (T := Bool) lower_maker_op.c11s (fun ρ x_ k_ => lower_maker_op.c11 x_.2.2.1 x_.2.2.2.1 k_) (fun ρ x_ r_ k_ => k_ 0 (Shape.inj lower_maker_op.c11x0 (x_.1, x_.2.1, r_, x_.2.2)))
def lower_maker_op.c13 {ρ : Type} (n : Int) (o1 : Int) (o2 : List (Int)) (o3 : Int) (t10007001 : Int) (t10007002 : List (Int)) (t10007010 : Int) (t10007011 : Int) (t1000702 : List ((Int) × ((Int) × ((List Int) × ((Int) × ((Int) × (List Int))))))) (k_ : (Int) × (List Int) × (Int) × (Int) × (List ((Int) × ((Int) × ((List Int) × ((Int) × ((Int) × (List Int))))))) → Option ρ) : Option ρ :=
  bnd (okIf (decide (((0 : Nat) + List.length o2) * (8 : Nat) ≤ (140737488355328 : Nat)) && decide ((0 : Nat) + List.length o2 ≤ (140737488355328 : Nat)))) fun y =>
  bnd (okIf (decide ((List.length o2 + (1 : Nat)) * (8 : Nat) ≤ (140737488355328 : Nat)) && decide (List.length o2 + (1 : Nat) ≤ (140737488355328 : Nat)))) fun y_1 =>
  bnd (W.lower_maker_product (o2 ++ [o3], o1, n, t10007001, t10007002, t10007010, t10007011, t1000702, ())) fun y_2 =>
  k_ ((Prod.fst y_2.2.2.2), (Prod.fst y_2.2.2.2.2), (Prod.fst y_2.2), (Prod.fst y_2.2.2), (Prod.fst y_2))
def lower_maker_op.c13s : Shape := lower_maker_op.c11s
def lower_maker_op.c13x0 : Shape := lower_maker_op.c11s
def lower_maker_op.c13r : Ck := Ck.of (T := (Int) × (List Int) × (Int) × (Int) × (List ((Int) × ((Int) × ((List Int) × ((Int) × ((Int) × (List Int)))))))) lower_maker_op.c13s (fun ρ x_ k_ => lower_maker_op.c13 x_.2.1 x_.2.2.2.1 x_.2.2.2.2.1 x_.2.2.2.2.2.1 x_.2.2.2.2.2.2.2.2.1 x_.2.2.2.2.2.2.2.2.2.1 x_.2.2.2.2.2.2.2.2.2.2.1 x_.2.2.2.2.2.2.2.2.2.2.2.1 x_.2.2.2.2.2.2.2.2.2.2.2.2.1 k_) (fun ρ x_ r_ k_ => k_ 0 (Shape.inj lower_maker_op.c13x0 (x_.1, x_.2.1, x_.2.2.1, x_.2.2.2.1, x_.2.2.2.2.1, x_.2.2.2.2.2.1, x_.2.2.2.2.2.2.1, x_.2.2.2.2.2.2.2.1, r_.1, r_.2.1, r_.2.2.1, r_.2.2.2.1, r_.2.2.2.2, ())))
def lower_maker_op (o : (Int) × ((Int) × ((List Int) × ((Int) × ((Int) × (List Int)))))) (t10007001 : Int) (t10007002 : List (Int)) (t10007010 : Int) (t10007011 : Int) (t1000702 : List ((Int) × ((Int) × ((List Int) × ((Int) × ((Int) × (List Int))))))) : Option ((List ((Int) × ((Int) × ((List Int) × ((Int) × ((Int) × (List Int))))))) × (Int) × (Int) × (Int) × (List Int) × Unit) :=
  bnd (W.lower_spares (Prod.fst o, Prod.fst (Prod.snd o), Prod.fst (Prod.snd (Prod.snd o)), Prod.fst (Prod.snd (Prod.snd (Prod.snd o))), Prod.fst (Prod.snd (Prod.snd (Prod.snd (Prod.snd o)))), Prod.snd (Prod.snd (Prod.snd (Prod.snd (Prod.snd o)))))) fun y =>
  br ((↑(List.length (Prod.fst (Prod.snd (Prod.snd o)))) : Int) == (0 : Int))
   (bnd (W.lower_maker_put (Prod.fst o, Prod.fst (Prod.snd o), Prod.fst (Prod.snd (Prod.snd o)), Prod.fst (Prod.snd (Prod.snd (Prod.snd o))), Prod.fst (Prod.snd (Prod.snd (Prod.snd (Prod.snd o)))), Prod.snd (Prod.snd (Prod.snd (Prod.snd (Prod.snd o))))) t10007001 t10007002 t10007010 t10007011 t1000702) fun y_1 =>
    some (Prod.fst y_1, Prod.fst y_1.2, Prod.fst y_1.2.2, Prod.fst y_1.2.2.2, Prod.fst y_1.2.2.2.2, ()))
   (bnd (W.lower_maker_op.c11 (Prod.fst o) (Prod.fst (Prod.snd o)) some) fun y_2 =>
    br y_2
     (some (t1000702, t10007010, t10007011, t10007001, t10007002, ()))
     (br (Prod.fst o == (4 : Int))
       (bnd (W.lower_maker_op.c13 y (Prod.fst (Prod.snd o)) (Prod.fst (Prod.snd (Prod.snd o))) (Prod.fst (Prod.snd (Prod.snd (Prod.snd o)))) t10007001 t10007002 t10007010 t10007011 t1000702 some) fun y_3 =>
        some (Prod.snd (Prod.snd (Prod.snd (Prod.snd y_3))), Prod.fst (Prod.snd (Prod.snd y_3)), Prod.fst (Prod.snd (Prod.snd (Prod.snd y_3))), Prod.fst y_3, Prod.fst (Prod.snd y_3), ()))
       (br (Prod.fst o == (2 : Int))
         (bnd (W.lower_maker_flip (Prod.fst o, Prod.fst (Prod.snd o), Prod.fst (Prod.snd (Prod.snd o)), Prod.fst (Prod.snd (Prod.snd (Prod.snd o))), Prod.fst (Prod.snd (Prod.snd (Prod.snd (Prod.snd o)))), Prod.snd (Prod.snd (Prod.snd (Prod.snd (Prod.snd o))))) y t10007001 t10007002 t10007010 t10007011 t1000702) fun y_4 =>
          some (Prod.fst y_4, Prod.fst y_4.2, Prod.fst y_4.2.2, Prod.fst y_4.2.2.2, Prod.fst y_4.2.2.2.2, ()))
         (bnd (W.lower_maker_turn (Prod.fst (Prod.snd (Prod.snd (Prod.snd o)))) (4 : Int) t10007001 t10007002 t10007010 t10007011 t1000702) fun y_5 =>
          bnd (W.lower_maker_h (Prod.fst (Prod.snd (Prod.snd (Prod.snd o)))) (Prod.fst y_5.2.2.2) (Prod.fst y_5.2.2.2.2) (Prod.fst y_5.2) (Prod.fst y_5.2.2) (Prod.fst y_5)) fun y_6 =>
          bnd (W.lower_maker_turn (Prod.fst (Prod.snd (Prod.snd (Prod.snd o)))) (2 : Int) (Prod.fst y_6.2.2.2) (Prod.fst y_6.2.2.2.2) (Prod.fst y_6.2) (Prod.fst y_6.2.2) (Prod.fst y_6)) fun y_7 =>
          bnd (W.lower_maker_flip (Prod.fst o, Prod.fst (Prod.snd o), Prod.fst (Prod.snd (Prod.snd o)), Prod.fst (Prod.snd (Prod.snd (Prod.snd o))), Prod.fst (Prod.snd (Prod.snd (Prod.snd (Prod.snd o)))), Prod.snd (Prod.snd (Prod.snd (Prod.snd (Prod.snd o))))) y (Prod.fst y_7.2.2.2) (Prod.fst y_7.2.2.2.2) (Prod.fst y_7.2) (Prod.fst y_7.2.2) (Prod.fst y_7)) fun y_8 =>
          bnd (W.lower_maker_turn (Prod.fst (Prod.snd (Prod.snd (Prod.snd o)))) (-2 : Int) (Prod.fst y_8.2.2.2) (Prod.fst y_8.2.2.2.2) (Prod.fst y_8.2) (Prod.fst y_8.2.2) (Prod.fst y_8)) fun y_9 =>
          bnd (W.lower_maker_h (Prod.fst (Prod.snd (Prod.snd (Prod.snd o)))) (Prod.fst y_9.2.2.2) (Prod.fst y_9.2.2.2.2) (Prod.fst y_9.2) (Prod.fst y_9.2.2) (Prod.fst y_9)) fun y_10 =>
          bnd (W.lower_maker_turn (Prod.fst (Prod.snd (Prod.snd (Prod.snd o)))) (-4 : Int) (Prod.fst y_10.2.2.2) (Prod.fst y_10.2.2.2.2) (Prod.fst y_10.2) (Prod.fst y_10.2.2) (Prod.fst y_10)) fun y_11 =>
          some (Prod.fst y_11, Prod.fst y_11.2, Prod.fst y_11.2.2, Prod.fst y_11.2.2.2, Prod.fst y_11.2.2.2.2, ())))))
def lower_maker_op.mc : MCallee := ⟨19, lower_maker_op.pre, lower_maker_op.post, fun x_ => lower_maker_op x_.1 x_.2.1 x_.2.2.1 x_.2.2.2.1 x_.2.2.2.2.1 x_.2.2.2.2.2.1⟩
def lower_maker_op.G : Env := ⟨76, tab, [(18, lower_spares.ce)], [0, 1, 3, 4, 35, 43, 52, 68], [59, 1000700, 1000701, 1000702], [(13, [⟨[], [], [57, 58, 59, 60, 61, 62, 63, 64, 65, 66], [59, 62]⟩, ⟨[], [], [56, 60, 61, 62, 64, 65, 66], [62]⟩, ⟨[1], [], [56, 60, 61, 62, 64, 65, 66], [62]⟩, ⟨[2, 1], [59], [56, 60, 61, 62, 64, 65, 66], [62]⟩, ⟨[], [], [56, 57, 58, 59, 64, 65, 66], [59]⟩, ⟨[4], [], [56, 57, 58, 59, 64, 65, 66], [59]⟩, ⟨[5, 4], [62], [56, 57, 58, 59, 64, 65, 66], [59]⟩, ⟨[3, 2, 1, 6, 5, 4], [59], [56, 64, 65, 66], []⟩, ⟨[], [], [56, 57, 58, 59, 60, 61, 62, 63, 66], [59, 62]⟩, ⟨[8], [], [56, 57, 58, 59, 60, 61, 62, 63, 66], [59, 62]⟩, ⟨[], [], [56, 57, 58, 59, 60, 61, 62, 63, 64, 65], [59, 62]⟩, ⟨[0, 7, 3, 2, 1, 6, 5, 4, 9, 8, 10], [59, 1000702, 1000701, 1000700], [], []⟩])], [(13, lower_maker_op.c13r), (11, lower_maker_op.c11r)], [(31, lower_maker_put.mc), (32, lower_maker_product.mc), (33, lower_maker_flip.mc), (34, lower_maker_turn.mc), (35, lower_maker_h.mc)], tab_eqs⟩
theorem lower_maker_op.eq (x_ : densU lower_maker_op.mc.pre.tys) : denM lower_maker_op.G Try.f19 lower_maker_op.mc.pre lower_maker_op.mc.post x_ = lower_maker_op.mc.F x_ := by kernel_rfl
theorem lower_maker_op.p0 : PcA lower_maker_op.G Try.f19 0 :=
  region_ok (s := lower_maker_op.c11r) (by kernel_rfl) (by kernel_rfl) (sums_of (sh := lower_maker_op.c11s) (fun ρ x_ k_ => (nat_br nat_leaf nat_leaf)) (fun ρ x_ t k => (by kernel_rfl)) (fun x_ => by kernel_rfl))
theorem lower_maker_op.p1 : PcA lower_maker_op.G Try.f19 1 :=
  region_ok (s := lower_maker_op.c13r) (by kernel_rfl) (by kernel_rfl) (sums_of (sh := lower_maker_op.c13s) (fun ρ x_ k_ => (nat_bnd fun _ => (nat_bnd fun _ => (nat_bnd fun _ => nat_leaf)))) (fun ρ x_ t k => (by kernel_rfl)) (fun x_ => by kernel_rfl))
theorem lower_maker_op.ok : MOk Try.prog 19 lower_maker_op.mc := fnm_ok (G := lower_maker_op.G) tab_ok mixed Try.func19 ⟨(fns_cons lower_spares.ok fns_nil), (mfns_cons lower_maker_put.ok (mfns_cons lower_maker_product.ok (mfns_cons lower_maker_flip.ok (mfns_cons lower_maker_turn.ok (mfns_cons lower_maker_h.ok mfns_nil))))), tab_eqs_ok⟩ (m := 2) (by kernel_rfl) ⟨⟨trivial, lower_maker_op.p0⟩, lower_maker_op.p1⟩ (by kernel_rfl) lower_maker_op.eq
abbrev lb43 : SD := .one (.ref 9 0)
abbrev lb44 : SO := .box [.val (.int .i64), .val (.int .i64), .own 3009 0]
def lower_Base.c3 {ρ : Type}  (k_ : Unit → Option ρ) : Option ρ :=
  k_ ()
def lower_Base.c3s : Shape := ⟨[(0, lb4), (1, lb5), (2, lb6), (3, lb7), (4, lb30)], [(1, lb8), (2, lb8), (3, lb17), (4, lb17)]⟩
def lower_Base.c3x0 : Shape := lower_Base.c3s
def lower_Base.c3r : Ck := Ck.of (T := Unit) lower_Base.c3s (fun ρ x_ k_ => lower_Base.c3  k_) (fun ρ x_ r_ k_ => k_ 0 (Shape.inj lower_Base.c3x0 (x_.1, x_.2.1, x_.2.2.1, x_.2.2.2.1, (0 : Int), (0 : Int), [], x_.2.2.2.2.2.2.2.2.2.1, x_.2.2.2.2.2.2.2.2.2.2.1, x_.2.2.2.2.2.2.2.2.2)))
def lower_Base.c232773 {ρ : Type} (size : Int) (o2 : List (Int)) (k_ : Int → Option ρ) : Option ρ :=
  br (decide ((↑(List.length o2) : Int) > (0 : Int)))
   (k_ (IntKind.wrap IntKind.i64 (size + (220 : Int))))
   (k_ size)
def lower_Base.c232773s : Shape := ⟨[(0, lb4), (1, lb5), (2, lb6), (3, lb7), (4, lb30), (5, lb2), (6, lb2), (8, lb40), (24, lb18), (25, lb2), (26, lb2)], [(1, lb8), (2, lb8), (3, lb17), (4, lb17), (8, lb14)]⟩
def lower_Base.c232773x0 : Shape := lower_Base.c232773s
def lower_Base.c232773r : Ck := Ck.of (T := Int) lower_Base.c232773s (fun ρ x_ k_ => lower_Base.c232773 x_.2.1 x_.2.2.2.2.2.2.2.2.2.2.2.2.2.2.2.2.2.2.1 k_) (fun ρ x_ r_ k_ => k_ 0 (Shape.inj lower_Base.c232773x0 (x_.1, r_, x_.2.2)))
def lower_Base.c100006 {ρ : Type} (size : Int) (a : Int) (t24 : List ((Int) × ((Int) × ((List Int) × ((Int) × ((Int) × (List Int))))))) (t25 : Int) (t26 : Int) (k_ : ((Int) × (Int) × (Int)) ⊕ ((Int) × (Int) × (Int)) → Option ρ) : Option ρ :=
  br (decide (t26 < t25))
   (bnd (idx t24 t26) fun y =>
    bnd (W.lower_Base.c232773 size (Prod.fst (Prod.snd (Prod.snd y))) some) fun y_1 =>
    bnd (W.lower_spares (Prod.fst y, Prod.fst (Prod.snd y), Prod.fst (Prod.snd (Prod.snd y)), Prod.fst (Prod.snd (Prod.snd (Prod.snd y))), Prod.fst (Prod.snd (Prod.snd (Prod.snd (Prod.snd y)))), Prod.snd (Prod.snd (Prod.snd (Prod.snd (Prod.snd y)))))) fun y_2 =>
    k_ (.inl (y_1, (Max.max a y_2), (IntKind.wrap IntKind.i64 (t26 + (1 : Int))))))
   (k_ (.inr (size, a, t26)))
def lower_Base.c100006s : Shape := ⟨[(0, lb4), (1, lb5), (2, lb6), (3, lb7), (4, lb30), (5, lb2), (6, lb2), (24, lb18), (25, lb2), (26, lb2)], [(1, lb8), (2, lb8), (3, lb17), (4, lb17)]⟩
def lower_Base.c100006x0 : Shape := lower_Base.c100006s
def lower_Base.c100006r : Ck := Ck.ofLoop (S := (Int) × (Int) × (Int)) (T := (Int) × (Int) × (Int)) lower_Base.c100006s (fun x_ => (x_.2.1, x_.2.2.1, x_.2.2.2.2.2.1)) (fun ρ x_ s_ k_ => lower_Base.c100006 s_.1 s_.2.1 x_.2.2.2.1 x_.2.2.2.2.1 s_.2.2 k_) (fun ρ x_ r_ k_ => k_ 2 (Shape.inj lower_Base.c100006x0 (x_.1, r_.1, r_.2.1, x_.2.2.2.1, x_.2.2.2.2.1, r_.2.2, x_.2.2.2.2.2.2)))
def lower_Base.c100018 {ρ : Type} (t60 : List ((Int) × ((Int) × ((List Int) × ((Int) × ((Int) × (List Int))))))) (t61 : Int) (t62 : Int) (c0 : Int) (out0 : Int) (out1 : Int) (t3009 : List ((Int) × ((Int) × ((List Int) × ((Int) × ((Int) × (List Int))))))) (k_ : ((Int) × (Int) × (Int) × (List ((Int) × ((Int) × ((List Int) × ((Int) × ((Int) × (List Int)))))))) ⊕ ((Int) × (Int) × (Int) × (List ((Int) × ((Int) × ((List Int) × ((Int) × ((Int) × (List Int)))))))) → Option ρ) : Option ρ :=
  br (decide (t62 < t61))
   (bnd (idx t60 t62) fun y =>
    bnd (W.lower_maker_op (Prod.fst y, Prod.fst (Prod.snd y), Prod.fst (Prod.snd (Prod.snd y)), Prod.fst (Prod.snd (Prod.snd (Prod.snd y))), Prod.fst (Prod.snd (Prod.snd (Prod.snd (Prod.snd y)))), Prod.snd (Prod.snd (Prod.snd (Prod.snd (Prod.snd y))))) c0 (Prod.snd (Prod.snd (Prod.snd (Prod.snd (Prod.snd y))))) out0 out1 t3009) fun y_1 =>
    k_ (.inl ((IntKind.wrap IntKind.i64 (t62 + (1 : Int))), (Prod.fst y_1.2), (Prod.fst y_1.2.2), (Prod.fst y_1))))
   (k_ (.inr (t62, out0, out1, t3009)))
def lower_Base.c100018s : Shape := ⟨[(0, lb4), (1, lb5), (2, lb6), (3, lb7), (4, lb30), (5, lb2), (6, lb2), (9, lb43), (24, lb18), (25, lb2), (26, lb2), (60, lb18), (61, lb2), (62, lb2)], [(1, lb8), (2, lb8), (3, lb17), (4, lb17), (9, lb44), (3009, lb10)]⟩
def lower_Base.c100018x0 : Shape := lower_Base.c100018s
def lower_Base.c100018r : Ck := Ck.ofLoop (S := (Int) × (Int) × (Int) × (List ((Int) × ((Int) × ((List Int) × ((Int) × ((Int) × (List Int)))))))) (T := (Int) × (Int) × (Int) × (List ((Int) × ((Int) × ((List Int) × ((Int) × ((Int) × (List Int)))))))) lower_Base.c100018s (fun x_ => (x_.2.2.2.2.2.2.2.2.1, x_.2.2.2.2.2.2.2.2.2.2.2.2.2.2.2.2.2.2.2.1, x_.2.2.2.2.2.2.2.2.2.2.2.2.2.2.2.2.2.2.2.2.1, x_.2.2.2.2.2.2.2.2.2.2.2.2.2.2.2.2.2.2.2.2.2.1)) (fun ρ x_ s_ k_ => lower_Base.c100018 x_.2.2.2.2.2.2.1 x_.2.2.2.2.2.2.2.1 s_.1 x_.2.2.2.2.2.2.2.2.2.1 s_.2.1 s_.2.2.1 s_.2.2.2 k_) (fun ρ x_ r_ k_ => k_ 4 (Shape.inj lower_Base.c100018x0 (x_.1, x_.2.1, x_.2.2.1, x_.2.2.2.1, x_.2.2.2.2.1, x_.2.2.2.2.2.1, x_.2.2.2.2.2.2.1, x_.2.2.2.2.2.2.2.1, r_.1, x_.2.2.2.2.2.2.2.2.2.1, x_.2.2.2.2.2.2.2.2.2.2.1, x_.2.2.2.2.2.2.2.2.2.2.2.1, x_.2.2.2.2.2.2.2.2.2.2.2.2.1, x_.2.2.2.2.2.2.2.2.2.2.2.2.2.1, x_.2.2.2.2.2.2.2.2.2.2.2.2.2.2.1, x_.2.2.2.2.2.2.2.2.2.2.2.2.2.2.2.1, x_.2.2.2.2.2.2.2.2.2.2.2.2.2.2.2.2.1, x_.2.2.2.2.2.2.2.2.2.2.2.2.2.2.2.2.2.1, x_.2.2.2.2.2.2.2.2.2.2.2.2.2.2.2.2.2.2.1, r_.2.1, r_.2.2.1, r_.2.2.2, ())))
def lower_Base (c : (Int) × ((Int) × (List ((Int) × ((Int) × ((List Int) × ((Int) × ((Int) × (List Int))))))))) : Option (((Int) × ((Int) × (List ((Int) × ((Int) × ((List Int) × ((Int) × ((Int) × (List Int))))))))) × ((Int) × (Int))) :=
  bnd (W.circ_Check (Prod.fst c, Prod.fst (Prod.snd c), Prod.snd (Prod.snd c))) fun y =>
  br (Prod.fst y != (0 : Int))
   (bnd (W.lower_Base.c3 some) fun y_1 =>
    some (((0 : Int), (0 : Int), []), Prod.fst y, Prod.snd y))
   (bnd (iter (fun s ↦ W.lower_Base.c100006 (Prod.fst s) (Prod.fst (Prod.snd s)) (Prod.snd (Prod.snd c)) (↑(List.length (Prod.snd (Prod.snd c))) : Int) (Prod.snd (Prod.snd s)) some) ((↑(List.length (Prod.snd (Prod.snd c))) : Int), (0 : Int), (0 : Int))) fun y_2 =>
    br (decide (Prod.fst y_2 > (4096 : Int)))
     (some (((0 : Int), (0 : Int), []), (21 : Int), (0 : Int)))
     (br (decide (IntKind.wrap IntKind.i64 (Prod.fst c + Prod.fst (Prod.snd y_2)) > (12 : Int)))
       (some (((0 : Int), (0 : Int), []), (36 : Int), (0 : Int)))
       (bnd (iter (fun s ↦ W.lower_Base.c100018 (Prod.snd (Prod.snd c)) (↑(List.length (Prod.snd (Prod.snd c))) : Int) (Prod.fst s) (Prod.fst c) (Prod.fst (Prod.snd s)) (Prod.fst (Prod.snd (Prod.snd s))) (Prod.snd (Prod.snd (Prod.snd s))) some) ((0 : Int), IntKind.wrap IntKind.i64 (Prod.fst c + Prod.fst (Prod.snd y_2)), Prod.fst (Prod.snd c), [])) fun y_3 =>
        some ((Prod.fst (Prod.snd y_3), Prod.fst (Prod.snd (Prod.snd y_3)), Prod.snd (Prod.snd (Prod.snd y_3))), (0 : Int), (0 : Int)))))
def lower_Base.ce : Go.Ql.Callee := ⟨[(.st (.pair (.int .i64) (.pair (.int .i64) (.sl (.st (.pair (.int .i64) (.pair (.int .i64) (.pair (.sl (.int .i64)) (.pair (.int .i64) (.pair (.int .i64) (.sl (.int .i64))))))))))))], [(.st (.pair (.int .i64) (.pair (.int .i64) (.sl (.st (.pair (.int .i64) (.pair (.int .i64) (.pair (.sl (.int .i64)) (.pair (.int .i64) (.pair (.int .i64) (.sl (.int .i64)))))))))))), (.st (.pair (.int .i64) (.int .i64)))], fun x_ => lower_Base x_⟩
def lower_Base.G : Env := ⟨78, tab, [(17, circ_Check.ce), (18, lower_spares.ce)], [0, 1, 2, 3, 4, 5, 6, 8, 9, 11, 12, 17, 24, 25, 26, 27, 33, 42, 49, 60, 61, 62, 63], [9, 12, 58, 71, 2009, 3009], [(3, [⟨[], [], [19], []⟩, ⟨[], [], [18], [2]⟩, ⟨[0], [2], [19], []⟩, ⟨[1, 2, 0], [3], [], []⟩])], [(100018, lower_Base.c100018r), (100006, lower_Base.c100006r), (232773, lower_Base.c232773r), (3, lower_Base.c3r)], [(19, lower_maker_op.mc)], tab_eqs⟩
theorem lower_Base.eq (x_ : dens lower_Base.ce.params) : den lower_Base.G Try.f6 lower_Base.ce.params lower_Base.ce.res x_ = lower_Base.ce.F x_ := by kernel_rfl
theorem lower_Base.p0 : PcA lower_Base.G Try.f6 0 :=
  region_ok (s := lower_Base.c3r) (by kernel_rfl) (by kernel_rfl) (sums_of (sh := lower_Base.c3s) (fun ρ x_ k_ => nat_leaf) (fun ρ x_ t k => (by kernel_rfl)) (fun x_ => by kernel_rfl))
theorem lower_Base.p1 : PcA lower_Base.G Try.f6 1 :=
  loop_ok (s := lower_Base.c100006r) (by kernel_rfl) (by kernel_rfl) (loops_of (sh := lower_Base.c100006s) (I := fun x_ s_ => (x_.1, s_.1, s_.2.1, x_.2.2.2.1, x_.2.2.2.2.1, s_.2.2, x_.2.2.2.2.2.2)) (fun x_ => rfl) (fun ρ x_ s_ k_ => (nat_br (nat_bnd fun _ => (nat_bnd fun _ => (nat_bnd fun _ => nat_leaf))) nat_leaf)) (fun ρ x_ t k => (by kernel_rfl)) (fun x_ s => by kernel_rfl))
theorem lower_Base.p2 : PcA lower_Base.G Try.f6 2 :=
  join_ok (s := lower_Base.c232773r) (by kernel_rfl) (by kernel_rfl) (sums_of (sh := lower_Base.c232773s) (fun ρ x_ k_ => (nat_br nat_leaf nat_leaf)) (fun ρ x_ t k => (by kernel_rfl)) (fun x_ => by kernel_rfl))
theorem lower_Base.p3 : PcA lower_Base.G Try.f6 3 :=
  loop_ok (s := lower_Base.c100018r) (by kernel_rfl) (by kernel_rfl) (loops_of (sh := lower_Base.c100018s) (I := fun x_ s_ => (x_.1, x_.2.1, x_.2.2.1, x_.2.2.2.1, x_.2.2.2.2.1, x_.2.2.2.2.2.1, x_.2.2.2.2.2.2.1, x_.2.2.2.2.2.2.2.1, s_.1, x_.2.2.2.2.2.2.2.2.2.1, x_.2.2.2.2.2.2.2.2.2.2.1, x_.2.2.2.2.2.2.2.2.2.2.2.1, x_.2.2.2.2.2.2.2.2.2.2.2.2.1, x_.2.2.2.2.2.2.2.2.2.2.2.2.2.1, x_.2.2.2.2.2.2.2.2.2.2.2.2.2.2.1, x_.2.2.2.2.2.2.2.2.2.2.2.2.2.2.2.1, x_.2.2.2.2.2.2.2.2.2.2.2.2.2.2.2.2.1, x_.2.2.2.2.2.2.2.2.2.2.2.2.2.2.2.2.2.1, x_.2.2.2.2.2.2.2.2.2.2.2.2.2.2.2.2.2.2.1, s_.2.1, s_.2.2.1, s_.2.2.2, ())) (fun x_ => rfl) (fun ρ x_ s_ k_ => (nat_br (nat_bnd fun _ => (nat_bnd fun _ => nat_leaf)) nat_leaf)) (fun ρ x_ t k => (by kernel_rfl)) (fun x_ s => by kernel_rfl))
theorem lower_Base.ok : CalleeOk Try.prog 6 lower_Base.ce := fn_ok (G := lower_Base.G) tab_ok mixed Try.func6 ⟨(fns_cons circ_Check.ok (fns_cons lower_spares.ok fns_nil)), (mfns_cons lower_maker_op.ok mfns_nil), tab_eqs_ok⟩ (m := 4) (by kernel_rfl) ⟨⟨⟨⟨trivial, lower_Base.p0⟩, lower_Base.p1⟩, lower_Base.p2⟩, lower_Base.p3⟩ (by kernel_rfl) lower_Base.eq
def R_rfault (code : Int) (t1 : Int) : Option ((Int) × (Int)) :=
  some (code, t1)
def R_rfault.ce : Go.Ql.Callee := ⟨[(.int .i64), (.int .i64)], [(.st (.pair (.int .i64) (.int .i64)))], fun x_ => R_rfault x_.1 x_.2⟩
def R_rfault.G : Env := ⟨8, tab, [], [0, 1, 4], [], [], [], [], tab_eqs⟩
theorem R_rfault.eq (x_ : dens R_rfault.ce.params) : den R_rfault.G Try.f21 R_rfault.ce.params R_rfault.ce.res x_ = R_rfault.ce.F x_ := by kernel_rfl
theorem R_rfault.ok : CalleeOk Try.prog 21 R_rfault.ce := fn_ok (G := R_rfault.G) tab_ok mixed Try.func21 ⟨fns_nil, mfns_nil, tab_eqs_ok⟩ (m := 0) (by kernel_rfl) trivial (by kernel_rfl) R_rfault.eq
def R_member.c100002 {ρ : Type} (l : List (Int)) (x : Int) (i : Int) (k_ : (Int) ⊕ ((Int) ⊕ (Int)) → Option ρ) : Option ρ :=
  br (decide (i < (↑(List.length l) : Int)))
   (bnd (idx l i) fun y =>
    br (y == x)
     (k_ (.inr (.inl i)))
     (k_ (.inl (IntKind.wrap IntKind.i64 (i + (1 : Int))))))
   (k_ (.inr (.inr i)))
def R_member.c100002s : Shape := ⟨[(0, lb0), (1, lb2), (4, lb11), (5, lb2)], []⟩
def R_member.c100002x0 : Shape := R_member.c100002s
def R_member.c100002x1 : Shape := R_member.c100002s
def R_member.c100002r : Ck := Ck.ofLoop (S := Int) (T := (Int) ⊕ (Int)) R_member.c100002s (fun x_ => x_.2.2.2.1) (fun ρ x_ s_ k_ => R_member.c100002 x_.1 x_.2.1 s_ k_) (fun ρ x_ r_ k_ => sel r_ (fun r_ => k_ 1 (Shape.inj R_member.c100002x0 (x_.1, x_.2.1, true, r_, ()))) (fun r_ => k_ 2 (Shape.inj R_member.c100002x1 (x_.1, x_.2.1, x_.2.2.1, r_, ()))))
def R_member (l : List (Int)) (x : Int) : Option (Bool) :=
  bnd (iter (fun s ↦ W.R_member.c100002 l x s some) (0 : Int)) fun y =>
  sel y
   (fun u => some true)
   (fun v => some false)
def R_member.ce : Go.Ql.Callee := ⟨[(.sl (.int .i64)), (.int .i64)], [.bool], fun x_ => R_member x_.1 x_.2⟩
def R_member.G : Env := ⟨18, tab, [], [0, 1, 4, 5, 9, 17], [], [], [(100002, R_member.c100002r)], [], tab_eqs⟩
theorem R_member.eq (x_ : dens R_member.ce.params) : den R_member.G Try.f36 R_member.ce.params R_member.ce.res x_ = R_member.ce.F x_ := by kernel_rfl
theorem R_member.p0 : PcA R_member.G Try.f36 0 :=
  loop_ok (s := R_member.c100002r) (by kernel_rfl) (by kernel_rfl) (loops_of (sh := R_member.c100002s) (I := fun x_ s_ => (x_.1, x_.2.1, x_.2.2.1, s_, ())) (fun x_ => rfl) (fun ρ x_ s_ k_ => (nat_br (nat_bnd fun _ => (nat_br nat_leaf nat_leaf)) nat_leaf)) (fun ρ x_ t k => (nat_sel (fun _ => (by kernel_rfl)) (fun _ => (by kernel_rfl)))) (fun x_ s => by kernel_rfl))
theorem R_member.ok : CalleeOk Try.prog 36 R_member.ce := fn_ok (G := R_member.G) tab_ok mixed Try.func36 ⟨fns_nil, mfns_nil, tab_eqs_ok⟩ (m := 1) (by kernel_rfl) ⟨trivial, R_member.p0⟩ (by kernel_rfl) R_member.eq
def R_badOp.c1 {ρ : Type} (o0 : Int) (k_ : Bool → Option ρ) : Option ρ :=
  br (decide (o0 < (1 : Int)))
   (k_ true)
   (k_ (decide (o0 > (6 : Int))))
def R_badOp.c1s : Shape := ⟨[(0, lb12), (1, lb2), (2, lb2), (3, lb7), (6, lb2)], [(3, lb14)]⟩
def R_badOp.c1x0 : Shape := ⟨[(0, lb12), (1, lb2), (2, lb2), (3, lb7), (6, lb2), (17, lb11)], [(3, lb14)]⟩
def R_badOp.c1r : Ck := Ck.of (T := Bool) R_badOp.c1s (fun ρ x_ k_ => R_badOp.c1 x_.2.2.2.2.1 k_) (fun ρ x_ r_ k_ => k_ 0 (Shape.inj R_badOp.c1x0 (x_.1, x_.2.1, x_.2.2.1, x_.2.2.2.1, r_, x_.2.2.2.2)))
def R_badOp.c3 {ρ : Type} (o0 : Int) (k_ : Bool → Option ρ) : Option ρ :=
  br (o0 == (1 : Int))
   (k_ true)
   (k_ (o0 == (4 : Int)))
def R_badOp.c3s : Shape := R_badOp.c1s
def R_badOp.c3x0 : Shape := ⟨[(0, lb12), (1, lb2), (2, lb2), (3, lb7), (6, lb2), (7, lb11)], [(3, lb14)]⟩
def R_badOp.c3r : Ck := Ck.of (T := Bool) R_badOp.c3s (fun ρ x_ k_ => R_badOp.c3 x_.2.2.2.2.1 k_) (fun ρ x_ r_ k_ => k_ 0 (Shape.inj R_badOp.c3x0 (x_.1, x_.2.1, x_.2.2.1, x_.2.2.2.1, r_, x_.2.2.2.2)))
def R_badOp.c4 {ρ : Type} (angle : Bool) (o1 : Int) (k_ : Bool → Option ρ) : Option ρ :=
  br (decide (o1 < (0 : Int)))
   (k_ true)
   (br (decide (o1 > (15 : Int)))
     (k_ true)
     (br (decide (o1 > (0 : Int)))
       (k_ (!angle))
       (k_ false)))
def R_badOp.c4s : Shape := R_badOp.c3x0
def R_badOp.c4x0 : Shape := ⟨[(0, lb12), (1, lb2), (2, lb2), (3, lb7), (6, lb2), (7, lb11), (42, lb11)], [(3, lb14)]⟩
def R_badOp.c4r : Ck := Ck.of (T := Bool) R_badOp.c4s (fun ρ x_ k_ => R_badOp.c4 x_.2.2.2.2.1 x_.2.2.2.2.2.2.1 k_) (fun ρ x_ r_ k_ => k_ 0 (Shape.inj R_badOp.c4x0 (x_.1, x_.2.1, x_.2.2.1, x_.2.2.2.1, x_.2.2.2.2.1, r_, x_.2.2.2.2.2)))
def R_badOp.c6 {ρ : Type} (qubits : Int) (o0 : Int) (o3 : Int) (k_ : Bool → Option ρ) : Option ρ :=
  br (decide (o3 < (0 : Int)))
   (k_ true)
   (br (decide (o3 ≥ qubits))
     (k_ true)
     (br (o0 == (1 : Int))
       (k_ (decide (o3 > (0 : Int))))
       (k_ false)))
def R_badOp.c6s : Shape := R_badOp.c3x0
def R_badOp.c6x0 : Shape := ⟨[(0, lb12), (1, lb2), (2, lb2), (3, lb7), (6, lb2), (7, lb11), (61, lb11)], [(3, lb14)]⟩
def R_badOp.c6r : Ck := Ck.of (T := Bool) R_badOp.c6s (fun ρ x_ k_ => R_badOp.c6 x_.2.1 x_.2.2.2.2.2.1 x_.2.2.2.2.2.2.2.2.1 k_) (fun ρ x_ r_ k_ => k_ 0 (Shape.inj R_badOp.c6x0 (x_.1, x_.2.1, x_.2.2.1, x_.2.2.2.1, x_.2.2.2.2.1, r_, x_.2.2.2.2.2)))
def R_badOp.c8 {ρ : Type} (o0 : Int) (o2 : List (Int)) (k_ : Bool → Option ρ) : Option ρ :=
  br (decide ((↑(List.length o2) : Int) > (0 : Int)))
   (br (o0 != (2 : Int))
     (br (o0 != (3 : Int))
       (k_ (o0 != (4 : Int)))
       (k_ false))
     (k_ false))
   (k_ false)
def R_badOp.c8s : Shape := R_badOp.c3x0
def R_badOp.c8x0 : Shape := ⟨[(0, lb12), (1, lb2), (2, lb2), (3, lb7), (6, lb2), (7, lb11), (80, lb11)], [(3, lb14)]⟩
def R_badOp.c8r : Ck := Ck.of (T := Bool) R_badOp.c8s (fun ρ x_ k_ => R_badOp.c8 x_.2.2.2.2.2.1 x_.2.2.2.2.2.2.2.1 k_) (fun ρ x_ r_ k_ => k_ 0 (Shape.inj R_badOp.c8x0 (x_.1, x_.2.1, x_.2.2.1, x_.2.2.2.1, x_.2.2.2.2.1, r_, x_.2.2.2.2.2)))
def R_badOp.c13 {ρ : Type} (qubits : Int) (i : Int) (o2 : List (Int)) (k_ : Bool → Option ρ) : Option ρ :=
  bnd (idx o2 i) fun y =>
  br (decide (y < (0 : Int)))
   (k_ true)
   (bnd (idx o2 i) fun y_1 =>
    k_ (decide (y_1 ≥ qubits)))
def R_badOp.c13s : Shape := ⟨[(0, lb12), (1, lb2), (2, lb2), (3, lb7), (6, lb2), (7, lb11), (8, lb2)], [(3, lb14)]⟩
def R_badOp.c13x0 : Shape := ⟨[(0, lb12), (1, lb2), (2, lb2), (3, lb7), (6, lb2), (7, lb11), (8, lb2), (102, lb11)], [(3, lb14)]⟩
def R_badOp.c13r : Ck := Ck.of (T := Bool) R_badOp.c13s (fun ρ x_ k_ => R_badOp.c13 x_.2.1 x_.2.2.2.2.2.1 x_.2.2.2.2.2.2.2.2.1 k_) (fun ρ x_ r_ k_ => k_ 0 (Shape.inj R_badOp.c13x0 (x_.1, x_.2.1, x_.2.2.1, x_.2.2.2.1, x_.2.2.2.2.1, x_.2.2.2.2.2.1, r_, x_.2.2.2.2.2.2)))
def R_badOp.c15 {ρ : Type} (i : Int) (o2 : List (Int)) (o3 : Int) (k_ : Bool → Option ρ) : Option ρ :=
  bnd (idx o2 i) fun y =>
  br (y == o3)
   (k_ true)
   (bnd (okIf (decide ((0 : Int) ≤ i) && decide (i ≤ (↑(List.length o2) : Int)))) fun y_1 =>
    bnd (idx o2 i) fun y_2 =>
    bnd (W.R_member (List.take (Int.toNat i) o2) y_2) fun y_3 =>
    k_ y_3)
def R_badOp.c15s : Shape := R_badOp.c13s
def R_badOp.c15x0 : Shape := ⟨[(0, lb12), (1, lb2), (2, lb2), (3, lb7), (6, lb2), (7, lb11), (8, lb2), (122, lb11)], [(3, lb14)]⟩
def R_badOp.c15r : Ck := Ck.of (T := Bool) R_badOp.c15s (fun ρ x_ k_ => R_badOp.c15 x_.2.2.2.2.2.1 x_.2.2.2.2.2.2.2.2.1 x_.2.2.2.2.2.2.2.2.2.1 k_) (fun ρ x_ r_ k_ => k_ 0 (Shape.inj R_badOp.c15x0 (x_.1, x_.2.1, x_.2.2.1, x_.2.2.2.1, x_.2.2.2.2.1, x_.2.2.2.2.2.1, r_, x_.2.2.2.2.2.2)))
def R_badOp.c100011 {ρ : Type} (qubits : Int) (i : Int) (o2 : List (Int)) (o3 : Int) (k_ : (Int) ⊕ (((Int) × (Int)) ⊕ (Int)) → Option ρ) : Option ρ :=
  br (decide (i < (↑(List.length o2) : Int)))
   (bnd (W.R_badOp.c13 qubits i o2 some) fun y =>
    br y
     (k_ (.inr (.inl ((10 : Int), i))))
     (bnd (W.R_badOp.c15 i o2 o3 some) fun y_1 =>
      br y_1
       (k_ (.inr (.inl ((12 : Int), i))))
       (k_ (.inl (IntKind.wrap IntKind.i64 (i + (1 : Int)))))))
   (k_ (.inr (.inr i)))
def R_badOp.c100011s : Shape := R_badOp.c13s
def R_badOp.c100011x0 : Shape := R_badOp.c13s
def R_badOp.c100011x1 : Shape := R_badOp.c13s
def R_badOp.c100011r : Ck := Ck.ofLoop (S := Int) (T := ((Int) × (Int)) ⊕ (Int)) R_badOp.c100011s (fun x_ => x_.2.2.2.2.2.1) (fun ρ x_ s_ k_ => R_badOp.c100011 x_.2.1 s_ x_.2.2.2.2.2.2.2.2.1 x_.2.2.2.2.2.2.2.2.2.1 k_) (fun ρ x_ r_ k_ => sel r_ (fun r_ => k_ 1 (Shape.inj R_badOp.c100011x0 (x_.1, x_.2.1, x_.2.2.1, r_.1, x_.2.2.2.2.1, r_.2, x_.2.2.2.2.2.2))) (fun r_ => k_ 2 (Shape.inj R_badOp.c100011x1 (x_.1, x_.2.1, x_.2.2.1, x_.2.2.2.1, x_.2.2.2.2.1, r_, x_.2.2.2.2.2.2))))
def R_badOp.c18 {ρ : Type} (bits : Int) (o4 : Int) (k_ : Bool → Option ρ) : Option ρ :=
  br (decide (o4 < (0 : Int)))
   (k_ true)
   (k_ (decide (o4 ≥ bits)))
def R_badOp.c18s : Shape := R_badOp.c13s
def R_badOp.c18x0 : Shape := ⟨[(0, lb12), (1, lb2), (2, lb2), (3, lb7), (6, lb2), (7, lb11), (8, lb2), (134, lb11)], [(3, lb14)]⟩
def R_badOp.c18r : Ck := Ck.of (T := Bool) R_badOp.c18s (fun ρ x_ k_ => R_badOp.c18 x_.2.2.1 x_.2.2.2.2.2.2.2.2.2.2.1 k_) (fun ρ x_ r_ k_ => k_ 0 (Shape.inj R_badOp.c18x0 (x_.1, x_.2.1, x_.2.2.1, x_.2.2.2.1, x_.2.2.2.2.1, x_.2.2.2.2.2.1, r_, x_.2.2.2.2.2.2)))
def R_badOp.c269649 {ρ : Type} (bits : Int) (o0 : Int) (o4 : Int) (k_ : (Unit) ⊕ (Unit) → Option ρ) : Option ρ :=
  br (o0 == (5 : Int))
   (bnd (W.R_badOp.c18 bits o4 some) fun y =>
    br y
     (k_ (.inl ()))
     (k_ (.inr ())))
   (br (o4 != (0 : Int))
     (k_ (.inl ()))
     (k_ (.inr ())))
def R_badOp.c269649s : Shape := R_badOp.c13s
def R_badOp.c269649x0 : Shape := R_badOp.c13s
def R_badOp.c269649x1 : Shape := R_badOp.c13s
def R_badOp.c269649r : Ck := Ck.of (T := (Unit) ⊕ (Unit)) R_badOp.c269649s (fun ρ x_ k_ => R_badOp.c269649 x_.2.2.1 x_.2.2.2.2.2.2.1 x_.2.2.2.2.2.2.2.2.2.2.1 k_) (fun ρ x_ r_ k_ => sel r_ (fun r_ => k_ 1 (Shape.inj R_badOp.c269649x0 (x_.1, x_.2.1, x_.2.2.1, (13 : Int), x_.2.2.2.2))) (fun r_ => k_ 0 (Shape.inj R_badOp.c269649x1 x_)))
def R_badOp.c27 {ρ : Type} (bits : Int) (i_1 : Int) (o5 : List (Int)) (k_ : Bool → Option ρ) : Option ρ :=
  bnd (idx o5 i_1) fun y =>
  br (y == (0 : Int))
   (k_ true)
   (bnd (idx o5 i_1) fun y_1 =>
    br (decide (y_1 > bits))
     (k_ true)
     (bnd (idx o5 i_1) fun y_2 =>
      k_ (decide (y_2 < IntKind.wrap IntKind.i64 ((0 : Int) - bits)))))
def R_badOp.c27s : Shape := ⟨[(0, lb12), (1, lb2), (2, lb2), (3, lb7), (6, lb2), (7, lb11), (8, lb2), (9, lb2)], [(3, lb14)]⟩
def R_badOp.c27x0 : Shape := ⟨[(0, lb12), (1, lb2), (2, lb2), (3, lb7), (6, lb2), (7, lb11), (8, lb2), (9, lb2), (173, lb11)], [(3, lb14)]⟩
def R_badOp.c27r : Ck := Ck.of (T := Bool) R_badOp.c27s (fun ρ x_ k_ => R_badOp.c27 x_.2.2.1 x_.2.2.2.2.2.2.1 x_.2.2.2.2.2.2.2.2.2.2.2.2.1 k_) (fun ρ x_ r_ k_ => k_ 0 (Shape.inj R_badOp.c27x0 (x_.1, x_.2.1, x_.2.2.1, x_.2.2.2.1, x_.2.2.2.2.1, x_.2.2.2.2.2.1, x_.2.2.2.2.2.2.1, r_, x_.2.2.2.2.2.2.2)))
def R_badOp.c100025 {ρ : Type} (bits : Int) (i_1 : Int) (o5 : List (Int)) (k_ : (Int) ⊕ ((Int) ⊕ (Int)) → Option ρ) : Option ρ :=
  br (decide (i_1 < (↑(List.length o5) : Int)))
   (bnd (W.R_badOp.c27 bits i_1 o5 some) fun y =>
    br y
     (k_ (.inr (.inl i_1)))
     (k_ (.inl (IntKind.wrap IntKind.i64 (i_1 + (1 : Int))))))
   (k_ (.inr (.inr i_1)))
def R_badOp.c100025s : Shape := R_badOp.c27s
def R_badOp.c100025x0 : Shape := R_badOp.c27s
def R_badOp.c100025x1 : Shape := R_badOp.c27s
def R_badOp.c100025r : Ck := Ck.ofLoop (S := Int) (T := (Int) ⊕ (Int)) R_badOp.c100025s (fun x_ => x_.2.2.2.2.2.2.1) (fun ρ x_ s_ k_ => R_badOp.c100025 x_.2.2.1 s_ x_.2.2.2.2.2.2.2.2.2.2.2.2.1 k_) (fun ρ x_ r_ k_ => sel r_ (fun r_ => k_ 1 (Shape.inj R_badOp.c100025x0 (x_.1, x_.2.1, x_.2.2.1, (14 : Int), x_.2.2.2.2.1, x_.2.2.2.2.2.1, r_, x_.2.2.2.2.2.2.2))) (fun r_ => k_ 4 (Shape.inj R_badOp.c100025x1 (x_.1, x_.2.1, x_.2.2.1, x_.2.2.2.1, x_.2.2.2.2.1, x_.2.2.2.2.2.1, r_, x_.2.2.2.2.2.2.2))))
def R_badOp (o : (Int) × ((Int) × ((List Int) × ((Int) × ((Int) × (List Int)))))) (qubits : Int) (bits : Int) : Option (Int) :=
  bnd (W.R_badOp.c1 (Prod.fst o) some) fun y =>
  br y
   (some (8 : Int))
   (bnd (W.R_badOp.c3 (Prod.fst o) some) fun y_1 =>
    bnd (W.R_badOp.c4 y_1 (Prod.fst (Prod.snd o)) some) fun y_2 =>
    br y_2
     (some (9 : Int))
     (bnd (W.R_badOp.c6 qubits (Prod.fst o) (Prod.fst (Prod.snd (Prod.snd (Prod.snd o)))) some) fun y_3 =>
      br y_3
       (some (10 : Int))
       (bnd (W.R_badOp.c8 (Prod.fst o) (Prod.fst (Prod.snd (Prod.snd o))) some) fun y_4 =>
        br y_4
         (some (11 : Int))
         (bnd (iter (fun s ↦ W.R_badOp.c100011 qubits s (Prod.fst (Prod.snd (Prod.snd o))) (Prod.fst (Prod.snd (Prod.snd (Prod.snd o)))) some) (0 : Int)) fun y_5 =>
          sel y_5
           (fun u => some (Prod.fst u))
           (fun v => bnd (W.R_badOp.c269649 bits (Prod.fst o) (Prod.fst (Prod.snd (Prod.snd (Prod.snd (Prod.snd o))))) some) fun y_6 =>
            sel y_6
             (fun u_1 => some (13 : Int))
             (fun v_1 => br (decide ((↑(List.length (Prod.snd (Prod.snd (Prod.snd (Prod.snd (Prod.snd o)))))) : Int) > (24 : Int)))
               (some (14 : Int))
               (bnd (iter (fun s ↦ W.R_badOp.c100025 bits s (Prod.snd (Prod.snd (Prod.snd (Prod.snd (Prod.snd o))))) some) (0 : Int)) fun y_7 =>
                sel y_7
                 (fun u_2 => some (14 : Int))
                 (fun v_2 => some (0 : Int)))))))))
def R_badOp.ce : Go.Ql.Callee := ⟨[(.st (.pair (.int .i64) (.pair (.int .i64) (.pair (.sl (.int .i64)) (.pair (.int .i64) (.pair (.int .i64) (.sl (.int .i64)))))))), (.int .i64), (.int .i64)], [(.int .i64)], fun x_ => R_badOp x_.1 x_.2.1 x_.2.2⟩
def R_badOp.G : Env := ⟨174, tab, [(36, R_member.ce)], [0, 1, 2, 3, 6, 7, 8, 9, 17, 42, 61, 80, 85, 102, 122, 125, 134, 137, 141, 146, 173], [], [(15, [⟨[], [], [105, 108, 109], []⟩, ⟨[0], [], [105, 108, 109], []⟩, ⟨[], [], [103, 104, 108, 109], []⟩, ⟨[1, 0, 2], [], [108, 109], []⟩, ⟨[3, 1, 0, 2], [], [108, 109], []⟩, ⟨[], [], [103, 104, 105, 106, 107], []⟩, ⟨[5], [], [103, 104, 105, 106, 107], []⟩, ⟨[4, 3, 1, 0, 2, 6, 5], [], [], []⟩, ⟨[7, 4, 3, 1, 0, 2, 6, 5], [], [], []⟩, ⟨[8, 7, 4, 3, 1, 0, 2, 6, 5], [], [114, 116, 117, 118, 119, 120], []⟩, ⟨[9, 8, 7, 4, 3, 1, 0, 2, 6, 5], [], [114, 116, 117, 118, 119, 120], []⟩, ⟨[8, 7, 4, 3, 1, 0, 2, 6, 5], [], [112, 113, 116, 117, 118, 119, 120], []⟩, ⟨[10, 9, 8, 7, 4, 3, 1, 0, 2, 6, 5, 11], [], [116, 117, 118, 119, 120], []⟩, ⟨[8, 7, 4, 3, 1, 0, 2, 6, 5], [], [112, 113, 114, 115, 118], []⟩, ⟨[13, 8, 7, 4, 3, 1, 0, 2, 6, 5], [], [112, 113, 114, 115, 118], []⟩, ⟨[8, 7, 4, 3, 1, 0, 2, 6, 5], [], [112, 113, 114, 115, 116, 117], []⟩, ⟨[14, 13, 8, 7, 4, 3, 1, 0, 2, 6, 5, 15], [], [112, 113, 114, 115], []⟩, ⟨[16, 14, 13, 8, 7, 4, 3, 1, 0, 2, 6, 5, 15], [], [112, 113, 114, 115], []⟩, ⟨[12, 10, 9, 8, 7, 4, 3, 1, 0, 2, 6, 5, 11, 17, 16, 14, 13, 15], [], [], []⟩, ⟨[8, 7, 4, 3, 1, 0, 2, 6, 5, 18, 12, 10, 9, 11, 17, 16, 14, 13, 15], [], [], []⟩])], [(100025, R_badOp.c100025r), (27, R_badOp.c27r), (269649, R_badOp.c269649r), (18, R_badOp.c18r), (100011, R_badOp.c100011r), (15, R_badOp.c15r), (13, R_badOp.c13r), (8, R_badOp.c8r), (6, R_badOp.c6r), (4, R_badOp.c4r), (3, R_badOp.c3r), (1, R_badOp.c1r)], [], tab_eqs⟩
theorem R_badOp.eq (x_ : dens R_badOp.ce.params) : den R_badOp.G Try.f22 R_badOp.ce.params R_badOp.ce.res x_ = R_badOp.ce.F x_ := by kernel_rfl
theorem R_badOp.p0 : PcA R_badOp.G Try.f22 0 :=
  region_ok (s := R_badOp.c1r) (by kernel_rfl) (by kernel_rfl) (sums_of (sh := R_badOp.c1s) (fun ρ x_ k_ => (nat_br nat_leaf nat_leaf)) (fun ρ x_ t k => (by kernel_rfl)) (fun x_ => by kernel_rfl))
theorem R_badOp.p1 : PcA R_badOp.G Try.f22 1 :=
  region_ok (s := R_badOp.c3r) (by kernel_rfl) (by kernel_rfl) (sums_of (sh := R_badOp.c3s) (fun ρ x_ k_ => (nat_br nat_leaf nat_leaf)) (fun ρ x_ t k => (by kernel_rfl)) (fun x_ => by kernel_rfl))
theorem R_badOp.p2 : PcA R_badOp.G Try.f22 2 :=
  region_ok (s := R_badOp.c4r) (by kernel_rfl) (by kernel_rfl) (sums_of (sh := R_badOp.c4s) (fun ρ x_ k_ => (nat_br nat_leaf (nat_br nat_leaf (nat_br nat_leaf nat_leaf)))) (fun ρ x_ t k => (by kernel_rfl)) (fun x_ => by kernel_rfl))
theorem R_badOp.p3 : PcA R_badOp.G Try.f22 3 :=
  region_ok (s := R_badOp.c6r) (by kernel_rfl) (by kernel_rfl) (sums_of (sh := R_badOp.c6s) (fun ρ x_ k_ => (nat_br nat_leaf (nat_br nat_leaf (nat_br nat_leaf nat_leaf)))) (fun ρ x_ t k => (by kernel_rfl)) (fun x_ => by kernel_rfl))
theorem R_badOp.p4 : PcA R_badOp.G Try.f22 4 :=
  region_ok (s := R_badOp.c8r) (by kernel_rfl) (by kernel_rfl) (sums_of (sh := R_badOp.c8s) (fun ρ x_ k_ => (nat_br (nat_br (nat_br nat_leaf nat_leaf) nat_leaf) nat_leaf)) (fun ρ x_ t k => (by kernel_rfl)) (fun x_ => by kernel_rfl))
theorem R_badOp.p5 : PcA R_badOp.G Try.f22 5 :=
  loop_ok (s := R_badOp.c100011r) (by kernel_rfl) (by kernel_rfl) (loops_of (sh := R_badOp.c100011s) (I := fun x_ s_ => (x_.1, x_.2.1, x_.2.2.1, x_.2.2.2.1, x_.2.2.2.2.1, s_, x_.2.2.2.2.2.2)) (fun x_ => rfl) (fun ρ x_ s_ k_ => (nat_br (nat_bnd fun _ => (nat_br nat_leaf (nat_bnd fun _ => (nat_br nat_leaf nat_leaf)))) nat_leaf)) (fun ρ x_ t k => (nat_sel (fun _ => (by kernel_rfl)) (fun _ => (by kernel_rfl)))) (fun x_ s => by kernel_rfl))
theorem R_badOp.p6 : PcA R_badOp.G Try.f22 6 :=
  region_ok (s := R_badOp.c13r) (by kernel_rfl) (by kernel_rfl) (sums_of (sh := R_badOp.c13s) (fun ρ x_ k_ => (nat_bnd fun _ => (nat_br nat_leaf (nat_bnd fun _ => nat_leaf)))) (fun ρ x_ t k => (by kernel_rfl)) (fun x_ => by kernel_rfl))
theorem R_badOp.p7 : PcA R_badOp.G Try.f22 7 :=
  region_ok (s := R_badOp.c15r) (by kernel_rfl) (by kernel_rfl) (sums_of (sh := R_badOp.c15s) (fun ρ x_ k_ => (nat_bnd fun _ => (nat_br nat_leaf (nat_bnd fun _ => (nat_bnd fun _ => (nat_bnd fun _ => nat_leaf)))))) (fun ρ x_ t k => (by kernel_rfl)) (fun x_ => by kernel_rfl))
theorem R_badOp.p8 : PcA R_badOp.G Try.f22 8 :=
  join_ok (s := R_badOp.c269649r) (by kernel_rfl) (by kernel_rfl) (sums_of (sh := R_badOp.c269649s) (fun ρ x_ k_ => (nat_br (nat_bnd fun _ => (nat_br nat_leaf nat_leaf)) (nat_br nat_leaf nat_leaf))) (fun ρ x_ t k => (nat_sel (fun _ => (by kernel_rfl)) (fun _ => (by kernel_rfl)))) (fun x_ => by kernel_rfl))
theorem R_badOp.p9 : PcA R_badOp.G Try.f22 9 :=
  region_ok (s := R_badOp.c18r) (by kernel_rfl) (by kernel_rfl) (sums_of (sh := R_badOp.c18s) (fun ρ x_ k_ => (nat_br nat_leaf nat_leaf)) (fun ρ x_ t k => (by kernel_rfl)) (fun x_ => by kernel_rfl))
theorem R_badOp.p10 : PcA R_badOp.G Try.f22 10 :=
  loop_ok (s := R_badOp.c100025r) (by kernel_rfl) (by kernel_rfl) (loops_of (sh := R_badOp.c100025s) (I := fun x_ s_ => (x_.1, x_.2.1, x_.2.2.1, x_.2.2.2.1, x_.2.2.2.2.1, x_.2.2.2.2.2.1, s_, x_.2.2.2.2.2.2.2)) (fun x_ => rfl) (fun ρ x_ s_ k_ => (nat_br (nat_bnd fun _ => (nat_br nat_leaf nat_leaf)) nat_leaf)) (fun ρ x_ t k => (nat_sel (fun _ => (by kernel_rfl)) (fun _ => (by kernel_rfl)))) (fun x_ s => by kernel_rfl))
theorem R_badOp.p11 : PcA R_badOp.G Try.f22 11 :=
  region_ok (s := R_badOp.c27r) (by kernel_rfl) (by kernel_rfl) (sums_of (sh := R_badOp.c27s) (fun ρ x_ k_ => (nat_bnd fun _ => (nat_br nat_leaf (nat_bnd fun _ => (nat_br nat_leaf (nat_bnd fun _ => nat_leaf)))))) (fun ρ x_ t k => (by kernel_rfl)) (fun x_ => by kernel_rfl))
theorem R_badOp.ok : CalleeOk Try.prog 22 R_badOp.ce := fn_ok (G := R_badOp.G) tab_ok mixed Try.func22 ⟨(fns_cons R_member.ok fns_nil), mfns_nil, tab_eqs_ok⟩ (m := 12) (by kernel_rfl) ⟨⟨⟨⟨⟨⟨⟨⟨⟨⟨⟨⟨trivial, R_badOp.p0⟩, R_badOp.p1⟩, R_badOp.p2⟩, R_badOp.p3⟩, R_badOp.p4⟩, R_badOp.p5⟩, R_badOp.p6⟩, R_badOp.p7⟩, R_badOp.p8⟩, R_badOp.p9⟩, R_badOp.p10⟩, R_badOp.p11⟩ (by kernel_rfl) R_badOp.eq
def R_Check.c1 {ρ : Type} (c0 : Int) (k_ : Bool → Option ρ) : Option ρ :=
  br (decide (c0 < (1 : Int)))
   (k_ true)
   (k_ (decide (c0 > (12 : Int))))
def R_Check.c1s : Shape := ⟨[(0, lb4), (1, lb5), (2, lb6)], [(1, lb8), (2, lb17)]⟩
def R_Check.c1x0 : Shape := ⟨[(0, lb4), (1, lb5), (2, lb6), (12, lb11)], [(1, lb8), (2, lb17)]⟩
def R_Check.c1r : Ck := Ck.of (T := Bool) R_Check.c1s (fun ρ x_ k_ => R_Check.c1 x_.2.1 k_) (fun ρ x_ r_ k_ => k_ 0 (Shape.inj R_Check.c1x0 (x_.1, r_, x_.2)))
def R_Check.c3 {ρ : Type} (c1 : Int) (k_ : Bool → Option ρ) : Option ρ :=
  br (decide (c1 < (0 : Int)))
   (k_ true)
   (k_ (decide (c1 > (12 : Int))))
def R_Check.c3s : Shape := R_Check.c1s
def R_Check.c3x0 : Shape := ⟨[(0, lb4), (1, lb5), (2, lb6), (21, lb11)], [(1, lb8), (2, lb17)]⟩
def R_Check.c3r : Ck := Ck.of (T := Bool) R_Check.c3s (fun ρ x_ k_ => R_Check.c3 x_.2.2.1 k_) (fun ρ x_ r_ k_ => k_ 0 (Shape.inj R_Check.c3x0 (x_.1, r_, x_.2)))
def R_Check.c10 {ρ : Type} (i : Int) (c0 : Int) (c1 : Int) (c2 : List ((Int) × ((Int) × ((List Int) × ((Int) × ((Int) × (List Int))))))) (k_ : Int → Option ρ) : Option ρ :=
  bnd (idx c2 i) fun y =>
  bnd (W.R_badOp y c0 c1) fun y_1 =>
  k_ y_1
def R_Check.c10s : Shape := ⟨[(0, lb4), (1, lb5), (2, lb6), (3, lb2)], [(1, lb8), (2, lb17)]⟩
def R_Check.c10x0 : Shape := ⟨[(0, lb4), (1, lb5), (2, lb6), (3, lb2), (4, lb2)], [(1, lb8), (2, lb17)]⟩
def R_Check.c10r : Ck := Ck.of (T := Int) R_Check.c10s (fun ρ x_ k_ => R_Check.c10 x_.2.1 x_.2.2.1 x_.2.2.2.1 x_.2.2.2.2.1 k_) (fun ρ x_ r_ k_ => k_ 0 (Shape.inj R_Check.c10x0 (x_.1, x_.2.1, r_, x_.2.2)))
def R_Check.c100008 {ρ : Type} (i : Int) (c0 : Int) (c1 : Int) (c2 : List ((Int) × ((Int) × ((List Int) × ((Int) × ((Int) × (List Int))))))) (k_ : (Int) ⊕ (((Int) × (Int) × (Int)) ⊕ (Int)) → Option ρ) : Option ρ :=
  br (decide (i < (↑(List.length c2) : Int)))
   (bnd (W.R_Check.c10 i c0 c1 c2 some) fun y =>
    br (y != (0 : Int))
     (bnd (W.R_rfault y i) fun y_1 =>
      k_ (.inr (.inl (i, (Prod.fst y_1), (Prod.snd y_1)))))
     (k_ (.inl (IntKind.wrap IntKind.i64 (i + (1 : Int))))))
   (k_ (.inr (.inr i)))
def R_Check.c100008s : Shape := R_Check.c10s
def R_Check.c100008x0 : Shape := R_Check.c10s
def R_Check.c100008x1 : Shape := R_Check.c10s
def R_Check.c100008r : Ck := Ck.ofLoop (S := Int) (T := ((Int) × (Int) × (Int)) ⊕ (Int)) R_Check.c100008s (fun x_ => x_.2.1) (fun ρ x_ s_ k_ => R_Check.c100008 s_ x_.2.2.1 x_.2.2.2.1 x_.2.2.2.2.1 k_) (fun ρ x_ r_ k_ => sel r_ (fun r_ => k_ 1 (Shape.inj R_Check.c100008x0 (x_.1, r_.1, x_.2.2.1, x_.2.2.2.1, x_.2.2.2.2.1, r_.2.1, r_.2.2, ()))) (fun r_ => k_ 2 (Shape.inj R_Check.c100008x1 (x_.1, r_, x_.2.2))))
def R_Check (c : (Int) × ((Int) × (List ((Int) × ((Int) × ((List Int) × ((Int) × ((Int) × (List Int))))))))) : Option ((Int) × (Int)) :=
  bnd (W.R_Check.c1 (Prod.fst c) some) fun y =>
  br y
   (bnd (W.R_rfault (6 : Int) (0 : Int)) fun y_1 =>
    some (Prod.fst y_1, Prod.snd y_1))
   (bnd (W.R_Check.c3 (Prod.fst (Prod.snd c)) some) fun y_2 =>
    br y_2
     (bnd (W.R_rfault (7 : Int) (0 : Int)) fun y_3 =>
      some (Prod.fst y_3, Prod.snd y_3))
     (br (decide ((↑(List.length (Prod.snd (Prod.snd c))) : Int) > (4096 : Int)))
       (bnd (W.R_rfault (2 : Int) (0 : Int)) fun y_4 =>
        some (Prod.fst y_4, Prod.snd y_4))
       (bnd (iter (fun s ↦ W.R_Check.c100008 s (Prod.fst c) (Prod.fst (Prod.snd c)) (Prod.snd (Prod.snd c)) some) (0 : Int)) fun y_5 =>
        sel y_5
         (fun u => some (Prod.fst (Prod.snd u), Prod.snd (Prod.snd u)))
         (fun v => some ((0 : Int), (0 : Int))))))
def R_Check.ce : Go.Ql.Callee := ⟨[(.st (.pair (.int .i64) (.pair (.int .i64) (.sl (.st (.pair (.int .i64) (.pair (.int .i64) (.pair (.sl (.int .i64)) (.pair (.int .i64) (.pair (.int .i64) (.sl (.int .i64))))))))))))], [(.st (.pair (.int .i64) (.int .i64)))], fun x_ => R_Check x_⟩
def R_Check.G : Env := ⟨51, tab, [(21, R_rfault.ce), (22, R_badOp.ce)], [0, 1, 2, 3, 4, 12, 21, 26, 32, 46], [], [(10, [⟨[], [], [37, 40, 41, 42, 43], []⟩, ⟨[0], [], [37, 40, 41, 42, 43], []⟩, ⟨[], [], [35, 36, 40, 41, 42, 43], []⟩, ⟨[1, 0, 2], [], [40, 41, 42, 43], []⟩, ⟨[3, 1, 0, 2], [], [40, 41, 42, 43], []⟩, ⟨[], [], [35, 36, 37, 38, 39, 42, 43], []⟩, ⟨[5], [], [35, 36, 37, 38, 39, 42, 43], []⟩, ⟨[], [], [35, 36, 37, 38, 39, 40, 41], []⟩, ⟨[7], [], [35, 36, 37, 38, 39, 40, 41], []⟩, ⟨[4, 3, 1, 0, 2, 6, 5, 8, 7], [], [], []⟩, ⟨[9, 4, 3, 1, 0, 2, 6, 5, 8, 7], [], [], []⟩])], [(100008, R_Check.c100008r), (10, R_Check.c10r), (3, R_Check.c3r), (1, R_Check.c1r)], [], tab_eqs⟩
theorem R_Check.eq (x_ : dens R_Check.ce.params) : den R_Check.G Try.f10 R_Check.ce.params R_Check.ce.res x_ = R_Check.ce.F x_ := by kernel_rfl
theorem R_Check.p0 : PcA R_Check.G Try.f10 0 :=
  region_ok (s := R_Check.c1r) (by kernel_rfl) (by kernel_rfl) (sums_of (sh := R_Check.c1s) (fun ρ x_ k_ => (nat_br nat_leaf nat_leaf)) (fun ρ x_ t k => (by kernel_rfl)) (fun x_ => by kernel_rfl))
theorem R_Check.p1 : PcA R_Check.G Try.f10 1 :=
  region_ok (s := R_Check.c3r) (by kernel_rfl) (by kernel_rfl) (sums_of (sh := R_Check.c3s) (fun ρ x_ k_ => (nat_br nat_leaf nat_leaf)) (fun ρ x_ t k => (by kernel_rfl)) (fun x_ => by kernel_rfl))
theorem R_Check.p2 : PcA R_Check.G Try.f10 2 :=
  loop_ok (s := R_Check.c100008r) (by kernel_rfl) (by kernel_rfl) (loops_of (sh := R_Check.c100008s) (I := fun x_ s_ => (x_.1, s_, x_.2.2)) (fun x_ => rfl) (fun ρ x_ s_ k_ => (nat_br (nat_bnd fun _ => (nat_br (nat_bnd fun _ => nat_leaf) nat_leaf)) nat_leaf)) (fun ρ x_ t k => (nat_sel (fun _ => (by kernel_rfl)) (fun _ => (by kernel_rfl)))) (fun x_ s => by kernel_rfl))
theorem R_Check.p3 : PcA R_Check.G Try.f10 3 :=
  region_ok (s := R_Check.c10r) (by kernel_rfl) (by kernel_rfl) (sums_of (sh := R_Check.c10s) (fun ρ x_ k_ => (nat_bnd fun _ => (nat_bnd fun _ => nat_leaf))) (fun ρ x_ t k => (by kernel_rfl)) (fun x_ => by kernel_rfl))
theorem R_Check.ok : CalleeOk Try.prog 10 R_Check.ce := fn_ok (G := R_Check.G) tab_ok mixed Try.func10 ⟨(fns_cons R_rfault.ok (fns_cons R_badOp.ok fns_nil)), mfns_nil, tab_eqs_ok⟩ (m := 4) (by kernel_rfl) ⟨⟨⟨⟨trivial, R_Check.p0⟩, R_Check.p1⟩, R_Check.p2⟩, R_Check.p3⟩ (by kernel_rfl) R_Check.eq
def R_Spares.c216389 {ρ : Type} (t3 : Int) (o0 : Int) (o1 : Int) (k_ : Int → Option ρ) : Option ρ :=
  br (o0 == (4 : Int))
   (k_ o1)
   (k_ t3)
def R_Spares.c216389s : Shape := ⟨[(0, lb12), (1, lb5), (2, lb2), (3, lb2)], [(1, lb14)]⟩
def R_Spares.c216389x0 : Shape := R_Spares.c216389s
def R_Spares.c216389r : Ck := Ck.of (T := Int) R_Spares.c216389s (fun ρ x_ k_ => R_Spares.c216389 x_.2.2.1 x_.2.2.2.1 x_.2.2.2.2.1 k_) (fun ρ x_ r_ k_ => k_ 0 (Shape.inj R_Spares.c216389x0 (x_.1, x_.2.1, r_, x_.2.2.2)))
def R_Spares.c100010 {ρ : Type} (j : Int) (part : Int) (i : Int) (o2 : List (Int)) (k_ : ((Int) × (Int)) ⊕ ((Int) × (Int)) → Option ρ) : Option ρ :=
  br (decide (i < IntKind.wrap IntKind.i64 ((↑(List.length o2) : Int) - j)))
   (k_ (.inl ((IntKind.wrap IntKind.i64 (part * (2 : Int))), (IntKind.wrap IntKind.i64 (i + (1 : Int))))))
   (k_ (.inr (part, i)))
def R_Spares.c100010s : Shape := ⟨[(0, lb12), (1, lb5), (2, lb2), (3, lb2), (4, lb2), (5, lb2), (6, lb2)], [(1, lb14)]⟩
def R_Spares.c100010x0 : Shape := R_Spares.c100010s
def R_Spares.c100010r : Ck := Ck.ofLoop (S := (Int) × (Int)) (T := (Int) × (Int)) R_Spares.c100010s (fun x_ => (x_.2.2.2.2.1, x_.2.2.2.2.2.1)) (fun ρ x_ s_ k_ => R_Spares.c100010 x_.2.2.2.1 s_.1 s_.2 x_.2.2.2.2.2.2.2.2.1 k_) (fun ρ x_ r_ k_ => k_ 4 (Shape.inj R_Spares.c100010x0 (x_.1, x_.2.1, x_.2.2.1, x_.2.2.2.1, r_.1, r_.2, x_.2.2.2.2.2.2)))
def R_Spares.c100008 {ρ : Type} (t3 : Int) (j : Int) (o2 : List (Int)) (k_ : (Int) ⊕ ((Int) × (Int)) → Option ρ) : Option ρ :=
  bnd (iter (fun s ↦ W.R_Spares.c100010 j (Prod.fst s) (Prod.snd s) o2 some) ((1 : Int), (0 : Int))) fun y =>
  bnd (okIf (Prod.fst y != (0 : Int))) fun y_1 =>
  br (Int.tmod t3 (Prod.fst y) == (0 : Int))
   (k_ (.inr (j, j)))
   (k_ (.inl (IntKind.wrap IntKind.i64 (j + (1 : Int)))))
def R_Spares.c100008s : Shape := ⟨[(0, lb12), (1, lb5), (2, lb2), (3, lb2), (4, lb2)], [(1, lb14)]⟩
def R_Spares.c100008x0 : Shape := R_Spares.c100008s
def R_Spares.c100008r : Ck := Ck.ofLoop (S := Int) (T := (Int) × (Int)) R_Spares.c100008s (fun x_ => x_.2.2.2.1) (fun ρ x_ s_ k_ => R_Spares.c100008 x_.2.2.1 s_ x_.2.2.2.2.2.2.1 k_) (fun ρ x_ r_ k_ => k_ 1 (Shape.inj R_Spares.c100008x0 (x_.1, r_.1, x_.2.2.1, r_.2, x_.2.2.2.2)))
def R_Spares (o : (Int) × ((Int) × ((List Int) × ((Int) × ((Int) × (List Int)))))) : Option (Int) :=
  br ((↑(List.length (Prod.fst (Prod.snd (Prod.snd o)))) : Int) == (0 : Int))
   (some (0 : Int))
   (bnd (W.R_Spares.c216389 (8 : Int) (Prod.fst o) (Prod.fst (Prod.snd o)) some) fun y =>
    bnd (iter (fun s ↦ W.R_Spares.c100008 y s (Prod.fst (Prod.snd (Prod.snd o))) some) (0 : Int)) fun y_1 =>
    some (Prod.fst y_1))
def R_Spares.ce : Go.Ql.Callee := ⟨[(.st (.pair (.int .i64) (.pair (.int .i64) (.pair (.sl (.int .i64)) (.pair (.int .i64) (.pair (.int .i64) (.sl (.int .i64))))))))], [(.int .i64)], fun x_ => R_Spares x_⟩
def R_Spares.G : Env := ⟨34, tab, [], [0, 1, 2, 3, 4, 5, 6, 10, 13, 24, 32], [], [], [(100008, R_Spares.c100008r), (100010, R_Spares.c100010r), (216389, R_Spares.c216389r)], [], tab_eqs⟩
theorem R_Spares.eq (x_ : dens R_Spares.ce.params) : den R_Spares.G Try.f20 R_Spares.ce.params R_Spares.ce.res x_ = R_Spares.ce.F x_ := by kernel_rfl
theorem R_Spares.p0 : PcA R_Spares.G Try.f20 0 :=
  join_ok (s := R_Spares.c216389r) (by kernel_rfl) (by kernel_rfl) (sums_of (sh := R_Spares.c216389s) (fun ρ x_ k_ => (nat_br nat_leaf nat_leaf)) (fun ρ x_ t k => (by kernel_rfl)) (fun x_ => by kernel_rfl))
theorem R_Spares.p1 : PcA R_Spares.G Try.f20 1 :=
  loop_ok (s := R_Spares.c100008r) (by kernel_rfl) (by kernel_rfl) (loops_of (sh := R_Spares.c100008s) (I := fun x_ s_ => (x_.1, x_.2.1, x_.2.2.1, s_, x_.2.2.2.2)) (fun x_ => rfl) (fun ρ x_ s_ k_ => (nat_bnd fun _ => (nat_bnd fun _ => (nat_br nat_leaf nat_leaf)))) (fun ρ x_ t k => (by kernel_rfl)) (fun x_ s => by kernel_rfl))
theorem R_Spares.p2 : PcA R_Spares.G Try.f20 2 :=
  loop_ok (s := R_Spares.c100010r) (by kernel_rfl) (by kernel_rfl) (loops_of (sh := R_Spares.c100010s) (I := fun x_ s_ => (x_.1, x_.2.1, x_.2.2.1, x_.2.2.2.1, s_.1, s_.2, x_.2.2.2.2.2.2)) (fun x_ => rfl) (fun ρ x_ s_ k_ => (nat_br nat_leaf nat_leaf)) (fun ρ x_ t k => (by kernel_rfl)) (fun x_ s => by kernel_rfl))
theorem R_Spares.ok : CalleeOk Try.prog 20 R_Spares.ce := fn_ok (G := R_Spares.G) tab_ok mixed Try.func20 ⟨fns_nil, mfns_nil, tab_eqs_ok⟩ (m := 3) (by kernel_rfl) ⟨⟨⟨trivial, R_Spares.p0⟩, R_Spares.p1⟩, R_Spares.p2⟩ (by kernel_rfl) R_Spares.eq
def R_LowerFault.c3 {ρ : Type}  (k_ : Unit → Option ρ) : Option ρ :=
  k_ ()
def R_LowerFault.c3s : Shape := ⟨[(0, lb4), (1, lb5), (2, lb2), (3, lb7), (4, lb30)], [(1, lb8), (3, lb17), (4, lb17)]⟩
def R_LowerFault.c3x0 : Shape := R_LowerFault.c3s
def R_LowerFault.c3r : Ck := Ck.of (T := Unit) R_LowerFault.c3s (fun ρ x_ k_ => R_LowerFault.c3  k_) (fun ρ x_ r_ k_ => k_ 0 (Shape.inj R_LowerFault.c3x0 (x_.1, (0 : Int), x_.2.2.1, x_.2.2.2.1, x_.2.2.2.2.1, x_.2.2.2.2.2.2.2.1, x_.2.2.2.2.2.2.2.2.1, x_.2.2.2.2.2.2.2)))
def R_LowerFault.c236869 {ρ : Type} (size : Int) (i : Int) (c2 : List ((Int) × ((Int) × ((List Int) × ((Int) × ((Int) × (List Int))))))) (k_ : Int → Option ρ) : Option ρ :=
  bnd (idx c2 i) fun y =>
  br (decide ((↑(List.length (Prod.fst (Prod.snd (Prod.snd y)))) : Int) > (0 : Int)))
   (k_ (IntKind.wrap IntKind.i64 (size + (220 : Int))))
   (k_ size)
def R_LowerFault.c236869s : Shape := ⟨[(0, lb4), (1, lb5), (2, lb2), (3, lb7), (4, lb30), (5, lb2), (6, lb2), (7, lb2)], [(1, lb8), (3, lb17), (4, lb17)]⟩
def R_LowerFault.c236869x0 : Shape := R_LowerFault.c236869s
def R_LowerFault.c236869r : Ck := Ck.of (T := Int) R_LowerFault.c236869s (fun ρ x_ k_ => R_LowerFault.c236869 x_.2.2.1 x_.2.2.2.2.1 x_.2.2.2.2.2.2.2.1 k_) (fun ρ x_ r_ k_ => k_ 0 (Shape.inj R_LowerFault.c236869x0 (x_.1, x_.2.1, r_, x_.2.2.2)))
def R_LowerFault.c236878 {ρ : Type} (size : Int) (most : Int) (i : Int) (c2 : List ((Int) × ((Int) × ((List Int) × ((Int) × ((Int) × (List Int))))))) (k_ : (Int) × (Int) → Option ρ) : Option ρ :=
  bnd (W.R_LowerFault.c236869 size i c2 some) fun y =>
  bnd (idx c2 i) fun y_1 =>
  bnd (W.R_Spares y_1) fun y_2 =>
  br (decide (y_2 > most))
   (k_ (y, y_2))
   (k_ (y, most))
def R_LowerFault.c236878s : Shape := R_LowerFault.c236869s
def R_LowerFault.c236878x0 : Shape := R_LowerFault.c236869s
def R_LowerFault.c236878r : Ck := Ck.of (T := (Int) × (Int)) R_LowerFault.c236878s (fun ρ x_ k_ => R_LowerFault.c236878 x_.2.2.1 x_.2.2.2.1 x_.2.2.2.2.1 x_.2.2.2.2.2.2.2.1 k_) (fun ρ x_ r_ k_ => k_ 0 (Shape.inj R_LowerFault.c236878x0 (x_.1, x_.2.1, r_.1, r_.2, x_.2.2.2.2)))
def R_LowerFault.c100007 {ρ : Type} (size : Int) (most : Int) (i : Int) (c2 : List ((Int) × ((Int) × ((List Int) × ((Int) × ((Int) × (List Int))))))) (k_ : ((Int) × (Int) × (Int)) ⊕ ((Int) × (Int) × (Int)) → Option ρ) : Option ρ :=
  br (decide (i < (↑(List.length c2) : Int)))
   (bnd (W.R_LowerFault.c236878 size most i c2 some) fun y =>
    k_ (.inl ((Prod.fst y), (Prod.snd y), (IntKind.wrap IntKind.i64 (i + (1 : Int))))))
   (k_ (.inr (size, most, i)))
def R_LowerFault.c100007s : Shape := R_LowerFault.c236869s
def R_LowerFault.c100007x0 : Shape := R_LowerFault.c236869s
def R_LowerFault.c100007r : Ck := Ck.ofLoop (S := (Int) × (Int) × (Int)) (T := (Int) × (Int) × (Int)) R_LowerFault.c100007s (fun x_ => (x_.2.2.1, x_.2.2.2.1, x_.2.2.2.2.1)) (fun ρ x_ s_ k_ => R_LowerFault.c100007 s_.1 s_.2.1 s_.2.2 x_.2.2.2.2.2.2.2.1 k_) (fun ρ x_ r_ k_ => k_ 2 (Shape.inj R_LowerFault.c100007x0 (x_.1, x_.2.1, r_.1, r_.2.1, r_.2.2, x_.2.2.2.2.2)))
def R_LowerFault (c : (Int) × ((Int) × (List ((Int) × ((Int) × ((List Int) × ((Int) × ((Int) × (List Int))))))))) : Option ((Int) × ((Int) × (Int))) :=
  bnd (W.R_Check (Prod.fst c, Prod.fst (Prod.snd c), Prod.snd (Prod.snd c))) fun y =>
  br (Prod.fst y != (0 : Int))
   (bnd (W.R_LowerFault.c3 some) fun y_1 =>
    some ((0 : Int), Prod.fst y, Prod.snd y))
   (bnd (iter (fun s ↦ W.R_LowerFault.c100007 (Prod.fst s) (Prod.fst (Prod.snd s)) (Prod.snd (Prod.snd s)) (Prod.snd (Prod.snd c)) some) ((↑(List.length (Prod.snd (Prod.snd c))) : Int), (0 : Int), (0 : Int))) fun y_2 =>
    br (decide (Prod.fst y_2 > (4096 : Int)))
     (bnd (W.R_rfault (21 : Int) (0 : Int)) fun y_3 =>
      some ((0 : Int), Prod.fst y_3, Prod.snd y_3))
     (br (decide (IntKind.wrap IntKind.i64 (Prod.fst c + Prod.fst (Prod.snd y_2)) > (12 : Int)))
       (bnd (W.R_rfault (36 : Int) (0 : Int)) fun y_4 =>
        some ((0 : Int), Prod.fst y_4, Prod.snd y_4))
       (some (Prod.fst (Prod.snd y_2), (0 : Int), (0 : Int)))))
def R_LowerFault.ce : Go.Ql.Callee := ⟨[(.st (.pair (.int .i64) (.pair (.int .i64) (.sl (.st (.pair (.int .i64) (.pair (.int .i64) (.pair (.sl (.int .i64)) (.pair (.int .i64) (.pair (.int .i64) (.sl (.int .i64))))))))))))], [(.int .i64), (.st (.pair (.int .i64) (.int .i64)))], fun x_ => R_LowerFault x_⟩
def R_LowerFault.G : Env := ⟨56, tab, [(10, R_Check.ce), (20, R_Spares.ce), (21, R_rfault.ce)], [0, 1, 2, 3, 4, 5, 6, 7, 8, 13, 22, 32, 43, 46, 52], [], [(3, [⟨[], [], [2], []⟩, ⟨[], [], [14], []⟩, ⟨[0, 1], [3], [], []⟩])], [(100007, R_LowerFault.c100007r), (236878, R_LowerFault.c236878r), (236869, R_LowerFault.c236869r), (3, R_LowerFault.c3r)], [], tab_eqs⟩
theorem R_LowerFault.eq (x_ : dens R_LowerFault.ce.params) : den R_LowerFault.G Try.f7 R_LowerFault.ce.params R_LowerFault.ce.res x_ = R_LowerFault.ce.F x_ := by kernel_rfl
theorem R_LowerFault.p0 : PcA R_LowerFault.G Try.f7 0 :=
  region_ok (s := R_LowerFault.c3r) (by kernel_rfl) (by kernel_rfl) (sums_of (sh := R_LowerFault.c3s) (fun ρ x_ k_ => nat_leaf) (fun ρ x_ t k => (by kernel_rfl)) (fun x_ => by kernel_rfl))
theorem R_LowerFault.p1 : PcA R_LowerFault.G Try.f7 1 :=
  loop_ok (s := R_LowerFault.c100007r) (by kernel_rfl) (by kernel_rfl) (loops_of (sh := R_LowerFault.c100007s) (I := fun x_ s_ => (x_.1, x_.2.1, s_.1, s_.2.1, s_.2.2, x_.2.2.2.2.2)) (fun x_ => rfl) (fun ρ x_ s_ k_ => (nat_br (nat_bnd fun _ => nat_leaf) nat_leaf)) (fun ρ x_ t k => (by kernel_rfl)) (fun x_ s => by kernel_rfl))
theorem R_LowerFault.p2 : PcA R_LowerFault.G Try.f7 2 :=
  join_ok (s := R_LowerFault.c236878r) (by kernel_rfl) (by kernel_rfl) (sums_of (sh := R_LowerFault.c236878s) (fun ρ x_ k_ => (nat_bnd fun _ => (nat_bnd fun _ => (nat_bnd fun _ => (nat_br nat_leaf nat_leaf))))) (fun ρ x_ t k => (by kernel_rfl)) (fun x_ => by kernel_rfl))
theorem R_LowerFault.p3 : PcA R_LowerFault.G Try.f7 3 :=
  join_ok (s := R_LowerFault.c236869r) (by kernel_rfl) (by kernel_rfl) (sums_of (sh := R_LowerFault.c236869s) (fun ρ x_ k_ => (nat_bnd fun _ => (nat_br nat_leaf nat_leaf))) (fun ρ x_ t k => (by kernel_rfl)) (fun x_ => by kernel_rfl))
theorem R_LowerFault.ok : CalleeOk Try.prog 7 R_LowerFault.ce := fn_ok (G := R_LowerFault.G) tab_ok mixed Try.func7 ⟨(fns_cons R_Check.ok (fns_cons R_Spares.ok (fns_cons R_rfault.ok fns_nil))), mfns_nil, tab_eqs_ok⟩ (m := 4) (by kernel_rfl) ⟨⟨⟨⟨trivial, R_LowerFault.p0⟩, R_LowerFault.p1⟩, R_LowerFault.p2⟩, R_LowerFault.p3⟩ (by kernel_rfl) R_LowerFault.eq
abbrev lb45 : SO := .box [.val (.int .i64), .val (.int .i64), .win 2000722 0]
def circ_one__win.pre : Shape := ⟨[(0, lb12), (1, lb22)], [(1000720, lb45), (2000722, lb10)]⟩
def circ_one__win.post : Shape := ⟨[(0, lb2)], [(1000720, lb45), (2000722, lb10)]⟩
def circ_one__win.c1 {ρ : Type} (o0 : Int) (k_ : Bool → Option ρ) : Option ρ :=
  br (decide (o0 < (1 : Int)))
   (k_ true)
   (k_ (decide (o0 > (6 : Int))))
def circ_one__win.c1s : Shape := ⟨[(0, lb12), (1, lb22), (2, lb6), (4, lb2)], [(2, lb14), (1000720, lb45), (2000722, lb10)]⟩
def circ_one__win.c1x0 : Shape := ⟨[(0, lb12), (1, lb22), (2, lb6), (4, lb2), (17, lb11)], [(2, lb14), (1000720, lb45), (2000722, lb10)]⟩
def circ_one__win.c1r : Ck := Ck.of (T := Bool) circ_one__win.c1s (fun ρ x_ k_ => circ_one__win.c1 x_.2.2.1 k_) (fun ρ x_ r_ k_ => k_ 0 (Shape.inj circ_one__win.c1x0 (x_.1, x_.2.1, r_, x_.2.2)))
def circ_one__win.c3 {ρ : Type} (o0 : Int) (o1 : Int) (k_ : Bool → Option ρ) : Option ρ :=
  br (decide (o1 < (0 : Int)))
   (k_ true)
   (br (decide (o1 > (15 : Int)))
     (k_ true)
     (bnd (W.circ_turns o0) fun y =>
      br (!y)
       (k_ (o1 != (0 : Int)))
       (k_ false)))
def circ_one__win.c3s : Shape := circ_one__win.c1s
def circ_one__win.c3x0 : Shape := ⟨[(0, lb12), (1, lb22), (2, lb6), (4, lb2), (36, lb11)], [(2, lb14), (1000720, lb45), (2000722, lb10)]⟩
def circ_one__win.c3r : Ck := Ck.of (T := Bool) circ_one__win.c3s (fun ρ x_ k_ => circ_one__win.c3 x_.2.2.1 x_.2.2.2.1 k_) (fun ρ x_ r_ k_ => k_ 0 (Shape.inj circ_one__win.c3x0 (x_.1, x_.2.1, r_, x_.2.2)))
def circ_one__win.c5 {ρ : Type} (o0 : Int) (o3 : Int) (t10007200 : Int) (k_ : Bool → Option ρ) : Option ρ :=
  br (decide (o3 < (0 : Int)))
   (k_ true)
   (br (decide (o3 ≥ t10007200))
     (k_ true)
     (br (o0 == (1 : Int))
       (k_ (o3 != (0 : Int)))
       (k_ false)))
def circ_one__win.c5s : Shape := circ_one__win.c1s
def circ_one__win.c5x0 : Shape := ⟨[(0, lb12), (1, lb22), (2, lb6), (4, lb2), (58, lb11)], [(2, lb14), (1000720, lb45), (2000722, lb10)]⟩
def circ_one__win.c5r : Ck := Ck.of (T := Bool) circ_one__win.c5s (fun ρ x_ k_ => circ_one__win.c5 x_.2.2.1 x_.2.2.2.2.2.1 x_.2.2.2.2.2.2.2.2.1 k_) (fun ρ x_ r_ k_ => k_ 0 (Shape.inj circ_one__win.c5x0 (x_.1, x_.2.1, r_, x_.2.2)))
def circ_one__win.c7 {ρ : Type} (o0 : Int) (o2 : List (Int)) (k_ : Bool → Option ρ) : Option ρ :=
  br (decide ((↑(List.length o2) : Int) > (0 : Int)))
   (bnd (W.circ_gate o0) fun y =>
    k_ (!y))
   (k_ false)
def circ_one__win.c7s : Shape := circ_one__win.c1s
def circ_one__win.c7x0 : Shape := ⟨[(0, lb12), (1, lb22), (2, lb6), (4, lb2), (68, lb11)], [(2, lb14), (1000720, lb45), (2000722, lb10)]⟩
def circ_one__win.c7r : Ck := Ck.of (T := Bool) circ_one__win.c7s (fun ρ x_ k_ => circ_one__win.c7 x_.2.2.1 x_.2.2.2.2.1 k_) (fun ρ x_ r_ k_ => k_ 0 (Shape.inj circ_one__win.c7x0 (x_.1, x_.2.1, r_, x_.2.2)))
def circ_one__win.c14 {ρ : Type} (q : Int) (t10007200 : Int) (k_ : Bool → Option ρ) : Option ρ :=
  br (decide (q < (0 : Int)))
   (k_ true)
   (k_ (decide (q ≥ t10007200)))
def circ_one__win.c14s : Shape := ⟨[(0, lb12), (1, lb22), (2, lb6), (4, lb2), (5, lb15), (7, lb2), (74, lb0), (75, lb2), (76, lb2)], [(2, lb14), (5, lb16), (1000720, lb45), (2000722, lb10)]⟩
def circ_one__win.c14x0 : Shape := ⟨[(0, lb12), (1, lb22), (2, lb6), (4, lb2), (5, lb15), (7, lb2), (74, lb0), (75, lb2), (76, lb2), (80, lb11)], [(2, lb14), (5, lb16), (1000720, lb45), (2000722, lb10)]⟩
def circ_one__win.c14r : Ck := Ck.of (T := Bool) circ_one__win.c14s (fun ρ x_ k_ => circ_one__win.c14 x_.2.2.1 x_.2.2.2.2.2.2.2.2.2.2.2.2.2.1 k_) (fun ρ x_ r_ k_ => k_ 0 (Shape.inj circ_one__win.c14x0 (x_.1, x_.2.1, x_.2.2.1, x_.2.2.2.1, x_.2.2.2.2.1, x_.2.2.2.2.2.1, r_, x_.2.2.2.2.2.2)))
def circ_one__win.c100012 {ρ : Type} (t74 : List (Int)) (t75 : Int) (t76 : Int) (seen : List (Bool)) (t10007200 : Int) (k_ : ((Int) × (List (Bool))) ⊕ (((Int) × (Int) × (List (Bool))) ⊕ ((Int) × (List (Bool)))) → Option ρ) : Option ρ :=
  br (decide (t76 < t75))
   (bnd (idx t74 t76) fun y =>
    bnd (W.circ_one__win.c14 y t10007200 some) fun y_1 =>
    br y_1
     (k_ (.inr (.inl ((10 : Int), t76, seen))))
     (bnd (okIf (decide ((0 : Ty.den (Ty.int IntKind.i64)) ≤ y) && decide (y < (↑(12 : Nat) : Int)))) fun y_2 =>
      bnd (inR (List.length seen) y) fun y_3 =>
      bnd (idx seen y) fun y_4 =>
      br y_4
       (k_ (.inr (.inl ((12 : Int), t76, seen))))
       (bnd (okIf (decide ((0 : Ty.den (Ty.int IntKind.i64)) ≤ y) && decide (y < (↑(12 : Nat) : Int)))) fun y_5 =>
        bnd (inR (List.length seen) y) fun y_6 =>
        bnd (idx seen y) fun y_7 =>
        k_ (.inl ((IntKind.wrap IntKind.i64 (t76 + (1 : Int))), (List.set seen (Int.toNat y) true))))))
   (k_ (.inr (.inr (t76, seen))))
def circ_one__win.c100012s : Shape := ⟨[(0, lb12), (1, lb22), (2, lb6), (4, lb2), (5, lb15), (74, lb0), (75, lb2), (76, lb2)], [(2, lb14), (5, lb16), (1000720, lb45), (2000722, lb10)]⟩
def circ_one__win.c100012x0 : Shape := circ_one__win.c100012s
def circ_one__win.c100012x1 : Shape := circ_one__win.c100012s
def circ_one__win.c100012r : Ck := Ck.ofLoop (S := (Int) × (List (Bool))) (T := ((Int) × (Int) × (List (Bool))) ⊕ ((Int) × (List (Bool)))) circ_one__win.c100012s (fun x_ => (x_.2.2.2.2.1, x_.2.2.2.2.2.2.2.2.2.2.2.1)) (fun ρ x_ s_ k_ => circ_one__win.c100012 x_.2.2.1 x_.2.2.2.1 s_.1 s_.2 x_.2.2.2.2.2.2.2.2.2.2.2.2.1 k_) (fun ρ x_ r_ k_ => sel r_ (fun r_ => k_ 1 (Shape.inj circ_one__win.c100012x0 (x_.1, r_.1, x_.2.2.1, x_.2.2.2.1, r_.2.1, x_.2.2.2.2.2.1, x_.2.2.2.2.2.2.1, x_.2.2.2.2.2.2.2.1, x_.2.2.2.2.2.2.2.2.1, x_.2.2.2.2.2.2.2.2.2.1, x_.2.2.2.2.2.2.2.2.2.2.1, r_.2.2, x_.2.2.2.2.2.2.2.2.2.2.2.2))) (fun r_ => k_ 2 (Shape.inj circ_one__win.c100012x1 (x_.1, x_.2.1, x_.2.2.1, x_.2.2.2.1, r_.1, x_.2.2.2.2.2.1, x_.2.2.2.2.2.2.1, x_.2.2.2.2.2.2.2.1, x_.2.2.2.2.2.2.2.2.1, x_.2.2.2.2.2.2.2.2.2.1, x_.2.2.2.2.2.2.2.2.2.2.1, r_.2, x_.2.2.2.2.2.2.2.2.2.2.2.2))))
def circ_one__win.c20 {ρ : Type} (o0 : Int) (o4 : Int) (t10007201 : Int) (k_ : Bool → Option ρ) : Option ρ :=
  br (o0 == (5 : Int))
   (br (decide (o4 < (0 : Int)))
     (k_ true)
     (br (decide (o4 ≥ t10007201))
       (k_ true)
       (br (o0 != (5 : Int))
         (k_ (o4 != (0 : Int)))
         (k_ false))))
   (br (o0 != (5 : Int))
     (k_ (o4 != (0 : Int)))
     (k_ false))
def circ_one__win.c20s : Shape := circ_one__win.c100012s
def circ_one__win.c20x0 : Shape := ⟨[(0, lb12), (1, lb22), (2, lb6), (4, lb2), (5, lb15), (74, lb0), (75, lb2), (76, lb2), (124, lb11)], [(2, lb14), (5, lb16), (1000720, lb45), (2000722, lb10)]⟩
def circ_one__win.c20r : Ck := Ck.of (T := Bool) circ_one__win.c20s (fun ρ x_ k_ => circ_one__win.c20 x_.2.2.2.2.2.1 x_.2.2.2.2.2.2.2.2.2.1 x_.2.2.2.2.2.2.2.2.2.2.2.2.2.1 k_) (fun ρ x_ r_ k_ => k_ 0 (Shape.inj circ_one__win.c20x0 (x_.1, x_.2.1, x_.2.2.1, x_.2.2.2.1, x_.2.2.2.2.1, r_, x_.2.2.2.2.2)))
def circ_one__win.c27 {ρ : Type} (v : Int) (t10007201 : Int) (k_ : Bool → Option ρ) : Option ρ :=
  br (v == (0 : Int))
   (k_ true)
   (br (decide (v > t10007201))
     (k_ true)
     (k_ (decide (v < IntKind.wrap IntKind.i64 ((0 : Int) - t10007201)))))
def circ_one__win.c27s : Shape := ⟨[(0, lb12), (1, lb22), (2, lb6), (4, lb2), (5, lb15), (9, lb2), (74, lb0), (75, lb2), (76, lb2), (130, lb0), (131, lb2), (132, lb2)], [(2, lb14), (5, lb16), (1000720, lb45), (2000722, lb10)]⟩
def circ_one__win.c27x0 : Shape := ⟨[(0, lb12), (1, lb22), (2, lb6), (4, lb2), (5, lb15), (9, lb2), (74, lb0), (75, lb2), (76, lb2), (130, lb0), (131, lb2), (132, lb2), (154, lb11)], [(2, lb14), (5, lb16), (1000720, lb45), (2000722, lb10)]⟩
def circ_one__win.c27r : Ck := Ck.of (T := Bool) circ_one__win.c27s (fun ρ x_ k_ => circ_one__win.c27 x_.2.2.1 x_.2.2.2.2.2.2.2.2.2.2.2.2.2.2.2.2.2.1 k_) (fun ρ x_ r_ k_ => k_ 0 (Shape.inj circ_one__win.c27x0 (x_.1, x_.2.1, x_.2.2.1, x_.2.2.2.1, x_.2.2.2.2.1, x_.2.2.2.2.2.1, x_.2.2.2.2.2.2.1, x_.2.2.2.2.2.2.2.1, x_.2.2.2.2.2.2.2.2.1, r_, x_.2.2.2.2.2.2.2.2.2)))
def circ_one__win.c100025 {ρ : Type} (t130 : List (Int)) (t131 : Int) (t132 : Int) (t10007201 : Int) (k_ : (Int) ⊕ ((Int) ⊕ (Int)) → Option ρ) : Option ρ :=
  br (decide (t132 < t131))
   (bnd (idx t130 t132) fun y =>
    bnd (W.circ_one__win.c27 y t10007201 some) fun y_1 =>
    br y_1
     (k_ (.inr (.inl t132)))
     (k_ (.inl (IntKind.wrap IntKind.i64 (t132 + (1 : Int))))))
   (k_ (.inr (.inr t132)))
def circ_one__win.c100025s : Shape := ⟨[(0, lb12), (1, lb22), (2, lb6), (4, lb2), (5, lb15), (74, lb0), (75, lb2), (76, lb2), (130, lb0), (131, lb2), (132, lb2)], [(2, lb14), (5, lb16), (1000720, lb45), (2000722, lb10)]⟩
def circ_one__win.c100025x0 : Shape := circ_one__win.c100025s
def circ_one__win.c100025x1 : Shape := circ_one__win.c100025s
def circ_one__win.c100025r : Ck := Ck.ofLoop (S := Int) (T := (Int) ⊕ (Int)) circ_one__win.c100025s (fun x_ => x_.2.2.2.2.2.2.2.1) (fun ρ x_ s_ k_ => circ_one__win.c100025 x_.2.2.2.2.2.1 x_.2.2.2.2.2.2.1 s_ x_.2.2.2.2.2.2.2.2.2.2.2.2.2.2.2.2.1 k_) (fun ρ x_ r_ k_ => sel r_ (fun r_ => k_ 1 (Shape.inj circ_one__win.c100025x0 (x_.1, (14 : Int), x_.2.2.1, x_.2.2.2.1, x_.2.2.2.2.1, x_.2.2.2.2.2.1, x_.2.2.2.2.2.2.1, r_, x_.2.2.2.2.2.2.2.2))) (fun r_ => k_ 5 (Shape.inj circ_one__win.c100025x1 (x_.1, x_.2.1, x_.2.2.1, x_.2.2.2.1, x_.2.2.2.2.1, x_.2.2.2.2.2.1, x_.2.2.2.2.2.2.1, r_, x_.2.2.2.2.2.2.2.2))))
def circ_one__win (o : (Int) × ((Int) × ((List Int) × ((Int) × ((Int) × (List Int)))))) (t10007200 : Int) (t10007201 : Int) (t10007202lo : Int) (t10007202n : Int) (t2000722 : List ((Int) × ((Int) × ((List Int) × ((Int) × ((Int) × (List Int))))))) : Option ((Int) × (Int) × (Int) × (Int) × (Int) × (List ((Int) × ((Int) × ((List Int) × ((Int) × ((Int) × (List Int))))))) × Unit) :=
  bnd (W.circ_one__win.c1 (Prod.fst o) some) fun y =>
  br y
   (some ((8 : Int), t10007200, t10007201, t10007202lo, t10007202n, t2000722, ()))
   (bnd (W.circ_one__win.c3 (Prod.fst o) (Prod.fst (Prod.snd o)) some) fun y_1 =>
    br y_1
     (some ((9 : Int), t10007200, t10007201, t10007202lo, t10007202n, t2000722, ()))
     (bnd (W.circ_one__win.c5 (Prod.fst o) (Prod.fst (Prod.snd (Prod.snd (Prod.snd o)))) t10007200 some) fun y_2 =>
      br y_2
       (some ((10 : Int), t10007200, t10007201, t10007202lo, t10007202n, t2000722, ()))
       (bnd (W.circ_one__win.c7 (Prod.fst o) (Prod.fst (Prod.snd (Prod.snd o))) some) fun y_3 =>
        br y_3
         (some ((11 : Int), t10007200, t10007201, t10007202lo, t10007202n, t2000722, ()))
         (bnd (okIf (decide ((0 : Ty.den (Ty.int IntKind.i64)) ≤ Prod.fst (Prod.snd (Prod.snd (Prod.snd o)))) && decide (Prod.fst (Prod.snd (Prod.snd (Prod.snd o))) < (↑(12 : Nat) : Int)))) fun y_4 =>
          bnd (inR (List.length (List.replicate (12 : Nat) false)) (Prod.fst (Prod.snd (Prod.snd (Prod.snd o))))) fun y_5 =>
          bnd (idx (List.replicate (12 : Nat) false) (Prod.fst (Prod.snd (Prod.snd (Prod.snd o))))) fun y_6 =>
          bnd (iter (fun s ↦ W.circ_one__win.c100012 (Prod.fst (Prod.snd (Prod.snd o))) (↑(List.length (Prod.fst (Prod.snd (Prod.snd o)))) : Int) (Prod.fst s) (Prod.snd s) t10007200 some) ((0 : Int), List.set (List.replicate (12 : Nat) false) (Int.toNat (Prod.fst (Prod.snd (Prod.snd (Prod.snd o))))) true)) fun y_7 =>
          sel y_7
           (fun u => some (Prod.fst u, t10007200, t10007201, t10007202lo, t10007202n, t2000722, ()))
           (fun v => bnd (W.circ_one__win.c20 (Prod.fst o) (Prod.fst (Prod.snd (Prod.snd (Prod.snd (Prod.snd o))))) t10007201 some) fun y_8 =>
            br y_8
             (some ((13 : Int), t10007200, t10007201, t10007202lo, t10007202n, t2000722, ()))
             (br (decide ((↑(List.length (Prod.snd (Prod.snd (Prod.snd (Prod.snd (Prod.snd o)))))) : Int) > (24 : Int)))
               (some ((14 : Int), t10007200, t10007201, t10007202lo, t10007202n, t2000722, ()))
               (bnd (iter (fun s ↦ W.circ_one__win.c100025 (Prod.snd (Prod.snd (Prod.snd (Prod.snd (Prod.snd o))))) (↑(List.length (Prod.snd (Prod.snd (Prod.snd (Prod.snd (Prod.snd o)))))) : Int) s t10007201 some) (0 : Int)) fun y_9 =>
                sel y_9
                 (fun u_1 => some ((14 : Int), t10007200, t10007201, t10007202lo, t10007202n, t2000722, ()))
                 (fun v_1 => some ((0 : Int), t10007200, t10007201, t10007202lo, t10007202n, t2000722, ())))))))))
def circ_one__win.mc : MCallee := ⟨30, circ_one__win.pre, circ_one__win.post, fun x_ => circ_one__win x_.1 x_.2.1 x_.2.2.1 x_.2.2.2.1 x_.2.2.2.2.1 x_.2.2.2.2.2.1⟩
def circ_one__win.G : Env := ⟨156, tab, [(45, circ_turns.ce), (46, circ_gate.ce)], [0, 1, 2, 4, 5, 7, 9, 17, 36, 58, 68, 74, 75, 76, 77, 80, 91, 124, 128, 130, 131, 132, 133, 154], [5, 69, 1000720, 2000722], [(20, [⟨[], [], [], []⟩, ⟨[0], [], [], []⟩, ⟨[1, 0], [], [], []⟩, ⟨[2, 1, 0], [], [], []⟩, ⟨[3, 2, 1, 0], [], [], []⟩, ⟨[4, 3, 2, 1, 0], [], [], []⟩, ⟨[5, 4, 3, 2, 1, 0], [], [], []⟩, ⟨[6, 5, 4, 3, 2, 1, 0], [], [], []⟩, ⟨[7, 6, 5, 4, 3, 2, 1, 0], [], [108, 109, 110, 111], []⟩, ⟨[8, 7, 6, 5, 4, 3, 2, 1, 0], [], [108, 109, 110, 111], []⟩, ⟨[7, 6, 5, 4, 3, 2, 1, 0], [], [106, 107], []⟩, ⟨[10, 7, 6, 5, 4, 3, 2, 1, 0], [], [106, 107], []⟩, ⟨[11, 10, 7, 6, 5, 4, 3, 2, 1, 0], [], [106, 107], []⟩, ⟨[12, 11, 10, 7, 6, 5, 4, 3, 2, 1, 0], [], [106, 107], []⟩, ⟨[9, 8, 7, 6, 5, 4, 3, 2, 1, 0, 13, 12, 11, 10], [], [], []⟩, ⟨[7, 6, 5, 4, 3, 2, 1, 0, 14, 9, 8, 13, 12, 11, 10], [], [], []⟩, ⟨[3, 2, 1, 0, 15, 7, 6, 5, 4, 14, 9, 8, 13, 12, 11, 10], [], [], []⟩, ⟨[16, 3, 2, 1, 0, 15, 7, 6, 5, 4, 14, 9, 8, 13, 12, 11, 10], [], [], []⟩, ⟨[17, 16, 3, 2, 1, 0, 15, 7, 6, 5, 4, 14, 9, 8, 13, 12, 11, 10], [], [], []⟩, ⟨[18, 17, 16, 3, 2, 1, 0, 15, 7, 6, 5, 4, 14, 9, 8, 13, 12, 11, 10], [], [], []⟩, ⟨[19, 18, 17, 16, 3, 2, 1, 0, 15, 7, 6, 5, 4, 14, 9, 8, 13, 12, 11, 10], [], [], []⟩, ⟨[20, 19, 18, 17, 16, 3, 2, 1, 0, 15, 7, 6, 5, 4, 14, 9, 8, 13, 12, 11, 10], [], [], []⟩, ⟨[21, 20, 19, 18, 17, 16, 3, 2, 1, 0, 15, 7, 6, 5, 4, 14, 9, 8, 13, 12, 11, 10], [], [], []⟩, ⟨[22, 21, 20, 19, 18, 17, 16, 3, 2, 1, 0, 15, 7, 6, 5, 4, 14, 9, 8, 13, 12, 11, 10], [], [], []⟩, ⟨[23, 22, 21, 20, 19, 18, 17, 16, 3, 2, 1, 0, 15, 7, 6, 5, 4, 14, 9, 8, 13, 12, 11, 10], [], [], []⟩, ⟨[21, 20, 19, 18, 17, 16, 3, 2, 1, 0, 15, 7, 6, 5, 4, 14, 9, 8, 13, 12, 11, 10, 24, 23, 22], [], [], []⟩, ⟨[17, 16, 3, 2, 1, 0, 15, 7, 6, 5, 4, 14, 9, 8, 13, 12, 11, 10, 25, 21, 20, 19, 18, 24, 23, 22], [], [], []⟩]),
  (5, [⟨[], [], [], []⟩, ⟨[0], [], [], []⟩, ⟨[1, 0], [], [], []⟩, ⟨[2, 1, 0], [], [], []⟩, ⟨[3, 2, 1, 0], [], [43, 44, 45, 46], []⟩, ⟨[4, 3, 2, 1, 0], [], [43, 44, 45, 46], []⟩, ⟨[3, 2, 1, 0], [], [41, 42], []⟩, ⟨[6, 3, 2, 1, 0], [], [41, 42], []⟩, ⟨[7, 6, 3, 2, 1, 0], [], [41, 42], []⟩, ⟨[8, 7, 6, 3, 2, 1, 0], [], [41, 42], []⟩, ⟨[5, 4, 3, 2, 1, 0, 9, 8, 7, 6], [], [], []⟩, ⟨[3, 2, 1, 0, 10, 5, 4, 9, 8, 7, 6], [], [], []⟩, ⟨[11, 3, 2, 1, 0, 10, 5, 4, 9, 8, 7, 6], [], [], []⟩, ⟨[12, 11, 3, 2, 1, 0, 10, 5, 4, 9, 8, 7, 6], [], [], []⟩, ⟨[13, 12, 11, 3, 2, 1, 0, 10, 5, 4, 9, 8, 7, 6], [], [], []⟩, ⟨[14, 13, 12, 11, 3, 2, 1, 0, 10, 5, 4, 9, 8, 7, 6], [], [], []⟩, ⟨[15, 14, 13, 12, 11, 3, 2, 1, 0, 10, 5, 4, 9, 8, 7, 6], [], [], []⟩, ⟨[16, 15, 14, 13, 12, 11, 3, 2, 1, 0, 10, 5, 4, 9, 8, 7, 6], [], [], []⟩, ⟨[17, 16, 15, 14, 13, 12, 11, 3, 2, 1, 0, 10, 5, 4, 9, 8, 7, 6], [], [], []⟩, ⟨[18, 17, 16, 15, 14, 13, 12, 11, 3, 2, 1, 0, 10, 5, 4, 9, 8, 7, 6], [], [], []⟩, ⟨[16, 15, 14, 13, 12, 11, 3, 2, 1, 0, 10, 5, 4, 9, 8, 7, 6, 19, 18, 17], [], [], []⟩, ⟨[12, 11, 3, 2, 1, 0, 10, 5, 4, 9, 8, 7, 6, 20, 16, 15, 14, 13, 19, 18, 17], [], [], []⟩])], [(100025, circ_one__win.c100025r), (27, circ_one__win.c27r), (20, circ_one__win.c20r), (100012, circ_one__win.c100012r), (14, circ_one__win.c14r), (7, circ_one__win.c7r), (5, circ_one__win.c5r), (3, circ_one__win.c3r), (1, circ_one__win.c1r)], [], tab_eqs⟩
theorem circ_one__win.eq (x_ : densU circ_one__win.mc.pre.tys) : denM circ_one__win.G Try.f30 circ_one__win.mc.pre circ_one__win.mc.post x_ = circ_one__win.mc.F x_ := by kernel_rfl
theorem circ_one__win.p0 : PcA circ_one__win.G Try.f30 0 :=
  region_ok (s := circ_one__win.c1r) (by kernel_rfl) (by kernel_rfl) (sums_of (sh := circ_one__win.c1s) (fun ρ x_ k_ => (nat_br nat_leaf nat_leaf)) (fun ρ x_ t k => (by kernel_rfl)) (fun x_ => by kernel_rfl))
theorem circ_one__win.p1 : PcA circ_one__win.G Try.f30 1 :=
  region_ok (s := circ_one__win.c3r) (by kernel_rfl) (by kernel_rfl) (sums_of (sh := circ_one__win.c3s) (fun ρ x_ k_ => (nat_br nat_leaf (nat_br nat_leaf (nat_bnd fun _ => (nat_br nat_leaf nat_leaf))))) (fun ρ x_ t k => (by kernel_rfl)) (fun x_ => by kernel_rfl))
theorem circ_one__win.p2 : PcA circ_one__win.G Try.f30 2 :=
  region_ok (s := circ_one__win.c5r) (by kernel_rfl) (by kernel_rfl) (sums_of (sh := circ_one__win.c5s) (fun ρ x_ k_ => (nat_br nat_leaf (nat_br nat_leaf (nat_br nat_leaf nat_leaf)))) (fun ρ x_ t k => (by kernel_rfl)) (fun x_ => by kernel_rfl))
theorem circ_one__win.p3 : PcA circ_one__win.G Try.f30 3 :=
  region_ok (s := circ_one__win.c7r) (by kernel_rfl) (by kernel_rfl) (sums_of (sh := circ_one__win.c7s) (fun ρ x_ k_ => (nat_br (nat_bnd fun _ => nat_leaf) nat_leaf)) (fun ρ x_ t k => (by kernel_rfl)) (fun x_ => by kernel_rfl))
theorem circ_one__win.p4 : PcA circ_one__win.G Try.f30 4 :=
  loop_ok (s := circ_one__win.c100012r) (by kernel_rfl) (by kernel_rfl) (loops_of (sh := circ_one__win.c100012s) (I := fun x_ s_ => (x_.1, x_.2.1, x_.2.2.1, x_.2.2.2.1, s_.1, x_.2.2.2.2.2.1, x_.2.2.2.2.2.2.1, x_.2.2.2.2.2.2.2.1, x_.2.2.2.2.2.2.2.2.1, x_.2.2.2.2.2.2.2.2.2.1, x_.2.2.2.2.2.2.2.2.2.2.1, s_.2, x_.2.2.2.2.2.2.2.2.2.2.2.2)) (fun x_ => rfl) (fun ρ x_ s_ k_ => (nat_br (nat_bnd fun _ => (nat_bnd fun _ => (nat_br nat_leaf (nat_bnd fun _ => (nat_bnd fun _ => (nat_bnd fun _ => (nat_br nat_leaf (nat_bnd fun _ => (nat_bnd fun _ => (nat_bnd fun _ => nat_leaf)))))))))) nat_leaf)) (fun ρ x_ t k => (nat_sel (fun _ => (by kernel_rfl)) (fun _ => (by kernel_rfl)))) (fun x_ s => by kernel_rfl))
theorem circ_one__win.p5 : PcA circ_one__win.G Try.f30 5 :=
  region_ok (s := circ_one__win.c14r) (by kernel_rfl) (by kernel_rfl) (sums_of (sh := circ_one__win.c14s) (fun ρ x_ k_ => (nat_br nat_leaf nat_leaf)) (fun ρ x_ t k => (by kernel_rfl)) (fun x_ => by kernel_rfl))
theorem circ_one__win.p6 : PcA circ_one__win.G Try.f30 6 :=
  region_ok (s := circ_one__win.c20r) (by kernel_rfl) (by kernel_rfl) (sums_of (sh := circ_one__win.c20s) (fun ρ x_ k_ => (nat_br (nat_br nat_leaf (nat_br nat_leaf (nat_br nat_leaf nat_leaf))) (nat_br nat_leaf nat_leaf))) (fun ρ x_ t k => (by kernel_rfl)) (fun x_ => by kernel_rfl))
theorem circ_one__win.p7 : PcA circ_one__win.G Try.f30 7 :=
  loop_ok (s := circ_one__win.c100025r) (by kernel_rfl) (by kernel_rfl) (loops_of (sh := circ_one__win.c100025s) (I := fun x_ s_ => (x_.1, x_.2.1, x_.2.2.1, x_.2.2.2.1, x_.2.2.2.2.1, x_.2.2.2.2.2.1, x_.2.2.2.2.2.2.1, s_, x_.2.2.2.2.2.2.2.2)) (fun x_ => rfl) (fun ρ x_ s_ k_ => (nat_br (nat_bnd fun _ => (nat_bnd fun _ => (nat_br nat_leaf nat_leaf))) nat_leaf)) (fun ρ x_ t k => (nat_sel (fun _ => (by kernel_rfl)) (fun _ => (by kernel_rfl)))) (fun x_ s => by kernel_rfl))
theorem circ_one__win.p8 : PcA circ_one__win.G Try.f30 8 :=
  region_ok (s := circ_one__win.c27r) (by kernel_rfl) (by kernel_rfl) (sums_of (sh := circ_one__win.c27s) (fun ρ x_ k_ => (nat_br nat_leaf (nat_br nat_leaf nat_leaf))) (fun ρ x_ t k => (by kernel_rfl)) (fun x_ => by kernel_rfl))
theorem circ_one__win.ok : MOk Try.prog 30 circ_one__win.mc := fnm_ok (G := circ_one__win.G) tab_ok mixed Try.func30 ⟨(fns_cons circ_turns.ok (fns_cons circ_gate.ok fns_nil)), mfns_nil, tab_eqs_ok⟩ (m := 9) (by kernel_rfl) ⟨⟨⟨⟨⟨⟨⟨⟨⟨trivial, circ_one__win.p0⟩, circ_one__win.p1⟩, circ_one__win.p2⟩, circ_one__win.p3⟩, circ_one__win.p4⟩, circ_one__win.p5⟩, circ_one__win.p6⟩, circ_one__win.p7⟩, circ_one__win.p8⟩ (by kernel_rfl) circ_one__win.eq
abbrev lb46 : SD := .agg [.val (.int .i64), .val (.int .i64), .win 2000702 0]
abbrev lb47 : SD := .one (.val (.st (.pair (.int .i64) (.int .i64))))
abbrev lb48 : SO := .box [.val (.int .i64), .val (.int .i64), .win 2000702 0]
abbrev lb49 : SD := .one (.win 2000702 0)
def circ_Check__win.pre : Shape := ⟨[(0, lb46)], [(2000702, lb10)]⟩
def circ_Check__win.post : Shape := ⟨[(0, lb47)], [(2000702, lb10)]⟩
def circ_Check__win.c1 {ρ : Type} (c0_1 : Int) (k_ : Bool → Option ρ) : Option ρ :=
  br (decide (c0_1 < (1 : Int)))
   (k_ true)
   (k_ (decide (c0_1 > (12 : Int))))
def circ_Check__win.c1s : Shape := ⟨[(0, lb46), (1, lb5), (2, lb6)], [(1, lb48), (2, lb17), (2000702, lb10)]⟩
def circ_Check__win.c1x0 : Shape := ⟨[(0, lb46), (1, lb5), (2, lb6), (6, lb11)], [(1, lb48), (2, lb17), (2000702, lb10)]⟩
def circ_Check__win.c1r : Ck := Ck.of (T := Bool) circ_Check__win.c1s (fun ρ x_ k_ => circ_Check__win.c1 x_.2.2.2.2.1 k_) (fun ρ x_ r_ k_ => k_ 0 (Shape.inj circ_Check__win.c1x0 (x_.1, x_.2.1, x_.2.2.1, x_.2.2.2.1, r_, x_.2.2.2.2)))
def circ_Check__win.c3 {ρ : Type} (c1_1 : Int) (k_ : Bool → Option ρ) : Option ρ :=
  br (decide (c1_1 < (0 : Int)))
   (k_ true)
   (k_ (decide (c1_1 > (12 : Int))))
def circ_Check__win.c3s : Shape := circ_Check__win.c1s
def circ_Check__win.c3x0 : Shape := ⟨[(0, lb46), (1, lb5), (2, lb6), (16, lb11)], [(1, lb48), (2, lb17), (2000702, lb10)]⟩
def circ_Check__win.c3r : Ck := Ck.of (T := Bool) circ_Check__win.c3s (fun ρ x_ k_ => circ_Check__win.c3 x_.2.2.2.2.2.1 k_) (fun ρ x_ r_ k_ => k_ 0 (Shape.inj circ_Check__win.c3x0 (x_.1, x_.2.1, x_.2.2.1, x_.2.2.2.1, r_, x_.2.2.2.2)))
def circ_Check__win.c100008 {ρ : Type} (t33lo : Int) (t33n : Int) (t34 : Int) (t35 : Int) (c0_1 : Int) (c1_1 : Int) (c2lo_1 : Int) (c2n_1 : Int) (t2000702 : List ((Int) × ((Int) × ((List Int) × ((Int) × ((Int) × (List Int))))))) (k_ : ((Int) × (Int) × (Int) × (Int) × (Int) × (List ((Int) × ((Int) × ((List Int) × ((Int) × ((Int) × (List Int)))))))) ⊕ (((Int) × (Int) × (Int) × (Int) × (Int) × (Int) × (Int) × (List ((Int) × ((Int) × ((List Int) × ((Int) × ((Int) × (List Int)))))))) ⊕ ((Int) × (Int) × (Int) × (Int) × (Int) × (List ((Int) × ((Int) × ((List Int) × ((Int) × ((Int) × (List Int))))))))) → Option ρ) : Option ρ :=
  br (decide (t35 < t34))
   (bnd (okIf (decide ((0 : Ty.den (Ty.int IntKind.i64)) ≤ t35) && decide (t35 < t33n))) fun y =>
    bnd (idx t2000702 (t33lo + t35)) fun y_1 =>
    bnd (W.circ_one__win (Prod.fst y_1, Prod.fst (Prod.snd y_1), Prod.fst (Prod.snd (Prod.snd y_1)), Prod.fst (Prod.snd (Prod.snd (Prod.snd y_1))), Prod.fst (Prod.snd (Prod.snd (Prod.snd (Prod.snd y_1)))), Prod.snd (Prod.snd (Prod.snd (Prod.snd (Prod.snd y_1))))) c0_1 c1_1 c2lo_1 c2n_1 t2000702) fun y_2 =>
    br (Prod.fst y_2 != (0 : Int))
     (bnd (W.circ_fault (Prod.fst y_2) t35) fun y_3 =>
      k_ (.inr (.inl (t35, (Prod.fst y_2.2), (Prod.fst y_2.2.2), (Prod.fst y_2.2.2.2), (Prod.fst y_2.2.2.2.2), (Prod.fst y_3), (Prod.snd y_3), (Prod.fst y_2.2.2.2.2.2)))))
     (k_ (.inl ((IntKind.wrap IntKind.i64 (t35 + (1 : Int))), (Prod.fst y_2.2), (Prod.fst y_2.2.2), (Prod.fst y_2.2.2.2), (Prod.fst y_2.2.2.2.2), (Prod.fst y_2.2.2.2.2.2)))))
   (k_ (.inr (.inr (t35, c0_1, c1_1, c2lo_1, c2n_1, t2000702))))
def circ_Check__win.c100008s : Shape := ⟨[(0, lb46), (1, lb5), (2, lb6), (33, lb49), (34, lb2), (35, lb2)], [(1, lb48), (2, lb17), (2000702, lb10)]⟩
def circ_Check__win.c100008x0 : Shape := circ_Check__win.c100008s
def circ_Check__win.c100008x1 : Shape := circ_Check__win.c100008s
def circ_Check__win.c100008r : Ck := Ck.ofLoop (S := (Int) × (Int) × (Int) × (Int) × (Int) × (List ((Int) × ((Int) × ((List Int) × ((Int) × ((Int) × (List Int)))))))) (T := ((Int) × (Int) × (Int) × (Int) × (Int) × (Int) × (Int) × (List ((Int) × ((Int) × ((List Int) × ((Int) × ((Int) × (List Int)))))))) ⊕ ((Int) × (Int) × (Int) × (Int) × (Int) × (List ((Int) × ((Int) × ((List Int) × ((Int) × ((Int) × (List Int))))))))) circ_Check__win.c100008s (fun x_ => (x_.2.2.2.2.2.2.2.1, x_.2.2.2.2.2.2.2.2.1, x_.2.2.2.2.2.2.2.2.2.1, x_.2.2.2.2.2.2.2.2.2.2.1, x_.2.2.2.2.2.2.2.2.2.2.2.1, x_.2.2.2.2.2.2.2.2.2.2.2.2.2.2.1)) (fun ρ x_ s_ k_ => circ_Check__win.c100008 x_.2.2.2.2.1 x_.2.2.2.2.2.1 x_.2.2.2.2.2.2.1 s_.1 s_.2.1 s_.2.2.1 s_.2.2.2.1 s_.2.2.2.2.1 s_.2.2.2.2.2 k_) (fun ρ x_ r_ k_ => sel r_ (fun r_ => k_ 1 (Shape.inj circ_Check__win.c100008x0 (x_.1, x_.2.1, x_.2.2.1, x_.2.2.2.1, x_.2.2.2.2.1, x_.2.2.2.2.2.1, x_.2.2.2.2.2.2.1, r_.1, r_.2.1, r_.2.2.1, r_.2.2.2.1, r_.2.2.2.2.1, r_.2.2.2.2.2.1, r_.2.2.2.2.2.2.1, r_.2.2.2.2.2.2.2, ()))) (fun r_ => k_ 3 (Shape.inj circ_Check__win.c100008x1 (x_.1, x_.2.1, x_.2.2.1, x_.2.2.2.1, x_.2.2.2.2.1, x_.2.2.2.2.2.1, x_.2.2.2.2.2.2.1, r_.1, r_.2.1, r_.2.2.1, r_.2.2.2.1, r_.2.2.2.2.1, x_.2.2.2.2.2.2.2.2.2.2.2.2.1, x_.2.2.2.2.2.2.2.2.2.2.2.2.2.1, r_.2.2.2.2.2, ()))))
def circ_Check__win (c0 : Int) (c1 : Int) (c2lo : Int) (c2n : Int) (t2000702 : List ((Int) × ((Int) × ((List Int) × ((Int) × ((Int) × (List Int))))))) : Option (((Int) × (Int)) × (List ((Int) × ((Int) × ((List Int) × ((Int) × ((Int) × (List Int))))))) × Unit) :=
  bnd (W.circ_Check__win.c1 c0 some) fun y =>
  br y
   (bnd (W.circ_fault (6 : Int) (0 : Int)) fun y_1 =>
    some ((Prod.fst y_1, Prod.snd y_1), t2000702, ()))
   (bnd (W.circ_Check__win.c3 c1 some) fun y_2 =>
    br y_2
     (bnd (W.circ_fault (7 : Int) (0 : Int)) fun y_3 =>
      some ((Prod.fst y_3, Prod.snd y_3), t2000702, ()))
     (br (decide ((↑(List.length (part c2lo c2n t2000702)) : Int) > (4096 : Int)))
       (bnd (W.circ_fault (2 : Int) (0 : Int)) fun y_4 =>
        some ((Prod.fst y_4, Prod.snd y_4), t2000702, ()))
       (bnd (iter (fun s ↦ W.circ_Check__win.c100008 c2lo c2n (↑(List.length (part c2lo c2n t2000702)) : Int) (Prod.fst s) (Prod.fst (Prod.snd s)) (Prod.fst (Prod.snd (Prod.snd s))) (Prod.fst (Prod.snd (Prod.snd (Prod.snd s)))) (Prod.fst (Prod.snd (Prod.snd (Prod.snd (Prod.snd s))))) (Prod.snd (Prod.snd (Prod.snd (Prod.snd (Prod.snd s))))) some) ((0 : Int), c0, c1, c2lo, c2n, t2000702)) fun y_5 =>
        sel y_5
         (fun u => some ((Prod.fst (Prod.snd (Prod.snd (Prod.snd (Prod.snd (Prod.snd u))))), Prod.fst (Prod.snd (Prod.snd (Prod.snd (Prod.snd (Prod.snd (Prod.snd u))))))), Prod.snd (Prod.snd (Prod.snd (Prod.snd (Prod.snd (Prod.snd (Prod.snd u)))))), ()))
         (fun v => some (((0 : Int), (0 : Int)), Prod.snd (Prod.snd (Prod.snd (Prod.snd (Prod.snd v)))), ())))))
def circ_Check__win.mc : MCallee := ⟨17, circ_Check__win.pre, circ_Check__win.post, fun x_ => circ_Check__win x_.1 x_.2.1 x_.2.2.1 x_.2.2.2.1 x_.2.2.2.2.1⟩
def circ_Check__win.G : Env := ⟨49, tab, [(29, circ_fault.ce)], [0, 1, 2, 3, 4, 5, 6, 16, 26, 33, 34, 35, 36, 43], [1, 3001, 2000702], [], [(100008, circ_Check__win.c100008r), (3, circ_Check__win.c3r), (1, circ_Check__win.c1r)], [(30, circ_one__win.mc)], tab_eqs⟩
theorem circ_Check__win.eq (x_ : densU circ_Check__win.mc.pre.tys) : denM circ_Check__win.G Try.f17 circ_Check__win.mc.pre circ_Check__win.mc.post x_ = circ_Check__win.mc.F x_ := by kernel_rfl
theorem circ_Check__win.p0 : PcA circ_Check__win.G Try.f17 0 :=
  region_ok (s := circ_Check__win.c1r) (by kernel_rfl) (by kernel_rfl) (sums_of (sh := circ_Check__win.c1s) (fun ρ x_ k_ => (nat_br nat_leaf nat_leaf)) (fun ρ x_ t k => (by kernel_rfl)) (fun x_ => by kernel_rfl))
theorem circ_Check__win.p1 : PcA circ_Check__win.G Try.f17 1 :=
  region_ok (s := circ_Check__win.c3r) (by kernel_rfl) (by kernel_rfl) (sums_of (sh := circ_Check__win.c3s) (fun ρ x_ k_ => (nat_br nat_leaf nat_leaf)) (fun ρ x_ t k => (by kernel_rfl)) (fun x_ => by kernel_rfl))
theorem circ_Check__win.p2 : PcA circ_Check__win.G Try.f17 2 :=
  loop_ok (s := circ_Check__win.c100008r) (by kernel_rfl) (by kernel_rfl) (loops_of (sh := circ_Check__win.c100008s) (I := fun x_ s_ => (x_.1, x_.2.1, x_.2.2.1, x_.2.2.2.1, x_.2.2.2.2.1, x_.2.2.2.2.2.1, x_.2.2.2.2.2.2.1, s_.1, s_.2.1, s_.2.2.1, s_.2.2.2.1, s_.2.2.2.2.1, x_.2.2.2.2.2.2.2.2.2.2.2.2.1, x_.2.2.2.2.2.2.2.2.2.2.2.2.2.1, s_.2.2.2.2.2, ())) (fun x_ => rfl) (fun ρ x_ s_ k_ => (nat_br (nat_bnd fun _ => (nat_bnd fun _ => (nat_bnd fun _ => (nat_br (nat_bnd fun _ => nat_leaf) nat_leaf)))) nat_leaf)) (fun ρ x_ t k => (nat_sel (fun _ => (by kernel_rfl)) (fun _ => (by kernel_rfl)))) (fun x_ s => by kernel_rfl))
theorem circ_Check__win.ok : MOk Try.prog 17 circ_Check__win.mc := fnm_ok (G := circ_Check__win.G) tab_ok mixed Try.func17 ⟨(fns_cons circ_fault.ok fns_nil), (mfns_cons circ_one__win.ok mfns_nil), tab_eqs_ok⟩ (m := 3) (by kernel_rfl) ⟨⟨⟨trivial, circ_Check__win.p0⟩, circ_Check__win.p1⟩, circ_Check__win.p2⟩ (by kernel_rfl) circ_Check__win.eq
def lower_Base__win.pre : Shape := ⟨[(0, lb46)], [(2000702, lb10)]⟩
def lower_Base__win.post : Shape := ⟨[(0, lb4), (1, lb47)], [(2000702, lb10)]⟩
def lower_Base__win.c3 {ρ : Type}  (k_ : Unit → Option ρ) : Option ρ :=
  k_ ()
def lower_Base__win.c3s : Shape := ⟨[(0, lb46), (1, lb5), (2, lb6), (3, lb7), (4, lb30)], [(1, lb48), (2, lb8), (3, lb17), (4, lb17), (2000702, lb10)]⟩
def lower_Base__win.c3x0 : Shape := lower_Base__win.c3s
def lower_Base__win.c3r : Ck := Ck.of (T := Unit) lower_Base__win.c3s (fun ρ x_ k_ => lower_Base__win.c3  k_) (fun ρ x_ r_ k_ => k_ 0 (Shape.inj lower_Base__win.c3x0 (x_.1, x_.2.1, x_.2.2.1, x_.2.2.2.1, x_.2.2.2.2.1, x_.2.2.2.2.2.1, x_.2.2.2.2.2.2.1, x_.2.2.2.2.2.2.2.1, (0 : Int), (0 : Int), [], x_.2.2.2.2.2.2.2.2.2.2.2.2.2.1, x_.2.2.2.2.2.2.2.2.2.2.2.2.2.2.1, x_.2.2.2.2.2.2.2.2.2.2.2.2.2)))
def lower_Base__win.c232773 {ρ : Type} (size : Int) (o2 : List (Int)) (k_ : Int → Option ρ) : Option ρ :=
  br (decide ((↑(List.length o2) : Int) > (0 : Int)))
   (k_ (IntKind.wrap IntKind.i64 (size + (220 : Int))))
   (k_ size)
def lower_Base__win.c232773s : Shape := ⟨[(0, lb46), (1, lb5), (2, lb6), (3, lb7), (4, lb30), (5, lb2), (6, lb2), (8, lb40), (24, lb49), (25, lb2), (26, lb2)], [(1, lb48), (2, lb8), (3, lb17), (4, lb17), (8, lb14), (2000702, lb10)]⟩
def lower_Base__win.c232773x0 : Shape := lower_Base__win.c232773s
def lower_Base__win.c232773r : Ck := Ck.of (T := Int) lower_Base__win.c232773s (fun ρ x_ k_ => lower_Base__win.c232773 x_.2.2.2.2.1 x_.2.2.2.2.2.2.2.2.2.2.2.2.2.2.2.2.2.2.2.2.2.2.2.1 k_) (fun ρ x_ r_ k_ => k_ 0 (Shape.inj lower_Base__win.c232773x0 (x_.1, x_.2.1, x_.2.2.1, x_.2.2.2.1, r_, x_.2.2.2.2.2)))
def lower_Base__win.c100006 {ρ : Type} (size : Int) (a : Int) (t24lo : Int) (t24n : Int) (t25 : Int) (t26 : Int) (t2000702 : List ((Int) × ((Int) × ((List Int) × ((Int) × ((Int) × (List Int))))))) (k_ : ((Int) × (Int) × (Int)) ⊕ ((Int) × (Int) × (Int)) → Option ρ) : Option ρ :=
  br (decide (t26 < t25))
   (bnd (okIf (decide ((0 : Ty.den (Ty.int IntKind.i64)) ≤ t26) && decide (t26 < t24n))) fun y =>
    bnd (idx t2000702 (t24lo + t26)) fun y_1 =>
    bnd (W.lower_Base__win.c232773 size (Prod.fst (Prod.snd (Prod.snd y_1))) some) fun y_2 =>
    bnd (W.lower_spares (Prod.fst y_1, Prod.fst (Prod.snd y_1), Prod.fst (Prod.snd (Prod.snd y_1)), Prod.fst (Prod.snd (Prod.snd (Prod.snd y_1))), Prod.fst (Prod.snd (Prod.snd (Prod.snd (Prod.snd y_1)))), Prod.snd (Prod.snd (Prod.snd (Prod.snd (Prod.snd y_1)))))) fun y_3 =>
    k_ (.inl (y_2, (Max.max a y_3), (IntKind.wrap IntKind.i64 (t26 + (1 : Int))))))
   (k_ (.inr (size, a, t26)))
def lower_Base__win.c100006s : Shape := ⟨[(0, lb46), (1, lb5), (2, lb6), (3, lb7), (4, lb30), (5, lb2), (6, lb2), (24, lb49), (25, lb2), (26, lb2)], [(1, lb48), (2, lb8), (3, lb17), (4, lb17), (2000702, lb10)]⟩
def lower_Base__win.c100006x0 : Shape := lower_Base__win.c100006s
def lower_Base__win.c100006r : Ck := Ck.ofLoop (S := (Int) × (Int) × (Int)) (T := (Int) × (Int) × (Int)) lower_Base__win.c100006s (fun x_ => (x_.2.2.2.2.1, x_.2.2.2.2.2.1, x_.2.2.2.2.2.2.2.2.2.1)) (fun ρ x_ s_ k_ => lower_Base__win.c100006 s_.1 s_.2.1 x_.2.2.2.2.2.2.1 x_.2.2.2.2.2.2.2.1 x_.2.2.2.2.2.2.2.2.1 s_.2.2 x_.2.2.2.2.2.2.2.2.2.2.2.2.2.2.2.2.2.2.2.2.2.1 k_) (fun ρ x_ r_ k_ => k_ 2 (Shape.inj lower_Base__win.c100006x0 (x_.1, x_.2.1, x_.2.2.1, x_.2.2.2.1, r_.1, r_.2.1, x_.2.2.2.2.2.2.1, x_.2.2.2.2.2.2.2.1, x_.2.2.2.2.2.2.2.2.1, r_.2.2, x_.2.2.2.2.2.2.2.2.2.2)))
def lower_Base__win.c100018 {ρ : Type} (t60lo : Int) (t60n : Int) (t61 : Int) (t62 : Int) (c0_1 : Int) (out0 : Int) (out1 : Int) (t3009 : List ((Int) × ((Int) × ((List Int) × ((Int) × ((Int) × (List Int))))))) (t2000702 : List ((Int) × ((Int) × ((List Int) × ((Int) × ((Int) × (List Int))))))) (k_ : ((Int) × (Int) × (Int) × (List ((Int) × ((Int) × ((List Int) × ((Int) × ((Int) × (List Int)))))))) ⊕ ((Int) × (Int) × (Int) × (List ((Int) × ((Int) × ((List Int) × ((Int) × ((Int) × (List Int)))))))) → Option ρ) : Option ρ :=
  br (decide (t62 < t61))
   (bnd (okIf (decide ((0 : Ty.den (Ty.int IntKind.i64)) ≤ t62) && decide (t62 < t60n))) fun y =>
    bnd (idx t2000702 (t60lo + t62)) fun y_1 =>
    bnd (W.lower_maker_op (Prod.fst y_1, Prod.fst (Prod.snd y_1), Prod.fst (Prod.snd (Prod.snd y_1)), Prod.fst (Prod.snd (Prod.snd (Prod.snd y_1))), Prod.fst (Prod.snd (Prod.snd (Prod.snd (Prod.snd y_1)))), Prod.snd (Prod.snd (Prod.snd (Prod.snd (Prod.snd y_1))))) c0_1 (Prod.snd (Prod.snd (Prod.snd (Prod.snd (Prod.snd y_1))))) out0 out1 t3009) fun y_2 =>
    k_ (.inl ((IntKind.wrap IntKind.i64 (t62 + (1 : Int))), (Prod.fst y_2.2), (Prod.fst y_2.2.2), (Prod.fst y_2))))
   (k_ (.inr (t62, out0, out1, t3009)))
def lower_Base__win.c100018s : Shape := ⟨[(0, lb46), (1, lb5), (2, lb6), (3, lb7), (4, lb30), (5, lb2), (6, lb2), (9, lb43), (24, lb49), (25, lb2), (26, lb2), (60, lb49), (61, lb2), (62, lb2)], [(1, lb48), (2, lb8), (3, lb17), (4, lb17), (9, lb44), (3009, lb10), (2000702, lb10)]⟩
def lower_Base__win.c100018x0 : Shape := lower_Base__win.c100018s
def lower_Base__win.c100018r : Ck := Ck.ofLoop (S := (Int) × (Int) × (Int) × (List ((Int) × ((Int) × ((List Int) × ((Int) × ((Int) × (List Int)))))))) (T := (Int) × (Int) × (Int) × (List ((Int) × ((Int) × ((List Int) × ((Int) × ((Int) × (List Int)))))))) lower_Base__win.c100018s (fun x_ => (x_.2.2.2.2.2.2.2.2.2.2.2.2.2.1, x_.2.2.2.2.2.2.2.2.2.2.2.2.2.2.2.2.2.2.2.2.2.2.2.2.2.1, x_.2.2.2.2.2.2.2.2.2.2.2.2.2.2.2.2.2.2.2.2.2.2.2.2.2.2.1, x_.2.2.2.2.2.2.2.2.2.2.2.2.2.2.2.2.2.2.2.2.2.2.2.2.2.2.2.1)) (fun ρ x_ s_ k_ => lower_Base__win.c100018 x_.2.2.2.2.2.2.2.2.2.2.1 x_.2.2.2.2.2.2.2.2.2.2.2.1 x_.2.2.2.2.2.2.2.2.2.2.2.2.1 s_.1 x_.2.2.2.2.2.2.2.2.2.2.2.2.2.2.1 s_.2.1 s_.2.2.1 s_.2.2.2 x_.2.2.2.2.2.2.2.2.2.2.2.2.2.2.2.2.2.2.2.2.2.2.2.2.2.2.2.2.1 k_) (fun ρ x_ r_ k_ => uP x_ fun c0 x_ => uP x_ fun c1 x_ => uP x_ fun c2lo x_ => uP x_ fun c2n x_ => uP x_ fun size x_ => uP x_ fun a x_ => uP x_ fun t24lo x_ => uP x_ fun t24n x_ => uP x_ fun t25 x_ => uP x_ fun t26 x_ => uP x_ fun t60lo x_ => uP x_ fun t60n x_ => uP x_ fun t61 x_ => uP x_ fun t62 x_ => uP x_ fun c0_1 x_ => uP x_ fun c1_1 x_ => uP x_ fun c2lo_1 x_ => uP x_ fun c2n_1 x_ => uP x_ fun t20 x_ => uP x_ fun t21 x_ => uP x_ fun t22 x_ => uP x_ fun t30 x_ => uP x_ fun t31 x_ => uP x_ fun f0 x_ => uP x_ fun f1 x_ => uP x_ fun out0 x_ => uP x_ fun out1 x_ => uP x_ fun t3009 x_ => uP x_ fun t2000702 x_ => k_ 4 (Shape.inj lower_Base__win.c100018x0 (c0, c1, c2lo, c2n, size, a, t24lo, t24n, t25, t26, t60lo, t60n, t61, r_.1, c0_1, c1_1, c2lo_1, c2n_1, t20, t21, t22, t30, t31, f0, f1, r_.2.1, r_.2.2.1, r_.2.2.2, t2000702, ())))
def lower_Base__win (c0 : Int) (c1 : Int) (c2lo : Int) (c2n : Int) (t2000702 : List ((Int) × ((Int) × ((List Int) × ((Int) × ((Int) × (List Int))))))) : Option (((Int) × ((Int) × (List ((Int) × ((Int) × ((List Int) × ((Int) × ((Int) × (List Int))))))))) × ((Int) × (Int)) × (List ((Int) × ((Int) × ((List Int) × ((Int) × ((Int) × (List Int))))))) × Unit) :=
  bnd (W.circ_Check__win c0 c1 c2lo c2n t2000702) fun y =>
  br (Prod.fst (Prod.fst y) != (0 : Int))
   (bnd (W.lower_Base__win.c3 some) fun y_1 =>
    some (((0 : Int), (0 : Int), []), (Prod.fst (Prod.fst y), Prod.snd (Prod.fst y)), Prod.fst y.2, ()))
   (bnd (iter (fun s ↦ W.lower_Base__win.c100006 (Prod.fst s) (Prod.fst (Prod.snd s)) c2lo c2n (↑(List.length (part c2lo c2n (Prod.fst y.2))) : Int) (Prod.snd (Prod.snd s)) (Prod.fst y.2) some) ((↑(List.length (part c2lo c2n (Prod.fst y.2))) : Int), (0 : Int), (0 : Int))) fun y_2 =>
    br (decide (Prod.fst y_2 > (4096 : Int)))
     (some (((0 : Int), (0 : Int), []), ((21 : Int), (0 : Int)), Prod.fst y.2, ()))
     (br (decide (IntKind.wrap IntKind.i64 (c0 + Prod.fst (Prod.snd y_2)) > (12 : Int)))
       (some (((0 : Int), (0 : Int), []), ((36 : Int), (0 : Int)), Prod.fst y.2, ()))
       (bnd (iter (fun s ↦ W.lower_Base__win.c100018 c2lo c2n (↑(List.length (part c2lo c2n (Prod.fst y.2))) : Int) (Prod.fst s) c0 (Prod.fst (Prod.snd s)) (Prod.fst (Prod.snd (Prod.snd s))) (Prod.snd (Prod.snd (Prod.snd s))) (Prod.fst y.2) some) ((0 : Int), IntKind.wrap IntKind.i64 (c0 + Prod.fst (Prod.snd y_2)), c1, [])) fun y_3 =>
        some ((Prod.fst (Prod.snd y_3), Prod.fst (Prod.snd (Prod.snd y_3)), Prod.snd (Prod.snd (Prod.snd y_3))), ((0 : Int), (0 : Int)), Prod.fst y.2, ()))))
def lower_Base__win.mc : MCallee := ⟨6, lower_Base__win.pre, lower_Base__win.post, fun x_ => lower_Base__win x_.1 x_.2.1 x_.2.2.1 x_.2.2.2.1 x_.2.2.2.2.1⟩
def lower_Base__win.G : Env := ⟨78, tab, [(18, lower_spares.ce)], [0, 1, 2, 3, 4, 5, 6, 8, 9, 11, 12, 17, 24, 25, 26, 27, 33, 42, 49, 60, 61, 62, 63], [1, 9, 12, 58, 71, 1001, 2009, 3009, 2000702], [(3, [⟨[], [], [19], []⟩, ⟨[], [], [18], [2]⟩, ⟨[0], [2], [19], []⟩, ⟨[1, 2, 0], [3], [], []⟩])], [(100018, lower_Base__win.c100018r), (100006, lower_Base__win.c100006r), (232773, lower_Base__win.c232773r), (3, lower_Base__win.c3r)], [(17, circ_Check__win.mc), (19, lower_maker_op.mc)], tab_eqs⟩
theorem lower_Base__win.eq (x_ : densU lower_Base__win.mc.pre.tys) : denM lower_Base__win.G Try.f6 lower_Base__win.mc.pre lower_Base__win.mc.post x_ = lower_Base__win.mc.F x_ := by kernel_rfl
theorem lower_Base__win.p0 : PcA lower_Base__win.G Try.f6 0 :=
  region_ok (s := lower_Base__win.c3r) (by kernel_rfl) (by kernel_rfl) (sums_of (sh := lower_Base__win.c3s) (fun ρ x_ k_ => nat_leaf) (fun ρ x_ t k => (by kernel_rfl)) (fun x_ => by kernel_rfl))
theorem lower_Base__win.p1 : PcA lower_Base__win.G Try.f6 1 :=
  loop_ok (s := lower_Base__win.c100006r) (by kernel_rfl) (by kernel_rfl) (loops_of (sh := lower_Base__win.c100006s) (I := fun x_ s_ => (x_.1, x_.2.1, x_.2.2.1, x_.2.2.2.1, s_.1, s_.2.1, x_.2.2.2.2.2.2.1, x_.2.2.2.2.2.2.2.1, x_.2.2.2.2.2.2.2.2.1, s_.2.2, x_.2.2.2.2.2.2.2.2.2.2)) (fun x_ => rfl) (fun ρ x_ s_ k_ => (nat_br (nat_bnd fun _ => (nat_bnd fun _ => (nat_bnd fun _ => (nat_bnd fun _ => nat_leaf)))) nat_leaf)) (fun ρ x_ t k => (by kernel_rfl)) (fun x_ s => by kernel_rfl))
theorem lower_Base__win.p2 : PcA lower_Base__win.G Try.f6 2 :=
  join_ok (s := lower_Base__win.c232773r) (by kernel_rfl) (by kernel_rfl) (sums_of (sh := lower_Base__win.c232773s) (fun ρ x_ k_ => (nat_br nat_leaf nat_leaf)) (fun ρ x_ t k => (by kernel_rfl)) (fun x_ => by kernel_rfl))
theorem lower_Base__win.p3 : PcA lower_Base__win.G Try.f6 3 :=
  loop_ok (s := lower_Base__win.c100018r) (by kernel_rfl) (by kernel_rfl) (loops_of (sh := lower_Base__win.c100018s) (I := fun x_ s_ => (x_.1, x_.2.1, x_.2.2.1, x_.2.2.2.1, x_.2.2.2.2.1, x_.2.2.2.2.2.1, x_.2.2.2.2.2.2.1, x_.2.2.2.2.2.2.2.1, x_.2.2.2.2.2.2.2.2.1, x_.2.2.2.2.2.2.2.2.2.1, x_.2.2.2.2.2.2.2.2.2.2.1, x_.2.2.2.2.2.2.2.2.2.2.2.1, x_.2.2.2.2.2.2.2.2.2.2.2.2.1, s_.1, x_.2.2.2.2.2.2.2.2.2.2.2.2.2.2.1, x_.2.2.2.2.2.2.2.2.2.2.2.2.2.2.2.1, x_.2.2.2.2.2.2.2.2.2.2.2.2.2.2.2.2.1, x_.2.2.2.2.2.2.2.2.2.2.2.2.2.2.2.2.2.1, x_.2.2.2.2.2.2.2.2.2.2.2.2.2.2.2.2.2.2.1, x_.2.2.2.2.2.2.2.2.2.2.2.2.2.2.2.2.2.2.2.1, x_.2.2.2.2.2.2.2.2.2.2.2.2.2.2.2.2.2.2.2.2.1, x_.2.2.2.2.2.2.2.2.2.2.2.2.2.2.2.2.2.2.2.2.2.1, x_.2.2.2.2.2.2.2.2.2.2.2.2.2.2.2.2.2.2.2.2.2.2.1, x_.2.2.2.2.2.2.2.2.2.2.2.2.2.2.2.2.2.2.2.2.2.2.2.1, x_.2.2.2.2.2.2.2.2.2.2.2.2.2.2.2.2.2.2.2.2.2.2.2.2.1, s_.2.1, s_.2.2.1, s_.2.2.2, x_.2.2.2.2.2.2.2.2.2.2.2.2.2.2.2.2.2.2.2.2.2.2.2.2.2.2.2.2)) (fun x_ => rfl) (fun ρ x_ s_ k_ => (nat_br (nat_bnd fun _ => (nat_bnd fun _ => (nat_bnd fun _ => nat_leaf))) nat_leaf)) (fun ρ x_ t k => (by kernel_rfl)) (fun x_ s => by kernel_rfl))
theorem lower_Base__win.ok : MOk Try.prog 6 lower_Base__win.mc := fnm_ok (G := lower_Base__win.G) tab_ok mixed Try.func6 ⟨(fns_cons lower_spares.ok fns_nil), (mfns_cons circ_Check__win.ok (mfns_cons lower_maker_op.ok mfns_nil)), tab_eqs_ok⟩ (m := 4) (by kernel_rfl) ⟨⟨⟨⟨trivial, lower_Base__win.p0⟩, lower_Base__win.p1⟩, lower_Base__win.p2⟩, lower_Base__win.p3⟩ (by kernel_rfl) lower_Base__win.eq
abbrev lb50 : SO := .box [.val (.int .i64), .val (.int .i64), .own 8 0]
def Law_lowerBegun.c5 {ρ : Type} (a0 : Int) (a2 : List ((Int) × ((Int) × ((List Int) × ((Int) × ((Int) × (List Int))))))) (f0 : Int) (b0 : Int) (b2 : List ((Int) × ((Int) × ((List Int) × ((Int) × ((Int) × (List Int))))))) (g0 : Int) (k_ : Bool → Option ρ) : Option ρ :=
  br (f0 == (0 : Int))
   (br (g0 == (0 : Int))
     (br (a0 == (2 : Int))
       (br (b0 == (3 : Int))
         (br (decide ((↑(List.length a2) : Int) > (1 : Int)))
           (k_ (decide ((↑(List.length b2) : Int) > (1 : Int))))
           (k_ false))
         (k_ false))
       (k_ false))
     (k_ false))
   (k_ false)
def Law_lowerBegun.c5s : Shape := ⟨[(0, lb11), (1, lb5), (2, lb6), (3, lb7), (4, lb30), (5, lb39)], [(1, lb50), (2, lb8), (3, lb17), (4, lb8), (5, lb17), (8, lb10), (3001, lb10)]⟩
def Law_lowerBegun.c5x0 : Shape := Law_lowerBegun.c5s
def Law_lowerBegun.c5r : Ck := Ck.of (T := Bool) Law_lowerBegun.c5s (fun ρ x_ k_ => Law_lowerBegun.c5 x_.2.2.2.1 x_.2.2.2.2.2.1 x_.2.2.2.2.2.2.1 x_.2.2.2.2.2.2.2.2.1 x_.2.2.2.2.2.2.2.2.2.2.1 x_.2.2.2.2.2.2.2.2.2.2.2.1 k_) (fun ρ x_ r_ k_ => k_ 0 (Shape.inj Law_lowerBegun.c5x0 (r_, x_.2)))
def Law_lowerBegun  : Option (Bool) :=
  bnd (W.lower_Base__win (2 : Int) (0 : Int) (0 : Int) (↑(1 : Nat) : Int) [((4 : Int), (2 : Int), [(0 : Int)], (1 : Int), (0 : Int), [])]) fun y =>
  bnd (inR (List.length (Prod.fst y.2.2)) (0 : Int)) fun y_1 =>
  bnd (idx (Prod.fst y.2.2) (0 : Int)) fun y_2 =>
  bnd (W.lower_Base__win (2 : Int) (0 : Int) (0 : Int) (↑(List.length (List.set (Prod.fst y.2.2) (0 : Nat) (Prod.fst y_2, (1 : Int), Prod.snd (Prod.snd y_2)))) : Int) (List.set (Prod.fst y.2.2) (0 : Nat) (Prod.fst y_2, (1 : Int), Prod.snd (Prod.snd y_2)))) fun y_3 =>
  bnd (W.Law_lowerBegun.c5 (Prod.fst (Prod.fst y)) (Prod.snd (Prod.snd (Prod.fst y))) (Prod.fst (Prod.fst y.2)) (Prod.fst (Prod.fst y_3)) (Prod.snd (Prod.snd (Prod.fst y_3))) (Prod.fst (Prod.fst y_3.2)) some) fun y_4 =>
  some y_4
def Law_lowerBegun.ce : Go.Ql.Callee := ⟨[], [.bool], fun x_ => Law_lowerBegun⟩
def Law_lowerBegun.G : Env := ⟨54, tab, [], [0, 1, 2, 3, 4, 5], [1, 8, 9, 1001, 2001, 3001], [], [(5, Law_lowerBegun.c5r)], [(6, lower_Base__win.mc)], tab_eqs⟩
theorem Law_lowerBegun.eq (x_ : dens Law_lowerBegun.ce.params) : den Law_lowerBegun.G Try.f8 Law_lowerBegun.ce.params Law_lowerBegun.ce.res x_ = Law_lowerBegun.ce.F x_ := by kernel_rfl
theorem Law_lowerBegun.p0 : PcA Law_lowerBegun.G Try.f8 0 :=
  region_ok (s := Law_lowerBegun.c5r) (by kernel_rfl) (by kernel_rfl) (sums_of (sh := Law_lowerBegun.c5s) (fun ρ x_ k_ => (nat_br (nat_br (nat_br (nat_br (nat_br nat_leaf nat_leaf) nat_leaf) nat_leaf) nat_leaf) nat_leaf)) (fun ρ x_ t k => (by kernel_rfl)) (fun x_ => by kernel_rfl))
theorem Law_lowerBegun.ok : CalleeOk Try.prog 8 Law_lowerBegun.ce := fn_ok (G := Law_lowerBegun.G) tab_ok mixed Try.func8 ⟨fns_nil, (mfns_cons lower_Base__win.ok mfns_nil), tab_eqs_ok⟩ (m := 1) (by kernel_rfl) ⟨trivial, Law_lowerBegun.p0⟩ (by kernel_rfl) Law_lowerBegun.eq
def R_SameInts.c6 {ρ : Type} (a : List (Int)) (b : List (Int)) (i : Int) (k_ : Bool → Option ρ) : Option ρ :=
  bnd (idx a i) fun y =>
  bnd (idx b i) fun y_1 =>
  k_ (y != y_1)
def R_SameInts.c6s : Shape := ⟨[(0, lb0), (1, lb0), (4, lb11), (5, lb2)], []⟩
def R_SameInts.c6x0 : Shape := ⟨[(0, lb0), (1, lb0), (4, lb11), (5, lb2), (25, lb11)], []⟩
def R_SameInts.c6r : Ck := Ck.of (T := Bool) R_SameInts.c6s (fun ρ x_ k_ => R_SameInts.c6 x_.1 x_.2.1 x_.2.2.2.1 k_) (fun ρ x_ r_ k_ => k_ 0 (Shape.inj R_SameInts.c6x0 (x_.1, x_.2.1, x_.2.2.1, x_.2.2.2.1, r_, ())))
def R_SameInts.c100004 {ρ : Type} (a : List (Int)) (b : List (Int)) (i : Int) (k_ : (Int) ⊕ ((Int) ⊕ (Int)) → Option ρ) : Option ρ :=
  br (decide (i < (↑(List.length a) : Int)))
   (bnd (W.R_SameInts.c6 a b i some) fun y =>
    br y
     (k_ (.inr (.inl i)))
     (k_ (.inl (IntKind.wrap IntKind.i64 (i + (1 : Int))))))
   (k_ (.inr (.inr i)))
def R_SameInts.c100004s : Shape := R_SameInts.c6s
def R_SameInts.c100004x0 : Shape := R_SameInts.c6s
def R_SameInts.c100004x1 : Shape := R_SameInts.c6s
def R_SameInts.c100004r : Ck := Ck.ofLoop (S := Int) (T := (Int) ⊕ (Int)) R_SameInts.c100004s (fun x_ => x_.2.2.2.1) (fun ρ x_ s_ k_ => R_SameInts.c100004 x_.1 x_.2.1 s_ k_) (fun ρ x_ r_ k_ => sel r_ (fun r_ => k_ 1 (Shape.inj R_SameInts.c100004x0 (x_.1, x_.2.1, false, r_, ()))) (fun r_ => k_ 2 (Shape.inj R_SameInts.c100004x1 (x_.1, x_.2.1, x_.2.2.1, r_, ()))))
def R_SameInts (a : List (Int)) (b : List (Int)) : Option (Bool) :=
  br ((↑(List.length a) : Int) != (↑(List.length b) : Int))
   (some false)
   (bnd (iter (fun s ↦ W.R_SameInts.c100004 a b s some) (0 : Int)) fun y =>
    sel y
     (fun u => some false)
     (fun v => some true))
def R_SameInts.ce : Go.Ql.Callee := ⟨[(.sl (.int .i64)), (.sl (.int .i64))], [.bool], fun x_ => R_SameInts x_.1 x_.2⟩
def R_SameInts.G : Env := ⟨26, tab, [], [0, 1, 4, 5, 10, 14, 25], [], [(6, [⟨[], [], [18, 21, 22, 23, 24], []⟩, ⟨[], [], [17, 21, 22, 23, 24], []⟩, ⟨[0, 1], [], [21, 22, 23, 24], []⟩, ⟨[2, 0, 1], [], [21, 22, 23, 24], []⟩, ⟨[], [], [17, 18, 19, 20, 22], []⟩, ⟨[], [], [17, 18, 19, 20, 21], []⟩, ⟨[4, 5], [], [17, 18, 19, 20], []⟩, ⟨[6, 4, 5], [], [17, 18, 19, 20], []⟩, ⟨[3, 2, 0, 1, 7, 6, 4, 5], [], [], []⟩])], [(100004, R_SameInts.c100004r), (6, R_SameInts.c6r)], [], tab_eqs⟩
theorem R_SameInts.eq (x_ : dens R_SameInts.ce.params) : den R_SameInts.G Try.f13 R_SameInts.ce.params R_SameInts.ce.res x_ = R_SameInts.ce.F x_ := by kernel_rfl
theorem R_SameInts.p0 : PcA R_SameInts.G Try.f13 0 :=
  loop_ok (s := R_SameInts.c100004r) (by kernel_rfl) (by kernel_rfl) (loops_of (sh := R_SameInts.c100004s) (I := fun x_ s_ => (x_.1, x_.2.1, x_.2.2.1, s_, ())) (fun x_ => rfl) (fun ρ x_ s_ k_ => (nat_br (nat_bnd fun _ => (nat_br nat_leaf nat_leaf)) nat_leaf)) (fun ρ x_ t k => (nat_sel (fun _ => (by kernel_rfl)) (fun _ => (by kernel_rfl)))) (fun x_ s => by kernel_rfl))
theorem R_SameInts.p1 : PcA R_SameInts.G Try.f13 1 :=
  region_ok (s := R_SameInts.c6r) (by kernel_rfl) (by kernel_rfl) (sums_of (sh := R_SameInts.c6s) (fun ρ x_ k_ => (nat_bnd fun _ => (nat_bnd fun _ => nat_leaf))) (fun ρ x_ t k => (by kernel_rfl)) (fun x_ => by kernel_rfl))
theorem R_SameInts.ok : CalleeOk Try.prog 13 R_SameInts.ce := fn_ok (G := R_SameInts.G) tab_ok mixed Try.func13 ⟨fns_nil, mfns_nil, tab_eqs_ok⟩ (m := 2) (by kernel_rfl) ⟨⟨trivial, R_SameInts.p0⟩, R_SameInts.p1⟩ (by kernel_rfl) R_SameInts.eq
end
end W
end
