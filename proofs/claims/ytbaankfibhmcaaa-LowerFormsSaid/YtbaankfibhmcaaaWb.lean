/- Lifted functions, part 2: each with its contract. -/
import Derived.Test.YtbaankfibhmcaaaWa
import Derived.Test.YtbaankfibhmcaaaProg
section
/- Functions of the program as typed functions, printed by a program of mine, with their proofs. -/
set_option maxHeartbeats 4000000
set_option maxRecDepth 100000
set_option linter.unusedVariables false
namespace W
open Go Go.Ql
noncomputable section
abbrev lc0 : SD := .one (.val (.sl (.int .i64)))
abbrev lc1 : SD := .one (.own 3 0)
abbrev lc2 : SD := .one (.val (.int .i64))
abbrev lc3 : SO := .arr 0 false 3 (.int .i64)
def R_copyInts.c100003 {ρ : Type} (l : List (Int)) (i : Int) (out : List (Int)) (k_ : ((Int) × (List Int)) ⊕ ((Int) × (List Int)) → Option ρ) : Option ρ :=
  br (decide (i < (↑(List.length l) : Int)))
   (bnd (idx l i) fun y =>
    bnd (okIf (decide ((List.length out + (1 : Nat)) * (8 : Nat) ≤ (140737488355328 : Nat)) && decide (List.length out + (1 : Nat) ≤ (140737488355328 : Nat)))) fun y_1 =>
    k_ (.inl ((IntKind.wrap IntKind.i64 (i + (1 : Int))), (out ++ [y]))))
   (k_ (.inr (i, out)))
def R_copyInts.c100003s : Shape := ⟨[(0, lc0), (2, lc0), (3, lc1), (4, lc2)], [(3, lc3)]⟩
def R_copyInts.c100003x0 : Shape := ⟨[(0, lc0), (2, lc0), (3, lc1), (4, lc2)], [(3, lc3)]⟩
def R_copyInts.c100003r : Ck := Ck.ofLoop (S := (Int) × (List Int)) (T := (Int) × (List Int)) R_copyInts.c100003s (fun x_ => uP x_ fun l x_ => uP x_ fun t2 x_ => uP x_ fun i x_ => uP x_ fun out x_ => (i, out)) (fun ρ x_ s_ k_ => uP x_ fun l x_ => uP x_ fun t2 x_ => uP x_ fun i x_ => uP x_ fun out x_ => R_copyInts.c100003 l s_.1 s_.2 k_) (fun ρ x_ r_ k_ => uP x_ fun l x_ => uP x_ fun t2 x_ => uP x_ fun i x_ => uP x_ fun out x_ => k_ 2 (Shape.inj R_copyInts.c100003x0 (l, t2, r_.1, r_.2, ())))
def R_copyInts (l : List (Int)) : Option (List Int) :=
  bnd (iter (fun s ↦ W.R_copyInts.c100003 l (Prod.fst s) (Prod.snd s) some) ((0 : Int), [])) fun y =>
  some (Prod.snd y)
def R_copyInts.ce : Go.Ql.Callee := ⟨[(.sl (.int .i64))], [(.sl (.int .i64))], fun x_ => R_copyInts x_⟩
def R_copyInts.G : Env := ⟨19, tab, [], [0, 2, 3, 4, 8], [3], [], [(100003, R_copyInts.c100003r)], [], tab_eqs⟩
theorem R_copyInts.eq (x_ : dens [(.sl (.int .i64))]) : den R_copyInts.G Go.Proofs.Try.f28 [(.sl (.int .i64))] [(.sl (.int .i64))] x_ = R_copyInts x_ := by kernel_rfl
theorem R_copyInts.p0 : PieceOk R_copyInts.G (pieceAt (pieces R_copyInts.G.cks (bodyOf Go.Proofs.Try.f28)) 0).1 (pieceAt (pieces R_copyInts.G.cks (bodyOf Go.Proofs.Try.f28)) 0).2 :=
  loop_ok (s := R_copyInts.c100003r) (by kernel_rfl) (by kernel_rfl) (loops_of (sh := R_copyInts.c100003s) (I := fun x_ s_ => (x_.1, x_.2.1, s_.1, s_.2, ())) (fun x_ => rfl) (fun ρ x_ s_ k_ => (nat_br (nat_bnd fun _ => (nat_bnd fun _ => nat_leaf)) nat_leaf)) (fun ρ x_ t k => (by kernel_rfl)) (fun x_ s => by kernel_rfl))
theorem R_copyInts.ok : CalleeOk Go.Proofs.Try.prog 28 R_copyInts.ce := fn_ok (G := R_copyInts.G) tab_ok mixed Go.Proofs.Try.func28 ⟨fns_nil, mfns_nil, tab_eqs_ok⟩ (m := 1) (by kernel_rfl) ⟨trivial, R_copyInts.p0⟩ (by kernel_rfl) R_copyInts.eq
def R_copyOp (o : (Int) × ((Int) × ((List Int) × ((Int) × ((Int) × (List Int)))))) : Option ((Int) × ((Int) × ((List Int) × ((Int) × ((Int) × (List Int)))))) :=
  bnd (W.R_copyInts (Prod.fst (Prod.snd (Prod.snd o)))) fun y =>
  bnd (W.R_copyInts (Prod.snd (Prod.snd (Prod.snd (Prod.snd (Prod.snd o)))))) fun y_1 =>
  some (Prod.fst o, Prod.fst (Prod.snd o), y, Prod.fst (Prod.snd (Prod.snd (Prod.snd o))), Prod.fst (Prod.snd (Prod.snd (Prod.snd (Prod.snd o)))), y_1)
def R_copyOp.ce : Go.Ql.Callee := ⟨[(.st (.pair (.int .i64) (.pair (.int .i64) (.pair (.sl (.int .i64)) (.pair (.int .i64) (.pair (.int .i64) (.sl (.int .i64))))))))], [(.st (.pair (.int .i64) (.pair (.int .i64) (.pair (.sl (.int .i64)) (.pair (.int .i64) (.pair (.int .i64) (.sl (.int .i64))))))))], fun x_ => R_copyOp x_⟩
def R_copyOp.G : Env := ⟨12, tab, [(28, R_copyInts.ce)], [0, 1, 2], [], [], [], [], tab_eqs⟩
theorem R_copyOp.eq (x_ : dens [(.st (.pair (.int .i64) (.pair (.int .i64) (.pair (.sl (.int .i64)) (.pair (.int .i64) (.pair (.int .i64) (.sl (.int .i64))))))))]) : den R_copyOp.G Go.Proofs.Try.f16 [(.st (.pair (.int .i64) (.pair (.int .i64) (.pair (.sl (.int .i64)) (.pair (.int .i64) (.pair (.int .i64) (.sl (.int .i64))))))))] [(.st (.pair (.int .i64) (.pair (.int .i64) (.pair (.sl (.int .i64)) (.pair (.int .i64) (.pair (.int .i64) (.sl (.int .i64))))))))] x_ = R_copyOp x_ := by kernel_rfl
theorem R_copyOp.ok : CalleeOk Go.Proofs.Try.prog 16 R_copyOp.ce := fn_ok (G := R_copyOp.G) tab_ok mixed Go.Proofs.Try.func16 ⟨(fns_cons R_copyInts.ok fns_nil), mfns_nil, tab_eqs_ok⟩ (m := 0) (by kernel_rfl) trivial (by kernel_rfl) R_copyOp.eq
abbrev lc4 : SD := .one (.val (.st (.pair (.int .i64) (.pair (.int .i64) (.sl (.st (.pair (.int .i64) (.pair (.int .i64) (.pair (.sl (.int .i64)) (.pair (.int .i64) (.pair (.int .i64) (.sl (.int .i64)))))))))))))
abbrev lc5 : SD := .one (.ref 1 0)
abbrev lc6 : SD := .one (.ref 2 0)
abbrev lc7 : SD := .one (.ref 3 0)
abbrev lc8 : SO := .box [.val (.int .i64), .val (.int .i64), .val (.sl (.st (.pair (.int .i64) (.pair (.int .i64) (.pair (.sl (.int .i64)) (.pair (.int .i64) (.pair (.int .i64) (.sl (.int .i64)))))))))]
abbrev lc9 : SO := .box [.val (.int .i64), .val (.int .i64), .own 3003 0]
abbrev lc10 : SO := .arr 0 false 37 (.st (.pair (.int .i64) (.pair (.int .i64) (.pair (.sl (.int .i64)) (.pair (.int .i64) (.pair (.int .i64) (.sl (.int .i64))))))))
def R_CopyCircuit.c5 {ρ : Type} (i : Int) (c2 : List ((Int) × ((Int) × ((List Int) × ((Int) × ((Int) × (List Int))))))) (t3003 : List ((Int) × ((Int) × ((List Int) × ((Int) × ((Int) × (List Int))))))) (k_ : List ((Int) × ((Int) × ((List Int) × ((Int) × ((Int) × (List Int)))))) → Option ρ) : Option ρ :=
  bnd (idx c2 i) fun y =>
  bnd (W.R_copyOp y) fun y_1 =>
  bnd (okIf (decide ((List.length t3003 + (1 : Nat)) * (80 : Nat) ≤ (140737488355328 : Nat)) && decide (List.length t3003 + (1 : Nat) ≤ (140737488355328 : Nat)))) fun y_2 =>
  k_ (t3003 ++ [y_1])
def R_CopyCircuit.c5s : Shape := ⟨[(0, lc4), (1, lc5), (2, lc6), (3, lc7), (4, lc2)], [(1, lc8), (2, lc8), (3, lc9), (3003, lc10)]⟩
def R_CopyCircuit.c5x0 : Shape := ⟨[(0, lc4), (1, lc5), (2, lc6), (3, lc7), (4, lc2)], [(1, lc8), (2, lc8), (3, lc9), (3003, lc10)]⟩
def R_CopyCircuit.c5r : Ck := Ck.of (T := List ((Int) × ((Int) × ((List Int) × ((Int) × ((Int) × (List Int))))))) R_CopyCircuit.c5s (fun ρ x_ k_ => uP x_ fun c x_ => uP x_ fun i x_ => uP x_ fun c0 x_ => uP x_ fun c1 x_ => uP x_ fun c2 x_ => uP x_ fun t20 x_ => uP x_ fun t21 x_ => uP x_ fun t22 x_ => uP x_ fun out0 x_ => uP x_ fun out1 x_ => uP x_ fun t3003 x_ => R_CopyCircuit.c5 i c2 t3003 k_) (fun ρ x_ r_ k_ => uP x_ fun c x_ => uP x_ fun i x_ => uP x_ fun c0 x_ => uP x_ fun c1 x_ => uP x_ fun c2 x_ => uP x_ fun t20 x_ => uP x_ fun t21 x_ => uP x_ fun t22 x_ => uP x_ fun out0 x_ => uP x_ fun out1 x_ => uP x_ fun t3003 x_ => k_ 0 (Shape.inj R_CopyCircuit.c5x0 (c, i, c0, c1, c2, t20, t21, t22, out0, out1, r_, ())))
def R_CopyCircuit.c100003 {ρ : Type} (i : Int) (c2 : List ((Int) × ((Int) × ((List Int) × ((Int) × ((Int) × (List Int))))))) (t3003 : List ((Int) × ((Int) × ((List Int) × ((Int) × ((Int) × (List Int))))))) (k_ : ((Int) × (List ((Int) × ((Int) × ((List Int) × ((Int) × ((Int) × (List Int)))))))) ⊕ ((Int) × (List ((Int) × ((Int) × ((List Int) × ((Int) × ((Int) × (List Int)))))))) → Option ρ) : Option ρ :=
  br (decide (i < (↑(List.length c2) : Int)))
   (bnd (W.R_CopyCircuit.c5 i c2 t3003 some) fun y =>
    k_ (.inl ((IntKind.wrap IntKind.i64 (i + (1 : Int))), y)))
   (k_ (.inr (i, t3003)))
def R_CopyCircuit.c100003s : Shape := ⟨[(0, lc4), (1, lc5), (2, lc6), (3, lc7), (4, lc2)], [(1, lc8), (2, lc8), (3, lc9), (3003, lc10)]⟩
def R_CopyCircuit.c100003x0 : Shape := ⟨[(0, lc4), (1, lc5), (2, lc6), (3, lc7), (4, lc2)], [(1, lc8), (2, lc8), (3, lc9), (3003, lc10)]⟩
def R_CopyCircuit.c100003r : Ck := Ck.ofLoop (S := (Int) × (List ((Int) × ((Int) × ((List Int) × ((Int) × ((Int) × (List Int)))))))) (T := (Int) × (List ((Int) × ((Int) × ((List Int) × ((Int) × ((Int) × (List Int)))))))) R_CopyCircuit.c100003s (fun x_ => uP x_ fun c x_ => uP x_ fun i x_ => uP x_ fun c0 x_ => uP x_ fun c1 x_ => uP x_ fun c2 x_ => uP x_ fun t20 x_ => uP x_ fun t21 x_ => uP x_ fun t22 x_ => uP x_ fun out0 x_ => uP x_ fun out1 x_ => uP x_ fun t3003 x_ => (i, t3003)) (fun ρ x_ s_ k_ => uP x_ fun c x_ => uP x_ fun i x_ => uP x_ fun c0 x_ => uP x_ fun c1 x_ => uP x_ fun c2 x_ => uP x_ fun t20 x_ => uP x_ fun t21 x_ => uP x_ fun t22 x_ => uP x_ fun out0 x_ => uP x_ fun out1 x_ => uP x_ fun t3003 x_ => R_CopyCircuit.c100003 s_.1 c2 s_.2 k_) (fun ρ x_ r_ k_ => uP x_ fun c x_ => uP x_ fun i x_ => uP x_ fun c0 x_ => uP x_ fun c1 x_ => uP x_ fun c2 x_ => uP x_ fun t20 x_ => uP x_ fun t21 x_ => uP x_ fun t22 x_ => uP x_ fun out0 x_ => uP x_ fun out1 x_ => uP x_ fun t3003 x_ => k_ 2 (Shape.inj R_CopyCircuit.c100003x0 (c, r_.1, c0, c1, c2, t20, t21, t22, out0, out1, r_.2, ())))
def R_CopyCircuit (c : (Int) × ((Int) × (List ((Int) × ((Int) × ((List Int) × ((Int) × ((Int) × (List Int))))))))) : Option ((Int) × ((Int) × (List ((Int) × ((Int) × ((List Int) × ((Int) × ((Int) × (List Int))))))))) :=
  bnd (iter (fun s ↦ W.R_CopyCircuit.c100003 (Prod.fst s) (Prod.snd (Prod.snd c)) (Prod.snd s) some) ((0 : Int), [])) fun y =>
  some (Prod.fst c, Prod.fst (Prod.snd c), Prod.snd y)
def R_CopyCircuit.ce : Go.Ql.Callee := ⟨[(.st (.pair (.int .i64) (.pair (.int .i64) (.sl (.st (.pair (.int .i64) (.pair (.int .i64) (.pair (.sl (.int .i64)) (.pair (.int .i64) (.pair (.int .i64) (.sl (.int .i64))))))))))))], [(.st (.pair (.int .i64) (.pair (.int .i64) (.sl (.st (.pair (.int .i64) (.pair (.int .i64) (.pair (.sl (.int .i64)) (.pair (.int .i64) (.pair (.int .i64) (.sl (.int .i64))))))))))))], fun x_ => R_CopyCircuit x_⟩
def R_CopyCircuit.G : Env := ⟨29, tab, [(16, R_copyOp.ce)], [0, 1, 2, 3, 4, 14], [1, 3, 9, 3001, 3003], [(5, [⟨[], [], [19, 20, 21, 22, 23, 24, 25], [25]⟩, ⟨[0], [], [19, 20, 21, 22, 23, 24, 25], [25]⟩, ⟨[], [], [17, 18, 21], []⟩, ⟨[2], [], [17, 18, 21], []⟩, ⟨[], [], [17, 18, 19, 20], []⟩, ⟨[3, 2, 4], [], [17, 18], []⟩, ⟨[5, 3, 2, 4], [], [17, 18], []⟩, ⟨[6, 5, 3, 2, 4], [], [17, 18], []⟩, ⟨[7, 6, 5, 3, 2, 4], [25], [17, 18], []⟩, ⟨[1, 0, 8, 7, 6, 5, 3, 2, 4], [3003], [], []⟩, ⟨[0, 1, 2, 3, 4, 5, 6, 7, 8, 9], [], [], []⟩, ⟨[10, 0, 1, 2, 3, 4, 5, 6, 7, 8, 9], [3], [], []⟩])], [(100003, R_CopyCircuit.c100003r), (5, R_CopyCircuit.c5r)], [], tab_eqs⟩
theorem R_CopyCircuit.eq (x_ : dens [(.st (.pair (.int .i64) (.pair (.int .i64) (.sl (.st (.pair (.int .i64) (.pair (.int .i64) (.pair (.sl (.int .i64)) (.pair (.int .i64) (.pair (.int .i64) (.sl (.int .i64))))))))))))]) : den R_CopyCircuit.G Go.Proofs.Try.f5 [(.st (.pair (.int .i64) (.pair (.int .i64) (.sl (.st (.pair (.int .i64) (.pair (.int .i64) (.pair (.sl (.int .i64)) (.pair (.int .i64) (.pair (.int .i64) (.sl (.int .i64))))))))))))] [(.st (.pair (.int .i64) (.pair (.int .i64) (.sl (.st (.pair (.int .i64) (.pair (.int .i64) (.pair (.sl (.int .i64)) (.pair (.int .i64) (.pair (.int .i64) (.sl (.int .i64))))))))))))] x_ = R_CopyCircuit x_ := by kernel_rfl
theorem R_CopyCircuit.p0 : PieceOk R_CopyCircuit.G (pieceAt (pieces R_CopyCircuit.G.cks (bodyOf Go.Proofs.Try.f5)) 0).1 (pieceAt (pieces R_CopyCircuit.G.cks (bodyOf Go.Proofs.Try.f5)) 0).2 :=
  loop_ok (s := R_CopyCircuit.c100003r) (by kernel_rfl) (by kernel_rfl) (loops_of (sh := R_CopyCircuit.c100003s) (I := fun x_ s_ => (x_.1, s_.1, x_.2.2.1, x_.2.2.2.1, x_.2.2.2.2.1, x_.2.2.2.2.2.1, x_.2.2.2.2.2.2.1, x_.2.2.2.2.2.2.2.1, x_.2.2.2.2.2.2.2.2.1, x_.2.2.2.2.2.2.2.2.2.1, s_.2, ())) (fun x_ => rfl) (fun ρ x_ s_ k_ => (nat_br (nat_bnd fun _ => nat_leaf) nat_leaf)) (fun ρ x_ t k => (by kernel_rfl)) (fun x_ s => by kernel_rfl))
theorem R_CopyCircuit.p1 : PieceOk R_CopyCircuit.G (pieceAt (pieces R_CopyCircuit.G.cks (bodyOf Go.Proofs.Try.f5)) 1).1 (pieceAt (pieces R_CopyCircuit.G.cks (bodyOf Go.Proofs.Try.f5)) 1).2 :=
  region_ok (s := R_CopyCircuit.c5r) (by kernel_rfl) (by kernel_rfl) (sums_of (sh := R_CopyCircuit.c5s) (fun ρ x_ k_ => (nat_bnd fun _ => (nat_bnd fun _ => (nat_bnd fun _ => nat_leaf)))) (fun ρ x_ t k => (by kernel_rfl)) (fun x_ => by kernel_rfl))
theorem R_CopyCircuit.ok : CalleeOk Go.Proofs.Try.prog 5 R_CopyCircuit.ce := fn_ok (G := R_CopyCircuit.G) tab_ok mixed Go.Proofs.Try.func5 ⟨(fns_cons R_copyOp.ok fns_nil), mfns_nil, tab_eqs_ok⟩ (m := 2) (by kernel_rfl) ⟨⟨trivial, R_CopyCircuit.p0⟩, R_CopyCircuit.p1⟩ (by kernel_rfl) R_CopyCircuit.eq
def R_rfault (code : Int) (t1 : Int) : Option ((Int) × (Int)) :=
  some (code, t1)
def R_rfault.ce : Go.Ql.Callee := ⟨[(.int .i64), (.int .i64)], [(.st (.pair (.int .i64) (.int .i64)))], fun x_ => R_rfault x_.1 x_.2⟩
def R_rfault.G : Env := ⟨8, tab, [], [0, 1, 4], [], [], [], [], tab_eqs⟩
theorem R_rfault.eq (x_ : dens [(.int .i64), (.int .i64)]) : den R_rfault.G Go.Proofs.Try.f21 [(.int .i64), (.int .i64)] [(.st (.pair (.int .i64) (.int .i64)))] x_ = R_rfault x_.1 x_.2 := by kernel_rfl
theorem R_rfault.ok : CalleeOk Go.Proofs.Try.prog 21 R_rfault.ce := fn_ok (G := R_rfault.G) tab_ok mixed Go.Proofs.Try.func21 ⟨fns_nil, mfns_nil, tab_eqs_ok⟩ (m := 0) (by kernel_rfl) trivial (by kernel_rfl) R_rfault.eq
abbrev lc11 : SD := .one (.val .bool)
def R_member.c100002 {ρ : Type} (l : List (Int)) (x : Int) (i : Int) (k_ : (Int) ⊕ ((Int) ⊕ (Int)) → Option ρ) : Option ρ :=
  br (decide (i < (↑(List.length l) : Int)))
   (bnd (idx l i) fun y =>
    br (y == x)
     (k_ (.inr (.inl i)))
     (k_ (.inl (IntKind.wrap IntKind.i64 (i + (1 : Int))))))
   (k_ (.inr (.inr i)))
def R_member.c100002s : Shape := ⟨[(0, lc0), (1, lc2), (4, lc11), (5, lc2)], []⟩
def R_member.c100002x0 : Shape := ⟨[(0, lc0), (1, lc2), (4, lc11), (5, lc2)], []⟩
def R_member.c100002x1 : Shape := ⟨[(0, lc0), (1, lc2), (4, lc11), (5, lc2)], []⟩
def R_member.c100002r : Ck := Ck.ofLoop (S := Int) (T := (Int) ⊕ (Int)) R_member.c100002s (fun x_ => uP x_ fun l x_ => uP x_ fun x x_ => uP x_ fun t4 x_ => uP x_ fun i x_ => i) (fun ρ x_ s_ k_ => uP x_ fun l x_ => uP x_ fun x x_ => uP x_ fun t4 x_ => uP x_ fun i x_ => R_member.c100002 l x s_ k_) (fun ρ x_ r_ k_ => uP x_ fun l x_ => uP x_ fun x x_ => uP x_ fun t4 x_ => uP x_ fun i x_ => sel r_ (fun r_ => k_ 1 (Shape.inj R_member.c100002x0 (l, x, true, r_, ()))) (fun r_ => k_ 2 (Shape.inj R_member.c100002x1 (l, x, t4, r_, ()))))
def R_member (l : List (Int)) (x : Int) : Option (Bool) :=
  bnd (iter (fun s ↦ W.R_member.c100002 l x s some) (0 : Int)) fun y =>
  sel y
   (fun u => some true)
   (fun v => some false)
def R_member.ce : Go.Ql.Callee := ⟨[(.sl (.int .i64)), (.int .i64)], [.bool], fun x_ => R_member x_.1 x_.2⟩
def R_member.G : Env := ⟨18, tab, [], [0, 1, 4, 5, 9, 17], [], [], [(100002, R_member.c100002r)], [], tab_eqs⟩
theorem R_member.eq (x_ : dens [(.sl (.int .i64)), (.int .i64)]) : den R_member.G Go.Proofs.Try.f36 [(.sl (.int .i64)), (.int .i64)] [.bool] x_ = R_member x_.1 x_.2 := by kernel_rfl
theorem R_member.p0 : PieceOk R_member.G (pieceAt (pieces R_member.G.cks (bodyOf Go.Proofs.Try.f36)) 0).1 (pieceAt (pieces R_member.G.cks (bodyOf Go.Proofs.Try.f36)) 0).2 :=
  loop_ok (s := R_member.c100002r) (by kernel_rfl) (by kernel_rfl) (loops_of (sh := R_member.c100002s) (I := fun x_ s_ => (x_.1, x_.2.1, x_.2.2.1, s_, ())) (fun x_ => rfl) (fun ρ x_ s_ k_ => (nat_br (nat_bnd fun _ => (nat_br nat_leaf nat_leaf)) nat_leaf)) (fun ρ x_ t k => (nat_sel (fun _ => (by kernel_rfl)) (fun _ => (by kernel_rfl)))) (fun x_ s => by kernel_rfl))
theorem R_member.ok : CalleeOk Go.Proofs.Try.prog 36 R_member.ce := fn_ok (G := R_member.G) tab_ok mixed Go.Proofs.Try.func36 ⟨fns_nil, mfns_nil, tab_eqs_ok⟩ (m := 1) (by kernel_rfl) ⟨trivial, R_member.p0⟩ (by kernel_rfl) R_member.eq
abbrev lc12 : SD := .one (.val (.st (.pair (.int .i64) (.pair (.int .i64) (.pair (.sl (.int .i64)) (.pair (.int .i64) (.pair (.int .i64) (.sl (.int .i64)))))))))
abbrev lc13 : SO := .box [.val (.int .i64), .val (.int .i64), .val (.sl (.int .i64)), .val (.int .i64), .val (.int .i64), .val (.sl (.int .i64))]
def R_badOp.c1 {ρ : Type} (o0 : Int) (k_ : Bool → Option ρ) : Option ρ :=
  br (decide (o0 < (1 : Int)))
   (k_ true)
   (k_ (decide (o0 > (6 : Int))))
def R_badOp.c1s : Shape := ⟨[(0, lc12), (1, lc2), (2, lc2), (3, lc7), (6, lc2)], [(3, lc13)]⟩
def R_badOp.c1x0 : Shape := ⟨[(0, lc12), (1, lc2), (2, lc2), (3, lc7), (6, lc2), (17, lc11)], [(3, lc13)]⟩
def R_badOp.c1r : Ck := Ck.of (T := Bool) R_badOp.c1s (fun ρ x_ k_ => uP x_ fun o x_ => uP x_ fun qubits x_ => uP x_ fun bits x_ => uP x_ fun t6 x_ => uP x_ fun o0 x_ => uP x_ fun o1 x_ => uP x_ fun o2 x_ => uP x_ fun o3 x_ => uP x_ fun o4 x_ => uP x_ fun o5 x_ => R_badOp.c1 o0 k_) (fun ρ x_ r_ k_ => uP x_ fun o x_ => uP x_ fun qubits x_ => uP x_ fun bits x_ => uP x_ fun t6 x_ => uP x_ fun o0 x_ => uP x_ fun o1 x_ => uP x_ fun o2 x_ => uP x_ fun o3 x_ => uP x_ fun o4 x_ => uP x_ fun o5 x_ => k_ 0 (Shape.inj R_badOp.c1x0 (o, qubits, bits, t6, r_, o0, o1, o2, o3, o4, o5, ())))
def R_badOp.c3 {ρ : Type} (o0 : Int) (k_ : Bool → Option ρ) : Option ρ :=
  br (o0 == (1 : Int))
   (k_ true)
   (k_ (o0 == (4 : Int)))
def R_badOp.c3s : Shape := ⟨[(0, lc12), (1, lc2), (2, lc2), (3, lc7), (6, lc2)], [(3, lc13)]⟩
def R_badOp.c3x0 : Shape := ⟨[(0, lc12), (1, lc2), (2, lc2), (3, lc7), (6, lc2), (7, lc11)], [(3, lc13)]⟩
def R_badOp.c3r : Ck := Ck.of (T := Bool) R_badOp.c3s (fun ρ x_ k_ => uP x_ fun o x_ => uP x_ fun qubits x_ => uP x_ fun bits x_ => uP x_ fun t6 x_ => uP x_ fun o0 x_ => uP x_ fun o1 x_ => uP x_ fun o2 x_ => uP x_ fun o3 x_ => uP x_ fun o4 x_ => uP x_ fun o5 x_ => R_badOp.c3 o0 k_) (fun ρ x_ r_ k_ => uP x_ fun o x_ => uP x_ fun qubits x_ => uP x_ fun bits x_ => uP x_ fun t6 x_ => uP x_ fun o0 x_ => uP x_ fun o1 x_ => uP x_ fun o2 x_ => uP x_ fun o3 x_ => uP x_ fun o4 x_ => uP x_ fun o5 x_ => k_ 0 (Shape.inj R_badOp.c3x0 (o, qubits, bits, t6, r_, o0, o1, o2, o3, o4, o5, ())))
def R_badOp.c4 {ρ : Type} (angle : Bool) (o1 : Int) (k_ : Bool → Option ρ) : Option ρ :=
  br (decide (o1 < (0 : Int)))
   (k_ true)
   (br (decide (o1 > (15 : Int)))
     (k_ true)
     (br (decide (o1 > (0 : Int)))
       (k_ (!angle))
       (k_ false)))
def R_badOp.c4s : Shape := ⟨[(0, lc12), (1, lc2), (2, lc2), (3, lc7), (6, lc2), (7, lc11)], [(3, lc13)]⟩
def R_badOp.c4x0 : Shape := ⟨[(0, lc12), (1, lc2), (2, lc2), (3, lc7), (6, lc2), (7, lc11), (42, lc11)], [(3, lc13)]⟩
def R_badOp.c4r : Ck := Ck.of (T := Bool) R_badOp.c4s (fun ρ x_ k_ => uP x_ fun o x_ => uP x_ fun qubits x_ => uP x_ fun bits x_ => uP x_ fun t6 x_ => uP x_ fun angle x_ => uP x_ fun o0 x_ => uP x_ fun o1 x_ => uP x_ fun o2 x_ => uP x_ fun o3 x_ => uP x_ fun o4 x_ => uP x_ fun o5 x_ => R_badOp.c4 angle o1 k_) (fun ρ x_ r_ k_ => uP x_ fun o x_ => uP x_ fun qubits x_ => uP x_ fun bits x_ => uP x_ fun t6 x_ => uP x_ fun angle x_ => uP x_ fun o0 x_ => uP x_ fun o1 x_ => uP x_ fun o2 x_ => uP x_ fun o3 x_ => uP x_ fun o4 x_ => uP x_ fun o5 x_ => k_ 0 (Shape.inj R_badOp.c4x0 (o, qubits, bits, t6, angle, r_, o0, o1, o2, o3, o4, o5, ())))
def R_badOp.c6 {ρ : Type} (qubits : Int) (o0 : Int) (o3 : Int) (k_ : Bool → Option ρ) : Option ρ :=
  br (decide (o3 < (0 : Int)))
   (k_ true)
   (br (decide (o3 ≥ qubits))
     (k_ true)
     (br (o0 == (1 : Int))
       (k_ (decide (o3 > (0 : Int))))
       (k_ false)))
def R_badOp.c6s : Shape := ⟨[(0, lc12), (1, lc2), (2, lc2), (3, lc7), (6, lc2), (7, lc11)], [(3, lc13)]⟩
def R_badOp.c6x0 : Shape := ⟨[(0, lc12), (1, lc2), (2, lc2), (3, lc7), (6, lc2), (7, lc11), (61, lc11)], [(3, lc13)]⟩
def R_badOp.c6r : Ck := Ck.of (T := Bool) R_badOp.c6s (fun ρ x_ k_ => uP x_ fun o x_ => uP x_ fun qubits x_ => uP x_ fun bits x_ => uP x_ fun t6 x_ => uP x_ fun angle x_ => uP x_ fun o0 x_ => uP x_ fun o1 x_ => uP x_ fun o2 x_ => uP x_ fun o3 x_ => uP x_ fun o4 x_ => uP x_ fun o5 x_ => R_badOp.c6 qubits o0 o3 k_) (fun ρ x_ r_ k_ => uP x_ fun o x_ => uP x_ fun qubits x_ => uP x_ fun bits x_ => uP x_ fun t6 x_ => uP x_ fun angle x_ => uP x_ fun o0 x_ => uP x_ fun o1 x_ => uP x_ fun o2 x_ => uP x_ fun o3 x_ => uP x_ fun o4 x_ => uP x_ fun o5 x_ => k_ 0 (Shape.inj R_badOp.c6x0 (o, qubits, bits, t6, angle, r_, o0, o1, o2, o3, o4, o5, ())))
def R_badOp.c8 {ρ : Type} (o0 : Int) (o2 : List (Int)) (k_ : Bool → Option ρ) : Option ρ :=
  br (decide ((↑(List.length o2) : Int) > (0 : Int)))
   (br (o0 != (2 : Int))
     (br (o0 != (3 : Int))
       (k_ (o0 != (4 : Int)))
       (k_ false))
     (k_ false))
   (k_ false)
def R_badOp.c8s : Shape := ⟨[(0, lc12), (1, lc2), (2, lc2), (3, lc7), (6, lc2), (7, lc11)], [(3, lc13)]⟩
def R_badOp.c8x0 : Shape := ⟨[(0, lc12), (1, lc2), (2, lc2), (3, lc7), (6, lc2), (7, lc11), (80, lc11)], [(3, lc13)]⟩
def R_badOp.c8r : Ck := Ck.of (T := Bool) R_badOp.c8s (fun ρ x_ k_ => uP x_ fun o x_ => uP x_ fun qubits x_ => uP x_ fun bits x_ => uP x_ fun t6 x_ => uP x_ fun angle x_ => uP x_ fun o0 x_ => uP x_ fun o1 x_ => uP x_ fun o2 x_ => uP x_ fun o3 x_ => uP x_ fun o4 x_ => uP x_ fun o5 x_ => R_badOp.c8 o0 o2 k_) (fun ρ x_ r_ k_ => uP x_ fun o x_ => uP x_ fun qubits x_ => uP x_ fun bits x_ => uP x_ fun t6 x_ => uP x_ fun angle x_ => uP x_ fun o0 x_ => uP x_ fun o1 x_ => uP x_ fun o2 x_ => uP x_ fun o3 x_ => uP x_ fun o4 x_ => uP x_ fun o5 x_ => k_ 0 (Shape.inj R_badOp.c8x0 (o, qubits, bits, t6, angle, r_, o0, o1, o2, o3, o4, o5, ())))
def R_badOp.c13 {ρ : Type} (qubits : Int) (i : Int) (o2 : List (Int)) (k_ : Bool → Option ρ) : Option ρ :=
  bnd (idx o2 i) fun y =>
  br (decide (y < (0 : Int)))
   (k_ true)
   (bnd (idx o2 i) fun y_1 =>
    k_ (decide (y_1 ≥ qubits)))
def R_badOp.c13s : Shape := ⟨[(0, lc12), (1, lc2), (2, lc2), (3, lc7), (6, lc2), (7, lc11), (8, lc2)], [(3, lc13)]⟩
def R_badOp.c13x0 : Shape := ⟨[(0, lc12), (1, lc2), (2, lc2), (3, lc7), (6, lc2), (7, lc11), (8, lc2), (102, lc11)], [(3, lc13)]⟩
def R_badOp.c13r : Ck := Ck.of (T := Bool) R_badOp.c13s (fun ρ x_ k_ => uP x_ fun o x_ => uP x_ fun qubits x_ => uP x_ fun bits x_ => uP x_ fun t6 x_ => uP x_ fun angle x_ => uP x_ fun i x_ => uP x_ fun o0 x_ => uP x_ fun o1 x_ => uP x_ fun o2 x_ => uP x_ fun o3 x_ => uP x_ fun o4 x_ => uP x_ fun o5 x_ => R_badOp.c13 qubits i o2 k_) (fun ρ x_ r_ k_ => uP x_ fun o x_ => uP x_ fun qubits x_ => uP x_ fun bits x_ => uP x_ fun t6 x_ => uP x_ fun angle x_ => uP x_ fun i x_ => uP x_ fun o0 x_ => uP x_ fun o1 x_ => uP x_ fun o2 x_ => uP x_ fun o3 x_ => uP x_ fun o4 x_ => uP x_ fun o5 x_ => k_ 0 (Shape.inj R_badOp.c13x0 (o, qubits, bits, t6, angle, i, r_, o0, o1, o2, o3, o4, o5, ())))
def R_badOp.c15 {ρ : Type} (i : Int) (o2 : List (Int)) (o3 : Int) (k_ : Bool → Option ρ) : Option ρ :=
  bnd (idx o2 i) fun y =>
  br (y == o3)
   (k_ true)
   (bnd (okIf (decide ((0 : Int) ≤ i) && decide (i ≤ (↑(List.length o2) : Int)))) fun y_1 =>
    bnd (idx o2 i) fun y_2 =>
    bnd (W.R_member (List.take (Int.toNat i) o2) y_2) fun y_3 =>
    k_ y_3)
def R_badOp.c15s : Shape := ⟨[(0, lc12), (1, lc2), (2, lc2), (3, lc7), (6, lc2), (7, lc11), (8, lc2)], [(3, lc13)]⟩
def R_badOp.c15x0 : Shape := ⟨[(0, lc12), (1, lc2), (2, lc2), (3, lc7), (6, lc2), (7, lc11), (8, lc2), (122, lc11)], [(3, lc13)]⟩
def R_badOp.c15r : Ck := Ck.of (T := Bool) R_badOp.c15s (fun ρ x_ k_ => uP x_ fun o x_ => uP x_ fun qubits x_ => uP x_ fun bits x_ => uP x_ fun t6 x_ => uP x_ fun angle x_ => uP x_ fun i x_ => uP x_ fun o0 x_ => uP x_ fun o1 x_ => uP x_ fun o2 x_ => uP x_ fun o3 x_ => uP x_ fun o4 x_ => uP x_ fun o5 x_ => R_badOp.c15 i o2 o3 k_) (fun ρ x_ r_ k_ => uP x_ fun o x_ => uP x_ fun qubits x_ => uP x_ fun bits x_ => uP x_ fun t6 x_ => uP x_ fun angle x_ => uP x_ fun i x_ => uP x_ fun o0 x_ => uP x_ fun o1 x_ => uP x_ fun o2 x_ => uP x_ fun o3 x_ => uP x_ fun o4 x_ => uP x_ fun o5 x_ => k_ 0 (Shape.inj R_badOp.c15x0 (o, qubits, bits, t6, angle, i, r_, o0, o1, o2, o3, o4, o5, ())))
def R_badOp.c100011 {ρ : Type} (qubits : Int) (i : Int) (o2 : List (Int)) (o3 : Int) (k_ : (Int) ⊕ (((Int) × (Int)) ⊕ (Int)) → Option ρ) : Option ρ :=
  br (decide (i < (↑(List.length o2) : Int)))
   (bnd (W.R_badOp.c13 qubits i o2 some) fun y =>
    br y
     (k_ (.inr (.inl ((10 : Int), i))))
     (bnd (W.R_badOp.c15 i o2 o3 some) fun y_1 =>
      br y_1
       (k_ (.inr (.inl ((12 : Int), i))))
       (k_ (.inl (IntKind.wrap IntKind.i64 (i + (1 : Int)))))))
   (k_ (.inr (.inr i)))
def R_badOp.c100011s : Shape := ⟨[(0, lc12), (1, lc2), (2, lc2), (3, lc7), (6, lc2), (7, lc11), (8, lc2)], [(3, lc13)]⟩
def R_badOp.c100011x0 : Shape := ⟨[(0, lc12), (1, lc2), (2, lc2), (3, lc7), (6, lc2), (7, lc11), (8, lc2)], [(3, lc13)]⟩
def R_badOp.c100011x1 : Shape := ⟨[(0, lc12), (1, lc2), (2, lc2), (3, lc7), (6, lc2), (7, lc11), (8, lc2)], [(3, lc13)]⟩
def R_badOp.c100011r : Ck := Ck.ofLoop (S := Int) (T := ((Int) × (Int)) ⊕ (Int)) R_badOp.c100011s (fun x_ => uP x_ fun o x_ => uP x_ fun qubits x_ => uP x_ fun bits x_ => uP x_ fun t6 x_ => uP x_ fun angle x_ => uP x_ fun i x_ => uP x_ fun o0 x_ => uP x_ fun o1 x_ => uP x_ fun o2 x_ => uP x_ fun o3 x_ => uP x_ fun o4 x_ => uP x_ fun o5 x_ => i) (fun ρ x_ s_ k_ => uP x_ fun o x_ => uP x_ fun qubits x_ => uP x_ fun bits x_ => uP x_ fun t6 x_ => uP x_ fun angle x_ => uP x_ fun i x_ => uP x_ fun o0 x_ => uP x_ fun o1 x_ => uP x_ fun o2 x_ => uP x_ fun o3 x_ => uP x_ fun o4 x_ => uP x_ fun o5 x_ => R_badOp.c100011 qubits s_ o2 o3 k_) (fun ρ x_ r_ k_ => uP x_ fun o x_ => uP x_ fun qubits x_ => uP x_ fun bits x_ => uP x_ fun t6 x_ => uP x_ fun angle x_ => uP x_ fun i x_ => uP x_ fun o0 x_ => uP x_ fun o1 x_ => uP x_ fun o2 x_ => uP x_ fun o3 x_ => uP x_ fun o4 x_ => uP x_ fun o5 x_ => sel r_ (fun r_ => k_ 1 (Shape.inj R_badOp.c100011x0 (o, qubits, bits, r_.1, angle, r_.2, o0, o1, o2, o3, o4, o5, ()))) (fun r_ => k_ 2 (Shape.inj R_badOp.c100011x1 (o, qubits, bits, t6, angle, r_, o0, o1, o2, o3, o4, o5, ()))))
def R_badOp.c18 {ρ : Type} (bits : Int) (o4 : Int) (k_ : Bool → Option ρ) : Option ρ :=
  br (decide (o4 < (0 : Int)))
   (k_ true)
   (k_ (decide (o4 ≥ bits)))
def R_badOp.c18s : Shape := ⟨[(0, lc12), (1, lc2), (2, lc2), (3, lc7), (6, lc2), (7, lc11), (8, lc2)], [(3, lc13)]⟩
def R_badOp.c18x0 : Shape := ⟨[(0, lc12), (1, lc2), (2, lc2), (3, lc7), (6, lc2), (7, lc11), (8, lc2), (134, lc11)], [(3, lc13)]⟩
def R_badOp.c18r : Ck := Ck.of (T := Bool) R_badOp.c18s (fun ρ x_ k_ => uP x_ fun o x_ => uP x_ fun qubits x_ => uP x_ fun bits x_ => uP x_ fun t6 x_ => uP x_ fun angle x_ => uP x_ fun i x_ => uP x_ fun o0 x_ => uP x_ fun o1 x_ => uP x_ fun o2 x_ => uP x_ fun o3 x_ => uP x_ fun o4 x_ => uP x_ fun o5 x_ => R_badOp.c18 bits o4 k_) (fun ρ x_ r_ k_ => uP x_ fun o x_ => uP x_ fun qubits x_ => uP x_ fun bits x_ => uP x_ fun t6 x_ => uP x_ fun angle x_ => uP x_ fun i x_ => uP x_ fun o0 x_ => uP x_ fun o1 x_ => uP x_ fun o2 x_ => uP x_ fun o3 x_ => uP x_ fun o4 x_ => uP x_ fun o5 x_ => k_ 0 (Shape.inj R_badOp.c18x0 (o, qubits, bits, t6, angle, i, r_, o0, o1, o2, o3, o4, o5, ())))
def R_badOp.c269649 {ρ : Type} (bits : Int) (o0 : Int) (o4 : Int) (k_ : (Unit) ⊕ (Unit) → Option ρ) : Option ρ :=
  br (o0 == (5 : Int))
   (bnd (W.R_badOp.c18 bits o4 some) fun y =>
    br y
     (k_ (.inl ()))
     (k_ (.inr ())))
   (br (o4 != (0 : Int))
     (k_ (.inl ()))
     (k_ (.inr ())))
def R_badOp.c269649s : Shape := ⟨[(0, lc12), (1, lc2), (2, lc2), (3, lc7), (6, lc2), (7, lc11), (8, lc2)], [(3, lc13)]⟩
def R_badOp.c269649x0 : Shape := ⟨[(0, lc12), (1, lc2), (2, lc2), (3, lc7), (6, lc2), (7, lc11), (8, lc2)], [(3, lc13)]⟩
def R_badOp.c269649x1 : Shape := ⟨[(0, lc12), (1, lc2), (2, lc2), (3, lc7), (6, lc2), (7, lc11), (8, lc2)], [(3, lc13)]⟩
def R_badOp.c269649r : Ck := Ck.of (T := (Unit) ⊕ (Unit)) R_badOp.c269649s (fun ρ x_ k_ => uP x_ fun o x_ => uP x_ fun qubits x_ => uP x_ fun bits x_ => uP x_ fun t6 x_ => uP x_ fun angle x_ => uP x_ fun i x_ => uP x_ fun o0 x_ => uP x_ fun o1 x_ => uP x_ fun o2 x_ => uP x_ fun o3 x_ => uP x_ fun o4 x_ => uP x_ fun o5 x_ => R_badOp.c269649 bits o0 o4 k_) (fun ρ x_ r_ k_ => uP x_ fun o x_ => uP x_ fun qubits x_ => uP x_ fun bits x_ => uP x_ fun t6 x_ => uP x_ fun angle x_ => uP x_ fun i x_ => uP x_ fun o0 x_ => uP x_ fun o1 x_ => uP x_ fun o2 x_ => uP x_ fun o3 x_ => uP x_ fun o4 x_ => uP x_ fun o5 x_ => sel r_ (fun r_ => k_ 1 (Shape.inj R_badOp.c269649x0 (o, qubits, bits, (13 : Int), angle, i, o0, o1, o2, o3, o4, o5, ()))) (fun r_ => k_ 0 (Shape.inj R_badOp.c269649x1 (o, qubits, bits, t6, angle, i, o0, o1, o2, o3, o4, o5, ()))))
def R_badOp.c27 {ρ : Type} (bits : Int) (i_1 : Int) (o5 : List (Int)) (k_ : Bool → Option ρ) : Option ρ :=
  bnd (idx o5 i_1) fun y =>
  br (y == (0 : Int))
   (k_ true)
   (bnd (idx o5 i_1) fun y_1 =>
    br (decide (y_1 > bits))
     (k_ true)
     (bnd (idx o5 i_1) fun y_2 =>
      k_ (decide (y_2 < IntKind.wrap IntKind.i64 ((0 : Int) - bits)))))
def R_badOp.c27s : Shape := ⟨[(0, lc12), (1, lc2), (2, lc2), (3, lc7), (6, lc2), (7, lc11), (8, lc2), (9, lc2)], [(3, lc13)]⟩
def R_badOp.c27x0 : Shape := ⟨[(0, lc12), (1, lc2), (2, lc2), (3, lc7), (6, lc2), (7, lc11), (8, lc2), (9, lc2), (173, lc11)], [(3, lc13)]⟩
def R_badOp.c27r : Ck := Ck.of (T := Bool) R_badOp.c27s (fun ρ x_ k_ => uP x_ fun o x_ => uP x_ fun qubits x_ => uP x_ fun bits x_ => uP x_ fun t6 x_ => uP x_ fun angle x_ => uP x_ fun i x_ => uP x_ fun i_1 x_ => uP x_ fun o0 x_ => uP x_ fun o1 x_ => uP x_ fun o2 x_ => uP x_ fun o3 x_ => uP x_ fun o4 x_ => uP x_ fun o5 x_ => R_badOp.c27 bits i_1 o5 k_) (fun ρ x_ r_ k_ => uP x_ fun o x_ => uP x_ fun qubits x_ => uP x_ fun bits x_ => uP x_ fun t6 x_ => uP x_ fun angle x_ => uP x_ fun i x_ => uP x_ fun i_1 x_ => uP x_ fun o0 x_ => uP x_ fun o1 x_ => uP x_ fun o2 x_ => uP x_ fun o3 x_ => uP x_ fun o4 x_ => uP x_ fun o5 x_ => k_ 0 (Shape.inj R_badOp.c27x0 (o, qubits, bits, t6, angle, i, i_1, r_, o0, o1, o2, o3, o4, o5, ())))
def R_badOp.c100025 {ρ : Type} (bits : Int) (i_1 : Int) (o5 : List (Int)) (k_ : (Int) ⊕ ((Int) ⊕ (Int)) → Option ρ) : Option ρ :=
  br (decide (i_1 < (↑(List.length o5) : Int)))
   (bnd (W.R_badOp.c27 bits i_1 o5 some) fun y =>
    br y
     (k_ (.inr (.inl i_1)))
     (k_ (.inl (IntKind.wrap IntKind.i64 (i_1 + (1 : Int))))))
   (k_ (.inr (.inr i_1)))
def R_badOp.c100025s : Shape := ⟨[(0, lc12), (1, lc2), (2, lc2), (3, lc7), (6, lc2), (7, lc11), (8, lc2), (9, lc2)], [(3, lc13)]⟩
def R_badOp.c100025x0 : Shape := ⟨[(0, lc12), (1, lc2), (2, lc2), (3, lc7), (6, lc2), (7, lc11), (8, lc2), (9, lc2)], [(3, lc13)]⟩
def R_badOp.c100025x1 : Shape := ⟨[(0, lc12), (1, lc2), (2, lc2), (3, lc7), (6, lc2), (7, lc11), (8, lc2), (9, lc2)], [(3, lc13)]⟩
def R_badOp.c100025r : Ck := Ck.ofLoop (S := Int) (T := (Int) ⊕ (Int)) R_badOp.c100025s (fun x_ => uP x_ fun o x_ => uP x_ fun qubits x_ => uP x_ fun bits x_ => uP x_ fun t6 x_ => uP x_ fun angle x_ => uP x_ fun i x_ => uP x_ fun i_1 x_ => uP x_ fun o0 x_ => uP x_ fun o1 x_ => uP x_ fun o2 x_ => uP x_ fun o3 x_ => uP x_ fun o4 x_ => uP x_ fun o5 x_ => i_1) (fun ρ x_ s_ k_ => uP x_ fun o x_ => uP x_ fun qubits x_ => uP x_ fun bits x_ => uP x_ fun t6 x_ => uP x_ fun angle x_ => uP x_ fun i x_ => uP x_ fun i_1 x_ => uP x_ fun o0 x_ => uP x_ fun o1 x_ => uP x_ fun o2 x_ => uP x_ fun o3 x_ => uP x_ fun o4 x_ => uP x_ fun o5 x_ => R_badOp.c100025 bits s_ o5 k_) (fun ρ x_ r_ k_ => uP x_ fun o x_ => uP x_ fun qubits x_ => uP x_ fun bits x_ => uP x_ fun t6 x_ => uP x_ fun angle x_ => uP x_ fun i x_ => uP x_ fun i_1 x_ => uP x_ fun o0 x_ => uP x_ fun o1 x_ => uP x_ fun o2 x_ => uP x_ fun o3 x_ => uP x_ fun o4 x_ => uP x_ fun o5 x_ => sel r_ (fun r_ => k_ 1 (Shape.inj R_badOp.c100025x0 (o, qubits, bits, (14 : Int), angle, i, r_, o0, o1, o2, o3, o4, o5, ()))) (fun r_ => k_ 4 (Shape.inj R_badOp.c100025x1 (o, qubits, bits, t6, angle, i, r_, o0, o1, o2, o3, o4, o5, ()))))
def R_badOp (o : (Int) × ((Int) × ((List Int) × ((Int) × ((Int) × (List Int)))))) (qubits : Int) (bits : Int) : Option (Int) :=
  bnd (W.R_badOp.c1 (Prod.fst o) some) fun y =>
  br y
   (some (8 : Int))
   (bnd (W.R_badOp.c3 (Prod.fst o) some) fun y_1 =>
    bnd (W.R_badOp.c4 y_1 (Prod.fst (Prod.snd o)) some) fun y_2 =>
    br y_2
     (some (9 : Int))
     (bnd (W.R_badOp.c6 qubits (Prod.fst o) (Prod.fst (Prod.snd (Prod.snd (Prod.snd o)))) some) fun y_3 =>
      br y_3
       (some (10 : Int))
       (bnd (W.R_badOp.c8 (Prod.fst o) (Prod.fst (Prod.snd (Prod.snd o))) some) fun y_4 =>
        br y_4
         (some (11 : Int))
         (bnd (iter (fun s ↦ W.R_badOp.c100011 qubits s (Prod.fst (Prod.snd (Prod.snd o))) (Prod.fst (Prod.snd (Prod.snd (Prod.snd o)))) some) (0 : Int)) fun y_5 =>
          sel y_5
           (fun u => some (Prod.fst u))
           (fun v => bnd (W.R_badOp.c269649 bits (Prod.fst o) (Prod.fst (Prod.snd (Prod.snd (Prod.snd (Prod.snd o))))) some) fun y_6 =>
            sel y_6
             (fun u_1 => some (13 : Int))
             (fun v_1 => br (decide ((↑(List.length (Prod.snd (Prod.snd (Prod.snd (Prod.snd (Prod.snd o)))))) : Int) > (24 : Int)))
               (some (14 : Int))
               (bnd (iter (fun s ↦ W.R_badOp.c100025 bits s (Prod.snd (Prod.snd (Prod.snd (Prod.snd (Prod.snd o))))) some) (0 : Int)) fun y_7 =>
                sel y_7
                 (fun u_2 => some (14 : Int))
                 (fun v_2 => some (0 : Int)))))))))
def R_badOp.ce : Go.Ql.Callee := ⟨[(.st (.pair (.int .i64) (.pair (.int .i64) (.pair (.sl (.int .i64)) (.pair (.int .i64) (.pair (.int .i64) (.sl (.int .i64)))))))), (.int .i64), (.int .i64)], [(.int .i64)], fun x_ => R_badOp x_.1 x_.2.1 x_.2.2⟩
def R_badOp.G : Env := ⟨174, tab, [(36, R_member.ce)], [0, 1, 2, 3, 6, 7, 8, 9, 17, 42, 61, 80, 85, 102, 122, 125, 134, 137, 141, 146, 173], [], [(15, [⟨[], [], [105, 108, 109], []⟩, ⟨[0], [], [105, 108, 109], []⟩, ⟨[], [], [103, 104, 108, 109], []⟩, ⟨[1, 0, 2], [], [108, 109], []⟩, ⟨[3, 1, 0, 2], [], [108, 109], []⟩, ⟨[], [], [103, 104, 105, 106, 107], []⟩, ⟨[5], [], [103, 104, 105, 106, 107], []⟩, ⟨[4, 3, 1, 0, 2, 6, 5], [], [], []⟩, ⟨[7, 4, 3, 1, 0, 2, 6, 5], [], [], []⟩, ⟨[8, 7, 4, 3, 1, 0, 2, 6, 5], [], [114, 116, 117, 118, 119, 120], []⟩, ⟨[9, 8, 7, 4, 3, 1, 0, 2, 6, 5], [], [114, 116, 117, 118, 119, 120], []⟩, ⟨[8, 7, 4, 3, 1, 0, 2, 6, 5], [], [112, 113, 116, 117, 118, 119, 120], []⟩, ⟨[10, 9, 8, 7, 4, 3, 1, 0, 2, 6, 5, 11], [], [116, 117, 118, 119, 120], []⟩, ⟨[8, 7, 4, 3, 1, 0, 2, 6, 5], [], [112, 113, 114, 115, 118], []⟩, ⟨[13, 8, 7, 4, 3, 1, 0, 2, 6, 5], [], [112, 113, 114, 115, 118], []⟩, ⟨[8, 7, 4, 3, 1, 0, 2, 6, 5], [], [112, 113, 114, 115, 116, 117], []⟩, ⟨[14, 13, 8, 7, 4, 3, 1, 0, 2, 6, 5, 15], [], [112, 113, 114, 115], []⟩, ⟨[16, 14, 13, 8, 7, 4, 3, 1, 0, 2, 6, 5, 15], [], [112, 113, 114, 115], []⟩, ⟨[12, 10, 9, 8, 7, 4, 3, 1, 0, 2, 6, 5, 11, 17, 16, 14, 13, 15], [], [], []⟩, ⟨[8, 7, 4, 3, 1, 0, 2, 6, 5, 18, 12, 10, 9, 11, 17, 16, 14, 13, 15], [], [], []⟩])], [(100025, R_badOp.c100025r), (27, R_badOp.c27r), (269649, R_badOp.c269649r), (18, R_badOp.c18r), (100011, R_badOp.c100011r), (15, R_badOp.c15r), (13, R_badOp.c13r), (8, R_badOp.c8r), (6, R_badOp.c6r), (4, R_badOp.c4r), (3, R_badOp.c3r), (1, R_badOp.c1r)], [], tab_eqs⟩
theorem R_badOp.eq (x_ : dens [(.st (.pair (.int .i64) (.pair (.int .i64) (.pair (.sl (.int .i64)) (.pair (.int .i64) (.pair (.int .i64) (.sl (.int .i64)))))))), (.int .i64), (.int .i64)]) : den R_badOp.G Go.Proofs.Try.f22 [(.st (.pair (.int .i64) (.pair (.int .i64) (.pair (.sl (.int .i64)) (.pair (.int .i64) (.pair (.int .i64) (.sl (.int .i64)))))))), (.int .i64), (.int .i64)] [(.int .i64)] x_ = R_badOp x_.1 x_.2.1 x_.2.2 := by kernel_rfl
theorem R_badOp.p0 : PieceOk R_badOp.G (pieceAt (pieces R_badOp.G.cks (bodyOf Go.Proofs.Try.f22)) 0).1 (pieceAt (pieces R_badOp.G.cks (bodyOf Go.Proofs.Try.f22)) 0).2 :=
  region_ok (s := R_badOp.c1r) (by kernel_rfl) (by kernel_rfl) (sums_of (sh := R_badOp.c1s) (fun ρ x_ k_ => (nat_br nat_leaf nat_leaf)) (fun ρ x_ t k => (by kernel_rfl)) (fun x_ => by kernel_rfl))
theorem R_badOp.p1 : PieceOk R_badOp.G (pieceAt (pieces R_badOp.G.cks (bodyOf Go.Proofs.Try.f22)) 1).1 (pieceAt (pieces R_badOp.G.cks (bodyOf Go.Proofs.Try.f22)) 1).2 :=
  region_ok (s := R_badOp.c3r) (by kernel_rfl) (by kernel_rfl) (sums_of (sh := R_badOp.c3s) (fun ρ x_ k_ => (nat_br nat_leaf nat_leaf)) (fun ρ x_ t k => (by kernel_rfl)) (fun x_ => by kernel_rfl))
theorem R_badOp.p2 : PieceOk R_badOp.G (pieceAt (pieces R_badOp.G.cks (bodyOf Go.Proofs.Try.f22)) 2).1 (pieceAt (pieces R_badOp.G.cks (bodyOf Go.Proofs.Try.f22)) 2).2 :=
  region_ok (s := R_badOp.c4r) (by kernel_rfl) (by kernel_rfl) (sums_of (sh := R_badOp.c4s) (fun ρ x_ k_ => (nat_br nat_leaf (nat_br nat_leaf (nat_br nat_leaf nat_leaf)))) (fun ρ x_ t k => (by kernel_rfl)) (fun x_ => by kernel_rfl))
theorem R_badOp.p3 : PieceOk R_badOp.G (pieceAt (pieces R_badOp.G.cks (bodyOf Go.Proofs.Try.f22)) 3).1 (pieceAt (pieces R_badOp.G.cks (bodyOf Go.Proofs.Try.f22)) 3).2 :=
  region_ok (s := R_badOp.c6r) (by kernel_rfl) (by kernel_rfl) (sums_of (sh := R_badOp.c6s) (fun ρ x_ k_ => (nat_br nat_leaf (nat_br nat_leaf (nat_br nat_leaf nat_leaf)))) (fun ρ x_ t k => (by kernel_rfl)) (fun x_ => by kernel_rfl))
theorem R_badOp.p4 : PieceOk R_badOp.G (pieceAt (pieces R_badOp.G.cks (bodyOf Go.Proofs.Try.f22)) 4).1 (pieceAt (pieces R_badOp.G.cks (bodyOf Go.Proofs.Try.f22)) 4).2 :=
  region_ok (s := R_badOp.c8r) (by kernel_rfl) (by kernel_rfl) (sums_of (sh := R_badOp.c8s) (fun ρ x_ k_ => (nat_br (nat_br (nat_br nat_leaf nat_leaf) nat_leaf) nat_leaf)) (fun ρ x_ t k => (by kernel_rfl)) (fun x_ => by kernel_rfl))
theorem R_badOp.p5 : PieceOk R_badOp.G (pieceAt (pieces R_badOp.G.cks (bodyOf Go.Proofs.Try.f22)) 5).1 (pieceAt (pieces R_badOp.G.cks (bodyOf Go.Proofs.Try.f22)) 5).2 :=
  loop_ok (s := R_badOp.c100011r) (by kernel_rfl) (by kernel_rfl) (loops_of (sh := R_badOp.c100011s) (I := fun x_ s_ => (x_.1, x_.2.1, x_.2.2.1, x_.2.2.2.1, x_.2.2.2.2.1, s_, x_.2.2.2.2.2.2.1, x_.2.2.2.2.2.2.2.1, x_.2.2.2.2.2.2.2.2.1, x_.2.2.2.2.2.2.2.2.2.1, x_.2.2.2.2.2.2.2.2.2.2.1, x_.2.2.2.2.2.2.2.2.2.2.2.1, ())) (fun x_ => rfl) (fun ρ x_ s_ k_ => (nat_br (nat_bnd fun _ => (nat_br nat_leaf (nat_bnd fun _ => (nat_br nat_leaf nat_leaf)))) nat_leaf)) (fun ρ x_ t k => (nat_sel (fun _ => (by kernel_rfl)) (fun _ => (by kernel_rfl)))) (fun x_ s => by kernel_rfl))
theorem R_badOp.p6 : PieceOk R_badOp.G (pieceAt (pieces R_badOp.G.cks (bodyOf Go.Proofs.Try.f22)) 6).1 (pieceAt (pieces R_badOp.G.cks (bodyOf Go.Proofs.Try.f22)) 6).2 :=
  region_ok (s := R_badOp.c13r) (by kernel_rfl) (by kernel_rfl) (sums_of (sh := R_badOp.c13s) (fun ρ x_ k_ => (nat_bnd fun _ => (nat_br nat_leaf (nat_bnd fun _ => nat_leaf)))) (fun ρ x_ t k => (by kernel_rfl)) (fun x_ => by kernel_rfl))
theorem R_badOp.p7 : PieceOk R_badOp.G (pieceAt (pieces R_badOp.G.cks (bodyOf Go.Proofs.Try.f22)) 7).1 (pieceAt (pieces R_badOp.G.cks (bodyOf Go.Proofs.Try.f22)) 7).2 :=
  region_ok (s := R_badOp.c15r) (by kernel_rfl) (by kernel_rfl) (sums_of (sh := R_badOp.c15s) (fun ρ x_ k_ => (nat_bnd fun _ => (nat_br nat_leaf (nat_bnd fun _ => (nat_bnd fun _ => (nat_bnd fun _ => nat_leaf)))))) (fun ρ x_ t k => (by kernel_rfl)) (fun x_ => by kernel_rfl))
theorem R_badOp.p8 : PieceOk R_badOp.G (pieceAt (pieces R_badOp.G.cks (bodyOf Go.Proofs.Try.f22)) 8).1 (pieceAt (pieces R_badOp.G.cks (bodyOf Go.Proofs.Try.f22)) 8).2 :=
  join_ok (s := R_badOp.c269649r) (by kernel_rfl) (by kernel_rfl) (sums_of (sh := R_badOp.c269649s) (fun ρ x_ k_ => (nat_br (nat_bnd fun _ => (nat_br nat_leaf nat_leaf)) (nat_br nat_leaf nat_leaf))) (fun ρ x_ t k => (nat_sel (fun _ => (by kernel_rfl)) (fun _ => (by kernel_rfl)))) (fun x_ => by kernel_rfl))
theorem R_badOp.p9 : PieceOk R_badOp.G (pieceAt (pieces R_badOp.G.cks (bodyOf Go.Proofs.Try.f22)) 9).1 (pieceAt (pieces R_badOp.G.cks (bodyOf Go.Proofs.Try.f22)) 9).2 :=
  region_ok (s := R_badOp.c18r) (by kernel_rfl) (by kernel_rfl) (sums_of (sh := R_badOp.c18s) (fun ρ x_ k_ => (nat_br nat_leaf nat_leaf)) (fun ρ x_ t k => (by kernel_rfl)) (fun x_ => by kernel_rfl))
theorem R_badOp.p10 : PieceOk R_badOp.G (pieceAt (pieces R_badOp.G.cks (bodyOf Go.Proofs.Try.f22)) 10).1 (pieceAt (pieces R_badOp.G.cks (bodyOf Go.Proofs.Try.f22)) 10).2 :=
  loop_ok (s := R_badOp.c100025r) (by kernel_rfl) (by kernel_rfl) (loops_of (sh := R_badOp.c100025s) (I := fun x_ s_ => (x_.1, x_.2.1, x_.2.2.1, x_.2.2.2.1, x_.2.2.2.2.1, x_.2.2.2.2.2.1, s_, x_.2.2.2.2.2.2.2.1, x_.2.2.2.2.2.2.2.2.1, x_.2.2.2.2.2.2.2.2.2.1, x_.2.2.2.2.2.2.2.2.2.2.1, x_.2.2.2.2.2.2.2.2.2.2.2.1, x_.2.2.2.2.2.2.2.2.2.2.2.2.1, ())) (fun x_ => rfl) (fun ρ x_ s_ k_ => (nat_br (nat_bnd fun _ => (nat_br nat_leaf nat_leaf)) nat_leaf)) (fun ρ x_ t k => (nat_sel (fun _ => (by kernel_rfl)) (fun _ => (by kernel_rfl)))) (fun x_ s => by kernel_rfl))
theorem R_badOp.p11 : PieceOk R_badOp.G (pieceAt (pieces R_badOp.G.cks (bodyOf Go.Proofs.Try.f22)) 11).1 (pieceAt (pieces R_badOp.G.cks (bodyOf Go.Proofs.Try.f22)) 11).2 :=
  region_ok (s := R_badOp.c27r) (by kernel_rfl) (by kernel_rfl) (sums_of (sh := R_badOp.c27s) (fun ρ x_ k_ => (nat_bnd fun _ => (nat_br nat_leaf (nat_bnd fun _ => (nat_br nat_leaf (nat_bnd fun _ => nat_leaf)))))) (fun ρ x_ t k => (by kernel_rfl)) (fun x_ => by kernel_rfl))
theorem R_badOp.ok : CalleeOk Go.Proofs.Try.prog 22 R_badOp.ce := fn_ok (G := R_badOp.G) tab_ok mixed Go.Proofs.Try.func22 ⟨(fns_cons R_member.ok fns_nil), mfns_nil, tab_eqs_ok⟩ (m := 12) (by kernel_rfl) ⟨⟨⟨⟨⟨⟨⟨⟨⟨⟨⟨⟨trivial, R_badOp.p0⟩, R_badOp.p1⟩, R_badOp.p2⟩, R_badOp.p3⟩, R_badOp.p4⟩, R_badOp.p5⟩, R_badOp.p6⟩, R_badOp.p7⟩, R_badOp.p8⟩, R_badOp.p9⟩, R_badOp.p10⟩, R_badOp.p11⟩ (by kernel_rfl) R_badOp.eq
abbrev lc14 : SO := .box [.val (.int .i64), .val (.int .i64)]
def R_Check.c1 {ρ : Type} (c0 : Int) (k_ : Bool → Option ρ) : Option ρ :=
  br (decide (c0 < (1 : Int)))
   (k_ true)
   (k_ (decide (c0 > (12 : Int))))
def R_Check.c1s : Shape := ⟨[(0, lc4), (1, lc5), (2, lc6)], [(1, lc8), (2, lc14)]⟩
def R_Check.c1x0 : Shape := ⟨[(0, lc4), (1, lc5), (2, lc6), (12, lc11)], [(1, lc8), (2, lc14)]⟩
def R_Check.c1r : Ck := Ck.of (T := Bool) R_Check.c1s (fun ρ x_ k_ => uP x_ fun c x_ => uP x_ fun c0 x_ => uP x_ fun c1 x_ => uP x_ fun c2 x_ => uP x_ fun t20 x_ => uP x_ fun t21 x_ => R_Check.c1 c0 k_) (fun ρ x_ r_ k_ => uP x_ fun c x_ => uP x_ fun c0 x_ => uP x_ fun c1 x_ => uP x_ fun c2 x_ => uP x_ fun t20 x_ => uP x_ fun t21 x_ => k_ 0 (Shape.inj R_Check.c1x0 (c, r_, c0, c1, c2, t20, t21, ())))
def R_Check.c3 {ρ : Type} (c1 : Int) (k_ : Bool → Option ρ) : Option ρ :=
  br (decide (c1 < (0 : Int)))
   (k_ true)
   (k_ (decide (c1 > (12 : Int))))
def R_Check.c3s : Shape := ⟨[(0, lc4), (1, lc5), (2, lc6)], [(1, lc8), (2, lc14)]⟩
def R_Check.c3x0 : Shape := ⟨[(0, lc4), (1, lc5), (2, lc6), (21, lc11)], [(1, lc8), (2, lc14)]⟩
def R_Check.c3r : Ck := Ck.of (T := Bool) R_Check.c3s (fun ρ x_ k_ => uP x_ fun c x_ => uP x_ fun c0 x_ => uP x_ fun c1 x_ => uP x_ fun c2 x_ => uP x_ fun t20 x_ => uP x_ fun t21 x_ => R_Check.c3 c1 k_) (fun ρ x_ r_ k_ => uP x_ fun c x_ => uP x_ fun c0 x_ => uP x_ fun c1 x_ => uP x_ fun c2 x_ => uP x_ fun t20 x_ => uP x_ fun t21 x_ => k_ 0 (Shape.inj R_Check.c3x0 (c, r_, c0, c1, c2, t20, t21, ())))
def R_Check.c10 {ρ : Type} (i : Int) (c0 : Int) (c1 : Int) (c2 : List ((Int) × ((Int) × ((List Int) × ((Int) × ((Int) × (List Int))))))) (k_ : Int → Option ρ) : Option ρ :=
  bnd (idx c2 i) fun y =>
  bnd (W.R_badOp y c0 c1) fun y_1 =>
  k_ y_1
def R_Check.c10s : Shape := ⟨[(0, lc4), (1, lc5), (2, lc6), (3, lc2)], [(1, lc8), (2, lc14)]⟩
def R_Check.c10x0 : Shape := ⟨[(0, lc4), (1, lc5), (2, lc6), (3, lc2), (4, lc2)], [(1, lc8), (2, lc14)]⟩
def R_Check.c10r : Ck := Ck.of (T := Int) R_Check.c10s (fun ρ x_ k_ => uP x_ fun c x_ => uP x_ fun i x_ => uP x_ fun c0 x_ => uP x_ fun c1 x_ => uP x_ fun c2 x_ => uP x_ fun t20 x_ => uP x_ fun t21 x_ => R_Check.c10 i c0 c1 c2 k_) (fun ρ x_ r_ k_ => uP x_ fun c x_ => uP x_ fun i x_ => uP x_ fun c0 x_ => uP x_ fun c1 x_ => uP x_ fun c2 x_ => uP x_ fun t20 x_ => uP x_ fun t21 x_ => k_ 0 (Shape.inj R_Check.c10x0 (c, i, r_, c0, c1, c2, t20, t21, ())))
def R_Check.c100008 {ρ : Type} (i : Int) (c0 : Int) (c1 : Int) (c2 : List ((Int) × ((Int) × ((List Int) × ((Int) × ((Int) × (List Int))))))) (k_ : (Int) ⊕ (((Int) × (Int) × (Int)) ⊕ (Int)) → Option ρ) : Option ρ :=
  br (decide (i < (↑(List.length c2) : Int)))
   (bnd (W.R_Check.c10 i c0 c1 c2 some) fun y =>
    br (y != (0 : Int))
     (bnd (W.R_rfault y i) fun y_1 =>
      k_ (.inr (.inl (i, (Prod.fst y_1), (Prod.snd y_1)))))
     (k_ (.inl (IntKind.wrap IntKind.i64 (i + (1 : Int))))))
   (k_ (.inr (.inr i)))
def R_Check.c100008s : Shape := ⟨[(0, lc4), (1, lc5), (2, lc6), (3, lc2)], [(1, lc8), (2, lc14)]⟩
def R_Check.c100008x0 : Shape := ⟨[(0, lc4), (1, lc5), (2, lc6), (3, lc2)], [(1, lc8), (2, lc14)]⟩
def R_Check.c100008x1 : Shape := ⟨[(0, lc4), (1, lc5), (2, lc6), (3, lc2)], [(1, lc8), (2, lc14)]⟩
def R_Check.c100008r : Ck := Ck.ofLoop (S := Int) (T := ((Int) × (Int) × (Int)) ⊕ (Int)) R_Check.c100008s (fun x_ => uP x_ fun c x_ => uP x_ fun i x_ => uP x_ fun c0 x_ => uP x_ fun c1 x_ => uP x_ fun c2 x_ => uP x_ fun t20 x_ => uP x_ fun t21 x_ => i) (fun ρ x_ s_ k_ => uP x_ fun c x_ => uP x_ fun i x_ => uP x_ fun c0 x_ => uP x_ fun c1 x_ => uP x_ fun c2 x_ => uP x_ fun t20 x_ => uP x_ fun t21 x_ => R_Check.c100008 s_ c0 c1 c2 k_) (fun ρ x_ r_ k_ => uP x_ fun c x_ => uP x_ fun i x_ => uP x_ fun c0 x_ => uP x_ fun c1 x_ => uP x_ fun c2 x_ => uP x_ fun t20 x_ => uP x_ fun t21 x_ => sel r_ (fun r_ => k_ 1 (Shape.inj R_Check.c100008x0 (c, r_.1, c0, c1, c2, r_.2.1, r_.2.2, ()))) (fun r_ => k_ 2 (Shape.inj R_Check.c100008x1 (c, r_, c0, c1, c2, t20, t21, ()))))
def R_Check (c : (Int) × ((Int) × (List ((Int) × ((Int) × ((List Int) × ((Int) × ((Int) × (List Int))))))))) : Option ((Int) × (Int)) :=
  bnd (W.R_Check.c1 (Prod.fst c) some) fun y =>
  br y
   (bnd (W.R_rfault (6 : Int) (0 : Int)) fun y_1 =>
    some (Prod.fst y_1, Prod.snd y_1))
   (bnd (W.R_Check.c3 (Prod.fst (Prod.snd c)) some) fun y_2 =>
    br y_2
     (bnd (W.R_rfault (7 : Int) (0 : Int)) fun y_3 =>
      some (Prod.fst y_3, Prod.snd y_3))
     (br (decide ((↑(List.length (Prod.snd (Prod.snd c))) : Int) > (4096 : Int)))
       (bnd (W.R_rfault (2 : Int) (0 : Int)) fun y_4 =>
        some (Prod.fst y_4, Prod.snd y_4))
       (bnd (iter (fun s ↦ W.R_Check.c100008 s (Prod.fst c) (Prod.fst (Prod.snd c)) (Prod.snd (Prod.snd c)) some) (0 : Int)) fun y_5 =>
        sel y_5
         (fun u => some (Prod.fst (Prod.snd u), Prod.snd (Prod.snd u)))
         (fun v => some ((0 : Int), (0 : Int))))))
def R_Check.ce : Go.Ql.Callee := ⟨[(.st (.pair (.int .i64) (.pair (.int .i64) (.sl (.st (.pair (.int .i64) (.pair (.int .i64) (.pair (.sl (.int .i64)) (.pair (.int .i64) (.pair (.int .i64) (.sl (.int .i64))))))))))))], [(.st (.pair (.int .i64) (.int .i64)))], fun x_ => R_Check x_⟩
def R_Check.G : Env := ⟨51, tab, [(21, R_rfault.ce), (22, R_badOp.ce)], [0, 1, 2, 3, 4, 12, 21, 26, 32, 46], [], [(10, [⟨[], [], [37, 40, 41, 42, 43], []⟩, ⟨[0], [], [37, 40, 41, 42, 43], []⟩, ⟨[], [], [35, 36, 40, 41, 42, 43], []⟩, ⟨[1, 0, 2], [], [40, 41, 42, 43], []⟩, ⟨[3, 1, 0, 2], [], [40, 41, 42, 43], []⟩, ⟨[], [], [35, 36, 37, 38, 39, 42, 43], []⟩, ⟨[5], [], [35, 36, 37, 38, 39, 42, 43], []⟩, ⟨[], [], [35, 36, 37, 38, 39, 40, 41], []⟩, ⟨[7], [], [35, 36, 37, 38, 39, 40, 41], []⟩, ⟨[4, 3, 1, 0, 2, 6, 5, 8, 7], [], [], []⟩, ⟨[9, 4, 3, 1, 0, 2, 6, 5, 8, 7], [], [], []⟩])], [(100008, R_Check.c100008r), (10, R_Check.c10r), (3, R_Check.c3r), (1, R_Check.c1r)], [], tab_eqs⟩
theorem R_Check.eq (x_ : dens [(.st (.pair (.int .i64) (.pair (.int .i64) (.sl (.st (.pair (.int .i64) (.pair (.int .i64) (.pair (.sl (.int .i64)) (.pair (.int .i64) (.pair (.int .i64) (.sl (.int .i64))))))))))))]) : den R_Check.G Go.Proofs.Try.f10 [(.st (.pair (.int .i64) (.pair (.int .i64) (.sl (.st (.pair (.int .i64) (.pair (.int .i64) (.pair (.sl (.int .i64)) (.pair (.int .i64) (.pair (.int .i64) (.sl (.int .i64))))))))))))] [(.st (.pair (.int .i64) (.int .i64)))] x_ = R_Check x_ := by kernel_rfl
theorem R_Check.p0 : PieceOk R_Check.G (pieceAt (pieces R_Check.G.cks (bodyOf Go.Proofs.Try.f10)) 0).1 (pieceAt (pieces R_Check.G.cks (bodyOf Go.Proofs.Try.f10)) 0).2 :=
  region_ok (s := R_Check.c1r) (by kernel_rfl) (by kernel_rfl) (sums_of (sh := R_Check.c1s) (fun ρ x_ k_ => (nat_br nat_leaf nat_leaf)) (fun ρ x_ t k => (by kernel_rfl)) (fun x_ => by kernel_rfl))
theorem R_Check.p1 : PieceOk R_Check.G (pieceAt (pieces R_Check.G.cks (bodyOf Go.Proofs.Try.f10)) 1).1 (pieceAt (pieces R_Check.G.cks (bodyOf Go.Proofs.Try.f10)) 1).2 :=
  region_ok (s := R_Check.c3r) (by kernel_rfl) (by kernel_rfl) (sums_of (sh := R_Check.c3s) (fun ρ x_ k_ => (nat_br nat_leaf nat_leaf)) (fun ρ x_ t k => (by kernel_rfl)) (fun x_ => by kernel_rfl))
theorem R_Check.p2 : PieceOk R_Check.G (pieceAt (pieces R_Check.G.cks (bodyOf Go.Proofs.Try.f10)) 2).1 (pieceAt (pieces R_Check.G.cks (bodyOf Go.Proofs.Try.f10)) 2).2 :=
  loop_ok (s := R_Check.c100008r) (by kernel_rfl) (by kernel_rfl) (loops_of (sh := R_Check.c100008s) (I := fun x_ s_ => (x_.1, s_, x_.2.2.1, x_.2.2.2.1, x_.2.2.2.2.1, x_.2.2.2.2.2.1, x_.2.2.2.2.2.2.1, ())) (fun x_ => rfl) (fun ρ x_ s_ k_ => (nat_br (nat_bnd fun _ => (nat_br (nat_bnd fun _ => nat_leaf) nat_leaf)) nat_leaf)) (fun ρ x_ t k => (nat_sel (fun _ => (by kernel_rfl)) (fun _ => (by kernel_rfl)))) (fun x_ s => by kernel_rfl))
theorem R_Check.p3 : PieceOk R_Check.G (pieceAt (pieces R_Check.G.cks (bodyOf Go.Proofs.Try.f10)) 3).1 (pieceAt (pieces R_Check.G.cks (bodyOf Go.Proofs.Try.f10)) 3).2 :=
  region_ok (s := R_Check.c10r) (by kernel_rfl) (by kernel_rfl) (sums_of (sh := R_Check.c10s) (fun ρ x_ k_ => (nat_bnd fun _ => (nat_bnd fun _ => nat_leaf))) (fun ρ x_ t k => (by kernel_rfl)) (fun x_ => by kernel_rfl))
theorem R_Check.ok : CalleeOk Go.Proofs.Try.prog 10 R_Check.ce := fn_ok (G := R_Check.G) tab_ok mixed Go.Proofs.Try.func10 ⟨(fns_cons R_rfault.ok (fns_cons R_badOp.ok fns_nil)), mfns_nil, tab_eqs_ok⟩ (m := 4) (by kernel_rfl) ⟨⟨⟨⟨trivial, R_Check.p0⟩, R_Check.p1⟩, R_Check.p2⟩, R_Check.p3⟩ (by kernel_rfl) R_Check.eq
def R_Spares.c216389 {ρ : Type} (t3 : Int) (o0 : Int) (o1 : Int) (k_ : Int → Option ρ) : Option ρ :=
  br (o0 == (4 : Int))
   (k_ o1)
   (k_ t3)
def R_Spares.c216389s : Shape := ⟨[(0, lc12), (1, lc5), (2, lc2), (3, lc2)], [(1, lc13)]⟩
def R_Spares.c216389x0 : Shape := ⟨[(0, lc12), (1, lc5), (2, lc2), (3, lc2)], [(1, lc13)]⟩
def R_Spares.c216389r : Ck := Ck.of (T := Int) R_Spares.c216389s (fun ρ x_ k_ => uP x_ fun o x_ => uP x_ fun t2 x_ => uP x_ fun t3 x_ => uP x_ fun o0 x_ => uP x_ fun o1 x_ => uP x_ fun o2 x_ => uP x_ fun o3 x_ => uP x_ fun o4 x_ => uP x_ fun o5 x_ => R_Spares.c216389 t3 o0 o1 k_) (fun ρ x_ r_ k_ => uP x_ fun o x_ => uP x_ fun t2 x_ => uP x_ fun t3 x_ => uP x_ fun o0 x_ => uP x_ fun o1 x_ => uP x_ fun o2 x_ => uP x_ fun o3 x_ => uP x_ fun o4 x_ => uP x_ fun o5 x_ => k_ 0 (Shape.inj R_Spares.c216389x0 (o, t2, r_, o0, o1, o2, o3, o4, o5, ())))
def R_Spares.c100010 {ρ : Type} (j : Int) (part : Int) (i : Int) (o2 : List (Int)) (k_ : ((Int) × (Int)) ⊕ ((Int) × (Int)) → Option ρ) : Option ρ :=
  br (decide (i < IntKind.wrap IntKind.i64 ((↑(List.length o2) : Int) - j)))
   (k_ (.inl ((IntKind.wrap IntKind.i64 (part * (2 : Int))), (IntKind.wrap IntKind.i64 (i + (1 : Int))))))
   (k_ (.inr (part, i)))
def R_Spares.c100010s : Shape := ⟨[(0, lc12), (1, lc5), (2, lc2), (3, lc2), (4, lc2), (5, lc2), (6, lc2)], [(1, lc13)]⟩
def R_Spares.c100010x0 : Shape := ⟨[(0, lc12), (1, lc5), (2, lc2), (3, lc2), (4, lc2), (5, lc2), (6, lc2)], [(1, lc13)]⟩
def R_Spares.c100010r : Ck := Ck.ofLoop (S := (Int) × (Int)) (T := (Int) × (Int)) R_Spares.c100010s (fun x_ => uP x_ fun o x_ => uP x_ fun t2 x_ => uP x_ fun t3 x_ => uP x_ fun j x_ => uP x_ fun part x_ => uP x_ fun i x_ => uP x_ fun o0 x_ => uP x_ fun o1 x_ => uP x_ fun o2 x_ => uP x_ fun o3 x_ => uP x_ fun o4 x_ => uP x_ fun o5 x_ => (part, i)) (fun ρ x_ s_ k_ => uP x_ fun o x_ => uP x_ fun t2 x_ => uP x_ fun t3 x_ => uP x_ fun j x_ => uP x_ fun part x_ => uP x_ fun i x_ => uP x_ fun o0 x_ => uP x_ fun o1 x_ => uP x_ fun o2 x_ => uP x_ fun o3 x_ => uP x_ fun o4 x_ => uP x_ fun o5 x_ => R_Spares.c100010 j s_.1 s_.2 o2 k_) (fun ρ x_ r_ k_ => uP x_ fun o x_ => uP x_ fun t2 x_ => uP x_ fun t3 x_ => uP x_ fun j x_ => uP x_ fun part x_ => uP x_ fun i x_ => uP x_ fun o0 x_ => uP x_ fun o1 x_ => uP x_ fun o2 x_ => uP x_ fun o3 x_ => uP x_ fun o4 x_ => uP x_ fun o5 x_ => k_ 4 (Shape.inj R_Spares.c100010x0 (o, t2, t3, j, r_.1, r_.2, o0, o1, o2, o3, o4, o5, ())))
def R_Spares.c100008 {ρ : Type} (t3 : Int) (j : Int) (o2 : List (Int)) (k_ : (Int) ⊕ ((Int) × (Int)) → Option ρ) : Option ρ :=
  bnd (iter (fun s ↦ W.R_Spares.c100010 j (Prod.fst s) (Prod.snd s) o2 some) ((1 : Int), (0 : Int))) fun y =>
  bnd (okIf (Prod.fst y != (0 : Int))) fun y_1 =>
  br (Int.tmod t3 (Prod.fst y) == (0 : Int))
   (k_ (.inr (j, j)))
   (k_ (.inl (IntKind.wrap IntKind.i64 (j + (1 : Int)))))
def R_Spares.c100008s : Shape := ⟨[(0, lc12), (1, lc5), (2, lc2), (3, lc2), (4, lc2)], [(1, lc13)]⟩
def R_Spares.c100008x0 : Shape := ⟨[(0, lc12), (1, lc5), (2, lc2), (3, lc2), (4, lc2)], [(1, lc13)]⟩
def R_Spares.c100008r : Ck := Ck.ofLoop (S := Int) (T := (Int) × (Int)) R_Spares.c100008s (fun x_ => uP x_ fun o x_ => uP x_ fun t2 x_ => uP x_ fun t3 x_ => uP x_ fun j x_ => uP x_ fun o0 x_ => uP x_ fun o1 x_ => uP x_ fun o2 x_ => uP x_ fun o3 x_ => uP x_ fun o4 x_ => uP x_ fun o5 x_ => j) (fun ρ x_ s_ k_ => uP x_ fun o x_ => uP x_ fun t2 x_ => uP x_ fun t3 x_ => uP x_ fun j x_ => uP x_ fun o0 x_ => uP x_ fun o1 x_ => uP x_ fun o2 x_ => uP x_ fun o3 x_ => uP x_ fun o4 x_ => uP x_ fun o5 x_ => R_Spares.c100008 t3 s_ o2 k_) (fun ρ x_ r_ k_ => uP x_ fun o x_ => uP x_ fun t2 x_ => uP x_ fun t3 x_ => uP x_ fun j x_ => uP x_ fun o0 x_ => uP x_ fun o1 x_ => uP x_ fun o2 x_ => uP x_ fun o3 x_ => uP x_ fun o4 x_ => uP x_ fun o5 x_ => k_ 1 (Shape.inj R_Spares.c100008x0 (o, r_.1, t3, r_.2, o0, o1, o2, o3, o4, o5, ())))
def R_Spares (o : (Int) × ((Int) × ((List Int) × ((Int) × ((Int) × (List Int)))))) : Option (Int) :=
  br ((↑(List.length (Prod.fst (Prod.snd (Prod.snd o)))) : Int) == (0 : Int))
   (some (0 : Int))
   (bnd (W.R_Spares.c216389 (8 : Int) (Prod.fst o) (Prod.fst (Prod.snd o)) some) fun y =>
    bnd (iter (fun s ↦ W.R_Spares.c100008 y s (Prod.fst (Prod.snd (Prod.snd o))) some) (0 : Int)) fun y_1 =>
    some (Prod.fst y_1))
def R_Spares.ce : Go.Ql.Callee := ⟨[(.st (.pair (.int .i64) (.pair (.int .i64) (.pair (.sl (.int .i64)) (.pair (.int .i64) (.pair (.int .i64) (.sl (.int .i64))))))))], [(.int .i64)], fun x_ => R_Spares x_⟩
def R_Spares.G : Env := ⟨34, tab, [], [0, 1, 2, 3, 4, 5, 6, 10, 13, 24, 32], [], [], [(100008, R_Spares.c100008r), (100010, R_Spares.c100010r), (216389, R_Spares.c216389r)], [], tab_eqs⟩
theorem R_Spares.eq (x_ : dens [(.st (.pair (.int .i64) (.pair (.int .i64) (.pair (.sl (.int .i64)) (.pair (.int .i64) (.pair (.int .i64) (.sl (.int .i64))))))))]) : den R_Spares.G Go.Proofs.Try.f20 [(.st (.pair (.int .i64) (.pair (.int .i64) (.pair (.sl (.int .i64)) (.pair (.int .i64) (.pair (.int .i64) (.sl (.int .i64))))))))] [(.int .i64)] x_ = R_Spares x_ := by kernel_rfl
theorem R_Spares.p0 : PieceOk R_Spares.G (pieceAt (pieces R_Spares.G.cks (bodyOf Go.Proofs.Try.f20)) 0).1 (pieceAt (pieces R_Spares.G.cks (bodyOf Go.Proofs.Try.f20)) 0).2 :=
  join_ok (s := R_Spares.c216389r) (by kernel_rfl) (by kernel_rfl) (sums_of (sh := R_Spares.c216389s) (fun ρ x_ k_ => (nat_br nat_leaf nat_leaf)) (fun ρ x_ t k => (by kernel_rfl)) (fun x_ => by kernel_rfl))
theorem R_Spares.p1 : PieceOk R_Spares.G (pieceAt (pieces R_Spares.G.cks (bodyOf Go.Proofs.Try.f20)) 1).1 (pieceAt (pieces R_Spares.G.cks (bodyOf Go.Proofs.Try.f20)) 1).2 :=
  loop_ok (s := R_Spares.c100008r) (by kernel_rfl) (by kernel_rfl) (loops_of (sh := R_Spares.c100008s) (I := fun x_ s_ => (x_.1, x_.2.1, x_.2.2.1, s_, x_.2.2.2.2.1, x_.2.2.2.2.2.1, x_.2.2.2.2.2.2.1, x_.2.2.2.2.2.2.2.1, x_.2.2.2.2.2.2.2.2.1, x_.2.2.2.2.2.2.2.2.2.1, ())) (fun x_ => rfl) (fun ρ x_ s_ k_ => (nat_bnd fun _ => (nat_bnd fun _ => (nat_br nat_leaf nat_leaf)))) (fun ρ x_ t k => (by kernel_rfl)) (fun x_ s => by kernel_rfl))
theorem R_Spares.p2 : PieceOk R_Spares.G (pieceAt (pieces R_Spares.G.cks (bodyOf Go.Proofs.Try.f20)) 2).1 (pieceAt (pieces R_Spares.G.cks (bodyOf Go.Proofs.Try.f20)) 2).2 :=
  loop_ok (s := R_Spares.c100010r) (by kernel_rfl) (by kernel_rfl) (loops_of (sh := R_Spares.c100010s) (I := fun x_ s_ => (x_.1, x_.2.1, x_.2.2.1, x_.2.2.2.1, s_.1, s_.2, x_.2.2.2.2.2.2.1, x_.2.2.2.2.2.2.2.1, x_.2.2.2.2.2.2.2.2.1, x_.2.2.2.2.2.2.2.2.2.1, x_.2.2.2.2.2.2.2.2.2.2.1, x_.2.2.2.2.2.2.2.2.2.2.2.1, ())) (fun x_ => rfl) (fun ρ x_ s_ k_ => (nat_br nat_leaf nat_leaf)) (fun ρ x_ t k => (by kernel_rfl)) (fun x_ s => by kernel_rfl))
theorem R_Spares.ok : CalleeOk Go.Proofs.Try.prog 20 R_Spares.ce := fn_ok (G := R_Spares.G) tab_ok mixed Go.Proofs.Try.func20 ⟨fns_nil, mfns_nil, tab_eqs_ok⟩ (m := 3) (by kernel_rfl) ⟨⟨⟨trivial, R_Spares.p0⟩, R_Spares.p1⟩, R_Spares.p2⟩ (by kernel_rfl) R_Spares.eq
abbrev lc15 : SD := .one (.ref 4 0)
def R_LowerFault.c3 {ρ : Type}  (k_ : Unit → Option ρ) : Option ρ :=
  k_ ()
def R_LowerFault.c3s : Shape := ⟨[(0, lc4), (1, lc5), (2, lc2), (3, lc7), (4, lc15)], [(1, lc8), (3, lc14), (4, lc14)]⟩
def R_LowerFault.c3x0 : Shape := ⟨[(0, lc4), (1, lc5), (2, lc2), (3, lc7), (4, lc15)], [(1, lc8), (3, lc14), (4, lc14)]⟩
def R_LowerFault.c3r : Ck := Ck.of (T := Unit) R_LowerFault.c3s (fun ρ x_ k_ => uP x_ fun c x_ => uP x_ fun t2 x_ => uP x_ fun c0 x_ => uP x_ fun c1 x_ => uP x_ fun c2 x_ => uP x_ fun t30 x_ => uP x_ fun t31 x_ => uP x_ fun f0 x_ => uP x_ fun f1 x_ => R_LowerFault.c3  k_) (fun ρ x_ r_ k_ => uP x_ fun c x_ => uP x_ fun t2 x_ => uP x_ fun c0 x_ => uP x_ fun c1 x_ => uP x_ fun c2 x_ => uP x_ fun t30 x_ => uP x_ fun t31 x_ => uP x_ fun f0 x_ => uP x_ fun f1 x_ => k_ 0 (Shape.inj R_LowerFault.c3x0 (c, (0 : Int), c0, c1, c2, f0, f1, f0, f1, ())))
def R_LowerFault.c236869 {ρ : Type} (size : Int) (i : Int) (c2 : List ((Int) × ((Int) × ((List Int) × ((Int) × ((Int) × (List Int))))))) (k_ : Int → Option ρ) : Option ρ :=
  bnd (idx c2 i) fun y =>
  br (decide ((↑(List.length (Prod.fst (Prod.snd (Prod.snd y)))) : Int) > (0 : Int)))
   (k_ (IntKind.wrap IntKind.i64 (size + (220 : Int))))
   (k_ size)
def R_LowerFault.c236869s : Shape := ⟨[(0, lc4), (1, lc5), (2, lc2), (3, lc7), (4, lc15), (5, lc2), (6, lc2), (7, lc2)], [(1, lc8), (3, lc14), (4, lc14)]⟩
def R_LowerFault.c236869x0 : Shape := ⟨[(0, lc4), (1, lc5), (2, lc2), (3, lc7), (4, lc15), (5, lc2), (6, lc2), (7, lc2)], [(1, lc8), (3, lc14), (4, lc14)]⟩
def R_LowerFault.c236869r : Ck := Ck.of (T := Int) R_LowerFault.c236869s (fun ρ x_ k_ => uP x_ fun c x_ => uP x_ fun t2 x_ => uP x_ fun size x_ => uP x_ fun most x_ => uP x_ fun i x_ => uP x_ fun c0 x_ => uP x_ fun c1 x_ => uP x_ fun c2 x_ => uP x_ fun t30 x_ => uP x_ fun t31 x_ => uP x_ fun f0 x_ => uP x_ fun f1 x_ => R_LowerFault.c236869 size i c2 k_) (fun ρ x_ r_ k_ => uP x_ fun c x_ => uP x_ fun t2 x_ => uP x_ fun size x_ => uP x_ fun most x_ => uP x_ fun i x_ => uP x_ fun c0 x_ => uP x_ fun c1 x_ => uP x_ fun c2 x_ => uP x_ fun t30 x_ => uP x_ fun t31 x_ => uP x_ fun f0 x_ => uP x_ fun f1 x_ => k_ 0 (Shape.inj R_LowerFault.c236869x0 (c, t2, r_, most, i, c0, c1, c2, t30, t31, f0, f1, ())))
def R_LowerFault.c236878 {ρ : Type} (size : Int) (most : Int) (i : Int) (c2 : List ((Int) × ((Int) × ((List Int) × ((Int) × ((Int) × (List Int))))))) (k_ : (Int) × (Int) → Option ρ) : Option ρ :=
  bnd (W.R_LowerFault.c236869 size i c2 some) fun y =>
  bnd (idx c2 i) fun y_1 =>
  bnd (W.R_Spares y_1) fun y_2 =>
  br (decide (y_2 > most))
   (k_ (y, y_2))
   (k_ (y, most))
def R_LowerFault.c236878s : Shape := ⟨[(0, lc4), (1, lc5), (2, lc2), (3, lc7), (4, lc15), (5, lc2), (6, lc2), (7, lc2)], [(1, lc8), (3, lc14), (4, lc14)]⟩
def R_LowerFault.c236878x0 : Shape := ⟨[(0, lc4), (1, lc5), (2, lc2), (3, lc7), (4, lc15), (5, lc2), (6, lc2), (7, lc2)], [(1, lc8), (3, lc14), (4, lc14)]⟩
def R_LowerFault.c236878r : Ck := Ck.of (T := (Int) × (Int)) R_LowerFault.c236878s (fun ρ x_ k_ => uP x_ fun c x_ => uP x_ fun t2 x_ => uP x_ fun size x_ => uP x_ fun most x_ => uP x_ fun i x_ => uP x_ fun c0 x_ => uP x_ fun c1 x_ => uP x_ fun c2 x_ => uP x_ fun t30 x_ => uP x_ fun t31 x_ => uP x_ fun f0 x_ => uP x_ fun f1 x_ => R_LowerFault.c236878 size most i c2 k_) (fun ρ x_ r_ k_ => uP x_ fun c x_ => uP x_ fun t2 x_ => uP x_ fun size x_ => uP x_ fun most x_ => uP x_ fun i x_ => uP x_ fun c0 x_ => uP x_ fun c1 x_ => uP x_ fun c2 x_ => uP x_ fun t30 x_ => uP x_ fun t31 x_ => uP x_ fun f0 x_ => uP x_ fun f1 x_ => k_ 0 (Shape.inj R_LowerFault.c236878x0 (c, t2, r_.1, r_.2, i, c0, c1, c2, t30, t31, f0, f1, ())))
def R_LowerFault.c100007 {ρ : Type} (size : Int) (most : Int) (i : Int) (c2 : List ((Int) × ((Int) × ((List Int) × ((Int) × ((Int) × (List Int))))))) (k_ : ((Int) × (Int) × (Int)) ⊕ ((Int) × (Int) × (Int)) → Option ρ) : Option ρ :=
  br (decide (i < (↑(List.length c2) : Int)))
   (bnd (W.R_LowerFault.c236878 size most i c2 some) fun y =>
    k_ (.inl ((Prod.fst y), (Prod.snd y), (IntKind.wrap IntKind.i64 (i + (1 : Int))))))
   (k_ (.inr (size, most, i)))
def R_LowerFault.c100007s : Shape := ⟨[(0, lc4), (1, lc5), (2, lc2), (3, lc7), (4, lc15), (5, lc2), (6, lc2), (7, lc2)], [(1, lc8), (3, lc14), (4, lc14)]⟩
def R_LowerFault.c100007x0 : Shape := ⟨[(0, lc4), (1, lc5), (2, lc2), (3, lc7), (4, lc15), (5, lc2), (6, lc2), (7, lc2)], [(1, lc8), (3, lc14), (4, lc14)]⟩
def R_LowerFault.c100007r : Ck := Ck.ofLoop (S := (Int) × (Int) × (Int)) (T := (Int) × (Int) × (Int)) R_LowerFault.c100007s (fun x_ => uP x_ fun c x_ => uP x_ fun t2 x_ => uP x_ fun size x_ => uP x_ fun most x_ => uP x_ fun i x_ => uP x_ fun c0 x_ => uP x_ fun c1 x_ => uP x_ fun c2 x_ => uP x_ fun t30 x_ => uP x_ fun t31 x_ => uP x_ fun f0 x_ => uP x_ fun f1 x_ => (size, most, i)) (fun ρ x_ s_ k_ => uP x_ fun c x_ => uP x_ fun t2 x_ => uP x_ fun size x_ => uP x_ fun most x_ => uP x_ fun i x_ => uP x_ fun c0 x_ => uP x_ fun c1 x_ => uP x_ fun c2 x_ => uP x_ fun t30 x_ => uP x_ fun t31 x_ => uP x_ fun f0 x_ => uP x_ fun f1 x_ => R_LowerFault.c100007 s_.1 s_.2.1 s_.2.2 c2 k_) (fun ρ x_ r_ k_ => uP x_ fun c x_ => uP x_ fun t2 x_ => uP x_ fun size x_ => uP x_ fun most x_ => uP x_ fun i x_ => uP x_ fun c0 x_ => uP x_ fun c1 x_ => uP x_ fun c2 x_ => uP x_ fun t30 x_ => uP x_ fun t31 x_ => uP x_ fun f0 x_ => uP x_ fun f1 x_ => k_ 2 (Shape.inj R_LowerFault.c100007x0 (c, t2, r_.1, r_.2.1, r_.2.2, c0, c1, c2, t30, t31, f0, f1, ())))
def R_LowerFault (c : (Int) × ((Int) × (List ((Int) × ((Int) × ((List Int) × ((Int) × ((Int) × (List Int))))))))) : Option ((Int) × ((Int) × (Int))) :=
  bnd (W.R_Check (Prod.fst c, Prod.fst (Prod.snd c), Prod.snd (Prod.snd c))) fun y =>
  br (Prod.fst y != (0 : Int))
   (bnd (W.R_LowerFault.c3 some) fun y_1 =>
    some ((0 : Int), Prod.fst y, Prod.snd y))
   (bnd (iter (fun s ↦ W.R_LowerFault.c100007 (Prod.fst s) (Prod.fst (Prod.snd s)) (Prod.snd (Prod.snd s)) (Prod.snd (Prod.snd c)) some) ((↑(List.length (Prod.snd (Prod.snd c))) : Int), (0 : Int), (0 : Int))) fun y_2 =>
    br (decide (Prod.fst y_2 > (4096 : Int)))
     (bnd (W.R_rfault (21 : Int) (0 : Int)) fun y_3 =>
      some ((0 : Int), Prod.fst y_3, Prod.snd y_3))
     (br (decide (IntKind.wrap IntKind.i64 (Prod.fst c + Prod.fst (Prod.snd y_2)) > (12 : Int)))
       (bnd (W.R_rfault (36 : Int) (0 : Int)) fun y_4 =>
        some ((0 : Int), Prod.fst y_4, Prod.snd y_4))
       (some (Prod.fst (Prod.snd y_2), (0 : Int), (0 : Int)))))
def R_LowerFault.ce : Go.Ql.Callee := ⟨[(.st (.pair (.int .i64) (.pair (.int .i64) (.sl (.st (.pair (.int .i64) (.pair (.int .i64) (.pair (.sl (.int .i64)) (.pair (.int .i64) (.pair (.int .i64) (.sl (.int .i64))))))))))))], [(.int .i64), (.st (.pair (.int .i64) (.int .i64)))], fun x_ => R_LowerFault x_⟩
def R_LowerFault.G : Env := ⟨56, tab, [(10, R_Check.ce), (20, R_Spares.ce), (21, R_rfault.ce)], [0, 1, 2, 3, 4, 5, 6, 7, 8, 13, 22, 32, 43, 46, 52], [], [(3, [⟨[], [], [2], []⟩, ⟨[], [], [14], []⟩, ⟨[0, 1], [3], [], []⟩])], [(100007, R_LowerFault.c100007r), (236878, R_LowerFault.c236878r), (236869, R_LowerFault.c236869r), (3, R_LowerFault.c3r)], [], tab_eqs⟩
theorem R_LowerFault.eq (x_ : dens [(.st (.pair (.int .i64) (.pair (.int .i64) (.sl (.st (.pair (.int .i64) (.pair (.int .i64) (.pair (.sl (.int .i64)) (.pair (.int .i64) (.pair (.int .i64) (.sl (.int .i64))))))))))))]) : den R_LowerFault.G Go.Proofs.Try.f7 [(.st (.pair (.int .i64) (.pair (.int .i64) (.sl (.st (.pair (.int .i64) (.pair (.int .i64) (.pair (.sl (.int .i64)) (.pair (.int .i64) (.pair (.int .i64) (.sl (.int .i64))))))))))))] [(.int .i64), (.st (.pair (.int .i64) (.int .i64)))] x_ = R_LowerFault x_ := by kernel_rfl
theorem R_LowerFault.p0 : PieceOk R_LowerFault.G (pieceAt (pieces R_LowerFault.G.cks (bodyOf Go.Proofs.Try.f7)) 0).1 (pieceAt (pieces R_LowerFault.G.cks (bodyOf Go.Proofs.Try.f7)) 0).2 :=
  region_ok (s := R_LowerFault.c3r) (by kernel_rfl) (by kernel_rfl) (sums_of (sh := R_LowerFault.c3s) (fun ρ x_ k_ => nat_leaf) (fun ρ x_ t k => (by kernel_rfl)) (fun x_ => by kernel_rfl))
theorem R_LowerFault.p1 : PieceOk R_LowerFault.G (pieceAt (pieces R_LowerFault.G.cks (bodyOf Go.Proofs.Try.f7)) 1).1 (pieceAt (pieces R_LowerFault.G.cks (bodyOf Go.Proofs.Try.f7)) 1).2 :=
  loop_ok (s := R_LowerFault.c100007r) (by kernel_rfl) (by kernel_rfl) (loops_of (sh := R_LowerFault.c100007s) (I := fun x_ s_ => (x_.1, x_.2.1, s_.1, s_.2.1, s_.2.2, x_.2.2.2.2.2.1, x_.2.2.2.2.2.2.1, x_.2.2.2.2.2.2.2.1, x_.2.2.2.2.2.2.2.2.1, x_.2.2.2.2.2.2.2.2.2.1, x_.2.2.2.2.2.2.2.2.2.2.1, x_.2.2.2.2.2.2.2.2.2.2.2.1, ())) (fun x_ => rfl) (fun ρ x_ s_ k_ => (nat_br (nat_bnd fun _ => nat_leaf) nat_leaf)) (fun ρ x_ t k => (by kernel_rfl)) (fun x_ s => by kernel_rfl))
theorem R_LowerFault.p2 : PieceOk R_LowerFault.G (pieceAt (pieces R_LowerFault.G.cks (bodyOf Go.Proofs.Try.f7)) 2).1 (pieceAt (pieces R_LowerFault.G.cks (bodyOf Go.Proofs.Try.f7)) 2).2 :=
  join_ok (s := R_LowerFault.c236878r) (by kernel_rfl) (by kernel_rfl) (sums_of (sh := R_LowerFault.c236878s) (fun ρ x_ k_ => (nat_bnd fun _ => (nat_bnd fun _ => (nat_bnd fun _ => (nat_br nat_leaf nat_leaf))))) (fun ρ x_ t k => (by kernel_rfl)) (fun x_ => by kernel_rfl))
theorem R_LowerFault.p3 : PieceOk R_LowerFault.G (pieceAt (pieces R_LowerFault.G.cks (bodyOf Go.Proofs.Try.f7)) 3).1 (pieceAt (pieces R_LowerFault.G.cks (bodyOf Go.Proofs.Try.f7)) 3).2 :=
  join_ok (s := R_LowerFault.c236869r) (by kernel_rfl) (by kernel_rfl) (sums_of (sh := R_LowerFault.c236869s) (fun ρ x_ k_ => (nat_bnd fun _ => (nat_br nat_leaf nat_leaf))) (fun ρ x_ t k => (by kernel_rfl)) (fun x_ => by kernel_rfl))
theorem R_LowerFault.ok : CalleeOk Go.Proofs.Try.prog 7 R_LowerFault.ce := fn_ok (G := R_LowerFault.G) tab_ok mixed Go.Proofs.Try.func7 ⟨(fns_cons R_Check.ok (fns_cons R_Spares.ok (fns_cons R_rfault.ok fns_nil))), mfns_nil, tab_eqs_ok⟩ (m := 4) (by kernel_rfl) ⟨⟨⟨⟨trivial, R_LowerFault.p0⟩, R_LowerFault.p1⟩, R_LowerFault.p2⟩, R_LowerFault.p3⟩ (by kernel_rfl) R_LowerFault.eq
abbrev lc16 : SD := .one (.ref 1000720 0)
abbrev lc17 : SO := .box [.val (.int .i64), .val (.int .i64), .win 2000722 0]
abbrev lc18 : SD := .one (.aptr 5 0)
abbrev lc19 : SO := .arr 0 false 80 .bool
def circ_one__win.pre : Shape := ⟨[(0, lc12), (1, lc16)], [(1000720, lc17), (2000722, lc10)]⟩
def circ_one__win.post : Shape := ⟨[(0, lc2)], [(1000720, lc17), (2000722, lc10)]⟩
def circ_one__win.c1 {ρ : Type} (o0 : Int) (k_ : Bool → Option ρ) : Option ρ :=
  br (decide (o0 < (1 : Int)))
   (k_ true)
   (k_ (decide (o0 > (6 : Int))))
def circ_one__win.c1s : Shape := ⟨[(0, lc12), (1, lc16), (2, lc6), (4, lc2)], [(2, lc13), (1000720, lc17), (2000722, lc10)]⟩
def circ_one__win.c1x0 : Shape := ⟨[(0, lc12), (1, lc16), (2, lc6), (4, lc2), (17, lc11)], [(2, lc13), (1000720, lc17), (2000722, lc10)]⟩
def circ_one__win.c1r : Ck := Ck.of (T := Bool) circ_one__win.c1s (fun ρ x_ k_ => uP x_ fun o x_ => uP x_ fun t4 x_ => uP x_ fun o0 x_ => uP x_ fun o1 x_ => uP x_ fun o2 x_ => uP x_ fun o3 x_ => uP x_ fun o4 x_ => uP x_ fun o5 x_ => uP x_ fun t10007200 x_ => uP x_ fun t10007201 x_ => uP x_ fun t10007202lo x_ => uP x_ fun t10007202n x_ => uP x_ fun t2000722 x_ => circ_one__win.c1 o0 k_) (fun ρ x_ r_ k_ => uP x_ fun o x_ => uP x_ fun t4 x_ => uP x_ fun o0 x_ => uP x_ fun o1 x_ => uP x_ fun o2 x_ => uP x_ fun o3 x_ => uP x_ fun o4 x_ => uP x_ fun o5 x_ => uP x_ fun t10007200 x_ => uP x_ fun t10007201 x_ => uP x_ fun t10007202lo x_ => uP x_ fun t10007202n x_ => uP x_ fun t2000722 x_ => k_ 0 (Shape.inj circ_one__win.c1x0 (o, t4, r_, o0, o1, o2, o3, o4, o5, t10007200, t10007201, t10007202lo, t10007202n, t2000722, ())))
def circ_one__win.c3 {ρ : Type} (o0 : Int) (o1 : Int) (k_ : Bool → Option ρ) : Option ρ :=
  br (decide (o1 < (0 : Int)))
   (k_ true)
   (br (decide (o1 > (15 : Int)))
     (k_ true)
     (bnd (W.circ_turns o0) fun y =>
      br (!y)
       (k_ (o1 != (0 : Int)))
       (k_ false)))
def circ_one__win.c3s : Shape := ⟨[(0, lc12), (1, lc16), (2, lc6), (4, lc2)], [(2, lc13), (1000720, lc17), (2000722, lc10)]⟩
def circ_one__win.c3x0 : Shape := ⟨[(0, lc12), (1, lc16), (2, lc6), (4, lc2), (36, lc11)], [(2, lc13), (1000720, lc17), (2000722, lc10)]⟩
def circ_one__win.c3r : Ck := Ck.of (T := Bool) circ_one__win.c3s (fun ρ x_ k_ => uP x_ fun o x_ => uP x_ fun t4 x_ => uP x_ fun o0 x_ => uP x_ fun o1 x_ => uP x_ fun o2 x_ => uP x_ fun o3 x_ => uP x_ fun o4 x_ => uP x_ fun o5 x_ => uP x_ fun t10007200 x_ => uP x_ fun t10007201 x_ => uP x_ fun t10007202lo x_ => uP x_ fun t10007202n x_ => uP x_ fun t2000722 x_ => circ_one__win.c3 o0 o1 k_) (fun ρ x_ r_ k_ => uP x_ fun o x_ => uP x_ fun t4 x_ => uP x_ fun o0 x_ => uP x_ fun o1 x_ => uP x_ fun o2 x_ => uP x_ fun o3 x_ => uP x_ fun o4 x_ => uP x_ fun o5 x_ => uP x_ fun t10007200 x_ => uP x_ fun t10007201 x_ => uP x_ fun t10007202lo x_ => uP x_ fun t10007202n x_ => uP x_ fun t2000722 x_ => k_ 0 (Shape.inj circ_one__win.c3x0 (o, t4, r_, o0, o1, o2, o3, o4, o5, t10007200, t10007201, t10007202lo, t10007202n, t2000722, ())))
def circ_one__win.c5 {ρ : Type} (o0 : Int) (o3 : Int) (t10007200 : Int) (k_ : Bool → Option ρ) : Option ρ :=
  br (decide (o3 < (0 : Int)))
   (k_ true)
   (br (decide (o3 ≥ t10007200))
     (k_ true)
     (br (o0 == (1 : Int))
       (k_ (o3 != (0 : Int)))
       (k_ false)))
def circ_one__win.c5s : Shape := ⟨[(0, lc12), (1, lc16), (2, lc6), (4, lc2)], [(2, lc13), (1000720, lc17), (2000722, lc10)]⟩
def circ_one__win.c5x0 : Shape := ⟨[(0, lc12), (1, lc16), (2, lc6), (4, lc2), (58, lc11)], [(2, lc13), (1000720, lc17), (2000722, lc10)]⟩
def circ_one__win.c5r : Ck := Ck.of (T := Bool) circ_one__win.c5s (fun ρ x_ k_ => uP x_ fun o x_ => uP x_ fun t4 x_ => uP x_ fun o0 x_ => uP x_ fun o1 x_ => uP x_ fun o2 x_ => uP x_ fun o3 x_ => uP x_ fun o4 x_ => uP x_ fun o5 x_ => uP x_ fun t10007200 x_ => uP x_ fun t10007201 x_ => uP x_ fun t10007202lo x_ => uP x_ fun t10007202n x_ => uP x_ fun t2000722 x_ => circ_one__win.c5 o0 o3 t10007200 k_) (fun ρ x_ r_ k_ => uP x_ fun o x_ => uP x_ fun t4 x_ => uP x_ fun o0 x_ => uP x_ fun o1 x_ => uP x_ fun o2 x_ => uP x_ fun o3 x_ => uP x_ fun o4 x_ => uP x_ fun o5 x_ => uP x_ fun t10007200 x_ => uP x_ fun t10007201 x_ => uP x_ fun t10007202lo x_ => uP x_ fun t10007202n x_ => uP x_ fun t2000722 x_ => k_ 0 (Shape.inj circ_one__win.c5x0 (o, t4, r_, o0, o1, o2, o3, o4, o5, t10007200, t10007201, t10007202lo, t10007202n, t2000722, ())))
def circ_one__win.c7 {ρ : Type} (o0 : Int) (o2 : List (Int)) (k_ : Bool → Option ρ) : Option ρ :=
  br (decide ((↑(List.length o2) : Int) > (0 : Int)))
   (bnd (W.circ_gate o0) fun y =>
    k_ (!y))
   (k_ false)
def circ_one__win.c7s : Shape := ⟨[(0, lc12), (1, lc16), (2, lc6), (4, lc2)], [(2, lc13), (1000720, lc17), (2000722, lc10)]⟩
def circ_one__win.c7x0 : Shape := ⟨[(0, lc12), (1, lc16), (2, lc6), (4, lc2), (68, lc11)], [(2, lc13), (1000720, lc17), (2000722, lc10)]⟩
def circ_one__win.c7r : Ck := Ck.of (T := Bool) circ_one__win.c7s (fun ρ x_ k_ => uP x_ fun o x_ => uP x_ fun t4 x_ => uP x_ fun o0 x_ => uP x_ fun o1 x_ => uP x_ fun o2 x_ => uP x_ fun o3 x_ => uP x_ fun o4 x_ => uP x_ fun o5 x_ => uP x_ fun t10007200 x_ => uP x_ fun t10007201 x_ => uP x_ fun t10007202lo x_ => uP x_ fun t10007202n x_ => uP x_ fun t2000722 x_ => circ_one__win.c7 o0 o2 k_) (fun ρ x_ r_ k_ => uP x_ fun o x_ => uP x_ fun t4 x_ => uP x_ fun o0 x_ => uP x_ fun o1 x_ => uP x_ fun o2 x_ => uP x_ fun o3 x_ => uP x_ fun o4 x_ => uP x_ fun o5 x_ => uP x_ fun t10007200 x_ => uP x_ fun t10007201 x_ => uP x_ fun t10007202lo x_ => uP x_ fun t10007202n x_ => uP x_ fun t2000722 x_ => k_ 0 (Shape.inj circ_one__win.c7x0 (o, t4, r_, o0, o1, o2, o3, o4, o5, t10007200, t10007201, t10007202lo, t10007202n, t2000722, ())))
def circ_one__win.c14 {ρ : Type} (q : Int) (t10007200 : Int) (k_ : Bool → Option ρ) : Option ρ :=
  br (decide (q < (0 : Int)))
   (k_ true)
   (k_ (decide (q ≥ t10007200)))
def circ_one__win.c14s : Shape := ⟨[(0, lc12), (1, lc16), (2, lc6), (4, lc2), (5, lc18), (7, lc2), (74, lc0), (75, lc2), (76, lc2)], [(2, lc13), (5, lc19), (1000720, lc17), (2000722, lc10)]⟩
def circ_one__win.c14x0 : Shape := ⟨[(0, lc12), (1, lc16), (2, lc6), (4, lc2), (5, lc18), (7, lc2), (74, lc0), (75, lc2), (76, lc2), (80, lc11)], [(2, lc13), (5, lc19), (1000720, lc17), (2000722, lc10)]⟩
def circ_one__win.c14r : Ck := Ck.of (T := Bool) circ_one__win.c14s (fun ρ x_ k_ => uP x_ fun o x_ => uP x_ fun t4 x_ => uP x_ fun q x_ => uP x_ fun t74 x_ => uP x_ fun t75 x_ => uP x_ fun t76 x_ => uP x_ fun o0 x_ => uP x_ fun o1 x_ => uP x_ fun o2 x_ => uP x_ fun o3 x_ => uP x_ fun o4 x_ => uP x_ fun o5 x_ => uP x_ fun seen x_ => uP x_ fun t10007200 x_ => uP x_ fun t10007201 x_ => uP x_ fun t10007202lo x_ => uP x_ fun t10007202n x_ => uP x_ fun t2000722 x_ => circ_one__win.c14 q t10007200 k_) (fun ρ x_ r_ k_ => uP x_ fun o x_ => uP x_ fun t4 x_ => uP x_ fun q x_ => uP x_ fun t74 x_ => uP x_ fun t75 x_ => uP x_ fun t76 x_ => uP x_ fun o0 x_ => uP x_ fun o1 x_ => uP x_ fun o2 x_ => uP x_ fun o3 x_ => uP x_ fun o4 x_ => uP x_ fun o5 x_ => uP x_ fun seen x_ => uP x_ fun t10007200 x_ => uP x_ fun t10007201 x_ => uP x_ fun t10007202lo x_ => uP x_ fun t10007202n x_ => uP x_ fun t2000722 x_ => k_ 0 (Shape.inj circ_one__win.c14x0 (o, t4, q, t74, t75, t76, r_, o0, o1, o2, o3, o4, o5, seen, t10007200, t10007201, t10007202lo, t10007202n, t2000722, ())))
def circ_one__win.c100012 {ρ : Type} (t74 : List (Int)) (t75 : Int) (t76 : Int) (seen : List (Bool)) (t10007200 : Int) (k_ : ((Int) × (List (Bool))) ⊕ (((Int) × (Int) × (List (Bool))) ⊕ ((Int) × (List (Bool)))) → Option ρ) : Option ρ :=
  br (decide (t76 < t75))
   (bnd (idx t74 t76) fun y =>
    bnd (W.circ_one__win.c14 y t10007200 some) fun y_1 =>
    br y_1
     (k_ (.inr (.inl ((10 : Int), t76, seen))))
     (bnd (okIf (decide ((0 : Ty.den (Ty.int IntKind.i64)) ≤ y) && decide (y < (↑(12 : Nat) : Int)))) fun y_2 =>
      bnd (inR (List.length seen) y) fun y_3 =>
      bnd (idx seen y) fun y_4 =>
      br y_4
       (k_ (.inr (.inl ((12 : Int), t76, seen))))
       (bnd (okIf (decide ((0 : Ty.den (Ty.int IntKind.i64)) ≤ y) && decide (y < (↑(12 : Nat) : Int)))) fun y_5 =>
        bnd (inR (List.length seen) y) fun y_6 =>
        bnd (idx seen y) fun y_7 =>
        k_ (.inl ((IntKind.wrap IntKind.i64 (t76 + (1 : Int))), (List.set seen (Int.toNat y) true))))))
   (k_ (.inr (.inr (t76, seen))))
def circ_one__win.c100012s : Shape := ⟨[(0, lc12), (1, lc16), (2, lc6), (4, lc2), (5, lc18), (74, lc0), (75, lc2), (76, lc2)], [(2, lc13), (5, lc19), (1000720, lc17), (2000722, lc10)]⟩
def circ_one__win.c100012x0 : Shape := ⟨[(0, lc12), (1, lc16), (2, lc6), (4, lc2), (5, lc18), (74, lc0), (75, lc2), (76, lc2)], [(2, lc13), (5, lc19), (1000720, lc17), (2000722, lc10)]⟩
def circ_one__win.c100012x1 : Shape := ⟨[(0, lc12), (1, lc16), (2, lc6), (4, lc2), (5, lc18), (74, lc0), (75, lc2), (76, lc2)], [(2, lc13), (5, lc19), (1000720, lc17), (2000722, lc10)]⟩
def circ_one__win.c100012r : Ck := Ck.ofLoop (S := (Int) × (List (Bool))) (T := ((Int) × (Int) × (List (Bool))) ⊕ ((Int) × (List (Bool)))) circ_one__win.c100012s (fun x_ => uP x_ fun o x_ => uP x_ fun t4 x_ => uP x_ fun t74 x_ => uP x_ fun t75 x_ => uP x_ fun t76 x_ => uP x_ fun o0 x_ => uP x_ fun o1 x_ => uP x_ fun o2 x_ => uP x_ fun o3 x_ => uP x_ fun o4 x_ => uP x_ fun o5 x_ => uP x_ fun seen x_ => uP x_ fun t10007200 x_ => uP x_ fun t10007201 x_ => uP x_ fun t10007202lo x_ => uP x_ fun t10007202n x_ => uP x_ fun t2000722 x_ => (t76, seen)) (fun ρ x_ s_ k_ => uP x_ fun o x_ => uP x_ fun t4 x_ => uP x_ fun t74 x_ => uP x_ fun t75 x_ => uP x_ fun t76 x_ => uP x_ fun o0 x_ => uP x_ fun o1 x_ => uP x_ fun o2 x_ => uP x_ fun o3 x_ => uP x_ fun o4 x_ => uP x_ fun o5 x_ => uP x_ fun seen x_ => uP x_ fun t10007200 x_ => uP x_ fun t10007201 x_ => uP x_ fun t10007202lo x_ => uP x_ fun t10007202n x_ => uP x_ fun t2000722 x_ => circ_one__win.c100012 t74 t75 s_.1 s_.2 t10007200 k_) (fun ρ x_ r_ k_ => uP x_ fun o x_ => uP x_ fun t4 x_ => uP x_ fun t74 x_ => uP x_ fun t75 x_ => uP x_ fun t76 x_ => uP x_ fun o0 x_ => uP x_ fun o1 x_ => uP x_ fun o2 x_ => uP x_ fun o3 x_ => uP x_ fun o4 x_ => uP x_ fun o5 x_ => uP x_ fun seen x_ => uP x_ fun t10007200 x_ => uP x_ fun t10007201 x_ => uP x_ fun t10007202lo x_ => uP x_ fun t10007202n x_ => uP x_ fun t2000722 x_ => sel r_ (fun r_ => k_ 1 (Shape.inj circ_one__win.c100012x0 (o, r_.1, t74, t75, r_.2.1, o0, o1, o2, o3, o4, o5, r_.2.2, t10007200, t10007201, t10007202lo, t10007202n, t2000722, ()))) (fun r_ => k_ 2 (Shape.inj circ_one__win.c100012x1 (o, t4, t74, t75, r_.1, o0, o1, o2, o3, o4, o5, r_.2, t10007200, t10007201, t10007202lo, t10007202n, t2000722, ()))))
def circ_one__win.c20 {ρ : Type} (o0 : Int) (o4 : Int) (t10007201 : Int) (k_ : Bool → Option ρ) : Option ρ :=
  br (o0 == (5 : Int))
   (br (decide (o4 < (0 : Int)))
     (k_ true)
     (br (decide (o4 ≥ t10007201))
       (k_ true)
       (br (o0 != (5 : Int))
         (k_ (o4 != (0 : Int)))
         (k_ false))))
   (br (o0 != (5 : Int))
     (k_ (o4 != (0 : Int)))
     (k_ false))
def circ_one__win.c20s : Shape := ⟨[(0, lc12), (1, lc16), (2, lc6), (4, lc2), (5, lc18), (74, lc0), (75, lc2), (76, lc2)], [(2, lc13), (5, lc19), (1000720, lc17), (2000722, lc10)]⟩
def circ_one__win.c20x0 : Shape := ⟨[(0, lc12), (1, lc16), (2, lc6), (4, lc2), (5, lc18), (74, lc0), (75, lc2), (76, lc2), (124, lc11)], [(2, lc13), (5, lc19), (1000720, lc17), (2000722, lc10)]⟩
def circ_one__win.c20r : Ck := Ck.of (T := Bool) circ_one__win.c20s (fun ρ x_ k_ => uP x_ fun o x_ => uP x_ fun t4 x_ => uP x_ fun t74 x_ => uP x_ fun t75 x_ => uP x_ fun t76 x_ => uP x_ fun o0 x_ => uP x_ fun o1 x_ => uP x_ fun o2 x_ => uP x_ fun o3 x_ => uP x_ fun o4 x_ => uP x_ fun o5 x_ => uP x_ fun seen x_ => uP x_ fun t10007200 x_ => uP x_ fun t10007201 x_ => uP x_ fun t10007202lo x_ => uP x_ fun t10007202n x_ => uP x_ fun t2000722 x_ => circ_one__win.c20 o0 o4 t10007201 k_) (fun ρ x_ r_ k_ => uP x_ fun o x_ => uP x_ fun t4 x_ => uP x_ fun t74 x_ => uP x_ fun t75 x_ => uP x_ fun t76 x_ => uP x_ fun o0 x_ => uP x_ fun o1 x_ => uP x_ fun o2 x_ => uP x_ fun o3 x_ => uP x_ fun o4 x_ => uP x_ fun o5 x_ => uP x_ fun seen x_ => uP x_ fun t10007200 x_ => uP x_ fun t10007201 x_ => uP x_ fun t10007202lo x_ => uP x_ fun t10007202n x_ => uP x_ fun t2000722 x_ => k_ 0 (Shape.inj circ_one__win.c20x0 (o, t4, t74, t75, t76, r_, o0, o1, o2, o3, o4, o5, seen, t10007200, t10007201, t10007202lo, t10007202n, t2000722, ())))
def circ_one__win.c27 {ρ : Type} (v : Int) (t10007201 : Int) (k_ : Bool → Option ρ) : Option ρ :=
  br (v == (0 : Int))
   (k_ true)
   (br (decide (v > t10007201))
     (k_ true)
     (k_ (decide (v < IntKind.wrap IntKind.i64 ((0 : Int) - t10007201)))))
def circ_one__win.c27s : Shape := ⟨[(0, lc12), (1, lc16), (2, lc6), (4, lc2), (5, lc18), (9, lc2), (74, lc0), (75, lc2), (76, lc2), (130, lc0), (131, lc2), (132, lc2)], [(2, lc13), (5, lc19), (1000720, lc17), (2000722, lc10)]⟩
def circ_one__win.c27x0 : Shape := ⟨[(0, lc12), (1, lc16), (2, lc6), (4, lc2), (5, lc18), (9, lc2), (74, lc0), (75, lc2), (76, lc2), (130, lc0), (131, lc2), (132, lc2), (154, lc11)], [(2, lc13), (5, lc19), (1000720, lc17), (2000722, lc10)]⟩
def circ_one__win.c27r : Ck := Ck.of (T := Bool) circ_one__win.c27s (fun ρ x_ k_ => uP x_ fun o x_ => uP x_ fun t4 x_ => uP x_ fun v x_ => uP x_ fun t74 x_ => uP x_ fun t75 x_ => uP x_ fun t76 x_ => uP x_ fun t130 x_ => uP x_ fun t131 x_ => uP x_ fun t132 x_ => uP x_ fun o0 x_ => uP x_ fun o1 x_ => uP x_ fun o2 x_ => uP x_ fun o3 x_ => uP x_ fun o4 x_ => uP x_ fun o5 x_ => uP x_ fun seen x_ => uP x_ fun t10007200 x_ => uP x_ fun t10007201 x_ => uP x_ fun t10007202lo x_ => uP x_ fun t10007202n x_ => uP x_ fun t2000722 x_ => circ_one__win.c27 v t10007201 k_) (fun ρ x_ r_ k_ => uP x_ fun o x_ => uP x_ fun t4 x_ => uP x_ fun v x_ => uP x_ fun t74 x_ => uP x_ fun t75 x_ => uP x_ fun t76 x_ => uP x_ fun t130 x_ => uP x_ fun t131 x_ => uP x_ fun t132 x_ => uP x_ fun o0 x_ => uP x_ fun o1 x_ => uP x_ fun o2 x_ => uP x_ fun o3 x_ => uP x_ fun o4 x_ => uP x_ fun o5 x_ => uP x_ fun seen x_ => uP x_ fun t10007200 x_ => uP x_ fun t10007201 x_ => uP x_ fun t10007202lo x_ => uP x_ fun t10007202n x_ => uP x_ fun t2000722 x_ => k_ 0 (Shape.inj circ_one__win.c27x0 (o, t4, v, t74, t75, t76, t130, t131, t132, r_, o0, o1, o2, o3, o4, o5, seen, t10007200, t10007201, t10007202lo, t10007202n, t2000722, ())))
def circ_one__win.c100025 {ρ : Type} (t130 : List (Int)) (t131 : Int) (t132 : Int) (t10007201 : Int) (k_ : (Int) ⊕ ((Int) ⊕ (Int)) → Option ρ) : Option ρ :=
  br (decide (t132 < t131))
   (bnd (idx t130 t132) fun y =>
    bnd (W.circ_one__win.c27 y t10007201 some) fun y_1 =>
    br y_1
     (k_ (.inr (.inl t132)))
     (k_ (.inl (IntKind.wrap IntKind.i64 (t132 + (1 : Int))))))
   (k_ (.inr (.inr t132)))
def circ_one__win.c100025s : Shape := ⟨[(0, lc12), (1, lc16), (2, lc6), (4, lc2), (5, lc18), (74, lc0), (75, lc2), (76, lc2), (130, lc0), (131, lc2), (132, lc2)], [(2, lc13), (5, lc19), (1000720, lc17), (2000722, lc10)]⟩
def circ_one__win.c100025x0 : Shape := ⟨[(0, lc12), (1, lc16), (2, lc6), (4, lc2), (5, lc18), (74, lc0), (75, lc2), (76, lc2), (130, lc0), (131, lc2), (132, lc2)], [(2, lc13), (5, lc19), (1000720, lc17), (2000722, lc10)]⟩
def circ_one__win.c100025x1 : Shape := ⟨[(0, lc12), (1, lc16), (2, lc6), (4, lc2), (5, lc18), (74, lc0), (75, lc2), (76, lc2), (130, lc0), (131, lc2), (132, lc2)], [(2, lc13), (5, lc19), (1000720, lc17), (2000722, lc10)]⟩
def circ_one__win.c100025r : Ck := Ck.ofLoop (S := Int) (T := (Int) ⊕ (Int)) circ_one__win.c100025s (fun x_ => uP x_ fun o x_ => uP x_ fun t4 x_ => uP x_ fun t74 x_ => uP x_ fun t75 x_ => uP x_ fun t76 x_ => uP x_ fun t130 x_ => uP x_ fun t131 x_ => uP x_ fun t132 x_ => uP x_ fun o0 x_ => uP x_ fun o1 x_ => uP x_ fun o2 x_ => uP x_ fun o3 x_ => uP x_ fun o4 x_ => uP x_ fun o5 x_ => uP x_ fun seen x_ => uP x_ fun t10007200 x_ => uP x_ fun t10007201 x_ => uP x_ fun t10007202lo x_ => uP x_ fun t10007202n x_ => uP x_ fun t2000722 x_ => t132) (fun ρ x_ s_ k_ => uP x_ fun o x_ => uP x_ fun t4 x_ => uP x_ fun t74 x_ => uP x_ fun t75 x_ => uP x_ fun t76 x_ => uP x_ fun t130 x_ => uP x_ fun t131 x_ => uP x_ fun t132 x_ => uP x_ fun o0 x_ => uP x_ fun o1 x_ => uP x_ fun o2 x_ => uP x_ fun o3 x_ => uP x_ fun o4 x_ => uP x_ fun o5 x_ => uP x_ fun seen x_ => uP x_ fun t10007200 x_ => uP x_ fun t10007201 x_ => uP x_ fun t10007202lo x_ => uP x_ fun t10007202n x_ => uP x_ fun t2000722 x_ => circ_one__win.c100025 t130 t131 s_ t10007201 k_) (fun ρ x_ r_ k_ => uP x_ fun o x_ => uP x_ fun t4 x_ => uP x_ fun t74 x_ => uP x_ fun t75 x_ => uP x_ fun t76 x_ => uP x_ fun t130 x_ => uP x_ fun t131 x_ => uP x_ fun t132 x_ => uP x_ fun o0 x_ => uP x_ fun o1 x_ => uP x_ fun o2 x_ => uP x_ fun o3 x_ => uP x_ fun o4 x_ => uP x_ fun o5 x_ => uP x_ fun seen x_ => uP x_ fun t10007200 x_ => uP x_ fun t10007201 x_ => uP x_ fun t10007202lo x_ => uP x_ fun t10007202n x_ => uP x_ fun t2000722 x_ => sel r_ (fun r_ => k_ 1 (Shape.inj circ_one__win.c100025x0 (o, (14 : Int), t74, t75, t76, t130, t131, r_, o0, o1, o2, o3, o4, o5, seen, t10007200, t10007201, t10007202lo, t10007202n, t2000722, ()))) (fun r_ => k_ 5 (Shape.inj circ_one__win.c100025x1 (o, t4, t74, t75, t76, t130, t131, r_, o0, o1, o2, o3, o4, o5, seen, t10007200, t10007201, t10007202lo, t10007202n, t2000722, ()))))
def circ_one__win (o : (Int) × ((Int) × ((List Int) × ((Int) × ((Int) × (List Int)))))) (t10007200 : Int) (t10007201 : Int) (t10007202lo : Int) (t10007202n : Int) (t2000722 : List ((Int) × ((Int) × ((List Int) × ((Int) × ((Int) × (List Int))))))) : Option ((Int) × (Int) × (Int) × (Int) × (Int) × (List ((Int) × ((Int) × ((List Int) × ((Int) × ((Int) × (List Int))))))) × Unit) :=
  bnd (W.circ_one__win.c1 (Prod.fst o) some) fun y =>
  br y
   (some ((8 : Int), t10007200, t10007201, t10007202lo, t10007202n, t2000722, ()))
   (bnd (W.circ_one__win.c3 (Prod.fst o) (Prod.fst (Prod.snd o)) some) fun y_1 =>
    br y_1
     (some ((9 : Int), t10007200, t10007201, t10007202lo, t10007202n, t2000722, ()))
     (bnd (W.circ_one__win.c5 (Prod.fst o) (Prod.fst (Prod.snd (Prod.snd (Prod.snd o)))) t10007200 some) fun y_2 =>
      br y_2
       (some ((10 : Int), t10007200, t10007201, t10007202lo, t10007202n, t2000722, ()))
       (bnd (W.circ_one__win.c7 (Prod.fst o) (Prod.fst (Prod.snd (Prod.snd o))) some) fun y_3 =>
        br y_3
         (some ((11 : Int), t10007200, t10007201, t10007202lo, t10007202n, t2000722, ()))
         (bnd (okIf (decide ((0 : Ty.den (Ty.int IntKind.i64)) ≤ Prod.fst (Prod.snd (Prod.snd (Prod.snd o)))) && decide (Prod.fst (Prod.snd (Prod.snd (Prod.snd o))) < (↑(12 : Nat) : Int)))) fun y_4 =>
          bnd (inR (List.length (List.replicate (12 : Nat) false)) (Prod.fst (Prod.snd (Prod.snd (Prod.snd o))))) fun y_5 =>
          bnd (idx (List.replicate (12 : Nat) false) (Prod.fst (Prod.snd (Prod.snd (Prod.snd o))))) fun y_6 =>
          bnd (iter (fun s ↦ W.circ_one__win.c100012 (Prod.fst (Prod.snd (Prod.snd o))) (↑(List.length (Prod.fst (Prod.snd (Prod.snd o)))) : Int) (Prod.fst s) (Prod.snd s) t10007200 some) ((0 : Int), List.set (List.replicate (12 : Nat) false) (Int.toNat (Prod.fst (Prod.snd (Prod.snd (Prod.snd o))))) true)) fun y_7 =>
          sel y_7
           (fun u => some (Prod.fst u, t10007200, t10007201, t10007202lo, t10007202n, t2000722, ()))
           (fun v => bnd (W.circ_one__win.c20 (Prod.fst o) (Prod.fst (Prod.snd (Prod.snd (Prod.snd (Prod.snd o))))) t10007201 some) fun y_8 =>
            br y_8
             (some ((13 : Int), t10007200, t10007201, t10007202lo, t10007202n, t2000722, ()))
             (br (decide ((↑(List.length (Prod.snd (Prod.snd (Prod.snd (Prod.snd (Prod.snd o)))))) : Int) > (24 : Int)))
               (some ((14 : Int), t10007200, t10007201, t10007202lo, t10007202n, t2000722, ()))
               (bnd (iter (fun s ↦ W.circ_one__win.c100025 (Prod.snd (Prod.snd (Prod.snd (Prod.snd (Prod.snd o))))) (↑(List.length (Prod.snd (Prod.snd (Prod.snd (Prod.snd (Prod.snd o)))))) : Int) s t10007201 some) (0 : Int)) fun y_9 =>
                sel y_9
                 (fun u_1 => some ((14 : Int), t10007200, t10007201, t10007202lo, t10007202n, t2000722, ()))
                 (fun v_1 => some ((0 : Int), t10007200, t10007201, t10007202lo, t10007202n, t2000722, ())))))))))
def circ_one__win.mc : MCallee := ⟨30, circ_one__win.pre, circ_one__win.post, fun x_ => circ_one__win x_.1 x_.2.1 x_.2.2.1 x_.2.2.2.1 x_.2.2.2.2.1 x_.2.2.2.2.2.1⟩
def circ_one__win.G : Env := ⟨156, tab, [(45, circ_turns.ce), (46, circ_gate.ce)], [0, 1, 2, 4, 5, 7, 9, 17, 36, 58, 68, 74, 75, 76, 77, 80, 91, 124, 128, 130, 131, 132, 133, 154], [5, 69, 1000720, 2000722], [(20, [⟨[], [], [], []⟩, ⟨[0], [], [], []⟩, ⟨[1, 0], [], [], []⟩, ⟨[2, 1, 0], [], [], []⟩, ⟨[3, 2, 1, 0], [], [], []⟩, ⟨[4, 3, 2, 1, 0], [], [], []⟩, ⟨[5, 4, 3, 2, 1, 0], [], [], []⟩, ⟨[6, 5, 4, 3, 2, 1, 0], [], [], []⟩, ⟨[7, 6, 5, 4, 3, 2, 1, 0], [], [108, 109, 110, 111], []⟩, ⟨[8, 7, 6, 5, 4, 3, 2, 1, 0], [], [108, 109, 110, 111], []⟩, ⟨[7, 6, 5, 4, 3, 2, 1, 0], [], [106, 107], []⟩, ⟨[10, 7, 6, 5, 4, 3, 2, 1, 0], [], [106, 107], []⟩, ⟨[11, 10, 7, 6, 5, 4, 3, 2, 1, 0], [], [106, 107], []⟩, ⟨[12, 11, 10, 7, 6, 5, 4, 3, 2, 1, 0], [], [106, 107], []⟩, ⟨[9, 8, 7, 6, 5, 4, 3, 2, 1, 0, 13, 12, 11, 10], [], [], []⟩, ⟨[7, 6, 5, 4, 3, 2, 1, 0, 14, 9, 8, 13, 12, 11, 10], [], [], []⟩, ⟨[3, 2, 1, 0, 15, 7, 6, 5, 4, 14, 9, 8, 13, 12, 11, 10], [], [], []⟩, ⟨[16, 3, 2, 1, 0, 15, 7, 6, 5, 4, 14, 9, 8, 13, 12, 11, 10], [], [], []⟩, ⟨[17, 16, 3, 2, 1, 0, 15, 7, 6, 5, 4, 14, 9, 8, 13, 12, 11, 10], [], [], []⟩, ⟨[18, 17, 16, 3, 2, 1, 0, 15, 7, 6, 5, 4, 14, 9, 8, 13, 12, 11, 10], [], [], []⟩, ⟨[19, 18, 17, 16, 3, 2, 1, 0, 15, 7, 6, 5, 4, 14, 9, 8, 13, 12, 11, 10], [], [], []⟩, ⟨[20, 19, 18, 17, 16, 3, 2, 1, 0, 15, 7, 6, 5, 4, 14, 9, 8, 13, 12, 11, 10], [], [], []⟩, ⟨[21, 20, 19, 18, 17, 16, 3, 2, 1, 0, 15, 7, 6, 5, 4, 14, 9, 8, 13, 12, 11, 10], [], [], []⟩, ⟨[22, 21, 20, 19, 18, 17, 16, 3, 2, 1, 0, 15, 7, 6, 5, 4, 14, 9, 8, 13, 12, 11, 10], [], [], []⟩, ⟨[23, 22, 21, 20, 19, 18, 17, 16, 3, 2, 1, 0, 15, 7, 6, 5, 4, 14, 9, 8, 13, 12, 11, 10], [], [], []⟩, ⟨[21, 20, 19, 18, 17, 16, 3, 2, 1, 0, 15, 7, 6, 5, 4, 14, 9, 8, 13, 12, 11, 10, 24, 23, 22], [], [], []⟩, ⟨[17, 16, 3, 2, 1, 0, 15, 7, 6, 5, 4, 14, 9, 8, 13, 12, 11, 10, 25, 21, 20, 19, 18, 24, 23, 22], [], [], []⟩]),
  (5, [⟨[], [], [], []⟩, ⟨[0], [], [], []⟩, ⟨[1, 0], [], [], []⟩, ⟨[2, 1, 0], [], [], []⟩, ⟨[3, 2, 1, 0], [], [43, 44, 45, 46], []⟩, ⟨[4, 3, 2, 1, 0], [], [43, 44, 45, 46], []⟩, ⟨[3, 2, 1, 0], [], [41, 42], []⟩, ⟨[6, 3, 2, 1, 0], [], [41, 42], []⟩, ⟨[7, 6, 3, 2, 1, 0], [], [41, 42], []⟩, ⟨[8, 7, 6, 3, 2, 1, 0], [], [41, 42], []⟩, ⟨[5, 4, 3, 2, 1, 0, 9, 8, 7, 6], [], [], []⟩, ⟨[3, 2, 1, 0, 10, 5, 4, 9, 8, 7, 6], [], [], []⟩, ⟨[11, 3, 2, 1, 0, 10, 5, 4, 9, 8, 7, 6], [], [], []⟩, ⟨[12, 11, 3, 2, 1, 0, 10, 5, 4, 9, 8, 7, 6], [], [], []⟩, ⟨[13, 12, 11, 3, 2, 1, 0, 10, 5, 4, 9, 8, 7, 6], [], [], []⟩, ⟨[14, 13, 12, 11, 3, 2, 1, 0, 10, 5, 4, 9, 8, 7, 6], [], [], []⟩, ⟨[15, 14, 13, 12, 11, 3, 2, 1, 0, 10, 5, 4, 9, 8, 7, 6], [], [], []⟩, ⟨[16, 15, 14, 13, 12, 11, 3, 2, 1, 0, 10, 5, 4, 9, 8, 7, 6], [], [], []⟩, ⟨[17, 16, 15, 14, 13, 12, 11, 3, 2, 1, 0, 10, 5, 4, 9, 8, 7, 6], [], [], []⟩, ⟨[18, 17, 16, 15, 14, 13, 12, 11, 3, 2, 1, 0, 10, 5, 4, 9, 8, 7, 6], [], [], []⟩, ⟨[16, 15, 14, 13, 12, 11, 3, 2, 1, 0, 10, 5, 4, 9, 8, 7, 6, 19, 18, 17], [], [], []⟩, ⟨[12, 11, 3, 2, 1, 0, 10, 5, 4, 9, 8, 7, 6, 20, 16, 15, 14, 13, 19, 18, 17], [], [], []⟩])], [(100025, circ_one__win.c100025r), (27, circ_one__win.c27r), (20, circ_one__win.c20r), (100012, circ_one__win.c100012r), (14, circ_one__win.c14r), (7, circ_one__win.c7r), (5, circ_one__win.c5r), (3, circ_one__win.c3r), (1, circ_one__win.c1r)], [], tab_eqs⟩
theorem circ_one__win.eq (x_ : densU circ_one__win.mc.pre.tys) : denM circ_one__win.G Go.Proofs.Try.f30 circ_one__win.mc.pre circ_one__win.mc.post x_ = circ_one__win.mc.F x_ := by kernel_rfl
theorem circ_one__win.p0 : PieceOk circ_one__win.G (pieceAt (pieces circ_one__win.G.cks (bodyOf Go.Proofs.Try.f30)) 0).1 (pieceAt (pieces circ_one__win.G.cks (bodyOf Go.Proofs.Try.f30)) 0).2 :=
  region_ok (s := circ_one__win.c1r) (by kernel_rfl) (by kernel_rfl) (sums_of (sh := circ_one__win.c1s) (fun ρ x_ k_ => (nat_br nat_leaf nat_leaf)) (fun ρ x_ t k => (by kernel_rfl)) (fun x_ => by kernel_rfl))
theorem circ_one__win.p1 : PieceOk circ_one__win.G (pieceAt (pieces circ_one__win.G.cks (bodyOf Go.Proofs.Try.f30)) 1).1 (pieceAt (pieces circ_one__win.G.cks (bodyOf Go.Proofs.Try.f30)) 1).2 :=
  region_ok (s := circ_one__win.c3r) (by kernel_rfl) (by kernel_rfl) (sums_of (sh := circ_one__win.c3s) (fun ρ x_ k_ => (nat_br nat_leaf (nat_br nat_leaf (nat_bnd fun _ => (nat_br nat_leaf nat_leaf))))) (fun ρ x_ t k => (by kernel_rfl)) (fun x_ => by kernel_rfl))
theorem circ_one__win.p2 : PieceOk circ_one__win.G (pieceAt (pieces circ_one__win.G.cks (bodyOf Go.Proofs.Try.f30)) 2).1 (pieceAt (pieces circ_one__win.G.cks (bodyOf Go.Proofs.Try.f30)) 2).2 :=
  region_ok (s := circ_one__win.c5r) (by kernel_rfl) (by kernel_rfl) (sums_of (sh := circ_one__win.c5s) (fun ρ x_ k_ => (nat_br nat_leaf (nat_br nat_leaf (nat_br nat_leaf nat_leaf)))) (fun ρ x_ t k => (by kernel_rfl)) (fun x_ => by kernel_rfl))
theorem circ_one__win.p3 : PieceOk circ_one__win.G (pieceAt (pieces circ_one__win.G.cks (bodyOf Go.Proofs.Try.f30)) 3).1 (pieceAt (pieces circ_one__win.G.cks (bodyOf Go.Proofs.Try.f30)) 3).2 :=
  region_ok (s := circ_one__win.c7r) (by kernel_rfl) (by kernel_rfl) (sums_of (sh := circ_one__win.c7s) (fun ρ x_ k_ => (nat_br (nat_bnd fun _ => nat_leaf) nat_leaf)) (fun ρ x_ t k => (by kernel_rfl)) (fun x_ => by kernel_rfl))
theorem circ_one__win.p4 : PieceOk circ_one__win.G (pieceAt (pieces circ_one__win.G.cks (bodyOf Go.Proofs.Try.f30)) 4).1 (pieceAt (pieces circ_one__win.G.cks (bodyOf Go.Proofs.Try.f30)) 4).2 :=
  loop_ok (s := circ_one__win.c100012r) (by kernel_rfl) (by kernel_rfl) (loops_of (sh := circ_one__win.c100012s) (I := fun x_ s_ => (x_.1, x_.2.1, x_.2.2.1, x_.2.2.2.1, s_.1, x_.2.2.2.2.2.1, x_.2.2.2.2.2.2.1, x_.2.2.2.2.2.2.2.1, x_.2.2.2.2.2.2.2.2.1, x_.2.2.2.2.2.2.2.2.2.1, x_.2.2.2.2.2.2.2.2.2.2.1, s_.2, x_.2.2.2.2.2.2.2.2.2.2.2.2.1, x_.2.2.2.2.2.2.2.2.2.2.2.2.2.1, x_.2.2.2.2.2.2.2.2.2.2.2.2.2.2.1, x_.2.2.2.2.2.2.2.2.2.2.2.2.2.2.2.1, x_.2.2.2.2.2.2.2.2.2.2.2.2.2.2.2.2.1, ())) (fun x_ => rfl) (fun ρ x_ s_ k_ => (nat_br (nat_bnd fun _ => (nat_bnd fun _ => (nat_br nat_leaf (nat_bnd fun _ => (nat_bnd fun _ => (nat_bnd fun _ => (nat_br nat_leaf (nat_bnd fun _ => (nat_bnd fun _ => (nat_bnd fun _ => nat_leaf)))))))))) nat_leaf)) (fun ρ x_ t k => (nat_sel (fun _ => (by kernel_rfl)) (fun _ => (by kernel_rfl)))) (fun x_ s => by kernel_rfl))
theorem circ_one__win.p5 : PieceOk circ_one__win.G (pieceAt (pieces circ_one__win.G.cks (bodyOf Go.Proofs.Try.f30)) 5).1 (pieceAt (pieces circ_one__win.G.cks (bodyOf Go.Proofs.Try.f30)) 5).2 :=
  region_ok (s := circ_one__win.c14r) (by kernel_rfl) (by kernel_rfl) (sums_of (sh := circ_one__win.c14s) (fun ρ x_ k_ => (nat_br nat_leaf nat_leaf)) (fun ρ x_ t k => (by kernel_rfl)) (fun x_ => by kernel_rfl))
theorem circ_one__win.p6 : PieceOk circ_one__win.G (pieceAt (pieces circ_one__win.G.cks (bodyOf Go.Proofs.Try.f30)) 6).1 (pieceAt (pieces circ_one__win.G.cks (bodyOf Go.Proofs.Try.f30)) 6).2 :=
  region_ok (s := circ_one__win.c20r) (by kernel_rfl) (by kernel_rfl) (sums_of (sh := circ_one__win.c20s) (fun ρ x_ k_ => (nat_br (nat_br nat_leaf (nat_br nat_leaf (nat_br nat_leaf nat_leaf))) (nat_br nat_leaf nat_leaf))) (fun ρ x_ t k => (by kernel_rfl)) (fun x_ => by kernel_rfl))
theorem circ_one__win.p7 : PieceOk circ_one__win.G (pieceAt (pieces circ_one__win.G.cks (bodyOf Go.Proofs.Try.f30)) 7).1 (pieceAt (pieces circ_one__win.G.cks (bodyOf Go.Proofs.Try.f30)) 7).2 :=
  loop_ok (s := circ_one__win.c100025r) (by kernel_rfl) (by kernel_rfl) (loops_of (sh := circ_one__win.c100025s) (I := fun x_ s_ => (x_.1, x_.2.1, x_.2.2.1, x_.2.2.2.1, x_.2.2.2.2.1, x_.2.2.2.2.2.1, x_.2.2.2.2.2.2.1, s_, x_.2.2.2.2.2.2.2.2.1, x_.2.2.2.2.2.2.2.2.2.1, x_.2.2.2.2.2.2.2.2.2.2.1, x_.2.2.2.2.2.2.2.2.2.2.2.1, x_.2.2.2.2.2.2.2.2.2.2.2.2.1, x_.2.2.2.2.2.2.2.2.2.2.2.2.2.1, x_.2.2.2.2.2.2.2.2.2.2.2.2.2.2.1, x_.2.2.2.2.2.2.2.2.2.2.2.2.2.2.2.1, x_.2.2.2.2.2.2.2.2.2.2.2.2.2.2.2.2.1, x_.2.2.2.2.2.2.2.2.2.2.2.2.2.2.2.2.2.1, x_.2.2.2.2.2.2.2.2.2.2.2.2.2.2.2.2.2.2.1, x_.2.2.2.2.2.2.2.2.2.2.2.2.2.2.2.2.2.2.2.1, ())) (fun x_ => rfl) (fun ρ x_ s_ k_ => (nat_br (nat_bnd fun _ => (nat_bnd fun _ => (nat_br nat_leaf nat_leaf))) nat_leaf)) (fun ρ x_ t k => (nat_sel (fun _ => (by kernel_rfl)) (fun _ => (by kernel_rfl)))) (fun x_ s => by kernel_rfl))
theorem circ_one__win.p8 : PieceOk circ_one__win.G (pieceAt (pieces circ_one__win.G.cks (bodyOf Go.Proofs.Try.f30)) 8).1 (pieceAt (pieces circ_one__win.G.cks (bodyOf Go.Proofs.Try.f30)) 8).2 :=
  region_ok (s := circ_one__win.c27r) (by kernel_rfl) (by kernel_rfl) (sums_of (sh := circ_one__win.c27s) (fun ρ x_ k_ => (nat_br nat_leaf (nat_br nat_leaf nat_leaf))) (fun ρ x_ t k => (by kernel_rfl)) (fun x_ => by kernel_rfl))
theorem circ_one__win.ok : MOk Go.Proofs.Try.prog 30 circ_one__win.mc := fnm_ok (G := circ_one__win.G) tab_ok mixed Go.Proofs.Try.func30 ⟨(fns_cons circ_turns.ok (fns_cons circ_gate.ok fns_nil)), mfns_nil, tab_eqs_ok⟩ (m := 9) (by kernel_rfl) ⟨⟨⟨⟨⟨⟨⟨⟨⟨trivial, circ_one__win.p0⟩, circ_one__win.p1⟩, circ_one__win.p2⟩, circ_one__win.p3⟩, circ_one__win.p4⟩, circ_one__win.p5⟩, circ_one__win.p6⟩, circ_one__win.p7⟩, circ_one__win.p8⟩ (by kernel_rfl) circ_one__win.eq
abbrev lc20 : SD := .agg [.val (.int .i64), .val (.int .i64), .win 2000702 0]
abbrev lc21 : SD := .one (.val (.st (.pair (.int .i64) (.int .i64))))
abbrev lc22 : SO := .box [.val (.int .i64), .val (.int .i64), .win 2000702 0]
abbrev lc23 : SD := .one (.win 2000702 0)
def circ_Check__win.pre : Shape := ⟨[(0, lc20)], [(2000702, lc10)]⟩
def circ_Check__win.post : Shape := ⟨[(0, lc21)], [(2000702, lc10)]⟩
def circ_Check__win.c1 {ρ : Type} (c0_1 : Int) (k_ : Bool → Option ρ) : Option ρ :=
  br (decide (c0_1 < (1 : Int)))
   (k_ true)
   (k_ (decide (c0_1 > (12 : Int))))
def circ_Check__win.c1s : Shape := ⟨[(0, lc20), (1, lc5), (2, lc6)], [(1, lc22), (2, lc14), (2000702, lc10)]⟩
def circ_Check__win.c1x0 : Shape := ⟨[(0, lc20), (1, lc5), (2, lc6), (6, lc11)], [(1, lc22), (2, lc14), (2000702, lc10)]⟩
def circ_Check__win.c1r : Ck := Ck.of (T := Bool) circ_Check__win.c1s (fun ρ x_ k_ => uP x_ fun c0 x_ => uP x_ fun c1 x_ => uP x_ fun c2lo x_ => uP x_ fun c2n x_ => uP x_ fun c0_1 x_ => uP x_ fun c1_1 x_ => uP x_ fun c2lo_1 x_ => uP x_ fun c2n_1 x_ => uP x_ fun t20 x_ => uP x_ fun t21 x_ => uP x_ fun t2000702 x_ => circ_Check__win.c1 c0_1 k_) (fun ρ x_ r_ k_ => uP x_ fun c0 x_ => uP x_ fun c1 x_ => uP x_ fun c2lo x_ => uP x_ fun c2n x_ => uP x_ fun c0_1 x_ => uP x_ fun c1_1 x_ => uP x_ fun c2lo_1 x_ => uP x_ fun c2n_1 x_ => uP x_ fun t20 x_ => uP x_ fun t21 x_ => uP x_ fun t2000702 x_ => k_ 0 (Shape.inj circ_Check__win.c1x0 (c0, c1, c2lo, c2n, r_, c0_1, c1_1, c2lo_1, c2n_1, t20, t21, t2000702, ())))
def circ_Check__win.c3 {ρ : Type} (c1_1 : Int) (k_ : Bool → Option ρ) : Option ρ :=
  br (decide (c1_1 < (0 : Int)))
   (k_ true)
   (k_ (decide (c1_1 > (12 : Int))))
def circ_Check__win.c3s : Shape := ⟨[(0, lc20), (1, lc5), (2, lc6)], [(1, lc22), (2, lc14), (2000702, lc10)]⟩
def circ_Check__win.c3x0 : Shape := ⟨[(0, lc20), (1, lc5), (2, lc6), (16, lc11)], [(1, lc22), (2, lc14), (2000702, lc10)]⟩
def circ_Check__win.c3r : Ck := Ck.of (T := Bool) circ_Check__win.c3s (fun ρ x_ k_ => uP x_ fun c0 x_ => uP x_ fun c1 x_ => uP x_ fun c2lo x_ => uP x_ fun c2n x_ => uP x_ fun c0_1 x_ => uP x_ fun c1_1 x_ => uP x_ fun c2lo_1 x_ => uP x_ fun c2n_1 x_ => uP x_ fun t20 x_ => uP x_ fun t21 x_ => uP x_ fun t2000702 x_ => circ_Check__win.c3 c1_1 k_) (fun ρ x_ r_ k_ => uP x_ fun c0 x_ => uP x_ fun c1 x_ => uP x_ fun c2lo x_ => uP x_ fun c2n x_ => uP x_ fun c0_1 x_ => uP x_ fun c1_1 x_ => uP x_ fun c2lo_1 x_ => uP x_ fun c2n_1 x_ => uP x_ fun t20 x_ => uP x_ fun t21 x_ => uP x_ fun t2000702 x_ => k_ 0 (Shape.inj circ_Check__win.c3x0 (c0, c1, c2lo, c2n, r_, c0_1, c1_1, c2lo_1, c2n_1, t20, t21, t2000702, ())))
def circ_Check__win.c100008 {ρ : Type} (t33lo : Int) (t33n : Int) (t34 : Int) (t35 : Int) (c0_1 : Int) (c1_1 : Int) (c2lo_1 : Int) (c2n_1 : Int) (t2000702 : List ((Int) × ((Int) × ((List Int) × ((Int) × ((Int) × (List Int))))))) (k_ : ((Int) × (Int) × (Int) × (Int) × (Int) × (List ((Int) × ((Int) × ((List Int) × ((Int) × ((Int) × (List Int)))))))) ⊕ (((Int) × (Int) × (Int) × (Int) × (Int) × (Int) × (Int) × (List ((Int) × ((Int) × ((List Int) × ((Int) × ((Int) × (List Int)))))))) ⊕ ((Int) × (Int) × (Int) × (Int) × (Int) × (List ((Int) × ((Int) × ((List Int) × ((Int) × ((Int) × (List Int))))))))) → Option ρ) : Option ρ :=
  br (decide (t35 < t34))
   (bnd (okIf (decide ((0 : Ty.den (Ty.int IntKind.i64)) ≤ t35) && decide (t35 < t33n))) fun y =>
    bnd (idx t2000702 (t33lo + t35)) fun y_1 =>
    bnd (W.circ_one__win (Prod.fst y_1, Prod.fst (Prod.snd y_1), Prod.fst (Prod.snd (Prod.snd y_1)), Prod.fst (Prod.snd (Prod.snd (Prod.snd y_1))), Prod.fst (Prod.snd (Prod.snd (Prod.snd (Prod.snd y_1)))), Prod.snd (Prod.snd (Prod.snd (Prod.snd (Prod.snd y_1))))) c0_1 c1_1 c2lo_1 c2n_1 t2000702) fun y_2 =>
    br (Prod.fst y_2 != (0 : Int))
     (bnd (W.circ_fault (Prod.fst y_2) t35) fun y_3 =>
      k_ (.inr (.inl (t35, (Prod.fst y_2.2), (Prod.fst y_2.2.2), (Prod.fst y_2.2.2.2), (Prod.fst y_2.2.2.2.2), (Prod.fst y_3), (Prod.snd y_3), (Prod.fst y_2.2.2.2.2.2)))))
     (k_ (.inl ((IntKind.wrap IntKind.i64 (t35 + (1 : Int))), (Prod.fst y_2.2), (Prod.fst y_2.2.2), (Prod.fst y_2.2.2.2), (Prod.fst y_2.2.2.2.2), (Prod.fst y_2.2.2.2.2.2)))))
   (k_ (.inr (.inr (t35, c0_1, c1_1, c2lo_1, c2n_1, t2000702))))
def circ_Check__win.c100008s : Shape := ⟨[(0, lc20), (1, lc5), (2, lc6), (33, lc23), (34, lc2), (35, lc2)], [(1, lc22), (2, lc14), (2000702, lc10)]⟩
def circ_Check__win.c100008x0 : Shape := ⟨[(0, lc20), (1, lc5), (2, lc6), (33, lc23), (34, lc2), (35, lc2)], [(1, lc22), (2, lc14), (2000702, lc10)]⟩
def circ_Check__win.c100008x1 : Shape := ⟨[(0, lc20), (1, lc5), (2, lc6), (33, lc23), (34, lc2), (35, lc2)], [(1, lc22), (2, lc14), (2000702, lc10)]⟩
def circ_Check__win.c100008r : Ck := Ck.ofLoop (S := (Int) × (Int) × (Int) × (Int) × (Int) × (List ((Int) × ((Int) × ((List Int) × ((Int) × ((Int) × (List Int)))))))) (T := ((Int) × (Int) × (Int) × (Int) × (Int) × (Int) × (Int) × (List ((Int) × ((Int) × ((List Int) × ((Int) × ((Int) × (List Int)))))))) ⊕ ((Int) × (Int) × (Int) × (Int) × (Int) × (List ((Int) × ((Int) × ((List Int) × ((Int) × ((Int) × (List Int))))))))) circ_Check__win.c100008s (fun x_ => uP x_ fun c0 x_ => uP x_ fun c1 x_ => uP x_ fun c2lo x_ => uP x_ fun c2n x_ => uP x_ fun t33lo x_ => uP x_ fun t33n x_ => uP x_ fun t34 x_ => uP x_ fun t35 x_ => uP x_ fun c0_1 x_ => uP x_ fun c1_1 x_ => uP x_ fun c2lo_1 x_ => uP x_ fun c2n_1 x_ => uP x_ fun t20 x_ => uP x_ fun t21 x_ => uP x_ fun t2000702 x_ => (t35, c0_1, c1_1, c2lo_1, c2n_1, t2000702)) (fun ρ x_ s_ k_ => uP x_ fun c0 x_ => uP x_ fun c1 x_ => uP x_ fun c2lo x_ => uP x_ fun c2n x_ => uP x_ fun t33lo x_ => uP x_ fun t33n x_ => uP x_ fun t34 x_ => uP x_ fun t35 x_ => uP x_ fun c0_1 x_ => uP x_ fun c1_1 x_ => uP x_ fun c2lo_1 x_ => uP x_ fun c2n_1 x_ => uP x_ fun t20 x_ => uP x_ fun t21 x_ => uP x_ fun t2000702 x_ => circ_Check__win.c100008 t33lo t33n t34 s_.1 s_.2.1 s_.2.2.1 s_.2.2.2.1 s_.2.2.2.2.1 s_.2.2.2.2.2 k_) (fun ρ x_ r_ k_ => uP x_ fun c0 x_ => uP x_ fun c1 x_ => uP x_ fun c2lo x_ => uP x_ fun c2n x_ => uP x_ fun t33lo x_ => uP x_ fun t33n x_ => uP x_ fun t34 x_ => uP x_ fun t35 x_ => uP x_ fun c0_1 x_ => uP x_ fun c1_1 x_ => uP x_ fun c2lo_1 x_ => uP x_ fun c2n_1 x_ => uP x_ fun t20 x_ => uP x_ fun t21 x_ => uP x_ fun t2000702 x_ => sel r_ (fun r_ => k_ 1 (Shape.inj circ_Check__win.c100008x0 (c0, c1, c2lo, c2n, t33lo, t33n, t34, r_.1, r_.2.1, r_.2.2.1, r_.2.2.2.1, r_.2.2.2.2.1, r_.2.2.2.2.2.1, r_.2.2.2.2.2.2.1, r_.2.2.2.2.2.2.2, ()))) (fun r_ => k_ 3 (Shape.inj circ_Check__win.c100008x1 (c0, c1, c2lo, c2n, t33lo, t33n, t34, r_.1, r_.2.1, r_.2.2.1, r_.2.2.2.1, r_.2.2.2.2.1, t20, t21, r_.2.2.2.2.2, ()))))
def circ_Check__win (c0 : Int) (c1 : Int) (c2lo : Int) (c2n : Int) (t2000702 : List ((Int) × ((Int) × ((List Int) × ((Int) × ((Int) × (List Int))))))) : Option (((Int) × (Int)) × (List ((Int) × ((Int) × ((List Int) × ((Int) × ((Int) × (List Int))))))) × Unit) :=
  bnd (W.circ_Check__win.c1 c0 some) fun y =>
  br y
   (bnd (W.circ_fault (6 : Int) (0 : Int)) fun y_1 =>
    some ((Prod.fst y_1, Prod.snd y_1), t2000702, ()))
   (bnd (W.circ_Check__win.c3 c1 some) fun y_2 =>
    br y_2
     (bnd (W.circ_fault (7 : Int) (0 : Int)) fun y_3 =>
      some ((Prod.fst y_3, Prod.snd y_3), t2000702, ()))
     (br (decide ((↑(List.length (part c2lo c2n t2000702)) : Int) > (4096 : Int)))
       (bnd (W.circ_fault (2 : Int) (0 : Int)) fun y_4 =>
        some ((Prod.fst y_4, Prod.snd y_4), t2000702, ()))
       (bnd (iter (fun s ↦ W.circ_Check__win.c100008 c2lo c2n (↑(List.length (part c2lo c2n t2000702)) : Int) (Prod.fst s) (Prod.fst (Prod.snd s)) (Prod.fst (Prod.snd (Prod.snd s))) (Prod.fst (Prod.snd (Prod.snd (Prod.snd s)))) (Prod.fst (Prod.snd (Prod.snd (Prod.snd (Prod.snd s))))) (Prod.snd (Prod.snd (Prod.snd (Prod.snd (Prod.snd s))))) some) ((0 : Int), c0, c1, c2lo, c2n, t2000702)) fun y_5 =>
        sel y_5
         (fun u => some ((Prod.fst (Prod.snd (Prod.snd (Prod.snd (Prod.snd (Prod.snd u))))), Prod.fst (Prod.snd (Prod.snd (Prod.snd (Prod.snd (Prod.snd (Prod.snd u))))))), Prod.snd (Prod.snd (Prod.snd (Prod.snd (Prod.snd (Prod.snd (Prod.snd u)))))), ()))
         (fun v => some (((0 : Int), (0 : Int)), Prod.snd (Prod.snd (Prod.snd (Prod.snd (Prod.snd v)))), ())))))
def circ_Check__win.mc : MCallee := ⟨17, circ_Check__win.pre, circ_Check__win.post, fun x_ => circ_Check__win x_.1 x_.2.1 x_.2.2.1 x_.2.2.2.1 x_.2.2.2.2.1⟩
def circ_Check__win.G : Env := ⟨49, tab, [(29, circ_fault.ce)], [0, 1, 2, 3, 4, 5, 6, 16, 26, 33, 34, 35, 36, 43], [1, 3001, 2000702], [], [(100008, circ_Check__win.c100008r), (3, circ_Check__win.c3r), (1, circ_Check__win.c1r)], [(30, circ_one__win.mc)], tab_eqs⟩
theorem circ_Check__win.eq (x_ : densU circ_Check__win.mc.pre.tys) : denM circ_Check__win.G Go.Proofs.Try.f17 circ_Check__win.mc.pre circ_Check__win.mc.post x_ = circ_Check__win.mc.F x_ := by kernel_rfl
theorem circ_Check__win.p0 : PieceOk circ_Check__win.G (pieceAt (pieces circ_Check__win.G.cks (bodyOf Go.Proofs.Try.f17)) 0).1 (pieceAt (pieces circ_Check__win.G.cks (bodyOf Go.Proofs.Try.f17)) 0).2 :=
  region_ok (s := circ_Check__win.c1r) (by kernel_rfl) (by kernel_rfl) (sums_of (sh := circ_Check__win.c1s) (fun ρ x_ k_ => (nat_br nat_leaf nat_leaf)) (fun ρ x_ t k => (by kernel_rfl)) (fun x_ => by kernel_rfl))
theorem circ_Check__win.p1 : PieceOk circ_Check__win.G (pieceAt (pieces circ_Check__win.G.cks (bodyOf Go.Proofs.Try.f17)) 1).1 (pieceAt (pieces circ_Check__win.G.cks (bodyOf Go.Proofs.Try.f17)) 1).2 :=
  region_ok (s := circ_Check__win.c3r) (by kernel_rfl) (by kernel_rfl) (sums_of (sh := circ_Check__win.c3s) (fun ρ x_ k_ => (nat_br nat_leaf nat_leaf)) (fun ρ x_ t k => (by kernel_rfl)) (fun x_ => by kernel_rfl))
theorem circ_Check__win.p2 : PieceOk circ_Check__win.G (pieceAt (pieces circ_Check__win.G.cks (bodyOf Go.Proofs.Try.f17)) 2).1 (pieceAt (pieces circ_Check__win.G.cks (bodyOf Go.Proofs.Try.f17)) 2).2 :=
  loop_ok (s := circ_Check__win.c100008r) (by kernel_rfl) (by kernel_rfl) (loops_of (sh := circ_Check__win.c100008s) (I := fun x_ s_ => (x_.1, x_.2.1, x_.2.2.1, x_.2.2.2.1, x_.2.2.2.2.1, x_.2.2.2.2.2.1, x_.2.2.2.2.2.2.1, s_.1, s_.2.1, s_.2.2.1, s_.2.2.2.1, s_.2.2.2.2.1, x_.2.2.2.2.2.2.2.2.2.2.2.2.1, x_.2.2.2.2.2.2.2.2.2.2.2.2.2.1, s_.2.2.2.2.2, ())) (fun x_ => rfl) (fun ρ x_ s_ k_ => (nat_br (nat_bnd fun _ => (nat_bnd fun _ => (nat_bnd fun _ => (nat_br (nat_bnd fun _ => nat_leaf) nat_leaf)))) nat_leaf)) (fun ρ x_ t k => (nat_sel (fun _ => (by kernel_rfl)) (fun _ => (by kernel_rfl)))) (fun x_ s => by kernel_rfl))
theorem circ_Check__win.ok : MOk Go.Proofs.Try.prog 17 circ_Check__win.mc := fnm_ok (G := circ_Check__win.G) tab_ok mixed Go.Proofs.Try.func17 ⟨(fns_cons circ_fault.ok fns_nil), (mfns_cons circ_one__win.ok mfns_nil), tab_eqs_ok⟩ (m := 3) (by kernel_rfl) ⟨⟨⟨trivial, circ_Check__win.p0⟩, circ_Check__win.p1⟩, circ_Check__win.p2⟩ (by kernel_rfl) circ_Check__win.eq
abbrev lc24 : SD := .one (.ref 8 0)
abbrev lc25 : SD := .one (.ref 9 0)
abbrev lc26 : SO := .box [.val (.int .i64), .val (.int .i64), .own 3009 0]
def lower_Base__win.pre : Shape := ⟨[(0, lc20)], [(2000702, lc10)]⟩
def lower_Base__win.post : Shape := ⟨[(0, lc4), (1, lc21)], [(2000702, lc10)]⟩
def lower_Base__win.c3 {ρ : Type}  (k_ : Unit → Option ρ) : Option ρ :=
  k_ ()
def lower_Base__win.c3s : Shape := ⟨[(0, lc20), (1, lc5), (2, lc6), (3, lc7), (4, lc15)], [(1, lc22), (2, lc8), (3, lc14), (4, lc14), (2000702, lc10)]⟩
def lower_Base__win.c3x0 : Shape := ⟨[(0, lc20), (1, lc5), (2, lc6), (3, lc7), (4, lc15)], [(1, lc22), (2, lc8), (3, lc14), (4, lc14), (2000702, lc10)]⟩
def lower_Base__win.c3r : Ck := Ck.of (T := Unit) lower_Base__win.c3s (fun ρ x_ k_ => uP x_ fun c0 x_ => uP x_ fun c1 x_ => uP x_ fun c2lo x_ => uP x_ fun c2n x_ => uP x_ fun c0_1 x_ => uP x_ fun c1_1 x_ => uP x_ fun c2lo_1 x_ => uP x_ fun c2n_1 x_ => uP x_ fun t20 x_ => uP x_ fun t21 x_ => uP x_ fun t22 x_ => uP x_ fun t30 x_ => uP x_ fun t31 x_ => uP x_ fun f0 x_ => uP x_ fun f1 x_ => uP x_ fun t2000702 x_ => lower_Base__win.c3  k_) (fun ρ x_ r_ k_ => uP x_ fun c0 x_ => uP x_ fun c1 x_ => uP x_ fun c2lo x_ => uP x_ fun c2n x_ => uP x_ fun c0_1 x_ => uP x_ fun c1_1 x_ => uP x_ fun c2lo_1 x_ => uP x_ fun c2n_1 x_ => uP x_ fun t20 x_ => uP x_ fun t21 x_ => uP x_ fun t22 x_ => uP x_ fun t30 x_ => uP x_ fun t31 x_ => uP x_ fun f0 x_ => uP x_ fun f1 x_ => uP x_ fun t2000702 x_ => k_ 0 (Shape.inj lower_Base__win.c3x0 (c0, c1, c2lo, c2n, c0_1, c1_1, c2lo_1, c2n_1, (0 : Int), (0 : Int), [], f0, f1, f0, f1, t2000702, ())))
def lower_Base__win.c232773 {ρ : Type} (size : Int) (o2 : List (Int)) (k_ : Int → Option ρ) : Option ρ :=
  br (decide ((↑(List.length o2) : Int) > (0 : Int)))
   (k_ (IntKind.wrap IntKind.i64 (size + (220 : Int))))
   (k_ size)
def lower_Base__win.c232773s : Shape := ⟨[(0, lc20), (1, lc5), (2, lc6), (3, lc7), (4, lc15), (5, lc2), (6, lc2), (8, lc24), (24, lc23), (25, lc2), (26, lc2)], [(1, lc22), (2, lc8), (3, lc14), (4, lc14), (8, lc13), (2000702, lc10)]⟩
def lower_Base__win.c232773x0 : Shape := ⟨[(0, lc20), (1, lc5), (2, lc6), (3, lc7), (4, lc15), (5, lc2), (6, lc2), (8, lc24), (24, lc23), (25, lc2), (26, lc2)], [(1, lc22), (2, lc8), (3, lc14), (4, lc14), (8, lc13), (2000702, lc10)]⟩
def lower_Base__win.c232773r : Ck := Ck.of (T := Int) lower_Base__win.c232773s (fun ρ x_ k_ => uP x_ fun c0 x_ => uP x_ fun c1 x_ => uP x_ fun c2lo x_ => uP x_ fun c2n x_ => uP x_ fun size x_ => uP x_ fun a x_ => uP x_ fun t24lo x_ => uP x_ fun t24n x_ => uP x_ fun t25 x_ => uP x_ fun t26 x_ => uP x_ fun c0_1 x_ => uP x_ fun c1_1 x_ => uP x_ fun c2lo_1 x_ => uP x_ fun c2n_1 x_ => uP x_ fun t20 x_ => uP x_ fun t21 x_ => uP x_ fun t22 x_ => uP x_ fun t30 x_ => uP x_ fun t31 x_ => uP x_ fun f0 x_ => uP x_ fun f1 x_ => uP x_ fun o0 x_ => uP x_ fun o1 x_ => uP x_ fun o2 x_ => uP x_ fun o3 x_ => uP x_ fun o4 x_ => uP x_ fun o5 x_ => uP x_ fun t2000702 x_ => lower_Base__win.c232773 size o2 k_) (fun ρ x_ r_ k_ => uP x_ fun c0 x_ => uP x_ fun c1 x_ => uP x_ fun c2lo x_ => uP x_ fun c2n x_ => uP x_ fun size x_ => uP x_ fun a x_ => uP x_ fun t24lo x_ => uP x_ fun t24n x_ => uP x_ fun t25 x_ => uP x_ fun t26 x_ => uP x_ fun c0_1 x_ => uP x_ fun c1_1 x_ => uP x_ fun c2lo_1 x_ => uP x_ fun c2n_1 x_ => uP x_ fun t20 x_ => uP x_ fun t21 x_ => uP x_ fun t22 x_ => uP x_ fun t30 x_ => uP x_ fun t31 x_ => uP x_ fun f0 x_ => uP x_ fun f1 x_ => uP x_ fun o0 x_ => uP x_ fun o1 x_ => uP x_ fun o2 x_ => uP x_ fun o3 x_ => uP x_ fun o4 x_ => uP x_ fun o5 x_ => uP x_ fun t2000702 x_ => k_ 0 (Shape.inj lower_Base__win.c232773x0 (c0, c1, c2lo, c2n, r_, a, t24lo, t24n, t25, t26, c0_1, c1_1, c2lo_1, c2n_1, t20, t21, t22, t30, t31, f0, f1, o0, o1, o2, o3, o4, o5, t2000702, ())))
def lower_Base__win.c100006 {ρ : Type} (size : Int) (a : Int) (t24lo : Int) (t24n : Int) (t25 : Int) (t26 : Int) (t2000702 : List ((Int) × ((Int) × ((List Int) × ((Int) × ((Int) × (List Int))))))) (k_ : ((Int) × (Int) × (Int)) ⊕ ((Int) × (Int) × (Int)) → Option ρ) : Option ρ :=
  br (decide (t26 < t25))
   (bnd (okIf (decide ((0 : Ty.den (Ty.int IntKind.i64)) ≤ t26) && decide (t26 < t24n))) fun y =>
    bnd (idx t2000702 (t24lo + t26)) fun y_1 =>
    bnd (W.lower_Base__win.c232773 size (Prod.fst (Prod.snd (Prod.snd y_1))) some) fun y_2 =>
    bnd (W.lower_spares (Prod.fst y_1, Prod.fst (Prod.snd y_1), Prod.fst (Prod.snd (Prod.snd y_1)), Prod.fst (Prod.snd (Prod.snd (Prod.snd y_1))), Prod.fst (Prod.snd (Prod.snd (Prod.snd (Prod.snd y_1)))), Prod.snd (Prod.snd (Prod.snd (Prod.snd (Prod.snd y_1)))))) fun y_3 =>
    k_ (.inl (y_2, (Max.max a y_3), (IntKind.wrap IntKind.i64 (t26 + (1 : Int))))))
   (k_ (.inr (size, a, t26)))
def lower_Base__win.c100006s : Shape := ⟨[(0, lc20), (1, lc5), (2, lc6), (3, lc7), (4, lc15), (5, lc2), (6, lc2), (24, lc23), (25, lc2), (26, lc2)], [(1, lc22), (2, lc8), (3, lc14), (4, lc14), (2000702, lc10)]⟩
def lower_Base__win.c100006x0 : Shape := ⟨[(0, lc20), (1, lc5), (2, lc6), (3, lc7), (4, lc15), (5, lc2), (6, lc2), (24, lc23), (25, lc2), (26, lc2)], [(1, lc22), (2, lc8), (3, lc14), (4, lc14), (2000702, lc10)]⟩
def lower_Base__win.c100006r : Ck := Ck.ofLoop (S := (Int) × (Int) × (Int)) (T := (Int) × (Int) × (Int)) lower_Base__win.c100006s (fun x_ => uP x_ fun c0 x_ => uP x_ fun c1 x_ => uP x_ fun c2lo x_ => uP x_ fun c2n x_ => uP x_ fun size x_ => uP x_ fun a x_ => uP x_ fun t24lo x_ => uP x_ fun t24n x_ => uP x_ fun t25 x_ => uP x_ fun t26 x_ => uP x_ fun c0_1 x_ => uP x_ fun c1_1 x_ => uP x_ fun c2lo_1 x_ => uP x_ fun c2n_1 x_ => uP x_ fun t20 x_ => uP x_ fun t21 x_ => uP x_ fun t22 x_ => uP x_ fun t30 x_ => uP x_ fun t31 x_ => uP x_ fun f0 x_ => uP x_ fun f1 x_ => uP x_ fun t2000702 x_ => (size, a, t26)) (fun ρ x_ s_ k_ => uP x_ fun c0 x_ => uP x_ fun c1 x_ => uP x_ fun c2lo x_ => uP x_ fun c2n x_ => uP x_ fun size x_ => uP x_ fun a x_ => uP x_ fun t24lo x_ => uP x_ fun t24n x_ => uP x_ fun t25 x_ => uP x_ fun t26 x_ => uP x_ fun c0_1 x_ => uP x_ fun c1_1 x_ => uP x_ fun c2lo_1 x_ => uP x_ fun c2n_1 x_ => uP x_ fun t20 x_ => uP x_ fun t21 x_ => uP x_ fun t22 x_ => uP x_ fun t30 x_ => uP x_ fun t31 x_ => uP x_ fun f0 x_ => uP x_ fun f1 x_ => uP x_ fun t2000702 x_ => lower_Base__win.c100006 s_.1 s_.2.1 t24lo t24n t25 s_.2.2 t2000702 k_) (fun ρ x_ r_ k_ => uP x_ fun c0 x_ => uP x_ fun c1 x_ => uP x_ fun c2lo x_ => uP x_ fun c2n x_ => uP x_ fun size x_ => uP x_ fun a x_ => uP x_ fun t24lo x_ => uP x_ fun t24n x_ => uP x_ fun t25 x_ => uP x_ fun t26 x_ => uP x_ fun c0_1 x_ => uP x_ fun c1_1 x_ => uP x_ fun c2lo_1 x_ => uP x_ fun c2n_1 x_ => uP x_ fun t20 x_ => uP x_ fun t21 x_ => uP x_ fun t22 x_ => uP x_ fun t30 x_ => uP x_ fun t31 x_ => uP x_ fun f0 x_ => uP x_ fun f1 x_ => uP x_ fun t2000702 x_ => k_ 2 (Shape.inj lower_Base__win.c100006x0 (c0, c1, c2lo, c2n, r_.1, r_.2.1, t24lo, t24n, t25, r_.2.2, c0_1, c1_1, c2lo_1, c2n_1, t20, t21, t22, t30, t31, f0, f1, t2000702, ())))
def lower_Base__win.c100018 {ρ : Type} (t60lo : Int) (t60n : Int) (t61 : Int) (t62 : Int) (c0_1 : Int) (out0 : Int) (out1 : Int) (t3009 : List ((Int) × ((Int) × ((List Int) × ((Int) × ((Int) × (List Int))))))) (t2000702 : List ((Int) × ((Int) × ((List Int) × ((Int) × ((Int) × (List Int))))))) (k_ : ((Int) × (Int) × (Int) × (List ((Int) × ((Int) × ((List Int) × ((Int) × ((Int) × (List Int)))))))) ⊕ ((Int) × (Int) × (Int) × (List ((Int) × ((Int) × ((List Int) × ((Int) × ((Int) × (List Int)))))))) → Option ρ) : Option ρ :=
  br (decide (t62 < t61))
   (bnd (okIf (decide ((0 : Ty.den (Ty.int IntKind.i64)) ≤ t62) && decide (t62 < t60n))) fun y =>
    bnd (idx t2000702 (t60lo + t62)) fun y_1 =>
    bnd (W.lower_maker_op (Prod.fst y_1, Prod.fst (Prod.snd y_1), Prod.fst (Prod.snd (Prod.snd y_1)), Prod.fst (Prod.snd (Prod.snd (Prod.snd y_1))), Prod.fst (Prod.snd (Prod.snd (Prod.snd (Prod.snd y_1)))), Prod.snd (Prod.snd (Prod.snd (Prod.snd (Prod.snd y_1))))) c0_1 (Prod.snd (Prod.snd (Prod.snd (Prod.snd (Prod.snd y_1))))) out0 out1 t3009) fun y_2 =>
    k_ (.inl ((IntKind.wrap IntKind.i64 (t62 + (1 : Int))), (Prod.fst y_2.2), (Prod.fst y_2.2.2), (Prod.fst y_2))))
   (k_ (.inr (t62, out0, out1, t3009)))
def lower_Base__win.c100018s : Shape := ⟨[(0, lc20), (1, lc5), (2, lc6), (3, lc7), (4, lc15), (5, lc2), (6, lc2), (9, lc25), (24, lc23), (25, lc2), (26, lc2), (60, lc23), (61, lc2), (62, lc2)], [(1, lc22), (2, lc8), (3, lc14), (4, lc14), (9, lc26), (3009, lc10), (2000702, lc10)]⟩
def lower_Base__win.c100018x0 : Shape := ⟨[(0, lc20), (1, lc5), (2, lc6), (3, lc7), (4, lc15), (5, lc2), (6, lc2), (9, lc25), (24, lc23), (25, lc2), (26, lc2), (60, lc23), (61, lc2), (62, lc2)], [(1, lc22), (2, lc8), (3, lc14), (4, lc14), (9, lc26), (3009, lc10), (2000702, lc10)]⟩
def lower_Base__win.c100018r : Ck := Ck.ofLoop (S := (Int) × (Int) × (Int) × (List ((Int) × ((Int) × ((List Int) × ((Int) × ((Int) × (List Int)))))))) (T := (Int) × (Int) × (Int) × (List ((Int) × ((Int) × ((List Int) × ((Int) × ((Int) × (List Int)))))))) lower_Base__win.c100018s (fun x_ => uP x_ fun c0 x_ => uP x_ fun c1 x_ => uP x_ fun c2lo x_ => uP x_ fun c2n x_ => uP x_ fun size x_ => uP x_ fun a x_ => uP x_ fun t24lo x_ => uP x_ fun t24n x_ => uP x_ fun t25 x_ => uP x_ fun t26 x_ => uP x_ fun t60lo x_ => uP x_ fun t60n x_ => uP x_ fun t61 x_ => uP x_ fun t62 x_ => uP x_ fun c0_1 x_ => uP x_ fun c1_1 x_ => uP x_ fun c2lo_1 x_ => uP x_ fun c2n_1 x_ => uP x_ fun t20 x_ => uP x_ fun t21 x_ => uP x_ fun t22 x_ => uP x_ fun t30 x_ => uP x_ fun t31 x_ => uP x_ fun f0 x_ => uP x_ fun f1 x_ => uP x_ fun out0 x_ => uP x_ fun out1 x_ => uP x_ fun t3009 x_ => uP x_ fun t2000702 x_ => (t62, out0, out1, t3009)) (fun ρ x_ s_ k_ => uP x_ fun c0 x_ => uP x_ fun c1 x_ => uP x_ fun c2lo x_ => uP x_ fun c2n x_ => uP x_ fun size x_ => uP x_ fun a x_ => uP x_ fun t24lo x_ => uP x_ fun t24n x_ => uP x_ fun t25 x_ => uP x_ fun t26 x_ => uP x_ fun t60lo x_ => uP x_ fun t60n x_ => uP x_ fun t61 x_ => uP x_ fun t62 x_ => uP x_ fun c0_1 x_ => uP x_ fun c1_1 x_ => uP x_ fun c2lo_1 x_ => uP x_ fun c2n_1 x_ => uP x_ fun t20 x_ => uP x_ fun t21 x_ => uP x_ fun t22 x_ => uP x_ fun t30 x_ => uP x_ fun t31 x_ => uP x_ fun f0 x_ => uP x_ fun f1 x_ => uP x_ fun out0 x_ => uP x_ fun out1 x_ => uP x_ fun t3009 x_ => uP x_ fun t2000702 x_ => lower_Base__win.c100018 t60lo t60n t61 s_.1 c0_1 s_.2.1 s_.2.2.1 s_.2.2.2 t2000702 k_) (fun ρ x_ r_ k_ => uP x_ fun c0 x_ => uP x_ fun c1 x_ => uP x_ fun c2lo x_ => uP x_ fun c2n x_ => uP x_ fun size x_ => uP x_ fun a x_ => uP x_ fun t24lo x_ => uP x_ fun t24n x_ => uP x_ fun t25 x_ => uP x_ fun t26 x_ => uP x_ fun t60lo x_ => uP x_ fun t60n x_ => uP x_ fun t61 x_ => uP x_ fun t62 x_ => uP x_ fun c0_1 x_ => uP x_ fun c1_1 x_ => uP x_ fun c2lo_1 x_ => uP x_ fun c2n_1 x_ => uP x_ fun t20 x_ => uP x_ fun t21 x_ => uP x_ fun t22 x_ => uP x_ fun t30 x_ => uP x_ fun t31 x_ => uP x_ fun f0 x_ => uP x_ fun f1 x_ => uP x_ fun out0 x_ => uP x_ fun out1 x_ => uP x_ fun t3009 x_ => uP x_ fun t2000702 x_ => k_ 4 (Shape.inj lower_Base__win.c100018x0 (c0, c1, c2lo, c2n, size, a, t24lo, t24n, t25, t26, t60lo, t60n, t61, r_.1, c0_1, c1_1, c2lo_1, c2n_1, t20, t21, t22, t30, t31, f0, f1, r_.2.1, r_.2.2.1, r_.2.2.2, t2000702, ())))
def lower_Base__win (c0 : Int) (c1 : Int) (c2lo : Int) (c2n : Int) (t2000702 : List ((Int) × ((Int) × ((List Int) × ((Int) × ((Int) × (List Int))))))) : Option (((Int) × ((Int) × (List ((Int) × ((Int) × ((List Int) × ((Int) × ((Int) × (List Int))))))))) × ((Int) × (Int)) × (List ((Int) × ((Int) × ((List Int) × ((Int) × ((Int) × (List Int))))))) × Unit) :=
  bnd (W.circ_Check__win c0 c1 c2lo c2n t2000702) fun y =>
  br (Prod.fst (Prod.fst y) != (0 : Int))
   (bnd (W.lower_Base__win.c3 some) fun y_1 =>
    some (((0 : Int), (0 : Int), []), (Prod.fst (Prod.fst y), Prod.snd (Prod.fst y)), Prod.fst y.2, ()))
   (bnd (iter (fun s ↦ W.lower_Base__win.c100006 (Prod.fst s) (Prod.fst (Prod.snd s)) c2lo c2n (↑(List.length (part c2lo c2n (Prod.fst y.2))) : Int) (Prod.snd (Prod.snd s)) (Prod.fst y.2) some) ((↑(List.length (part c2lo c2n (Prod.fst y.2))) : Int), (0 : Int), (0 : Int))) fun y_2 =>
    br (decide (Prod.fst y_2 > (4096 : Int)))
     (some (((0 : Int), (0 : Int), []), ((21 : Int), (0 : Int)), Prod.fst y.2, ()))
     (br (decide (IntKind.wrap IntKind.i64 (c0 + Prod.fst (Prod.snd y_2)) > (12 : Int)))
       (some (((0 : Int), (0 : Int), []), ((36 : Int), (0 : Int)), Prod.fst y.2, ()))
       (bnd (iter (fun s ↦ W.lower_Base__win.c100018 c2lo c2n (↑(List.length (part c2lo c2n (Prod.fst y.2))) : Int) (Prod.fst s) c0 (Prod.fst (Prod.snd s)) (Prod.fst (Prod.snd (Prod.snd s))) (Prod.snd (Prod.snd (Prod.snd s))) (Prod.fst y.2) some) ((0 : Int), IntKind.wrap IntKind.i64 (c0 + Prod.fst (Prod.snd y_2)), c1, [])) fun y_3 =>
        some ((Prod.fst (Prod.snd y_3), Prod.fst (Prod.snd (Prod.snd y_3)), Prod.snd (Prod.snd (Prod.snd y_3))), ((0 : Int), (0 : Int)), Prod.fst y.2, ()))))
def lower_Base__win.mc : MCallee := ⟨6, lower_Base__win.pre, lower_Base__win.post, fun x_ => lower_Base__win x_.1 x_.2.1 x_.2.2.1 x_.2.2.2.1 x_.2.2.2.2.1⟩
def lower_Base__win.G : Env := ⟨78, tab, [(18, lower_spares.ce)], [0, 1, 2, 3, 4, 5, 6, 8, 9, 11, 12, 17, 24, 25, 26, 27, 33, 42, 49, 60, 61, 62, 63], [1, 9, 12, 58, 71, 1001, 2009, 3009, 2000702], [(3, [⟨[], [], [19], []⟩, ⟨[], [], [18], [2]⟩, ⟨[0], [2], [19], []⟩, ⟨[1, 2, 0], [3], [], []⟩])], [(100018, lower_Base__win.c100018r), (100006, lower_Base__win.c100006r), (232773, lower_Base__win.c232773r), (3, lower_Base__win.c3r)], [(17, circ_Check__win.mc), (19, lower_maker_op.mc)], tab_eqs⟩
theorem lower_Base__win.eq (x_ : densU lower_Base__win.mc.pre.tys) : denM lower_Base__win.G Go.Proofs.Try.f6 lower_Base__win.mc.pre lower_Base__win.mc.post x_ = lower_Base__win.mc.F x_ := by kernel_rfl
theorem lower_Base__win.p0 : PieceOk lower_Base__win.G (pieceAt (pieces lower_Base__win.G.cks (bodyOf Go.Proofs.Try.f6)) 0).1 (pieceAt (pieces lower_Base__win.G.cks (bodyOf Go.Proofs.Try.f6)) 0).2 :=
  region_ok (s := lower_Base__win.c3r) (by kernel_rfl) (by kernel_rfl) (sums_of (sh := lower_Base__win.c3s) (fun ρ x_ k_ => nat_leaf) (fun ρ x_ t k => (by kernel_rfl)) (fun x_ => by kernel_rfl))
theorem lower_Base__win.p1 : PieceOk lower_Base__win.G (pieceAt (pieces lower_Base__win.G.cks (bodyOf Go.Proofs.Try.f6)) 1).1 (pieceAt (pieces lower_Base__win.G.cks (bodyOf Go.Proofs.Try.f6)) 1).2 :=
  loop_ok (s := lower_Base__win.c100006r) (by kernel_rfl) (by kernel_rfl) (loops_of (sh := lower_Base__win.c100006s) (I := fun x_ s_ => (x_.1, x_.2.1, x_.2.2.1, x_.2.2.2.1, s_.1, s_.2.1, x_.2.2.2.2.2.2.1, x_.2.2.2.2.2.2.2.1, x_.2.2.2.2.2.2.2.2.1, s_.2.2, x_.2.2.2.2.2.2.2.2.2.2.1, x_.2.2.2.2.2.2.2.2.2.2.2.1, x_.2.2.2.2.2.2.2.2.2.2.2.2.1, x_.2.2.2.2.2.2.2.2.2.2.2.2.2.1, x_.2.2.2.2.2.2.2.2.2.2.2.2.2.2.1, x_.2.2.2.2.2.2.2.2.2.2.2.2.2.2.2.1, x_.2.2.2.2.2.2.2.2.2.2.2.2.2.2.2.2.1, x_.2.2.2.2.2.2.2.2.2.2.2.2.2.2.2.2.2.1, x_.2.2.2.2.2.2.2.2.2.2.2.2.2.2.2.2.2.2.1, x_.2.2.2.2.2.2.2.2.2.2.2.2.2.2.2.2.2.2.2.1, x_.2.2.2.2.2.2.2.2.2.2.2.2.2.2.2.2.2.2.2.2.1, x_.2.2.2.2.2.2.2.2.2.2.2.2.2.2.2.2.2.2.2.2.2.1, ())) (fun x_ => rfl) (fun ρ x_ s_ k_ => (nat_br (nat_bnd fun _ => (nat_bnd fun _ => (nat_bnd fun _ => (nat_bnd fun _ => nat_leaf)))) nat_leaf)) (fun ρ x_ t k => (by kernel_rfl)) (fun x_ s => by kernel_rfl))
theorem lower_Base__win.p2 : PieceOk lower_Base__win.G (pieceAt (pieces lower_Base__win.G.cks (bodyOf Go.Proofs.Try.f6)) 2).1 (pieceAt (pieces lower_Base__win.G.cks (bodyOf Go.Proofs.Try.f6)) 2).2 :=
  join_ok (s := lower_Base__win.c232773r) (by kernel_rfl) (by kernel_rfl) (sums_of (sh := lower_Base__win.c232773s) (fun ρ x_ k_ => (nat_br nat_leaf nat_leaf)) (fun ρ x_ t k => (by kernel_rfl)) (fun x_ => by kernel_rfl))
theorem lower_Base__win.p3 : PieceOk lower_Base__win.G (pieceAt (pieces lower_Base__win.G.cks (bodyOf Go.Proofs.Try.f6)) 3).1 (pieceAt (pieces lower_Base__win.G.cks (bodyOf Go.Proofs.Try.f6)) 3).2 :=
  loop_ok (s := lower_Base__win.c100018r) (by kernel_rfl) (by kernel_rfl) (loops_of (sh := lower_Base__win.c100018s) (I := fun x_ s_ => (x_.1, x_.2.1, x_.2.2.1, x_.2.2.2.1, x_.2.2.2.2.1, x_.2.2.2.2.2.1, x_.2.2.2.2.2.2.1, x_.2.2.2.2.2.2.2.1, x_.2.2.2.2.2.2.2.2.1, x_.2.2.2.2.2.2.2.2.2.1, x_.2.2.2.2.2.2.2.2.2.2.1, x_.2.2.2.2.2.2.2.2.2.2.2.1, x_.2.2.2.2.2.2.2.2.2.2.2.2.1, s_.1, x_.2.2.2.2.2.2.2.2.2.2.2.2.2.2.1, x_.2.2.2.2.2.2.2.2.2.2.2.2.2.2.2.1, x_.2.2.2.2.2.2.2.2.2.2.2.2.2.2.2.2.1, x_.2.2.2.2.2.2.2.2.2.2.2.2.2.2.2.2.2.1, x_.2.2.2.2.2.2.2.2.2.2.2.2.2.2.2.2.2.2.1, x_.2.2.2.2.2.2.2.2.2.2.2.2.2.2.2.2.2.2.2.1, x_.2.2.2.2.2.2.2.2.2.2.2.2.2.2.2.2.2.2.2.2.1, x_.2.2.2.2.2.2.2.2.2.2.2.2.2.2.2.2.2.2.2.2.2.1, x_.2.2.2.2.2.2.2.2.2.2.2.2.2.2.2.2.2.2.2.2.2.2.1, x_.2.2.2.2.2.2.2.2.2.2.2.2.2.2.2.2.2.2.2.2.2.2.2.1, x_.2.2.2.2.2.2.2.2.2.2.2.2.2.2.2.2.2.2.2.2.2.2.2.2.1, s_.2.1, s_.2.2.1, s_.2.2.2, x_.2.2.2.2.2.2.2.2.2.2.2.2.2.2.2.2.2.2.2.2.2.2.2.2.2.2.2.2.1, ())) (fun x_ => rfl) (fun ρ x_ s_ k_ => (nat_br (nat_bnd fun _ => (nat_bnd fun _ => (nat_bnd fun _ => nat_leaf))) nat_leaf)) (fun ρ x_ t k => (by kernel_rfl)) (fun x_ s => by kernel_rfl))
theorem lower_Base__win.ok : MOk Go.Proofs.Try.prog 6 lower_Base__win.mc := fnm_ok (G := lower_Base__win.G) tab_ok mixed Go.Proofs.Try.func6 ⟨(fns_cons lower_spares.ok fns_nil), (mfns_cons circ_Check__win.ok (mfns_cons lower_maker_op.ok mfns_nil)), tab_eqs_ok⟩ (m := 4) (by kernel_rfl) ⟨⟨⟨⟨trivial, lower_Base__win.p0⟩, lower_Base__win.p1⟩, lower_Base__win.p2⟩, lower_Base__win.p3⟩ (by kernel_rfl) lower_Base__win.eq
abbrev lc27 : SD := .one (.ref 5 0)
abbrev lc28 : SO := .box [.val (.int .i64), .val (.int .i64), .own 8 0]
def Law_lowerBegun.c5 {ρ : Type} (a0 : Int) (a2 : List ((Int) × ((Int) × ((List Int) × ((Int) × ((Int) × (List Int))))))) (f0 : Int) (b0 : Int) (b2 : List ((Int) × ((Int) × ((List Int) × ((Int) × ((Int) × (List Int))))))) (g0 : Int) (k_ : Bool → Option ρ) : Option ρ :=
  br (f0 == (0 : Int))
   (br (g0 == (0 : Int))
     (br (a0 == (2 : Int))
       (br (b0 == (3 : Int))
         (br (decide ((↑(List.length a2) : Int) > (1 : Int)))
           (k_ (decide ((↑(List.length b2) : Int) > (1 : Int))))
           (k_ false))
         (k_ false))
       (k_ false))
     (k_ false))
   (k_ false)
def Law_lowerBegun.c5s : Shape := ⟨[(0, lc11), (1, lc5), (2, lc6), (3, lc7), (4, lc15), (5, lc27)], [(1, lc28), (2, lc8), (3, lc14), (4, lc8), (5, lc14), (8, lc10), (3001, lc10)]⟩
def Law_lowerBegun.c5x0 : Shape := ⟨[(0, lc11), (1, lc5), (2, lc6), (3, lc7), (4, lc15), (5, lc27)], [(1, lc28), (2, lc8), (3, lc14), (4, lc8), (5, lc14), (8, lc10), (3001, lc10)]⟩
def Law_lowerBegun.c5r : Ck := Ck.of (T := Bool) Law_lowerBegun.c5s (fun ρ x_ k_ => uP x_ fun t0 x_ => uP x_ fun c0 x_ => uP x_ fun c1 x_ => uP x_ fun a0 x_ => uP x_ fun a1 x_ => uP x_ fun a2 x_ => uP x_ fun f0 x_ => uP x_ fun f1 x_ => uP x_ fun b0 x_ => uP x_ fun b1 x_ => uP x_ fun b2 x_ => uP x_ fun g0 x_ => uP x_ fun g1 x_ => uP x_ fun t8 x_ => uP x_ fun t3001 x_ => Law_lowerBegun.c5 a0 a2 f0 b0 b2 g0 k_) (fun ρ x_ r_ k_ => uP x_ fun t0 x_ => uP x_ fun c0 x_ => uP x_ fun c1 x_ => uP x_ fun a0 x_ => uP x_ fun a1 x_ => uP x_ fun a2 x_ => uP x_ fun f0 x_ => uP x_ fun f1 x_ => uP x_ fun b0 x_ => uP x_ fun b1 x_ => uP x_ fun b2 x_ => uP x_ fun g0 x_ => uP x_ fun g1 x_ => uP x_ fun t8 x_ => uP x_ fun t3001 x_ => k_ 0 (Shape.inj Law_lowerBegun.c5x0 (r_, c0, c1, a0, a1, a2, f0, f1, b0, b1, b2, g0, g1, t8, t3001, ())))
def Law_lowerBegun  : Option (Bool) :=
  bnd (W.lower_Base__win (2 : Int) (0 : Int) (0 : Int) (↑(1 : Nat) : Int) [((4 : Int), (2 : Int), [(0 : Int)], (1 : Int), (0 : Int), [])]) fun y =>
  bnd (inR (List.length (Prod.fst y.2.2)) (0 : Int)) fun y_1 =>
  bnd (idx (Prod.fst y.2.2) (0 : Int)) fun y_2 =>
  bnd (W.lower_Base__win (2 : Int) (0 : Int) (0 : Int) (↑(List.length (List.set (Prod.fst y.2.2) (0 : Nat) (Prod.fst y_2, (1 : Int), Prod.snd (Prod.snd y_2)))) : Int) (List.set (Prod.fst y.2.2) (0 : Nat) (Prod.fst y_2, (1 : Int), Prod.snd (Prod.snd y_2)))) fun y_3 =>
  bnd (W.Law_lowerBegun.c5 (Prod.fst (Prod.fst y)) (Prod.snd (Prod.snd (Prod.fst y))) (Prod.fst (Prod.fst y.2)) (Prod.fst (Prod.fst y_3)) (Prod.snd (Prod.snd (Prod.fst y_3))) (Prod.fst (Prod.fst y_3.2)) some) fun y_4 =>
  some y_4
def Law_lowerBegun.ce : Go.Ql.Callee := ⟨[], [.bool], fun x_ => Law_lowerBegun⟩
def Law_lowerBegun.G : Env := ⟨54, tab, [], [0, 1, 2, 3, 4, 5], [1, 8, 9, 1001, 2001, 3001], [], [(5, Law_lowerBegun.c5r)], [(6, lower_Base__win.mc)], tab_eqs⟩
theorem Law_lowerBegun.eq (x_ : dens []) : den Law_lowerBegun.G Go.Proofs.Try.f8 [] [.bool] x_ = Law_lowerBegun := by kernel_rfl
theorem Law_lowerBegun.p0 : PieceOk Law_lowerBegun.G (pieceAt (pieces Law_lowerBegun.G.cks (bodyOf Go.Proofs.Try.f8)) 0).1 (pieceAt (pieces Law_lowerBegun.G.cks (bodyOf Go.Proofs.Try.f8)) 0).2 :=
  region_ok (s := Law_lowerBegun.c5r) (by kernel_rfl) (by kernel_rfl) (sums_of (sh := Law_lowerBegun.c5s) (fun ρ x_ k_ => (nat_br (nat_br (nat_br (nat_br (nat_br nat_leaf nat_leaf) nat_leaf) nat_leaf) nat_leaf) nat_leaf)) (fun ρ x_ t k => (by kernel_rfl)) (fun x_ => by kernel_rfl))
theorem Law_lowerBegun.ok : CalleeOk Go.Proofs.Try.prog 8 Law_lowerBegun.ce := fn_ok (G := Law_lowerBegun.G) tab_ok mixed Go.Proofs.Try.func8 ⟨fns_nil, (mfns_cons lower_Base__win.ok mfns_nil), tab_eqs_ok⟩ (m := 1) (by kernel_rfl) ⟨trivial, Law_lowerBegun.p0⟩ (by kernel_rfl) Law_lowerBegun.eq
def R_SameInts.c6 {ρ : Type} (a : List (Int)) (b : List (Int)) (i : Int) (k_ : Bool → Option ρ) : Option ρ :=
  bnd (idx a i) fun y =>
  bnd (idx b i) fun y_1 =>
  k_ (y != y_1)
def R_SameInts.c6s : Shape := ⟨[(0, lc0), (1, lc0), (4, lc11), (5, lc2)], []⟩
def R_SameInts.c6x0 : Shape := ⟨[(0, lc0), (1, lc0), (4, lc11), (5, lc2), (25, lc11)], []⟩
def R_SameInts.c6r : Ck := Ck.of (T := Bool) R_SameInts.c6s (fun ρ x_ k_ => uP x_ fun a x_ => uP x_ fun b x_ => uP x_ fun t4 x_ => uP x_ fun i x_ => R_SameInts.c6 a b i k_) (fun ρ x_ r_ k_ => uP x_ fun a x_ => uP x_ fun b x_ => uP x_ fun t4 x_ => uP x_ fun i x_ => k_ 0 (Shape.inj R_SameInts.c6x0 (a, b, t4, i, r_, ())))
def R_SameInts.c100004 {ρ : Type} (a : List (Int)) (b : List (Int)) (i : Int) (k_ : (Int) ⊕ ((Int) ⊕ (Int)) → Option ρ) : Option ρ :=
  br (decide (i < (↑(List.length a) : Int)))
   (bnd (W.R_SameInts.c6 a b i some) fun y =>
    br y
     (k_ (.inr (.inl i)))
     (k_ (.inl (IntKind.wrap IntKind.i64 (i + (1 : Int))))))
   (k_ (.inr (.inr i)))
def R_SameInts.c100004s : Shape := ⟨[(0, lc0), (1, lc0), (4, lc11), (5, lc2)], []⟩
def R_SameInts.c100004x0 : Shape := ⟨[(0, lc0), (1, lc0), (4, lc11), (5, lc2)], []⟩
def R_SameInts.c100004x1 : Shape := ⟨[(0, lc0), (1, lc0), (4, lc11), (5, lc2)], []⟩
def R_SameInts.c100004r : Ck := Ck.ofLoop (S := Int) (T := (Int) ⊕ (Int)) R_SameInts.c100004s (fun x_ => uP x_ fun a x_ => uP x_ fun b x_ => uP x_ fun t4 x_ => uP x_ fun i x_ => i) (fun ρ x_ s_ k_ => uP x_ fun a x_ => uP x_ fun b x_ => uP x_ fun t4 x_ => uP x_ fun i x_ => R_SameInts.c100004 a b s_ k_) (fun ρ x_ r_ k_ => uP x_ fun a x_ => uP x_ fun b x_ => uP x_ fun t4 x_ => uP x_ fun i x_ => sel r_ (fun r_ => k_ 1 (Shape.inj R_SameInts.c100004x0 (a, b, false, r_, ()))) (fun r_ => k_ 2 (Shape.inj R_SameInts.c100004x1 (a, b, t4, r_, ()))))
def R_SameInts (a : List (Int)) (b : List (Int)) : Option (Bool) :=
  br ((↑(List.length a) : Int) != (↑(List.length b) : Int))
   (some false)
   (bnd (iter (fun s ↦ W.R_SameInts.c100004 a b s some) (0 : Int)) fun y =>
    sel y
     (fun u => some false)
     (fun v => some true))
def R_SameInts.ce : Go.Ql.Callee := ⟨[(.sl (.int .i64)), (.sl (.int .i64))], [.bool], fun x_ => R_SameInts x_.1 x_.2⟩
def R_SameInts.G : Env := ⟨26, tab, [], [0, 1, 4, 5, 10, 14, 25], [], [(6, [⟨[], [], [18, 21, 22, 23, 24], []⟩, ⟨[], [], [17, 21, 22, 23, 24], []⟩, ⟨[0, 1], [], [21, 22, 23, 24], []⟩, ⟨[2, 0, 1], [], [21, 22, 23, 24], []⟩, ⟨[], [], [17, 18, 19, 20, 22], []⟩, ⟨[], [], [17, 18, 19, 20, 21], []⟩, ⟨[4, 5], [], [17, 18, 19, 20], []⟩, ⟨[6, 4, 5], [], [17, 18, 19, 20], []⟩, ⟨[3, 2, 0, 1, 7, 6, 4, 5], [], [], []⟩])], [(100004, R_SameInts.c100004r), (6, R_SameInts.c6r)], [], tab_eqs⟩
theorem R_SameInts.eq (x_ : dens [(.sl (.int .i64)), (.sl (.int .i64))]) : den R_SameInts.G Go.Proofs.Try.f13 [(.sl (.int .i64)), (.sl (.int .i64))] [.bool] x_ = R_SameInts x_.1 x_.2 := by kernel_rfl
theorem R_SameInts.p0 : PieceOk R_SameInts.G (pieceAt (pieces R_SameInts.G.cks (bodyOf Go.Proofs.Try.f13)) 0).1 (pieceAt (pieces R_SameInts.G.cks (bodyOf Go.Proofs.Try.f13)) 0).2 :=
  loop_ok (s := R_SameInts.c100004r) (by kernel_rfl) (by kernel_rfl) (loops_of (sh := R_SameInts.c100004s) (I := fun x_ s_ => (x_.1, x_.2.1, x_.2.2.1, s_, ())) (fun x_ => rfl) (fun ρ x_ s_ k_ => (nat_br (nat_bnd fun _ => (nat_br nat_leaf nat_leaf)) nat_leaf)) (fun ρ x_ t k => (nat_sel (fun _ => (by kernel_rfl)) (fun _ => (by kernel_rfl)))) (fun x_ s => by kernel_rfl))
theorem R_SameInts.p1 : PieceOk R_SameInts.G (pieceAt (pieces R_SameInts.G.cks (bodyOf Go.Proofs.Try.f13)) 1).1 (pieceAt (pieces R_SameInts.G.cks (bodyOf Go.Proofs.Try.f13)) 1).2 :=
  region_ok (s := R_SameInts.c6r) (by kernel_rfl) (by kernel_rfl) (sums_of (sh := R_SameInts.c6s) (fun ρ x_ k_ => (nat_bnd fun _ => (nat_bnd fun _ => nat_leaf))) (fun ρ x_ t k => (by kernel_rfl)) (fun x_ => by kernel_rfl))
theorem R_SameInts.ok : CalleeOk Go.Proofs.Try.prog 13 R_SameInts.ce := fn_ok (G := R_SameInts.G) tab_ok mixed Go.Proofs.Try.func13 ⟨fns_nil, mfns_nil, tab_eqs_ok⟩ (m := 2) (by kernel_rfl) ⟨⟨trivial, R_SameInts.p0⟩, R_SameInts.p1⟩ (by kernel_rfl) R_SameInts.eq
abbrev lc29 : SD := .one (.ref 6 0)
abbrev lc30 : SD := .one (.ref 7 0)
def R_SameCircuit.c1 {ρ : Type} (a0 : Int) (a1 : Int) (a2 : List ((Int) × ((Int) × ((List Int) × ((Int) × ((Int) × (List Int))))))) (b0 : Int) (b1 : Int) (b2 : List ((Int) × ((Int) × ((List Int) × ((Int) × ((Int) × (List Int))))))) (k_ : Bool → Option ρ) : Option ρ :=
  br (a0 != b0)
   (k_ true)
   (br (a1 != b1)
     (k_ true)
     (k_ ((↑(List.length a2) : Int) != (↑(List.length b2) : Int))))
def R_SameCircuit.c1s : Shape := ⟨[(0, lc4), (1, lc4), (2, lc6), (3, lc7), (4, lc11)], [(2, lc8), (3, lc8)]⟩
def R_SameCircuit.c1x0 : Shape := ⟨[(0, lc4), (1, lc4), (2, lc6), (3, lc7), (4, lc11), (28, lc11)], [(2, lc8), (3, lc8)]⟩
def R_SameCircuit.c1r : Ck := Ck.of (T := Bool) R_SameCircuit.c1s (fun ρ x_ k_ => uP x_ fun a x_ => uP x_ fun b x_ => uP x_ fun t4 x_ => uP x_ fun a0 x_ => uP x_ fun a1 x_ => uP x_ fun a2 x_ => uP x_ fun b0 x_ => uP x_ fun b1 x_ => uP x_ fun b2 x_ => R_SameCircuit.c1 a0 a1 a2 b0 b1 b2 k_) (fun ρ x_ r_ k_ => uP x_ fun a x_ => uP x_ fun b x_ => uP x_ fun t4 x_ => uP x_ fun a0 x_ => uP x_ fun a1 x_ => uP x_ fun a2 x_ => uP x_ fun b0 x_ => uP x_ fun b1 x_ => uP x_ fun b2 x_ => k_ 0 (Shape.inj R_SameCircuit.c1x0 (a, b, t4, r_, a0, a1, a2, b0, b1, b2, ())))
def R_SameCircuit.c8 {ρ : Type} (x0 : Int) (x1 : Int) (x2 : List (Int)) (x3 : Int) (x4 : Int) (x5 : List (Int)) (y0 : Int) (y1 : Int) (y2 : List (Int)) (y3 : Int) (y4 : Int) (y5 : List (Int)) (k_ : Bool → Option ρ) : Option ρ :=
  br (x0 != y0)
   (k_ true)
   (br (x1 != y1)
     (k_ true)
     (br (x3 != y3)
       (k_ true)
       (br (x4 != y4)
         (k_ true)
         (bnd (W.R_SameInts x2 y2) fun y =>
          br (!y)
           (k_ true)
           (bnd (W.R_SameInts x5 y5) fun y_1 =>
            k_ (!y_1))))))
def R_SameCircuit.c8s : Shape := ⟨[(0, lc4), (1, lc4), (2, lc6), (3, lc7), (4, lc11), (5, lc2), (6, lc29), (7, lc30)], [(2, lc8), (3, lc8), (6, lc13), (7, lc13)]⟩
def R_SameCircuit.c8x0 : Shape := ⟨[(0, lc4), (1, lc4), (2, lc6), (3, lc7), (4, lc11), (5, lc2), (6, lc29), (7, lc30), (87, lc11)], [(2, lc8), (3, lc8), (6, lc13), (7, lc13)]⟩
def R_SameCircuit.c8r : Ck := Ck.of (T := Bool) R_SameCircuit.c8s (fun ρ x_ k_ => uP x_ fun a x_ => uP x_ fun b x_ => uP x_ fun t4 x_ => uP x_ fun i x_ => uP x_ fun a0 x_ => uP x_ fun a1 x_ => uP x_ fun a2 x_ => uP x_ fun b0 x_ => uP x_ fun b1 x_ => uP x_ fun b2 x_ => uP x_ fun x0 x_ => uP x_ fun x1 x_ => uP x_ fun x2 x_ => uP x_ fun x3 x_ => uP x_ fun x4 x_ => uP x_ fun x5 x_ => uP x_ fun y0 x_ => uP x_ fun y1 x_ => uP x_ fun y2 x_ => uP x_ fun y3 x_ => uP x_ fun y4 x_ => uP x_ fun y5 x_ => R_SameCircuit.c8 x0 x1 x2 x3 x4 x5 y0 y1 y2 y3 y4 y5 k_) (fun ρ x_ r_ k_ => uP x_ fun a x_ => uP x_ fun b x_ => uP x_ fun t4 x_ => uP x_ fun i x_ => uP x_ fun a0 x_ => uP x_ fun a1 x_ => uP x_ fun a2 x_ => uP x_ fun b0 x_ => uP x_ fun b1 x_ => uP x_ fun b2 x_ => uP x_ fun x0 x_ => uP x_ fun x1 x_ => uP x_ fun x2 x_ => uP x_ fun x3 x_ => uP x_ fun x4 x_ => uP x_ fun x5 x_ => uP x_ fun y0 x_ => uP x_ fun y1 x_ => uP x_ fun y2 x_ => uP x_ fun y3 x_ => uP x_ fun y4 x_ => uP x_ fun y5 x_ => k_ 0 (Shape.inj R_SameCircuit.c8x0 (a, b, t4, i, r_, a0, a1, a2, b0, b1, b2, x0, x1, x2, x3, x4, x5, y0, y1, y2, y3, y4, y5, ())))
def R_SameCircuit.c100004 {ρ : Type} (i : Int) (a2 : List ((Int) × ((Int) × ((List Int) × ((Int) × ((Int) × (List Int))))))) (b2 : List ((Int) × ((Int) × ((List Int) × ((Int) × ((Int) × (List Int))))))) (k_ : (Int) ⊕ ((Int) ⊕ (Int)) → Option ρ) : Option ρ :=
  br (decide (i < (↑(List.length a2) : Int)))
   (bnd (idx a2 i) fun y =>
    bnd (idx b2 i) fun y_1 =>
    bnd (W.R_SameCircuit.c8 (Prod.fst y) (Prod.fst (Prod.snd y)) (Prod.fst (Prod.snd (Prod.snd y))) (Prod.fst (Prod.snd (Prod.snd (Prod.snd y)))) (Prod.fst (Prod.snd (Prod.snd (Prod.snd (Prod.snd y))))) (Prod.snd (Prod.snd (Prod.snd (Prod.snd (Prod.snd y))))) (Prod.fst y_1) (Prod.fst (Prod.snd y_1)) (Prod.fst (Prod.snd (Prod.snd y_1))) (Prod.fst (Prod.snd (Prod.snd (Prod.snd y_1)))) (Prod.fst (Prod.snd (Prod.snd (Prod.snd (Prod.snd y_1))))) (Prod.snd (Prod.snd (Prod.snd (Prod.snd (Prod.snd y_1))))) some) fun y_2 =>
    br y_2
     (k_ (.inr (.inl i)))
     (k_ (.inl (IntKind.wrap IntKind.i64 (i + (1 : Int))))))
   (k_ (.inr (.inr i)))
def R_SameCircuit.c100004s : Shape := ⟨[(0, lc4), (1, lc4), (2, lc6), (3, lc7), (4, lc11), (5, lc2)], [(2, lc8), (3, lc8)]⟩
def R_SameCircuit.c100004x0 : Shape := ⟨[(0, lc4), (1, lc4), (2, lc6), (3, lc7), (4, lc11), (5, lc2)], [(2, lc8), (3, lc8)]⟩
def R_SameCircuit.c100004x1 : Shape := ⟨[(0, lc4), (1, lc4), (2, lc6), (3, lc7), (4, lc11), (5, lc2)], [(2, lc8), (3, lc8)]⟩
def R_SameCircuit.c100004r : Ck := Ck.ofLoop (S := Int) (T := (Int) ⊕ (Int)) R_SameCircuit.c100004s (fun x_ => uP x_ fun a x_ => uP x_ fun b x_ => uP x_ fun t4 x_ => uP x_ fun i x_ => uP x_ fun a0 x_ => uP x_ fun a1 x_ => uP x_ fun a2 x_ => uP x_ fun b0 x_ => uP x_ fun b1 x_ => uP x_ fun b2 x_ => i) (fun ρ x_ s_ k_ => uP x_ fun a x_ => uP x_ fun b x_ => uP x_ fun t4 x_ => uP x_ fun i x_ => uP x_ fun a0 x_ => uP x_ fun a1 x_ => uP x_ fun a2 x_ => uP x_ fun b0 x_ => uP x_ fun b1 x_ => uP x_ fun b2 x_ => R_SameCircuit.c100004 s_ a2 b2 k_) (fun ρ x_ r_ k_ => uP x_ fun a x_ => uP x_ fun b x_ => uP x_ fun t4 x_ => uP x_ fun i x_ => uP x_ fun a0 x_ => uP x_ fun a1 x_ => uP x_ fun a2 x_ => uP x_ fun b0 x_ => uP x_ fun b1 x_ => uP x_ fun b2 x_ => sel r_ (fun r_ => k_ 1 (Shape.inj R_SameCircuit.c100004x0 (a, b, false, r_, a0, a1, a2, b0, b1, b2, ()))) (fun r_ => k_ 2 (Shape.inj R_SameCircuit.c100004x1 (a, b, t4, r_, a0, a1, a2, b0, b1, b2, ()))))
def R_SameCircuit (a : (Int) × ((Int) × (List ((Int) × ((Int) × ((List Int) × ((Int) × ((Int) × (List Int))))))))) (b : (Int) × ((Int) × (List ((Int) × ((Int) × ((List Int) × ((Int) × ((Int) × (List Int))))))))) : Option (Bool) :=
  bnd (W.R_SameCircuit.c1 (Prod.fst a) (Prod.fst (Prod.snd a)) (Prod.snd (Prod.snd a)) (Prod.fst b) (Prod.fst (Prod.snd b)) (Prod.snd (Prod.snd b)) some) fun y =>
  br y
   (some false)
   (bnd (iter (fun s ↦ W.R_SameCircuit.c100004 s (Prod.snd (Prod.snd a)) (Prod.snd (Prod.snd b)) some) (0 : Int)) fun y_1 =>
    sel y_1
     (fun u => some false)
     (fun v => some true))
def R_SameCircuit.ce : Go.Ql.Callee := ⟨[(.st (.pair (.int .i64) (.pair (.int .i64) (.sl (.st (.pair (.int .i64) (.pair (.int .i64) (.pair (.sl (.int .i64)) (.pair (.int .i64) (.pair (.int .i64) (.sl (.int .i64)))))))))))), (.st (.pair (.int .i64) (.pair (.int .i64) (.sl (.st (.pair (.int .i64) (.pair (.int .i64) (.pair (.sl (.int .i64)) (.pair (.int .i64) (.pair (.int .i64) (.sl (.int .i64))))))))))))], [.bool], fun x_ => R_SameCircuit x_.1 x_.2⟩
def R_SameCircuit.G : Env := ⟨88, tab, [(13, R_SameInts.ce)], [0, 1, 2, 3, 4, 5, 6, 7, 28, 33, 87], [], [], [(100004, R_SameCircuit.c100004r), (8, R_SameCircuit.c8r), (1, R_SameCircuit.c1r)], [], tab_eqs⟩
theorem R_SameCircuit.eq (x_ : dens [(.st (.pair (.int .i64) (.pair (.int .i64) (.sl (.st (.pair (.int .i64) (.pair (.int .i64) (.pair (.sl (.int .i64)) (.pair (.int .i64) (.pair (.int .i64) (.sl (.int .i64)))))))))))), (.st (.pair (.int .i64) (.pair (.int .i64) (.sl (.st (.pair (.int .i64) (.pair (.int .i64) (.pair (.sl (.int .i64)) (.pair (.int .i64) (.pair (.int .i64) (.sl (.int .i64))))))))))))]) : den R_SameCircuit.G Go.Proofs.Try.f9 [(.st (.pair (.int .i64) (.pair (.int .i64) (.sl (.st (.pair (.int .i64) (.pair (.int .i64) (.pair (.sl (.int .i64)) (.pair (.int .i64) (.pair (.int .i64) (.sl (.int .i64)))))))))))), (.st (.pair (.int .i64) (.pair (.int .i64) (.sl (.st (.pair (.int .i64) (.pair (.int .i64) (.pair (.sl (.int .i64)) (.pair (.int .i64) (.pair (.int .i64) (.sl (.int .i64))))))))))))] [.bool] x_ = R_SameCircuit x_.1 x_.2 := by kernel_rfl
theorem R_SameCircuit.p0 : PieceOk R_SameCircuit.G (pieceAt (pieces R_SameCircuit.G.cks (bodyOf Go.Proofs.Try.f9)) 0).1 (pieceAt (pieces R_SameCircuit.G.cks (bodyOf Go.Proofs.Try.f9)) 0).2 :=
  region_ok (s := R_SameCircuit.c1r) (by kernel_rfl) (by kernel_rfl) (sums_of (sh := R_SameCircuit.c1s) (fun ρ x_ k_ => (nat_br nat_leaf (nat_br nat_leaf nat_leaf))) (fun ρ x_ t k => (by kernel_rfl)) (fun x_ => by kernel_rfl))
theorem R_SameCircuit.p1 : PieceOk R_SameCircuit.G (pieceAt (pieces R_SameCircuit.G.cks (bodyOf Go.Proofs.Try.f9)) 1).1 (pieceAt (pieces R_SameCircuit.G.cks (bodyOf Go.Proofs.Try.f9)) 1).2 :=
  loop_ok (s := R_SameCircuit.c100004r) (by kernel_rfl) (by kernel_rfl) (loops_of (sh := R_SameCircuit.c100004s) (I := fun x_ s_ => (x_.1, x_.2.1, x_.2.2.1, s_, x_.2.2.2.2.1, x_.2.2.2.2.2.1, x_.2.2.2.2.2.2.1, x_.2.2.2.2.2.2.2.1, x_.2.2.2.2.2.2.2.2.1, x_.2.2.2.2.2.2.2.2.2.1, ())) (fun x_ => rfl) (fun ρ x_ s_ k_ => (nat_br (nat_bnd fun _ => (nat_bnd fun _ => (nat_bnd fun _ => (nat_br nat_leaf nat_leaf)))) nat_leaf)) (fun ρ x_ t k => (nat_sel (fun _ => (by kernel_rfl)) (fun _ => (by kernel_rfl)))) (fun x_ s => by kernel_rfl))
theorem R_SameCircuit.p2 : PieceOk R_SameCircuit.G (pieceAt (pieces R_SameCircuit.G.cks (bodyOf Go.Proofs.Try.f9)) 2).1 (pieceAt (pieces R_SameCircuit.G.cks (bodyOf Go.Proofs.Try.f9)) 2).2 :=
  region_ok (s := R_SameCircuit.c8r) (by kernel_rfl) (by kernel_rfl) (sums_of (sh := R_SameCircuit.c8s) (fun ρ x_ k_ => (nat_br nat_leaf (nat_br nat_leaf (nat_br nat_leaf (nat_br nat_leaf (nat_bnd fun _ => (nat_br nat_leaf (nat_bnd fun _ => nat_leaf)))))))) (fun ρ x_ t k => (by kernel_rfl)) (fun x_ => by kernel_rfl))
theorem R_SameCircuit.ok : CalleeOk Go.Proofs.Try.prog 9 R_SameCircuit.ce := fn_ok (G := R_SameCircuit.G) tab_ok mixed Go.Proofs.Try.func9 ⟨(fns_cons R_SameInts.ok fns_nil), mfns_nil, tab_eqs_ok⟩ (m := 3) (by kernel_rfl) ⟨⟨⟨trivial, R_SameCircuit.p0⟩, R_SameCircuit.p1⟩, R_SameCircuit.p2⟩ (by kernel_rfl) R_SameCircuit.eq
def R_Basic.c1 {ρ : Type} (o0 : Int) (o2 : List (Int)) (k_ : Bool → Option ρ) : Option ρ :=
  br ((↑(List.length o2) : Int) == (0 : Int))
   (k_ true)
   (br (o0 == (2 : Int))
     (k_ ((↑(List.length o2) : Int) == (1 : Int)))
     (k_ false))
def R_Basic.c1s : Shape := ⟨[(0, lc12), (1, lc5), (2, lc11)], [(1, lc13)]⟩
def R_Basic.c1x0 : Shape := ⟨[(0, lc12), (1, lc5), (2, lc11)], [(1, lc13)]⟩
def R_Basic.c1r : Ck := Ck.of (T := Bool) R_Basic.c1s (fun ρ x_ k_ => uP x_ fun o x_ => uP x_ fun t2 x_ => uP x_ fun o0 x_ => uP x_ fun o1 x_ => uP x_ fun o2 x_ => uP x_ fun o3 x_ => uP x_ fun o4 x_ => uP x_ fun o5 x_ => R_Basic.c1 o0 o2 k_) (fun ρ x_ r_ k_ => uP x_ fun o x_ => uP x_ fun t2 x_ => uP x_ fun o0 x_ => uP x_ fun o1 x_ => uP x_ fun o2 x_ => uP x_ fun o3 x_ => uP x_ fun o4 x_ => uP x_ fun o5 x_ => k_ 0 (Shape.inj R_Basic.c1x0 (o, r_, o0, o1, o2, o3, o4, o5, ())))
def R_Basic (o : (Int) × ((Int) × ((List Int) × ((Int) × ((Int) × (List Int)))))) : Option (Bool) :=
  bnd (W.R_Basic.c1 (Prod.fst o) (Prod.fst (Prod.snd (Prod.snd o))) some) fun y =>
  some y
def R_Basic.ce : Go.Ql.Callee := ⟨[(.st (.pair (.int .i64) (.pair (.int .i64) (.pair (.sl (.int .i64)) (.pair (.int .i64) (.pair (.int .i64) (.sl (.int .i64))))))))], [.bool], fun x_ => R_Basic x_⟩
def R_Basic.G : Env := ⟨18, tab, [], [0, 1, 2], [], [], [(1, R_Basic.c1r)], [], tab_eqs⟩
theorem R_Basic.eq (x_ : dens [(.st (.pair (.int .i64) (.pair (.int .i64) (.pair (.sl (.int .i64)) (.pair (.int .i64) (.pair (.int .i64) (.sl (.int .i64))))))))]) : den R_Basic.G Go.Proofs.Try.f11 [(.st (.pair (.int .i64) (.pair (.int .i64) (.pair (.sl (.int .i64)) (.pair (.int .i64) (.pair (.int .i64) (.sl (.int .i64))))))))] [.bool] x_ = R_Basic x_ := by kernel_rfl
theorem R_Basic.p0 : PieceOk R_Basic.G (pieceAt (pieces R_Basic.G.cks (bodyOf Go.Proofs.Try.f11)) 0).1 (pieceAt (pieces R_Basic.G.cks (bodyOf Go.Proofs.Try.f11)) 0).2 :=
  region_ok (s := R_Basic.c1r) (by kernel_rfl) (by kernel_rfl) (sums_of (sh := R_Basic.c1s) (fun ρ x_ k_ => (nat_br nat_leaf (nat_br nat_leaf nat_leaf))) (fun ρ x_ t k => (by kernel_rfl)) (fun x_ => by kernel_rfl))
theorem R_Basic.ok : CalleeOk Go.Proofs.Try.prog 11 R_Basic.ce := fn_ok (G := R_Basic.G) tab_ok mixed Go.Proofs.Try.func11 ⟨fns_nil, mfns_nil, tab_eqs_ok⟩ (m := 1) (by kernel_rfl) ⟨trivial, R_Basic.p0⟩ (by kernel_rfl) R_Basic.eq
def Law_LowerForms.c4 {ρ : Type} (c0 : Int) (c1 : Int) (c2 : List ((Int) × ((Int) × ((List Int) × ((Int) × ((Int) × (List Int))))))) (given0 : Int) (given1 : Int) (given2 : List ((Int) × ((Int) × ((List Int) × ((Int) × ((Int) × (List Int))))))) (f0 : Int) (f1 : Int) (g0 : Int) (g1 : Int) (k_ : Bool → Option ρ) : Option ρ :=
  bnd W.Law_lowerBegun fun y =>
  br (!y)
   (k_ true)
   (br (!Ty.eqT (Ty.pair (Ty.int IntKind.i64) (Ty.int IntKind.i64)) (f0, f1) (g0, g1))
     (k_ true)
     (bnd (W.R_SameCircuit (given0, given1, given2) (c0, c1, c2)) fun y_1 =>
      k_ (!y_1)))
def Law_LowerForms.c4s : Shape := ⟨[(0, lc4), (1, lc5), (2, lc11), (3, lc7), (4, lc15), (5, lc27), (6, lc2), (7, lc30)], [(1, lc8), (3, lc8), (4, lc8), (5, lc14), (7, lc14)]⟩
def Law_LowerForms.c4x0 : Shape := ⟨[(0, lc4), (1, lc5), (2, lc11), (3, lc7), (4, lc15), (5, lc27), (6, lc2), (7, lc30), (37, lc11)], [(1, lc8), (3, lc8), (4, lc8), (5, lc14), (7, lc14)]⟩
def Law_LowerForms.c4r : Ck := Ck.of (T := Bool) Law_LowerForms.c4s (fun ρ x_ k_ => uP x_ fun c x_ => uP x_ fun t2 x_ => uP x_ fun a x_ => uP x_ fun c0 x_ => uP x_ fun c1 x_ => uP x_ fun c2 x_ => uP x_ fun given0 x_ => uP x_ fun given1 x_ => uP x_ fun given2 x_ => uP x_ fun b0 x_ => uP x_ fun b1 x_ => uP x_ fun b2 x_ => uP x_ fun f0 x_ => uP x_ fun f1 x_ => uP x_ fun g0 x_ => uP x_ fun g1 x_ => Law_LowerForms.c4 c0 c1 c2 given0 given1 given2 f0 f1 g0 g1 k_) (fun ρ x_ r_ k_ => uP x_ fun c x_ => uP x_ fun t2 x_ => uP x_ fun a x_ => uP x_ fun c0 x_ => uP x_ fun c1 x_ => uP x_ fun c2 x_ => uP x_ fun given0 x_ => uP x_ fun given1 x_ => uP x_ fun given2 x_ => uP x_ fun b0 x_ => uP x_ fun b1 x_ => uP x_ fun b2 x_ => uP x_ fun f0 x_ => uP x_ fun f1 x_ => uP x_ fun g0 x_ => uP x_ fun g1 x_ => k_ 0 (Shape.inj Law_LowerForms.c4x0 (c, t2, a, r_, c0, c1, c2, given0, given1, given2, b0, b1, b2, f0, f1, g0, g1, ())))
def Law_LowerForms.c7 {ρ : Type} (b0 : Int) (b1 : Int) (b2 : List ((Int) × ((Int) × ((List Int) × ((Int) × ((Int) × (List Int))))))) (k_ : Bool → Option ρ) : Option ρ :=
  br (b0 == (0 : Int))
   (br (b1 == (0 : Int))
     (k_ ((↑(List.length b2) : Int) == (0 : Int)))
     (k_ false))
   (k_ false)
def Law_LowerForms.c7s : Shape := ⟨[(0, lc4), (1, lc5), (2, lc11), (3, lc7), (4, lc15), (5, lc27), (6, lc2), (7, lc30)], [(1, lc8), (3, lc8), (4, lc8), (5, lc14), (7, lc14)]⟩
def Law_LowerForms.c7x0 : Shape := ⟨[(0, lc4), (1, lc5), (2, lc11), (3, lc7), (4, lc15), (5, lc27), (6, lc2), (7, lc30)], [(1, lc8), (3, lc8), (4, lc8), (5, lc14), (7, lc14)]⟩
def Law_LowerForms.c7r : Ck := Ck.of (T := Bool) Law_LowerForms.c7s (fun ρ x_ k_ => uP x_ fun c x_ => uP x_ fun t2 x_ => uP x_ fun a x_ => uP x_ fun c0 x_ => uP x_ fun c1 x_ => uP x_ fun c2 x_ => uP x_ fun given0 x_ => uP x_ fun given1 x_ => uP x_ fun given2 x_ => uP x_ fun b0 x_ => uP x_ fun b1 x_ => uP x_ fun b2 x_ => uP x_ fun f0 x_ => uP x_ fun f1 x_ => uP x_ fun g0 x_ => uP x_ fun g1 x_ => Law_LowerForms.c7 b0 b1 b2 k_) (fun ρ x_ r_ k_ => uP x_ fun c x_ => uP x_ fun t2 x_ => uP x_ fun a x_ => uP x_ fun c0 x_ => uP x_ fun c1 x_ => uP x_ fun c2 x_ => uP x_ fun given0 x_ => uP x_ fun given1 x_ => uP x_ fun given2 x_ => uP x_ fun b0 x_ => uP x_ fun b1 x_ => uP x_ fun b2 x_ => uP x_ fun f0 x_ => uP x_ fun f1 x_ => uP x_ fun g0 x_ => uP x_ fun g1 x_ => k_ 0 (Shape.inj Law_LowerForms.c7x0 (c, r_, a, c0, c1, c2, given0, given1, given2, b0, b1, b2, f0, f1, g0, g1, ())))
def Law_LowerForms.c9 {ρ : Type} (a : Int) (c0 : Int) (c1 : Int) (b0 : Int) (b1 : Int) (h0 : Int) (k_ : Bool → Option ρ) : Option ρ :=
  br (h0 != (0 : Int))
   (k_ true)
   (br (b0 != IntKind.wrap IntKind.i64 (c0 + a))
     (k_ true)
     (k_ (b1 != c1)))
def Law_LowerForms.c9s : Shape := ⟨[(0, lc4), (1, lc5), (2, lc11), (3, lc7), (4, lc15), (5, lc27), (6, lc2), (7, lc30), (8, lc24)], [(1, lc8), (3, lc8), (4, lc8), (5, lc14), (7, lc14), (8, lc14)]⟩
def Law_LowerForms.c9x0 : Shape := ⟨[(0, lc4), (1, lc5), (2, lc11), (3, lc7), (4, lc15), (5, lc27), (6, lc2), (7, lc30), (8, lc24), (75, lc11)], [(1, lc8), (3, lc8), (4, lc8), (5, lc14), (7, lc14), (8, lc14)]⟩
def Law_LowerForms.c9r : Ck := Ck.of (T := Bool) Law_LowerForms.c9s (fun ρ x_ k_ => uP x_ fun c x_ => uP x_ fun t2 x_ => uP x_ fun a x_ => uP x_ fun c0 x_ => uP x_ fun c1 x_ => uP x_ fun c2 x_ => uP x_ fun given0 x_ => uP x_ fun given1 x_ => uP x_ fun given2 x_ => uP x_ fun b0 x_ => uP x_ fun b1 x_ => uP x_ fun b2 x_ => uP x_ fun f0 x_ => uP x_ fun f1 x_ => uP x_ fun g0 x_ => uP x_ fun g1 x_ => uP x_ fun h0 x_ => uP x_ fun h1 x_ => Law_LowerForms.c9 a c0 c1 b0 b1 h0 k_) (fun ρ x_ r_ k_ => uP x_ fun c x_ => uP x_ fun t2 x_ => uP x_ fun a x_ => uP x_ fun c0 x_ => uP x_ fun c1 x_ => uP x_ fun c2 x_ => uP x_ fun given0 x_ => uP x_ fun given1 x_ => uP x_ fun given2 x_ => uP x_ fun b0 x_ => uP x_ fun b1 x_ => uP x_ fun b2 x_ => uP x_ fun f0 x_ => uP x_ fun f1 x_ => uP x_ fun g0 x_ => uP x_ fun g1 x_ => uP x_ fun h0 x_ => uP x_ fun h1 x_ => k_ 0 (Shape.inj Law_LowerForms.c9x0 (c, t2, a, r_, c0, c1, c2, given0, given1, given2, b0, b1, b2, f0, f1, g0, g1, h0, h1, ())))
def Law_LowerForms.c269637 {ρ : Type} (size : Int) (i : Int) (c2 : List ((Int) × ((Int) × ((List Int) × ((Int) × ((Int) × (List Int))))))) (k_ : Int → Option ρ) : Option ρ :=
  bnd (idx c2 i) fun y =>
  br (decide ((↑(List.length (Prod.fst (Prod.snd (Prod.snd y)))) : Int) > (0 : Int)))
   (k_ (IntKind.wrap IntKind.i64 (size + (220 : Int))))
   (k_ size)
def Law_LowerForms.c269637s : Shape := ⟨[(0, lc4), (1, lc5), (2, lc11), (3, lc7), (4, lc15), (5, lc27), (6, lc2), (7, lc30), (8, lc24), (9, lc2), (10, lc2), (11, lc2)], [(1, lc8), (3, lc8), (4, lc8), (5, lc14), (7, lc14), (8, lc14)]⟩
def Law_LowerForms.c269637x0 : Shape := ⟨[(0, lc4), (1, lc5), (2, lc11), (3, lc7), (4, lc15), (5, lc27), (6, lc2), (7, lc30), (8, lc24), (9, lc2), (10, lc2), (11, lc2)], [(1, lc8), (3, lc8), (4, lc8), (5, lc14), (7, lc14), (8, lc14)]⟩
def Law_LowerForms.c269637r : Ck := Ck.of (T := Int) Law_LowerForms.c269637s (fun ρ x_ k_ => uP x_ fun c x_ => uP x_ fun t2 x_ => uP x_ fun a x_ => uP x_ fun size x_ => uP x_ fun meets x_ => uP x_ fun i x_ => uP x_ fun c0 x_ => uP x_ fun c1 x_ => uP x_ fun c2 x_ => uP x_ fun given0 x_ => uP x_ fun given1 x_ => uP x_ fun given2 x_ => uP x_ fun b0 x_ => uP x_ fun b1 x_ => uP x_ fun b2 x_ => uP x_ fun f0 x_ => uP x_ fun f1 x_ => uP x_ fun g0 x_ => uP x_ fun g1 x_ => uP x_ fun h0 x_ => uP x_ fun h1 x_ => Law_LowerForms.c269637 size i c2 k_) (fun ρ x_ r_ k_ => uP x_ fun c x_ => uP x_ fun t2 x_ => uP x_ fun a x_ => uP x_ fun size x_ => uP x_ fun meets x_ => uP x_ fun i x_ => uP x_ fun c0 x_ => uP x_ fun c1 x_ => uP x_ fun c2 x_ => uP x_ fun given0 x_ => uP x_ fun given1 x_ => uP x_ fun given2 x_ => uP x_ fun b0 x_ => uP x_ fun b1 x_ => uP x_ fun b2 x_ => uP x_ fun f0 x_ => uP x_ fun f1 x_ => uP x_ fun g0 x_ => uP x_ fun g1 x_ => uP x_ fun h0 x_ => uP x_ fun h1 x_ => k_ 0 (Shape.inj Law_LowerForms.c269637x0 (c, t2, a, r_, meets, i, c0, c1, c2, given0, given1, given2, b0, b1, b2, f0, f1, g0, g1, h0, h1, ())))
def Law_LowerForms.c265550 {ρ : Type} (size : Int) (meets : Int) (i : Int) (c2 : List ((Int) × ((Int) × ((List Int) × ((Int) × ((Int) × (List Int))))))) (k_ : (Int) × (Int) → Option ρ) : Option ρ :=
  bnd (W.Law_LowerForms.c269637 (IntKind.wrap IntKind.i64 (size + (1 : Int))) i c2 some) fun y =>
  bnd (idx c2 i) fun y_1 =>
  br (decide (Prod.fst y_1 ≥ (5 : Int)))
   (k_ (y, (IntKind.wrap IntKind.i64 (meets + (1 : Int)))))
   (k_ (y, meets))
def Law_LowerForms.c265550s : Shape := ⟨[(0, lc4), (1, lc5), (2, lc11), (3, lc7), (4, lc15), (5, lc27), (6, lc2), (7, lc30), (8, lc24), (9, lc2), (10, lc2), (11, lc2)], [(1, lc8), (3, lc8), (4, lc8), (5, lc14), (7, lc14), (8, lc14)]⟩
def Law_LowerForms.c265550x0 : Shape := ⟨[(0, lc4), (1, lc5), (2, lc11), (3, lc7), (4, lc15), (5, lc27), (6, lc2), (7, lc30), (8, lc24), (9, lc2), (10, lc2), (11, lc2)], [(1, lc8), (3, lc8), (4, lc8), (5, lc14), (7, lc14), (8, lc14)]⟩
def Law_LowerForms.c265550r : Ck := Ck.of (T := (Int) × (Int)) Law_LowerForms.c265550s (fun ρ x_ k_ => uP x_ fun c x_ => uP x_ fun t2 x_ => uP x_ fun a x_ => uP x_ fun size x_ => uP x_ fun meets x_ => uP x_ fun i x_ => uP x_ fun c0 x_ => uP x_ fun c1 x_ => uP x_ fun c2 x_ => uP x_ fun given0 x_ => uP x_ fun given1 x_ => uP x_ fun given2 x_ => uP x_ fun b0 x_ => uP x_ fun b1 x_ => uP x_ fun b2 x_ => uP x_ fun f0 x_ => uP x_ fun f1 x_ => uP x_ fun g0 x_ => uP x_ fun g1 x_ => uP x_ fun h0 x_ => uP x_ fun h1 x_ => Law_LowerForms.c265550 size meets i c2 k_) (fun ρ x_ r_ k_ => uP x_ fun c x_ => uP x_ fun t2 x_ => uP x_ fun a x_ => uP x_ fun size x_ => uP x_ fun meets x_ => uP x_ fun i x_ => uP x_ fun c0 x_ => uP x_ fun c1 x_ => uP x_ fun c2 x_ => uP x_ fun given0 x_ => uP x_ fun given1 x_ => uP x_ fun given2 x_ => uP x_ fun b0 x_ => uP x_ fun b1 x_ => uP x_ fun b2 x_ => uP x_ fun f0 x_ => uP x_ fun f1 x_ => uP x_ fun g0 x_ => uP x_ fun g1 x_ => uP x_ fun h0 x_ => uP x_ fun h1 x_ => k_ 0 (Shape.inj Law_LowerForms.c265550x0 (c, t2, a, r_.1, r_.2, i, c0, c1, c2, given0, given1, given2, b0, b1, b2, f0, f1, g0, g1, h0, h1, ())))
def Law_LowerForms.c100014 {ρ : Type} (size : Int) (meets : Int) (i : Int) (c2 : List ((Int) × ((Int) × ((List Int) × ((Int) × ((Int) × (List Int))))))) (k_ : ((Int) × (Int) × (Int)) ⊕ ((Int) × (Int) × (Int)) → Option ρ) : Option ρ :=
  br (decide (i < (↑(List.length c2) : Int)))
   (bnd (W.Law_LowerForms.c265550 size meets i c2 some) fun y =>
    k_ (.inl ((Prod.fst y), (Prod.snd y), (IntKind.wrap IntKind.i64 (i + (1 : Int))))))
   (k_ (.inr (size, meets, i)))
def Law_LowerForms.c100014s : Shape := ⟨[(0, lc4), (1, lc5), (2, lc11), (3, lc7), (4, lc15), (5, lc27), (6, lc2), (7, lc30), (8, lc24), (9, lc2), (10, lc2), (11, lc2)], [(1, lc8), (3, lc8), (4, lc8), (5, lc14), (7, lc14), (8, lc14)]⟩
def Law_LowerForms.c100014x0 : Shape := ⟨[(0, lc4), (1, lc5), (2, lc11), (3, lc7), (4, lc15), (5, lc27), (6, lc2), (7, lc30), (8, lc24), (9, lc2), (10, lc2), (11, lc2)], [(1, lc8), (3, lc8), (4, lc8), (5, lc14), (7, lc14), (8, lc14)]⟩
def Law_LowerForms.c100014r : Ck := Ck.ofLoop (S := (Int) × (Int) × (Int)) (T := (Int) × (Int) × (Int)) Law_LowerForms.c100014s (fun x_ => uP x_ fun c x_ => uP x_ fun t2 x_ => uP x_ fun a x_ => uP x_ fun size x_ => uP x_ fun meets x_ => uP x_ fun i x_ => uP x_ fun c0 x_ => uP x_ fun c1 x_ => uP x_ fun c2 x_ => uP x_ fun given0 x_ => uP x_ fun given1 x_ => uP x_ fun given2 x_ => uP x_ fun b0 x_ => uP x_ fun b1 x_ => uP x_ fun b2 x_ => uP x_ fun f0 x_ => uP x_ fun f1 x_ => uP x_ fun g0 x_ => uP x_ fun g1 x_ => uP x_ fun h0 x_ => uP x_ fun h1 x_ => (size, meets, i)) (fun ρ x_ s_ k_ => uP x_ fun c x_ => uP x_ fun t2 x_ => uP x_ fun a x_ => uP x_ fun size x_ => uP x_ fun meets x_ => uP x_ fun i x_ => uP x_ fun c0 x_ => uP x_ fun c1 x_ => uP x_ fun c2 x_ => uP x_ fun given0 x_ => uP x_ fun given1 x_ => uP x_ fun given2 x_ => uP x_ fun b0 x_ => uP x_ fun b1 x_ => uP x_ fun b2 x_ => uP x_ fun f0 x_ => uP x_ fun f1 x_ => uP x_ fun g0 x_ => uP x_ fun g1 x_ => uP x_ fun h0 x_ => uP x_ fun h1 x_ => Law_LowerForms.c100014 s_.1 s_.2.1 s_.2.2 c2 k_) (fun ρ x_ r_ k_ => uP x_ fun c x_ => uP x_ fun t2 x_ => uP x_ fun a x_ => uP x_ fun size x_ => uP x_ fun meets x_ => uP x_ fun i x_ => uP x_ fun c0 x_ => uP x_ fun c1 x_ => uP x_ fun c2 x_ => uP x_ fun given0 x_ => uP x_ fun given1 x_ => uP x_ fun given2 x_ => uP x_ fun b0 x_ => uP x_ fun b1 x_ => uP x_ fun b2 x_ => uP x_ fun f0 x_ => uP x_ fun f1 x_ => uP x_ fun g0 x_ => uP x_ fun g1 x_ => uP x_ fun h0 x_ => uP x_ fun h1 x_ => k_ 2 (Shape.inj Law_LowerForms.c100014x0 (c, t2, a, r_.1, r_.2.1, r_.2.2, c0, c1, c2, given0, given1, given2, b0, b1, b2, f0, f1, g0, g1, h0, h1, ())))
def Law_LowerForms.c298318 {ρ : Type} (meets : Int) (i_1 : Int) (b2 : List ((Int) × ((Int) × ((List Int) × ((Int) × ((Int) × (List Int))))))) (k_ : (Unit) ⊕ (Int) → Option ρ) : Option ρ :=
  bnd (idx b2 i_1) fun y =>
  bnd (W.R_Basic y) fun y_1 =>
  br (!y_1)
   (k_ (.inl ()))
   (bnd (idx b2 i_1) fun y_2 =>
    br (decide (Prod.fst y_2 ≥ (5 : Int)))
     (k_ (.inr (IntKind.wrap IntKind.i64 (meets - (1 : Int)))))
     (k_ (.inr meets)))
def Law_LowerForms.c298318s : Shape := ⟨[(0, lc4), (1, lc5), (2, lc11), (3, lc7), (4, lc15), (5, lc27), (6, lc2), (7, lc30), (8, lc24), (9, lc2), (10, lc2), (11, lc2), (12, lc2)], [(1, lc8), (3, lc8), (4, lc8), (5, lc14), (7, lc14), (8, lc14)]⟩
def Law_LowerForms.c298318x0 : Shape := ⟨[(0, lc4), (1, lc5), (2, lc11), (3, lc7), (4, lc15), (5, lc27), (6, lc2), (7, lc30), (8, lc24), (9, lc2), (10, lc2), (11, lc2), (12, lc2)], [(1, lc8), (3, lc8), (4, lc8), (5, lc14), (7, lc14), (8, lc14)]⟩
def Law_LowerForms.c298318x1 : Shape := ⟨[(0, lc4), (1, lc5), (2, lc11), (3, lc7), (4, lc15), (5, lc27), (6, lc2), (7, lc30), (8, lc24), (9, lc2), (10, lc2), (11, lc2), (12, lc2)], [(1, lc8), (3, lc8), (4, lc8), (5, lc14), (7, lc14), (8, lc14)]⟩
def Law_LowerForms.c298318r : Ck := Ck.of (T := (Unit) ⊕ (Int)) Law_LowerForms.c298318s (fun ρ x_ k_ => uP x_ fun c x_ => uP x_ fun t2 x_ => uP x_ fun a x_ => uP x_ fun size x_ => uP x_ fun meets x_ => uP x_ fun i x_ => uP x_ fun i_1 x_ => uP x_ fun c0 x_ => uP x_ fun c1 x_ => uP x_ fun c2 x_ => uP x_ fun given0 x_ => uP x_ fun given1 x_ => uP x_ fun given2 x_ => uP x_ fun b0 x_ => uP x_ fun b1 x_ => uP x_ fun b2 x_ => uP x_ fun f0 x_ => uP x_ fun f1 x_ => uP x_ fun g0 x_ => uP x_ fun g1 x_ => uP x_ fun h0 x_ => uP x_ fun h1 x_ => Law_LowerForms.c298318 meets i_1 b2 k_) (fun ρ x_ r_ k_ => uP x_ fun c x_ => uP x_ fun t2 x_ => uP x_ fun a x_ => uP x_ fun size x_ => uP x_ fun meets x_ => uP x_ fun i x_ => uP x_ fun i_1 x_ => uP x_ fun c0 x_ => uP x_ fun c1 x_ => uP x_ fun c2 x_ => uP x_ fun given0 x_ => uP x_ fun given1 x_ => uP x_ fun given2 x_ => uP x_ fun b0 x_ => uP x_ fun b1 x_ => uP x_ fun b2 x_ => uP x_ fun f0 x_ => uP x_ fun f1 x_ => uP x_ fun g0 x_ => uP x_ fun g1 x_ => uP x_ fun h0 x_ => uP x_ fun h1 x_ => sel r_ (fun r_ => k_ 1 (Shape.inj Law_LowerForms.c298318x0 (c, false, a, size, meets, i, i_1, c0, c1, c2, given0, given1, given2, b0, b1, b2, f0, f1, g0, g1, h0, h1, ()))) (fun r_ => k_ 0 (Shape.inj Law_LowerForms.c298318x1 (c, t2, a, size, r_, i, i_1, c0, c1, c2, given0, given1, given2, b0, b1, b2, f0, f1, g0, g1, h0, h1, ()))))
def Law_LowerForms.c100022 {ρ : Type} (meets : Int) (i_1 : Int) (b2 : List ((Int) × ((Int) × ((List Int) × ((Int) × ((Int) × (List Int))))))) (k_ : ((Int) × (Int)) ⊕ (((Int) × (Int)) ⊕ ((Int) × (Int))) → Option ρ) : Option ρ :=
  br (decide (i_1 < (↑(List.length b2) : Int)))
   (bnd (W.Law_LowerForms.c298318 meets i_1 b2 some) fun y =>
    sel y
     (fun u => k_ (.inr (.inl (meets, i_1))))
     (fun v => k_ (.inl (v, (IntKind.wrap IntKind.i64 (i_1 + (1 : Int)))))))
   (k_ (.inr (.inr (meets, i_1))))
def Law_LowerForms.c100022s : Shape := ⟨[(0, lc4), (1, lc5), (2, lc11), (3, lc7), (4, lc15), (5, lc27), (6, lc2), (7, lc30), (8, lc24), (9, lc2), (10, lc2), (11, lc2), (12, lc2)], [(1, lc8), (3, lc8), (4, lc8), (5, lc14), (7, lc14), (8, lc14)]⟩
def Law_LowerForms.c100022x0 : Shape := ⟨[(0, lc4), (1, lc5), (2, lc11), (3, lc7), (4, lc15), (5, lc27), (6, lc2), (7, lc30), (8, lc24), (9, lc2), (10, lc2), (11, lc2), (12, lc2)], [(1, lc8), (3, lc8), (4, lc8), (5, lc14), (7, lc14), (8, lc14)]⟩
def Law_LowerForms.c100022x1 : Shape := ⟨[(0, lc4), (1, lc5), (2, lc11), (3, lc7), (4, lc15), (5, lc27), (6, lc2), (7, lc30), (8, lc24), (9, lc2), (10, lc2), (11, lc2), (12, lc2)], [(1, lc8), (3, lc8), (4, lc8), (5, lc14), (7, lc14), (8, lc14)]⟩
def Law_LowerForms.c100022r : Ck := Ck.ofLoop (S := (Int) × (Int)) (T := ((Int) × (Int)) ⊕ ((Int) × (Int))) Law_LowerForms.c100022s (fun x_ => uP x_ fun c x_ => uP x_ fun t2 x_ => uP x_ fun a x_ => uP x_ fun size x_ => uP x_ fun meets x_ => uP x_ fun i x_ => uP x_ fun i_1 x_ => uP x_ fun c0 x_ => uP x_ fun c1 x_ => uP x_ fun c2 x_ => uP x_ fun given0 x_ => uP x_ fun given1 x_ => uP x_ fun given2 x_ => uP x_ fun b0 x_ => uP x_ fun b1 x_ => uP x_ fun b2 x_ => uP x_ fun f0 x_ => uP x_ fun f1 x_ => uP x_ fun g0 x_ => uP x_ fun g1 x_ => uP x_ fun h0 x_ => uP x_ fun h1 x_ => (meets, i_1)) (fun ρ x_ s_ k_ => uP x_ fun c x_ => uP x_ fun t2 x_ => uP x_ fun a x_ => uP x_ fun size x_ => uP x_ fun meets x_ => uP x_ fun i x_ => uP x_ fun i_1 x_ => uP x_ fun c0 x_ => uP x_ fun c1 x_ => uP x_ fun c2 x_ => uP x_ fun given0 x_ => uP x_ fun given1 x_ => uP x_ fun given2 x_ => uP x_ fun b0 x_ => uP x_ fun b1 x_ => uP x_ fun b2 x_ => uP x_ fun f0 x_ => uP x_ fun f1 x_ => uP x_ fun g0 x_ => uP x_ fun g1 x_ => uP x_ fun h0 x_ => uP x_ fun h1 x_ => Law_LowerForms.c100022 s_.1 s_.2 b2 k_) (fun ρ x_ r_ k_ => uP x_ fun c x_ => uP x_ fun t2 x_ => uP x_ fun a x_ => uP x_ fun size x_ => uP x_ fun meets x_ => uP x_ fun i x_ => uP x_ fun i_1 x_ => uP x_ fun c0 x_ => uP x_ fun c1 x_ => uP x_ fun c2 x_ => uP x_ fun given0 x_ => uP x_ fun given1 x_ => uP x_ fun given2 x_ => uP x_ fun b0 x_ => uP x_ fun b1 x_ => uP x_ fun b2 x_ => uP x_ fun f0 x_ => uP x_ fun f1 x_ => uP x_ fun g0 x_ => uP x_ fun g1 x_ => uP x_ fun h0 x_ => uP x_ fun h1 x_ => sel r_ (fun r_ => k_ 1 (Shape.inj Law_LowerForms.c100022x0 (c, false, a, size, r_.1, i, r_.2, c0, c1, c2, given0, given1, given2, b0, b1, b2, f0, f1, g0, g1, h0, h1, ()))) (fun r_ => k_ 4 (Shape.inj Law_LowerForms.c100022x1 (c, t2, a, size, r_.1, i, r_.2, c0, c1, c2, given0, given1, given2, b0, b1, b2, f0, f1, g0, g1, h0, h1, ()))))
def Law_LowerForms.c28 {ρ : Type} (size : Int) (meets : Int) (b2 : List ((Int) × ((Int) × ((List Int) × ((Int) × ((Int) × (List Int))))))) (k_ : Bool → Option ρ) : Option ρ :=
  br (decide ((↑(List.length b2) : Int) ≤ size))
   (k_ (meets == (0 : Int)))
   (k_ false)
def Law_LowerForms.c28s : Shape := ⟨[(0, lc4), (1, lc5), (2, lc11), (3, lc7), (4, lc15), (5, lc27), (6, lc2), (7, lc30), (8, lc24), (9, lc2), (10, lc2), (11, lc2), (12, lc2)], [(1, lc8), (3, lc8), (4, lc8), (5, lc14), (7, lc14), (8, lc14)]⟩
def Law_LowerForms.c28x0 : Shape := ⟨[(0, lc4), (1, lc5), (2, lc11), (3, lc7), (4, lc15), (5, lc27), (6, lc2), (7, lc30), (8, lc24), (9, lc2), (10, lc2), (11, lc2), (12, lc2)], [(1, lc8), (3, lc8), (4, lc8), (5, lc14), (7, lc14), (8, lc14)]⟩
def Law_LowerForms.c28r : Ck := Ck.of (T := Bool) Law_LowerForms.c28s (fun ρ x_ k_ => uP x_ fun c x_ => uP x_ fun t2 x_ => uP x_ fun a x_ => uP x_ fun size x_ => uP x_ fun meets x_ => uP x_ fun i x_ => uP x_ fun i_1 x_ => uP x_ fun c0 x_ => uP x_ fun c1 x_ => uP x_ fun c2 x_ => uP x_ fun given0 x_ => uP x_ fun given1 x_ => uP x_ fun given2 x_ => uP x_ fun b0 x_ => uP x_ fun b1 x_ => uP x_ fun b2 x_ => uP x_ fun f0 x_ => uP x_ fun f1 x_ => uP x_ fun g0 x_ => uP x_ fun g1 x_ => uP x_ fun h0 x_ => uP x_ fun h1 x_ => Law_LowerForms.c28 size meets b2 k_) (fun ρ x_ r_ k_ => uP x_ fun c x_ => uP x_ fun t2 x_ => uP x_ fun a x_ => uP x_ fun size x_ => uP x_ fun meets x_ => uP x_ fun i x_ => uP x_ fun i_1 x_ => uP x_ fun c0 x_ => uP x_ fun c1 x_ => uP x_ fun c2 x_ => uP x_ fun given0 x_ => uP x_ fun given1 x_ => uP x_ fun given2 x_ => uP x_ fun b0 x_ => uP x_ fun b1 x_ => uP x_ fun b2 x_ => uP x_ fun f0 x_ => uP x_ fun f1 x_ => uP x_ fun g0 x_ => uP x_ fun g1 x_ => uP x_ fun h0 x_ => uP x_ fun h1 x_ => k_ 0 (Shape.inj Law_LowerForms.c28x0 (c, r_, a, size, meets, i, i_1, c0, c1, c2, given0, given1, given2, b0, b1, b2, f0, f1, g0, g1, h0, h1, ())))
def Law_LowerForms (c : (Int) × ((Int) × (List ((Int) × ((Int) × ((List Int) × ((Int) × ((Int) × (List Int))))))))) : Option (Bool) :=
  bnd (W.R_CopyCircuit (Prod.fst c, Prod.fst (Prod.snd c), Prod.snd (Prod.snd c))) fun y =>
  bnd (W.lower_Base (Prod.fst y, Prod.fst (Prod.snd y), Prod.snd (Prod.snd y))) fun y_1 =>
  bnd (W.R_LowerFault (Prod.fst c, Prod.fst (Prod.snd c), Prod.snd (Prod.snd c))) fun y_2 =>
  bnd (W.Law_LowerForms.c4 (Prod.fst c) (Prod.fst (Prod.snd c)) (Prod.snd (Prod.snd c)) (Prod.fst y) (Prod.fst (Prod.snd y)) (Prod.snd (Prod.snd y)) (Prod.fst (Prod.snd y_1)) (Prod.snd (Prod.snd y_1)) (Prod.fst (Prod.snd y_2)) (Prod.snd (Prod.snd y_2)) some) fun y_3 =>
  br y_3
   (some false)
   (br (Prod.fst (Prod.snd y_2) != (0 : Int))
     (bnd (W.Law_LowerForms.c7 (Prod.fst (Prod.fst y_1)) (Prod.fst (Prod.snd (Prod.fst y_1))) (Prod.snd (Prod.snd (Prod.fst y_1))) some) fun y_4 =>
      some y_4)
     (bnd (W.R_Check (Prod.fst (Prod.fst y_1), Prod.fst (Prod.snd (Prod.fst y_1)), Prod.snd (Prod.snd (Prod.fst y_1)))) fun y_5 =>
      bnd (W.Law_LowerForms.c9 (Prod.fst y_2) (Prod.fst c) (Prod.fst (Prod.snd c)) (Prod.fst (Prod.fst y_1)) (Prod.fst (Prod.snd (Prod.fst y_1))) (Prod.fst y_5) some) fun y_6 =>
      br y_6
       (some false)
       (bnd (iter (fun s ↦ W.Law_LowerForms.c100014 (Prod.fst s) (Prod.fst (Prod.snd s)) (Prod.snd (Prod.snd s)) (Prod.snd (Prod.snd c)) some) ((0 : Int), (0 : Int), (0 : Int))) fun y_7 =>
        bnd (iter (fun s ↦ W.Law_LowerForms.c100022 (Prod.fst s) (Prod.snd s) (Prod.snd (Prod.snd (Prod.fst y_1))) some) (Prod.fst (Prod.snd y_7), (0 : Int))) fun y_8 =>
        sel y_8
         (fun u => some false)
         (fun v => bnd (W.Law_LowerForms.c28 (Prod.fst y_7) (Prod.fst v) (Prod.snd (Prod.snd (Prod.fst y_1))) some) fun y_9 =>
          some y_9))))
def Law_LowerForms.ce : Go.Ql.Callee := ⟨[(.st (.pair (.int .i64) (.pair (.int .i64) (.sl (.st (.pair (.int .i64) (.pair (.int .i64) (.pair (.sl (.int .i64)) (.pair (.int .i64) (.pair (.int .i64) (.sl (.int .i64))))))))))))], [.bool], fun x_ => Law_LowerForms x_⟩
def Law_LowerForms.G : Env := ⟨136, tab, [(5, R_CopyCircuit.ce), (6, lower_Base.ce), (7, R_LowerFault.ce), (8, Law_lowerBegun.ce), (9, R_SameCircuit.ce), (10, R_Check.ce), (11, R_Basic.ce)], [0, 1, 2, 3, 4, 5, 6, 7, 8, 9, 10, 11, 12, 37, 40, 75, 80, 92, 101, 108, 117, 124], [], [], [(28, Law_LowerForms.c28r), (100022, Law_LowerForms.c100022r), (298318, Law_LowerForms.c298318r), (100014, Law_LowerForms.c100014r), (265550, Law_LowerForms.c265550r), (269637, Law_LowerForms.c269637r), (9, Law_LowerForms.c9r), (7, Law_LowerForms.c7r), (4, Law_LowerForms.c4r)], [], tab_eqs⟩
theorem Law_LowerForms.eq (x_ : dens [(.st (.pair (.int .i64) (.pair (.int .i64) (.sl (.st (.pair (.int .i64) (.pair (.int .i64) (.pair (.sl (.int .i64)) (.pair (.int .i64) (.pair (.int .i64) (.sl (.int .i64))))))))))))]) : den Law_LowerForms.G Go.Proofs.Try.f3 [(.st (.pair (.int .i64) (.pair (.int .i64) (.sl (.st (.pair (.int .i64) (.pair (.int .i64) (.pair (.sl (.int .i64)) (.pair (.int .i64) (.pair (.int .i64) (.sl (.int .i64))))))))))))] [.bool] x_ = Law_LowerForms x_ := by kernel_rfl
theorem Law_LowerForms.p0 : PieceOk Law_LowerForms.G (pieceAt (pieces Law_LowerForms.G.cks (bodyOf Go.Proofs.Try.f3)) 0).1 (pieceAt (pieces Law_LowerForms.G.cks (bodyOf Go.Proofs.Try.f3)) 0).2 :=
  region_ok (s := Law_LowerForms.c4r) (by kernel_rfl) (by kernel_rfl) (sums_of (sh := Law_LowerForms.c4s) (fun ρ x_ k_ => (nat_bnd fun _ => (nat_br nat_leaf (nat_br nat_leaf (nat_bnd fun _ => nat_leaf))))) (fun ρ x_ t k => (by kernel_rfl)) (fun x_ => by kernel_rfl))
theorem Law_LowerForms.p1 : PieceOk Law_LowerForms.G (pieceAt (pieces Law_LowerForms.G.cks (bodyOf Go.Proofs.Try.f3)) 1).1 (pieceAt (pieces Law_LowerForms.G.cks (bodyOf Go.Proofs.Try.f3)) 1).2 :=
  region_ok (s := Law_LowerForms.c7r) (by kernel_rfl) (by kernel_rfl) (sums_of (sh := Law_LowerForms.c7s) (fun ρ x_ k_ => (nat_br (nat_br nat_leaf nat_leaf) nat_leaf)) (fun ρ x_ t k => (by kernel_rfl)) (fun x_ => by kernel_rfl))
theorem Law_LowerForms.p2 : PieceOk Law_LowerForms.G (pieceAt (pieces Law_LowerForms.G.cks (bodyOf Go.Proofs.Try.f3)) 2).1 (pieceAt (pieces Law_LowerForms.G.cks (bodyOf Go.Proofs.Try.f3)) 2).2 :=
  region_ok (s := Law_LowerForms.c9r) (by kernel_rfl) (by kernel_rfl) (sums_of (sh := Law_LowerForms.c9s) (fun ρ x_ k_ => (nat_br nat_leaf (nat_br nat_leaf nat_leaf))) (fun ρ x_ t k => (by kernel_rfl)) (fun x_ => by kernel_rfl))
theorem Law_LowerForms.p3 : PieceOk Law_LowerForms.G (pieceAt (pieces Law_LowerForms.G.cks (bodyOf Go.Proofs.Try.f3)) 3).1 (pieceAt (pieces Law_LowerForms.G.cks (bodyOf Go.Proofs.Try.f3)) 3).2 :=
  loop_ok (s := Law_LowerForms.c100014r) (by kernel_rfl) (by kernel_rfl) (loops_of (sh := Law_LowerForms.c100014s) (I := fun x_ s_ => (x_.1, x_.2.1, x_.2.2.1, s_.1, s_.2.1, s_.2.2, x_.2.2.2.2.2.2.1, x_.2.2.2.2.2.2.2.1, x_.2.2.2.2.2.2.2.2.1, x_.2.2.2.2.2.2.2.2.2.1, x_.2.2.2.2.2.2.2.2.2.2.1, x_.2.2.2.2.2.2.2.2.2.2.2.1, x_.2.2.2.2.2.2.2.2.2.2.2.2.1, x_.2.2.2.2.2.2.2.2.2.2.2.2.2.1, x_.2.2.2.2.2.2.2.2.2.2.2.2.2.2.1, x_.2.2.2.2.2.2.2.2.2.2.2.2.2.2.2.1, x_.2.2.2.2.2.2.2.2.2.2.2.2.2.2.2.2.1, x_.2.2.2.2.2.2.2.2.2.2.2.2.2.2.2.2.2.1, x_.2.2.2.2.2.2.2.2.2.2.2.2.2.2.2.2.2.2.1, x_.2.2.2.2.2.2.2.2.2.2.2.2.2.2.2.2.2.2.2.1, x_.2.2.2.2.2.2.2.2.2.2.2.2.2.2.2.2.2.2.2.2.1, ())) (fun x_ => rfl) (fun ρ x_ s_ k_ => (nat_br (nat_bnd fun _ => nat_leaf) nat_leaf)) (fun ρ x_ t k => (by kernel_rfl)) (fun x_ s => by kernel_rfl))
theorem Law_LowerForms.p4 : PieceOk Law_LowerForms.G (pieceAt (pieces Law_LowerForms.G.cks (bodyOf Go.Proofs.Try.f3)) 4).1 (pieceAt (pieces Law_LowerForms.G.cks (bodyOf Go.Proofs.Try.f3)) 4).2 :=
  join_ok (s := Law_LowerForms.c265550r) (by kernel_rfl) (by kernel_rfl) (sums_of (sh := Law_LowerForms.c265550s) (fun ρ x_ k_ => (nat_bnd fun _ => (nat_bnd fun _ => (nat_br nat_leaf nat_leaf)))) (fun ρ x_ t k => (by kernel_rfl)) (fun x_ => by kernel_rfl))
theorem Law_LowerForms.p5 : PieceOk Law_LowerForms.G (pieceAt (pieces Law_LowerForms.G.cks (bodyOf Go.Proofs.Try.f3)) 5).1 (pieceAt (pieces Law_LowerForms.G.cks (bodyOf Go.Proofs.Try.f3)) 5).2 :=
  join_ok (s := Law_LowerForms.c269637r) (by kernel_rfl) (by kernel_rfl) (sums_of (sh := Law_LowerForms.c269637s) (fun ρ x_ k_ => (nat_bnd fun _ => (nat_br nat_leaf nat_leaf))) (fun ρ x_ t k => (by kernel_rfl)) (fun x_ => by kernel_rfl))
theorem Law_LowerForms.p6 : PieceOk Law_LowerForms.G (pieceAt (pieces Law_LowerForms.G.cks (bodyOf Go.Proofs.Try.f3)) 6).1 (pieceAt (pieces Law_LowerForms.G.cks (bodyOf Go.Proofs.Try.f3)) 6).2 :=
  loop_ok (s := Law_LowerForms.c100022r) (by kernel_rfl) (by kernel_rfl) (loops_of (sh := Law_LowerForms.c100022s) (I := fun x_ s_ => (x_.1, x_.2.1, x_.2.2.1, x_.2.2.2.1, s_.1, x_.2.2.2.2.2.1, s_.2, x_.2.2.2.2.2.2.2.1, x_.2.2.2.2.2.2.2.2.1, x_.2.2.2.2.2.2.2.2.2.1, x_.2.2.2.2.2.2.2.2.2.2.1, x_.2.2.2.2.2.2.2.2.2.2.2.1, x_.2.2.2.2.2.2.2.2.2.2.2.2.1, x_.2.2.2.2.2.2.2.2.2.2.2.2.2.1, x_.2.2.2.2.2.2.2.2.2.2.2.2.2.2.1, x_.2.2.2.2.2.2.2.2.2.2.2.2.2.2.2.1, x_.2.2.2.2.2.2.2.2.2.2.2.2.2.2.2.2.1, x_.2.2.2.2.2.2.2.2.2.2.2.2.2.2.2.2.2.1, x_.2.2.2.2.2.2.2.2.2.2.2.2.2.2.2.2.2.2.1, x_.2.2.2.2.2.2.2.2.2.2.2.2.2.2.2.2.2.2.2.1, x_.2.2.2.2.2.2.2.2.2.2.2.2.2.2.2.2.2.2.2.2.1, x_.2.2.2.2.2.2.2.2.2.2.2.2.2.2.2.2.2.2.2.2.2.1, ())) (fun x_ => rfl) (fun ρ x_ s_ k_ => (nat_br (nat_bnd fun _ => (nat_sel (fun _ => nat_leaf) (fun _ => nat_leaf))) nat_leaf)) (fun ρ x_ t k => (nat_sel (fun _ => (by kernel_rfl)) (fun _ => (by kernel_rfl)))) (fun x_ s => by kernel_rfl))
theorem Law_LowerForms.p7 : PieceOk Law_LowerForms.G (pieceAt (pieces Law_LowerForms.G.cks (bodyOf Go.Proofs.Try.f3)) 7).1 (pieceAt (pieces Law_LowerForms.G.cks (bodyOf Go.Proofs.Try.f3)) 7).2 :=
  join_ok (s := Law_LowerForms.c298318r) (by kernel_rfl) (by kernel_rfl) (sums_of (sh := Law_LowerForms.c298318s) (fun ρ x_ k_ => (nat_bnd fun _ => (nat_bnd fun _ => (nat_br nat_leaf (nat_bnd fun _ => (nat_br nat_leaf nat_leaf)))))) (fun ρ x_ t k => (nat_sel (fun _ => (by kernel_rfl)) (fun _ => (by kernel_rfl)))) (fun x_ => by kernel_rfl))
theorem Law_LowerForms.p8 : PieceOk Law_LowerForms.G (pieceAt (pieces Law_LowerForms.G.cks (bodyOf Go.Proofs.Try.f3)) 8).1 (pieceAt (pieces Law_LowerForms.G.cks (bodyOf Go.Proofs.Try.f3)) 8).2 :=
  region_ok (s := Law_LowerForms.c28r) (by kernel_rfl) (by kernel_rfl) (sums_of (sh := Law_LowerForms.c28s) (fun ρ x_ k_ => (nat_br nat_leaf nat_leaf)) (fun ρ x_ t k => (by kernel_rfl)) (fun x_ => by kernel_rfl))
theorem Law_LowerForms.ok : CalleeOk Go.Proofs.Try.prog 3 Law_LowerForms.ce := fn_ok (G := Law_LowerForms.G) tab_ok mixed Go.Proofs.Try.func3 ⟨(fns_cons R_CopyCircuit.ok (fns_cons lower_Base.ok (fns_cons R_LowerFault.ok (fns_cons Law_lowerBegun.ok (fns_cons R_SameCircuit.ok (fns_cons R_Check.ok (fns_cons R_Basic.ok fns_nil))))))), mfns_nil, tab_eqs_ok⟩ (m := 9) (by kernel_rfl) ⟨⟨⟨⟨⟨⟨⟨⟨⟨trivial, Law_LowerForms.p0⟩, Law_LowerForms.p1⟩, Law_LowerForms.p2⟩, Law_LowerForms.p3⟩, Law_LowerForms.p4⟩, Law_LowerForms.p5⟩, Law_LowerForms.p6⟩, Law_LowerForms.p7⟩, Law_LowerForms.p8⟩ (by kernel_rfl) Law_LowerForms.eq
end
end W
end
