/- Lifted functions, part 3: each with its contract. -/
import Derived.Test.YtcndclcpmelgoaaDoorWb
import Derived.Test.YtcndclcpmelgoaaDoorProg
section
/- Functions of the program as typed functions, printed by a program of mine, with their proofs. -/
set_option maxHeartbeats 4000000
set_option maxRecDepth 100000
set_option linter.unusedVariables false
namespace W
open Go Go.Ql
noncomputable section
abbrev qc0 : SD := .one (.val (.st (.pair (.int .i64) (.pair (.int .i64) (.sl (.st (.pair (.int .i64) (.pair (.int .i64) (.pair (.sl (.int .i64)) (.pair (.int .i64) (.pair (.int .i64) (.sl (.int .i64)))))))))))))
abbrev qc1 : SD := .agg [.val (.int .i64), .val (.int .i64), .own 2 0]
abbrev qc2 : SO := .arr 0 false 57 (.st (.pair (.int .i64) (.pair (.int .i64) (.pair (.sl (.int .i64)) (.pair (.int .i64) (.pair (.int .i64) (.sl (.int .i64))))))))
abbrev qc3 : SD := .one (.ref 1 0)
abbrev qc4 : SD := .one (.ref 2 0)
abbrev qc5 : SD := .one (.ref 3 0)
abbrev qc6 : SD := .one (.val (.int .i64))
abbrev qc7 : SO := .box [.val (.int .i64), .val (.int .i64), .val (.sl (.st (.pair (.int .i64) (.pair (.int .i64) (.pair (.sl (.int .i64)) (.pair (.int .i64) (.pair (.int .i64) (.sl (.int .i64)))))))))]
abbrev qc8 : SO := .box [.val (.int .i64), .val (.int .i64), .own 3002 0]
abbrev qc9 : SO := .box [.val (.int .i64), .val (.int .i64), .own 3003 0]
def R_CopyCircuit__own.pre : Shape := ⟨[(0, qc0)], []⟩
def R_CopyCircuit__own.post : Shape := ⟨[(0, qc1)], [(2, qc2)]⟩
def R_CopyCircuit__own.c5 {ρ : Type} (i : Int) (c2 : List ((Int) × ((Int) × ((List Int) × ((Int) × ((Int) × (List Int))))))) (t3003 : List ((Int) × ((Int) × ((List Int) × ((Int) × ((Int) × (List Int))))))) (k_ : List ((Int) × ((Int) × ((List Int) × ((Int) × ((Int) × (List Int)))))) → Option ρ) : Option ρ :=
  bnd (idx c2 i) fun y =>
  bnd (W.R_copyOp y) fun y_1 =>
  bnd (okIf (decide ((List.length t3003 + (1 : Nat)) * (80 : Nat) ≤ (140737488355328 : Nat)) && decide (List.length t3003 + (1 : Nat) ≤ (140737488355328 : Nat)))) fun y_2 =>
  k_ (t3003 ++ [y_1])
def R_CopyCircuit__own.c5s : Shape := ⟨[(0, qc0), (1, qc3), (2, qc4), (3, qc5), (4, qc6)], [(1, qc7), (2, qc8), (3, qc9), (3002, qc2), (3003, qc2)]⟩
def R_CopyCircuit__own.c5x0 : Shape := ⟨[(0, qc0), (1, qc3), (2, qc4), (3, qc5), (4, qc6)], [(1, qc7), (2, qc8), (3, qc9), (3002, qc2), (3003, qc2)]⟩
def R_CopyCircuit__own.c5r : Ck := Ck.of (T := List ((Int) × ((Int) × ((List Int) × ((Int) × ((Int) × (List Int))))))) R_CopyCircuit__own.c5s (fun ρ x_ k_ => uP x_ fun c x_ => uP x_ fun i x_ => uP x_ fun c0 x_ => uP x_ fun c1 x_ => uP x_ fun c2 x_ => uP x_ fun t20 x_ => uP x_ fun t21 x_ => uP x_ fun out0 x_ => uP x_ fun out1 x_ => uP x_ fun t3002 x_ => uP x_ fun t3003 x_ => R_CopyCircuit__own.c5 i c2 t3003 k_) (fun ρ x_ r_ k_ => uP x_ fun c x_ => uP x_ fun i x_ => uP x_ fun c0 x_ => uP x_ fun c1 x_ => uP x_ fun c2 x_ => uP x_ fun t20 x_ => uP x_ fun t21 x_ => uP x_ fun out0 x_ => uP x_ fun out1 x_ => uP x_ fun t3002 x_ => uP x_ fun t3003 x_ => k_ 0 (Shape.inj R_CopyCircuit__own.c5x0 (c, i, c0, c1, c2, t20, t21, out0, out1, t3002, r_, ())))
def R_CopyCircuit__own.c100003 {ρ : Type} (i : Int) (c2 : List ((Int) × ((Int) × ((List Int) × ((Int) × ((Int) × (List Int))))))) (t3003 : List ((Int) × ((Int) × ((List Int) × ((Int) × ((Int) × (List Int))))))) (k_ : ((Int) × (List ((Int) × ((Int) × ((List Int) × ((Int) × ((Int) × (List Int)))))))) ⊕ ((Int) × (List ((Int) × ((Int) × ((List Int) × ((Int) × ((Int) × (List Int)))))))) → Option ρ) : Option ρ :=
  br (decide (i < (↑(List.length c2) : Int)))
   (bnd (W.R_CopyCircuit__own.c5 i c2 t3003 some) fun y =>
    k_ (.inl ((IntKind.wrap IntKind.i64 (i + (1 : Int))), y)))
   (k_ (.inr (i, t3003)))
def R_CopyCircuit__own.c100003s : Shape := ⟨[(0, qc0), (1, qc3), (2, qc4), (3, qc5), (4, qc6)], [(1, qc7), (2, qc8), (3, qc9), (3002, qc2), (3003, qc2)]⟩
def R_CopyCircuit__own.c100003x0 : Shape := ⟨[(0, qc0), (1, qc3), (2, qc4), (3, qc5), (4, qc6)], [(1, qc7), (2, qc8), (3, qc9), (3002, qc2), (3003, qc2)]⟩
def R_CopyCircuit__own.c100003r : Ck := Ck.ofLoop (S := (Int) × (List ((Int) × ((Int) × ((List Int) × ((Int) × ((Int) × (List Int)))))))) (T := (Int) × (List ((Int) × ((Int) × ((List Int) × ((Int) × ((Int) × (List Int)))))))) R_CopyCircuit__own.c100003s (fun x_ => uP x_ fun c x_ => uP x_ fun i x_ => uP x_ fun c0 x_ => uP x_ fun c1 x_ => uP x_ fun c2 x_ => uP x_ fun t20 x_ => uP x_ fun t21 x_ => uP x_ fun out0 x_ => uP x_ fun out1 x_ => uP x_ fun t3002 x_ => uP x_ fun t3003 x_ => (i, t3003)) (fun ρ x_ s_ k_ => uP x_ fun c x_ => uP x_ fun i x_ => uP x_ fun c0 x_ => uP x_ fun c1 x_ => uP x_ fun c2 x_ => uP x_ fun t20 x_ => uP x_ fun t21 x_ => uP x_ fun out0 x_ => uP x_ fun out1 x_ => uP x_ fun t3002 x_ => uP x_ fun t3003 x_ => R_CopyCircuit__own.c100003 s_.1 c2 s_.2 k_) (fun ρ x_ r_ k_ => uP x_ fun c x_ => uP x_ fun i x_ => uP x_ fun c0 x_ => uP x_ fun c1 x_ => uP x_ fun c2 x_ => uP x_ fun t20 x_ => uP x_ fun t21 x_ => uP x_ fun out0 x_ => uP x_ fun out1 x_ => uP x_ fun t3002 x_ => uP x_ fun t3003 x_ => k_ 2 (Shape.inj R_CopyCircuit__own.c100003x0 (c, r_.1, c0, c1, c2, t20, t21, out0, out1, t3002, r_.2, ())))
def R_CopyCircuit__own (c : (Int) × ((Int) × (List ((Int) × ((Int) × ((List Int) × ((Int) × ((Int) × (List Int))))))))) : Option ((Int) × (Int) × (List ((Int) × ((Int) × ((List Int) × ((Int) × ((Int) × (List Int))))))) × Unit) :=
  bnd (iter (fun s ↦ W.R_CopyCircuit__own.c100003 (Prod.fst s) (Prod.snd (Prod.snd c)) (Prod.snd s) some) ((0 : Int), [])) fun y =>
  some (uP (uP (uP (Prod.fst c, ()) fun u r ↦ (u, uP (Prod.fst (Prod.snd c), ()) fun u r ↦ (u, ()))) fun u r ↦ (u, uP r fun u r ↦ (u, ()))) fun u r ↦ (u, uP r fun u r ↦ (u, uP (Prod.snd y, ()) fun u r ↦ (u, ()))))
def R_CopyCircuit__own.mc : MCallee := ⟨11, R_CopyCircuit__own.pre, R_CopyCircuit__own.post, fun x_ => R_CopyCircuit__own x_.1⟩
def R_CopyCircuit__own.G : Env := ⟨29, tab, [(37, R_copyOp.ce)], [0, 1, 2, 3, 4, 14], [1, 2, 3, 9, 3001, 3002, 3003], [(5, [⟨[], [], [19, 20, 21, 22, 23, 24, 25], [25]⟩, ⟨[0], [], [19, 20, 21, 22, 23, 24, 25], [25]⟩, ⟨[], [], [17, 18, 21], []⟩, ⟨[2], [], [17, 18, 21], []⟩, ⟨[], [], [17, 18, 19, 20], []⟩, ⟨[3, 2, 4], [], [17, 18], []⟩, ⟨[5, 3, 2, 4], [], [17, 18], []⟩, ⟨[6, 5, 3, 2, 4], [], [17, 18], []⟩, ⟨[7, 6, 5, 3, 2, 4], [25], [17, 18], []⟩, ⟨[1, 0, 8, 7, 6, 5, 3, 2, 4], [3003], [], []⟩, ⟨[0, 1, 2, 3, 4, 5, 6, 7, 8, 9], [], [], []⟩, ⟨[10, 0, 1, 2, 3, 4, 5, 6, 7, 8, 9], [3], [], []⟩])], [(100003, R_CopyCircuit__own.c100003r), (5, R_CopyCircuit__own.c5r)], [], tab_eqs⟩
theorem R_CopyCircuit__own.eq (x_ : densU R_CopyCircuit__own.mc.pre.tys) : denM R_CopyCircuit__own.G Go.Proofs.Tryd.f11 R_CopyCircuit__own.mc.pre R_CopyCircuit__own.mc.post x_ = R_CopyCircuit__own.mc.F x_ := by kernel_rfl
theorem R_CopyCircuit__own.p0 : PieceOk R_CopyCircuit__own.G (pieceAt (pieces R_CopyCircuit__own.G.cks (bodyOf Go.Proofs.Tryd.f11)) 0).1 (pieceAt (pieces R_CopyCircuit__own.G.cks (bodyOf Go.Proofs.Tryd.f11)) 0).2 :=
  loop_ok (s := R_CopyCircuit__own.c100003r) (by kernel_rfl) (by kernel_rfl) (loops_of (sh := R_CopyCircuit__own.c100003s) (I := fun x_ s_ => (x_.1, s_.1, x_.2.2.1, x_.2.2.2.1, x_.2.2.2.2.1, x_.2.2.2.2.2.1, x_.2.2.2.2.2.2.1, x_.2.2.2.2.2.2.2.1, x_.2.2.2.2.2.2.2.2.1, x_.2.2.2.2.2.2.2.2.2.1, s_.2, ())) (fun x_ => rfl) (fun ρ x_ s_ k_ => (nat_br (nat_bnd fun _ => nat_leaf) nat_leaf)) (fun ρ x_ t k => (by kernel_rfl)) (fun x_ s => by kernel_rfl))
theorem R_CopyCircuit__own.p1 : PieceOk R_CopyCircuit__own.G (pieceAt (pieces R_CopyCircuit__own.G.cks (bodyOf Go.Proofs.Tryd.f11)) 1).1 (pieceAt (pieces R_CopyCircuit__own.G.cks (bodyOf Go.Proofs.Tryd.f11)) 1).2 :=
  region_ok (s := R_CopyCircuit__own.c5r) (by kernel_rfl) (by kernel_rfl) (sums_of (sh := R_CopyCircuit__own.c5s) (fun ρ x_ k_ => (nat_bnd fun _ => (nat_bnd fun _ => (nat_bnd fun _ => nat_leaf)))) (fun ρ x_ t k => (by kernel_rfl)) (fun x_ => by kernel_rfl))
theorem R_CopyCircuit__own.ok : MOk Go.Proofs.Tryd.prog 11 R_CopyCircuit__own.mc := fnm_ok (G := R_CopyCircuit__own.G) tab_ok mixed Go.Proofs.Tryd.func11 ⟨(fns_cons R_copyOp.ok fns_nil), mfns_nil, tab_eqs_ok⟩ (m := 2) (by kernel_rfl) ⟨⟨trivial, R_CopyCircuit__own.p0⟩, R_CopyCircuit__own.p1⟩ (by kernel_rfl) R_CopyCircuit__own.eq
abbrev qc10 : SD := .one (.ref 4 0)
abbrev qc11 : SD := .one (.ref 5 0)
abbrev qc12 : SD := .one (.ref 6 0)
abbrev qc13 : SO := .box [.val (.int .i64), .val (.int .i64)]
abbrev qc14 : SD := .one (.val .bool)
abbrev qc15 : SD := .one (.ref 7 0)
abbrev qc16 : SO := .box [.val (.int .i64), .val (.int .i64), .own 2054 0]
def R_Then.c208197 {ρ : Type} (b0 : Int) (b1 : Int) (b2 : List ((Int) × ((Int) × ((List Int) × ((Int) × ((Int) × (List Int))))))) (f0 : Int) (f1 : Int) (k_ : (Int) × (Int) → Option ρ) : Option ρ :=
  br (f0 == (0 : Int))
   (bnd (W.R_Check (b0, b1, b2)) fun y =>
    k_ ((Prod.fst y), (Prod.snd y)))
   (k_ (f0, f1))
def R_Then.c208197s : Shape := ⟨[(0, qc0), (1, qc0), (2, qc4), (3, qc5), (4, qc10), (5, qc11), (6, qc12)], [(2, qc7), (3, qc7), (4, qc7), (5, qc13), (6, qc13)]⟩
def R_Then.c208197x0 : Shape := ⟨[(0, qc0), (1, qc0), (2, qc4), (3, qc5), (4, qc10), (5, qc11), (6, qc12)], [(2, qc7), (3, qc7), (4, qc7), (5, qc13), (6, qc13)]⟩
def R_Then.c208197r : Ck := Ck.of (T := (Int) × (Int)) R_Then.c208197s (fun ρ x_ k_ => uP x_ fun a x_ => uP x_ fun b x_ => uP x_ fun a0 x_ => uP x_ fun a1 x_ => uP x_ fun a2 x_ => uP x_ fun b0 x_ => uP x_ fun b1 x_ => uP x_ fun b2 x_ => uP x_ fun t40 x_ => uP x_ fun t41 x_ => uP x_ fun t42 x_ => uP x_ fun t50 x_ => uP x_ fun t51 x_ => uP x_ fun f0 x_ => uP x_ fun f1 x_ => R_Then.c208197 b0 b1 b2 f0 f1 k_) (fun ρ x_ r_ k_ => uP x_ fun a x_ => uP x_ fun b x_ => uP x_ fun a0 x_ => uP x_ fun a1 x_ => uP x_ fun a2 x_ => uP x_ fun b0 x_ => uP x_ fun b1 x_ => uP x_ fun b2 x_ => uP x_ fun t40 x_ => uP x_ fun t41 x_ => uP x_ fun t42 x_ => uP x_ fun t50 x_ => uP x_ fun t51 x_ => uP x_ fun f0 x_ => uP x_ fun f1 x_ => k_ 0 (Shape.inj R_Then.c208197x0 (a, b, a0, a1, a2, b0, b1, b2, t40, t41, t42, t50, t51, r_.1, r_.2, ())))
def R_Then.c4 {ρ : Type} (a0 : Int) (a1 : Int) (b0 : Int) (b1 : Int) (f0 : Int) (k_ : Bool → Option ρ) : Option ρ :=
  br (f0 == (0 : Int))
   (br (a0 != b0)
     (k_ true)
     (k_ (a1 != b1)))
   (k_ false)
def R_Then.c4s : Shape := ⟨[(0, qc0), (1, qc0), (2, qc4), (3, qc5), (4, qc10), (5, qc11), (6, qc12)], [(2, qc7), (3, qc7), (4, qc7), (5, qc13), (6, qc13)]⟩
def R_Then.c4x0 : Shape := ⟨[(0, qc0), (1, qc0), (2, qc4), (3, qc5), (4, qc10), (5, qc11), (6, qc12), (32, qc14)], [(2, qc7), (3, qc7), (4, qc7), (5, qc13), (6, qc13)]⟩
def R_Then.c4r : Ck := Ck.of (T := Bool) R_Then.c4s (fun ρ x_ k_ => uP x_ fun a x_ => uP x_ fun b x_ => uP x_ fun a0 x_ => uP x_ fun a1 x_ => uP x_ fun a2 x_ => uP x_ fun b0 x_ => uP x_ fun b1 x_ => uP x_ fun b2 x_ => uP x_ fun t40 x_ => uP x_ fun t41 x_ => uP x_ fun t42 x_ => uP x_ fun t50 x_ => uP x_ fun t51 x_ => uP x_ fun f0 x_ => uP x_ fun f1 x_ => R_Then.c4 a0 a1 b0 b1 f0 k_) (fun ρ x_ r_ k_ => uP x_ fun a x_ => uP x_ fun b x_ => uP x_ fun a0 x_ => uP x_ fun a1 x_ => uP x_ fun a2 x_ => uP x_ fun b0 x_ => uP x_ fun b1 x_ => uP x_ fun b2 x_ => uP x_ fun t40 x_ => uP x_ fun t41 x_ => uP x_ fun t42 x_ => uP x_ fun t50 x_ => uP x_ fun t51 x_ => uP x_ fun f0 x_ => uP x_ fun f1 x_ => k_ 0 (Shape.inj R_Then.c4x0 (a, b, r_, a0, a1, a2, b0, b1, b2, t40, t41, t42, t50, t51, f0, f1, ())))
def R_Then.c216389 {ρ : Type} (a0 : Int) (a1 : Int) (b0 : Int) (b1 : Int) (f0 : Int) (f1 : Int) (k_ : (Int) × (Int) → Option ρ) : Option ρ :=
  bnd (W.R_Then.c4 a0 a1 b0 b1 f0 some) fun y =>
  br y
   (bnd (W.R_rfault (16 : Int) (0 : Int)) fun y_1 =>
    k_ ((Prod.fst y_1), (Prod.snd y_1)))
   (k_ (f0, f1))
def R_Then.c216389s : Shape := ⟨[(0, qc0), (1, qc0), (2, qc4), (3, qc5), (4, qc10), (5, qc11), (6, qc12)], [(2, qc7), (3, qc7), (4, qc7), (5, qc13), (6, qc13)]⟩
def R_Then.c216389x0 : Shape := ⟨[(0, qc0), (1, qc0), (2, qc4), (3, qc5), (4, qc10), (5, qc11), (6, qc12)], [(2, qc7), (3, qc7), (4, qc7), (5, qc13), (6, qc13)]⟩
def R_Then.c216389r : Ck := Ck.of (T := (Int) × (Int)) R_Then.c216389s (fun ρ x_ k_ => uP x_ fun a x_ => uP x_ fun b x_ => uP x_ fun a0 x_ => uP x_ fun a1 x_ => uP x_ fun a2 x_ => uP x_ fun b0 x_ => uP x_ fun b1 x_ => uP x_ fun b2 x_ => uP x_ fun t40 x_ => uP x_ fun t41 x_ => uP x_ fun t42 x_ => uP x_ fun t50 x_ => uP x_ fun t51 x_ => uP x_ fun f0 x_ => uP x_ fun f1 x_ => R_Then.c216389 a0 a1 b0 b1 f0 f1 k_) (fun ρ x_ r_ k_ => uP x_ fun a x_ => uP x_ fun b x_ => uP x_ fun a0 x_ => uP x_ fun a1 x_ => uP x_ fun a2 x_ => uP x_ fun b0 x_ => uP x_ fun b1 x_ => uP x_ fun b2 x_ => uP x_ fun t40 x_ => uP x_ fun t41 x_ => uP x_ fun t42 x_ => uP x_ fun t50 x_ => uP x_ fun t51 x_ => uP x_ fun f0 x_ => uP x_ fun f1 x_ => k_ 0 (Shape.inj R_Then.c216389x0 (a, b, a0, a1, a2, b0, b1, b2, t40, t41, t42, t50, t51, r_.1, r_.2, ())))
def R_Then.c6 {ρ : Type} (a2 : List ((Int) × ((Int) × ((List Int) × ((Int) × ((Int) × (List Int))))))) (b2 : List ((Int) × ((Int) × ((List Int) × ((Int) × ((Int) × (List Int))))))) (f0 : Int) (k_ : Bool → Option ρ) : Option ρ :=
  br (f0 == (0 : Int))
   (k_ (decide (IntKind.wrap IntKind.i64 ((↑(List.length a2) : Int) + (↑(List.length b2) : Int)) > (4096 : Int))))
   (k_ false)
def R_Then.c6s : Shape := ⟨[(0, qc0), (1, qc0), (2, qc4), (3, qc5), (4, qc10), (5, qc11), (6, qc12)], [(2, qc7), (3, qc7), (4, qc7), (5, qc13), (6, qc13)]⟩
def R_Then.c6x0 : Shape := ⟨[(0, qc0), (1, qc0), (2, qc4), (3, qc5), (4, qc10), (5, qc11), (6, qc12), (46, qc14)], [(2, qc7), (3, qc7), (4, qc7), (5, qc13), (6, qc13)]⟩
def R_Then.c6r : Ck := Ck.of (T := Bool) R_Then.c6s (fun ρ x_ k_ => uP x_ fun a x_ => uP x_ fun b x_ => uP x_ fun a0 x_ => uP x_ fun a1 x_ => uP x_ fun a2 x_ => uP x_ fun b0 x_ => uP x_ fun b1 x_ => uP x_ fun b2 x_ => uP x_ fun t40 x_ => uP x_ fun t41 x_ => uP x_ fun t42 x_ => uP x_ fun t50 x_ => uP x_ fun t51 x_ => uP x_ fun f0 x_ => uP x_ fun f1 x_ => R_Then.c6 a2 b2 f0 k_) (fun ρ x_ r_ k_ => uP x_ fun a x_ => uP x_ fun b x_ => uP x_ fun a0 x_ => uP x_ fun a1 x_ => uP x_ fun a2 x_ => uP x_ fun b0 x_ => uP x_ fun b1 x_ => uP x_ fun b2 x_ => uP x_ fun t40 x_ => uP x_ fun t41 x_ => uP x_ fun t42 x_ => uP x_ fun t50 x_ => uP x_ fun t51 x_ => uP x_ fun f0 x_ => uP x_ fun f1 x_ => k_ 0 (Shape.inj R_Then.c6x0 (a, b, r_, a0, a1, a2, b0, b1, b2, t40, t41, t42, t50, t51, f0, f1, ())))
def R_Then.c224581 {ρ : Type} (a2 : List ((Int) × ((Int) × ((List Int) × ((Int) × ((Int) × (List Int))))))) (b2 : List ((Int) × ((Int) × ((List Int) × ((Int) × ((Int) × (List Int))))))) (f0 : Int) (f1 : Int) (k_ : (Int) × (Int) → Option ρ) : Option ρ :=
  bnd (W.R_Then.c6 a2 b2 f0 some) fun y =>
  br y
   (bnd (W.R_rfault (2 : Int) (0 : Int)) fun y_1 =>
    k_ ((Prod.fst y_1), (Prod.snd y_1)))
   (k_ (f0, f1))
def R_Then.c224581s : Shape := ⟨[(0, qc0), (1, qc0), (2, qc4), (3, qc5), (4, qc10), (5, qc11), (6, qc12)], [(2, qc7), (3, qc7), (4, qc7), (5, qc13), (6, qc13)]⟩
def R_Then.c224581x0 : Shape := ⟨[(0, qc0), (1, qc0), (2, qc4), (3, qc5), (4, qc10), (5, qc11), (6, qc12)], [(2, qc7), (3, qc7), (4, qc7), (5, qc13), (6, qc13)]⟩
def R_Then.c224581r : Ck := Ck.of (T := (Int) × (Int)) R_Then.c224581s (fun ρ x_ k_ => uP x_ fun a x_ => uP x_ fun b x_ => uP x_ fun a0 x_ => uP x_ fun a1 x_ => uP x_ fun a2 x_ => uP x_ fun b0 x_ => uP x_ fun b1 x_ => uP x_ fun b2 x_ => uP x_ fun t40 x_ => uP x_ fun t41 x_ => uP x_ fun t42 x_ => uP x_ fun t50 x_ => uP x_ fun t51 x_ => uP x_ fun f0 x_ => uP x_ fun f1 x_ => R_Then.c224581 a2 b2 f0 f1 k_) (fun ρ x_ r_ k_ => uP x_ fun a x_ => uP x_ fun b x_ => uP x_ fun a0 x_ => uP x_ fun a1 x_ => uP x_ fun a2 x_ => uP x_ fun b0 x_ => uP x_ fun b1 x_ => uP x_ fun b2 x_ => uP x_ fun t40 x_ => uP x_ fun t41 x_ => uP x_ fun t42 x_ => uP x_ fun t50 x_ => uP x_ fun t51 x_ => uP x_ fun f0 x_ => uP x_ fun f1 x_ => k_ 0 (Shape.inj R_Then.c224581x0 (a, b, a0, a1, a2, b0, b1, b2, t40, t41, t42, t50, t51, r_.1, r_.2, ())))
def R_Then.c9 {ρ : Type}  (k_ : Unit → Option ρ) : Option ρ :=
  k_ ()
def R_Then.c9s : Shape := ⟨[(0, qc0), (1, qc0), (2, qc4), (3, qc5), (4, qc10), (5, qc11), (6, qc12)], [(2, qc7), (3, qc7), (4, qc7), (5, qc13), (6, qc13)]⟩
def R_Then.c9x0 : Shape := ⟨[(0, qc0), (1, qc0), (2, qc4), (3, qc5), (4, qc10), (5, qc11), (6, qc12)], [(2, qc7), (3, qc7), (4, qc7), (5, qc13), (6, qc13)]⟩
def R_Then.c9r : Ck := Ck.of (T := Unit) R_Then.c9s (fun ρ x_ k_ => uP x_ fun a x_ => uP x_ fun b x_ => uP x_ fun a0 x_ => uP x_ fun a1 x_ => uP x_ fun a2 x_ => uP x_ fun b0 x_ => uP x_ fun b1 x_ => uP x_ fun b2 x_ => uP x_ fun t40 x_ => uP x_ fun t41 x_ => uP x_ fun t42 x_ => uP x_ fun t50 x_ => uP x_ fun t51 x_ => uP x_ fun f0 x_ => uP x_ fun f1 x_ => R_Then.c9  k_) (fun ρ x_ r_ k_ => uP x_ fun a x_ => uP x_ fun b x_ => uP x_ fun a0 x_ => uP x_ fun a1 x_ => uP x_ fun a2 x_ => uP x_ fun b0 x_ => uP x_ fun b1 x_ => uP x_ fun b2 x_ => uP x_ fun t40 x_ => uP x_ fun t41 x_ => uP x_ fun t42 x_ => uP x_ fun t50 x_ => uP x_ fun t51 x_ => uP x_ fun f0 x_ => uP x_ fun f1 x_ => k_ 0 (Shape.inj R_Then.c9x0 (a, b, a0, a1, a2, b0, b1, b2, (0 : Int), (0 : Int), [], f0, f1, f0, f1, ())))
def R_Then.c14 {ρ : Type} (i : Int) (b2 : List ((Int) × ((Int) × ((List Int) × ((Int) × ((Int) × (List Int))))))) (t2054 : List ((Int) × ((Int) × ((List Int) × ((Int) × ((Int) × (List Int))))))) (k_ : List ((Int) × ((Int) × ((List Int) × ((Int) × ((Int) × (List Int)))))) → Option ρ) : Option ρ :=
  bnd (idx b2 i) fun y =>
  bnd (W.R_copyOp y) fun y_1 =>
  bnd (okIf (decide ((List.length t2054 + (1 : Nat)) * (80 : Nat) ≤ (140737488355328 : Nat)) && decide (List.length t2054 + (1 : Nat) ≤ (140737488355328 : Nat)))) fun y_2 =>
  k_ (t2054 ++ [y_1])
def R_Then.c14s : Shape := ⟨[(0, qc0), (1, qc0), (2, qc4), (3, qc5), (4, qc10), (5, qc11), (6, qc12), (7, qc15), (8, qc6)], [(2, qc7), (3, qc7), (4, qc7), (5, qc13), (6, qc13), (7, qc16), (2054, qc2), (3007, qc2)]⟩
def R_Then.c14x0 : Shape := ⟨[(0, qc0), (1, qc0), (2, qc4), (3, qc5), (4, qc10), (5, qc11), (6, qc12), (7, qc15), (8, qc6)], [(2, qc7), (3, qc7), (4, qc7), (5, qc13), (6, qc13), (7, qc16), (2054, qc2), (3007, qc2)]⟩
def R_Then.c14r : Ck := Ck.of (T := List ((Int) × ((Int) × ((List Int) × ((Int) × ((Int) × (List Int))))))) R_Then.c14s (fun ρ x_ k_ => uP x_ fun a x_ => uP x_ fun b x_ => uP x_ fun i x_ => uP x_ fun a0 x_ => uP x_ fun a1 x_ => uP x_ fun a2 x_ => uP x_ fun b0 x_ => uP x_ fun b1 x_ => uP x_ fun b2 x_ => uP x_ fun t40 x_ => uP x_ fun t41 x_ => uP x_ fun t42 x_ => uP x_ fun t50 x_ => uP x_ fun t51 x_ => uP x_ fun f0 x_ => uP x_ fun f1 x_ => uP x_ fun out0 x_ => uP x_ fun out1 x_ => uP x_ fun t2054 x_ => uP x_ fun t3007 x_ => R_Then.c14 i b2 t2054 k_) (fun ρ x_ r_ k_ => uP x_ fun a x_ => uP x_ fun b x_ => uP x_ fun i x_ => uP x_ fun a0 x_ => uP x_ fun a1 x_ => uP x_ fun a2 x_ => uP x_ fun b0 x_ => uP x_ fun b1 x_ => uP x_ fun b2 x_ => uP x_ fun t40 x_ => uP x_ fun t41 x_ => uP x_ fun t42 x_ => uP x_ fun t50 x_ => uP x_ fun t51 x_ => uP x_ fun f0 x_ => uP x_ fun f1 x_ => uP x_ fun out0 x_ => uP x_ fun out1 x_ => uP x_ fun t2054 x_ => uP x_ fun t3007 x_ => k_ 0 (Shape.inj R_Then.c14x0 (a, b, i, a0, a1, a2, b0, b1, b2, t40, t41, t42, t50, t51, f0, f1, out0, out1, r_, t3007, ())))
def R_Then.c100012 {ρ : Type} (i : Int) (b2 : List ((Int) × ((Int) × ((List Int) × ((Int) × ((Int) × (List Int))))))) (t2054 : List ((Int) × ((Int) × ((List Int) × ((Int) × ((Int) × (List Int))))))) (k_ : ((Int) × (List ((Int) × ((Int) × ((List Int) × ((Int) × ((Int) × (List Int)))))))) ⊕ ((Int) × (List ((Int) × ((Int) × ((List Int) × ((Int) × ((Int) × (List Int)))))))) → Option ρ) : Option ρ :=
  br (decide (i < (↑(List.length b2) : Int)))
   (bnd (W.R_Then.c14 i b2 t2054 some) fun y =>
    k_ (.inl ((IntKind.wrap IntKind.i64 (i + (1 : Int))), y)))
   (k_ (.inr (i, t2054)))
def R_Then.c100012s : Shape := ⟨[(0, qc0), (1, qc0), (2, qc4), (3, qc5), (4, qc10), (5, qc11), (6, qc12), (7, qc15), (8, qc6)], [(2, qc7), (3, qc7), (4, qc7), (5, qc13), (6, qc13), (7, qc16), (2054, qc2), (3007, qc2)]⟩
def R_Then.c100012x0 : Shape := ⟨[(0, qc0), (1, qc0), (2, qc4), (3, qc5), (4, qc10), (5, qc11), (6, qc12), (7, qc15), (8, qc6)], [(2, qc7), (3, qc7), (4, qc7), (5, qc13), (6, qc13), (7, qc16), (2054, qc2), (3007, qc2)]⟩
def R_Then.c100012r : Ck := Ck.ofLoop (S := (Int) × (List ((Int) × ((Int) × ((List Int) × ((Int) × ((Int) × (List Int)))))))) (T := (Int) × (List ((Int) × ((Int) × ((List Int) × ((Int) × ((Int) × (List Int)))))))) R_Then.c100012s (fun x_ => uP x_ fun a x_ => uP x_ fun b x_ => uP x_ fun i x_ => uP x_ fun a0 x_ => uP x_ fun a1 x_ => uP x_ fun a2 x_ => uP x_ fun b0 x_ => uP x_ fun b1 x_ => uP x_ fun b2 x_ => uP x_ fun t40 x_ => uP x_ fun t41 x_ => uP x_ fun t42 x_ => uP x_ fun t50 x_ => uP x_ fun t51 x_ => uP x_ fun f0 x_ => uP x_ fun f1 x_ => uP x_ fun out0 x_ => uP x_ fun out1 x_ => uP x_ fun t2054 x_ => uP x_ fun t3007 x_ => (i, t2054)) (fun ρ x_ s_ k_ => uP x_ fun a x_ => uP x_ fun b x_ => uP x_ fun i x_ => uP x_ fun a0 x_ => uP x_ fun a1 x_ => uP x_ fun a2 x_ => uP x_ fun b0 x_ => uP x_ fun b1 x_ => uP x_ fun b2 x_ => uP x_ fun t40 x_ => uP x_ fun t41 x_ => uP x_ fun t42 x_ => uP x_ fun t50 x_ => uP x_ fun t51 x_ => uP x_ fun f0 x_ => uP x_ fun f1 x_ => uP x_ fun out0 x_ => uP x_ fun out1 x_ => uP x_ fun t2054 x_ => uP x_ fun t3007 x_ => R_Then.c100012 s_.1 b2 s_.2 k_) (fun ρ x_ r_ k_ => uP x_ fun a x_ => uP x_ fun b x_ => uP x_ fun i x_ => uP x_ fun a0 x_ => uP x_ fun a1 x_ => uP x_ fun a2 x_ => uP x_ fun b0 x_ => uP x_ fun b1 x_ => uP x_ fun b2 x_ => uP x_ fun t40 x_ => uP x_ fun t41 x_ => uP x_ fun t42 x_ => uP x_ fun t50 x_ => uP x_ fun t51 x_ => uP x_ fun f0 x_ => uP x_ fun f1 x_ => uP x_ fun out0 x_ => uP x_ fun out1 x_ => uP x_ fun t2054 x_ => uP x_ fun t3007 x_ => k_ 2 (Shape.inj R_Then.c100012x0 (a, b, r_.1, a0, a1, a2, b0, b1, b2, t40, t41, t42, t50, t51, f0, f1, out0, out1, r_.2, t3007, ())))
def R_Then.c15 {ρ : Type}  (k_ : Unit → Option ρ) : Option ρ :=
  k_ ()
def R_Then.c15s : Shape := ⟨[(0, qc0), (1, qc0), (2, qc4), (3, qc5), (4, qc10), (5, qc11), (6, qc12), (7, qc15), (8, qc6)], [(2, qc7), (3, qc7), (4, qc7), (5, qc13), (6, qc13), (7, qc16), (2054, qc2), (3007, qc2)]⟩
def R_Then.c15x0 : Shape := ⟨[(0, qc0), (1, qc0), (2, qc4), (3, qc5), (4, qc10), (5, qc11), (6, qc12), (7, qc15), (8, qc6)], [(2, qc7), (3, qc7), (4, qc16), (5, qc13), (6, qc13), (7, qc16), (2054, qc2), (3007, qc2)]⟩
def R_Then.c15r : Ck := Ck.of (T := Unit) R_Then.c15s (fun ρ x_ k_ => uP x_ fun a x_ => uP x_ fun b x_ => uP x_ fun i x_ => uP x_ fun a0 x_ => uP x_ fun a1 x_ => uP x_ fun a2 x_ => uP x_ fun b0 x_ => uP x_ fun b1 x_ => uP x_ fun b2 x_ => uP x_ fun t40 x_ => uP x_ fun t41 x_ => uP x_ fun t42 x_ => uP x_ fun t50 x_ => uP x_ fun t51 x_ => uP x_ fun f0 x_ => uP x_ fun f1 x_ => uP x_ fun out0 x_ => uP x_ fun out1 x_ => uP x_ fun t2054 x_ => uP x_ fun t3007 x_ => R_Then.c15  k_) (fun ρ x_ r_ k_ => uP x_ fun a x_ => uP x_ fun b x_ => uP x_ fun i x_ => uP x_ fun a0 x_ => uP x_ fun a1 x_ => uP x_ fun a2 x_ => uP x_ fun b0 x_ => uP x_ fun b1 x_ => uP x_ fun b2 x_ => uP x_ fun t40 x_ => uP x_ fun t41 x_ => uP x_ fun t42 x_ => uP x_ fun t50 x_ => uP x_ fun t51 x_ => uP x_ fun f0 x_ => uP x_ fun f1 x_ => uP x_ fun out0 x_ => uP x_ fun out1 x_ => uP x_ fun t2054 x_ => uP x_ fun t3007 x_ => k_ 0 (Shape.inj R_Then.c15x0 (a, b, i, a0, a1, a2, b0, b1, b2, out0, out1, f0, f1, f0, f1, out0, out1, t2054, t3007, ())))
def R_Then (a : (Int) × ((Int) × (List ((Int) × ((Int) × ((List Int) × ((Int) × ((Int) × (List Int))))))))) (b : (Int) × ((Int) × (List ((Int) × ((Int) × ((List Int) × ((Int) × ((Int) × (List Int))))))))) : Option (((Int) × ((Int) × (List ((Int) × ((Int) × ((List Int) × ((Int) × ((Int) × (List Int))))))))) × ((Int) × (Int))) :=
  bnd (W.R_Check (Prod.fst a, Prod.fst (Prod.snd a), Prod.snd (Prod.snd a))) fun y =>
  bnd (W.R_Then.c208197 (Prod.fst b) (Prod.fst (Prod.snd b)) (Prod.snd (Prod.snd b)) (Prod.fst y) (Prod.snd y) some) fun y_1 =>
  bnd (W.R_Then.c216389 (Prod.fst a) (Prod.fst (Prod.snd a)) (Prod.fst b) (Prod.fst (Prod.snd b)) (Prod.fst y_1) (Prod.snd y_1) some) fun y_2 =>
  bnd (W.R_Then.c224581 (Prod.snd (Prod.snd a)) (Prod.snd (Prod.snd b)) (Prod.fst y_2) (Prod.snd y_2) some) fun y_3 =>
  br (Prod.fst y_3 != (0 : Int))
   (bnd (W.R_Then.c9 some) fun y_4 =>
    some (((0 : Int), (0 : Int), []), Prod.fst y_3, Prod.snd y_3))
   (bnd (W.R_CopyCircuit__own (Prod.fst (uP (uP ((Prod.fst a, Prod.fst (Prod.snd a), Prod.snd (Prod.snd a)), ()) fun u r ↦ (u, ())) fun u r ↦ (u, ())))) fun y_5 =>
    bnd (iter (fun s ↦ W.R_Then.c100012 (Prod.fst s) (Prod.snd (Prod.snd b)) (Prod.snd s) some) ((0 : Int), Prod.fst y_5.2.2)) fun y_6 =>
    bnd (W.R_Then.c15 some) fun y_7 =>
    some ((Prod.fst y_5, Prod.fst y_5.2, Prod.snd y_6), Prod.fst y_3, Prod.snd y_3))
def R_Then.ce : Go.Ql.Callee := ⟨[(.st (.pair (.int .i64) (.pair (.int .i64) (.sl (.st (.pair (.int .i64) (.pair (.int .i64) (.pair (.sl (.int .i64)) (.pair (.int .i64) (.pair (.int .i64) (.sl (.int .i64)))))))))))), (.st (.pair (.int .i64) (.pair (.int .i64) (.sl (.st (.pair (.int .i64) (.pair (.int .i64) (.pair (.sl (.int .i64)) (.pair (.int .i64) (.pair (.int .i64) (.sl (.int .i64))))))))))))], [(.st (.pair (.int .i64) (.pair (.int .i64) (.sl (.st (.pair (.int .i64) (.pair (.int .i64) (.pair (.sl (.int .i64)) (.pair (.int .i64) (.pair (.int .i64) (.sl (.int .i64)))))))))))), (.st (.pair (.int .i64) (.int .i64)))], fun x_ => R_Then x_.1 x_.2⟩
def R_Then.G : Env := ⟨75, tab, [(15, R_Check.ce), (42, R_rfault.ce), (37, R_copyOp.ce)], [0, 1, 2, 3, 4, 5, 6, 7, 8, 13, 32, 46, 50, 59], [7, 2054, 3007], [(15, [⟨[], [], [74], []⟩, ⟨[], [], [73], [4]⟩, ⟨[0], [4], [74], []⟩, ⟨[1, 2, 0], [5], [], []⟩]),
  (14, [⟨[], [], [64, 65, 66, 67, 68, 69, 70], [70]⟩, ⟨[0], [], [64, 65, 66, 67, 68, 69, 70], [70]⟩, ⟨[], [], [62, 63, 66], []⟩, ⟨[2], [], [62, 63, 66], []⟩, ⟨[], [], [62, 63, 64, 65], []⟩, ⟨[3, 2, 4], [], [62, 63], []⟩, ⟨[5, 3, 2, 4], [], [62, 63], []⟩, ⟨[6, 5, 3, 2, 4], [], [62, 63], []⟩, ⟨[7, 6, 5, 3, 2, 4], [70], [62, 63], []⟩, ⟨[1, 0, 8, 7, 6, 5, 3, 2, 4], [2054], [], []⟩, ⟨[0, 1, 2, 3, 4, 5, 6, 7, 8, 9], [], [], []⟩, ⟨[10, 0, 1, 2, 3, 4, 5, 6, 7, 8, 9], [7], [], []⟩]),
  (9, [⟨[], [], [52], []⟩, ⟨[], [], [51], [4]⟩, ⟨[0], [4], [52], []⟩, ⟨[1, 2, 0], [5], [], []⟩])], [(15, R_Then.c15r), (100012, R_Then.c100012r), (14, R_Then.c14r), (9, R_Then.c9r), (224581, R_Then.c224581r), (6, R_Then.c6r), (216389, R_Then.c216389r), (4, R_Then.c4r), (208197, R_Then.c208197r)], [(11, R_CopyCircuit__own.mc)], tab_eqs⟩
theorem R_Then.eq (x_ : dens [(.st (.pair (.int .i64) (.pair (.int .i64) (.sl (.st (.pair (.int .i64) (.pair (.int .i64) (.pair (.sl (.int .i64)) (.pair (.int .i64) (.pair (.int .i64) (.sl (.int .i64)))))))))))), (.st (.pair (.int .i64) (.pair (.int .i64) (.sl (.st (.pair (.int .i64) (.pair (.int .i64) (.pair (.sl (.int .i64)) (.pair (.int .i64) (.pair (.int .i64) (.sl (.int .i64))))))))))))]) : den R_Then.G Go.Proofs.Tryd.f22 [(.st (.pair (.int .i64) (.pair (.int .i64) (.sl (.st (.pair (.int .i64) (.pair (.int .i64) (.pair (.sl (.int .i64)) (.pair (.int .i64) (.pair (.int .i64) (.sl (.int .i64)))))))))))), (.st (.pair (.int .i64) (.pair (.int .i64) (.sl (.st (.pair (.int .i64) (.pair (.int .i64) (.pair (.sl (.int .i64)) (.pair (.int .i64) (.pair (.int .i64) (.sl (.int .i64))))))))))))] [(.st (.pair (.int .i64) (.pair (.int .i64) (.sl (.st (.pair (.int .i64) (.pair (.int .i64) (.pair (.sl (.int .i64)) (.pair (.int .i64) (.pair (.int .i64) (.sl (.int .i64)))))))))))), (.st (.pair (.int .i64) (.int .i64)))] x_ = R_Then x_.1 x_.2 := by kernel_rfl
theorem R_Then.p0 : PieceOk R_Then.G (pieceAt (pieces R_Then.G.cks (bodyOf Go.Proofs.Tryd.f22)) 0).1 (pieceAt (pieces R_Then.G.cks (bodyOf Go.Proofs.Tryd.f22)) 0).2 :=
  join_ok (s := R_Then.c208197r) (by kernel_rfl) (by kernel_rfl) (sums_of (sh := R_Then.c208197s) (fun ρ x_ k_ => (nat_br (nat_bnd fun _ => nat_leaf) nat_leaf)) (fun ρ x_ t k => (by kernel_rfl)) (fun x_ => by kernel_rfl))
theorem R_Then.p1 : PieceOk R_Then.G (pieceAt (pieces R_Then.G.cks (bodyOf Go.Proofs.Tryd.f22)) 1).1 (pieceAt (pieces R_Then.G.cks (bodyOf Go.Proofs.Tryd.f22)) 1).2 :=
  join_ok (s := R_Then.c216389r) (by kernel_rfl) (by kernel_rfl) (sums_of (sh := R_Then.c216389s) (fun ρ x_ k_ => (nat_bnd fun _ => (nat_br (nat_bnd fun _ => nat_leaf) nat_leaf))) (fun ρ x_ t k => (by kernel_rfl)) (fun x_ => by kernel_rfl))
theorem R_Then.p2 : PieceOk R_Then.G (pieceAt (pieces R_Then.G.cks (bodyOf Go.Proofs.Tryd.f22)) 2).1 (pieceAt (pieces R_Then.G.cks (bodyOf Go.Proofs.Tryd.f22)) 2).2 :=
  region_ok (s := R_Then.c4r) (by kernel_rfl) (by kernel_rfl) (sums_of (sh := R_Then.c4s) (fun ρ x_ k_ => (nat_br (nat_br nat_leaf nat_leaf) nat_leaf)) (fun ρ x_ t k => (by kernel_rfl)) (fun x_ => by kernel_rfl))
theorem R_Then.p3 : PieceOk R_Then.G (pieceAt (pieces R_Then.G.cks (bodyOf Go.Proofs.Tryd.f22)) 3).1 (pieceAt (pieces R_Then.G.cks (bodyOf Go.Proofs.Tryd.f22)) 3).2 :=
  join_ok (s := R_Then.c224581r) (by kernel_rfl) (by kernel_rfl) (sums_of (sh := R_Then.c224581s) (fun ρ x_ k_ => (nat_bnd fun _ => (nat_br (nat_bnd fun _ => nat_leaf) nat_leaf))) (fun ρ x_ t k => (by kernel_rfl)) (fun x_ => by kernel_rfl))
theorem R_Then.p4 : PieceOk R_Then.G (pieceAt (pieces R_Then.G.cks (bodyOf Go.Proofs.Tryd.f22)) 4).1 (pieceAt (pieces R_Then.G.cks (bodyOf Go.Proofs.Tryd.f22)) 4).2 :=
  region_ok (s := R_Then.c6r) (by kernel_rfl) (by kernel_rfl) (sums_of (sh := R_Then.c6s) (fun ρ x_ k_ => (nat_br nat_leaf nat_leaf)) (fun ρ x_ t k => (by kernel_rfl)) (fun x_ => by kernel_rfl))
theorem R_Then.p5 : PieceOk R_Then.G (pieceAt (pieces R_Then.G.cks (bodyOf Go.Proofs.Tryd.f22)) 5).1 (pieceAt (pieces R_Then.G.cks (bodyOf Go.Proofs.Tryd.f22)) 5).2 :=
  region_ok (s := R_Then.c9r) (by kernel_rfl) (by kernel_rfl) (sums_of (sh := R_Then.c9s) (fun ρ x_ k_ => nat_leaf) (fun ρ x_ t k => (by kernel_rfl)) (fun x_ => by kernel_rfl))
theorem R_Then.p6 : PieceOk R_Then.G (pieceAt (pieces R_Then.G.cks (bodyOf Go.Proofs.Tryd.f22)) 6).1 (pieceAt (pieces R_Then.G.cks (bodyOf Go.Proofs.Tryd.f22)) 6).2 :=
  loop_ok (s := R_Then.c100012r) (by kernel_rfl) (by kernel_rfl) (loops_of (sh := R_Then.c100012s) (I := fun x_ s_ => (x_.1, x_.2.1, s_.1, x_.2.2.2.1, x_.2.2.2.2.1, x_.2.2.2.2.2.1, x_.2.2.2.2.2.2.1, x_.2.2.2.2.2.2.2.1, x_.2.2.2.2.2.2.2.2.1, x_.2.2.2.2.2.2.2.2.2.1, x_.2.2.2.2.2.2.2.2.2.2.1, x_.2.2.2.2.2.2.2.2.2.2.2.1, x_.2.2.2.2.2.2.2.2.2.2.2.2.1, x_.2.2.2.2.2.2.2.2.2.2.2.2.2.1, x_.2.2.2.2.2.2.2.2.2.2.2.2.2.2.1, x_.2.2.2.2.2.2.2.2.2.2.2.2.2.2.2.1, x_.2.2.2.2.2.2.2.2.2.2.2.2.2.2.2.2.1, x_.2.2.2.2.2.2.2.2.2.2.2.2.2.2.2.2.2.1, s_.2, x_.2.2.2.2.2.2.2.2.2.2.2.2.2.2.2.2.2.2.2.1, ())) (fun x_ => rfl) (fun ρ x_ s_ k_ => (nat_br (nat_bnd fun _ => nat_leaf) nat_leaf)) (fun ρ x_ t k => (by kernel_rfl)) (fun x_ s => by kernel_rfl))
theorem R_Then.p7 : PieceOk R_Then.G (pieceAt (pieces R_Then.G.cks (bodyOf Go.Proofs.Tryd.f22)) 7).1 (pieceAt (pieces R_Then.G.cks (bodyOf Go.Proofs.Tryd.f22)) 7).2 :=
  region_ok (s := R_Then.c14r) (by kernel_rfl) (by kernel_rfl) (sums_of (sh := R_Then.c14s) (fun ρ x_ k_ => (nat_bnd fun _ => (nat_bnd fun _ => (nat_bnd fun _ => nat_leaf)))) (fun ρ x_ t k => (by kernel_rfl)) (fun x_ => by kernel_rfl))
theorem R_Then.p8 : PieceOk R_Then.G (pieceAt (pieces R_Then.G.cks (bodyOf Go.Proofs.Tryd.f22)) 8).1 (pieceAt (pieces R_Then.G.cks (bodyOf Go.Proofs.Tryd.f22)) 8).2 :=
  region_ok (s := R_Then.c15r) (by kernel_rfl) (by kernel_rfl) (sums_of (sh := R_Then.c15s) (fun ρ x_ k_ => nat_leaf) (fun ρ x_ t k => (by kernel_rfl)) (fun x_ => by kernel_rfl))
theorem R_Then.ok : CalleeOk Go.Proofs.Tryd.prog 22 R_Then.ce := fn_ok (G := R_Then.G) tab_ok mixed Go.Proofs.Tryd.func22 ⟨(fns_cons R_Check.ok (fns_cons R_rfault.ok (fns_cons R_copyOp.ok fns_nil))), (mfns_cons R_CopyCircuit__own.ok mfns_nil), tab_eqs_ok⟩ (m := 9) (by kernel_rfl) ⟨⟨⟨⟨⟨⟨⟨⟨⟨trivial, R_Then.p0⟩, R_Then.p1⟩, R_Then.p2⟩, R_Then.p3⟩, R_Then.p4⟩, R_Then.p5⟩, R_Then.p6⟩, R_Then.p7⟩, R_Then.p8⟩ (by kernel_rfl) R_Then.eq
abbrev qc17 : SD := .one (.ref 8 0)
abbrev qc18 : SD := .one (.ref 9 0)
abbrev qc19 : SD := .one (.ref 10 0)
def Law_CircJoins.c3 {ρ : Type} (x0 : Int) (x1 : Int) (x2 : List ((Int) × ((Int) × ((List Int) × ((Int) × ((Int) × (List Int))))))) (f0 : Int) (f1 : Int) (y0 : Int) (y1 : Int) (y2 : List ((Int) × ((Int) × ((List Int) × ((Int) × ((Int) × (List Int))))))) (g0 : Int) (g1 : Int) (k_ : Bool → Option ρ) : Option ρ :=
  bnd W.Law_circBegun fun y =>
  br (!y)
   (k_ true)
   (bnd (W.Law_answers (x0, x1, x2) (f0, f1) (y0, y1, y2) (g0, g1)) fun y_1 =>
    k_ (!y_1))
def Law_CircJoins.c3s : Shape := ⟨[(0, qc0), (1, qc0), (2, qc6), (3, qc5), (4, qc10), (6, qc14), (7, qc15), (8, qc17), (9, qc18), (10, qc19)], [(3, qc7), (4, qc7), (7, qc7), (8, qc13), (9, qc7), (10, qc13)]⟩
def Law_CircJoins.c3x0 : Shape := ⟨[(0, qc0), (1, qc0), (2, qc6), (3, qc5), (4, qc10), (6, qc14), (7, qc15), (8, qc17), (9, qc18), (10, qc19), (33, qc14)], [(3, qc7), (4, qc7), (7, qc7), (8, qc13), (9, qc7), (10, qc13)]⟩
def Law_CircJoins.c3r : Ck := Ck.of (T := Bool) Law_CircJoins.c3s (fun ρ x_ k_ => uP x_ fun c x_ => uP x_ fun d x_ => uP x_ fun n x_ => uP x_ fun t6 x_ => uP x_ fun c0 x_ => uP x_ fun c1 x_ => uP x_ fun c2 x_ => uP x_ fun d0 x_ => uP x_ fun d1 x_ => uP x_ fun d2 x_ => uP x_ fun x0 x_ => uP x_ fun x1 x_ => uP x_ fun x2 x_ => uP x_ fun f0 x_ => uP x_ fun f1 x_ => uP x_ fun y0 x_ => uP x_ fun y1 x_ => uP x_ fun y2 x_ => uP x_ fun g0 x_ => uP x_ fun g1 x_ => Law_CircJoins.c3 x0 x1 x2 f0 f1 y0 y1 y2 g0 g1 k_) (fun ρ x_ r_ k_ => uP x_ fun c x_ => uP x_ fun d x_ => uP x_ fun n x_ => uP x_ fun t6 x_ => uP x_ fun c0 x_ => uP x_ fun c1 x_ => uP x_ fun c2 x_ => uP x_ fun d0 x_ => uP x_ fun d1 x_ => uP x_ fun d2 x_ => uP x_ fun x0 x_ => uP x_ fun x1 x_ => uP x_ fun x2 x_ => uP x_ fun f0 x_ => uP x_ fun f1 x_ => uP x_ fun y0 x_ => uP x_ fun y1 x_ => uP x_ fun y2 x_ => uP x_ fun g0 x_ => uP x_ fun g1 x_ => k_ 0 (Shape.inj Law_CircJoins.c3x0 (c, d, n, t6, r_, c0, c1, c2, d0, d1, d2, x0, x1, x2, f0, f1, y0, y1, y2, g0, g1, ())))
def Law_CircJoins.c5 {ρ : Type} (c0 : Int) (c1 : Int) (c2 : List ((Int) × ((Int) × ((List Int) × ((Int) × ((Int) × (List Int))))))) (d0 : Int) (d1 : Int) (d2 : List ((Int) × ((Int) × ((List Int) × ((Int) × ((Int) × (List Int))))))) (k_ : (Int) × (Int) × (List ((Int) × ((Int) × ((List Int) × ((Int) × ((Int) × (List Int))))))) × (Int) × (Int) → Option ρ) : Option ρ :=
  bnd (W.R_CopyCircuit (c0, c1, c2)) fun y =>
  bnd (W.R_CopyCircuit (d0, d1, d2)) fun y_1 =>
  bnd (W.circ_Then y y_1) fun y_2 =>
  k_ ((Prod.fst (Prod.fst y_2)), (Prod.fst (Prod.snd (Prod.fst y_2))), (Prod.snd (Prod.snd (Prod.fst y_2))), (Prod.fst (Prod.snd y_2)), (Prod.snd (Prod.snd y_2)))
def Law_CircJoins.c5s : Shape := ⟨[(0, qc0), (1, qc0), (2, qc6), (3, qc5), (4, qc10), (6, qc14), (7, qc15), (8, qc17), (9, qc18), (10, qc19)], [(3, qc7), (4, qc7), (7, qc7), (8, qc13), (9, qc7), (10, qc13)]⟩
def Law_CircJoins.c5x0 : Shape := ⟨[(0, qc0), (1, qc0), (2, qc6), (3, qc5), (4, qc10), (6, qc14), (7, qc15), (8, qc17), (9, qc18), (10, qc19)], [(3, qc7), (4, qc7), (7, qc7), (8, qc13), (9, qc7), (10, qc13)]⟩
def Law_CircJoins.c5r : Ck := Ck.of (T := (Int) × (Int) × (List ((Int) × ((Int) × ((List Int) × ((Int) × ((Int) × (List Int))))))) × (Int) × (Int)) Law_CircJoins.c5s (fun ρ x_ k_ => uP x_ fun c x_ => uP x_ fun d x_ => uP x_ fun n x_ => uP x_ fun t6 x_ => uP x_ fun c0 x_ => uP x_ fun c1 x_ => uP x_ fun c2 x_ => uP x_ fun d0 x_ => uP x_ fun d1 x_ => uP x_ fun d2 x_ => uP x_ fun x0 x_ => uP x_ fun x1 x_ => uP x_ fun x2 x_ => uP x_ fun f0 x_ => uP x_ fun f1 x_ => uP x_ fun y0 x_ => uP x_ fun y1 x_ => uP x_ fun y2 x_ => uP x_ fun g0 x_ => uP x_ fun g1 x_ => Law_CircJoins.c5 c0 c1 c2 d0 d1 d2 k_) (fun ρ x_ r_ k_ => uP x_ fun c x_ => uP x_ fun d x_ => uP x_ fun n x_ => uP x_ fun t6 x_ => uP x_ fun c0 x_ => uP x_ fun c1 x_ => uP x_ fun c2 x_ => uP x_ fun d0 x_ => uP x_ fun d1 x_ => uP x_ fun d2 x_ => uP x_ fun x0 x_ => uP x_ fun x1 x_ => uP x_ fun x2 x_ => uP x_ fun f0 x_ => uP x_ fun f1 x_ => uP x_ fun y0 x_ => uP x_ fun y1 x_ => uP x_ fun y2 x_ => uP x_ fun g0 x_ => uP x_ fun g1 x_ => k_ 0 (Shape.inj Law_CircJoins.c5x0 (c, d, n, t6, c0, c1, c2, d0, d1, d2, r_.1, r_.2.1, r_.2.2.1, r_.2.2.2.1, r_.2.2.2.2, y0, y1, y2, g0, g1, ())))
def Law_CircJoins (c : (Int) × ((Int) × (List ((Int) × ((Int) × ((List Int) × ((Int) × ((Int) × (List Int))))))))) (d : (Int) × ((Int) × (List ((Int) × ((Int) × ((List Int) × ((Int) × ((Int) × (List Int))))))))) (n : Int) : Option (Bool) :=
  bnd (W.R_CopyCircuit (Prod.fst c, Prod.fst (Prod.snd c), Prod.snd (Prod.snd c))) fun y =>
  bnd (W.circ_Power y n) fun y_1 =>
  bnd (W.R_Power (Prod.fst c, Prod.fst (Prod.snd c), Prod.snd (Prod.snd c)) n) fun y_2 =>
  bnd (W.Law_CircJoins.c3 (Prod.fst (Prod.fst y_1)) (Prod.fst (Prod.snd (Prod.fst y_1))) (Prod.snd (Prod.snd (Prod.fst y_1))) (Prod.fst (Prod.snd y_1)) (Prod.snd (Prod.snd y_1)) (Prod.fst (Prod.fst y_2)) (Prod.fst (Prod.snd (Prod.fst y_2))) (Prod.snd (Prod.snd (Prod.fst y_2))) (Prod.fst (Prod.snd y_2)) (Prod.snd (Prod.snd y_2)) some) fun y_3 =>
  br y_3
   (some false)
   (bnd (W.Law_CircJoins.c5 (Prod.fst c) (Prod.fst (Prod.snd c)) (Prod.snd (Prod.snd c)) (Prod.fst d) (Prod.fst (Prod.snd d)) (Prod.snd (Prod.snd d)) some) fun y_4 =>
    bnd (W.R_Then (Prod.fst c, Prod.fst (Prod.snd c), Prod.snd (Prod.snd c)) (Prod.fst d, Prod.fst (Prod.snd d), Prod.snd (Prod.snd d))) fun y_5 =>
    bnd (W.Law_answers (Prod.fst y_4, Prod.fst (Prod.snd y_4), Prod.fst (Prod.snd (Prod.snd y_4))) (Prod.fst (Prod.snd (Prod.snd (Prod.snd y_4))), Prod.snd (Prod.snd (Prod.snd (Prod.snd y_4)))) (Prod.fst (Prod.fst y_5), Prod.fst (Prod.snd (Prod.fst y_5)), Prod.snd (Prod.snd (Prod.fst y_5))) (Prod.fst (Prod.snd y_5), Prod.snd (Prod.snd y_5))) fun y_6 =>
    some y_6)
def Law_CircJoins.ce : Go.Ql.Callee := ⟨[(.st (.pair (.int .i64) (.pair (.int .i64) (.sl (.st (.pair (.int .i64) (.pair (.int .i64) (.pair (.sl (.int .i64)) (.pair (.int .i64) (.pair (.int .i64) (.sl (.int .i64)))))))))))), (.st (.pair (.int .i64) (.pair (.int .i64) (.sl (.st (.pair (.int .i64) (.pair (.int .i64) (.pair (.sl (.int .i64)) (.pair (.int .i64) (.pair (.int .i64) (.sl (.int .i64)))))))))))), (.int .i64)], [.bool], fun x_ => Law_CircJoins x_.1 x_.2.1 x_.2.2⟩
def Law_CircJoins.G : Env := ⟨53, tab, [(11, R_CopyCircuit.ce), (18, circ_Power.ce), (19, R_Power.ce), (13, Law_circBegun.ce), (20, Law_answers.ce), (21, circ_Then.ce), (22, R_Then.ce)], [0, 1, 2, 3, 4, 6, 7, 8, 9, 10, 33], [], [(5, [⟨[], [], [37], []⟩, ⟨[0], [], [37], []⟩, ⟨[], [], [35, 36], []⟩, ⟨[2, 1, 0], [], [], []⟩, ⟨[1, 0, 3, 2], [], [], []⟩, ⟨[4, 1, 0, 3, 2], [], [], []⟩, ⟨[5, 4, 1, 0, 3, 2], [], [41], []⟩, ⟨[5, 4, 1, 0, 3, 2], [], [40], [7]⟩, ⟨[6, 5, 4, 1, 0, 3, 2], [7], [41], []⟩, ⟨[7, 5, 4, 1, 0, 3, 2, 8, 6], [8], [], []⟩])], [(5, Law_CircJoins.c5r), (3, Law_CircJoins.c3r)], [], tab_eqs⟩
theorem Law_CircJoins.eq (x_ : dens [(.st (.pair (.int .i64) (.pair (.int .i64) (.sl (.st (.pair (.int .i64) (.pair (.int .i64) (.pair (.sl (.int .i64)) (.pair (.int .i64) (.pair (.int .i64) (.sl (.int .i64)))))))))))), (.st (.pair (.int .i64) (.pair (.int .i64) (.sl (.st (.pair (.int .i64) (.pair (.int .i64) (.pair (.sl (.int .i64)) (.pair (.int .i64) (.pair (.int .i64) (.sl (.int .i64)))))))))))), (.int .i64)]) : den Law_CircJoins.G Go.Proofs.Tryd.f4 [(.st (.pair (.int .i64) (.pair (.int .i64) (.sl (.st (.pair (.int .i64) (.pair (.int .i64) (.pair (.sl (.int .i64)) (.pair (.int .i64) (.pair (.int .i64) (.sl (.int .i64)))))))))))), (.st (.pair (.int .i64) (.pair (.int .i64) (.sl (.st (.pair (.int .i64) (.pair (.int .i64) (.pair (.sl (.int .i64)) (.pair (.int .i64) (.pair (.int .i64) (.sl (.int .i64)))))))))))), (.int .i64)] [.bool] x_ = Law_CircJoins x_.1 x_.2.1 x_.2.2 := by kernel_rfl
theorem Law_CircJoins.p0 : PieceOk Law_CircJoins.G (pieceAt (pieces Law_CircJoins.G.cks (bodyOf Go.Proofs.Tryd.f4)) 0).1 (pieceAt (pieces Law_CircJoins.G.cks (bodyOf Go.Proofs.Tryd.f4)) 0).2 :=
  region_ok (s := Law_CircJoins.c3r) (by kernel_rfl) (by kernel_rfl) (sums_of (sh := Law_CircJoins.c3s) (fun ρ x_ k_ => (nat_bnd fun _ => (nat_br nat_leaf (nat_bnd fun _ => nat_leaf)))) (fun ρ x_ t k => (by kernel_rfl)) (fun x_ => by kernel_rfl))
theorem Law_CircJoins.p1 : PieceOk Law_CircJoins.G (pieceAt (pieces Law_CircJoins.G.cks (bodyOf Go.Proofs.Tryd.f4)) 1).1 (pieceAt (pieces Law_CircJoins.G.cks (bodyOf Go.Proofs.Tryd.f4)) 1).2 :=
  region_ok (s := Law_CircJoins.c5r) (by kernel_rfl) (by kernel_rfl) (sums_of (sh := Law_CircJoins.c5s) (fun ρ x_ k_ => (nat_bnd fun _ => (nat_bnd fun _ => (nat_bnd fun _ => nat_leaf)))) (fun ρ x_ t k => (by kernel_rfl)) (fun x_ => by kernel_rfl))
theorem Law_CircJoins.ok : CalleeOk Go.Proofs.Tryd.prog 4 Law_CircJoins.ce := fn_ok (G := Law_CircJoins.G) tab_ok mixed Go.Proofs.Tryd.func4 ⟨(fns_cons R_CopyCircuit.ok (fns_cons circ_Power.ok (fns_cons R_Power.ok (fns_cons Law_circBegun.ok (fns_cons Law_answers.ok (fns_cons circ_Then.ok (fns_cons R_Then.ok fns_nil))))))), mfns_nil, tab_eqs_ok⟩ (m := 2) (by kernel_rfl) ⟨⟨trivial, Law_CircJoins.p0⟩, Law_CircJoins.p1⟩ (by kernel_rfl) Law_CircJoins.eq
abbrev qc20 : SO := .box [.val (.int .i64), .val (.int .i64), .own 3007 0]
abbrev qc21 : SO := .box [.val (.int .i64), .val (.int .i64), .val (.sl (.int .i64)), .val (.int .i64), .val (.int .i64), .val (.sl (.int .i64))]
def R_Control.c3 {ρ : Type}  (k_ : Unit → Option ρ) : Option ρ :=
  k_ ()
def R_Control.c3s : Shape := ⟨[(0, qc0), (1, qc6), (2, qc4), (4, qc10), (5, qc11), (6, qc12)], [(2, qc7), (4, qc7), (5, qc13), (6, qc13)]⟩
def R_Control.c3x0 : Shape := ⟨[(0, qc0), (1, qc6), (2, qc4), (4, qc10), (5, qc11), (6, qc12)], [(2, qc7), (4, qc7), (5, qc13), (6, qc13)]⟩
def R_Control.c3r : Ck := Ck.of (T := Unit) R_Control.c3s (fun ρ x_ k_ => uP x_ fun c x_ => uP x_ fun q x_ => uP x_ fun c0 x_ => uP x_ fun c1 x_ => uP x_ fun c2 x_ => uP x_ fun t40 x_ => uP x_ fun t41 x_ => uP x_ fun t42 x_ => uP x_ fun t50 x_ => uP x_ fun t51 x_ => uP x_ fun f0 x_ => uP x_ fun f1 x_ => R_Control.c3  k_) (fun ρ x_ r_ k_ => uP x_ fun c x_ => uP x_ fun q x_ => uP x_ fun c0 x_ => uP x_ fun c1 x_ => uP x_ fun c2 x_ => uP x_ fun t40 x_ => uP x_ fun t41 x_ => uP x_ fun t42 x_ => uP x_ fun t50 x_ => uP x_ fun t51 x_ => uP x_ fun f0 x_ => uP x_ fun f1 x_ => k_ 0 (Shape.inj R_Control.c3x0 (c, q, c0, c1, c2, (0 : Int), (0 : Int), [], f0, f1, f0, f1, ())))
def R_Control.c4 {ρ : Type} (q : Int) (c0 : Int) (k_ : Bool → Option ρ) : Option ρ :=
  br (decide (q < (0 : Int)))
   (k_ true)
   (k_ (decide (q ≥ c0)))
def R_Control.c4s : Shape := ⟨[(0, qc0), (1, qc6), (2, qc4), (4, qc10), (5, qc11), (6, qc12)], [(2, qc7), (4, qc7), (5, qc13), (6, qc13)]⟩
def R_Control.c4x0 : Shape := ⟨[(0, qc0), (1, qc6), (2, qc4), (4, qc10), (5, qc11), (6, qc12), (24, qc14)], [(2, qc7), (4, qc7), (5, qc13), (6, qc13)]⟩
def R_Control.c4r : Ck := Ck.of (T := Bool) R_Control.c4s (fun ρ x_ k_ => uP x_ fun c x_ => uP x_ fun q x_ => uP x_ fun c0 x_ => uP x_ fun c1 x_ => uP x_ fun c2 x_ => uP x_ fun t40 x_ => uP x_ fun t41 x_ => uP x_ fun t42 x_ => uP x_ fun t50 x_ => uP x_ fun t51 x_ => uP x_ fun f0 x_ => uP x_ fun f1 x_ => R_Control.c4 q c0 k_) (fun ρ x_ r_ k_ => uP x_ fun c x_ => uP x_ fun q x_ => uP x_ fun c0 x_ => uP x_ fun c1 x_ => uP x_ fun c2 x_ => uP x_ fun t40 x_ => uP x_ fun t41 x_ => uP x_ fun t42 x_ => uP x_ fun t50 x_ => uP x_ fun t51 x_ => uP x_ fun f0 x_ => uP x_ fun f1 x_ => k_ 0 (Shape.inj R_Control.c4x0 (c, q, r_, c0, c1, c2, t40, t41, t42, t50, t51, f0, f1, ())))
def R_Control.c8 {ρ : Type}  (k_ : Unit → Option ρ) : Option ρ :=
  k_ ()
def R_Control.c8s : Shape := ⟨[(0, qc0), (1, qc6), (2, qc4), (4, qc10), (5, qc11), (6, qc12)], [(2, qc7), (4, qc7), (5, qc13), (6, qc13)]⟩
def R_Control.c8x0 : Shape := ⟨[(0, qc0), (1, qc6), (2, qc4), (4, qc10), (5, qc11), (6, qc12)], [(2, qc7), (4, qc7), (5, qc13), (6, qc13)]⟩
def R_Control.c8r : Ck := Ck.of (T := Unit) R_Control.c8s (fun ρ x_ k_ => uP x_ fun c x_ => uP x_ fun q x_ => uP x_ fun c0 x_ => uP x_ fun c1 x_ => uP x_ fun c2 x_ => uP x_ fun t40 x_ => uP x_ fun t41 x_ => uP x_ fun t42 x_ => uP x_ fun t50 x_ => uP x_ fun t51 x_ => uP x_ fun f0 x_ => uP x_ fun f1 x_ => R_Control.c8  k_) (fun ρ x_ r_ k_ => uP x_ fun c x_ => uP x_ fun q x_ => uP x_ fun c0 x_ => uP x_ fun c1 x_ => uP x_ fun c2 x_ => uP x_ fun t40 x_ => uP x_ fun t41 x_ => uP x_ fun t42 x_ => uP x_ fun t50 x_ => uP x_ fun t51 x_ => uP x_ fun f0 x_ => uP x_ fun f1 x_ => k_ 0 (Shape.inj R_Control.c8x0 (c, q, c0, c1, c2, (0 : Int), (0 : Int), [], f0, f1, f0, f1, ())))
def R_Control.c16 {ρ : Type} (q : Int) (o2 : List (Int)) (o3 : Int) (k_ : Bool → Option ρ) : Option ρ :=
  br (o3 == q)
   (k_ true)
   (bnd (W.R_member o2 q) fun y =>
    k_ y)
def R_Control.c16s : Shape := ⟨[(0, qc0), (1, qc6), (2, qc4), (4, qc10), (5, qc11), (6, qc12), (7, qc15), (8, qc6), (9, qc18)], [(2, qc7), (4, qc7), (5, qc13), (6, qc13), (7, qc20), (9, qc21), (3007, qc2)]⟩
def R_Control.c16x0 : Shape := ⟨[(0, qc0), (1, qc6), (2, qc4), (4, qc10), (5, qc11), (6, qc12), (7, qc15), (8, qc6), (9, qc18), (72, qc14)], [(2, qc7), (4, qc7), (5, qc13), (6, qc13), (7, qc20), (9, qc21), (3007, qc2)]⟩
def R_Control.c16r : Ck := Ck.of (T := Bool) R_Control.c16s (fun ρ x_ k_ => uP x_ fun c x_ => uP x_ fun q x_ => uP x_ fun i x_ => uP x_ fun c0 x_ => uP x_ fun c1 x_ => uP x_ fun c2 x_ => uP x_ fun t40 x_ => uP x_ fun t41 x_ => uP x_ fun t42 x_ => uP x_ fun t50 x_ => uP x_ fun t51 x_ => uP x_ fun f0 x_ => uP x_ fun f1 x_ => uP x_ fun out0 x_ => uP x_ fun out1 x_ => uP x_ fun o0 x_ => uP x_ fun o1 x_ => uP x_ fun o2 x_ => uP x_ fun o3 x_ => uP x_ fun o4 x_ => uP x_ fun o5 x_ => uP x_ fun t3007 x_ => R_Control.c16 q o2 o3 k_) (fun ρ x_ r_ k_ => uP x_ fun c x_ => uP x_ fun q x_ => uP x_ fun i x_ => uP x_ fun c0 x_ => uP x_ fun c1 x_ => uP x_ fun c2 x_ => uP x_ fun t40 x_ => uP x_ fun t41 x_ => uP x_ fun t42 x_ => uP x_ fun t50 x_ => uP x_ fun t51 x_ => uP x_ fun f0 x_ => uP x_ fun f1 x_ => uP x_ fun out0 x_ => uP x_ fun out1 x_ => uP x_ fun o0 x_ => uP x_ fun o1 x_ => uP x_ fun o2 x_ => uP x_ fun o3 x_ => uP x_ fun o4 x_ => uP x_ fun o5 x_ => uP x_ fun t3007 x_ => k_ 0 (Shape.inj R_Control.c16x0 (c, q, i, r_, c0, c1, c2, t40, t41, t42, t50, t51, f0, f1, out0, out1, o0, o1, o2, o3, o4, o5, t3007, ())))
def R_Control.c253266 {ρ : Type} (q : Int) (i : Int) (c2 : List ((Int) × ((Int) × ((List Int) × ((Int) × ((Int) × (List Int))))))) (t3007 : List ((Int) × ((Int) × ((List Int) × ((Int) × ((Int) × (List Int))))))) (k_ : (List ((Int) × ((Int) × ((List Int) × ((Int) × ((Int) × (List Int))))))) ⊕ ((Int) × (Int)) → Option ρ) : Option ρ :=
  bnd (idx c2 i) fun y =>
  br (Prod.fst y == (1 : Int))
   (bnd (okIf (decide ((List.length t3007 + (1 : Nat)) * (80 : Nat) ≤ (140737488355328 : Nat)) && decide (List.length t3007 + (1 : Nat) ≤ (140737488355328 : Nat)))) fun y_1 =>
    k_ (.inl (t3007 ++ [((4 : Int), Prod.fst (Prod.snd y), [], q, (0 : Int), [])])))
   (bnd (W.R_Control.c16 q (Prod.fst (Prod.snd (Prod.snd y))) (Prod.fst (Prod.snd (Prod.snd (Prod.snd y)))) some) fun y_2 =>
    br y_2
     (bnd (W.R_rfault (12 : Int) i) fun y_3 =>
      k_ (.inr ((Prod.fst y_3), (Prod.snd y_3))))
     (bnd (W.R_copyOp (Prod.fst y, Prod.fst (Prod.snd y), Prod.fst (Prod.snd (Prod.snd y)), Prod.fst (Prod.snd (Prod.snd (Prod.snd y))), Prod.fst (Prod.snd (Prod.snd (Prod.snd (Prod.snd y)))), Prod.snd (Prod.snd (Prod.snd (Prod.snd (Prod.snd y)))))) fun y_4 =>
      bnd (okIf (decide (((1 : Nat) + List.length (Prod.fst (Prod.snd (Prod.snd y_4)))) * (8 : Nat) ≤ (140737488355328 : Nat)) && decide ((1 : Nat) + List.length (Prod.fst (Prod.snd (Prod.snd y_4))) ≤ (140737488355328 : Nat)))) fun y_5 =>
      bnd (okIf (decide ((List.length t3007 + (1 : Nat)) * (80 : Nat) ≤ (140737488355328 : Nat)) && decide (List.length t3007 + (1 : Nat) ≤ (140737488355328 : Nat)))) fun y_6 =>
      k_ (.inl (t3007 ++ [(Prod.fst y_4, Prod.fst (Prod.snd y_4), [q] ++ Prod.fst (Prod.snd (Prod.snd y_4)), Prod.fst (Prod.snd (Prod.snd (Prod.snd y_4))), Prod.fst (Prod.snd (Prod.snd (Prod.snd (Prod.snd y_4)))), Prod.snd (Prod.snd (Prod.snd (Prod.snd (Prod.snd y_4)))))]))))
def R_Control.c253266s : Shape := ⟨[(0, qc0), (1, qc6), (2, qc4), (4, qc10), (5, qc11), (6, qc12), (7, qc15), (8, qc6)], [(2, qc7), (4, qc7), (5, qc13), (6, qc13), (7, qc20), (3007, qc2)]⟩
def R_Control.c253266x0 : Shape := ⟨[(0, qc0), (1, qc6), (2, qc4), (4, qc10), (5, qc11), (6, qc12), (7, qc15), (8, qc6)], [(2, qc7), (4, qc7), (5, qc13), (6, qc13), (7, qc20), (3007, qc2)]⟩
def R_Control.c253266x1 : Shape := ⟨[(0, qc0), (1, qc6), (2, qc4), (4, qc10), (5, qc11), (6, qc12), (7, qc15), (8, qc6)], [(2, qc7), (4, qc7), (5, qc13), (6, qc13), (7, qc20), (3007, qc2)]⟩
def R_Control.c253266r : Ck := Ck.of (T := (List ((Int) × ((Int) × ((List Int) × ((Int) × ((Int) × (List Int))))))) ⊕ ((Int) × (Int))) R_Control.c253266s (fun ρ x_ k_ => uP x_ fun c x_ => uP x_ fun q x_ => uP x_ fun i x_ => uP x_ fun c0 x_ => uP x_ fun c1 x_ => uP x_ fun c2 x_ => uP x_ fun t40 x_ => uP x_ fun t41 x_ => uP x_ fun t42 x_ => uP x_ fun t50 x_ => uP x_ fun t51 x_ => uP x_ fun f0 x_ => uP x_ fun f1 x_ => uP x_ fun out0 x_ => uP x_ fun out1 x_ => uP x_ fun t3007 x_ => R_Control.c253266 q i c2 t3007 k_) (fun ρ x_ r_ k_ => uP x_ fun c x_ => uP x_ fun q x_ => uP x_ fun i x_ => uP x_ fun c0 x_ => uP x_ fun c1 x_ => uP x_ fun c2 x_ => uP x_ fun t40 x_ => uP x_ fun t41 x_ => uP x_ fun t42 x_ => uP x_ fun t50 x_ => uP x_ fun t51 x_ => uP x_ fun f0 x_ => uP x_ fun f1 x_ => uP x_ fun out0 x_ => uP x_ fun out1 x_ => uP x_ fun t3007 x_ => sel r_ (fun r_ => k_ 0 (Shape.inj R_Control.c253266x0 (c, q, i, c0, c1, c2, t40, t41, t42, t50, t51, f0, f1, out0, out1, r_, ()))) (fun r_ => k_ 1 (Shape.inj R_Control.c253266x1 (c, q, i, c0, c1, c2, (0 : Int), (0 : Int), [], r_.1, r_.2, f0, f1, out0, out1, t3007, ()))))
def R_Control.c100011 {ρ : Type} (q : Int) (i : Int) (c2 : List ((Int) × ((Int) × ((List Int) × ((Int) × ((Int) × (List Int))))))) (t3007 : List ((Int) × ((Int) × ((List Int) × ((Int) × ((Int) × (List Int))))))) (k_ : ((Int) × (List ((Int) × ((Int) × ((List Int) × ((Int) × ((Int) × (List Int)))))))) ⊕ (((Int) × (Int) × (Int) × (List ((Int) × ((Int) × ((List Int) × ((Int) × ((Int) × (List Int)))))))) ⊕ ((Int) × (List ((Int) × ((Int) × ((List Int) × ((Int) × ((Int) × (List Int))))))))) → Option ρ) : Option ρ :=
  br (decide (i < (↑(List.length c2) : Int)))
   (bnd (W.R_Control.c253266 q i c2 t3007 some) fun y =>
    sel y
     (fun u => k_ (.inl ((IntKind.wrap IntKind.i64 (i + (1 : Int))), u)))
     (fun v => k_ (.inr (.inl (i, (Prod.fst v), (Prod.snd v), t3007)))))
   (k_ (.inr (.inr (i, t3007))))
def R_Control.c100011s : Shape := ⟨[(0, qc0), (1, qc6), (2, qc4), (4, qc10), (5, qc11), (6, qc12), (7, qc15), (8, qc6)], [(2, qc7), (4, qc7), (5, qc13), (6, qc13), (7, qc20), (3007, qc2)]⟩
def R_Control.c100011x0 : Shape := ⟨[(0, qc0), (1, qc6), (2, qc4), (4, qc10), (5, qc11), (6, qc12), (7, qc15), (8, qc6)], [(2, qc7), (4, qc7), (5, qc13), (6, qc13), (7, qc20), (3007, qc2)]⟩
def R_Control.c100011x1 : Shape := ⟨[(0, qc0), (1, qc6), (2, qc4), (4, qc10), (5, qc11), (6, qc12), (7, qc15), (8, qc6)], [(2, qc7), (4, qc7), (5, qc13), (6, qc13), (7, qc20), (3007, qc2)]⟩
def R_Control.c100011r : Ck := Ck.ofLoop (S := (Int) × (List ((Int) × ((Int) × ((List Int) × ((Int) × ((Int) × (List Int)))))))) (T := ((Int) × (Int) × (Int) × (List ((Int) × ((Int) × ((List Int) × ((Int) × ((Int) × (List Int)))))))) ⊕ ((Int) × (List ((Int) × ((Int) × ((List Int) × ((Int) × ((Int) × (List Int))))))))) R_Control.c100011s (fun x_ => uP x_ fun c x_ => uP x_ fun q x_ => uP x_ fun i x_ => uP x_ fun c0 x_ => uP x_ fun c1 x_ => uP x_ fun c2 x_ => uP x_ fun t40 x_ => uP x_ fun t41 x_ => uP x_ fun t42 x_ => uP x_ fun t50 x_ => uP x_ fun t51 x_ => uP x_ fun f0 x_ => uP x_ fun f1 x_ => uP x_ fun out0 x_ => uP x_ fun out1 x_ => uP x_ fun t3007 x_ => (i, t3007)) (fun ρ x_ s_ k_ => uP x_ fun c x_ => uP x_ fun q x_ => uP x_ fun i x_ => uP x_ fun c0 x_ => uP x_ fun c1 x_ => uP x_ fun c2 x_ => uP x_ fun t40 x_ => uP x_ fun t41 x_ => uP x_ fun t42 x_ => uP x_ fun t50 x_ => uP x_ fun t51 x_ => uP x_ fun f0 x_ => uP x_ fun f1 x_ => uP x_ fun out0 x_ => uP x_ fun out1 x_ => uP x_ fun t3007 x_ => R_Control.c100011 q s_.1 c2 s_.2 k_) (fun ρ x_ r_ k_ => uP x_ fun c x_ => uP x_ fun q x_ => uP x_ fun i x_ => uP x_ fun c0 x_ => uP x_ fun c1 x_ => uP x_ fun c2 x_ => uP x_ fun t40 x_ => uP x_ fun t41 x_ => uP x_ fun t42 x_ => uP x_ fun t50 x_ => uP x_ fun t51 x_ => uP x_ fun f0 x_ => uP x_ fun f1 x_ => uP x_ fun out0 x_ => uP x_ fun out1 x_ => uP x_ fun t3007 x_ => sel r_ (fun r_ => k_ 1 (Shape.inj R_Control.c100011x0 (c, q, r_.1, c0, c1, c2, (0 : Int), (0 : Int), [], r_.2.1, r_.2.2.1, f0, f1, out0, out1, r_.2.2.2, ()))) (fun r_ => k_ 2 (Shape.inj R_Control.c100011x1 (c, q, r_.1, c0, c1, c2, t40, t41, t42, t50, t51, f0, f1, out0, out1, r_.2, ()))))
def R_Control.c21 {ρ : Type}  (k_ : Unit → Option ρ) : Option ρ :=
  k_ ()
def R_Control.c21s : Shape := ⟨[(0, qc0), (1, qc6), (2, qc4), (4, qc10), (5, qc11), (6, qc12), (7, qc15), (8, qc6)], [(2, qc7), (4, qc7), (5, qc13), (6, qc13), (7, qc20), (3007, qc2)]⟩
def R_Control.c21x0 : Shape := ⟨[(0, qc0), (1, qc6), (2, qc4), (4, qc10), (5, qc11), (6, qc12), (7, qc15), (8, qc6)], [(2, qc7), (4, qc20), (5, qc13), (6, qc13), (7, qc20), (3007, qc2)]⟩
def R_Control.c21r : Ck := Ck.of (T := Unit) R_Control.c21s (fun ρ x_ k_ => uP x_ fun c x_ => uP x_ fun q x_ => uP x_ fun i x_ => uP x_ fun c0 x_ => uP x_ fun c1 x_ => uP x_ fun c2 x_ => uP x_ fun t40 x_ => uP x_ fun t41 x_ => uP x_ fun t42 x_ => uP x_ fun t50 x_ => uP x_ fun t51 x_ => uP x_ fun f0 x_ => uP x_ fun f1 x_ => uP x_ fun out0 x_ => uP x_ fun out1 x_ => uP x_ fun t3007 x_ => R_Control.c21  k_) (fun ρ x_ r_ k_ => uP x_ fun c x_ => uP x_ fun q x_ => uP x_ fun i x_ => uP x_ fun c0 x_ => uP x_ fun c1 x_ => uP x_ fun c2 x_ => uP x_ fun t40 x_ => uP x_ fun t41 x_ => uP x_ fun t42 x_ => uP x_ fun t50 x_ => uP x_ fun t51 x_ => uP x_ fun f0 x_ => uP x_ fun f1 x_ => uP x_ fun out0 x_ => uP x_ fun out1 x_ => uP x_ fun t3007 x_ => k_ 0 (Shape.inj R_Control.c21x0 (c, q, i, c0, c1, c2, out0, out1, f0, f1, f0, f1, out0, out1, t3007, ())))
def R_Control (c : (Int) × ((Int) × (List ((Int) × ((Int) × ((List Int) × ((Int) × ((Int) × (List Int))))))))) (q : Int) : Option (((Int) × ((Int) × (List ((Int) × ((Int) × ((List Int) × ((Int) × ((Int) × (List Int))))))))) × ((Int) × (Int))) :=
  bnd (W.R_Check (Prod.fst c, Prod.fst (Prod.snd c), Prod.snd (Prod.snd c))) fun y =>
  br (Prod.fst y != (0 : Int))
   (bnd (W.R_Control.c3 some) fun y_1 =>
    some (((0 : Int), (0 : Int), []), Prod.fst y, Prod.snd y))
   (bnd (W.R_Control.c4 q (Prod.fst c) some) fun y_2 =>
    br y_2
     (bnd (W.R_rfault (10 : Int) (0 : Int)) fun y_3 =>
      some (((0 : Int), (0 : Int), []), Prod.fst y_3, Prod.snd y_3))
     (bnd (W.R_Pure (Prod.fst c, Prod.fst (Prod.snd c), Prod.snd (Prod.snd c))) fun y_4 =>
      br (Prod.fst y_4 != (0 : Int))
       (bnd (W.R_Control.c8 some) fun y_5 =>
        some (((0 : Int), (0 : Int), []), Prod.fst y_4, Prod.snd y_4))
       (bnd (iter (fun s ↦ W.R_Control.c100011 q (Prod.fst s) (Prod.snd (Prod.snd c)) (Prod.snd s) some) ((0 : Int), [])) fun y_6 =>
        sel y_6
         (fun u => some (((0 : Int), (0 : Int), []), Prod.fst (Prod.snd u), Prod.fst (Prod.snd (Prod.snd u))))
         (fun v => bnd (W.R_Control.c21 some) fun y_7 =>
          some ((Prod.fst c, Prod.fst (Prod.snd c), Prod.snd v), Prod.fst y_4, Prod.snd y_4)))))
def R_Control.ce : Go.Ql.Callee := ⟨[(.st (.pair (.int .i64) (.pair (.int .i64) (.sl (.st (.pair (.int .i64) (.pair (.int .i64) (.pair (.sl (.int .i64)) (.pair (.int .i64) (.pair (.int .i64) (.sl (.int .i64)))))))))))), (.int .i64)], [(.st (.pair (.int .i64) (.pair (.int .i64) (.sl (.st (.pair (.int .i64) (.pair (.int .i64) (.pair (.sl (.int .i64)) (.pair (.int .i64) (.pair (.int .i64) (.sl (.int .i64)))))))))))), (.st (.pair (.int .i64) (.int .i64)))], fun x_ => R_Control x_.1 x_.2⟩
def R_Control.G : Env := ⟨92, tab, [(15, R_Check.ce), (42, R_rfault.ce), (17, R_Pure.ce), (52, R_member.ce), (37, R_copyOp.ce)], [0, 1, 2, 4, 5, 6, 7, 8, 9, 14, 24, 31, 43, 53, 72], [2, 7, 38, 79, 3002, 3007], [(21, [⟨[], [], [91], []⟩, ⟨[], [], [90], [4]⟩, ⟨[0], [4], [91], []⟩, ⟨[1, 2, 0], [5], [], []⟩]),
  (8, [⟨[], [], [33], []⟩, ⟨[], [], [32], [4]⟩, ⟨[0], [4], [33], []⟩, ⟨[1, 2, 0], [5], [], []⟩]),
  (3, [⟨[], [], [16], []⟩, ⟨[], [], [15], [4]⟩, ⟨[0], [4], [16], []⟩, ⟨[1, 2, 0], [5], [], []⟩])], [(21, R_Control.c21r), (100011, R_Control.c100011r), (253266, R_Control.c253266r), (16, R_Control.c16r), (8, R_Control.c8r), (4, R_Control.c4r), (3, R_Control.c3r)], [], tab_eqs⟩
theorem R_Control.eq (x_ : dens [(.st (.pair (.int .i64) (.pair (.int .i64) (.sl (.st (.pair (.int .i64) (.pair (.int .i64) (.pair (.sl (.int .i64)) (.pair (.int .i64) (.pair (.int .i64) (.sl (.int .i64)))))))))))), (.int .i64)]) : den R_Control.G Go.Proofs.Tryd.f26 [(.st (.pair (.int .i64) (.pair (.int .i64) (.sl (.st (.pair (.int .i64) (.pair (.int .i64) (.pair (.sl (.int .i64)) (.pair (.int .i64) (.pair (.int .i64) (.sl (.int .i64)))))))))))), (.int .i64)] [(.st (.pair (.int .i64) (.pair (.int .i64) (.sl (.st (.pair (.int .i64) (.pair (.int .i64) (.pair (.sl (.int .i64)) (.pair (.int .i64) (.pair (.int .i64) (.sl (.int .i64)))))))))))), (.st (.pair (.int .i64) (.int .i64)))] x_ = R_Control x_.1 x_.2 := by kernel_rfl
theorem R_Control.p0 : PieceOk R_Control.G (pieceAt (pieces R_Control.G.cks (bodyOf Go.Proofs.Tryd.f26)) 0).1 (pieceAt (pieces R_Control.G.cks (bodyOf Go.Proofs.Tryd.f26)) 0).2 :=
  region_ok (s := R_Control.c3r) (by kernel_rfl) (by kernel_rfl) (sums_of (sh := R_Control.c3s) (fun ρ x_ k_ => nat_leaf) (fun ρ x_ t k => (by kernel_rfl)) (fun x_ => by kernel_rfl))
theorem R_Control.p1 : PieceOk R_Control.G (pieceAt (pieces R_Control.G.cks (bodyOf Go.Proofs.Tryd.f26)) 1).1 (pieceAt (pieces R_Control.G.cks (bodyOf Go.Proofs.Tryd.f26)) 1).2 :=
  region_ok (s := R_Control.c4r) (by kernel_rfl) (by kernel_rfl) (sums_of (sh := R_Control.c4s) (fun ρ x_ k_ => (nat_br nat_leaf nat_leaf)) (fun ρ x_ t k => (by kernel_rfl)) (fun x_ => by kernel_rfl))
theorem R_Control.p2 : PieceOk R_Control.G (pieceAt (pieces R_Control.G.cks (bodyOf Go.Proofs.Tryd.f26)) 2).1 (pieceAt (pieces R_Control.G.cks (bodyOf Go.Proofs.Tryd.f26)) 2).2 :=
  region_ok (s := R_Control.c8r) (by kernel_rfl) (by kernel_rfl) (sums_of (sh := R_Control.c8s) (fun ρ x_ k_ => nat_leaf) (fun ρ x_ t k => (by kernel_rfl)) (fun x_ => by kernel_rfl))
theorem R_Control.p3 : PieceOk R_Control.G (pieceAt (pieces R_Control.G.cks (bodyOf Go.Proofs.Tryd.f26)) 3).1 (pieceAt (pieces R_Control.G.cks (bodyOf Go.Proofs.Tryd.f26)) 3).2 :=
  loop_ok (s := R_Control.c100011r) (by kernel_rfl) (by kernel_rfl) (loops_of (sh := R_Control.c100011s) (I := fun x_ s_ => (x_.1, x_.2.1, s_.1, x_.2.2.2.1, x_.2.2.2.2.1, x_.2.2.2.2.2.1, x_.2.2.2.2.2.2.1, x_.2.2.2.2.2.2.2.1, x_.2.2.2.2.2.2.2.2.1, x_.2.2.2.2.2.2.2.2.2.1, x_.2.2.2.2.2.2.2.2.2.2.1, x_.2.2.2.2.2.2.2.2.2.2.2.1, x_.2.2.2.2.2.2.2.2.2.2.2.2.1, x_.2.2.2.2.2.2.2.2.2.2.2.2.2.1, x_.2.2.2.2.2.2.2.2.2.2.2.2.2.2.1, s_.2, ())) (fun x_ => rfl) (fun ρ x_ s_ k_ => (nat_br (nat_bnd fun _ => (nat_sel (fun _ => nat_leaf) (fun _ => nat_leaf))) nat_leaf)) (fun ρ x_ t k => (nat_sel (fun _ => (by kernel_rfl)) (fun _ => (by kernel_rfl)))) (fun x_ s => by kernel_rfl))
theorem R_Control.p4 : PieceOk R_Control.G (pieceAt (pieces R_Control.G.cks (bodyOf Go.Proofs.Tryd.f26)) 4).1 (pieceAt (pieces R_Control.G.cks (bodyOf Go.Proofs.Tryd.f26)) 4).2 :=
  join_ok (s := R_Control.c253266r) (by kernel_rfl) (by kernel_rfl) (sums_of (sh := R_Control.c253266s) (fun ρ x_ k_ => (nat_bnd fun _ => (nat_br (nat_bnd fun _ => nat_leaf) (nat_bnd fun _ => (nat_br (nat_bnd fun _ => nat_leaf) (nat_bnd fun _ => (nat_bnd fun _ => (nat_bnd fun _ => nat_leaf)))))))) (fun ρ x_ t k => (nat_sel (fun _ => (by kernel_rfl)) (fun _ => (by kernel_rfl)))) (fun x_ => by kernel_rfl))
theorem R_Control.p5 : PieceOk R_Control.G (pieceAt (pieces R_Control.G.cks (bodyOf Go.Proofs.Tryd.f26)) 5).1 (pieceAt (pieces R_Control.G.cks (bodyOf Go.Proofs.Tryd.f26)) 5).2 :=
  region_ok (s := R_Control.c16r) (by kernel_rfl) (by kernel_rfl) (sums_of (sh := R_Control.c16s) (fun ρ x_ k_ => (nat_br nat_leaf (nat_bnd fun _ => nat_leaf))) (fun ρ x_ t k => (by kernel_rfl)) (fun x_ => by kernel_rfl))
theorem R_Control.p6 : PieceOk R_Control.G (pieceAt (pieces R_Control.G.cks (bodyOf Go.Proofs.Tryd.f26)) 6).1 (pieceAt (pieces R_Control.G.cks (bodyOf Go.Proofs.Tryd.f26)) 6).2 :=
  region_ok (s := R_Control.c21r) (by kernel_rfl) (by kernel_rfl) (sums_of (sh := R_Control.c21s) (fun ρ x_ k_ => nat_leaf) (fun ρ x_ t k => (by kernel_rfl)) (fun x_ => by kernel_rfl))
theorem R_Control.ok : CalleeOk Go.Proofs.Tryd.prog 26 R_Control.ce := fn_ok (G := R_Control.G) tab_ok mixed Go.Proofs.Tryd.func26 ⟨(fns_cons R_Check.ok (fns_cons R_rfault.ok (fns_cons R_Pure.ok (fns_cons R_member.ok (fns_cons R_copyOp.ok fns_nil))))), mfns_nil, tab_eqs_ok⟩ (m := 7) (by kernel_rfl) ⟨⟨⟨⟨⟨⟨⟨trivial, R_Control.p0⟩, R_Control.p1⟩, R_Control.p2⟩, R_Control.p3⟩, R_Control.p4⟩, R_Control.p5⟩, R_Control.p6⟩ (by kernel_rfl) R_Control.eq
def circ_Pure (c : (Int) × ((Int) × (List ((Int) × ((Int) × ((List Int) × ((Int) × ((Int) × (List Int))))))))) : Option ((Int) × (Int)) :=
  bnd (W.circ_pure (Prod.fst c, Prod.fst (Prod.snd c), Prod.snd (Prod.snd c))) fun y =>
  some (Prod.fst y, Prod.snd y)
def circ_Pure.ce : Go.Ql.Callee := ⟨[(.st (.pair (.int .i64) (.pair (.int .i64) (.sl (.st (.pair (.int .i64) (.pair (.int .i64) (.pair (.sl (.int .i64)) (.pair (.int .i64) (.pair (.int .i64) (.sl (.int .i64))))))))))))], [(.st (.pair (.int .i64) (.int .i64)))], fun x_ => circ_Pure x_⟩
def circ_Pure.G : Env := ⟨5, tab, [(44, circ_pure.ce)], [0, 1, 2], [], [], [], [], tab_eqs⟩
theorem circ_Pure.eq (x_ : dens [(.st (.pair (.int .i64) (.pair (.int .i64) (.sl (.st (.pair (.int .i64) (.pair (.int .i64) (.pair (.sl (.int .i64)) (.pair (.int .i64) (.pair (.int .i64) (.sl (.int .i64))))))))))))]) : den circ_Pure.G Go.Proofs.Tryd.f16 [(.st (.pair (.int .i64) (.pair (.int .i64) (.sl (.st (.pair (.int .i64) (.pair (.int .i64) (.pair (.sl (.int .i64)) (.pair (.int .i64) (.pair (.int .i64) (.sl (.int .i64))))))))))))] [(.st (.pair (.int .i64) (.int .i64)))] x_ = circ_Pure x_ := by kernel_rfl
theorem circ_Pure.ok : CalleeOk Go.Proofs.Tryd.prog 16 circ_Pure.ce := fn_ok (G := circ_Pure.G) tab_ok mixed Go.Proofs.Tryd.func16 ⟨(fns_cons circ_pure.ok fns_nil), mfns_nil, tab_eqs_ok⟩ (m := 0) (by kernel_rfl) trivial (by kernel_rfl) circ_Pure.eq
abbrev qc22 : SD := .one (.val .str)
abbrev qc23 : SD := .one (.val (.int .u8))
abbrev qc24 : SD := .one (.val (.sl .str))
abbrev qc25 : SD := .one (.own 5 0)
abbrev qc26 : SO := .arr 0 false 9 .str
def R_split.c6 {ρ : Type} (text : List UInt8) (c : Int) (i : Int) (k_ : Bool → Option ρ) : Option ρ :=
  br (i == (↑(List.length text) : Int))
   (k_ true)
   (bnd (idx text i) fun y =>
    k_ ((↑(UInt8.toNat y) : Int) == c))
def R_split.c6s : Shape := ⟨[(0, qc22), (1, qc23), (4, qc24), (5, qc25), (6, qc6), (7, qc6)], [(5, qc26)]⟩
def R_split.c6x0 : Shape := ⟨[(0, qc22), (1, qc23), (4, qc24), (5, qc25), (6, qc6), (7, qc6), (24, qc14)], [(5, qc26)]⟩
def R_split.c6r : Ck := Ck.of (T := Bool) R_split.c6s (fun ρ x_ k_ => uP x_ fun text x_ => uP x_ fun c x_ => uP x_ fun t4 x_ => uP x_ fun t6 x_ => uP x_ fun i x_ => uP x_ fun out x_ => R_split.c6 text c i k_) (fun ρ x_ r_ k_ => uP x_ fun text x_ => uP x_ fun c x_ => uP x_ fun t4 x_ => uP x_ fun t6 x_ => uP x_ fun i x_ => uP x_ fun out x_ => k_ 0 (Shape.inj R_split.c6x0 (text, c, t4, t6, i, r_, out, ())))
def R_split.c224584 {ρ : Type} (text : List UInt8) (c : Int) (t6 : Int) (i : Int) (out : List (List UInt8)) (k_ : (Int) × (List (List UInt8)) → Option ρ) : Option ρ :=
  bnd (W.R_split.c6 text c i some) fun y =>
  br y
   (bnd (okIf (decide ((0 : Int) ≤ t6) && decide (t6 ≤ i) && decide (i ≤ (↑(List.length text) : Int)))) fun y_1 =>
    bnd (okIf (decide ((List.length out + (1 : Nat)) * (16 : Nat) ≤ (140737488355328 : Nat)) && decide (List.length out + (1 : Nat) ≤ (140737488355328 : Nat)))) fun y_2 =>
    k_ ((IntKind.wrap IntKind.i64 (i + (1 : Int))), (out ++ [List.drop (Int.toNat t6) (List.take (Int.toNat i) text)])))
   (k_ (t6, out))
def R_split.c224584s : Shape := ⟨[(0, qc22), (1, qc23), (4, qc24), (5, qc25), (6, qc6), (7, qc6)], [(5, qc26)]⟩
def R_split.c224584x0 : Shape := ⟨[(0, qc22), (1, qc23), (4, qc24), (5, qc25), (6, qc6), (7, qc6)], [(5, qc26)]⟩
def R_split.c224584r : Ck := Ck.of (T := (Int) × (List (List UInt8))) R_split.c224584s (fun ρ x_ k_ => uP x_ fun text x_ => uP x_ fun c x_ => uP x_ fun t4 x_ => uP x_ fun t6 x_ => uP x_ fun i x_ => uP x_ fun out x_ => R_split.c224584 text c t6 i out k_) (fun ρ x_ r_ k_ => uP x_ fun text x_ => uP x_ fun c x_ => uP x_ fun t4 x_ => uP x_ fun t6 x_ => uP x_ fun i x_ => uP x_ fun out x_ => k_ 0 (Shape.inj R_split.c224584x0 (text, c, t4, r_.1, i, r_.2, ())))
def R_split.c100004 {ρ : Type} (text : List UInt8) (c : Int) (t6 : Int) (i : Int) (out : List (List UInt8)) (k_ : ((Int) × (Int) × (List (List UInt8))) ⊕ ((Int) × (Int) × (List (List UInt8))) → Option ρ) : Option ρ :=
  br (decide (i ≤ (↑(List.length text) : Int)))
   (bnd (W.R_split.c224584 text c t6 i out some) fun y =>
    k_ (.inl ((Prod.fst y), (IntKind.wrap IntKind.i64 (i + (1 : Int))), (Prod.snd y))))
   (k_ (.inr (t6, i, out)))
def R_split.c100004s : Shape := ⟨[(0, qc22), (1, qc23), (4, qc24), (5, qc25), (6, qc6), (7, qc6)], [(5, qc26)]⟩
def R_split.c100004x0 : Shape := ⟨[(0, qc22), (1, qc23), (4, qc24), (5, qc25), (6, qc6), (7, qc6)], [(5, qc26)]⟩
def R_split.c100004r : Ck := Ck.ofLoop (S := (Int) × (Int) × (List (List UInt8))) (T := (Int) × (Int) × (List (List UInt8))) R_split.c100004s (fun x_ => uP x_ fun text x_ => uP x_ fun c x_ => uP x_ fun t4 x_ => uP x_ fun t6 x_ => uP x_ fun i x_ => uP x_ fun out x_ => (t6, i, out)) (fun ρ x_ s_ k_ => uP x_ fun text x_ => uP x_ fun c x_ => uP x_ fun t4 x_ => uP x_ fun t6 x_ => uP x_ fun i x_ => uP x_ fun out x_ => R_split.c100004 text c s_.1 s_.2.1 s_.2.2 k_) (fun ρ x_ r_ k_ => uP x_ fun text x_ => uP x_ fun c x_ => uP x_ fun t4 x_ => uP x_ fun t6 x_ => uP x_ fun i x_ => uP x_ fun out x_ => k_ 2 (Shape.inj R_split.c100004x0 (text, c, t4, r_.1, r_.2.1, r_.2.2, ())))
def R_split (text : List UInt8) (c : Int) : Option (List (List UInt8)) :=
  bnd (iter (fun s ↦ W.R_split.c100004 text c (Prod.fst s) (Prod.fst (Prod.snd s)) (Prod.snd (Prod.snd s)) some) ((0 : Int), (0 : Int), [])) fun y =>
  some (Prod.snd (Prod.snd y))
def R_split.ce : Go.Ql.Callee := ⟨[.str, (.int .u8)], [(.sl .str)], fun x_ => R_split x_.1 x_.2⟩
def R_split.G : Env := ⟨35, tab, [], [0, 1, 4, 5, 6, 7, 11, 24], [5], [], [(100004, R_split.c100004r), (224584, R_split.c224584r), (6, R_split.c6r)], [], tab_eqs⟩
theorem R_split.eq (x_ : dens [.str, (.int .u8)]) : den R_split.G Go.Proofs.Tryd.f64 [.str, (.int .u8)] [(.sl .str)] x_ = R_split x_.1 x_.2 := by kernel_rfl
theorem R_split.p0 : PieceOk R_split.G (pieceAt (pieces R_split.G.cks (bodyOf Go.Proofs.Tryd.f64)) 0).1 (pieceAt (pieces R_split.G.cks (bodyOf Go.Proofs.Tryd.f64)) 0).2 :=
  loop_ok (s := R_split.c100004r) (by kernel_rfl) (by kernel_rfl) (loops_of (sh := R_split.c100004s) (I := fun x_ s_ => (x_.1, x_.2.1, x_.2.2.1, s_.1, s_.2.1, s_.2.2, ())) (fun x_ => rfl) (fun ρ x_ s_ k_ => (nat_br (nat_bnd fun _ => nat_leaf) nat_leaf)) (fun ρ x_ t k => (by kernel_rfl)) (fun x_ s => by kernel_rfl))
theorem R_split.p1 : PieceOk R_split.G (pieceAt (pieces R_split.G.cks (bodyOf Go.Proofs.Tryd.f64)) 1).1 (pieceAt (pieces R_split.G.cks (bodyOf Go.Proofs.Tryd.f64)) 1).2 :=
  join_ok (s := R_split.c224584r) (by kernel_rfl) (by kernel_rfl) (sums_of (sh := R_split.c224584s) (fun ρ x_ k_ => (nat_bnd fun _ => (nat_br (nat_bnd fun _ => (nat_bnd fun _ => nat_leaf)) nat_leaf))) (fun ρ x_ t k => (by kernel_rfl)) (fun x_ => by kernel_rfl))
theorem R_split.p2 : PieceOk R_split.G (pieceAt (pieces R_split.G.cks (bodyOf Go.Proofs.Tryd.f64)) 2).1 (pieceAt (pieces R_split.G.cks (bodyOf Go.Proofs.Tryd.f64)) 2).2 :=
  region_ok (s := R_split.c6r) (by kernel_rfl) (by kernel_rfl) (sums_of (sh := R_split.c6s) (fun ρ x_ k_ => (nat_br nat_leaf (nat_bnd fun _ => nat_leaf))) (fun ρ x_ t k => (by kernel_rfl)) (fun x_ => by kernel_rfl))
theorem R_split.ok : CalleeOk Go.Proofs.Tryd.prog 64 R_split.ce := fn_ok (G := R_split.G) tab_ok mixed Go.Proofs.Tryd.func64 ⟨fns_nil, mfns_nil, tab_eqs_ok⟩ (m := 3) (by kernel_rfl) ⟨⟨⟨trivial, R_split.p0⟩, R_split.p1⟩, R_split.p2⟩ (by kernel_rfl) R_split.eq
def R_figure.c3 {ρ : Type} (w : List UInt8) (i : Int) (k_ : Bool → Option ρ) : Option ρ :=
  br (decide (i < (↑(List.length w) : Int)))
   (k_ (decide (i < (9 : Int))))
   (k_ false)
def R_figure.c3s : Shape := ⟨[(0, qc22), (2, qc6), (3, qc6), (4, qc6)], []⟩
def R_figure.c3x0 : Shape := ⟨[(0, qc22), (2, qc6), (3, qc6), (4, qc6), (12, qc14)], []⟩
def R_figure.c3r : Ck := Ck.of (T := Bool) R_figure.c3s (fun ρ x_ k_ => uP x_ fun w x_ => uP x_ fun t2 x_ => uP x_ fun n x_ => uP x_ fun i x_ => R_figure.c3 w i k_) (fun ρ x_ r_ k_ => uP x_ fun w x_ => uP x_ fun t2 x_ => uP x_ fun n x_ => uP x_ fun i x_ => k_ 0 (Shape.inj R_figure.c3x0 (w, t2, n, i, r_, ())))
def R_figure.c100003 {ρ : Type} (w : List UInt8) (n : Int) (i : Int) (k_ : ((Int) × (Int)) ⊕ ((Int) × (Int)) → Option ρ) : Option ρ :=
  bnd (W.R_figure.c3 w i some) fun y =>
  br y
   (bnd (idx w i) fun y_1 =>
    k_ (.inl ((IntKind.wrap IntKind.i64 (IntKind.wrap IntKind.i64 (n * (10 : Int)) + IntKind.wrap IntKind.i64 (IntKind.wrap IntKind.u8 ((↑(UInt8.toNat y_1) : Int) - (48 : Int))))), (IntKind.wrap IntKind.i64 (i + (1 : Int))))))
   (k_ (.inr (n, i)))
def R_figure.c100003s : Shape := ⟨[(0, qc22), (2, qc6), (3, qc6), (4, qc6)], []⟩
def R_figure.c100003x0 : Shape := ⟨[(0, qc22), (2, qc6), (3, qc6), (4, qc6)], []⟩
def R_figure.c100003r : Ck := Ck.ofLoop (S := (Int) × (Int)) (T := (Int) × (Int)) R_figure.c100003s (fun x_ => uP x_ fun w x_ => uP x_ fun t2 x_ => uP x_ fun n x_ => uP x_ fun i x_ => (n, i)) (fun ρ x_ s_ k_ => uP x_ fun w x_ => uP x_ fun t2 x_ => uP x_ fun n x_ => uP x_ fun i x_ => R_figure.c100003 w s_.1 s_.2 k_) (fun ρ x_ r_ k_ => uP x_ fun w x_ => uP x_ fun t2 x_ => uP x_ fun n x_ => uP x_ fun i x_ => k_ 2 (Shape.inj R_figure.c100003x0 (w, t2, r_.1, r_.2, ())))
def R_figure (w : List UInt8) : Option (Int) :=
  bnd (iter (fun s ↦ W.R_figure.c100003 w (Prod.fst s) (Prod.snd s) some) ((0 : Int), (0 : Int))) fun y =>
  br (decide (Prod.fst y < (0 : Int)))
   (some (0 : Int))
   (some (Prod.fst y))
def R_figure.ce : Go.Ql.Callee := ⟨[.str], [(.int .i64)], fun x_ => R_figure x_⟩
def R_figure.G : Env := ⟨26, tab, [], [0, 2, 3, 4, 12, 24], [], [], [(100003, R_figure.c100003r), (3, R_figure.c3r)], [], tab_eqs⟩
theorem R_figure.eq (x_ : dens [.str]) : den R_figure.G Go.Proofs.Tryd.f65 [.str] [(.int .i64)] x_ = R_figure x_ := by kernel_rfl
theorem R_figure.p0 : PieceOk R_figure.G (pieceAt (pieces R_figure.G.cks (bodyOf Go.Proofs.Tryd.f65)) 0).1 (pieceAt (pieces R_figure.G.cks (bodyOf Go.Proofs.Tryd.f65)) 0).2 :=
  loop_ok (s := R_figure.c100003r) (by kernel_rfl) (by kernel_rfl) (loops_of (sh := R_figure.c100003s) (I := fun x_ s_ => (x_.1, x_.2.1, s_.1, s_.2, ())) (fun x_ => rfl) (fun ρ x_ s_ k_ => (nat_bnd fun _ => (nat_br (nat_bnd fun _ => nat_leaf) nat_leaf))) (fun ρ x_ t k => (by kernel_rfl)) (fun x_ s => by kernel_rfl))
theorem R_figure.p1 : PieceOk R_figure.G (pieceAt (pieces R_figure.G.cks (bodyOf Go.Proofs.Tryd.f65)) 1).1 (pieceAt (pieces R_figure.G.cks (bodyOf Go.Proofs.Tryd.f65)) 1).2 :=
  region_ok (s := R_figure.c3r) (by kernel_rfl) (by kernel_rfl) (sums_of (sh := R_figure.c3s) (fun ρ x_ k_ => (nat_br nat_leaf nat_leaf)) (fun ρ x_ t k => (by kernel_rfl)) (fun x_ => by kernel_rfl))
theorem R_figure.ok : CalleeOk Go.Proofs.Tryd.prog 65 R_figure.ce := fn_ok (G := R_figure.G) tab_ok mixed Go.Proofs.Tryd.func65 ⟨fns_nil, mfns_nil, tab_eqs_ok⟩ (m := 2) (by kernel_rfl) ⟨⟨trivial, R_figure.p0⟩, R_figure.p1⟩ (by kernel_rfl) R_figure.eq
abbrev qc27 : SD := .one (.val (.sl (.int .i64)))
abbrev qc28 : SO := .box [.val .bool, .val (.sl (.int .i64))]
def R_zmade.c2 {ρ : Type} (d : List (Int)) (n : Int) (k_ : Bool → Option ρ) : Option ρ :=
  br (decide (n > (0 : Int)))
   (bnd (idx d (IntKind.wrap IntKind.i64 (n - (1 : Int)))) fun y =>
    k_ (y == (0 : Int)))
   (k_ false)
def R_zmade.c2s : Shape := ⟨[(0, qc14), (1, qc27), (4, qc10), (5, qc6)], [(4, qc28)]⟩
def R_zmade.c2x0 : Shape := ⟨[(0, qc14), (1, qc27), (4, qc10), (5, qc6), (17, qc14)], [(4, qc28)]⟩
def R_zmade.c2r : Ck := Ck.of (T := Bool) R_zmade.c2s (fun ρ x_ k_ => uP x_ fun neg x_ => uP x_ fun d x_ => uP x_ fun n x_ => uP x_ fun t40 x_ => uP x_ fun t41 x_ => R_zmade.c2 d n k_) (fun ρ x_ r_ k_ => uP x_ fun neg x_ => uP x_ fun d x_ => uP x_ fun n x_ => uP x_ fun t40 x_ => uP x_ fun t41 x_ => k_ 0 (Shape.inj R_zmade.c2x0 (neg, d, n, r_, t40, t41, ())))
def R_zmade.c100002 {ρ : Type} (d : List (Int)) (n : Int) (k_ : (Int) ⊕ (Int) → Option ρ) : Option ρ :=
  bnd (W.R_zmade.c2 d n some) fun y =>
  br y
   (k_ (.inl (IntKind.wrap IntKind.i64 (n - (1 : Int)))))
   (k_ (.inr n))
def R_zmade.c100002s : Shape := ⟨[(0, qc14), (1, qc27), (4, qc10), (5, qc6)], [(4, qc28)]⟩
def R_zmade.c100002x0 : Shape := ⟨[(0, qc14), (1, qc27), (4, qc10), (5, qc6)], [(4, qc28)]⟩
def R_zmade.c100002r : Ck := Ck.ofLoop (S := Int) (T := Int) R_zmade.c100002s (fun x_ => uP x_ fun neg x_ => uP x_ fun d x_ => uP x_ fun n x_ => uP x_ fun t40 x_ => uP x_ fun t41 x_ => n) (fun ρ x_ s_ k_ => uP x_ fun neg x_ => uP x_ fun d x_ => uP x_ fun n x_ => uP x_ fun t40 x_ => uP x_ fun t41 x_ => R_zmade.c100002 d s_ k_) (fun ρ x_ r_ k_ => uP x_ fun neg x_ => uP x_ fun d x_ => uP x_ fun n x_ => uP x_ fun t40 x_ => uP x_ fun t41 x_ => k_ 2 (Shape.inj R_zmade.c100002x0 (neg, d, r_, t40, t41, ())))
def R_zmade (neg : Bool) (d : List (Int)) : Option ((Bool) × (List Int)) :=
  bnd (iter (fun s ↦ W.R_zmade.c100002 d s some) ↑(List.length d)) fun y =>
  br (y == (0 : Int))
   (some (false, []))
   (bnd (okIf (decide ((0 : Int) ≤ y) && decide (y ≤ (↑(List.length d) : Int)))) fun y_1 =>
    some (neg, List.take (Int.toNat y) d))
def R_zmade.ce : Go.Ql.Callee := ⟨[.bool, (.sl (.int .i64))], [(.st (.pair .bool (.sl (.int .i64))))], fun x_ => R_zmade x_.1 x_.2⟩
def R_zmade.G : Env := ⟨28, tab, [], [0, 1, 4, 5, 17, 21], [], [], [(100002, R_zmade.c100002r), (2, R_zmade.c2r)], [], tab_eqs⟩
theorem R_zmade.eq (x_ : dens [.bool, (.sl (.int .i64))]) : den R_zmade.G Go.Proofs.Tryd.f86 [.bool, (.sl (.int .i64))] [(.st (.pair .bool (.sl (.int .i64))))] x_ = R_zmade x_.1 x_.2 := by kernel_rfl
theorem R_zmade.p0 : PieceOk R_zmade.G (pieceAt (pieces R_zmade.G.cks (bodyOf Go.Proofs.Tryd.f86)) 0).1 (pieceAt (pieces R_zmade.G.cks (bodyOf Go.Proofs.Tryd.f86)) 0).2 :=
  loop_ok (s := R_zmade.c100002r) (by kernel_rfl) (by kernel_rfl) (loops_of (sh := R_zmade.c100002s) (I := fun x_ s_ => (x_.1, x_.2.1, s_, x_.2.2.2.1, x_.2.2.2.2.1, ())) (fun x_ => rfl) (fun ρ x_ s_ k_ => (nat_bnd fun _ => (nat_br nat_leaf nat_leaf))) (fun ρ x_ t k => (by kernel_rfl)) (fun x_ s => by kernel_rfl))
theorem R_zmade.p1 : PieceOk R_zmade.G (pieceAt (pieces R_zmade.G.cks (bodyOf Go.Proofs.Tryd.f86)) 1).1 (pieceAt (pieces R_zmade.G.cks (bodyOf Go.Proofs.Tryd.f86)) 1).2 :=
  region_ok (s := R_zmade.c2r) (by kernel_rfl) (by kernel_rfl) (sums_of (sh := R_zmade.c2s) (fun ρ x_ k_ => (nat_br (nat_bnd fun _ => nat_leaf) nat_leaf)) (fun ρ x_ t k => (by kernel_rfl)) (fun x_ => by kernel_rfl))
theorem R_zmade.ok : CalleeOk Go.Proofs.Tryd.prog 86 R_zmade.ce := fn_ok (G := R_zmade.G) tab_ok mixed Go.Proofs.Tryd.func86 ⟨fns_nil, mfns_nil, tab_eqs_ok⟩ (m := 2) (by kernel_rfl) ⟨⟨trivial, R_zmade.p0⟩, R_zmade.p1⟩ (by kernel_rfl) R_zmade.eq
abbrev qc29 : SD := .one (.val (.int .u64))
abbrev qc30 : SD := .one (.own 4 0)
abbrev qc31 : SO := .arr 0 false 3 (.int .i64)
def R_ZOf.c208197 {ρ : Type} (n : Int) (u : Int) (k_ : Int → Option ρ) : Option ρ :=
  br (decide (n < (0 : Int)))
   (k_ (IntKind.wrap IntKind.u64 ((0 : Int) - u)))
   (k_ u)
def R_ZOf.c208197s : Shape := ⟨[(0, qc6), (2, qc4), (3, qc29)], [(2, qc28)]⟩
def R_ZOf.c208197x0 : Shape := ⟨[(0, qc6), (2, qc4), (3, qc29)], [(2, qc28)]⟩
def R_ZOf.c208197r : Ck := Ck.of (T := Int) R_ZOf.c208197s (fun ρ x_ k_ => uP x_ fun n x_ => uP x_ fun u x_ => uP x_ fun t20 x_ => uP x_ fun t21 x_ => R_ZOf.c208197 n u k_) (fun ρ x_ r_ k_ => uP x_ fun n x_ => uP x_ fun u x_ => uP x_ fun t20 x_ => uP x_ fun t21 x_ => k_ 0 (Shape.inj R_ZOf.c208197x0 (n, r_, t20, t21, ())))
def R_ZOf.c100005 {ρ : Type} (u : Int) (d : List (Int)) (k_ : ((Int) × (List Int)) ⊕ ((Int) × (List Int)) → Option ρ) : Option ρ :=
  br (decide (u > (0 : Int)))
   (bnd (okIf (decide ((List.length d + (1 : Nat)) * (8 : Nat) ≤ (140737488355328 : Nat)) && decide (List.length d + (1 : Nat) ≤ (140737488355328 : Nat)))) fun y =>
    k_ (.inl ((IntKind.wrap IntKind.u64 (Int.tdiv u (10000 : Int))), (d ++ [IntKind.wrap IntKind.i64 (Int.tmod u (10000 : Int))]))))
   (k_ (.inr (u, d)))
def R_ZOf.c100005s : Shape := ⟨[(0, qc6), (2, qc4), (3, qc29), (4, qc30)], [(2, qc28), (4, qc31)]⟩
def R_ZOf.c100005x0 : Shape := ⟨[(0, qc6), (2, qc4), (3, qc29), (4, qc30)], [(2, qc28), (4, qc31)]⟩
def R_ZOf.c100005r : Ck := Ck.ofLoop (S := (Int) × (List Int)) (T := (Int) × (List Int)) R_ZOf.c100005s (fun x_ => uP x_ fun n x_ => uP x_ fun u x_ => uP x_ fun t20 x_ => uP x_ fun t21 x_ => uP x_ fun d x_ => (u, d)) (fun ρ x_ s_ k_ => uP x_ fun n x_ => uP x_ fun u x_ => uP x_ fun t20 x_ => uP x_ fun t21 x_ => uP x_ fun d x_ => R_ZOf.c100005 s_.1 s_.2 k_) (fun ρ x_ r_ k_ => uP x_ fun n x_ => uP x_ fun u x_ => uP x_ fun t20 x_ => uP x_ fun t21 x_ => uP x_ fun d x_ => k_ 2 (Shape.inj R_ZOf.c100005x0 (n, r_.1, t20, t21, r_.2, ())))
def R_ZOf (n : Int) : Option ((Bool) × (List Int)) :=
  bnd (W.R_ZOf.c208197 n (IntKind.wrap IntKind.u64 n) some) fun y =>
  bnd (iter (fun s ↦ W.R_ZOf.c100005 (Prod.fst s) (Prod.snd s) some) (y, [])) fun y_1 =>
  bnd (W.R_zmade (decide (n < (0 : Int))) (Prod.snd y_1)) fun y_2 =>
  some (Prod.fst y_2, Prod.snd y_2)
def R_ZOf.ce : Go.Ql.Callee := ⟨[(.int .i64)], [(.st (.pair .bool (.sl (.int .i64))))], fun x_ => R_ZOf x_⟩
def R_ZOf.G : Env := ⟨25, tab, [(86, R_zmade.ce)], [0, 2, 3, 4, 8, 12], [4], [], [(100005, R_ZOf.c100005r), (208197, R_ZOf.c208197r)], [], tab_eqs⟩
theorem R_ZOf.eq (x_ : dens [(.int .i64)]) : den R_ZOf.G Go.Proofs.Tryd.f78 [(.int .i64)] [(.st (.pair .bool (.sl (.int .i64))))] x_ = R_ZOf x_ := by kernel_rfl
theorem R_ZOf.p0 : PieceOk R_ZOf.G (pieceAt (pieces R_ZOf.G.cks (bodyOf Go.Proofs.Tryd.f78)) 0).1 (pieceAt (pieces R_ZOf.G.cks (bodyOf Go.Proofs.Tryd.f78)) 0).2 :=
  join_ok (s := R_ZOf.c208197r) (by kernel_rfl) (by kernel_rfl) (sums_of (sh := R_ZOf.c208197s) (fun ρ x_ k_ => (nat_br nat_leaf nat_leaf)) (fun ρ x_ t k => (by kernel_rfl)) (fun x_ => by kernel_rfl))
theorem R_ZOf.p1 : PieceOk R_ZOf.G (pieceAt (pieces R_ZOf.G.cks (bodyOf Go.Proofs.Tryd.f78)) 1).1 (pieceAt (pieces R_ZOf.G.cks (bodyOf Go.Proofs.Tryd.f78)) 1).2 :=
  loop_ok (s := R_ZOf.c100005r) (by kernel_rfl) (by kernel_rfl) (loops_of (sh := R_ZOf.c100005s) (I := fun x_ s_ => (x_.1, s_.1, x_.2.2.1, x_.2.2.2.1, s_.2, ())) (fun x_ => rfl) (fun ρ x_ s_ k_ => (nat_br (nat_bnd fun _ => nat_leaf) nat_leaf)) (fun ρ x_ t k => (by kernel_rfl)) (fun x_ s => by kernel_rfl))
theorem R_ZOf.ok : CalleeOk Go.Proofs.Tryd.prog 78 R_ZOf.ce := fn_ok (G := R_ZOf.G) tab_ok mixed Go.Proofs.Tryd.func78 ⟨(fns_cons R_zmade.ok fns_nil), mfns_nil, tab_eqs_ok⟩ (m := 2) (by kernel_rfl) ⟨⟨trivial, R_ZOf.p0⟩, R_ZOf.p1⟩ (by kernel_rfl) R_ZOf.eq
abbrev qc32 : SD := .one (.val (.st (.pair .bool (.sl (.int .i64)))))
abbrev qc33 : SD := .one (.val (.sl (.int .u8)))
def R_ZText.c216389 {ρ : Type} (text : List UInt8) (a0 : Bool) (k_ : List UInt8 → Option ρ) : Option ρ :=
  br a0
   (k_ (Array.toList (ByteArray.data (ByteArray.mk #[(45 : UInt8)]))))
   (k_ text)
def R_ZText.c216389s : Shape := ⟨[(0, qc32), (1, qc3), (2, qc22), (3, qc22)], [(1, qc28)]⟩
def R_ZText.c216389x0 : Shape := ⟨[(0, qc32), (1, qc3), (2, qc22), (3, qc22)], [(1, qc28)]⟩
def R_ZText.c216389r : Ck := Ck.of (T := List UInt8) R_ZText.c216389s (fun ρ x_ k_ => uP x_ fun a x_ => uP x_ fun t2 x_ => uP x_ fun text x_ => uP x_ fun a0 x_ => uP x_ fun a1 x_ => R_ZText.c216389 text a0 k_) (fun ρ x_ r_ k_ => uP x_ fun a x_ => uP x_ fun t2 x_ => uP x_ fun text x_ => uP x_ fun a0 x_ => uP x_ fun a1 x_ => k_ 0 (Shape.inj R_ZText.c216389x0 (a, t2, r_, a0, a1, ())))
def R_ZText.c9 {ρ : Type} (i : Int) (a1 : List (Int)) (k_ : List (Int) → Option ρ) : Option ρ :=
  bnd (idx a1 i) fun y =>
  bnd (idx a1 i) fun y_1 =>
  bnd (idx a1 i) fun y_2 =>
  bnd (idx a1 i) fun y_3 =>
  k_ ([IntKind.wrap IntKind.u8 (IntKind.wrap IntKind.i64 ((48 : Int) + IntKind.wrap IntKind.i64 (Int.tdiv y (1000 : Int)))), IntKind.wrap IntKind.u8 (IntKind.wrap IntKind.i64 ((48 : Int) + Int.tmod (IntKind.wrap IntKind.i64 (Int.tdiv y_1 (100 : Int))) (10 : Int))), IntKind.wrap IntKind.u8 (IntKind.wrap IntKind.i64 ((48 : Int) + Int.tmod (IntKind.wrap IntKind.i64 (Int.tdiv y_2 (10 : Int))) (10 : Int))), IntKind.wrap IntKind.u8 (IntKind.wrap IntKind.i64 ((48 : Int) + Int.tmod y_3 (10 : Int)))])
def R_ZText.c9s : Shape := ⟨[(0, qc32), (1, qc3), (2, qc22), (3, qc22), (4, qc6)], [(1, qc28)]⟩
def R_ZText.c9x0 : Shape := ⟨[(0, qc32), (1, qc3), (2, qc22), (3, qc22), (4, qc6), (5, qc33)], [(1, qc28)]⟩
def R_ZText.c9r : Ck := Ck.of (T := List (Int)) R_ZText.c9s (fun ρ x_ k_ => uP x_ fun a x_ => uP x_ fun t2 x_ => uP x_ fun text x_ => uP x_ fun i x_ => uP x_ fun a0 x_ => uP x_ fun a1 x_ => R_ZText.c9 i a1 k_) (fun ρ x_ r_ k_ => uP x_ fun a x_ => uP x_ fun t2 x_ => uP x_ fun text x_ => uP x_ fun i x_ => uP x_ fun a0 x_ => uP x_ fun a1 x_ => k_ 0 (Shape.inj R_ZText.c9x0 (a, t2, text, i, r_, a0, a1, ())))
def R_ZText.c11 {ρ : Type} (i : Int) (four : List (Int)) (t6 : Int) (a1 : List (Int)) (k_ : Bool → Option ρ) : Option ρ :=
  br (i == IntKind.wrap IntKind.i64 ((↑(List.length a1) : Int) - (1 : Int)))
   (br (decide (t6 < (3 : Int)))
     (bnd (idx four t6) fun y =>
      k_ (y == (48 : Int)))
     (k_ false))
   (k_ false)
def R_ZText.c11s : Shape := ⟨[(0, qc32), (1, qc3), (2, qc22), (3, qc22), (4, qc6), (5, qc33), (6, qc6)], [(1, qc28)]⟩
def R_ZText.c11x0 : Shape := ⟨[(0, qc32), (1, qc3), (2, qc22), (3, qc22), (4, qc6), (5, qc33), (6, qc6), (72, qc14)], [(1, qc28)]⟩
def R_ZText.c11r : Ck := Ck.of (T := Bool) R_ZText.c11s (fun ρ x_ k_ => uP x_ fun a x_ => uP x_ fun t2 x_ => uP x_ fun text x_ => uP x_ fun i x_ => uP x_ fun four x_ => uP x_ fun t6 x_ => uP x_ fun a0 x_ => uP x_ fun a1 x_ => R_ZText.c11 i four t6 a1 k_) (fun ρ x_ r_ k_ => uP x_ fun a x_ => uP x_ fun t2 x_ => uP x_ fun text x_ => uP x_ fun i x_ => uP x_ fun four x_ => uP x_ fun t6 x_ => uP x_ fun a0 x_ => uP x_ fun a1 x_ => k_ 0 (Shape.inj R_ZText.c11x0 (a, t2, text, i, four, t6, r_, a0, a1, ())))
def R_ZText.c100011 {ρ : Type} (i : Int) (four : List (Int)) (t6 : Int) (a1 : List (Int)) (k_ : (Int) ⊕ (Int) → Option ρ) : Option ρ :=
  bnd (W.R_ZText.c11 i four t6 a1 some) fun y =>
  br y
   (k_ (.inl (IntKind.wrap IntKind.i64 (t6 + (1 : Int)))))
   (k_ (.inr t6))
def R_ZText.c100011s : Shape := ⟨[(0, qc32), (1, qc3), (2, qc22), (3, qc22), (4, qc6), (5, qc33), (6, qc6)], [(1, qc28)]⟩
def R_ZText.c100011x0 : Shape := ⟨[(0, qc32), (1, qc3), (2, qc22), (3, qc22), (4, qc6), (5, qc33), (6, qc6)], [(1, qc28)]⟩
def R_ZText.c100011r : Ck := Ck.ofLoop (S := Int) (T := Int) R_ZText.c100011s (fun x_ => uP x_ fun a x_ => uP x_ fun t2 x_ => uP x_ fun text x_ => uP x_ fun i x_ => uP x_ fun four x_ => uP x_ fun t6 x_ => uP x_ fun a0 x_ => uP x_ fun a1 x_ => t6) (fun ρ x_ s_ k_ => uP x_ fun a x_ => uP x_ fun t2 x_ => uP x_ fun text x_ => uP x_ fun i x_ => uP x_ fun four x_ => uP x_ fun t6 x_ => uP x_ fun a0 x_ => uP x_ fun a1 x_ => R_ZText.c100011 i four s_ a1 k_) (fun ρ x_ r_ k_ => uP x_ fun a x_ => uP x_ fun t2 x_ => uP x_ fun text x_ => uP x_ fun i x_ => uP x_ fun four x_ => uP x_ fun t6 x_ => uP x_ fun a0 x_ => uP x_ fun a1 x_ => k_ 4 (Shape.inj R_ZText.c100011x0 (a, t2, text, i, four, r_, a0, a1, ())))
def R_ZText.c100007 {ρ : Type} (text : List UInt8) (i : Int) (a1 : List (Int)) (k_ : ((List UInt8) × (Int)) ⊕ ((List UInt8) × (Int)) → Option ρ) : Option ρ :=
  br (decide (i ≥ (0 : Int)))
   (bnd (W.R_ZText.c9 i a1 some) fun y =>
    bnd (iter (fun s ↦ W.R_ZText.c100011 i y s a1 some) (0 : Int)) fun y_1 =>
    bnd (okIf (decide ((0 : Int) ≤ y_1) && decide (y_1 ≤ (↑(List.length y) : Int)) && decide ((↑(List.length y) : Int) ≤ (↑(List.length y) : Int)))) fun y_2 =>
    bnd (okIf (decide (List.length text + List.length (List.map (fun n ↦ UInt8.ofNat (Int.toNat n)) (List.drop (Int.toNat y_1) (List.take (Int.toNat (↑(List.length y) : Int)) y))) ≤ (9223372036854775807 : Nat)))) fun y_3 =>
    k_ (.inl ((text ++ List.map (fun n ↦ UInt8.ofNat (Int.toNat n)) (List.drop (Int.toNat y_1) (List.take (Int.toNat (↑(List.length y) : Int)) y))), (IntKind.wrap IntKind.i64 (i - (1 : Int))))))
   (k_ (.inr (text, i)))
def R_ZText.c100007s : Shape := ⟨[(0, qc32), (1, qc3), (2, qc22), (3, qc22), (4, qc6)], [(1, qc28)]⟩
def R_ZText.c100007x0 : Shape := ⟨[(0, qc32), (1, qc3), (2, qc22), (3, qc22), (4, qc6)], [(1, qc28)]⟩
def R_ZText.c100007r : Ck := Ck.ofLoop (S := (List UInt8) × (Int)) (T := (List UInt8) × (Int)) R_ZText.c100007s (fun x_ => uP x_ fun a x_ => uP x_ fun t2 x_ => uP x_ fun text x_ => uP x_ fun i x_ => uP x_ fun a0 x_ => uP x_ fun a1 x_ => (text, i)) (fun ρ x_ s_ k_ => uP x_ fun a x_ => uP x_ fun t2 x_ => uP x_ fun text x_ => uP x_ fun i x_ => uP x_ fun a0 x_ => uP x_ fun a1 x_ => R_ZText.c100007 s_.1 s_.2 a1 k_) (fun ρ x_ r_ k_ => uP x_ fun a x_ => uP x_ fun t2 x_ => uP x_ fun text x_ => uP x_ fun i x_ => uP x_ fun a0 x_ => uP x_ fun a1 x_ => k_ 2 (Shape.inj R_ZText.c100007x0 (a, t2, r_.1, r_.2, a0, a1, ())))
def R_ZText (a : (Bool) × (List Int)) : Option (List UInt8) :=
  br ((↑(List.length (Prod.snd a)) : Int) == (0 : Int))
   (some (Array.toList (ByteArray.data (ByteArray.mk #[(48 : UInt8)]))))
   (bnd (W.R_ZText.c216389 (Array.toList (ByteArray.data (ByteArray.mk #[]))) (Prod.fst a) some) fun y =>
    bnd (iter (fun s ↦ W.R_ZText.c100007 (Prod.fst s) (Prod.snd s) (Prod.snd a) some) (y, IntKind.wrap IntKind.i64 ((↑(List.length (Prod.snd a)) : Int) - (1 : Int)))) fun y_1 =>
    some (Prod.fst y_1))
def R_ZText.ce : Go.Ql.Callee := ⟨[(.st (.pair .bool (.sl (.int .i64))))], [.str], fun x_ => R_ZText x_⟩
def R_ZText.G : Env := ⟨82, tab, [], [0, 1, 2, 3, 4, 5, 6, 10, 12, 18, 72], [], [(9, [⟨[], [], [23, 29, 30, 31, 32, 33, 34, 35, 36, 37, 38, 39, 40, 41, 42, 43, 44, 45, 46, 47, 48, 49, 50, 51, 52, 53, 54], []⟩, ⟨[0], [], [23, 29, 30, 31, 32, 33, 34, 35, 36, 37, 38, 39, 40, 41, 42, 43, 44, 45, 46, 47, 48, 49, 50, 51, 52, 53, 54], []⟩, ⟨[], [], [21, 22, 29, 30, 31, 32, 33, 34, 35, 36, 37, 38, 39, 40, 41, 42, 43, 44, 45, 46, 47, 48, 49, 50, 51, 52, 53, 54], []⟩, ⟨[1, 0, 2], [], [29, 30, 31, 32, 33, 34, 35, 36, 37, 38, 39, 40, 41, 42, 43, 44, 45, 46, 47, 48, 49, 50, 51, 52, 53, 54], []⟩, ⟨[3, 1, 0, 2], [], [29, 30, 31, 32, 33, 34, 35, 36, 37, 38, 39, 40, 41, 42, 43, 44, 45, 46, 47, 48, 49, 50, 51, 52, 53, 54], []⟩, ⟨[4, 3, 1, 0, 2], [], [29, 30, 31, 32, 33, 34, 35, 36, 37, 38, 39, 40, 41, 42, 43, 44, 45, 46, 47, 48, 49, 50, 51, 52, 53, 54], []⟩, ⟨[5, 4, 3, 1, 0, 2], [], [29, 30, 31, 32, 33, 34, 35, 36, 37, 38, 39, 40, 41, 42, 43, 44, 45, 46, 47, 48, 49, 50, 51, 52, 53, 54], []⟩, ⟨[6, 5, 4, 3, 1, 0, 2], [], [29, 30, 31, 32, 33, 34, 35, 36, 37, 38, 39, 40, 41, 42, 43, 44, 45, 46, 47, 48, 49, 50, 51, 52, 53, 54], []⟩, ⟨[], [], [21, 22, 23, 24, 25, 26, 27, 28, 31, 38, 39, 40, 41, 42, 43, 44, 45, 46, 47, 48, 49, 50, 51, 52, 53, 54], []⟩, ⟨[8], [], [21, 22, 23, 24, 25, 26, 27, 28, 31, 38, 39, 40, 41, 42, 43, 44, 45, 46, 47, 48, 49, 50, 51, 52, 53, 54], []⟩, ⟨[], [], [21, 22, 23, 24, 25, 26, 27, 28, 29, 30, 38, 39, 40, 41, 42, 43, 44, 45, 46, 47, 48, 49, 50, 51, 52, 53, 54], []⟩, ⟨[9, 8, 10], [], [21, 22, 23, 24, 25, 26, 27, 28, 38, 39, 40, 41, 42, 43, 44, 45, 46, 47, 48, 49, 50, 51, 52, 53, 54], []⟩, ⟨[11, 9, 8, 10], [], [21, 22, 23, 24, 25, 26, 27, 28, 38, 39, 40, 41, 42, 43, 44, 45, 46, 47, 48, 49, 50, 51, 52, 53, 54], []⟩, ⟨[12, 11, 9, 8, 10], [], [21, 22, 23, 24, 25, 26, 27, 28, 38, 39, 40, 41, 42, 43, 44, 45, 46, 47, 48, 49, 50, 51, 52, 53, 54], []⟩, ⟨[13, 12, 11, 9, 8, 10], [], [21, 22, 23, 24, 25, 26, 27, 28, 38, 39, 40, 41, 42, 43, 44, 45, 46, 47, 48, 49, 50, 51, 52, 53, 54], []⟩, ⟨[14, 13, 12, 11, 9, 8, 10], [], [21, 22, 23, 24, 25, 26, 27, 28, 38, 39, 40, 41, 42, 43, 44, 45, 46, 47, 48, 49, 50, 51, 52, 53, 54], []⟩, ⟨[15, 14, 13, 12, 11, 9, 8, 10], [], [21, 22, 23, 24, 25, 26, 27, 28, 38, 39, 40, 41, 42, 43, 44, 45, 46, 47, 48, 49, 50, 51, 52, 53, 54], []⟩, ⟨[], [], [21, 22, 23, 24, 25, 26, 27, 28, 29, 30, 31, 32, 33, 34, 35, 36, 37, 40, 47, 48, 49, 50, 51, 52, 53, 54], []⟩, ⟨[17], [], [21, 22, 23, 24, 25, 26, 27, 28, 29, 30, 31, 32, 33, 34, 35, 36, 37, 40, 47, 48, 49, 50, 51, 52, 53, 54], []⟩, ⟨[], [], [21, 22, 23, 24, 25, 26, 27, 28, 29, 30, 31, 32, 33, 34, 35, 36, 37, 38, 39, 47, 48, 49, 50, 51, 52, 53, 54], []⟩, ⟨[18, 17, 19], [], [21, 22, 23, 24, 25, 26, 27, 28, 29, 30, 31, 32, 33, 34, 35, 36, 37, 47, 48, 49, 50, 51, 52, 53, 54], []⟩, ⟨[20, 18, 17, 19], [], [21, 22, 23, 24, 25, 26, 27, 28, 29, 30, 31, 32, 33, 34, 35, 36, 37, 47, 48, 49, 50, 51, 52, 53, 54], []⟩, ⟨[21, 20, 18, 17, 19], [], [21, 22, 23, 24, 25, 26, 27, 28, 29, 30, 31, 32, 33, 34, 35, 36, 37, 47, 48, 49, 50, 51, 52, 53, 54], []⟩, ⟨[22, 21, 20, 18, 17, 19], [], [21, 22, 23, 24, 25, 26, 27, 28, 29, 30, 31, 32, 33, 34, 35, 36, 37, 47, 48, 49, 50, 51, 52, 53, 54], []⟩, ⟨[23, 22, 21, 20, 18, 17, 19], [], [21, 22, 23, 24, 25, 26, 27, 28, 29, 30, 31, 32, 33, 34, 35, 36, 37, 47, 48, 49, 50, 51, 52, 53, 54], []⟩, ⟨[24, 23, 22, 21, 20, 18, 17, 19], [], [21, 22, 23, 24, 25, 26, 27, 28, 29, 30, 31, 32, 33, 34, 35, 36, 37, 47, 48, 49, 50, 51, 52, 53, 54], []⟩, ⟨[], [], [21, 22, 23, 24, 25, 26, 27, 28, 29, 30, 31, 32, 33, 34, 35, 36, 37, 38, 39, 40, 41, 42, 43, 44, 45, 46, 49], []⟩, ⟨[26], [], [21, 22, 23, 24, 25, 26, 27, 28, 29, 30, 31, 32, 33, 34, 35, 36, 37, 38, 39, 40, 41, 42, 43, 44, 45, 46, 49], []⟩, ⟨[], [], [21, 22, 23, 24, 25, 26, 27, 28, 29, 30, 31, 32, 33, 34, 35, 36, 37, 38, 39, 40, 41, 42, 43, 44, 45, 46, 47, 48], []⟩, ⟨[27, 26, 28], [], [21, 22, 23, 24, 25, 26, 27, 28, 29, 30, 31, 32, 33, 34, 35, 36, 37, 38, 39, 40, 41, 42, 43, 44, 45, 46], []⟩, ⟨[29, 27, 26, 28], [], [21, 22, 23, 24, 25, 26, 27, 28, 29, 30, 31, 32, 33, 34, 35, 36, 37, 38, 39, 40, 41, 42, 43, 44, 45, 46], []⟩, ⟨[30, 29, 27, 26, 28], [], [21, 22, 23, 24, 25, 26, 27, 28, 29, 30, 31, 32, 33, 34, 35, 36, 37, 38, 39, 40, 41, 42, 43, 44, 45, 46], []⟩, ⟨[31, 30, 29, 27, 26, 28], [], [21, 22, 23, 24, 25, 26, 27, 28, 29, 30, 31, 32, 33, 34, 35, 36, 37, 38, 39, 40, 41, 42, 43, 44, 45, 46], []⟩, ⟨[32, 31, 30, 29, 27, 26, 28], [], [21, 22, 23, 24, 25, 26, 27, 28, 29, 30, 31, 32, 33, 34, 35, 36, 37, 38, 39, 40, 41, 42, 43, 44, 45, 46], []⟩, ⟨[7, 6, 5, 4, 3, 1, 0, 2, 16, 15, 14, 13, 12, 11, 9, 8, 10, 25, 24, 23, 22, 21, 20, 18, 17, 19, 33, 32, 31, 30, 29, 27, 26, 28], [55], [], []⟩, ⟨[34, 7, 6, 5, 4, 3, 1, 0, 2, 16, 15, 14, 13, 12, 11, 9, 8, 10, 25, 24, 23, 22, 21, 20, 18, 17, 19, 33, 32, 31, 30, 29, 27, 26, 28], [], [], []⟩])], [(100007, R_ZText.c100007r), (100011, R_ZText.c100011r), (11, R_ZText.c11r), (9, R_ZText.c9r), (216389, R_ZText.c216389r)], [], tab_eqs⟩
theorem R_ZText.eq (x_ : dens [(.st (.pair .bool (.sl (.int .i64))))]) : den R_ZText.G Go.Proofs.Tryd.f77 [(.st (.pair .bool (.sl (.int .i64))))] [.str] x_ = R_ZText x_ := by kernel_rfl
theorem R_ZText.p0 : PieceOk R_ZText.G (pieceAt (pieces R_ZText.G.cks (bodyOf Go.Proofs.Tryd.f77)) 0).1 (pieceAt (pieces R_ZText.G.cks (bodyOf Go.Proofs.Tryd.f77)) 0).2 :=
  join_ok (s := R_ZText.c216389r) (by kernel_rfl) (by kernel_rfl) (sums_of (sh := R_ZText.c216389s) (fun ρ x_ k_ => (nat_br nat_leaf nat_leaf)) (fun ρ x_ t k => (by kernel_rfl)) (fun x_ => by kernel_rfl))
theorem R_ZText.p1 : PieceOk R_ZText.G (pieceAt (pieces R_ZText.G.cks (bodyOf Go.Proofs.Tryd.f77)) 1).1 (pieceAt (pieces R_ZText.G.cks (bodyOf Go.Proofs.Tryd.f77)) 1).2 :=
  loop_ok (s := R_ZText.c100007r) (by kernel_rfl) (by kernel_rfl) (loops_of (sh := R_ZText.c100007s) (I := fun x_ s_ => (x_.1, x_.2.1, s_.1, s_.2, x_.2.2.2.2.1, x_.2.2.2.2.2.1, ())) (fun x_ => rfl) (fun ρ x_ s_ k_ => (nat_br (nat_bnd fun _ => (nat_bnd fun _ => (nat_bnd fun _ => (nat_bnd fun _ => nat_leaf)))) nat_leaf)) (fun ρ x_ t k => (by kernel_rfl)) (fun x_ s => by kernel_rfl))
theorem R_ZText.p2 : PieceOk R_ZText.G (pieceAt (pieces R_ZText.G.cks (bodyOf Go.Proofs.Tryd.f77)) 2).1 (pieceAt (pieces R_ZText.G.cks (bodyOf Go.Proofs.Tryd.f77)) 2).2 :=
  region_ok (s := R_ZText.c9r) (by kernel_rfl) (by kernel_rfl) (sums_of (sh := R_ZText.c9s) (fun ρ x_ k_ => (nat_bnd fun _ => (nat_bnd fun _ => (nat_bnd fun _ => (nat_bnd fun _ => nat_leaf))))) (fun ρ x_ t k => (by kernel_rfl)) (fun x_ => by kernel_rfl))
theorem R_ZText.p3 : PieceOk R_ZText.G (pieceAt (pieces R_ZText.G.cks (bodyOf Go.Proofs.Tryd.f77)) 3).1 (pieceAt (pieces R_ZText.G.cks (bodyOf Go.Proofs.Tryd.f77)) 3).2 :=
  loop_ok (s := R_ZText.c100011r) (by kernel_rfl) (by kernel_rfl) (loops_of (sh := R_ZText.c100011s) (I := fun x_ s_ => (x_.1, x_.2.1, x_.2.2.1, x_.2.2.2.1, x_.2.2.2.2.1, s_, x_.2.2.2.2.2.2.1, x_.2.2.2.2.2.2.2.1, ())) (fun x_ => rfl) (fun ρ x_ s_ k_ => (nat_bnd fun _ => (nat_br nat_leaf nat_leaf))) (fun ρ x_ t k => (by kernel_rfl)) (fun x_ s => by kernel_rfl))
theorem R_ZText.p4 : PieceOk R_ZText.G (pieceAt (pieces R_ZText.G.cks (bodyOf Go.Proofs.Tryd.f77)) 4).1 (pieceAt (pieces R_ZText.G.cks (bodyOf Go.Proofs.Tryd.f77)) 4).2 :=
  region_ok (s := R_ZText.c11r) (by kernel_rfl) (by kernel_rfl) (sums_of (sh := R_ZText.c11s) (fun ρ x_ k_ => (nat_br (nat_br (nat_bnd fun _ => nat_leaf) nat_leaf) nat_leaf)) (fun ρ x_ t k => (by kernel_rfl)) (fun x_ => by kernel_rfl))
theorem R_ZText.ok : CalleeOk Go.Proofs.Tryd.prog 77 R_ZText.ce := fn_ok (G := R_ZText.G) tab_ok mixed Go.Proofs.Tryd.func77 ⟨fns_nil, mfns_nil, tab_eqs_ok⟩ (m := 5) (by kernel_rfl) ⟨⟨⟨⟨⟨trivial, R_ZText.p0⟩, R_ZText.p1⟩, R_ZText.p2⟩, R_ZText.p3⟩, R_ZText.p4⟩ (by kernel_rfl) R_ZText.eq
def R_num (n : Int) : Option (List UInt8) :=
  bnd (W.R_ZOf n) fun y =>
  bnd (W.R_ZText y) fun y_1 =>
  some y_1
def R_num.ce : Go.Ql.Callee := ⟨[(.int .i64)], [.str], fun x_ => R_num x_⟩
def R_num.G : Env := ⟨6, tab, [(78, R_ZOf.ce), (77, R_ZText.ce)], [0, 2], [], [], [], [], tab_eqs⟩
theorem R_num.eq (x_ : dens [(.int .i64)]) : den R_num.G Go.Proofs.Tryd.f58 [(.int .i64)] [.str] x_ = R_num x_ := by kernel_rfl
theorem R_num.ok : CalleeOk Go.Proofs.Tryd.prog 58 R_num.ce := fn_ok (G := R_num.G) tab_ok mixed Go.Proofs.Tryd.func58 ⟨(fns_cons R_ZOf.ok (fns_cons R_ZText.ok fns_nil)), mfns_nil, tab_eqs_ok⟩ (m := 0) (by kernel_rfl) trivial (by kernel_rfl) R_num.eq
abbrev qc34 : SO := .box [.val (.int .i64), .val (.int .i64), .own 3005 0, .val (.int .i64), .val (.int .i64), .own 6005 0]
abbrev qc35 : SD := .one (.own 7 0)
def R_loose.c7 {ρ : Type} (names : List (List UInt8)) (ws : List (List UInt8)) (t6 : Int) (k_ : Bool → Option ρ) : Option ρ :=
  bnd (idx names t6) fun y =>
  bnd (idx ws (0 : Int)) fun y_1 =>
  k_ (y == y_1)
def R_loose.c7s : Shape := ⟨[(0, qc22), (2, qc4), (3, qc24), (4, qc24), (5, qc11), (6, qc6)], [(2, qc21), (5, qc34), (3005, qc31), (6005, qc31)]⟩
def R_loose.c7x0 : Shape := ⟨[(0, qc22), (2, qc4), (3, qc24), (4, qc24), (5, qc11), (6, qc6), (27, qc14)], [(2, qc21), (5, qc34), (3005, qc31), (6005, qc31)]⟩
def R_loose.c7r : Ck := Ck.of (T := Bool) R_loose.c7s (fun ρ x_ k_ => uP x_ fun line x_ => uP x_ fun names x_ => uP x_ fun ws x_ => uP x_ fun t6 x_ => uP x_ fun t20 x_ => uP x_ fun t21 x_ => uP x_ fun t22 x_ => uP x_ fun t23 x_ => uP x_ fun t24 x_ => uP x_ fun t25 x_ => uP x_ fun o0 x_ => uP x_ fun o1 x_ => uP x_ fun o3 x_ => uP x_ fun o4 x_ => uP x_ fun t3005 x_ => uP x_ fun t6005 x_ => R_loose.c7 names ws t6 k_) (fun ρ x_ r_ k_ => uP x_ fun line x_ => uP x_ fun names x_ => uP x_ fun ws x_ => uP x_ fun t6 x_ => uP x_ fun t20 x_ => uP x_ fun t21 x_ => uP x_ fun t22 x_ => uP x_ fun t23 x_ => uP x_ fun t24 x_ => uP x_ fun t25 x_ => uP x_ fun o0 x_ => uP x_ fun o1 x_ => uP x_ fun o3 x_ => uP x_ fun o4 x_ => uP x_ fun t3005 x_ => uP x_ fun t6005 x_ => k_ 0 (Shape.inj R_loose.c7x0 (line, names, ws, t6, r_, t20, t21, t22, t23, t24, t25, o0, o1, o3, o4, t3005, t6005, ())))
def R_loose.c228678 {ρ : Type} (names : List (List UInt8)) (ws : List (List UInt8)) (t6 : Int) (o0 : Int) (k_ : Int → Option ρ) : Option ρ :=
  bnd (W.R_loose.c7 names ws t6 some) fun y =>
  br y
   (k_ t6)
   (k_ o0)
def R_loose.c228678s : Shape := ⟨[(0, qc22), (2, qc4), (3, qc24), (4, qc24), (5, qc11), (6, qc6)], [(2, qc21), (5, qc34), (3005, qc31), (6005, qc31)]⟩
def R_loose.c228678x0 : Shape := ⟨[(0, qc22), (2, qc4), (3, qc24), (4, qc24), (5, qc11), (6, qc6)], [(2, qc21), (5, qc34), (3005, qc31), (6005, qc31)]⟩
def R_loose.c228678r : Ck := Ck.of (T := Int) R_loose.c228678s (fun ρ x_ k_ => uP x_ fun line x_ => uP x_ fun names x_ => uP x_ fun ws x_ => uP x_ fun t6 x_ => uP x_ fun t20 x_ => uP x_ fun t21 x_ => uP x_ fun t22 x_ => uP x_ fun t23 x_ => uP x_ fun t24 x_ => uP x_ fun t25 x_ => uP x_ fun o0 x_ => uP x_ fun o1 x_ => uP x_ fun o3 x_ => uP x_ fun o4 x_ => uP x_ fun t3005 x_ => uP x_ fun t6005 x_ => R_loose.c228678 names ws t6 o0 k_) (fun ρ x_ r_ k_ => uP x_ fun line x_ => uP x_ fun names x_ => uP x_ fun ws x_ => uP x_ fun t6 x_ => uP x_ fun t20 x_ => uP x_ fun t21 x_ => uP x_ fun t22 x_ => uP x_ fun t23 x_ => uP x_ fun t24 x_ => uP x_ fun t25 x_ => uP x_ fun o0 x_ => uP x_ fun o1 x_ => uP x_ fun o3 x_ => uP x_ fun o4 x_ => uP x_ fun t3005 x_ => uP x_ fun t6005 x_ => k_ 0 (Shape.inj R_loose.c228678x0 (line, names, ws, t6, t20, t21, t22, t23, t24, t25, r_, o1, o3, o4, t3005, t6005, ())))
def R_loose.c100005 {ρ : Type} (names : List (List UInt8)) (ws : List (List UInt8)) (t6 : Int) (o0 : Int) (k_ : ((Int) × (Int)) ⊕ ((Int) × (Int)) → Option ρ) : Option ρ :=
  br (decide (t6 ≤ (6 : Int)))
   (bnd (W.R_loose.c228678 names ws t6 o0 some) fun y =>
    k_ (.inl ((IntKind.wrap IntKind.i64 (t6 + (1 : Int))), y)))
   (k_ (.inr (t6, o0)))
def R_loose.c100005s : Shape := ⟨[(0, qc22), (2, qc4), (3, qc24), (4, qc24), (5, qc11), (6, qc6)], [(2, qc21), (5, qc34), (3005, qc31), (6005, qc31)]⟩
def R_loose.c100005x0 : Shape := ⟨[(0, qc22), (2, qc4), (3, qc24), (4, qc24), (5, qc11), (6, qc6)], [(2, qc21), (5, qc34), (3005, qc31), (6005, qc31)]⟩
def R_loose.c100005r : Ck := Ck.ofLoop (S := (Int) × (Int)) (T := (Int) × (Int)) R_loose.c100005s (fun x_ => uP x_ fun line x_ => uP x_ fun names x_ => uP x_ fun ws x_ => uP x_ fun t6 x_ => uP x_ fun t20 x_ => uP x_ fun t21 x_ => uP x_ fun t22 x_ => uP x_ fun t23 x_ => uP x_ fun t24 x_ => uP x_ fun t25 x_ => uP x_ fun o0 x_ => uP x_ fun o1 x_ => uP x_ fun o3 x_ => uP x_ fun o4 x_ => uP x_ fun t3005 x_ => uP x_ fun t6005 x_ => (t6, o0)) (fun ρ x_ s_ k_ => uP x_ fun line x_ => uP x_ fun names x_ => uP x_ fun ws x_ => uP x_ fun t6 x_ => uP x_ fun t20 x_ => uP x_ fun t21 x_ => uP x_ fun t22 x_ => uP x_ fun t23 x_ => uP x_ fun t24 x_ => uP x_ fun t25 x_ => uP x_ fun o0 x_ => uP x_ fun o1 x_ => uP x_ fun o3 x_ => uP x_ fun o4 x_ => uP x_ fun t3005 x_ => uP x_ fun t6005 x_ => R_loose.c100005 names ws s_.1 s_.2 k_) (fun ρ x_ r_ k_ => uP x_ fun line x_ => uP x_ fun names x_ => uP x_ fun ws x_ => uP x_ fun t6 x_ => uP x_ fun t20 x_ => uP x_ fun t21 x_ => uP x_ fun t22 x_ => uP x_ fun t23 x_ => uP x_ fun t24 x_ => uP x_ fun t25 x_ => uP x_ fun o0 x_ => uP x_ fun o1 x_ => uP x_ fun o3 x_ => uP x_ fun o4 x_ => uP x_ fun t3005 x_ => uP x_ fun t6005 x_ => k_ 2 (Shape.inj R_loose.c100005x0 (line, names, ws, r_.1, t20, t21, t22, t23, t24, t25, r_.2, o1, o3, o4, t3005, t6005, ())))
def R_loose.c24 {ρ : Type} (w : List UInt8) (t3005 : List (Int)) (k_ : List (Int) → Option ρ) : Option ρ :=
  bnd (W.R_figure w) fun y =>
  bnd (okIf (decide ((List.length t3005 + (1 : Nat)) * (8 : Nat) ≤ (140737488355328 : Nat)) && decide (List.length t3005 + (1 : Nat) ≤ (140737488355328 : Nat)))) fun y_1 =>
  k_ (t3005 ++ [y])
def R_loose.c24s : Shape := ⟨[(0, qc22), (2, qc4), (3, qc24), (4, qc24), (5, qc11), (6, qc6), (7, qc35), (8, qc6), (9, qc6), (10, qc22)], [(2, qc21), (5, qc34), (7, qc31), (3005, qc31), (6005, qc31)]⟩
def R_loose.c24x0 : Shape := ⟨[(0, qc22), (2, qc4), (3, qc24), (4, qc24), (5, qc11), (6, qc6), (7, qc35), (8, qc6), (9, qc6), (10, qc22)], [(2, qc21), (5, qc34), (7, qc31), (3005, qc31), (6005, qc31)]⟩
def R_loose.c24r : Ck := Ck.of (T := List (Int)) R_loose.c24s (fun ρ x_ k_ => uP x_ fun line x_ => uP x_ fun names x_ => uP x_ fun ws x_ => uP x_ fun t6 x_ => uP x_ fun part x_ => uP x_ fun i x_ => uP x_ fun w x_ => uP x_ fun t20 x_ => uP x_ fun t21 x_ => uP x_ fun t22 x_ => uP x_ fun t23 x_ => uP x_ fun t24 x_ => uP x_ fun t25 x_ => uP x_ fun o0 x_ => uP x_ fun o1 x_ => uP x_ fun o3 x_ => uP x_ fun o4 x_ => uP x_ fun plain x_ => uP x_ fun t3005 x_ => uP x_ fun t6005 x_ => R_loose.c24 w t3005 k_) (fun ρ x_ r_ k_ => uP x_ fun line x_ => uP x_ fun names x_ => uP x_ fun ws x_ => uP x_ fun t6 x_ => uP x_ fun part x_ => uP x_ fun i x_ => uP x_ fun w x_ => uP x_ fun t20 x_ => uP x_ fun t21 x_ => uP x_ fun t22 x_ => uP x_ fun t23 x_ => uP x_ fun t24 x_ => uP x_ fun t25 x_ => uP x_ fun o0 x_ => uP x_ fun o1 x_ => uP x_ fun o3 x_ => uP x_ fun o4 x_ => uP x_ fun plain x_ => uP x_ fun t3005 x_ => uP x_ fun t6005 x_ => k_ 0 (Shape.inj R_loose.c24x0 (line, names, ws, t6, part, i, w, t20, t21, t22, t23, t24, t25, o0, o1, o3, o4, plain, r_, t6005, ())))
def R_loose.c27 {ρ : Type} (w : List UInt8) (k_ : Bool → Option ρ) : Option ρ :=
  br (decide ((↑(List.length w) : Int) > (0 : Int)))
   (bnd (idx w (0 : Int)) fun y =>
    k_ ((↑(UInt8.toNat y) : Int) == (33 : Int)))
   (k_ false)
def R_loose.c27s : Shape := ⟨[(0, qc22), (2, qc4), (3, qc24), (4, qc24), (5, qc11), (6, qc6), (7, qc35), (8, qc6), (9, qc6), (10, qc22)], [(2, qc21), (5, qc34), (7, qc31), (3005, qc31), (6005, qc31)]⟩
def R_loose.c27x0 : Shape := ⟨[(0, qc22), (2, qc4), (3, qc24), (4, qc24), (5, qc11), (6, qc6), (7, qc35), (8, qc6), (9, qc6), (10, qc22), (74, qc14)], [(2, qc21), (5, qc34), (7, qc31), (3005, qc31), (6005, qc31)]⟩
def R_loose.c27r : Ck := Ck.of (T := Bool) R_loose.c27s (fun ρ x_ k_ => uP x_ fun line x_ => uP x_ fun names x_ => uP x_ fun ws x_ => uP x_ fun t6 x_ => uP x_ fun part x_ => uP x_ fun i x_ => uP x_ fun w x_ => uP x_ fun t20 x_ => uP x_ fun t21 x_ => uP x_ fun t22 x_ => uP x_ fun t23 x_ => uP x_ fun t24 x_ => uP x_ fun t25 x_ => uP x_ fun o0 x_ => uP x_ fun o1 x_ => uP x_ fun o3 x_ => uP x_ fun o4 x_ => uP x_ fun plain x_ => uP x_ fun t3005 x_ => uP x_ fun t6005 x_ => R_loose.c27 w k_) (fun ρ x_ r_ k_ => uP x_ fun line x_ => uP x_ fun names x_ => uP x_ fun ws x_ => uP x_ fun t6 x_ => uP x_ fun part x_ => uP x_ fun i x_ => uP x_ fun w x_ => uP x_ fun t20 x_ => uP x_ fun t21 x_ => uP x_ fun t22 x_ => uP x_ fun t23 x_ => uP x_ fun t24 x_ => uP x_ fun t25 x_ => uP x_ fun o0 x_ => uP x_ fun o1 x_ => uP x_ fun o3 x_ => uP x_ fun o4 x_ => uP x_ fun plain x_ => uP x_ fun t3005 x_ => uP x_ fun t6005 x_ => k_ 0 (Shape.inj R_loose.c27x0 (line, names, ws, t6, part, i, w, r_, t20, t21, t22, t23, t24, t25, o0, o1, o3, o4, plain, t3005, t6005, ())))
def R_loose.c28 {ρ : Type} (w : List UInt8) (t6005 : List (Int)) (k_ : List (Int) → Option ρ) : Option ρ :=
  bnd (okIf (decide ((1 : Int) ≤ (↑(List.length w) : Int)) && decide ((↑(List.length w) : Int) ≤ (↑(List.length w) : Int)))) fun y =>
  bnd (W.R_figure (List.drop (1 : Nat) (List.take (Int.toNat (↑(List.length w) : Int)) w))) fun y_1 =>
  bnd (okIf (decide ((List.length t6005 + (1 : Nat)) * (8 : Nat) ≤ (140737488355328 : Nat)) && decide (List.length t6005 + (1 : Nat) ≤ (140737488355328 : Nat)))) fun y_2 =>
  k_ (t6005 ++ [IntKind.wrap IntKind.i64 (IntKind.wrap IntKind.i64 ((0 : Int) - y_1) - (1 : Int))])
def R_loose.c28s : Shape := ⟨[(0, qc22), (2, qc4), (3, qc24), (4, qc24), (5, qc11), (6, qc6), (7, qc35), (8, qc6), (9, qc6), (10, qc22)], [(2, qc21), (5, qc34), (7, qc31), (3005, qc31), (6005, qc31)]⟩
def R_loose.c28x0 : Shape := ⟨[(0, qc22), (2, qc4), (3, qc24), (4, qc24), (5, qc11), (6, qc6), (7, qc35), (8, qc6), (9, qc6), (10, qc22)], [(2, qc21), (5, qc34), (7, qc31), (3005, qc31), (6005, qc31)]⟩
def R_loose.c28r : Ck := Ck.of (T := List (Int)) R_loose.c28s (fun ρ x_ k_ => uP x_ fun line x_ => uP x_ fun names x_ => uP x_ fun ws x_ => uP x_ fun t6 x_ => uP x_ fun part x_ => uP x_ fun i x_ => uP x_ fun w x_ => uP x_ fun t20 x_ => uP x_ fun t21 x_ => uP x_ fun t22 x_ => uP x_ fun t23 x_ => uP x_ fun t24 x_ => uP x_ fun t25 x_ => uP x_ fun o0 x_ => uP x_ fun o1 x_ => uP x_ fun o3 x_ => uP x_ fun o4 x_ => uP x_ fun plain x_ => uP x_ fun t3005 x_ => uP x_ fun t6005 x_ => R_loose.c28 w t6005 k_) (fun ρ x_ r_ k_ => uP x_ fun line x_ => uP x_ fun names x_ => uP x_ fun ws x_ => uP x_ fun t6 x_ => uP x_ fun part x_ => uP x_ fun i x_ => uP x_ fun w x_ => uP x_ fun t20 x_ => uP x_ fun t21 x_ => uP x_ fun t22 x_ => uP x_ fun t23 x_ => uP x_ fun t24 x_ => uP x_ fun t25 x_ => uP x_ fun o0 x_ => uP x_ fun o1 x_ => uP x_ fun o3 x_ => uP x_ fun o4 x_ => uP x_ fun plain x_ => uP x_ fun t3005 x_ => uP x_ fun t6005 x_ => k_ 0 (Shape.inj R_loose.c28x0 (line, names, ws, t6, part, i, w, t20, t21, t22, t23, t24, t25, o0, o1, o3, o4, plain, t3005, r_, ())))
def R_loose.c29 {ρ : Type} (w : List UInt8) (t6005 : List (Int)) (k_ : List (Int) → Option ρ) : Option ρ :=
  bnd (W.R_figure w) fun y =>
  bnd (okIf (decide ((List.length t6005 + (1 : Nat)) * (8 : Nat) ≤ (140737488355328 : Nat)) && decide (List.length t6005 + (1 : Nat) ≤ (140737488355328 : Nat)))) fun y_1 =>
  k_ (t6005 ++ [IntKind.wrap IntKind.i64 (y + (1 : Int))])
def R_loose.c29s : Shape := ⟨[(0, qc22), (2, qc4), (3, qc24), (4, qc24), (5, qc11), (6, qc6), (7, qc35), (8, qc6), (9, qc6), (10, qc22)], [(2, qc21), (5, qc34), (7, qc31), (3005, qc31), (6005, qc31)]⟩
def R_loose.c29x0 : Shape := ⟨[(0, qc22), (2, qc4), (3, qc24), (4, qc24), (5, qc11), (6, qc6), (7, qc35), (8, qc6), (9, qc6), (10, qc22)], [(2, qc21), (5, qc34), (7, qc31), (3005, qc31), (6005, qc31)]⟩
def R_loose.c29r : Ck := Ck.of (T := List (Int)) R_loose.c29s (fun ρ x_ k_ => uP x_ fun line x_ => uP x_ fun names x_ => uP x_ fun ws x_ => uP x_ fun t6 x_ => uP x_ fun part x_ => uP x_ fun i x_ => uP x_ fun w x_ => uP x_ fun t20 x_ => uP x_ fun t21 x_ => uP x_ fun t22 x_ => uP x_ fun t23 x_ => uP x_ fun t24 x_ => uP x_ fun t25 x_ => uP x_ fun o0 x_ => uP x_ fun o1 x_ => uP x_ fun o3 x_ => uP x_ fun o4 x_ => uP x_ fun plain x_ => uP x_ fun t3005 x_ => uP x_ fun t6005 x_ => R_loose.c29 w t6005 k_) (fun ρ x_ r_ k_ => uP x_ fun line x_ => uP x_ fun names x_ => uP x_ fun ws x_ => uP x_ fun t6 x_ => uP x_ fun part x_ => uP x_ fun i x_ => uP x_ fun w x_ => uP x_ fun t20 x_ => uP x_ fun t21 x_ => uP x_ fun t22 x_ => uP x_ fun t23 x_ => uP x_ fun t24 x_ => uP x_ fun t25 x_ => uP x_ fun o0 x_ => uP x_ fun o1 x_ => uP x_ fun o3 x_ => uP x_ fun o4 x_ => uP x_ fun plain x_ => uP x_ fun t3005 x_ => uP x_ fun t6005 x_ => k_ 0 (Shape.inj R_loose.c29x0 (line, names, ws, t6, part, i, w, t20, t21, t22, t23, t24, t25, o0, o1, o3, o4, plain, t3005, r_, ())))
def R_loose.c257376 {ρ : Type} (ws : List (List UInt8)) (part : Int) (i : Int) (o4 : Int) (plain : List (Int)) (t3005 : List (Int)) (t6005 : List (Int)) (k_ : (Int) × (Int) × (List Int) × (List Int) × (List Int) → Option ρ) : Option ρ :=
  bnd (idx ws i) fun y =>
  br (y == Array.toList (ByteArray.data (ByteArray.mk #[(111 : UInt8), (110 : UInt8)])))
   (k_ ((1 : Int), o4, plain, t3005, t6005))
   (br (y == Array.toList (ByteArray.data (ByteArray.mk #[(116 : UInt8), (111 : UInt8)])))
     (k_ ((2 : Int), o4, plain, t3005, t6005))
     (br (y == Array.toList (ByteArray.data (ByteArray.mk #[(105 : UInt8), (102 : UInt8)])))
       (k_ ((3 : Int), o4, plain, t3005, t6005))
       (br (part == (0 : Int))
         (bnd (W.R_figure y) fun y_1 =>
          bnd (okIf (decide ((List.length plain + (1 : Nat)) * (8 : Nat) ≤ (140737488355328 : Nat)) && decide (List.length plain + (1 : Nat) ≤ (140737488355328 : Nat)))) fun y_2 =>
          k_ (part, o4, (plain ++ [y_1]), t3005, t6005))
         (br (part == (1 : Int))
           (bnd (W.R_loose.c24 y t3005 some) fun y_3 =>
            k_ (part, o4, plain, y_3, t6005))
           (br (part == (2 : Int))
             (bnd (W.R_figure y) fun y_4 =>
              k_ (part, y_4, plain, t3005, t6005))
             (bnd (W.R_loose.c27 y some) fun y_5 =>
              br y_5
               (bnd (W.R_loose.c28 y t6005 some) fun y_6 =>
                k_ (part, o4, plain, t3005, y_6))
               (bnd (W.R_loose.c29 y t6005 some) fun y_7 =>
                k_ (part, o4, plain, t3005, y_7))))))))
def R_loose.c257376s : Shape := ⟨[(0, qc22), (2, qc4), (3, qc24), (4, qc24), (5, qc11), (6, qc6), (7, qc35), (8, qc6), (9, qc6)], [(2, qc21), (5, qc34), (7, qc31), (3005, qc31), (6005, qc31)]⟩
def R_loose.c257376x0 : Shape := ⟨[(0, qc22), (2, qc4), (3, qc24), (4, qc24), (5, qc11), (6, qc6), (7, qc35), (8, qc6), (9, qc6)], [(2, qc21), (5, qc34), (7, qc31), (3005, qc31), (6005, qc31)]⟩
def R_loose.c257376r : Ck := Ck.of (T := (Int) × (Int) × (List Int) × (List Int) × (List Int)) R_loose.c257376s (fun ρ x_ k_ => uP x_ fun line x_ => uP x_ fun names x_ => uP x_ fun ws x_ => uP x_ fun t6 x_ => uP x_ fun part x_ => uP x_ fun i x_ => uP x_ fun t20 x_ => uP x_ fun t21 x_ => uP x_ fun t22 x_ => uP x_ fun t23 x_ => uP x_ fun t24 x_ => uP x_ fun t25 x_ => uP x_ fun o0 x_ => uP x_ fun o1 x_ => uP x_ fun o3 x_ => uP x_ fun o4 x_ => uP x_ fun plain x_ => uP x_ fun t3005 x_ => uP x_ fun t6005 x_ => R_loose.c257376 ws part i o4 plain t3005 t6005 k_) (fun ρ x_ r_ k_ => uP x_ fun line x_ => uP x_ fun names x_ => uP x_ fun ws x_ => uP x_ fun t6 x_ => uP x_ fun part x_ => uP x_ fun i x_ => uP x_ fun t20 x_ => uP x_ fun t21 x_ => uP x_ fun t22 x_ => uP x_ fun t23 x_ => uP x_ fun t24 x_ => uP x_ fun t25 x_ => uP x_ fun o0 x_ => uP x_ fun o1 x_ => uP x_ fun o3 x_ => uP x_ fun o4 x_ => uP x_ fun plain x_ => uP x_ fun t3005 x_ => uP x_ fun t6005 x_ => k_ 0 (Shape.inj R_loose.c257376x0 (line, names, ws, t6, r_.1, i, t20, t21, t22, t23, t24, t25, o0, o1, o3, r_.2.1, r_.2.2.1, r_.2.2.2.1, r_.2.2.2.2, ())))
def R_loose.c100012 {ρ : Type} (ws : List (List UInt8)) (part : Int) (i : Int) (o4 : Int) (plain : List (Int)) (t3005 : List (Int)) (t6005 : List (Int)) (k_ : ((Int) × (Int) × (Int) × (List Int) × (List Int) × (List Int)) ⊕ ((Int) × (Int) × (Int) × (List Int) × (List Int) × (List Int)) → Option ρ) : Option ρ :=
  br (decide (i < (↑(List.length ws) : Int)))
   (bnd (W.R_loose.c257376 ws part i o4 plain t3005 t6005 some) fun y =>
    k_ (.inl ((Prod.fst y), (IntKind.wrap IntKind.i64 (i + (1 : Int))), (Prod.fst (Prod.snd y)), (Prod.fst (Prod.snd (Prod.snd y))), (Prod.fst (Prod.snd (Prod.snd (Prod.snd y)))), (Prod.snd (Prod.snd (Prod.snd (Prod.snd y)))))))
   (k_ (.inr (part, i, o4, plain, t3005, t6005)))
def R_loose.c100012s : Shape := ⟨[(0, qc22), (2, qc4), (3, qc24), (4, qc24), (5, qc11), (6, qc6), (7, qc35), (8, qc6), (9, qc6)], [(2, qc21), (5, qc34), (7, qc31), (3005, qc31), (6005, qc31)]⟩
def R_loose.c100012x0 : Shape := ⟨[(0, qc22), (2, qc4), (3, qc24), (4, qc24), (5, qc11), (6, qc6), (7, qc35), (8, qc6), (9, qc6)], [(2, qc21), (5, qc34), (7, qc31), (3005, qc31), (6005, qc31)]⟩
def R_loose.c100012r : Ck := Ck.ofLoop (S := (Int) × (Int) × (Int) × (List Int) × (List Int) × (List Int)) (T := (Int) × (Int) × (Int) × (List Int) × (List Int) × (List Int)) R_loose.c100012s (fun x_ => uP x_ fun line x_ => uP x_ fun names x_ => uP x_ fun ws x_ => uP x_ fun t6 x_ => uP x_ fun part x_ => uP x_ fun i x_ => uP x_ fun t20 x_ => uP x_ fun t21 x_ => uP x_ fun t22 x_ => uP x_ fun t23 x_ => uP x_ fun t24 x_ => uP x_ fun t25 x_ => uP x_ fun o0 x_ => uP x_ fun o1 x_ => uP x_ fun o3 x_ => uP x_ fun o4 x_ => uP x_ fun plain x_ => uP x_ fun t3005 x_ => uP x_ fun t6005 x_ => (part, i, o4, plain, t3005, t6005)) (fun ρ x_ s_ k_ => uP x_ fun line x_ => uP x_ fun names x_ => uP x_ fun ws x_ => uP x_ fun t6 x_ => uP x_ fun part x_ => uP x_ fun i x_ => uP x_ fun t20 x_ => uP x_ fun t21 x_ => uP x_ fun t22 x_ => uP x_ fun t23 x_ => uP x_ fun t24 x_ => uP x_ fun t25 x_ => uP x_ fun o0 x_ => uP x_ fun o1 x_ => uP x_ fun o3 x_ => uP x_ fun o4 x_ => uP x_ fun plain x_ => uP x_ fun t3005 x_ => uP x_ fun t6005 x_ => R_loose.c100012 ws s_.1 s_.2.1 s_.2.2.1 s_.2.2.2.1 s_.2.2.2.2.1 s_.2.2.2.2.2 k_) (fun ρ x_ r_ k_ => uP x_ fun line x_ => uP x_ fun names x_ => uP x_ fun ws x_ => uP x_ fun t6 x_ => uP x_ fun part x_ => uP x_ fun i x_ => uP x_ fun t20 x_ => uP x_ fun t21 x_ => uP x_ fun t22 x_ => uP x_ fun t23 x_ => uP x_ fun t24 x_ => uP x_ fun t25 x_ => uP x_ fun o0 x_ => uP x_ fun o1 x_ => uP x_ fun o3 x_ => uP x_ fun o4 x_ => uP x_ fun plain x_ => uP x_ fun t3005 x_ => uP x_ fun t6005 x_ => k_ 4 (Shape.inj R_loose.c100012x0 (line, names, ws, t6, r_.1, r_.2.1, t20, t21, t22, t23, t24, t25, o0, o1, o3, r_.2.2.1, r_.2.2.2.1, r_.2.2.2.2.1, r_.2.2.2.2.2, ())))
def R_loose.c30 {ρ : Type} (o0 : Int) (k_ : Bool → Option ρ) : Option ρ :=
  br (o0 == (1 : Int))
   (k_ true)
   (k_ (o0 == (4 : Int)))
def R_loose.c30s : Shape := ⟨[(0, qc22), (2, qc4), (3, qc24), (4, qc24), (5, qc11), (6, qc6), (7, qc35), (8, qc6), (9, qc6)], [(2, qc21), (5, qc34), (7, qc31), (3005, qc31), (6005, qc31)]⟩
def R_loose.c30x0 : Shape := ⟨[(0, qc22), (2, qc4), (3, qc24), (4, qc24), (5, qc11), (6, qc6), (7, qc35), (8, qc6), (9, qc6), (11, qc14)], [(2, qc21), (5, qc34), (7, qc31), (3005, qc31), (6005, qc31)]⟩
def R_loose.c30r : Ck := Ck.of (T := Bool) R_loose.c30s (fun ρ x_ k_ => uP x_ fun line x_ => uP x_ fun names x_ => uP x_ fun ws x_ => uP x_ fun t6 x_ => uP x_ fun part x_ => uP x_ fun i x_ => uP x_ fun t20 x_ => uP x_ fun t21 x_ => uP x_ fun t22 x_ => uP x_ fun t23 x_ => uP x_ fun t24 x_ => uP x_ fun t25 x_ => uP x_ fun o0 x_ => uP x_ fun o1 x_ => uP x_ fun o3 x_ => uP x_ fun o4 x_ => uP x_ fun plain x_ => uP x_ fun t3005 x_ => uP x_ fun t6005 x_ => R_loose.c30 o0 k_) (fun ρ x_ r_ k_ => uP x_ fun line x_ => uP x_ fun names x_ => uP x_ fun ws x_ => uP x_ fun t6 x_ => uP x_ fun part x_ => uP x_ fun i x_ => uP x_ fun t20 x_ => uP x_ fun t21 x_ => uP x_ fun t22 x_ => uP x_ fun t23 x_ => uP x_ fun t24 x_ => uP x_ fun t25 x_ => uP x_ fun o0 x_ => uP x_ fun o1 x_ => uP x_ fun o3 x_ => uP x_ fun o4 x_ => uP x_ fun plain x_ => uP x_ fun t3005 x_ => uP x_ fun t6005 x_ => k_ 0 (Shape.inj R_loose.c30x0 (line, names, ws, t6, part, i, r_, t20, t21, t22, t23, t24, t25, o0, o1, o3, o4, plain, t3005, t6005, ())))
def R_loose.c31 {ρ : Type} (angle : Bool) (plain : List (Int)) (k_ : Bool → Option ρ) : Option ρ :=
  br angle
   (k_ (decide ((↑(List.length plain) : Int) > (0 : Int))))
   (k_ false)
def R_loose.c31s : Shape := ⟨[(0, qc22), (2, qc4), (3, qc24), (4, qc24), (5, qc11), (6, qc6), (7, qc35), (8, qc6), (9, qc6), (11, qc14)], [(2, qc21), (5, qc34), (7, qc31), (3005, qc31), (6005, qc31)]⟩
def R_loose.c31x0 : Shape := ⟨[(0, qc22), (2, qc4), (3, qc24), (4, qc24), (5, qc11), (6, qc6), (7, qc35), (8, qc6), (9, qc6), (11, qc14), (106, qc14)], [(2, qc21), (5, qc34), (7, qc31), (3005, qc31), (6005, qc31)]⟩
def R_loose.c31r : Ck := Ck.of (T := Bool) R_loose.c31s (fun ρ x_ k_ => uP x_ fun line x_ => uP x_ fun names x_ => uP x_ fun ws x_ => uP x_ fun t6 x_ => uP x_ fun part x_ => uP x_ fun i x_ => uP x_ fun angle x_ => uP x_ fun t20 x_ => uP x_ fun t21 x_ => uP x_ fun t22 x_ => uP x_ fun t23 x_ => uP x_ fun t24 x_ => uP x_ fun t25 x_ => uP x_ fun o0 x_ => uP x_ fun o1 x_ => uP x_ fun o3 x_ => uP x_ fun o4 x_ => uP x_ fun plain x_ => uP x_ fun t3005 x_ => uP x_ fun t6005 x_ => R_loose.c31 angle plain k_) (fun ρ x_ r_ k_ => uP x_ fun line x_ => uP x_ fun names x_ => uP x_ fun ws x_ => uP x_ fun t6 x_ => uP x_ fun part x_ => uP x_ fun i x_ => uP x_ fun angle x_ => uP x_ fun t20 x_ => uP x_ fun t21 x_ => uP x_ fun t22 x_ => uP x_ fun t23 x_ => uP x_ fun t24 x_ => uP x_ fun t25 x_ => uP x_ fun o0 x_ => uP x_ fun o1 x_ => uP x_ fun o3 x_ => uP x_ fun o4 x_ => uP x_ fun plain x_ => uP x_ fun t3005 x_ => uP x_ fun t6005 x_ => k_ 0 (Shape.inj R_loose.c31x0 (line, names, ws, t6, part, i, angle, r_, t20, t21, t22, t23, t24, t25, o0, o1, o3, o4, plain, t3005, t6005, ())))
def R_loose.c326981 {ρ : Type} (angle : Bool) (o1 : Int) (plain : List (Int)) (k_ : Int → Option ρ) : Option ρ :=
  bnd (W.R_loose.c31 angle plain some) fun y =>
  br y
   (bnd (inR (List.length plain) (0 : Int)) fun y_1 =>
    bnd (idx plain (0 : Int)) fun y_2 =>
    k_ y_2)
   (k_ o1)
def R_loose.c326981s : Shape := ⟨[(0, qc22), (2, qc4), (3, qc24), (4, qc24), (5, qc11), (6, qc6), (7, qc35), (8, qc6), (9, qc6), (11, qc14)], [(2, qc21), (5, qc34), (7, qc31), (3005, qc31), (6005, qc31)]⟩
def R_loose.c326981x0 : Shape := ⟨[(0, qc22), (2, qc4), (3, qc24), (4, qc24), (5, qc11), (6, qc6), (7, qc35), (8, qc6), (9, qc6), (11, qc14)], [(2, qc21), (5, qc34), (7, qc31), (3005, qc31), (6005, qc31)]⟩
def R_loose.c326981r : Ck := Ck.of (T := Int) R_loose.c326981s (fun ρ x_ k_ => uP x_ fun line x_ => uP x_ fun names x_ => uP x_ fun ws x_ => uP x_ fun t6 x_ => uP x_ fun part x_ => uP x_ fun i x_ => uP x_ fun angle x_ => uP x_ fun t20 x_ => uP x_ fun t21 x_ => uP x_ fun t22 x_ => uP x_ fun t23 x_ => uP x_ fun t24 x_ => uP x_ fun t25 x_ => uP x_ fun o0 x_ => uP x_ fun o1 x_ => uP x_ fun o3 x_ => uP x_ fun o4 x_ => uP x_ fun plain x_ => uP x_ fun t3005 x_ => uP x_ fun t6005 x_ => R_loose.c326981 angle o1 plain k_) (fun ρ x_ r_ k_ => uP x_ fun line x_ => uP x_ fun names x_ => uP x_ fun ws x_ => uP x_ fun t6 x_ => uP x_ fun part x_ => uP x_ fun i x_ => uP x_ fun angle x_ => uP x_ fun t20 x_ => uP x_ fun t21 x_ => uP x_ fun t22 x_ => uP x_ fun t23 x_ => uP x_ fun t24 x_ => uP x_ fun t25 x_ => uP x_ fun o0 x_ => uP x_ fun o1 x_ => uP x_ fun o3 x_ => uP x_ fun o4 x_ => uP x_ fun plain x_ => uP x_ fun t3005 x_ => uP x_ fun t6005 x_ => k_ 0 (Shape.inj R_loose.c326981x0 (line, names, ws, t6, part, i, angle, t20, t21, t22, t23, t24, t25, o0, r_, o3, o4, plain, t3005, t6005, ())))
def R_loose.c33 {ρ : Type} (angle : Bool) (plain : List (Int)) (k_ : Bool → Option ρ) : Option ρ :=
  br (!angle)
   (k_ (decide ((↑(List.length plain) : Int) > (0 : Int))))
   (k_ false)
def R_loose.c33s : Shape := ⟨[(0, qc22), (2, qc4), (3, qc24), (4, qc24), (5, qc11), (6, qc6), (7, qc35), (8, qc6), (9, qc6), (11, qc14)], [(2, qc21), (5, qc34), (7, qc31), (3005, qc31), (6005, qc31)]⟩
def R_loose.c33x0 : Shape := ⟨[(0, qc22), (2, qc4), (3, qc24), (4, qc24), (5, qc11), (6, qc6), (7, qc35), (8, qc6), (9, qc6), (11, qc14), (117, qc14)], [(2, qc21), (5, qc34), (7, qc31), (3005, qc31), (6005, qc31)]⟩
def R_loose.c33r : Ck := Ck.of (T := Bool) R_loose.c33s (fun ρ x_ k_ => uP x_ fun line x_ => uP x_ fun names x_ => uP x_ fun ws x_ => uP x_ fun t6 x_ => uP x_ fun part x_ => uP x_ fun i x_ => uP x_ fun angle x_ => uP x_ fun t20 x_ => uP x_ fun t21 x_ => uP x_ fun t22 x_ => uP x_ fun t23 x_ => uP x_ fun t24 x_ => uP x_ fun t25 x_ => uP x_ fun o0 x_ => uP x_ fun o1 x_ => uP x_ fun o3 x_ => uP x_ fun o4 x_ => uP x_ fun plain x_ => uP x_ fun t3005 x_ => uP x_ fun t6005 x_ => R_loose.c33 angle plain k_) (fun ρ x_ r_ k_ => uP x_ fun line x_ => uP x_ fun names x_ => uP x_ fun ws x_ => uP x_ fun t6 x_ => uP x_ fun part x_ => uP x_ fun i x_ => uP x_ fun angle x_ => uP x_ fun t20 x_ => uP x_ fun t21 x_ => uP x_ fun t22 x_ => uP x_ fun t23 x_ => uP x_ fun t24 x_ => uP x_ fun t25 x_ => uP x_ fun o0 x_ => uP x_ fun o1 x_ => uP x_ fun o3 x_ => uP x_ fun o4 x_ => uP x_ fun plain x_ => uP x_ fun t3005 x_ => uP x_ fun t6005 x_ => k_ 0 (Shape.inj R_loose.c33x0 (line, names, ws, t6, part, i, angle, r_, t20, t21, t22, t23, t24, t25, o0, o1, o3, o4, plain, t3005, t6005, ())))
def R_loose.c335173 {ρ : Type} (angle : Bool) (o3 : Int) (plain : List (Int)) (k_ : Int → Option ρ) : Option ρ :=
  bnd (W.R_loose.c33 angle plain some) fun y =>
  br y
   (bnd (inR (List.length plain) (0 : Int)) fun y_1 =>
    bnd (idx plain (0 : Int)) fun y_2 =>
    k_ y_2)
   (k_ o3)
def R_loose.c335173s : Shape := ⟨[(0, qc22), (2, qc4), (3, qc24), (4, qc24), (5, qc11), (6, qc6), (7, qc35), (8, qc6), (9, qc6), (11, qc14)], [(2, qc21), (5, qc34), (7, qc31), (3005, qc31), (6005, qc31)]⟩
def R_loose.c335173x0 : Shape := ⟨[(0, qc22), (2, qc4), (3, qc24), (4, qc24), (5, qc11), (6, qc6), (7, qc35), (8, qc6), (9, qc6), (11, qc14)], [(2, qc21), (5, qc34), (7, qc31), (3005, qc31), (6005, qc31)]⟩
def R_loose.c335173r : Ck := Ck.of (T := Int) R_loose.c335173s (fun ρ x_ k_ => uP x_ fun line x_ => uP x_ fun names x_ => uP x_ fun ws x_ => uP x_ fun t6 x_ => uP x_ fun part x_ => uP x_ fun i x_ => uP x_ fun angle x_ => uP x_ fun t20 x_ => uP x_ fun t21 x_ => uP x_ fun t22 x_ => uP x_ fun t23 x_ => uP x_ fun t24 x_ => uP x_ fun t25 x_ => uP x_ fun o0 x_ => uP x_ fun o1 x_ => uP x_ fun o3 x_ => uP x_ fun o4 x_ => uP x_ fun plain x_ => uP x_ fun t3005 x_ => uP x_ fun t6005 x_ => R_loose.c335173 angle o3 plain k_) (fun ρ x_ r_ k_ => uP x_ fun line x_ => uP x_ fun names x_ => uP x_ fun ws x_ => uP x_ fun t6 x_ => uP x_ fun part x_ => uP x_ fun i x_ => uP x_ fun angle x_ => uP x_ fun t20 x_ => uP x_ fun t21 x_ => uP x_ fun t22 x_ => uP x_ fun t23 x_ => uP x_ fun t24 x_ => uP x_ fun t25 x_ => uP x_ fun o0 x_ => uP x_ fun o1 x_ => uP x_ fun o3 x_ => uP x_ fun o4 x_ => uP x_ fun plain x_ => uP x_ fun t3005 x_ => uP x_ fun t6005 x_ => k_ 0 (Shape.inj R_loose.c335173x0 (line, names, ws, t6, part, i, angle, t20, t21, t22, t23, t24, t25, o0, o1, r_, o4, plain, t3005, t6005, ())))
def R_loose.c35 {ρ : Type} (angle : Bool) (plain : List (Int)) (k_ : Bool → Option ρ) : Option ρ :=
  br angle
   (k_ (decide ((↑(List.length plain) : Int) > (1 : Int))))
   (k_ false)
def R_loose.c35s : Shape := ⟨[(0, qc22), (2, qc4), (3, qc24), (4, qc24), (5, qc11), (6, qc6), (7, qc35), (8, qc6), (9, qc6), (11, qc14)], [(2, qc21), (5, qc34), (7, qc31), (3005, qc31), (6005, qc31)]⟩
def R_loose.c35x0 : Shape := ⟨[(0, qc22), (2, qc4), (3, qc24), (4, qc24), (5, qc11), (6, qc6), (7, qc35), (8, qc6), (9, qc6), (11, qc14), (127, qc14)], [(2, qc21), (5, qc34), (7, qc31), (3005, qc31), (6005, qc31)]⟩
def R_loose.c35r : Ck := Ck.of (T := Bool) R_loose.c35s (fun ρ x_ k_ => uP x_ fun line x_ => uP x_ fun names x_ => uP x_ fun ws x_ => uP x_ fun t6 x_ => uP x_ fun part x_ => uP x_ fun i x_ => uP x_ fun angle x_ => uP x_ fun t20 x_ => uP x_ fun t21 x_ => uP x_ fun t22 x_ => uP x_ fun t23 x_ => uP x_ fun t24 x_ => uP x_ fun t25 x_ => uP x_ fun o0 x_ => uP x_ fun o1 x_ => uP x_ fun o3 x_ => uP x_ fun o4 x_ => uP x_ fun plain x_ => uP x_ fun t3005 x_ => uP x_ fun t6005 x_ => R_loose.c35 angle plain k_) (fun ρ x_ r_ k_ => uP x_ fun line x_ => uP x_ fun names x_ => uP x_ fun ws x_ => uP x_ fun t6 x_ => uP x_ fun part x_ => uP x_ fun i x_ => uP x_ fun angle x_ => uP x_ fun t20 x_ => uP x_ fun t21 x_ => uP x_ fun t22 x_ => uP x_ fun t23 x_ => uP x_ fun t24 x_ => uP x_ fun t25 x_ => uP x_ fun o0 x_ => uP x_ fun o1 x_ => uP x_ fun o3 x_ => uP x_ fun o4 x_ => uP x_ fun plain x_ => uP x_ fun t3005 x_ => uP x_ fun t6005 x_ => k_ 0 (Shape.inj R_loose.c35x0 (line, names, ws, t6, part, i, angle, r_, t20, t21, t22, t23, t24, t25, o0, o1, o3, o4, plain, t3005, t6005, ())))
def R_loose.c343365 {ρ : Type} (angle : Bool) (o3 : Int) (plain : List (Int)) (k_ : Int → Option ρ) : Option ρ :=
  bnd (W.R_loose.c35 angle plain some) fun y =>
  br y
   (bnd (inR (List.length plain) (1 : Int)) fun y_1 =>
    bnd (idx plain (1 : Int)) fun y_2 =>
    k_ y_2)
   (k_ o3)
def R_loose.c343365s : Shape := ⟨[(0, qc22), (2, qc4), (3, qc24), (4, qc24), (5, qc11), (6, qc6), (7, qc35), (8, qc6), (9, qc6), (11, qc14)], [(2, qc21), (5, qc34), (7, qc31), (3005, qc31), (6005, qc31)]⟩
def R_loose.c343365x0 : Shape := ⟨[(0, qc22), (2, qc4), (3, qc24), (4, qc24), (5, qc11), (6, qc6), (7, qc35), (8, qc6), (9, qc6), (11, qc14)], [(2, qc21), (5, qc34), (7, qc31), (3005, qc31), (6005, qc31)]⟩
def R_loose.c343365r : Ck := Ck.of (T := Int) R_loose.c343365s (fun ρ x_ k_ => uP x_ fun line x_ => uP x_ fun names x_ => uP x_ fun ws x_ => uP x_ fun t6 x_ => uP x_ fun part x_ => uP x_ fun i x_ => uP x_ fun angle x_ => uP x_ fun t20 x_ => uP x_ fun t21 x_ => uP x_ fun t22 x_ => uP x_ fun t23 x_ => uP x_ fun t24 x_ => uP x_ fun t25 x_ => uP x_ fun o0 x_ => uP x_ fun o1 x_ => uP x_ fun o3 x_ => uP x_ fun o4 x_ => uP x_ fun plain x_ => uP x_ fun t3005 x_ => uP x_ fun t6005 x_ => R_loose.c343365 angle o3 plain k_) (fun ρ x_ r_ k_ => uP x_ fun line x_ => uP x_ fun names x_ => uP x_ fun ws x_ => uP x_ fun t6 x_ => uP x_ fun part x_ => uP x_ fun i x_ => uP x_ fun angle x_ => uP x_ fun t20 x_ => uP x_ fun t21 x_ => uP x_ fun t22 x_ => uP x_ fun t23 x_ => uP x_ fun t24 x_ => uP x_ fun t25 x_ => uP x_ fun o0 x_ => uP x_ fun o1 x_ => uP x_ fun o3 x_ => uP x_ fun o4 x_ => uP x_ fun plain x_ => uP x_ fun t3005 x_ => uP x_ fun t6005 x_ => k_ 0 (Shape.inj R_loose.c343365x0 (line, names, ws, t6, part, i, angle, t20, t21, t22, t23, t24, t25, o0, o1, r_, o4, plain, t3005, t6005, ())))
def R_loose.c351557 {ρ : Type} (o0 : Int) (o3 : Int) (k_ : Int → Option ρ) : Option ρ :=
  br (o0 == (1 : Int))
   (k_ (0 : Int))
   (k_ o3)
def R_loose.c351557s : Shape := ⟨[(0, qc22), (2, qc4), (3, qc24), (4, qc24), (5, qc11), (6, qc6), (7, qc35), (8, qc6), (9, qc6), (11, qc14)], [(2, qc21), (5, qc34), (7, qc31), (3005, qc31), (6005, qc31)]⟩
def R_loose.c351557x0 : Shape := ⟨[(0, qc22), (2, qc4), (3, qc24), (4, qc24), (5, qc11), (6, qc6), (7, qc35), (8, qc6), (9, qc6), (11, qc14)], [(2, qc21), (5, qc34), (7, qc31), (3005, qc31), (6005, qc31)]⟩
def R_loose.c351557r : Ck := Ck.of (T := Int) R_loose.c351557s (fun ρ x_ k_ => uP x_ fun line x_ => uP x_ fun names x_ => uP x_ fun ws x_ => uP x_ fun t6 x_ => uP x_ fun part x_ => uP x_ fun i x_ => uP x_ fun angle x_ => uP x_ fun t20 x_ => uP x_ fun t21 x_ => uP x_ fun t22 x_ => uP x_ fun t23 x_ => uP x_ fun t24 x_ => uP x_ fun t25 x_ => uP x_ fun o0 x_ => uP x_ fun o1 x_ => uP x_ fun o3 x_ => uP x_ fun o4 x_ => uP x_ fun plain x_ => uP x_ fun t3005 x_ => uP x_ fun t6005 x_ => R_loose.c351557 o0 o3 k_) (fun ρ x_ r_ k_ => uP x_ fun line x_ => uP x_ fun names x_ => uP x_ fun ws x_ => uP x_ fun t6 x_ => uP x_ fun part x_ => uP x_ fun i x_ => uP x_ fun angle x_ => uP x_ fun t20 x_ => uP x_ fun t21 x_ => uP x_ fun t22 x_ => uP x_ fun t23 x_ => uP x_ fun t24 x_ => uP x_ fun t25 x_ => uP x_ fun o0 x_ => uP x_ fun o1 x_ => uP x_ fun o3 x_ => uP x_ fun o4 x_ => uP x_ fun plain x_ => uP x_ fun t3005 x_ => uP x_ fun t6005 x_ => k_ 0 (Shape.inj R_loose.c351557x0 (line, names, ws, t6, part, i, angle, t20, t21, t22, t23, t24, t25, o0, o1, r_, o4, plain, t3005, t6005, ())))
def R_loose (line : List UInt8) : Option ((Int) × ((Int) × ((List Int) × ((Int) × ((Int) × (List Int)))))) :=
  bnd (W.R_split line (32 : Int)) fun y =>
  bnd (iter (fun s ↦ W.R_loose.c100005 [Array.toList (ByteArray.data (ByteArray.mk #[])), Array.toList (ByteArray.data (ByteArray.mk #[(112 : UInt8), (104 : UInt8), (97 : UInt8), (115 : UInt8), (101 : UInt8)])), Array.toList (ByteArray.data (ByteArray.mk #[(120 : UInt8)])), Array.toList (ByteArray.data (ByteArray.mk #[(104 : UInt8)])), Array.toList (ByteArray.data (ByteArray.mk #[(112 : UInt8)])), Array.toList (ByteArray.data (ByteArray.mk #[(109 : UInt8), (101 : UInt8), (97 : UInt8), (115 : UInt8), (117 : UInt8), (114 : UInt8), (101 : UInt8)])), Array.toList (ByteArray.data (ByteArray.mk #[(114 : UInt8), (101 : UInt8), (115 : UInt8), (101 : UInt8), (116 : UInt8)]))] y (Prod.fst s) (Prod.snd s) some) ((1 : Int), (1 : Int))) fun y_1 =>
  bnd (iter (fun s ↦ W.R_loose.c100012 y (Prod.fst s) (Prod.fst (Prod.snd s)) (Prod.fst (Prod.snd (Prod.snd s))) (Prod.fst (Prod.snd (Prod.snd (Prod.snd s)))) (Prod.fst (Prod.snd (Prod.snd (Prod.snd (Prod.snd s))))) (Prod.snd (Prod.snd (Prod.snd (Prod.snd (Prod.snd s))))) some) ((0 : Int), (1 : Int), (0 : Int), [], [], [])) fun y_2 =>
  bnd (W.R_loose.c30 (Prod.snd y_1) some) fun y_3 =>
  bnd (W.R_loose.c326981 y_3 (0 : Int) (Prod.fst (Prod.snd (Prod.snd (Prod.snd y_2)))) some) fun y_4 =>
  bnd (W.R_loose.c335173 y_3 (0 : Int) (Prod.fst (Prod.snd (Prod.snd (Prod.snd y_2)))) some) fun y_5 =>
  bnd (W.R_loose.c343365 y_3 y_5 (Prod.fst (Prod.snd (Prod.snd (Prod.snd y_2)))) some) fun y_6 =>
  bnd (W.R_loose.c351557 (Prod.snd y_1) y_6 some) fun y_7 =>
  some (Prod.snd y_1, y_4, Prod.fst (Prod.snd (Prod.snd (Prod.snd (Prod.snd y_2)))), y_7, Prod.fst (Prod.snd (Prod.snd y_2)), Prod.snd (Prod.snd (Prod.snd (Prod.snd (Prod.snd y_2)))))
def R_loose.ce : Go.Ql.Callee := ⟨[.str], [(.st (.pair (.int .i64) (.pair (.int .i64) (.pair (.sl (.int .i64)) (.pair (.int .i64) (.pair (.int .i64) (.sl (.int .i64))))))))], fun x_ => R_loose x_⟩
def R_loose.G : Env := ⟨137, tab, [(64, R_split.ce), (65, R_figure.ce)], [0, 2, 3, 4, 5, 6, 7, 8, 9, 10, 11, 17, 27, 33, 41, 43, 45, 47, 54, 63, 74, 106, 117, 127, 134], [5, 7, 15, 3005, 6005], [(29, [⟨[], [], [87, 88, 89, 90], [90]⟩, ⟨[0], [], [87, 88, 89, 90], [90]⟩, ⟨[], [], [85, 86], []⟩, ⟨[2], [], [85, 86], []⟩, ⟨[3, 2], [], [85, 86], []⟩, ⟨[4, 3, 2], [90], [85, 86], []⟩, ⟨[1, 0, 5, 4, 3, 2], [6005], [], []⟩, ⟨[0, 1, 2, 3, 4, 5, 6], [], [], []⟩, ⟨[7, 0, 1, 2, 3, 4, 5, 6], [5], [], []⟩]),
  (28, [⟨[], [], [77, 78, 79, 80, 81, 82], [82]⟩, ⟨[0], [], [77, 78, 79, 80, 81, 82], [82]⟩, ⟨[], [], [75, 76], []⟩, ⟨[2], [], [75, 76], []⟩, ⟨[3, 2], [], [75, 76], []⟩, ⟨[4, 3, 2], [], [75, 76], []⟩, ⟨[5, 4, 3, 2], [], [75, 76], []⟩, ⟨[6, 5, 4, 3, 2], [82], [75, 76], []⟩, ⟨[1, 0, 7, 6, 5, 4, 3, 2], [6005], [], []⟩, ⟨[0, 1, 2, 3, 4, 5, 6, 7, 8], [], [], []⟩, ⟨[9, 0, 1, 2, 3, 4, 5, 6, 7, 8], [5], [], []⟩]),
  (24, [⟨[], [], [57, 58, 59], [59]⟩, ⟨[0], [], [57, 58, 59], [59]⟩, ⟨[], [], [55, 56], []⟩, ⟨[2], [], [55, 56], []⟩, ⟨[3, 2], [59], [55, 56], []⟩, ⟨[1, 0, 4, 3, 2], [3005], [], []⟩, ⟨[0, 1, 2, 3, 4, 5], [], [], []⟩, ⟨[6, 0, 1, 2, 3, 4, 5], [5], [], []⟩]),
  (7, [⟨[], [], [21, 24, 25, 26], []⟩, ⟨[], [], [20, 24, 25, 26], []⟩, ⟨[0, 1], [], [24, 25, 26], []⟩, ⟨[2, 0, 1], [], [24, 25, 26], []⟩, ⟨[], [], [20, 21, 22, 23], []⟩, ⟨[4], [], [20, 21, 22, 23], []⟩, ⟨[5, 4], [], [20, 21, 22, 23], []⟩, ⟨[3, 2, 0, 1, 6, 5, 4], [], [], []⟩])], [(351557, R_loose.c351557r), (343365, R_loose.c343365r), (35, R_loose.c35r), (335173, R_loose.c335173r), (33, R_loose.c33r), (326981, R_loose.c326981r), (31, R_loose.c31r), (30, R_loose.c30r), (100012, R_loose.c100012r), (257376, R_loose.c257376r), (29, R_loose.c29r), (28, R_loose.c28r), (27, R_loose.c27r), (24, R_loose.c24r), (100005, R_loose.c100005r), (228678, R_loose.c228678r), (7, R_loose.c7r)], [], tab_eqs⟩
theorem R_loose.eq (x_ : dens [.str]) : den R_loose.G Go.Proofs.Tryd.f66 [.str] [(.st (.pair (.int .i64) (.pair (.int .i64) (.pair (.sl (.int .i64)) (.pair (.int .i64) (.pair (.int .i64) (.sl (.int .i64))))))))] x_ = R_loose x_ := by kernel_rfl
theorem R_loose.p0 : PieceOk R_loose.G (pieceAt (pieces R_loose.G.cks (bodyOf Go.Proofs.Tryd.f66)) 0).1 (pieceAt (pieces R_loose.G.cks (bodyOf Go.Proofs.Tryd.f66)) 0).2 :=
  loop_ok (s := R_loose.c100005r) (by kernel_rfl) (by kernel_rfl) (loops_of (sh := R_loose.c100005s) (I := fun x_ s_ => (x_.1, x_.2.1, x_.2.2.1, s_.1, x_.2.2.2.2.1, x_.2.2.2.2.2.1, x_.2.2.2.2.2.2.1, x_.2.2.2.2.2.2.2.1, x_.2.2.2.2.2.2.2.2.1, x_.2.2.2.2.2.2.2.2.2.1, s_.2, x_.2.2.2.2.2.2.2.2.2.2.2.1, x_.2.2.2.2.2.2.2.2.2.2.2.2.1, x_.2.2.2.2.2.2.2.2.2.2.2.2.2.1, x_.2.2.2.2.2.2.2.2.2.2.2.2.2.2.1, x_.2.2.2.2.2.2.2.2.2.2.2.2.2.2.2.1, ())) (fun x_ => rfl) (fun ρ x_ s_ k_ => (nat_br (nat_bnd fun _ => nat_leaf) nat_leaf)) (fun ρ x_ t k => (by kernel_rfl)) (fun x_ s => by kernel_rfl))
theorem R_loose.p1 : PieceOk R_loose.G (pieceAt (pieces R_loose.G.cks (bodyOf Go.Proofs.Tryd.f66)) 1).1 (pieceAt (pieces R_loose.G.cks (bodyOf Go.Proofs.Tryd.f66)) 1).2 :=
  join_ok (s := R_loose.c228678r) (by kernel_rfl) (by kernel_rfl) (sums_of (sh := R_loose.c228678s) (fun ρ x_ k_ => (nat_bnd fun _ => (nat_br nat_leaf nat_leaf))) (fun ρ x_ t k => (by kernel_rfl)) (fun x_ => by kernel_rfl))
theorem R_loose.p2 : PieceOk R_loose.G (pieceAt (pieces R_loose.G.cks (bodyOf Go.Proofs.Tryd.f66)) 2).1 (pieceAt (pieces R_loose.G.cks (bodyOf Go.Proofs.Tryd.f66)) 2).2 :=
  region_ok (s := R_loose.c7r) (by kernel_rfl) (by kernel_rfl) (sums_of (sh := R_loose.c7s) (fun ρ x_ k_ => (nat_bnd fun _ => (nat_bnd fun _ => nat_leaf))) (fun ρ x_ t k => (by kernel_rfl)) (fun x_ => by kernel_rfl))
theorem R_loose.p3 : PieceOk R_loose.G (pieceAt (pieces R_loose.G.cks (bodyOf Go.Proofs.Tryd.f66)) 3).1 (pieceAt (pieces R_loose.G.cks (bodyOf Go.Proofs.Tryd.f66)) 3).2 :=
  loop_ok (s := R_loose.c100012r) (by kernel_rfl) (by kernel_rfl) (loops_of (sh := R_loose.c100012s) (I := fun x_ s_ => (x_.1, x_.2.1, x_.2.2.1, x_.2.2.2.1, s_.1, s_.2.1, x_.2.2.2.2.2.2.1, x_.2.2.2.2.2.2.2.1, x_.2.2.2.2.2.2.2.2.1, x_.2.2.2.2.2.2.2.2.2.1, x_.2.2.2.2.2.2.2.2.2.2.1, x_.2.2.2.2.2.2.2.2.2.2.2.1, x_.2.2.2.2.2.2.2.2.2.2.2.2.1, x_.2.2.2.2.2.2.2.2.2.2.2.2.2.1, x_.2.2.2.2.2.2.2.2.2.2.2.2.2.2.1, s_.2.2.1, s_.2.2.2.1, s_.2.2.2.2.1, s_.2.2.2.2.2, ())) (fun x_ => rfl) (fun ρ x_ s_ k_ => (nat_br (nat_bnd fun _ => nat_leaf) nat_leaf)) (fun ρ x_ t k => (by kernel_rfl)) (fun x_ s => by kernel_rfl))
theorem R_loose.p4 : PieceOk R_loose.G (pieceAt (pieces R_loose.G.cks (bodyOf Go.Proofs.Tryd.f66)) 4).1 (pieceAt (pieces R_loose.G.cks (bodyOf Go.Proofs.Tryd.f66)) 4).2 :=
  join_ok (s := R_loose.c257376r) (by kernel_rfl) (by kernel_rfl) (sums_of (sh := R_loose.c257376s) (fun ρ x_ k_ => (nat_bnd fun _ => (nat_br nat_leaf (nat_br nat_leaf (nat_br nat_leaf (nat_br (nat_bnd fun _ => (nat_bnd fun _ => nat_leaf)) (nat_br (nat_bnd fun _ => nat_leaf) (nat_br (nat_bnd fun _ => nat_leaf) (nat_bnd fun _ => (nat_br (nat_bnd fun _ => nat_leaf) (nat_bnd fun _ => nat_leaf))))))))))) (fun ρ x_ t k => (by kernel_rfl)) (fun x_ => by kernel_rfl))
theorem R_loose.p5 : PieceOk R_loose.G (pieceAt (pieces R_loose.G.cks (bodyOf Go.Proofs.Tryd.f66)) 5).1 (pieceAt (pieces R_loose.G.cks (bodyOf Go.Proofs.Tryd.f66)) 5).2 :=
  region_ok (s := R_loose.c24r) (by kernel_rfl) (by kernel_rfl) (sums_of (sh := R_loose.c24s) (fun ρ x_ k_ => (nat_bnd fun _ => (nat_bnd fun _ => nat_leaf))) (fun ρ x_ t k => (by kernel_rfl)) (fun x_ => by kernel_rfl))
theorem R_loose.p6 : PieceOk R_loose.G (pieceAt (pieces R_loose.G.cks (bodyOf Go.Proofs.Tryd.f66)) 6).1 (pieceAt (pieces R_loose.G.cks (bodyOf Go.Proofs.Tryd.f66)) 6).2 :=
  region_ok (s := R_loose.c27r) (by kernel_rfl) (by kernel_rfl) (sums_of (sh := R_loose.c27s) (fun ρ x_ k_ => (nat_br (nat_bnd fun _ => nat_leaf) nat_leaf)) (fun ρ x_ t k => (by kernel_rfl)) (fun x_ => by kernel_rfl))
theorem R_loose.p7 : PieceOk R_loose.G (pieceAt (pieces R_loose.G.cks (bodyOf Go.Proofs.Tryd.f66)) 7).1 (pieceAt (pieces R_loose.G.cks (bodyOf Go.Proofs.Tryd.f66)) 7).2 :=
  region_ok (s := R_loose.c28r) (by kernel_rfl) (by kernel_rfl) (sums_of (sh := R_loose.c28s) (fun ρ x_ k_ => (nat_bnd fun _ => (nat_bnd fun _ => (nat_bnd fun _ => nat_leaf)))) (fun ρ x_ t k => (by kernel_rfl)) (fun x_ => by kernel_rfl))
theorem R_loose.p8 : PieceOk R_loose.G (pieceAt (pieces R_loose.G.cks (bodyOf Go.Proofs.Tryd.f66)) 8).1 (pieceAt (pieces R_loose.G.cks (bodyOf Go.Proofs.Tryd.f66)) 8).2 :=
  region_ok (s := R_loose.c29r) (by kernel_rfl) (by kernel_rfl) (sums_of (sh := R_loose.c29s) (fun ρ x_ k_ => (nat_bnd fun _ => (nat_bnd fun _ => nat_leaf))) (fun ρ x_ t k => (by kernel_rfl)) (fun x_ => by kernel_rfl))
theorem R_loose.p9 : PieceOk R_loose.G (pieceAt (pieces R_loose.G.cks (bodyOf Go.Proofs.Tryd.f66)) 9).1 (pieceAt (pieces R_loose.G.cks (bodyOf Go.Proofs.Tryd.f66)) 9).2 :=
  region_ok (s := R_loose.c30r) (by kernel_rfl) (by kernel_rfl) (sums_of (sh := R_loose.c30s) (fun ρ x_ k_ => (nat_br nat_leaf nat_leaf)) (fun ρ x_ t k => (by kernel_rfl)) (fun x_ => by kernel_rfl))
theorem R_loose.p10 : PieceOk R_loose.G (pieceAt (pieces R_loose.G.cks (bodyOf Go.Proofs.Tryd.f66)) 10).1 (pieceAt (pieces R_loose.G.cks (bodyOf Go.Proofs.Tryd.f66)) 10).2 :=
  join_ok (s := R_loose.c326981r) (by kernel_rfl) (by kernel_rfl) (sums_of (sh := R_loose.c326981s) (fun ρ x_ k_ => (nat_bnd fun _ => (nat_br (nat_bnd fun _ => (nat_bnd fun _ => nat_leaf)) nat_leaf))) (fun ρ x_ t k => (by kernel_rfl)) (fun x_ => by kernel_rfl))
theorem R_loose.p11 : PieceOk R_loose.G (pieceAt (pieces R_loose.G.cks (bodyOf Go.Proofs.Tryd.f66)) 11).1 (pieceAt (pieces R_loose.G.cks (bodyOf Go.Proofs.Tryd.f66)) 11).2 :=
  region_ok (s := R_loose.c31r) (by kernel_rfl) (by kernel_rfl) (sums_of (sh := R_loose.c31s) (fun ρ x_ k_ => (nat_br nat_leaf nat_leaf)) (fun ρ x_ t k => (by kernel_rfl)) (fun x_ => by kernel_rfl))
theorem R_loose.p12 : PieceOk R_loose.G (pieceAt (pieces R_loose.G.cks (bodyOf Go.Proofs.Tryd.f66)) 12).1 (pieceAt (pieces R_loose.G.cks (bodyOf Go.Proofs.Tryd.f66)) 12).2 :=
  join_ok (s := R_loose.c335173r) (by kernel_rfl) (by kernel_rfl) (sums_of (sh := R_loose.c335173s) (fun ρ x_ k_ => (nat_bnd fun _ => (nat_br (nat_bnd fun _ => (nat_bnd fun _ => nat_leaf)) nat_leaf))) (fun ρ x_ t k => (by kernel_rfl)) (fun x_ => by kernel_rfl))
theorem R_loose.p13 : PieceOk R_loose.G (pieceAt (pieces R_loose.G.cks (bodyOf Go.Proofs.Tryd.f66)) 13).1 (pieceAt (pieces R_loose.G.cks (bodyOf Go.Proofs.Tryd.f66)) 13).2 :=
  region_ok (s := R_loose.c33r) (by kernel_rfl) (by kernel_rfl) (sums_of (sh := R_loose.c33s) (fun ρ x_ k_ => (nat_br nat_leaf nat_leaf)) (fun ρ x_ t k => (by kernel_rfl)) (fun x_ => by kernel_rfl))
theorem R_loose.p14 : PieceOk R_loose.G (pieceAt (pieces R_loose.G.cks (bodyOf Go.Proofs.Tryd.f66)) 14).1 (pieceAt (pieces R_loose.G.cks (bodyOf Go.Proofs.Tryd.f66)) 14).2 :=
  join_ok (s := R_loose.c343365r) (by kernel_rfl) (by kernel_rfl) (sums_of (sh := R_loose.c343365s) (fun ρ x_ k_ => (nat_bnd fun _ => (nat_br (nat_bnd fun _ => (nat_bnd fun _ => nat_leaf)) nat_leaf))) (fun ρ x_ t k => (by kernel_rfl)) (fun x_ => by kernel_rfl))
theorem R_loose.p15 : PieceOk R_loose.G (pieceAt (pieces R_loose.G.cks (bodyOf Go.Proofs.Tryd.f66)) 15).1 (pieceAt (pieces R_loose.G.cks (bodyOf Go.Proofs.Tryd.f66)) 15).2 :=
  region_ok (s := R_loose.c35r) (by kernel_rfl) (by kernel_rfl) (sums_of (sh := R_loose.c35s) (fun ρ x_ k_ => (nat_br nat_leaf nat_leaf)) (fun ρ x_ t k => (by kernel_rfl)) (fun x_ => by kernel_rfl))
theorem R_loose.p16 : PieceOk R_loose.G (pieceAt (pieces R_loose.G.cks (bodyOf Go.Proofs.Tryd.f66)) 16).1 (pieceAt (pieces R_loose.G.cks (bodyOf Go.Proofs.Tryd.f66)) 16).2 :=
  join_ok (s := R_loose.c351557r) (by kernel_rfl) (by kernel_rfl) (sums_of (sh := R_loose.c351557s) (fun ρ x_ k_ => (nat_br nat_leaf nat_leaf)) (fun ρ x_ t k => (by kernel_rfl)) (fun x_ => by kernel_rfl))
theorem R_loose.ok : CalleeOk Go.Proofs.Tryd.prog 66 R_loose.ce := fn_ok (G := R_loose.G) tab_ok mixed Go.Proofs.Tryd.func66 ⟨(fns_cons R_split.ok (fns_cons R_figure.ok fns_nil)), mfns_nil, tab_eqs_ok⟩ (m := 17) (by kernel_rfl) ⟨⟨⟨⟨⟨⟨⟨⟨⟨⟨⟨⟨⟨⟨⟨⟨⟨trivial, R_loose.p0⟩, R_loose.p1⟩, R_loose.p2⟩, R_loose.p3⟩, R_loose.p4⟩, R_loose.p5⟩, R_loose.p6⟩, R_loose.p7⟩, R_loose.p8⟩, R_loose.p9⟩, R_loose.p10⟩, R_loose.p11⟩, R_loose.p12⟩, R_loose.p13⟩, R_loose.p14⟩, R_loose.p15⟩, R_loose.p16⟩ (by kernel_rfl) R_loose.eq
abbrev qc36 : SD := .one (.val (.st (.pair (.int .i64) (.pair (.int .i64) (.pair (.sl (.int .i64)) (.pair (.int .i64) (.pair (.int .i64) (.sl (.int .i64)))))))))
def R_opText.c3 {ρ : Type} (o0 : Int) (k_ : Bool → Option ρ) : Option ρ :=
  br (o0 == (1 : Int))
   (k_ true)
   (k_ (o0 == (4 : Int)))
def R_opText.c3s : Shape := ⟨[(0, qc36), (1, qc3), (2, qc22), (3, qc24), (4, qc22)], [(1, qc21)]⟩
def R_opText.c3x0 : Shape := ⟨[(0, qc36), (1, qc3), (2, qc22), (3, qc24), (4, qc22), (20, qc14)], [(1, qc21)]⟩
def R_opText.c3r : Ck := Ck.of (T := Bool) R_opText.c3s (fun ρ x_ k_ => uP x_ fun o x_ => uP x_ fun t2 x_ => uP x_ fun names x_ => uP x_ fun t x_ => uP x_ fun o0 x_ => uP x_ fun o1 x_ => uP x_ fun o2 x_ => uP x_ fun o3 x_ => uP x_ fun o4 x_ => uP x_ fun o5 x_ => R_opText.c3 o0 k_) (fun ρ x_ r_ k_ => uP x_ fun o x_ => uP x_ fun t2 x_ => uP x_ fun names x_ => uP x_ fun t x_ => uP x_ fun o0 x_ => uP x_ fun o1 x_ => uP x_ fun o2 x_ => uP x_ fun o3 x_ => uP x_ fun o4 x_ => uP x_ fun o5 x_ => k_ 0 (Shape.inj R_opText.c3x0 (o, t2, names, t, r_, o0, o1, o2, o3, o4, o5, ())))
def R_opText.c212293 {ρ : Type} (t : List UInt8) (o0 : Int) (o1 : Int) (k_ : List UInt8 → Option ρ) : Option ρ :=
  bnd (W.R_opText.c3 o0 some) fun y =>
  br y
   (bnd (W.R_num o1) fun y_1 =>
    bnd (okIf (decide (List.length (Array.toList (ByteArray.data (ByteArray.mk #[(32 : UInt8)]))) + List.length y_1 ≤ (9223372036854775807 : Nat)))) fun y_2 =>
    bnd (okIf (decide (List.length t + List.length (Array.toList (ByteArray.data (ByteArray.mk #[(32 : UInt8)])) ++ y_1) ≤ (9223372036854775807 : Nat)))) fun y_3 =>
    k_ (t ++ (Array.toList (ByteArray.data (ByteArray.mk #[(32 : UInt8)])) ++ y_1)))
   (k_ t)
def R_opText.c212293s : Shape := ⟨[(0, qc36), (1, qc3), (2, qc22), (3, qc24), (4, qc22)], [(1, qc21)]⟩
def R_opText.c212293x0 : Shape := ⟨[(0, qc36), (1, qc3), (2, qc22), (3, qc24), (4, qc22)], [(1, qc21)]⟩
def R_opText.c212293r : Ck := Ck.of (T := List UInt8) R_opText.c212293s (fun ρ x_ k_ => uP x_ fun o x_ => uP x_ fun t2 x_ => uP x_ fun names x_ => uP x_ fun t x_ => uP x_ fun o0 x_ => uP x_ fun o1 x_ => uP x_ fun o2 x_ => uP x_ fun o3 x_ => uP x_ fun o4 x_ => uP x_ fun o5 x_ => R_opText.c212293 t o0 o1 k_) (fun ρ x_ r_ k_ => uP x_ fun o x_ => uP x_ fun t2 x_ => uP x_ fun names x_ => uP x_ fun t x_ => uP x_ fun o0 x_ => uP x_ fun o1 x_ => uP x_ fun o2 x_ => uP x_ fun o3 x_ => uP x_ fun o4 x_ => uP x_ fun o5 x_ => k_ 0 (Shape.inj R_opText.c212293x0 (o, t2, names, r_, o0, o1, o2, o3, o4, o5, ())))
def R_opText.c220485 {ρ : Type} (t : List UInt8) (o0 : Int) (o3 : Int) (k_ : List UInt8 → Option ρ) : Option ρ :=
  br (o0 != (1 : Int))
   (bnd (W.R_num o3) fun y =>
    bnd (okIf (decide (List.length (Array.toList (ByteArray.data (ByteArray.mk #[(32 : UInt8)]))) + List.length y ≤ (9223372036854775807 : Nat)))) fun y_1 =>
    bnd (okIf (decide (List.length t + List.length (Array.toList (ByteArray.data (ByteArray.mk #[(32 : UInt8)])) ++ y) ≤ (9223372036854775807 : Nat)))) fun y_2 =>
    k_ (t ++ (Array.toList (ByteArray.data (ByteArray.mk #[(32 : UInt8)])) ++ y)))
   (k_ t)
def R_opText.c220485s : Shape := ⟨[(0, qc36), (1, qc3), (2, qc22), (3, qc24), (4, qc22)], [(1, qc21)]⟩
def R_opText.c220485x0 : Shape := ⟨[(0, qc36), (1, qc3), (2, qc22), (3, qc24), (4, qc22)], [(1, qc21)]⟩
def R_opText.c220485r : Ck := Ck.of (T := List UInt8) R_opText.c220485s (fun ρ x_ k_ => uP x_ fun o x_ => uP x_ fun t2 x_ => uP x_ fun names x_ => uP x_ fun t x_ => uP x_ fun o0 x_ => uP x_ fun o1 x_ => uP x_ fun o2 x_ => uP x_ fun o3 x_ => uP x_ fun o4 x_ => uP x_ fun o5 x_ => R_opText.c220485 t o0 o3 k_) (fun ρ x_ r_ k_ => uP x_ fun o x_ => uP x_ fun t2 x_ => uP x_ fun names x_ => uP x_ fun t x_ => uP x_ fun o0 x_ => uP x_ fun o1 x_ => uP x_ fun o2 x_ => uP x_ fun o3 x_ => uP x_ fun o4 x_ => uP x_ fun o5 x_ => k_ 0 (Shape.inj R_opText.c220485x0 (o, t2, names, r_, o0, o1, o2, o3, o4, o5, ())))
def R_opText.c228677 {ρ : Type} (t : List UInt8) (o2 : List (Int)) (k_ : List UInt8 → Option ρ) : Option ρ :=
  br (decide ((↑(List.length o2) : Int) > (0 : Int)))
   (bnd (okIf (decide (List.length t + List.length (Array.toList (ByteArray.data (ByteArray.mk #[(32 : UInt8), (111 : UInt8), (110 : UInt8)]))) ≤ (9223372036854775807 : Nat)))) fun y =>
    k_ (t ++ Array.toList (ByteArray.data (ByteArray.mk #[(32 : UInt8), (111 : UInt8), (110 : UInt8)]))))
   (k_ t)
def R_opText.c228677s : Shape := ⟨[(0, qc36), (1, qc3), (2, qc22), (3, qc24), (4, qc22)], [(1, qc21)]⟩
def R_opText.c228677x0 : Shape := ⟨[(0, qc36), (1, qc3), (2, qc22), (3, qc24), (4, qc22)], [(1, qc21)]⟩
def R_opText.c228677r : Ck := Ck.of (T := List UInt8) R_opText.c228677s (fun ρ x_ k_ => uP x_ fun o x_ => uP x_ fun t2 x_ => uP x_ fun names x_ => uP x_ fun t x_ => uP x_ fun o0 x_ => uP x_ fun o1 x_ => uP x_ fun o2 x_ => uP x_ fun o3 x_ => uP x_ fun o4 x_ => uP x_ fun o5 x_ => R_opText.c228677 t o2 k_) (fun ρ x_ r_ k_ => uP x_ fun o x_ => uP x_ fun t2 x_ => uP x_ fun names x_ => uP x_ fun t x_ => uP x_ fun o0 x_ => uP x_ fun o1 x_ => uP x_ fun o2 x_ => uP x_ fun o3 x_ => uP x_ fun o4 x_ => uP x_ fun o5 x_ => k_ 0 (Shape.inj R_opText.c228677x0 (o, t2, names, r_, o0, o1, o2, o3, o4, o5, ())))
def R_opText.c100010 {ρ : Type} (t : List UInt8) (i : Int) (o2 : List (Int)) (k_ : ((List UInt8) × (Int)) ⊕ ((List UInt8) × (Int)) → Option ρ) : Option ρ :=
  br (decide (i < (↑(List.length o2) : Int)))
   (bnd (idx o2 i) fun y =>
    bnd (W.R_num y) fun y_1 =>
    bnd (okIf (decide (List.length (Array.toList (ByteArray.data (ByteArray.mk #[(32 : UInt8)]))) + List.length y_1 ≤ (9223372036854775807 : Nat)))) fun y_2 =>
    bnd (okIf (decide (List.length t + List.length (Array.toList (ByteArray.data (ByteArray.mk #[(32 : UInt8)])) ++ y_1) ≤ (9223372036854775807 : Nat)))) fun y_3 =>
    k_ (.inl ((t ++ (Array.toList (ByteArray.data (ByteArray.mk #[(32 : UInt8)])) ++ y_1)), (IntKind.wrap IntKind.i64 (i + (1 : Int))))))
   (k_ (.inr (t, i)))
def R_opText.c100010s : Shape := ⟨[(0, qc36), (1, qc3), (2, qc22), (3, qc24), (4, qc22), (5, qc6)], [(1, qc21)]⟩
def R_opText.c100010x0 : Shape := ⟨[(0, qc36), (1, qc3), (2, qc22), (3, qc24), (4, qc22), (5, qc6)], [(1, qc21)]⟩
def R_opText.c100010r : Ck := Ck.ofLoop (S := (List UInt8) × (Int)) (T := (List UInt8) × (Int)) R_opText.c100010s (fun x_ => uP x_ fun o x_ => uP x_ fun t2 x_ => uP x_ fun names x_ => uP x_ fun t x_ => uP x_ fun i x_ => uP x_ fun o0 x_ => uP x_ fun o1 x_ => uP x_ fun o2 x_ => uP x_ fun o3 x_ => uP x_ fun o4 x_ => uP x_ fun o5 x_ => (t, i)) (fun ρ x_ s_ k_ => uP x_ fun o x_ => uP x_ fun t2 x_ => uP x_ fun names x_ => uP x_ fun t x_ => uP x_ fun i x_ => uP x_ fun o0 x_ => uP x_ fun o1 x_ => uP x_ fun o2 x_ => uP x_ fun o3 x_ => uP x_ fun o4 x_ => uP x_ fun o5 x_ => R_opText.c100010 s_.1 s_.2 o2 k_) (fun ρ x_ r_ k_ => uP x_ fun o x_ => uP x_ fun t2 x_ => uP x_ fun names x_ => uP x_ fun t x_ => uP x_ fun i x_ => uP x_ fun o0 x_ => uP x_ fun o1 x_ => uP x_ fun o2 x_ => uP x_ fun o3 x_ => uP x_ fun o4 x_ => uP x_ fun o5 x_ => k_ 2 (Shape.inj R_opText.c100010x0 (o, t2, names, r_.1, r_.2, o0, o1, o2, o3, o4, o5, ())))
def R_opText.c253253 {ρ : Type} (t : List UInt8) (o0 : Int) (o4 : Int) (k_ : List UInt8 → Option ρ) : Option ρ :=
  br (o0 == (5 : Int))
   (bnd (W.R_num o4) fun y =>
    bnd (okIf (decide (List.length (Array.toList (ByteArray.data (ByteArray.mk #[(32 : UInt8), (116 : UInt8), (111 : UInt8), (32 : UInt8)]))) + List.length y ≤ (9223372036854775807 : Nat)))) fun y_1 =>
    bnd (okIf (decide (List.length t + List.length (Array.toList (ByteArray.data (ByteArray.mk #[(32 : UInt8), (116 : UInt8), (111 : UInt8), (32 : UInt8)])) ++ y) ≤ (9223372036854775807 : Nat)))) fun y_2 =>
    k_ (t ++ (Array.toList (ByteArray.data (ByteArray.mk #[(32 : UInt8), (116 : UInt8), (111 : UInt8), (32 : UInt8)])) ++ y)))
   (k_ t)
def R_opText.c253253s : Shape := ⟨[(0, qc36), (1, qc3), (2, qc22), (3, qc24), (4, qc22), (5, qc6)], [(1, qc21)]⟩
def R_opText.c253253x0 : Shape := ⟨[(0, qc36), (1, qc3), (2, qc22), (3, qc24), (4, qc22), (5, qc6)], [(1, qc21)]⟩
def R_opText.c253253r : Ck := Ck.of (T := List UInt8) R_opText.c253253s (fun ρ x_ k_ => uP x_ fun o x_ => uP x_ fun t2 x_ => uP x_ fun names x_ => uP x_ fun t x_ => uP x_ fun i x_ => uP x_ fun o0 x_ => uP x_ fun o1 x_ => uP x_ fun o2 x_ => uP x_ fun o3 x_ => uP x_ fun o4 x_ => uP x_ fun o5 x_ => R_opText.c253253 t o0 o4 k_) (fun ρ x_ r_ k_ => uP x_ fun o x_ => uP x_ fun t2 x_ => uP x_ fun names x_ => uP x_ fun t x_ => uP x_ fun i x_ => uP x_ fun o0 x_ => uP x_ fun o1 x_ => uP x_ fun o2 x_ => uP x_ fun o3 x_ => uP x_ fun o4 x_ => uP x_ fun o5 x_ => k_ 0 (Shape.inj R_opText.c253253x0 (o, t2, names, r_, i, o0, o1, o2, o3, o4, o5, ())))
def R_opText.c261445 {ρ : Type} (t : List UInt8) (o5 : List (Int)) (k_ : List UInt8 → Option ρ) : Option ρ :=
  br (decide ((↑(List.length o5) : Int) > (0 : Int)))
   (bnd (okIf (decide (List.length t + List.length (Array.toList (ByteArray.data (ByteArray.mk #[(32 : UInt8), (105 : UInt8), (102 : UInt8)]))) ≤ (9223372036854775807 : Nat)))) fun y =>
    k_ (t ++ Array.toList (ByteArray.data (ByteArray.mk #[(32 : UInt8), (105 : UInt8), (102 : UInt8)]))))
   (k_ t)
def R_opText.c261445s : Shape := ⟨[(0, qc36), (1, qc3), (2, qc22), (3, qc24), (4, qc22), (5, qc6)], [(1, qc21)]⟩
def R_opText.c261445x0 : Shape := ⟨[(0, qc36), (1, qc3), (2, qc22), (3, qc24), (4, qc22), (5, qc6)], [(1, qc21)]⟩
def R_opText.c261445r : Ck := Ck.of (T := List UInt8) R_opText.c261445s (fun ρ x_ k_ => uP x_ fun o x_ => uP x_ fun t2 x_ => uP x_ fun names x_ => uP x_ fun t x_ => uP x_ fun i x_ => uP x_ fun o0 x_ => uP x_ fun o1 x_ => uP x_ fun o2 x_ => uP x_ fun o3 x_ => uP x_ fun o4 x_ => uP x_ fun o5 x_ => R_opText.c261445 t o5 k_) (fun ρ x_ r_ k_ => uP x_ fun o x_ => uP x_ fun t2 x_ => uP x_ fun names x_ => uP x_ fun t x_ => uP x_ fun i x_ => uP x_ fun o0 x_ => uP x_ fun o1 x_ => uP x_ fun o2 x_ => uP x_ fun o3 x_ => uP x_ fun o4 x_ => uP x_ fun o5 x_ => k_ 0 (Shape.inj R_opText.c261445x0 (o, t2, names, r_, i, o0, o1, o2, o3, o4, o5, ())))
def R_opText.c281926 {ρ : Type} (t : List UInt8) (i_1 : Int) (o5 : List (Int)) (k_ : List UInt8 → Option ρ) : Option ρ :=
  bnd (idx o5 i_1) fun y =>
  br (decide (y > (0 : Int)))
   (bnd (idx o5 i_1) fun y_1 =>
    bnd (W.R_num (IntKind.wrap IntKind.i64 (y_1 - (1 : Int)))) fun y_2 =>
    bnd (okIf (decide (List.length (Array.toList (ByteArray.data (ByteArray.mk #[(32 : UInt8)]))) + List.length y_2 ≤ (9223372036854775807 : Nat)))) fun y_3 =>
    bnd (okIf (decide (List.length t + List.length (Array.toList (ByteArray.data (ByteArray.mk #[(32 : UInt8)])) ++ y_2) ≤ (9223372036854775807 : Nat)))) fun y_4 =>
    k_ (t ++ (Array.toList (ByteArray.data (ByteArray.mk #[(32 : UInt8)])) ++ y_2)))
   (bnd (idx o5 i_1) fun y_5 =>
    bnd (W.R_num (IntKind.wrap IntKind.i64 (IntKind.wrap IntKind.i64 ((0 : Int) - y_5) - (1 : Int)))) fun y_6 =>
    bnd (okIf (decide (List.length (Array.toList (ByteArray.data (ByteArray.mk #[(32 : UInt8), (33 : UInt8)]))) + List.length y_6 ≤ (9223372036854775807 : Nat)))) fun y_7 =>
    bnd (okIf (decide (List.length t + List.length (Array.toList (ByteArray.data (ByteArray.mk #[(32 : UInt8), (33 : UInt8)])) ++ y_6) ≤ (9223372036854775807 : Nat)))) fun y_8 =>
    k_ (t ++ (Array.toList (ByteArray.data (ByteArray.mk #[(32 : UInt8), (33 : UInt8)])) ++ y_6)))
def R_opText.c281926s : Shape := ⟨[(0, qc36), (1, qc3), (2, qc22), (3, qc24), (4, qc22), (5, qc6), (6, qc6)], [(1, qc21)]⟩
def R_opText.c281926x0 : Shape := ⟨[(0, qc36), (1, qc3), (2, qc22), (3, qc24), (4, qc22), (5, qc6), (6, qc6)], [(1, qc21)]⟩
def R_opText.c281926r : Ck := Ck.of (T := List UInt8) R_opText.c281926s (fun ρ x_ k_ => uP x_ fun o x_ => uP x_ fun t2 x_ => uP x_ fun names x_ => uP x_ fun t x_ => uP x_ fun i x_ => uP x_ fun i_1 x_ => uP x_ fun o0 x_ => uP x_ fun o1 x_ => uP x_ fun o2 x_ => uP x_ fun o3 x_ => uP x_ fun o4 x_ => uP x_ fun o5 x_ => R_opText.c281926 t i_1 o5 k_) (fun ρ x_ r_ k_ => uP x_ fun o x_ => uP x_ fun t2 x_ => uP x_ fun names x_ => uP x_ fun t x_ => uP x_ fun i x_ => uP x_ fun i_1 x_ => uP x_ fun o0 x_ => uP x_ fun o1 x_ => uP x_ fun o2 x_ => uP x_ fun o3 x_ => uP x_ fun o4 x_ => uP x_ fun o5 x_ => k_ 0 (Shape.inj R_opText.c281926x0 (o, t2, names, r_, i, i_1, o0, o1, o2, o3, o4, o5, ())))
def R_opText.c100018 {ρ : Type} (t : List UInt8) (i_1 : Int) (o5 : List (Int)) (k_ : ((List UInt8) × (Int)) ⊕ ((List UInt8) × (Int)) → Option ρ) : Option ρ :=
  br (decide (i_1 < (↑(List.length o5) : Int)))
   (bnd (W.R_opText.c281926 t i_1 o5 some) fun y =>
    k_ (.inl (y, (IntKind.wrap IntKind.i64 (i_1 + (1 : Int))))))
   (k_ (.inr (t, i_1)))
def R_opText.c100018s : Shape := ⟨[(0, qc36), (1, qc3), (2, qc22), (3, qc24), (4, qc22), (5, qc6), (6, qc6)], [(1, qc21)]⟩
def R_opText.c100018x0 : Shape := ⟨[(0, qc36), (1, qc3), (2, qc22), (3, qc24), (4, qc22), (5, qc6), (6, qc6)], [(1, qc21)]⟩
def R_opText.c100018r : Ck := Ck.ofLoop (S := (List UInt8) × (Int)) (T := (List UInt8) × (Int)) R_opText.c100018s (fun x_ => uP x_ fun o x_ => uP x_ fun t2 x_ => uP x_ fun names x_ => uP x_ fun t x_ => uP x_ fun i x_ => uP x_ fun i_1 x_ => uP x_ fun o0 x_ => uP x_ fun o1 x_ => uP x_ fun o2 x_ => uP x_ fun o3 x_ => uP x_ fun o4 x_ => uP x_ fun o5 x_ => (t, i_1)) (fun ρ x_ s_ k_ => uP x_ fun o x_ => uP x_ fun t2 x_ => uP x_ fun names x_ => uP x_ fun t x_ => uP x_ fun i x_ => uP x_ fun i_1 x_ => uP x_ fun o0 x_ => uP x_ fun o1 x_ => uP x_ fun o2 x_ => uP x_ fun o3 x_ => uP x_ fun o4 x_ => uP x_ fun o5 x_ => R_opText.c100018 s_.1 s_.2 o5 k_) (fun ρ x_ r_ k_ => uP x_ fun o x_ => uP x_ fun t2 x_ => uP x_ fun names x_ => uP x_ fun t x_ => uP x_ fun i x_ => uP x_ fun i_1 x_ => uP x_ fun o0 x_ => uP x_ fun o1 x_ => uP x_ fun o2 x_ => uP x_ fun o3 x_ => uP x_ fun o4 x_ => uP x_ fun o5 x_ => k_ 4 (Shape.inj R_opText.c100018x0 (o, t2, names, r_.1, i, r_.2, o0, o1, o2, o3, o4, o5, ())))
def R_opText (o : (Int) × ((Int) × ((List Int) × ((Int) × ((Int) × (List Int)))))) : Option (List UInt8) :=
  bnd (idx [Array.toList (ByteArray.data (ByteArray.mk #[])), Array.toList (ByteArray.data (ByteArray.mk #[(112 : UInt8), (104 : UInt8), (97 : UInt8), (115 : UInt8), (101 : UInt8)])), Array.toList (ByteArray.data (ByteArray.mk #[(120 : UInt8)])), Array.toList (ByteArray.data (ByteArray.mk #[(104 : UInt8)])), Array.toList (ByteArray.data (ByteArray.mk #[(112 : UInt8)])), Array.toList (ByteArray.data (ByteArray.mk #[(109 : UInt8), (101 : UInt8), (97 : UInt8), (115 : UInt8), (117 : UInt8), (114 : UInt8), (101 : UInt8)])), Array.toList (ByteArray.data (ByteArray.mk #[(114 : UInt8), (101 : UInt8), (115 : UInt8), (101 : UInt8), (116 : UInt8)]))] (Prod.fst o)) fun y =>
  bnd (W.R_opText.c212293 y (Prod.fst o) (Prod.fst (Prod.snd o)) some) fun y_1 =>
  bnd (W.R_opText.c220485 y_1 (Prod.fst o) (Prod.fst (Prod.snd (Prod.snd (Prod.snd o)))) some) fun y_2 =>
  bnd (W.R_opText.c228677 y_2 (Prod.fst (Prod.snd (Prod.snd o))) some) fun y_3 =>
  bnd (iter (fun s ↦ W.R_opText.c100010 (Prod.fst s) (Prod.snd s) (Prod.fst (Prod.snd (Prod.snd o))) some) (y_3, (0 : Int))) fun y_4 =>
  bnd (W.R_opText.c253253 (Prod.fst y_4) (Prod.fst o) (Prod.fst (Prod.snd (Prod.snd (Prod.snd (Prod.snd o))))) some) fun y_5 =>
  bnd (W.R_opText.c261445 y_5 (Prod.snd (Prod.snd (Prod.snd (Prod.snd (Prod.snd o))))) some) fun y_6 =>
  bnd (iter (fun s ↦ W.R_opText.c100018 (Prod.fst s) (Prod.snd s) (Prod.snd (Prod.snd (Prod.snd (Prod.snd (Prod.snd o))))) some) (y_6, (0 : Int))) fun y_7 =>
  bnd (okIf (decide (List.length (Prod.fst y_7) + List.length (Array.toList (ByteArray.data (ByteArray.mk #[(10 : UInt8)]))) ≤ (9223372036854775807 : Nat)))) fun y_8 =>
  some (Prod.fst y_7 ++ Array.toList (ByteArray.data (ByteArray.mk #[(10 : UInt8)])))
def R_opText.ce : Go.Ql.Callee := ⟨[(.st (.pair (.int .i64) (.pair (.int .i64) (.pair (.sl (.int .i64)) (.pair (.int .i64) (.pair (.int .i64) (.sl (.int .i64))))))))], [.str], fun x_ => R_opText x_⟩
def R_opText.G : Env := ⟨109, tab, [(58, R_num.ce)], [0, 1, 2, 3, 4, 5, 6, 20, 29, 39, 46, 60, 70, 77, 85], [], [], [(100018, R_opText.c100018r), (281926, R_opText.c281926r), (261445, R_opText.c261445r), (253253, R_opText.c253253r), (100010, R_opText.c100010r), (228677, R_opText.c228677r), (220485, R_opText.c220485r), (212293, R_opText.c212293r), (3, R_opText.c3r)], [], tab_eqs⟩
theorem R_opText.eq (x_ : dens [(.st (.pair (.int .i64) (.pair (.int .i64) (.pair (.sl (.int .i64)) (.pair (.int .i64) (.pair (.int .i64) (.sl (.int .i64))))))))]) : den R_opText.G Go.Proofs.Tryd.f59 [(.st (.pair (.int .i64) (.pair (.int .i64) (.pair (.sl (.int .i64)) (.pair (.int .i64) (.pair (.int .i64) (.sl (.int .i64))))))))] [.str] x_ = R_opText x_ := by kernel_rfl
theorem R_opText.p0 : PieceOk R_opText.G (pieceAt (pieces R_opText.G.cks (bodyOf Go.Proofs.Tryd.f59)) 0).1 (pieceAt (pieces R_opText.G.cks (bodyOf Go.Proofs.Tryd.f59)) 0).2 :=
  join_ok (s := R_opText.c212293r) (by kernel_rfl) (by kernel_rfl) (sums_of (sh := R_opText.c212293s) (fun ρ x_ k_ => (nat_bnd fun _ => (nat_br (nat_bnd fun _ => (nat_bnd fun _ => (nat_bnd fun _ => nat_leaf))) nat_leaf))) (fun ρ x_ t k => (by kernel_rfl)) (fun x_ => by kernel_rfl))
theorem R_opText.p1 : PieceOk R_opText.G (pieceAt (pieces R_opText.G.cks (bodyOf Go.Proofs.Tryd.f59)) 1).1 (pieceAt (pieces R_opText.G.cks (bodyOf Go.Proofs.Tryd.f59)) 1).2 :=
  region_ok (s := R_opText.c3r) (by kernel_rfl) (by kernel_rfl) (sums_of (sh := R_opText.c3s) (fun ρ x_ k_ => (nat_br nat_leaf nat_leaf)) (fun ρ x_ t k => (by kernel_rfl)) (fun x_ => by kernel_rfl))
theorem R_opText.p2 : PieceOk R_opText.G (pieceAt (pieces R_opText.G.cks (bodyOf Go.Proofs.Tryd.f59)) 2).1 (pieceAt (pieces R_opText.G.cks (bodyOf Go.Proofs.Tryd.f59)) 2).2 :=
  join_ok (s := R_opText.c220485r) (by kernel_rfl) (by kernel_rfl) (sums_of (sh := R_opText.c220485s) (fun ρ x_ k_ => (nat_br (nat_bnd fun _ => (nat_bnd fun _ => (nat_bnd fun _ => nat_leaf))) nat_leaf)) (fun ρ x_ t k => (by kernel_rfl)) (fun x_ => by kernel_rfl))
theorem R_opText.p3 : PieceOk R_opText.G (pieceAt (pieces R_opText.G.cks (bodyOf Go.Proofs.Tryd.f59)) 3).1 (pieceAt (pieces R_opText.G.cks (bodyOf Go.Proofs.Tryd.f59)) 3).2 :=
  join_ok (s := R_opText.c228677r) (by kernel_rfl) (by kernel_rfl) (sums_of (sh := R_opText.c228677s) (fun ρ x_ k_ => (nat_br (nat_bnd fun _ => nat_leaf) nat_leaf)) (fun ρ x_ t k => (by kernel_rfl)) (fun x_ => by kernel_rfl))
theorem R_opText.p4 : PieceOk R_opText.G (pieceAt (pieces R_opText.G.cks (bodyOf Go.Proofs.Tryd.f59)) 4).1 (pieceAt (pieces R_opText.G.cks (bodyOf Go.Proofs.Tryd.f59)) 4).2 :=
  loop_ok (s := R_opText.c100010r) (by kernel_rfl) (by kernel_rfl) (loops_of (sh := R_opText.c100010s) (I := fun x_ s_ => (x_.1, x_.2.1, x_.2.2.1, s_.1, s_.2, x_.2.2.2.2.2.1, x_.2.2.2.2.2.2.1, x_.2.2.2.2.2.2.2.1, x_.2.2.2.2.2.2.2.2.1, x_.2.2.2.2.2.2.2.2.2.1, x_.2.2.2.2.2.2.2.2.2.2.1, ())) (fun x_ => rfl) (fun ρ x_ s_ k_ => (nat_br (nat_bnd fun _ => (nat_bnd fun _ => (nat_bnd fun _ => (nat_bnd fun _ => nat_leaf)))) nat_leaf)) (fun ρ x_ t k => (by kernel_rfl)) (fun x_ s => by kernel_rfl))
theorem R_opText.p5 : PieceOk R_opText.G (pieceAt (pieces R_opText.G.cks (bodyOf Go.Proofs.Tryd.f59)) 5).1 (pieceAt (pieces R_opText.G.cks (bodyOf Go.Proofs.Tryd.f59)) 5).2 :=
  join_ok (s := R_opText.c253253r) (by kernel_rfl) (by kernel_rfl) (sums_of (sh := R_opText.c253253s) (fun ρ x_ k_ => (nat_br (nat_bnd fun _ => (nat_bnd fun _ => (nat_bnd fun _ => nat_leaf))) nat_leaf)) (fun ρ x_ t k => (by kernel_rfl)) (fun x_ => by kernel_rfl))
theorem R_opText.p6 : PieceOk R_opText.G (pieceAt (pieces R_opText.G.cks (bodyOf Go.Proofs.Tryd.f59)) 6).1 (pieceAt (pieces R_opText.G.cks (bodyOf Go.Proofs.Tryd.f59)) 6).2 :=
  join_ok (s := R_opText.c261445r) (by kernel_rfl) (by kernel_rfl) (sums_of (sh := R_opText.c261445s) (fun ρ x_ k_ => (nat_br (nat_bnd fun _ => nat_leaf) nat_leaf)) (fun ρ x_ t k => (by kernel_rfl)) (fun x_ => by kernel_rfl))
theorem R_opText.p7 : PieceOk R_opText.G (pieceAt (pieces R_opText.G.cks (bodyOf Go.Proofs.Tryd.f59)) 7).1 (pieceAt (pieces R_opText.G.cks (bodyOf Go.Proofs.Tryd.f59)) 7).2 :=
  loop_ok (s := R_opText.c100018r) (by kernel_rfl) (by kernel_rfl) (loops_of (sh := R_opText.c100018s) (I := fun x_ s_ => (x_.1, x_.2.1, x_.2.2.1, s_.1, x_.2.2.2.2.1, s_.2, x_.2.2.2.2.2.2.1, x_.2.2.2.2.2.2.2.1, x_.2.2.2.2.2.2.2.2.1, x_.2.2.2.2.2.2.2.2.2.1, x_.2.2.2.2.2.2.2.2.2.2.1, x_.2.2.2.2.2.2.2.2.2.2.2.1, ())) (fun x_ => rfl) (fun ρ x_ s_ k_ => (nat_br (nat_bnd fun _ => nat_leaf) nat_leaf)) (fun ρ x_ t k => (by kernel_rfl)) (fun x_ s => by kernel_rfl))
theorem R_opText.p8 : PieceOk R_opText.G (pieceAt (pieces R_opText.G.cks (bodyOf Go.Proofs.Tryd.f59)) 8).1 (pieceAt (pieces R_opText.G.cks (bodyOf Go.Proofs.Tryd.f59)) 8).2 :=
  join_ok (s := R_opText.c281926r) (by kernel_rfl) (by kernel_rfl) (sums_of (sh := R_opText.c281926s) (fun ρ x_ k_ => (nat_bnd fun _ => (nat_br (nat_bnd fun _ => (nat_bnd fun _ => (nat_bnd fun _ => (nat_bnd fun _ => nat_leaf)))) (nat_bnd fun _ => (nat_bnd fun _ => (nat_bnd fun _ => (nat_bnd fun _ => nat_leaf))))))) (fun ρ x_ t k => (by kernel_rfl)) (fun x_ => by kernel_rfl))
theorem R_opText.ok : CalleeOk Go.Proofs.Tryd.prog 59 R_opText.ce := fn_ok (G := R_opText.G) tab_ok mixed Go.Proofs.Tryd.func59 ⟨(fns_cons R_num.ok fns_nil), mfns_nil, tab_eqs_ok⟩ (m := 9) (by kernel_rfl) ⟨⟨⟨⟨⟨⟨⟨⟨⟨trivial, R_opText.p0⟩, R_opText.p1⟩, R_opText.p2⟩, R_opText.p3⟩, R_opText.p4⟩, R_opText.p5⟩, R_opText.p6⟩, R_opText.p7⟩, R_opText.p8⟩ (by kernel_rfl) R_opText.eq
abbrev qc37 : SO := .box [.val (.int .i64), .val (.int .i64), .own 3006 0]
def R_Parse.c224583 {ρ : Type} (ws : List (List UInt8)) (c0 : Int) (c1 : Int) (k_ : (Int) × (Int) → Option ρ) : Option ρ :=
  br ((↑(List.length ws) : Int) == (4 : Int))
   (bnd (idx ws (1 : Int)) fun y =>
    bnd (W.R_figure y) fun y_1 =>
    bnd (idx ws (3 : Int)) fun y_2 =>
    bnd (W.R_figure y_2) fun y_3 =>
    k_ (y_1, y_3))
   (k_ (c0, c1))
def R_Parse.c224583s : Shape := ⟨[(0, qc22), (2, qc4), (3, qc5), (4, qc24), (5, qc24), (6, qc12)], [(2, qc7), (3, qc13), (6, qc37), (3006, qc2)]⟩
def R_Parse.c224583x0 : Shape := ⟨[(0, qc22), (2, qc4), (3, qc5), (4, qc24), (5, qc24), (6, qc12)], [(2, qc7), (3, qc13), (6, qc37), (3006, qc2)]⟩
def R_Parse.c224583r : Ck := Ck.of (T := (Int) × (Int)) R_Parse.c224583s (fun ρ x_ k_ => uP x_ fun text x_ => uP x_ fun lines x_ => uP x_ fun ws x_ => uP x_ fun t20 x_ => uP x_ fun t21 x_ => uP x_ fun t22 x_ => uP x_ fun t30 x_ => uP x_ fun t31 x_ => uP x_ fun c0 x_ => uP x_ fun c1 x_ => uP x_ fun t3006 x_ => R_Parse.c224583 ws c0 c1 k_) (fun ρ x_ r_ k_ => uP x_ fun text x_ => uP x_ fun lines x_ => uP x_ fun ws x_ => uP x_ fun t20 x_ => uP x_ fun t21 x_ => uP x_ fun t22 x_ => uP x_ fun t30 x_ => uP x_ fun t31 x_ => uP x_ fun c0 x_ => uP x_ fun c1 x_ => uP x_ fun t3006 x_ => k_ 0 (Shape.inj R_Parse.c224583x0 (text, lines, ws, t20, t21, t22, t30, t31, r_.1, r_.2, t3006, ())))
def R_Parse.c9 {ρ : Type} (lines : List (List UInt8)) (c0 : Int) (c1 : Int) (k_ : Bool → Option ρ) : Option ρ :=
  bnd (idx lines (0 : Int)) fun y =>
  bnd (W.R_num c0) fun y_1 =>
  bnd (okIf (decide (List.length (Array.toList (ByteArray.data (ByteArray.mk #[(113 : UInt8), (117 : UInt8), (98 : UInt8), (105 : UInt8), (116 : UInt8), (115 : UInt8), (32 : UInt8)]))) + List.length y_1 ≤ (9223372036854775807 : Nat)))) fun y_2 =>
  bnd (okIf (decide (List.length (Array.toList (ByteArray.data (ByteArray.mk #[(113 : UInt8), (117 : UInt8), (98 : UInt8), (105 : UInt8), (116 : UInt8), (115 : UInt8), (32 : UInt8)])) ++ y_1) + List.length (Array.toList (ByteArray.data (ByteArray.mk #[(32 : UInt8), (98 : UInt8), (105 : UInt8), (116 : UInt8), (115 : UInt8), (32 : UInt8)]))) ≤ (9223372036854775807 : Nat)))) fun y_3 =>
  bnd (W.R_num c1) fun y_4 =>
  bnd (okIf (decide (List.length (Array.toList (ByteArray.data (ByteArray.mk #[(113 : UInt8), (117 : UInt8), (98 : UInt8), (105 : UInt8), (116 : UInt8), (115 : UInt8), (32 : UInt8)])) ++ y_1 ++ Array.toList (ByteArray.data (ByteArray.mk #[(32 : UInt8), (98 : UInt8), (105 : UInt8), (116 : UInt8), (115 : UInt8), (32 : UInt8)]))) + List.length y_4 ≤ (9223372036854775807 : Nat)))) fun y_5 =>
  br (!y == Array.toList (ByteArray.data (ByteArray.mk #[(113 : UInt8), (117 : UInt8), (98 : UInt8), (105 : UInt8), (116 : UInt8), (115 : UInt8), (32 : UInt8)])) ++ y_1 ++ Array.toList (ByteArray.data (ByteArray.mk #[(32 : UInt8), (98 : UInt8), (105 : UInt8), (116 : UInt8), (115 : UInt8), (32 : UInt8)])) ++ y_4)
   (k_ true)
   (k_ ((↑(List.length lines) : Int) == (1 : Int)))
def R_Parse.c9s : Shape := ⟨[(0, qc22), (2, qc4), (3, qc5), (4, qc24), (5, qc24), (6, qc12)], [(2, qc7), (3, qc13), (6, qc37), (3006, qc2)]⟩
def R_Parse.c9x0 : Shape := ⟨[(0, qc22), (2, qc4), (3, qc5), (4, qc24), (5, qc24), (6, qc12), (52, qc14)], [(2, qc7), (3, qc13), (6, qc37), (3006, qc2)]⟩
def R_Parse.c9r : Ck := Ck.of (T := Bool) R_Parse.c9s (fun ρ x_ k_ => uP x_ fun text x_ => uP x_ fun lines x_ => uP x_ fun ws x_ => uP x_ fun t20 x_ => uP x_ fun t21 x_ => uP x_ fun t22 x_ => uP x_ fun t30 x_ => uP x_ fun t31 x_ => uP x_ fun c0 x_ => uP x_ fun c1 x_ => uP x_ fun t3006 x_ => R_Parse.c9 lines c0 c1 k_) (fun ρ x_ r_ k_ => uP x_ fun text x_ => uP x_ fun lines x_ => uP x_ fun ws x_ => uP x_ fun t20 x_ => uP x_ fun t21 x_ => uP x_ fun t22 x_ => uP x_ fun t30 x_ => uP x_ fun t31 x_ => uP x_ fun c0 x_ => uP x_ fun c1 x_ => uP x_ fun t3006 x_ => k_ 0 (Shape.inj R_Parse.c9x0 (text, lines, ws, r_, t20, t21, t22, t30, t31, c0, c1, t3006, ())))
def R_Parse.c14 {ρ : Type} (lines : List (List UInt8)) (i : Int) (k_ : Bool → Option ρ) : Option ρ :=
  br (i == IntKind.wrap IntKind.i64 ((↑(List.length lines) : Int) - (1 : Int)))
   (bnd (idx lines i) fun y =>
    k_ (y == Array.toList (ByteArray.data (ByteArray.mk #[]))))
   (k_ false)
def R_Parse.c14s : Shape := ⟨[(0, qc22), (2, qc4), (3, qc5), (4, qc24), (5, qc24), (6, qc12), (7, qc6)], [(2, qc7), (3, qc13), (6, qc37), (3006, qc2)]⟩
def R_Parse.c14x0 : Shape := ⟨[(0, qc22), (2, qc4), (3, qc5), (4, qc24), (5, qc24), (6, qc12), (7, qc6), (72, qc14)], [(2, qc7), (3, qc13), (6, qc37), (3006, qc2)]⟩
def R_Parse.c14r : Ck := Ck.of (T := Bool) R_Parse.c14s (fun ρ x_ k_ => uP x_ fun text x_ => uP x_ fun lines x_ => uP x_ fun ws x_ => uP x_ fun i x_ => uP x_ fun t20 x_ => uP x_ fun t21 x_ => uP x_ fun t22 x_ => uP x_ fun t30 x_ => uP x_ fun t31 x_ => uP x_ fun c0 x_ => uP x_ fun c1 x_ => uP x_ fun t3006 x_ => R_Parse.c14 lines i k_) (fun ρ x_ r_ k_ => uP x_ fun text x_ => uP x_ fun lines x_ => uP x_ fun ws x_ => uP x_ fun i x_ => uP x_ fun t20 x_ => uP x_ fun t21 x_ => uP x_ fun t22 x_ => uP x_ fun t30 x_ => uP x_ fun t31 x_ => uP x_ fun c0 x_ => uP x_ fun c1 x_ => uP x_ fun t3006 x_ => k_ 0 (Shape.inj R_Parse.c14x0 (text, lines, ws, i, r_, t20, t21, t22, t30, t31, c0, c1, t3006, ())))
def R_Parse.c16 {ρ : Type} (lines : List (List UInt8)) (i : Int) (o0 : Int) (o1 : Int) (o2 : List (Int)) (o3 : Int) (o4 : Int) (o5 : List (Int)) (k_ : Bool → Option ρ) : Option ρ :=
  br (o0 != (2 : Int))
   (br (o0 != (3 : Int))
     (br (o0 != (4 : Int))
       (br (decide ((↑(List.length o2) : Int) > (0 : Int)))
         (k_ true)
         (bnd (W.R_opText (o0, o1, o2, o3, o4, o5)) fun y =>
          bnd (idx lines i) fun y_1 =>
          bnd (okIf (decide (List.length y_1 + List.length (Array.toList (ByteArray.data (ByteArray.mk #[(10 : UInt8)]))) ≤ (9223372036854775807 : Nat)))) fun y_2 =>
          br (!y == y_1 ++ Array.toList (ByteArray.data (ByteArray.mk #[(10 : UInt8)])))
           (k_ true)
           (k_ (i == IntKind.wrap IntKind.i64 ((↑(List.length lines) : Int) - (1 : Int))))))
       (bnd (W.R_opText (o0, o1, o2, o3, o4, o5)) fun y_3 =>
        bnd (idx lines i) fun y_4 =>
        bnd (okIf (decide (List.length y_4 + List.length (Array.toList (ByteArray.data (ByteArray.mk #[(10 : UInt8)]))) ≤ (9223372036854775807 : Nat)))) fun y_5 =>
        br (!y_3 == y_4 ++ Array.toList (ByteArray.data (ByteArray.mk #[(10 : UInt8)])))
         (k_ true)
         (k_ (i == IntKind.wrap IntKind.i64 ((↑(List.length lines) : Int) - (1 : Int))))))
     (bnd (W.R_opText (o0, o1, o2, o3, o4, o5)) fun y_6 =>
      bnd (idx lines i) fun y_7 =>
      bnd (okIf (decide (List.length y_7 + List.length (Array.toList (ByteArray.data (ByteArray.mk #[(10 : UInt8)]))) ≤ (9223372036854775807 : Nat)))) fun y_8 =>
      br (!y_6 == y_7 ++ Array.toList (ByteArray.data (ByteArray.mk #[(10 : UInt8)])))
       (k_ true)
       (k_ (i == IntKind.wrap IntKind.i64 ((↑(List.length lines) : Int) - (1 : Int))))))
   (bnd (W.R_opText (o0, o1, o2, o3, o4, o5)) fun y_9 =>
    bnd (idx lines i) fun y_10 =>
    bnd (okIf (decide (List.length y_10 + List.length (Array.toList (ByteArray.data (ByteArray.mk #[(10 : UInt8)]))) ≤ (9223372036854775807 : Nat)))) fun y_11 =>
    br (!y_9 == y_10 ++ Array.toList (ByteArray.data (ByteArray.mk #[(10 : UInt8)])))
     (k_ true)
     (k_ (i == IntKind.wrap IntKind.i64 ((↑(List.length lines) : Int) - (1 : Int)))))
def R_Parse.c16s : Shape := ⟨[(0, qc22), (2, qc4), (3, qc5), (4, qc24), (5, qc24), (6, qc12), (7, qc6), (8, qc17)], [(2, qc7), (3, qc13), (6, qc37), (8, qc21), (3006, qc2)]⟩
def R_Parse.c16x0 : Shape := ⟨[(0, qc22), (2, qc4), (3, qc5), (4, qc24), (5, qc24), (6, qc12), (7, qc6), (8, qc17), (113, qc14)], [(2, qc7), (3, qc13), (6, qc37), (8, qc21), (3006, qc2)]⟩
def R_Parse.c16r : Ck := Ck.of (T := Bool) R_Parse.c16s (fun ρ x_ k_ => uP x_ fun text x_ => uP x_ fun lines x_ => uP x_ fun ws x_ => uP x_ fun i x_ => uP x_ fun t20 x_ => uP x_ fun t21 x_ => uP x_ fun t22 x_ => uP x_ fun t30 x_ => uP x_ fun t31 x_ => uP x_ fun c0 x_ => uP x_ fun c1 x_ => uP x_ fun o0 x_ => uP x_ fun o1 x_ => uP x_ fun o2 x_ => uP x_ fun o3 x_ => uP x_ fun o4 x_ => uP x_ fun o5 x_ => uP x_ fun t3006 x_ => R_Parse.c16 lines i o0 o1 o2 o3 o4 o5 k_) (fun ρ x_ r_ k_ => uP x_ fun text x_ => uP x_ fun lines x_ => uP x_ fun ws x_ => uP x_ fun i x_ => uP x_ fun t20 x_ => uP x_ fun t21 x_ => uP x_ fun t22 x_ => uP x_ fun t30 x_ => uP x_ fun t31 x_ => uP x_ fun c0 x_ => uP x_ fun c1 x_ => uP x_ fun o0 x_ => uP x_ fun o1 x_ => uP x_ fun o2 x_ => uP x_ fun o3 x_ => uP x_ fun o4 x_ => uP x_ fun o5 x_ => uP x_ fun t3006 x_ => k_ 0 (Shape.inj R_Parse.c16x0 (text, lines, ws, i, r_, t20, t21, t22, t30, t31, c0, c1, o0, o1, o2, o3, o4, o5, t3006, ())))
def R_Parse.c100012 {ρ : Type} (lines : List (List UInt8)) (i : Int) (t3006 : List ((Int) × ((Int) × ((List Int) × ((Int) × ((Int) × (List Int))))))) (k_ : ((Int) × (List ((Int) × ((Int) × ((List Int) × ((Int) × ((Int) × (List Int)))))))) ⊕ (((Int) × (List ((Int) × ((Int) × ((List Int) × ((Int) × ((Int) × (List Int)))))))) ⊕ ((Int) × (Int) × (Int) × (List ((Int) × ((Int) × ((List Int) × ((Int) × ((Int) × (List Int))))))))) → Option ρ) : Option ρ :=
  br (decide (i < (↑(List.length lines) : Int)))
   (bnd (W.R_Parse.c14 lines i some) fun y =>
    br y
     (k_ (.inr (.inl (i, t3006))))
     (bnd (idx lines i) fun y_1 =>
      bnd (W.R_loose y_1) fun y_2 =>
      bnd (W.R_Parse.c16 lines i (Prod.fst y_2) (Prod.fst (Prod.snd y_2)) (Prod.fst (Prod.snd (Prod.snd y_2))) (Prod.fst (Prod.snd (Prod.snd (Prod.snd y_2)))) (Prod.fst (Prod.snd (Prod.snd (Prod.snd (Prod.snd y_2))))) (Prod.snd (Prod.snd (Prod.snd (Prod.snd (Prod.snd y_2))))) some) fun y_3 =>
      br y_3
       (bnd (W.R_rfault (1 : Int) i) fun y_4 =>
        k_ (.inr (.inr (i, (Prod.fst y_4), (Prod.snd y_4), t3006))))
       (bnd (okIf (decide ((List.length t3006 + (1 : Nat)) * (80 : Nat) ≤ (140737488355328 : Nat)) && decide (List.length t3006 + (1 : Nat) ≤ (140737488355328 : Nat)))) fun y_5 =>
        k_ (.inl ((IntKind.wrap IntKind.i64 (i + (1 : Int))), (t3006 ++ [(Prod.fst y_2, Prod.fst (Prod.snd y_2), Prod.fst (Prod.snd (Prod.snd y_2)), Prod.fst (Prod.snd (Prod.snd (Prod.snd y_2))), Prod.fst (Prod.snd (Prod.snd (Prod.snd (Prod.snd y_2)))), Prod.snd (Prod.snd (Prod.snd (Prod.snd (Prod.snd y_2)))))]))))))
   (k_ (.inr (.inl (i, t3006))))
def R_Parse.c100012s : Shape := ⟨[(0, qc22), (2, qc4), (3, qc5), (4, qc24), (5, qc24), (6, qc12), (7, qc6)], [(2, qc7), (3, qc13), (6, qc37), (3006, qc2)]⟩
def R_Parse.c100012x0 : Shape := ⟨[(0, qc22), (2, qc4), (3, qc5), (4, qc24), (5, qc24), (6, qc12), (7, qc6)], [(2, qc7), (3, qc13), (6, qc37), (3006, qc2)]⟩
def R_Parse.c100012x1 : Shape := ⟨[(0, qc22), (2, qc4), (3, qc5), (4, qc24), (5, qc24), (6, qc12), (7, qc6)], [(2, qc7), (3, qc13), (6, qc37), (3006, qc2)]⟩
def R_Parse.c100012r : Ck := Ck.ofLoop (S := (Int) × (List ((Int) × ((Int) × ((List Int) × ((Int) × ((Int) × (List Int)))))))) (T := ((Int) × (List ((Int) × ((Int) × ((List Int) × ((Int) × ((Int) × (List Int)))))))) ⊕ ((Int) × (Int) × (Int) × (List ((Int) × ((Int) × ((List Int) × ((Int) × ((Int) × (List Int))))))))) R_Parse.c100012s (fun x_ => uP x_ fun text x_ => uP x_ fun lines x_ => uP x_ fun ws x_ => uP x_ fun i x_ => uP x_ fun t20 x_ => uP x_ fun t21 x_ => uP x_ fun t22 x_ => uP x_ fun t30 x_ => uP x_ fun t31 x_ => uP x_ fun c0 x_ => uP x_ fun c1 x_ => uP x_ fun t3006 x_ => (i, t3006)) (fun ρ x_ s_ k_ => uP x_ fun text x_ => uP x_ fun lines x_ => uP x_ fun ws x_ => uP x_ fun i x_ => uP x_ fun t20 x_ => uP x_ fun t21 x_ => uP x_ fun t22 x_ => uP x_ fun t30 x_ => uP x_ fun t31 x_ => uP x_ fun c0 x_ => uP x_ fun c1 x_ => uP x_ fun t3006 x_ => R_Parse.c100012 lines s_.1 s_.2 k_) (fun ρ x_ r_ k_ => uP x_ fun text x_ => uP x_ fun lines x_ => uP x_ fun ws x_ => uP x_ fun i x_ => uP x_ fun t20 x_ => uP x_ fun t21 x_ => uP x_ fun t22 x_ => uP x_ fun t30 x_ => uP x_ fun t31 x_ => uP x_ fun c0 x_ => uP x_ fun c1 x_ => uP x_ fun t3006 x_ => sel r_ (fun r_ => k_ 2 (Shape.inj R_Parse.c100012x0 (text, lines, ws, r_.1, t20, t21, t22, t30, t31, c0, c1, r_.2, ()))) (fun r_ => k_ 1 (Shape.inj R_Parse.c100012x1 (text, lines, ws, r_.1, (0 : Int), (0 : Int), [], r_.2.1, r_.2.2.1, c0, c1, r_.2.2.2, ()))))
def R_Parse.c21 {ρ : Type}  (k_ : Unit → Option ρ) : Option ρ :=
  k_ ()
def R_Parse.c21s : Shape := ⟨[(0, qc22), (2, qc4), (3, qc5), (4, qc24), (5, qc24), (6, qc12), (7, qc6), (9, qc18)], [(2, qc7), (3, qc13), (6, qc37), (9, qc13), (3006, qc2)]⟩
def R_Parse.c21x0 : Shape := ⟨[(0, qc22), (2, qc4), (3, qc5), (4, qc24), (5, qc24), (6, qc12), (7, qc6), (9, qc18)], [(2, qc7), (3, qc13), (6, qc37), (9, qc13), (3006, qc2)]⟩
def R_Parse.c21r : Ck := Ck.of (T := Unit) R_Parse.c21s (fun ρ x_ k_ => uP x_ fun text x_ => uP x_ fun lines x_ => uP x_ fun ws x_ => uP x_ fun i x_ => uP x_ fun t20 x_ => uP x_ fun t21 x_ => uP x_ fun t22 x_ => uP x_ fun t30 x_ => uP x_ fun t31 x_ => uP x_ fun c0 x_ => uP x_ fun c1 x_ => uP x_ fun f0 x_ => uP x_ fun f1 x_ => uP x_ fun t3006 x_ => R_Parse.c21  k_) (fun ρ x_ r_ k_ => uP x_ fun text x_ => uP x_ fun lines x_ => uP x_ fun ws x_ => uP x_ fun i x_ => uP x_ fun t20 x_ => uP x_ fun t21 x_ => uP x_ fun t22 x_ => uP x_ fun t30 x_ => uP x_ fun t31 x_ => uP x_ fun c0 x_ => uP x_ fun c1 x_ => uP x_ fun f0 x_ => uP x_ fun f1 x_ => uP x_ fun t3006 x_ => k_ 0 (Shape.inj R_Parse.c21x0 (text, lines, ws, i, (0 : Int), (0 : Int), [], f0, f1, c0, c1, f0, f1, t3006, ())))
def R_Parse.c22 {ρ : Type}  (k_ : Unit → Option ρ) : Option ρ :=
  k_ ()
def R_Parse.c22s : Shape := ⟨[(0, qc22), (2, qc4), (3, qc5), (4, qc24), (5, qc24), (6, qc12), (7, qc6), (9, qc18)], [(2, qc7), (3, qc13), (6, qc37), (9, qc13), (3006, qc2)]⟩
def R_Parse.c22x0 : Shape := ⟨[(0, qc22), (2, qc4), (3, qc5), (4, qc24), (5, qc24), (6, qc12), (7, qc6), (9, qc18)], [(2, qc37), (3, qc13), (6, qc37), (9, qc13), (3006, qc2)]⟩
def R_Parse.c22r : Ck := Ck.of (T := Unit) R_Parse.c22s (fun ρ x_ k_ => uP x_ fun text x_ => uP x_ fun lines x_ => uP x_ fun ws x_ => uP x_ fun i x_ => uP x_ fun t20 x_ => uP x_ fun t21 x_ => uP x_ fun t22 x_ => uP x_ fun t30 x_ => uP x_ fun t31 x_ => uP x_ fun c0 x_ => uP x_ fun c1 x_ => uP x_ fun f0 x_ => uP x_ fun f1 x_ => uP x_ fun t3006 x_ => R_Parse.c22  k_) (fun ρ x_ r_ k_ => uP x_ fun text x_ => uP x_ fun lines x_ => uP x_ fun ws x_ => uP x_ fun i x_ => uP x_ fun t20 x_ => uP x_ fun t21 x_ => uP x_ fun t22 x_ => uP x_ fun t30 x_ => uP x_ fun t31 x_ => uP x_ fun c0 x_ => uP x_ fun c1 x_ => uP x_ fun f0 x_ => uP x_ fun f1 x_ => uP x_ fun t3006 x_ => k_ 0 (Shape.inj R_Parse.c22x0 (text, lines, ws, i, c0, c1, f0, f1, c0, c1, f0, f1, t3006, ())))
def R_Parse (text : List UInt8) : Option (((Int) × ((Int) × (List ((Int) × ((Int) × ((List Int) × ((Int) × ((Int) × (List Int))))))))) × ((Int) × (Int))) :=
  br (decide ((↑(List.length text) : Int) > (1000000 : Int)))
   (bnd (W.R_rfault (2 : Int) (0 : Int)) fun y =>
    some (((0 : Int), (0 : Int), []), Prod.fst y, Prod.snd y))
   (bnd (W.R_split text (10 : Int)) fun y_1 =>
    bnd (idx y_1 (0 : Int)) fun y_2 =>
    bnd (W.R_split y_2 (32 : Int)) fun y_3 =>
    bnd (W.R_Parse.c224583 y_3 (0 : Int) (0 : Int) some) fun y_4 =>
    bnd (W.R_Parse.c9 y_1 (Prod.fst y_4) (Prod.snd y_4) some) fun y_5 =>
    br y_5
     (bnd (W.R_rfault (1 : Int) (0 : Int)) fun y_6 =>
      some (((0 : Int), (0 : Int), []), Prod.fst y_6, Prod.snd y_6))
     (bnd (iter (fun s ↦ W.R_Parse.c100012 y_1 (Prod.fst s) (Prod.snd s) some) ((1 : Int), [])) fun y_7 =>
      sel y_7
       (fun u => bnd (W.R_Check (Prod.fst y_4, Prod.snd y_4, Prod.snd u)) fun y_8 =>
        br (Prod.fst y_8 != (0 : Int))
         (bnd (W.R_Parse.c21 some) fun y_9 =>
          some (((0 : Int), (0 : Int), []), Prod.fst y_8, Prod.snd y_8))
         (bnd (W.R_Parse.c22 some) fun y_10 =>
          some ((Prod.fst y_4, Prod.snd y_4, Prod.snd u), Prod.fst y_8, Prod.snd y_8)))
       (fun v => some (((0 : Int), (0 : Int), []), Prod.fst (Prod.snd v), Prod.fst (Prod.snd (Prod.snd v))))))
def R_Parse.ce : Go.Ql.Callee := ⟨[.str], [(.st (.pair (.int .i64) (.pair (.int .i64) (.sl (.st (.pair (.int .i64) (.pair (.int .i64) (.pair (.sl (.int .i64)) (.pair (.int .i64) (.pair (.int .i64) (.sl (.int .i64)))))))))))), (.st (.pair (.int .i64) (.int .i64)))], fun x_ => R_Parse x_⟩
def R_Parse.G : Env := ⟨132, tab, [(42, R_rfault.ce), (64, R_split.ce), (65, R_figure.ce), (58, R_num.ce), (66, R_loose.ce), (59, R_opText.ce), (15, R_Check.ce)], [0, 2, 3, 4, 5, 6, 7, 8, 9, 12, 24, 52, 58, 72, 113, 127], [6, 21, 3006], [(22, [⟨[], [], [131], []⟩, ⟨[], [], [130], [2]⟩, ⟨[0], [2], [131], []⟩, ⟨[1, 2, 0], [3], [], []⟩]),
  (21, [⟨[], [], [129], []⟩, ⟨[], [], [128], [2]⟩, ⟨[0], [2], [129], []⟩, ⟨[1, 2, 0], [3], [], []⟩]),
  (16, [⟨[], [], [], []⟩, ⟨[0], [], [], []⟩, ⟨[1, 0], [], [], []⟩, ⟨[2, 1, 0], [], [], []⟩, ⟨[3, 2, 1, 0], [], [], []⟩, ⟨[4, 3, 2, 1, 0], [], [], []⟩, ⟨[5, 4, 3, 2, 1, 0], [], [], []⟩, ⟨[3, 2, 1, 0, 6, 5, 4], [], [], []⟩, ⟨[7, 3, 2, 1, 0, 6, 5, 4], [], [], []⟩, ⟨[8, 7, 3, 2, 1, 0, 6, 5, 4], [], [], []⟩, ⟨[9, 8, 7, 3, 2, 1, 0, 6, 5, 4], [], [], []⟩, ⟨[10, 9, 8, 7, 3, 2, 1, 0, 6, 5, 4], [], [], []⟩, ⟨[8, 7, 3, 2, 1, 0, 6, 5, 4, 11, 10, 9], [], [], []⟩, ⟨[12, 8, 7, 3, 2, 1, 0, 6, 5, 4, 11, 10, 9], [], [], []⟩, ⟨[13, 12, 8, 7, 3, 2, 1, 0, 6, 5, 4, 11, 10, 9], [], [], []⟩, ⟨[14, 13, 12, 8, 7, 3, 2, 1, 0, 6, 5, 4, 11, 10, 9], [], [], []⟩, ⟨[15, 14, 13, 12, 8, 7, 3, 2, 1, 0, 6, 5, 4, 11, 10, 9], [], [], []⟩, ⟨[16, 15, 14, 13, 12, 8, 7, 3, 2, 1, 0, 6, 5, 4, 11, 10, 9], [], [], []⟩, ⟨[13, 12, 8, 7, 3, 2, 1, 0, 6, 5, 4, 11, 10, 9, 17, 16, 15, 14], [], [], []⟩, ⟨[18, 13, 12, 8, 7, 3, 2, 1, 0, 6, 5, 4, 11, 10, 9, 17, 16, 15, 14], [], [], []⟩, ⟨[19, 18, 13, 12, 8, 7, 3, 2, 1, 0, 6, 5, 4, 11, 10, 9, 17, 16, 15, 14], [], [100, 101, 102, 103, 104], []⟩, ⟨[20, 19, 18, 13, 12, 8, 7, 3, 2, 1, 0, 6, 5, 4, 11, 10, 9, 17, 16, 15, 14], [], [100, 101, 102, 103, 104], []⟩, ⟨[19, 18, 13, 12, 8, 7, 3, 2, 1, 0, 6, 5, 4, 11, 10, 9, 17, 16, 15, 14], [], [98, 99, 101], []⟩, ⟨[19, 18, 13, 12, 8, 7, 3, 2, 1, 0, 6, 5, 4, 11, 10, 9, 17, 16, 15, 14], [], [98, 99, 100], []⟩, ⟨[22, 19, 18, 13, 12, 8, 7, 3, 2, 1, 0, 6, 5, 4, 11, 10, 9, 17, 16, 15, 14, 23], [], [98, 99], []⟩, ⟨[24, 22, 19, 18, 13, 12, 8, 7, 3, 2, 1, 0, 6, 5, 4, 11, 10, 9, 17, 16, 15, 14, 23], [], [98, 99], []⟩, ⟨[25, 24, 22, 19, 18, 13, 12, 8, 7, 3, 2, 1, 0, 6, 5, 4, 11, 10, 9, 17, 16, 15, 14, 23], [], [98, 99], []⟩, ⟨[21, 20, 19, 18, 13, 12, 8, 7, 3, 2, 1, 0, 6, 5, 4, 11, 10, 9, 17, 16, 15, 14, 26, 25, 24, 22, 23], [], [], []⟩, ⟨[19, 18, 13, 12, 8, 7, 3, 2, 1, 0, 6, 5, 4, 11, 10, 9, 17, 16, 15, 14, 27, 21, 20, 26, 25, 24, 22, 23], [], [], []⟩, ⟨[28, 19, 18, 13, 12, 8, 7, 3, 2, 1, 0, 6, 5, 4, 11, 10, 9, 17, 16, 15, 14, 27, 21, 20, 26, 25, 24, 22, 23], [], [], []⟩, ⟨[29, 28, 19, 18, 13, 12, 8, 7, 3, 2, 1, 0, 6, 5, 4, 11, 10, 9, 17, 16, 15, 14, 27, 21, 20, 26, 25, 24, 22, 23], [], [109, 110, 111], []⟩, ⟨[29, 28, 19, 18, 13, 12, 8, 7, 3, 2, 1, 0, 6, 5, 4, 11, 10, 9, 17, 16, 15, 14, 27, 21, 20, 26, 25, 24, 22, 23], [], [108], []⟩, ⟨[31, 29, 28, 19, 18, 13, 12, 8, 7, 3, 2, 1, 0, 6, 5, 4, 11, 10, 9, 17, 16, 15, 14, 27, 21, 20, 26, 25, 24, 22, 23], [], [108], []⟩, ⟨[32, 31, 29, 28, 19, 18, 13, 12, 8, 7, 3, 2, 1, 0, 6, 5, 4, 11, 10, 9, 17, 16, 15, 14, 27, 21, 20, 26, 25, 24, 22, 23], [], [108], []⟩, ⟨[30, 29, 28, 19, 18, 13, 12, 8, 7, 3, 2, 1, 0, 6, 5, 4, 11, 10, 9, 17, 16, 15, 14, 27, 21, 20, 26, 25, 24, 22, 23, 33, 32, 31], [], [], []⟩, ⟨[29, 28, 19, 18, 13, 12, 8, 7, 3, 2, 1, 0, 6, 5, 4, 11, 10, 9, 17, 16, 15, 14, 27, 21, 20, 26, 25, 24, 22, 23, 34, 30, 33, 32, 31], [], [], []⟩]),
  (9, [⟨[], [], [38, 39, 40, 41, 42, 43, 44, 45, 46], []⟩, ⟨[0], [], [38, 39, 40, 41, 42, 43, 44, 45, 46], []⟩, ⟨[1, 0], [], [38, 39, 40, 41, 42, 43, 44, 45, 46], []⟩, ⟨[], [], [35, 36, 37, 43, 44], []⟩, ⟨[3], [], [35, 36, 37, 43, 44], []⟩, ⟨[4, 3], [], [35, 36, 37, 43, 44], []⟩, ⟨[5, 4, 3], [], [35, 36, 37, 43, 44, 45], []⟩, ⟨[6, 5, 4, 3], [], [35, 36, 37, 43, 44, 45], []⟩, ⟨[], [], [35, 36, 37, 38, 39, 40, 41, 42], []⟩, ⟨[8], [], [35, 36, 37, 38, 39, 40, 41, 42], []⟩, ⟨[9, 8, 5, 4, 3], [], [35, 36, 37, 41, 42], []⟩, ⟨[7, 6, 5, 4, 3, 10, 9, 8], [], [35, 36, 37], []⟩, ⟨[2, 1, 0, 11, 7, 6, 5, 4, 3, 10, 9, 8], [], [], []⟩, ⟨[12, 2, 1, 0, 11, 7, 6, 5, 4, 3, 10, 9, 8], [], [], []⟩, ⟨[13, 12, 2, 1, 0, 11, 7, 6, 5, 4, 3, 10, 9, 8], [], [], []⟩, ⟨[14, 13, 12, 2, 1, 0, 11, 7, 6, 5, 4, 3, 10, 9, 8], [], [], []⟩, ⟨[15, 14, 13, 12, 2, 1, 0, 11, 7, 6, 5, 4, 3, 10, 9, 8], [], [], []⟩, ⟨[13, 12, 2, 1, 0, 11, 7, 6, 5, 4, 3, 10, 9, 8, 16, 15, 14], [], [], []⟩])], [(22, R_Parse.c22r), (21, R_Parse.c21r), (100012, R_Parse.c100012r), (16, R_Parse.c16r), (14, R_Parse.c14r), (9, R_Parse.c9r), (224583, R_Parse.c224583r)], [], tab_eqs⟩
theorem R_Parse.eq (x_ : dens [.str]) : den R_Parse.G Go.Proofs.Tryd.f35 [.str] [(.st (.pair (.int .i64) (.pair (.int .i64) (.sl (.st (.pair (.int .i64) (.pair (.int .i64) (.pair (.sl (.int .i64)) (.pair (.int .i64) (.pair (.int .i64) (.sl (.int .i64)))))))))))), (.st (.pair (.int .i64) (.int .i64)))] x_ = R_Parse x_ := by kernel_rfl
theorem R_Parse.p0 : PieceOk R_Parse.G (pieceAt (pieces R_Parse.G.cks (bodyOf Go.Proofs.Tryd.f35)) 0).1 (pieceAt (pieces R_Parse.G.cks (bodyOf Go.Proofs.Tryd.f35)) 0).2 :=
  join_ok (s := R_Parse.c224583r) (by kernel_rfl) (by kernel_rfl) (sums_of (sh := R_Parse.c224583s) (fun ρ x_ k_ => (nat_br (nat_bnd fun _ => (nat_bnd fun _ => (nat_bnd fun _ => (nat_bnd fun _ => nat_leaf)))) nat_leaf)) (fun ρ x_ t k => (by kernel_rfl)) (fun x_ => by kernel_rfl))
theorem R_Parse.p1 : PieceOk R_Parse.G (pieceAt (pieces R_Parse.G.cks (bodyOf Go.Proofs.Tryd.f35)) 1).1 (pieceAt (pieces R_Parse.G.cks (bodyOf Go.Proofs.Tryd.f35)) 1).2 :=
  region_ok (s := R_Parse.c9r) (by kernel_rfl) (by kernel_rfl) (sums_of (sh := R_Parse.c9s) (fun ρ x_ k_ => (nat_bnd fun _ => (nat_bnd fun _ => (nat_bnd fun _ => (nat_bnd fun _ => (nat_bnd fun _ => (nat_bnd fun _ => (nat_br nat_leaf nat_leaf)))))))) (fun ρ x_ t k => (by kernel_rfl)) (fun x_ => by kernel_rfl))
theorem R_Parse.p2 : PieceOk R_Parse.G (pieceAt (pieces R_Parse.G.cks (bodyOf Go.Proofs.Tryd.f35)) 2).1 (pieceAt (pieces R_Parse.G.cks (bodyOf Go.Proofs.Tryd.f35)) 2).2 :=
  loop_ok (s := R_Parse.c100012r) (by kernel_rfl) (by kernel_rfl) (loops_of (sh := R_Parse.c100012s) (I := fun x_ s_ => (x_.1, x_.2.1, x_.2.2.1, s_.1, x_.2.2.2.2.1, x_.2.2.2.2.2.1, x_.2.2.2.2.2.2.1, x_.2.2.2.2.2.2.2.1, x_.2.2.2.2.2.2.2.2.1, x_.2.2.2.2.2.2.2.2.2.1, x_.2.2.2.2.2.2.2.2.2.2.1, s_.2, ())) (fun x_ => rfl) (fun ρ x_ s_ k_ => (nat_br (nat_bnd fun _ => (nat_br nat_leaf (nat_bnd fun _ => (nat_bnd fun _ => (nat_bnd fun _ => (nat_br (nat_bnd fun _ => nat_leaf) (nat_bnd fun _ => nat_leaf))))))) nat_leaf)) (fun ρ x_ t k => (nat_sel (fun _ => (by kernel_rfl)) (fun _ => (by kernel_rfl)))) (fun x_ s => by kernel_rfl))
theorem R_Parse.p3 : PieceOk R_Parse.G (pieceAt (pieces R_Parse.G.cks (bodyOf Go.Proofs.Tryd.f35)) 3).1 (pieceAt (pieces R_Parse.G.cks (bodyOf Go.Proofs.Tryd.f35)) 3).2 :=
  region_ok (s := R_Parse.c14r) (by kernel_rfl) (by kernel_rfl) (sums_of (sh := R_Parse.c14s) (fun ρ x_ k_ => (nat_br (nat_bnd fun _ => nat_leaf) nat_leaf)) (fun ρ x_ t k => (by kernel_rfl)) (fun x_ => by kernel_rfl))
theorem R_Parse.p4 : PieceOk R_Parse.G (pieceAt (pieces R_Parse.G.cks (bodyOf Go.Proofs.Tryd.f35)) 4).1 (pieceAt (pieces R_Parse.G.cks (bodyOf Go.Proofs.Tryd.f35)) 4).2 :=
  region_ok (s := R_Parse.c16r) (by kernel_rfl) (by kernel_rfl) (sums_of (sh := R_Parse.c16s) (fun ρ x_ k_ => (nat_br (nat_br (nat_br (nat_br nat_leaf (nat_bnd fun _ => (nat_bnd fun _ => (nat_bnd fun _ => (nat_br nat_leaf nat_leaf))))) (nat_bnd fun _ => (nat_bnd fun _ => (nat_bnd fun _ => (nat_br nat_leaf nat_leaf))))) (nat_bnd fun _ => (nat_bnd fun _ => (nat_bnd fun _ => (nat_br nat_leaf nat_leaf))))) (nat_bnd fun _ => (nat_bnd fun _ => (nat_bnd fun _ => (nat_br nat_leaf nat_leaf)))))) (fun ρ x_ t k => (by kernel_rfl)) (fun x_ => by kernel_rfl))
theorem R_Parse.p5 : PieceOk R_Parse.G (pieceAt (pieces R_Parse.G.cks (bodyOf Go.Proofs.Tryd.f35)) 5).1 (pieceAt (pieces R_Parse.G.cks (bodyOf Go.Proofs.Tryd.f35)) 5).2 :=
  region_ok (s := R_Parse.c21r) (by kernel_rfl) (by kernel_rfl) (sums_of (sh := R_Parse.c21s) (fun ρ x_ k_ => nat_leaf) (fun ρ x_ t k => (by kernel_rfl)) (fun x_ => by kernel_rfl))
theorem R_Parse.p6 : PieceOk R_Parse.G (pieceAt (pieces R_Parse.G.cks (bodyOf Go.Proofs.Tryd.f35)) 6).1 (pieceAt (pieces R_Parse.G.cks (bodyOf Go.Proofs.Tryd.f35)) 6).2 :=
  region_ok (s := R_Parse.c22r) (by kernel_rfl) (by kernel_rfl) (sums_of (sh := R_Parse.c22s) (fun ρ x_ k_ => nat_leaf) (fun ρ x_ t k => (by kernel_rfl)) (fun x_ => by kernel_rfl))
theorem R_Parse.ok : CalleeOk Go.Proofs.Tryd.prog 35 R_Parse.ce := fn_ok (G := R_Parse.G) tab_ok mixed Go.Proofs.Tryd.func35 ⟨(fns_cons R_rfault.ok (fns_cons R_split.ok (fns_cons R_figure.ok (fns_cons R_num.ok (fns_cons R_loose.ok (fns_cons R_opText.ok (fns_cons R_Check.ok fns_nil))))))), mfns_nil, tab_eqs_ok⟩ (m := 7) (by kernel_rfl) ⟨⟨⟨⟨⟨⟨⟨trivial, R_Parse.p0⟩, R_Parse.p1⟩, R_Parse.p2⟩, R_Parse.p3⟩, R_Parse.p4⟩, R_Parse.p5⟩, R_Parse.p6⟩ (by kernel_rfl) R_Parse.eq
end
end W
end
