/- Lifted functions, part 2: each with its contract. -/
import Derived.Test.YtcndclcpmelgoaaDoorWa
import Derived.Test.YtcndclcpmelgoaaDoorProg
section
/- Functions of the program as typed functions, printed by a program of mine, with their proofs. -/
set_option maxHeartbeats 4000000
set_option maxRecDepth 100000
set_option linter.unusedVariables false
namespace W
open Go Go.Ql
noncomputable section
def Law_CircBack.c5 {ρ : Type} (c0 : Int) (c1 : Int) (c2 : List ((Int) × ((Int) × ((List Int) × ((Int) × ((Int) × (List Int))))))) (f0 : Int) (f1 : Int) (k_ : Bool → Option ρ) : Option ρ :=
  bnd (W.circ_Pure (c0, c1, c2)) fun y =>
  k_ (Ty.eqT (Ty.pair (Ty.int IntKind.i64) (Ty.int IntKind.i64)) (f0, f1) y)
def Law_CircBack.c5s : Shape := ⟨[(0, qd27), (1, qd1), (2, qd12), (4, qd8), (5, qd14), (6, qd19)], [(2, qd20), (5, qd20), (6, qd21)]⟩
def Law_CircBack.c5x0 : Shape := ⟨[(0, qd27), (1, qd1), (2, qd12), (4, qd8), (5, qd14), (6, qd19)], [(2, qd20), (5, qd20), (6, qd21)]⟩
def Law_CircBack.c5r : Ck := Ck.of (T := Bool) Law_CircBack.c5s (fun ρ x_ k_ => uP x_ fun c x_ => uP x_ fun n x_ => uP x_ fun t4 x_ => uP x_ fun c0 x_ => uP x_ fun c1 x_ => uP x_ fun c2 x_ => uP x_ fun x0 x_ => uP x_ fun x1 x_ => uP x_ fun x2 x_ => uP x_ fun f0 x_ => uP x_ fun f1 x_ => Law_CircBack.c5 c0 c1 c2 f0 f1 k_) (fun ρ x_ r_ k_ => uP x_ fun c x_ => uP x_ fun n x_ => uP x_ fun t4 x_ => uP x_ fun c0 x_ => uP x_ fun c1 x_ => uP x_ fun c2 x_ => uP x_ fun x0 x_ => uP x_ fun x1 x_ => uP x_ fun x2 x_ => uP x_ fun f0 x_ => uP x_ fun f1 x_ => k_ 0 (Shape.inj Law_CircBack.c5x0 (c, n, r_, c0, c1, c2, x0, x1, x2, f0, f1, ())))
def Law_CircBack.c7 {ρ : Type} (c0 : Int) (c1 : Int) (c2 : List ((Int) × ((Int) × ((List Int) × ((Int) × ((Int) × (List Int))))))) (f0 : Int) (y0 : Int) (y1 : Int) (y2 : List ((Int) × ((Int) × ((List Int) × ((Int) × ((Int) × (List Int))))))) (k_ : Bool → Option ρ) : Option ρ :=
  br (f0 != (0 : Int))
   (k_ true)
   (bnd (W.R_SameCircuit (c0, c1, c2) (y0, y1, y2)) fun y =>
    k_ (!y))
def Law_CircBack.c7s : Shape := ⟨[(0, qd27), (1, qd1), (2, qd12), (4, qd8), (5, qd14), (6, qd19), (7, qd28)], [(2, qd20), (5, qd20), (6, qd21), (7, qd20)]⟩
def Law_CircBack.c7x0 : Shape := ⟨[(0, qd27), (1, qd1), (2, qd12), (4, qd8), (5, qd14), (6, qd19), (7, qd28), (42, qd8)], [(2, qd20), (5, qd20), (6, qd21), (7, qd20)]⟩
def Law_CircBack.c7r : Ck := Ck.of (T := Bool) Law_CircBack.c7s (fun ρ x_ k_ => uP x_ fun c x_ => uP x_ fun n x_ => uP x_ fun t4 x_ => uP x_ fun c0 x_ => uP x_ fun c1 x_ => uP x_ fun c2 x_ => uP x_ fun x0 x_ => uP x_ fun x1 x_ => uP x_ fun x2 x_ => uP x_ fun f0 x_ => uP x_ fun f1 x_ => uP x_ fun y0 x_ => uP x_ fun y1 x_ => uP x_ fun y2 x_ => Law_CircBack.c7 c0 c1 c2 f0 y0 y1 y2 k_) (fun ρ x_ r_ k_ => uP x_ fun c x_ => uP x_ fun n x_ => uP x_ fun t4 x_ => uP x_ fun c0 x_ => uP x_ fun c1 x_ => uP x_ fun c2 x_ => uP x_ fun x0 x_ => uP x_ fun x1 x_ => uP x_ fun x2 x_ => uP x_ fun f0 x_ => uP x_ fun f1 x_ => uP x_ fun y0 x_ => uP x_ fun y1 x_ => uP x_ fun y2 x_ => k_ 0 (Shape.inj Law_CircBack.c7x0 (c, n, t4, r_, c0, c1, c2, x0, x1, x2, f0, f1, y0, y1, y2, ())))
def Law_CircBack.c15 {ρ : Type} (p0 : Int) (p1 : Int) (p2 : List ((Int) × ((Int) × ((List Int) × ((Int) × ((Int) × (List Int))))))) (r0 : Int) (r1 : Int) (r2 : List ((Int) × ((Int) × ((List Int) × ((Int) × ((Int) × (List Int))))))) (f0_1 : Int) (k_ : Bool → Option ρ) : Option ρ :=
  br (f0_1 != (0 : Int))
   (k_ true)
   (bnd (W.R_SameCircuit (p0, p1, p2) (r0, r1, r2)) fun y =>
    k_ (!y))
def Law_CircBack.c15s : Shape := ⟨[(0, qd27), (1, qd1), (2, qd12), (4, qd8), (5, qd14), (6, qd19), (7, qd28), (8, qd29), (9, qd30), (10, qd31), (11, qd26), (12, qd32)], [(2, qd20), (5, qd20), (6, qd21), (7, qd20), (8, qd20), (9, qd20), (10, qd21), (11, qd20), (12, qd21)]⟩
def Law_CircBack.c15x0 : Shape := ⟨[(0, qd27), (1, qd1), (2, qd12), (4, qd8), (5, qd14), (6, qd19), (7, qd28), (8, qd29), (9, qd30), (10, qd31), (11, qd26), (12, qd32), (74, qd8)], [(2, qd20), (5, qd20), (6, qd21), (7, qd20), (8, qd20), (9, qd20), (10, qd21), (11, qd20), (12, qd21)]⟩
def Law_CircBack.c15r : Ck := Ck.of (T := Bool) Law_CircBack.c15s (fun ρ x_ k_ => uP x_ fun c x_ => uP x_ fun n x_ => uP x_ fun t4 x_ => uP x_ fun c0 x_ => uP x_ fun c1 x_ => uP x_ fun c2 x_ => uP x_ fun x0 x_ => uP x_ fun x1 x_ => uP x_ fun x2 x_ => uP x_ fun f0 x_ => uP x_ fun f1 x_ => uP x_ fun y0 x_ => uP x_ fun y1 x_ => uP x_ fun y2 x_ => uP x_ fun p0 x_ => uP x_ fun p1 x_ => uP x_ fun p2 x_ => uP x_ fun q0 x_ => uP x_ fun q1 x_ => uP x_ fun q2 x_ => uP x_ fun g0 x_ => uP x_ fun g1 x_ => uP x_ fun r0 x_ => uP x_ fun r1 x_ => uP x_ fun r2 x_ => uP x_ fun f0_1 x_ => uP x_ fun f1_1 x_ => Law_CircBack.c15 p0 p1 p2 r0 r1 r2 f0_1 k_) (fun ρ x_ r_ k_ => uP x_ fun c x_ => uP x_ fun n x_ => uP x_ fun t4 x_ => uP x_ fun c0 x_ => uP x_ fun c1 x_ => uP x_ fun c2 x_ => uP x_ fun x0 x_ => uP x_ fun x1 x_ => uP x_ fun x2 x_ => uP x_ fun f0 x_ => uP x_ fun f1 x_ => uP x_ fun y0 x_ => uP x_ fun y1 x_ => uP x_ fun y2 x_ => uP x_ fun p0 x_ => uP x_ fun p1 x_ => uP x_ fun p2 x_ => uP x_ fun q0 x_ => uP x_ fun q1 x_ => uP x_ fun q2 x_ => uP x_ fun g0 x_ => uP x_ fun g1 x_ => uP x_ fun r0 x_ => uP x_ fun r1 x_ => uP x_ fun r2 x_ => uP x_ fun f0_1 x_ => uP x_ fun f1_1 x_ => k_ 0 (Shape.inj Law_CircBack.c15x0 (c, n, t4, r_, c0, c1, c2, x0, x1, x2, f0, f1, y0, y1, y2, p0, p1, p2, q0, q1, q2, g0, g1, r0, r1, r2, f0_1, f1_1, ())))
def Law_CircBack.c253261 {ρ : Type} (f0 : Int) (p0 : Int) (p1 : Int) (p2 : List ((Int) × ((Int) × ((List Int) × ((Int) × ((Int) × (List Int))))))) (q0 : Int) (q1 : Int) (q2 : List ((Int) × ((Int) × ((List Int) × ((Int) × ((Int) × (List Int))))))) (k_ : (Unit) ⊕ (Unit) → Option ρ) : Option ρ :=
  br (f0 == (0 : Int))
   (bnd (W.circ_Inverse (q0, q1, q2)) fun y =>
    bnd (W.Law_CircBack.c15 p0 p1 p2 (Prod.fst (Prod.fst y)) (Prod.fst (Prod.snd (Prod.fst y))) (Prod.snd (Prod.snd (Prod.fst y))) (Prod.fst (Prod.snd y)) some) fun y_1 =>
    br y_1
     (k_ (.inl ()))
     (k_ (.inr ())))
   (k_ (.inr ()))
def Law_CircBack.c253261s : Shape := ⟨[(0, qd27), (1, qd1), (2, qd12), (4, qd8), (5, qd14), (6, qd19), (7, qd28), (8, qd29), (9, qd30), (10, qd31)], [(2, qd20), (5, qd20), (6, qd21), (7, qd20), (8, qd20), (9, qd20), (10, qd21)]⟩
def Law_CircBack.c253261x0 : Shape := ⟨[(0, qd27), (1, qd1), (2, qd12), (4, qd8), (5, qd14), (6, qd19), (7, qd28), (8, qd29), (9, qd30), (10, qd31)], [(2, qd20), (5, qd20), (6, qd21), (7, qd20), (8, qd20), (9, qd20), (10, qd21)]⟩
def Law_CircBack.c253261x1 : Shape := ⟨[(0, qd27), (1, qd1), (2, qd12), (4, qd8), (5, qd14), (6, qd19), (7, qd28), (8, qd29), (9, qd30), (10, qd31)], [(2, qd20), (5, qd20), (6, qd21), (7, qd20), (8, qd20), (9, qd20), (10, qd21)]⟩
def Law_CircBack.c253261r : Ck := Ck.of (T := (Unit) ⊕ (Unit)) Law_CircBack.c253261s (fun ρ x_ k_ => uP x_ fun c x_ => uP x_ fun n x_ => uP x_ fun t4 x_ => uP x_ fun c0 x_ => uP x_ fun c1 x_ => uP x_ fun c2 x_ => uP x_ fun x0 x_ => uP x_ fun x1 x_ => uP x_ fun x2 x_ => uP x_ fun f0 x_ => uP x_ fun f1 x_ => uP x_ fun y0 x_ => uP x_ fun y1 x_ => uP x_ fun y2 x_ => uP x_ fun p0 x_ => uP x_ fun p1 x_ => uP x_ fun p2 x_ => uP x_ fun q0 x_ => uP x_ fun q1 x_ => uP x_ fun q2 x_ => uP x_ fun g0 x_ => uP x_ fun g1 x_ => Law_CircBack.c253261 f0 p0 p1 p2 q0 q1 q2 k_) (fun ρ x_ r_ k_ => uP x_ fun c x_ => uP x_ fun n x_ => uP x_ fun t4 x_ => uP x_ fun c0 x_ => uP x_ fun c1 x_ => uP x_ fun c2 x_ => uP x_ fun x0 x_ => uP x_ fun x1 x_ => uP x_ fun x2 x_ => uP x_ fun f0 x_ => uP x_ fun f1 x_ => uP x_ fun y0 x_ => uP x_ fun y1 x_ => uP x_ fun y2 x_ => uP x_ fun p0 x_ => uP x_ fun p1 x_ => uP x_ fun p2 x_ => uP x_ fun q0 x_ => uP x_ fun q1 x_ => uP x_ fun q2 x_ => uP x_ fun g0 x_ => uP x_ fun g1 x_ => sel r_ (fun r_ => k_ 1 (Shape.inj Law_CircBack.c253261x0 (c, n, false, c0, c1, c2, x0, x1, x2, f0, f1, y0, y1, y2, p0, p1, p2, q0, q1, q2, g0, g1, ()))) (fun r_ => k_ 0 (Shape.inj Law_CircBack.c253261x1 (c, n, t4, c0, c1, c2, x0, x1, x2, f0, f1, y0, y1, y2, p0, p1, p2, q0, q1, q2, g0, g1, ()))))
def Law_CircBack.c19 {ρ : Type} (c0 : Int) (c1 : Int) (c2 : List ((Int) × ((Int) × ((List Int) × ((Int) × ((Int) × (List Int))))))) (f0 : Int) (g0 : Int) (z0 : Int) (z1 : Int) (z2 : List ((Int) × ((Int) × ((List Int) × ((Int) × ((Int) × (List Int))))))) (k_ : Bool → Option ρ) : Option ρ :=
  br (f0 == (0 : Int))
   (br (g0 == (2 : Int))
     (k_ true)
     (br (g0 == (0 : Int))
       (bnd (W.R_SameCircuit (c0, c1, c2) (z0, z1, z2)) fun y =>
        k_ y)
       (k_ false)))
   (k_ false)
def Law_CircBack.c19s : Shape := ⟨[(0, qd27), (1, qd1), (2, qd12), (4, qd8), (5, qd14), (6, qd19), (7, qd28), (8, qd29), (9, qd30), (10, qd31), (13, qd0), (14, qd33)], [(2, qd20), (5, qd20), (6, qd21), (7, qd20), (8, qd20), (9, qd20), (10, qd21), (14, qd20)]⟩
def Law_CircBack.c19x0 : Shape := ⟨[(0, qd27), (1, qd1), (2, qd12), (4, qd8), (5, qd14), (6, qd19), (7, qd28), (8, qd29), (9, qd30), (10, qd31), (13, qd0), (14, qd33)], [(2, qd20), (5, qd20), (6, qd21), (7, qd20), (8, qd20), (9, qd20), (10, qd21), (14, qd20)]⟩
def Law_CircBack.c19r : Ck := Ck.of (T := Bool) Law_CircBack.c19s (fun ρ x_ k_ => uP x_ fun c x_ => uP x_ fun n x_ => uP x_ fun t4 x_ => uP x_ fun text x_ => uP x_ fun c0 x_ => uP x_ fun c1 x_ => uP x_ fun c2 x_ => uP x_ fun x0 x_ => uP x_ fun x1 x_ => uP x_ fun x2 x_ => uP x_ fun f0 x_ => uP x_ fun f1 x_ => uP x_ fun y0 x_ => uP x_ fun y1 x_ => uP x_ fun y2 x_ => uP x_ fun p0 x_ => uP x_ fun p1 x_ => uP x_ fun p2 x_ => uP x_ fun q0 x_ => uP x_ fun q1 x_ => uP x_ fun q2 x_ => uP x_ fun g0 x_ => uP x_ fun g1 x_ => uP x_ fun z0 x_ => uP x_ fun z1 x_ => uP x_ fun z2 x_ => Law_CircBack.c19 c0 c1 c2 f0 g0 z0 z1 z2 k_) (fun ρ x_ r_ k_ => uP x_ fun c x_ => uP x_ fun n x_ => uP x_ fun t4 x_ => uP x_ fun text x_ => uP x_ fun c0 x_ => uP x_ fun c1 x_ => uP x_ fun c2 x_ => uP x_ fun x0 x_ => uP x_ fun x1 x_ => uP x_ fun x2 x_ => uP x_ fun f0 x_ => uP x_ fun f1 x_ => uP x_ fun y0 x_ => uP x_ fun y1 x_ => uP x_ fun y2 x_ => uP x_ fun p0 x_ => uP x_ fun p1 x_ => uP x_ fun p2 x_ => uP x_ fun q0 x_ => uP x_ fun q1 x_ => uP x_ fun q2 x_ => uP x_ fun g0 x_ => uP x_ fun g1 x_ => uP x_ fun z0 x_ => uP x_ fun z1 x_ => uP x_ fun z2 x_ => k_ 0 (Shape.inj Law_CircBack.c19x0 (c, n, r_, text, c0, c1, c2, x0, x1, x2, f0, f1, y0, y1, y2, p0, p1, p2, q0, q1, q2, g0, g1, z0, z1, z2, ())))
def Law_CircBack (c : (Int) × ((Int) × (List ((Int) × ((Int) × ((List Int) × ((Int) × ((Int) × (List Int))))))))) (n : Int) : Option (Bool) :=
  bnd W.Law_circBegun fun y =>
  br (!y)
   (some false)
   (bnd (W.circ_Inverse (Prod.fst c, Prod.fst (Prod.snd c), Prod.snd (Prod.snd c))) fun y_1 =>
    br (Prod.fst (Prod.snd y_1) != (0 : Int))
     (bnd (W.Law_CircBack.c5 (Prod.fst c) (Prod.fst (Prod.snd c)) (Prod.snd (Prod.snd c)) (Prod.fst (Prod.snd y_1)) (Prod.snd (Prod.snd y_1)) some) fun y_2 =>
      some y_2)
     (bnd (W.circ_Inverse (Prod.fst (Prod.fst y_1), Prod.fst (Prod.snd (Prod.fst y_1)), Prod.snd (Prod.snd (Prod.fst y_1)))) fun y_3 =>
      bnd (W.Law_CircBack.c7 (Prod.fst c) (Prod.fst (Prod.snd c)) (Prod.snd (Prod.snd c)) (Prod.fst (Prod.snd y_3)) (Prod.fst (Prod.fst y_3)) (Prod.fst (Prod.snd (Prod.fst y_3))) (Prod.snd (Prod.snd (Prod.fst y_3))) some) fun y_4 =>
      br y_4
       (some false)
       (bnd (W.circ_Power (Prod.fst c, Prod.fst (Prod.snd c), Prod.snd (Prod.snd c)) n) fun y_5 =>
        bnd (W.circ_Power (Prod.fst (Prod.fst y_1), Prod.fst (Prod.snd (Prod.fst y_1)), Prod.snd (Prod.snd (Prod.fst y_1))) n) fun y_6 =>
        br (!Ty.eqT (Ty.pair (Ty.int IntKind.i64) (Ty.int IntKind.i64)) (Prod.fst (Prod.snd y_5), Prod.snd (Prod.snd y_5)) (Prod.fst (Prod.snd y_6), Prod.snd (Prod.snd y_6)))
         (some false)
         (bnd (W.Law_CircBack.c253261 (Prod.fst (Prod.snd y_5)) (Prod.fst (Prod.fst y_5)) (Prod.fst (Prod.snd (Prod.fst y_5))) (Prod.snd (Prod.snd (Prod.fst y_5))) (Prod.fst (Prod.fst y_6)) (Prod.fst (Prod.snd (Prod.fst y_6))) (Prod.snd (Prod.snd (Prod.fst y_6))) some) fun y_7 =>
          sel y_7
           (fun u => some false)
           (fun v => bnd (W.circ_Print (Prod.fst c, Prod.fst (Prod.snd c), Prod.snd (Prod.snd c))) fun y_8 =>
            bnd (W.circ_Parse (Prod.fst y_8)) fun y_9 =>
            bnd (W.Law_CircBack.c19 (Prod.fst c) (Prod.fst (Prod.snd c)) (Prod.snd (Prod.snd c)) (Prod.fst (Prod.snd y_8)) (Prod.fst (Prod.snd y_9)) (Prod.fst (Prod.fst y_9)) (Prod.fst (Prod.snd (Prod.fst y_9))) (Prod.snd (Prod.snd (Prod.fst y_9))) some) fun y_10 =>
            some y_10)))))
def Law_CircBack.ce : Go.Ql.Callee := ⟨[(.st (.pair (.int .i64) (.pair (.int .i64) (.sl (.st (.pair (.int .i64) (.pair (.int .i64) (.pair (.sl (.int .i64)) (.pair (.int .i64) (.pair (.int .i64) (.sl (.int .i64)))))))))))), (.int .i64)], [.bool], fun x_ => Law_CircBack x_.1 x_.2⟩
def Law_CircBack.G : Env := ⟨103, tab, [(13, Law_circBegun.ce), (23, circ_Inverse.ce), (16, circ_Pure.ce), (29, R_SameCircuit.ce), (18, circ_Power.ce), (32, circ_Print.ce), (34, circ_Parse.ce)], [0, 1, 2, 4, 5, 6, 7, 8, 9, 10, 11, 12, 13, 14, 16, 24, 42, 57, 60, 74], [], [(5, [⟨[], [], [26, 27], []⟩, ⟨[], [], [25], []⟩, ⟨[1], [], [25], []⟩, ⟨[0, 2, 1], [], [], []⟩, ⟨[3, 0, 2, 1], [], [], []⟩])], [(19, Law_CircBack.c19r), (253261, Law_CircBack.c253261r), (15, Law_CircBack.c15r), (7, Law_CircBack.c7r), (5, Law_CircBack.c5r)], [], tab_eqs⟩
theorem Law_CircBack.eq (x_ : dens [(.st (.pair (.int .i64) (.pair (.int .i64) (.sl (.st (.pair (.int .i64) (.pair (.int .i64) (.pair (.sl (.int .i64)) (.pair (.int .i64) (.pair (.int .i64) (.sl (.int .i64)))))))))))), (.int .i64)]) : den Law_CircBack.G Go.Proofs.Tryd.f9 [(.st (.pair (.int .i64) (.pair (.int .i64) (.sl (.st (.pair (.int .i64) (.pair (.int .i64) (.pair (.sl (.int .i64)) (.pair (.int .i64) (.pair (.int .i64) (.sl (.int .i64)))))))))))), (.int .i64)] [.bool] x_ = Law_CircBack x_.1 x_.2 := by kernel_rfl
theorem Law_CircBack.p0 : PieceOk Law_CircBack.G (pieceAt (pieces Law_CircBack.G.cks (bodyOf Go.Proofs.Tryd.f9)) 0).1 (pieceAt (pieces Law_CircBack.G.cks (bodyOf Go.Proofs.Tryd.f9)) 0).2 :=
  region_ok (s := Law_CircBack.c5r) (by kernel_rfl) (by kernel_rfl) (sums_of (sh := Law_CircBack.c5s) (fun ρ x_ k_ => (nat_bnd fun _ => nat_leaf)) (fun ρ x_ t k => (by kernel_rfl)) (fun x_ => by kernel_rfl))
theorem Law_CircBack.p1 : PieceOk Law_CircBack.G (pieceAt (pieces Law_CircBack.G.cks (bodyOf Go.Proofs.Tryd.f9)) 1).1 (pieceAt (pieces Law_CircBack.G.cks (bodyOf Go.Proofs.Tryd.f9)) 1).2 :=
  region_ok (s := Law_CircBack.c7r) (by kernel_rfl) (by kernel_rfl) (sums_of (sh := Law_CircBack.c7s) (fun ρ x_ k_ => (nat_br nat_leaf (nat_bnd fun _ => nat_leaf))) (fun ρ x_ t k => (by kernel_rfl)) (fun x_ => by kernel_rfl))
theorem Law_CircBack.p2 : PieceOk Law_CircBack.G (pieceAt (pieces Law_CircBack.G.cks (bodyOf Go.Proofs.Tryd.f9)) 2).1 (pieceAt (pieces Law_CircBack.G.cks (bodyOf Go.Proofs.Tryd.f9)) 2).2 :=
  join_ok (s := Law_CircBack.c253261r) (by kernel_rfl) (by kernel_rfl) (sums_of (sh := Law_CircBack.c253261s) (fun ρ x_ k_ => (nat_br (nat_bnd fun _ => (nat_bnd fun _ => (nat_br nat_leaf nat_leaf))) nat_leaf)) (fun ρ x_ t k => (nat_sel (fun _ => (by kernel_rfl)) (fun _ => (by kernel_rfl)))) (fun x_ => by kernel_rfl))
theorem Law_CircBack.p3 : PieceOk Law_CircBack.G (pieceAt (pieces Law_CircBack.G.cks (bodyOf Go.Proofs.Tryd.f9)) 3).1 (pieceAt (pieces Law_CircBack.G.cks (bodyOf Go.Proofs.Tryd.f9)) 3).2 :=
  region_ok (s := Law_CircBack.c15r) (by kernel_rfl) (by kernel_rfl) (sums_of (sh := Law_CircBack.c15s) (fun ρ x_ k_ => (nat_br nat_leaf (nat_bnd fun _ => nat_leaf))) (fun ρ x_ t k => (by kernel_rfl)) (fun x_ => by kernel_rfl))
theorem Law_CircBack.p4 : PieceOk Law_CircBack.G (pieceAt (pieces Law_CircBack.G.cks (bodyOf Go.Proofs.Tryd.f9)) 4).1 (pieceAt (pieces Law_CircBack.G.cks (bodyOf Go.Proofs.Tryd.f9)) 4).2 :=
  region_ok (s := Law_CircBack.c19r) (by kernel_rfl) (by kernel_rfl) (sums_of (sh := Law_CircBack.c19s) (fun ρ x_ k_ => (nat_br (nat_br nat_leaf (nat_br (nat_bnd fun _ => nat_leaf) nat_leaf)) nat_leaf)) (fun ρ x_ t k => (by kernel_rfl)) (fun x_ => by kernel_rfl))
theorem Law_CircBack.ok : CalleeOk Go.Proofs.Tryd.prog 9 Law_CircBack.ce := fn_ok (G := Law_CircBack.G) tab_ok mixed Go.Proofs.Tryd.func9 ⟨(fns_cons Law_circBegun.ok (fns_cons circ_Inverse.ok (fns_cons circ_Pure.ok (fns_cons R_SameCircuit.ok (fns_cons circ_Power.ok (fns_cons circ_Print.ok (fns_cons circ_Parse.ok fns_nil))))))), mfns_nil, tab_eqs_ok⟩ (m := 5) (by kernel_rfl) ⟨⟨⟨⟨⟨trivial, Law_CircBack.p0⟩, Law_CircBack.p1⟩, Law_CircBack.p2⟩, Law_CircBack.p3⟩, Law_CircBack.p4⟩ (by kernel_rfl) Law_CircBack.eq
end
end W
end
