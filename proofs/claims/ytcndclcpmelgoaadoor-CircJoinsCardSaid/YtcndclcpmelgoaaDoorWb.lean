/- Lifted functions, part 2: each with its contract. -/
import Derived.Test.YtcndclcpmelgoaaDoorWa
import Derived.Test.YtcndclcpmelgoaaDoorProg
section
/- Functions of the program as typed functions, printed by a program of mine, with their proofs. -/
set_option maxHeartbeats 4000000
set_option maxRecDepth 100000
set_option linter.unusedVariables false
namespace W
open Go Go.Ql
noncomputable section
def R_badOp.c1 {ρ : Type} (o0 : Int) (k_ : Bool → Option ρ) : Option ρ :=
  br (decide (o0 < (1 : Int)))
   (k_ true)
   (k_ (decide (o0 > (6 : Int))))
def R_badOp.c1s : Shape := ⟨[(0, q2), (1, q0), (2, q0), (3, q24), (6, q0)], [(3, q6)]⟩
def R_badOp.c1x0 : Shape := ⟨[(0, q2), (1, q0), (2, q0), (3, q24), (6, q0), (17, q1)], [(3, q6)]⟩
def R_badOp.c1r : Ck := Ck.of (T := Bool) R_badOp.c1s (fun ρ x_ k_ => uP x_ fun o x_ => uP x_ fun qubits x_ => uP x_ fun bits x_ => uP x_ fun t6 x_ => uP x_ fun o0 x_ => uP x_ fun o1 x_ => uP x_ fun o2 x_ => uP x_ fun o3 x_ => uP x_ fun o4 x_ => uP x_ fun o5 x_ => R_badOp.c1 o0 k_) (fun ρ x_ r_ k_ => uP x_ fun o x_ => uP x_ fun qubits x_ => uP x_ fun bits x_ => uP x_ fun t6 x_ => uP x_ fun o0 x_ => uP x_ fun o1 x_ => uP x_ fun o2 x_ => uP x_ fun o3 x_ => uP x_ fun o4 x_ => uP x_ fun o5 x_ => k_ 0 (Shape.inj R_badOp.c1x0 (o, qubits, bits, t6, r_, o0, o1, o2, o3, o4, o5, ())))
def R_badOp.c3 {ρ : Type} (o0 : Int) (k_ : Bool → Option ρ) : Option ρ :=
  br (o0 == (1 : Int))
   (k_ true)
   (k_ (o0 == (4 : Int)))
def R_badOp.c3s : Shape := ⟨[(0, q2), (1, q0), (2, q0), (3, q24), (6, q0)], [(3, q6)]⟩
def R_badOp.c3x0 : Shape := ⟨[(0, q2), (1, q0), (2, q0), (3, q24), (6, q0), (7, q1)], [(3, q6)]⟩
def R_badOp.c3r : Ck := Ck.of (T := Bool) R_badOp.c3s (fun ρ x_ k_ => uP x_ fun o x_ => uP x_ fun qubits x_ => uP x_ fun bits x_ => uP x_ fun t6 x_ => uP x_ fun o0 x_ => uP x_ fun o1 x_ => uP x_ fun o2 x_ => uP x_ fun o3 x_ => uP x_ fun o4 x_ => uP x_ fun o5 x_ => R_badOp.c3 o0 k_) (fun ρ x_ r_ k_ => uP x_ fun o x_ => uP x_ fun qubits x_ => uP x_ fun bits x_ => uP x_ fun t6 x_ => uP x_ fun o0 x_ => uP x_ fun o1 x_ => uP x_ fun o2 x_ => uP x_ fun o3 x_ => uP x_ fun o4 x_ => uP x_ fun o5 x_ => k_ 0 (Shape.inj R_badOp.c3x0 (o, qubits, bits, t6, r_, o0, o1, o2, o3, o4, o5, ())))
def R_badOp.c4 {ρ : Type} (angle : Bool) (o1 : Int) (k_ : Bool → Option ρ) : Option ρ :=
  br (decide (o1 < (0 : Int)))
   (k_ true)
   (br (decide (o1 > (15 : Int)))
     (k_ true)
     (br (decide (o1 > (0 : Int)))
       (k_ (!angle))
       (k_ false)))
def R_badOp.c4s : Shape := ⟨[(0, q2), (1, q0), (2, q0), (3, q24), (6, q0), (7, q1)], [(3, q6)]⟩
def R_badOp.c4x0 : Shape := ⟨[(0, q2), (1, q0), (2, q0), (3, q24), (6, q0), (7, q1), (42, q1)], [(3, q6)]⟩
def R_badOp.c4r : Ck := Ck.of (T := Bool) R_badOp.c4s (fun ρ x_ k_ => uP x_ fun o x_ => uP x_ fun qubits x_ => uP x_ fun bits x_ => uP x_ fun t6 x_ => uP x_ fun angle x_ => uP x_ fun o0 x_ => uP x_ fun o1 x_ => uP x_ fun o2 x_ => uP x_ fun o3 x_ => uP x_ fun o4 x_ => uP x_ fun o5 x_ => R_badOp.c4 angle o1 k_) (fun ρ x_ r_ k_ => uP x_ fun o x_ => uP x_ fun qubits x_ => uP x_ fun bits x_ => uP x_ fun t6 x_ => uP x_ fun angle x_ => uP x_ fun o0 x_ => uP x_ fun o1 x_ => uP x_ fun o2 x_ => uP x_ fun o3 x_ => uP x_ fun o4 x_ => uP x_ fun o5 x_ => k_ 0 (Shape.inj R_badOp.c4x0 (o, qubits, bits, t6, angle, r_, o0, o1, o2, o3, o4, o5, ())))
def R_badOp.c6 {ρ : Type} (qubits : Int) (o0 : Int) (o3 : Int) (k_ : Bool → Option ρ) : Option ρ :=
  br (decide (o3 < (0 : Int)))
   (k_ true)
   (br (decide (o3 ≥ qubits))
     (k_ true)
     (br (o0 == (1 : Int))
       (k_ (decide (o3 > (0 : Int))))
       (k_ false)))
def R_badOp.c6s : Shape := ⟨[(0, q2), (1, q0), (2, q0), (3, q24), (6, q0), (7, q1)], [(3, q6)]⟩
def R_badOp.c6x0 : Shape := ⟨[(0, q2), (1, q0), (2, q0), (3, q24), (6, q0), (7, q1), (61, q1)], [(3, q6)]⟩
def R_badOp.c6r : Ck := Ck.of (T := Bool) R_badOp.c6s (fun ρ x_ k_ => uP x_ fun o x_ => uP x_ fun qubits x_ => uP x_ fun bits x_ => uP x_ fun t6 x_ => uP x_ fun angle x_ => uP x_ fun o0 x_ => uP x_ fun o1 x_ => uP x_ fun o2 x_ => uP x_ fun o3 x_ => uP x_ fun o4 x_ => uP x_ fun o5 x_ => R_badOp.c6 qubits o0 o3 k_) (fun ρ x_ r_ k_ => uP x_ fun o x_ => uP x_ fun qubits x_ => uP x_ fun bits x_ => uP x_ fun t6 x_ => uP x_ fun angle x_ => uP x_ fun o0 x_ => uP x_ fun o1 x_ => uP x_ fun o2 x_ => uP x_ fun o3 x_ => uP x_ fun o4 x_ => uP x_ fun o5 x_ => k_ 0 (Shape.inj R_badOp.c6x0 (o, qubits, bits, t6, angle, r_, o0, o1, o2, o3, o4, o5, ())))
def R_badOp.c8 {ρ : Type} (o0 : Int) (o2 : List (Int)) (k_ : Bool → Option ρ) : Option ρ :=
  br (decide ((↑(List.length o2) : Int) > (0 : Int)))
   (br (o0 != (2 : Int))
     (br (o0 != (3 : Int))
       (k_ (o0 != (4 : Int)))
       (k_ false))
     (k_ false))
   (k_ false)
def R_badOp.c8s : Shape := ⟨[(0, q2), (1, q0), (2, q0), (3, q24), (6, q0), (7, q1)], [(3, q6)]⟩
def R_badOp.c8x0 : Shape := ⟨[(0, q2), (1, q0), (2, q0), (3, q24), (6, q0), (7, q1), (80, q1)], [(3, q6)]⟩
def R_badOp.c8r : Ck := Ck.of (T := Bool) R_badOp.c8s (fun ρ x_ k_ => uP x_ fun o x_ => uP x_ fun qubits x_ => uP x_ fun bits x_ => uP x_ fun t6 x_ => uP x_ fun angle x_ => uP x_ fun o0 x_ => uP x_ fun o1 x_ => uP x_ fun o2 x_ => uP x_ fun o3 x_ => uP x_ fun o4 x_ => uP x_ fun o5 x_ => R_badOp.c8 o0 o2 k_) (fun ρ x_ r_ k_ => uP x_ fun o x_ => uP x_ fun qubits x_ => uP x_ fun bits x_ => uP x_ fun t6 x_ => uP x_ fun angle x_ => uP x_ fun o0 x_ => uP x_ fun o1 x_ => uP x_ fun o2 x_ => uP x_ fun o3 x_ => uP x_ fun o4 x_ => uP x_ fun o5 x_ => k_ 0 (Shape.inj R_badOp.c8x0 (o, qubits, bits, t6, angle, r_, o0, o1, o2, o3, o4, o5, ())))
def R_badOp.c13 {ρ : Type} (qubits : Int) (i : Int) (o2 : List (Int)) (k_ : Bool → Option ρ) : Option ρ :=
  bnd (idx o2 i) fun y =>
  br (decide (y < (0 : Int)))
   (k_ true)
   (bnd (idx o2 i) fun y_1 =>
    k_ (decide (y_1 ≥ qubits)))
def R_badOp.c13s : Shape := ⟨[(0, q2), (1, q0), (2, q0), (3, q24), (6, q0), (7, q1), (8, q0)], [(3, q6)]⟩
def R_badOp.c13x0 : Shape := ⟨[(0, q2), (1, q0), (2, q0), (3, q24), (6, q0), (7, q1), (8, q0), (102, q1)], [(3, q6)]⟩
def R_badOp.c13r : Ck := Ck.of (T := Bool) R_badOp.c13s (fun ρ x_ k_ => uP x_ fun o x_ => uP x_ fun qubits x_ => uP x_ fun bits x_ => uP x_ fun t6 x_ => uP x_ fun angle x_ => uP x_ fun i x_ => uP x_ fun o0 x_ => uP x_ fun o1 x_ => uP x_ fun o2 x_ => uP x_ fun o3 x_ => uP x_ fun o4 x_ => uP x_ fun o5 x_ => R_badOp.c13 qubits i o2 k_) (fun ρ x_ r_ k_ => uP x_ fun o x_ => uP x_ fun qubits x_ => uP x_ fun bits x_ => uP x_ fun t6 x_ => uP x_ fun angle x_ => uP x_ fun i x_ => uP x_ fun o0 x_ => uP x_ fun o1 x_ => uP x_ fun o2 x_ => uP x_ fun o3 x_ => uP x_ fun o4 x_ => uP x_ fun o5 x_ => k_ 0 (Shape.inj R_badOp.c13x0 (o, qubits, bits, t6, angle, i, r_, o0, o1, o2, o3, o4, o5, ())))
def R_badOp.c15 {ρ : Type} (i : Int) (o2 : List (Int)) (o3 : Int) (k_ : Bool → Option ρ) : Option ρ :=
  bnd (idx o2 i) fun y =>
  br (y == o3)
   (k_ true)
   (bnd (okIf (decide ((0 : Int) ≤ i) && decide (i ≤ (↑(List.length o2) : Int)))) fun y_1 =>
    bnd (idx o2 i) fun y_2 =>
    bnd (W.R_member (List.take (Int.toNat i) o2) y_2) fun y_3 =>
    k_ y_3)
def R_badOp.c15s : Shape := ⟨[(0, q2), (1, q0), (2, q0), (3, q24), (6, q0), (7, q1), (8, q0)], [(3, q6)]⟩
def R_badOp.c15x0 : Shape := ⟨[(0, q2), (1, q0), (2, q0), (3, q24), (6, q0), (7, q1), (8, q0), (122, q1)], [(3, q6)]⟩
def R_badOp.c15r : Ck := Ck.of (T := Bool) R_badOp.c15s (fun ρ x_ k_ => uP x_ fun o x_ => uP x_ fun qubits x_ => uP x_ fun bits x_ => uP x_ fun t6 x_ => uP x_ fun angle x_ => uP x_ fun i x_ => uP x_ fun o0 x_ => uP x_ fun o1 x_ => uP x_ fun o2 x_ => uP x_ fun o3 x_ => uP x_ fun o4 x_ => uP x_ fun o5 x_ => R_badOp.c15 i o2 o3 k_) (fun ρ x_ r_ k_ => uP x_ fun o x_ => uP x_ fun qubits x_ => uP x_ fun bits x_ => uP x_ fun t6 x_ => uP x_ fun angle x_ => uP x_ fun i x_ => uP x_ fun o0 x_ => uP x_ fun o1 x_ => uP x_ fun o2 x_ => uP x_ fun o3 x_ => uP x_ fun o4 x_ => uP x_ fun o5 x_ => k_ 0 (Shape.inj R_badOp.c15x0 (o, qubits, bits, t6, angle, i, r_, o0, o1, o2, o3, o4, o5, ())))
def R_badOp.c100011 {ρ : Type} (qubits : Int) (i : Int) (o2 : List (Int)) (o3 : Int) (k_ : (Int) ⊕ (((Int) × (Int)) ⊕ (Int)) → Option ρ) : Option ρ :=
  br (decide (i < (↑(List.length o2) : Int)))
   (bnd (W.R_badOp.c13 qubits i o2 some) fun y =>
    br y
     (k_ (.inr (.inl ((10 : Int), i))))
     (bnd (W.R_badOp.c15 i o2 o3 some) fun y_1 =>
      br y_1
       (k_ (.inr (.inl ((12 : Int), i))))
       (k_ (.inl (IntKind.wrap IntKind.i64 (i + (1 : Int)))))))
   (k_ (.inr (.inr i)))
def R_badOp.c100011s : Shape := ⟨[(0, q2), (1, q0), (2, q0), (3, q24), (6, q0), (7, q1), (8, q0)], [(3, q6)]⟩
def R_badOp.c100011x0 : Shape := ⟨[(0, q2), (1, q0), (2, q0), (3, q24), (6, q0), (7, q1), (8, q0)], [(3, q6)]⟩
def R_badOp.c100011x1 : Shape := ⟨[(0, q2), (1, q0), (2, q0), (3, q24), (6, q0), (7, q1), (8, q0)], [(3, q6)]⟩
def R_badOp.c100011r : Ck := Ck.ofLoop (S := Int) (T := ((Int) × (Int)) ⊕ (Int)) R_badOp.c100011s (fun x_ => uP x_ fun o x_ => uP x_ fun qubits x_ => uP x_ fun bits x_ => uP x_ fun t6 x_ => uP x_ fun angle x_ => uP x_ fun i x_ => uP x_ fun o0 x_ => uP x_ fun o1 x_ => uP x_ fun o2 x_ => uP x_ fun o3 x_ => uP x_ fun o4 x_ => uP x_ fun o5 x_ => i) (fun ρ x_ s_ k_ => uP x_ fun o x_ => uP x_ fun qubits x_ => uP x_ fun bits x_ => uP x_ fun t6 x_ => uP x_ fun angle x_ => uP x_ fun i x_ => uP x_ fun o0 x_ => uP x_ fun o1 x_ => uP x_ fun o2 x_ => uP x_ fun o3 x_ => uP x_ fun o4 x_ => uP x_ fun o5 x_ => R_badOp.c100011 qubits s_ o2 o3 k_) (fun ρ x_ r_ k_ => uP x_ fun o x_ => uP x_ fun qubits x_ => uP x_ fun bits x_ => uP x_ fun t6 x_ => uP x_ fun angle x_ => uP x_ fun i x_ => uP x_ fun o0 x_ => uP x_ fun o1 x_ => uP x_ fun o2 x_ => uP x_ fun o3 x_ => uP x_ fun o4 x_ => uP x_ fun o5 x_ => sel r_ (fun r_ => k_ 1 (Shape.inj R_badOp.c100011x0 (o, qubits, bits, r_.1, angle, r_.2, o0, o1, o2, o3, o4, o5, ()))) (fun r_ => k_ 2 (Shape.inj R_badOp.c100011x1 (o, qubits, bits, t6, angle, r_, o0, o1, o2, o3, o4, o5, ()))))
def R_badOp.c18 {ρ : Type} (bits : Int) (o4 : Int) (k_ : Bool → Option ρ) : Option ρ :=
  br (decide (o4 < (0 : Int)))
   (k_ true)
   (k_ (decide (o4 ≥ bits)))
def R_badOp.c18s : Shape := ⟨[(0, q2), (1, q0), (2, q0), (3, q24), (6, q0), (7, q1), (8, q0)], [(3, q6)]⟩
def R_badOp.c18x0 : Shape := ⟨[(0, q2), (1, q0), (2, q0), (3, q24), (6, q0), (7, q1), (8, q0), (134, q1)], [(3, q6)]⟩
def R_badOp.c18r : Ck := Ck.of (T := Bool) R_badOp.c18s (fun ρ x_ k_ => uP x_ fun o x_ => uP x_ fun qubits x_ => uP x_ fun bits x_ => uP x_ fun t6 x_ => uP x_ fun angle x_ => uP x_ fun i x_ => uP x_ fun o0 x_ => uP x_ fun o1 x_ => uP x_ fun o2 x_ => uP x_ fun o3 x_ => uP x_ fun o4 x_ => uP x_ fun o5 x_ => R_badOp.c18 bits o4 k_) (fun ρ x_ r_ k_ => uP x_ fun o x_ => uP x_ fun qubits x_ => uP x_ fun bits x_ => uP x_ fun t6 x_ => uP x_ fun angle x_ => uP x_ fun i x_ => uP x_ fun o0 x_ => uP x_ fun o1 x_ => uP x_ fun o2 x_ => uP x_ fun o3 x_ => uP x_ fun o4 x_ => uP x_ fun o5 x_ => k_ 0 (Shape.inj R_badOp.c18x0 (o, qubits, bits, t6, angle, i, r_, o0, o1, o2, o3, o4, o5, ())))
def R_badOp.c269649 {ρ : Type} (bits : Int) (o0 : Int) (o4 : Int) (k_ : (Unit) ⊕ (Unit) → Option ρ) : Option ρ :=
  br (o0 == (5 : Int))
   (bnd (W.R_badOp.c18 bits o4 some) fun y =>
    br y
     (k_ (.inl ()))
     (k_ (.inr ())))
   (br (o4 != (0 : Int))
     (k_ (.inl ()))
     (k_ (.inr ())))
def R_badOp.c269649s : Shape := ⟨[(0, q2), (1, q0), (2, q0), (3, q24), (6, q0), (7, q1), (8, q0)], [(3, q6)]⟩
def R_badOp.c269649x0 : Shape := ⟨[(0, q2), (1, q0), (2, q0), (3, q24), (6, q0), (7, q1), (8, q0)], [(3, q6)]⟩
def R_badOp.c269649x1 : Shape := ⟨[(0, q2), (1, q0), (2, q0), (3, q24), (6, q0), (7, q1), (8, q0)], [(3, q6)]⟩
def R_badOp.c269649r : Ck := Ck.of (T := (Unit) ⊕ (Unit)) R_badOp.c269649s (fun ρ x_ k_ => uP x_ fun o x_ => uP x_ fun qubits x_ => uP x_ fun bits x_ => uP x_ fun t6 x_ => uP x_ fun angle x_ => uP x_ fun i x_ => uP x_ fun o0 x_ => uP x_ fun o1 x_ => uP x_ fun o2 x_ => uP x_ fun o3 x_ => uP x_ fun o4 x_ => uP x_ fun o5 x_ => R_badOp.c269649 bits o0 o4 k_) (fun ρ x_ r_ k_ => uP x_ fun o x_ => uP x_ fun qubits x_ => uP x_ fun bits x_ => uP x_ fun t6 x_ => uP x_ fun angle x_ => uP x_ fun i x_ => uP x_ fun o0 x_ => uP x_ fun o1 x_ => uP x_ fun o2 x_ => uP x_ fun o3 x_ => uP x_ fun o4 x_ => uP x_ fun o5 x_ => sel r_ (fun r_ => k_ 1 (Shape.inj R_badOp.c269649x0 (o, qubits, bits, (13 : Int), angle, i, o0, o1, o2, o3, o4, o5, ()))) (fun r_ => k_ 0 (Shape.inj R_badOp.c269649x1 (o, qubits, bits, t6, angle, i, o0, o1, o2, o3, o4, o5, ()))))
def R_badOp.c27 {ρ : Type} (bits : Int) (i_1 : Int) (o5 : List (Int)) (k_ : Bool → Option ρ) : Option ρ :=
  bnd (idx o5 i_1) fun y =>
  br (y == (0 : Int))
   (k_ true)
   (bnd (idx o5 i_1) fun y_1 =>
    br (decide (y_1 > bits))
     (k_ true)
     (bnd (idx o5 i_1) fun y_2 =>
      k_ (decide (y_2 < IntKind.wrap IntKind.i64 ((0 : Int) - bits)))))
def R_badOp.c27s : Shape := ⟨[(0, q2), (1, q0), (2, q0), (3, q24), (6, q0), (7, q1), (8, q0), (9, q0)], [(3, q6)]⟩
def R_badOp.c27x0 : Shape := ⟨[(0, q2), (1, q0), (2, q0), (3, q24), (6, q0), (7, q1), (8, q0), (9, q0), (173, q1)], [(3, q6)]⟩
def R_badOp.c27r : Ck := Ck.of (T := Bool) R_badOp.c27s (fun ρ x_ k_ => uP x_ fun o x_ => uP x_ fun qubits x_ => uP x_ fun bits x_ => uP x_ fun t6 x_ => uP x_ fun angle x_ => uP x_ fun i x_ => uP x_ fun i_1 x_ => uP x_ fun o0 x_ => uP x_ fun o1 x_ => uP x_ fun o2 x_ => uP x_ fun o3 x_ => uP x_ fun o4 x_ => uP x_ fun o5 x_ => R_badOp.c27 bits i_1 o5 k_) (fun ρ x_ r_ k_ => uP x_ fun o x_ => uP x_ fun qubits x_ => uP x_ fun bits x_ => uP x_ fun t6 x_ => uP x_ fun angle x_ => uP x_ fun i x_ => uP x_ fun i_1 x_ => uP x_ fun o0 x_ => uP x_ fun o1 x_ => uP x_ fun o2 x_ => uP x_ fun o3 x_ => uP x_ fun o4 x_ => uP x_ fun o5 x_ => k_ 0 (Shape.inj R_badOp.c27x0 (o, qubits, bits, t6, angle, i, i_1, r_, o0, o1, o2, o3, o4, o5, ())))
def R_badOp.c100025 {ρ : Type} (bits : Int) (i_1 : Int) (o5 : List (Int)) (k_ : (Int) ⊕ ((Int) ⊕ (Int)) → Option ρ) : Option ρ :=
  br (decide (i_1 < (↑(List.length o5) : Int)))
   (bnd (W.R_badOp.c27 bits i_1 o5 some) fun y =>
    br y
     (k_ (.inr (.inl i_1)))
     (k_ (.inl (IntKind.wrap IntKind.i64 (i_1 + (1 : Int))))))
   (k_ (.inr (.inr i_1)))
def R_badOp.c100025s : Shape := ⟨[(0, q2), (1, q0), (2, q0), (3, q24), (6, q0), (7, q1), (8, q0), (9, q0)], [(3, q6)]⟩
def R_badOp.c100025x0 : Shape := ⟨[(0, q2), (1, q0), (2, q0), (3, q24), (6, q0), (7, q1), (8, q0), (9, q0)], [(3, q6)]⟩
def R_badOp.c100025x1 : Shape := ⟨[(0, q2), (1, q0), (2, q0), (3, q24), (6, q0), (7, q1), (8, q0), (9, q0)], [(3, q6)]⟩
def R_badOp.c100025r : Ck := Ck.ofLoop (S := Int) (T := (Int) ⊕ (Int)) R_badOp.c100025s (fun x_ => uP x_ fun o x_ => uP x_ fun qubits x_ => uP x_ fun bits x_ => uP x_ fun t6 x_ => uP x_ fun angle x_ => uP x_ fun i x_ => uP x_ fun i_1 x_ => uP x_ fun o0 x_ => uP x_ fun o1 x_ => uP x_ fun o2 x_ => uP x_ fun o3 x_ => uP x_ fun o4 x_ => uP x_ fun o5 x_ => i_1) (fun ρ x_ s_ k_ => uP x_ fun o x_ => uP x_ fun qubits x_ => uP x_ fun bits x_ => uP x_ fun t6 x_ => uP x_ fun angle x_ => uP x_ fun i x_ => uP x_ fun i_1 x_ => uP x_ fun o0 x_ => uP x_ fun o1 x_ => uP x_ fun o2 x_ => uP x_ fun o3 x_ => uP x_ fun o4 x_ => uP x_ fun o5 x_ => R_badOp.c100025 bits s_ o5 k_) (fun ρ x_ r_ k_ => uP x_ fun o x_ => uP x_ fun qubits x_ => uP x_ fun bits x_ => uP x_ fun t6 x_ => uP x_ fun angle x_ => uP x_ fun i x_ => uP x_ fun i_1 x_ => uP x_ fun o0 x_ => uP x_ fun o1 x_ => uP x_ fun o2 x_ => uP x_ fun o3 x_ => uP x_ fun o4 x_ => uP x_ fun o5 x_ => sel r_ (fun r_ => k_ 1 (Shape.inj R_badOp.c100025x0 (o, qubits, bits, (14 : Int), angle, i, r_, o0, o1, o2, o3, o4, o5, ()))) (fun r_ => k_ 4 (Shape.inj R_badOp.c100025x1 (o, qubits, bits, t6, angle, i, r_, o0, o1, o2, o3, o4, o5, ()))))
def R_badOp (o : (Int) × ((Int) × ((List Int) × ((Int) × ((Int) × (List Int)))))) (qubits : Int) (bits : Int) : Option (Int) :=
  bnd (W.R_badOp.c1 (Prod.fst o) some) fun y =>
  br y
   (some (8 : Int))
   (bnd (W.R_badOp.c3 (Prod.fst o) some) fun y_1 =>
    bnd (W.R_badOp.c4 y_1 (Prod.fst (Prod.snd o)) some) fun y_2 =>
    br y_2
     (some (9 : Int))
     (bnd (W.R_badOp.c6 qubits (Prod.fst o) (Prod.fst (Prod.snd (Prod.snd (Prod.snd o)))) some) fun y_3 =>
      br y_3
       (some (10 : Int))
       (bnd (W.R_badOp.c8 (Prod.fst o) (Prod.fst (Prod.snd (Prod.snd o))) some) fun y_4 =>
        br y_4
         (some (11 : Int))
         (bnd (iter (fun s ↦ W.R_badOp.c100011 qubits s (Prod.fst (Prod.snd (Prod.snd o))) (Prod.fst (Prod.snd (Prod.snd (Prod.snd o)))) some) (0 : Int)) fun y_5 =>
          sel y_5
           (fun u => some (Prod.fst u))
           (fun v => bnd (W.R_badOp.c269649 bits (Prod.fst o) (Prod.fst (Prod.snd (Prod.snd (Prod.snd (Prod.snd o))))) some) fun y_6 =>
            sel y_6
             (fun u_1 => some (13 : Int))
             (fun v_1 => br (decide ((↑(List.length (Prod.snd (Prod.snd (Prod.snd (Prod.snd (Prod.snd o)))))) : Int) > (24 : Int)))
               (some (14 : Int))
               (bnd (iter (fun s ↦ W.R_badOp.c100025 bits s (Prod.snd (Prod.snd (Prod.snd (Prod.snd (Prod.snd o))))) some) (0 : Int)) fun y_7 =>
                sel y_7
                 (fun u_2 => some (14 : Int))
                 (fun v_2 => some (0 : Int)))))))))
def R_badOp.ce : Go.Ql.Callee := ⟨[(.st (.pair (.int .i64) (.pair (.int .i64) (.pair (.sl (.int .i64)) (.pair (.int .i64) (.pair (.int .i64) (.sl (.int .i64)))))))), (.int .i64), (.int .i64)], [(.int .i64)], fun x_ => R_badOp x_.1 x_.2.1 x_.2.2⟩
def R_badOp.G : Env := ⟨174, tab, [(52, R_member.ce)], [0, 1, 2, 3, 6, 7, 8, 9, 17, 42, 61, 80, 85, 102, 122, 125, 134, 137, 141, 146, 173], [], [(15, [⟨[], [], [105, 108, 109], []⟩, ⟨[0], [], [105, 108, 109], []⟩, ⟨[], [], [103, 104, 108, 109], []⟩, ⟨[1, 0, 2], [], [108, 109], []⟩, ⟨[3, 1, 0, 2], [], [108, 109], []⟩, ⟨[], [], [103, 104, 105, 106, 107], []⟩, ⟨[5], [], [103, 104, 105, 106, 107], []⟩, ⟨[4, 3, 1, 0, 2, 6, 5], [], [], []⟩, ⟨[7, 4, 3, 1, 0, 2, 6, 5], [], [], []⟩, ⟨[8, 7, 4, 3, 1, 0, 2, 6, 5], [], [114, 116, 117, 118, 119, 120], []⟩, ⟨[9, 8, 7, 4, 3, 1, 0, 2, 6, 5], [], [114, 116, 117, 118, 119, 120], []⟩, ⟨[8, 7, 4, 3, 1, 0, 2, 6, 5], [], [112, 113, 116, 117, 118, 119, 120], []⟩, ⟨[10, 9, 8, 7, 4, 3, 1, 0, 2, 6, 5, 11], [], [116, 117, 118, 119, 120], []⟩, ⟨[8, 7, 4, 3, 1, 0, 2, 6, 5], [], [112, 113, 114, 115, 118], []⟩, ⟨[13, 8, 7, 4, 3, 1, 0, 2, 6, 5], [], [112, 113, 114, 115, 118], []⟩, ⟨[8, 7, 4, 3, 1, 0, 2, 6, 5], [], [112, 113, 114, 115, 116, 117], []⟩, ⟨[14, 13, 8, 7, 4, 3, 1, 0, 2, 6, 5, 15], [], [112, 113, 114, 115], []⟩, ⟨[16, 14, 13, 8, 7, 4, 3, 1, 0, 2, 6, 5, 15], [], [112, 113, 114, 115], []⟩, ⟨[12, 10, 9, 8, 7, 4, 3, 1, 0, 2, 6, 5, 11, 17, 16, 14, 13, 15], [], [], []⟩, ⟨[8, 7, 4, 3, 1, 0, 2, 6, 5, 18, 12, 10, 9, 11, 17, 16, 14, 13, 15], [], [], []⟩])], [(100025, R_badOp.c100025r), (27, R_badOp.c27r), (269649, R_badOp.c269649r), (18, R_badOp.c18r), (100011, R_badOp.c100011r), (15, R_badOp.c15r), (13, R_badOp.c13r), (8, R_badOp.c8r), (6, R_badOp.c6r), (4, R_badOp.c4r), (3, R_badOp.c3r), (1, R_badOp.c1r)], [], tab_eqs⟩
theorem R_badOp.eq (x_ : dens [(.st (.pair (.int .i64) (.pair (.int .i64) (.pair (.sl (.int .i64)) (.pair (.int .i64) (.pair (.int .i64) (.sl (.int .i64)))))))), (.int .i64), (.int .i64)]) : den R_badOp.G Go.Proofs.Tryd.f43 [(.st (.pair (.int .i64) (.pair (.int .i64) (.pair (.sl (.int .i64)) (.pair (.int .i64) (.pair (.int .i64) (.sl (.int .i64)))))))), (.int .i64), (.int .i64)] [(.int .i64)] x_ = R_badOp x_.1 x_.2.1 x_.2.2 := by kernel_rfl
theorem R_badOp.p0 : PieceOk R_badOp.G (pieceAt (pieces R_badOp.G.cks (bodyOf Go.Proofs.Tryd.f43)) 0).1 (pieceAt (pieces R_badOp.G.cks (bodyOf Go.Proofs.Tryd.f43)) 0).2 :=
  region_ok (s := R_badOp.c1r) (by kernel_rfl) (by kernel_rfl) (sums_of (sh := R_badOp.c1s) (fun ρ x_ k_ => (nat_br nat_leaf nat_leaf)) (fun ρ x_ t k => (by kernel_rfl)) (fun x_ => by kernel_rfl))
theorem R_badOp.p1 : PieceOk R_badOp.G (pieceAt (pieces R_badOp.G.cks (bodyOf Go.Proofs.Tryd.f43)) 1).1 (pieceAt (pieces R_badOp.G.cks (bodyOf Go.Proofs.Tryd.f43)) 1).2 :=
  region_ok (s := R_badOp.c3r) (by kernel_rfl) (by kernel_rfl) (sums_of (sh := R_badOp.c3s) (fun ρ x_ k_ => (nat_br nat_leaf nat_leaf)) (fun ρ x_ t k => (by kernel_rfl)) (fun x_ => by kernel_rfl))
theorem R_badOp.p2 : PieceOk R_badOp.G (pieceAt (pieces R_badOp.G.cks (bodyOf Go.Proofs.Tryd.f43)) 2).1 (pieceAt (pieces R_badOp.G.cks (bodyOf Go.Proofs.Tryd.f43)) 2).2 :=
  region_ok (s := R_badOp.c4r) (by kernel_rfl) (by kernel_rfl) (sums_of (sh := R_badOp.c4s) (fun ρ x_ k_ => (nat_br nat_leaf (nat_br nat_leaf (nat_br nat_leaf nat_leaf)))) (fun ρ x_ t k => (by kernel_rfl)) (fun x_ => by kernel_rfl))
theorem R_badOp.p3 : PieceOk R_badOp.G (pieceAt (pieces R_badOp.G.cks (bodyOf Go.Proofs.Tryd.f43)) 3).1 (pieceAt (pieces R_badOp.G.cks (bodyOf Go.Proofs.Tryd.f43)) 3).2 :=
  region_ok (s := R_badOp.c6r) (by kernel_rfl) (by kernel_rfl) (sums_of (sh := R_badOp.c6s) (fun ρ x_ k_ => (nat_br nat_leaf (nat_br nat_leaf (nat_br nat_leaf nat_leaf)))) (fun ρ x_ t k => (by kernel_rfl)) (fun x_ => by kernel_rfl))
theorem R_badOp.p4 : PieceOk R_badOp.G (pieceAt (pieces R_badOp.G.cks (bodyOf Go.Proofs.Tryd.f43)) 4).1 (pieceAt (pieces R_badOp.G.cks (bodyOf Go.Proofs.Tryd.f43)) 4).2 :=
  region_ok (s := R_badOp.c8r) (by kernel_rfl) (by kernel_rfl) (sums_of (sh := R_badOp.c8s) (fun ρ x_ k_ => (nat_br (nat_br (nat_br nat_leaf nat_leaf) nat_leaf) nat_leaf)) (fun ρ x_ t k => (by kernel_rfl)) (fun x_ => by kernel_rfl))
theorem R_badOp.p5 : PieceOk R_badOp.G (pieceAt (pieces R_badOp.G.cks (bodyOf Go.Proofs.Tryd.f43)) 5).1 (pieceAt (pieces R_badOp.G.cks (bodyOf Go.Proofs.Tryd.f43)) 5).2 :=
  loop_ok (s := R_badOp.c100011r) (by kernel_rfl) (by kernel_rfl) (loops_of (sh := R_badOp.c100011s) (I := fun x_ s_ => (x_.1, x_.2.1, x_.2.2.1, x_.2.2.2.1, x_.2.2.2.2.1, s_, x_.2.2.2.2.2.2.1, x_.2.2.2.2.2.2.2.1, x_.2.2.2.2.2.2.2.2.1, x_.2.2.2.2.2.2.2.2.2.1, x_.2.2.2.2.2.2.2.2.2.2.1, x_.2.2.2.2.2.2.2.2.2.2.2.1, ())) (fun x_ => rfl) (fun ρ x_ s_ k_ => (nat_br (nat_bnd fun _ => (nat_br nat_leaf (nat_bnd fun _ => (nat_br nat_leaf nat_leaf)))) nat_leaf)) (fun ρ x_ t k => (nat_sel (fun _ => (by kernel_rfl)) (fun _ => (by kernel_rfl)))) (fun x_ s => by kernel_rfl))
theorem R_badOp.p6 : PieceOk R_badOp.G (pieceAt (pieces R_badOp.G.cks (bodyOf Go.Proofs.Tryd.f43)) 6).1 (pieceAt (pieces R_badOp.G.cks (bodyOf Go.Proofs.Tryd.f43)) 6).2 :=
  region_ok (s := R_badOp.c13r) (by kernel_rfl) (by kernel_rfl) (sums_of (sh := R_badOp.c13s) (fun ρ x_ k_ => (nat_bnd fun _ => (nat_br nat_leaf (nat_bnd fun _ => nat_leaf)))) (fun ρ x_ t k => (by kernel_rfl)) (fun x_ => by kernel_rfl))
theorem R_badOp.p7 : PieceOk R_badOp.G (pieceAt (pieces R_badOp.G.cks (bodyOf Go.Proofs.Tryd.f43)) 7).1 (pieceAt (pieces R_badOp.G.cks (bodyOf Go.Proofs.Tryd.f43)) 7).2 :=
  region_ok (s := R_badOp.c15r) (by kernel_rfl) (by kernel_rfl) (sums_of (sh := R_badOp.c15s) (fun ρ x_ k_ => (nat_bnd fun _ => (nat_br nat_leaf (nat_bnd fun _ => (nat_bnd fun _ => (nat_bnd fun _ => nat_leaf)))))) (fun ρ x_ t k => (by kernel_rfl)) (fun x_ => by kernel_rfl))
theorem R_badOp.p8 : PieceOk R_badOp.G (pieceAt (pieces R_badOp.G.cks (bodyOf Go.Proofs.Tryd.f43)) 8).1 (pieceAt (pieces R_badOp.G.cks (bodyOf Go.Proofs.Tryd.f43)) 8).2 :=
  join_ok (s := R_badOp.c269649r) (by kernel_rfl) (by kernel_rfl) (sums_of (sh := R_badOp.c269649s) (fun ρ x_ k_ => (nat_br (nat_bnd fun _ => (nat_br nat_leaf nat_leaf)) (nat_br nat_leaf nat_leaf))) (fun ρ x_ t k => (nat_sel (fun _ => (by kernel_rfl)) (fun _ => (by kernel_rfl)))) (fun x_ => by kernel_rfl))
theorem R_badOp.p9 : PieceOk R_badOp.G (pieceAt (pieces R_badOp.G.cks (bodyOf Go.Proofs.Tryd.f43)) 9).1 (pieceAt (pieces R_badOp.G.cks (bodyOf Go.Proofs.Tryd.f43)) 9).2 :=
  region_ok (s := R_badOp.c18r) (by kernel_rfl) (by kernel_rfl) (sums_of (sh := R_badOp.c18s) (fun ρ x_ k_ => (nat_br nat_leaf nat_leaf)) (fun ρ x_ t k => (by kernel_rfl)) (fun x_ => by kernel_rfl))
theorem R_badOp.p10 : PieceOk R_badOp.G (pieceAt (pieces R_badOp.G.cks (bodyOf Go.Proofs.Tryd.f43)) 10).1 (pieceAt (pieces R_badOp.G.cks (bodyOf Go.Proofs.Tryd.f43)) 10).2 :=
  loop_ok (s := R_badOp.c100025r) (by kernel_rfl) (by kernel_rfl) (loops_of (sh := R_badOp.c100025s) (I := fun x_ s_ => (x_.1, x_.2.1, x_.2.2.1, x_.2.2.2.1, x_.2.2.2.2.1, x_.2.2.2.2.2.1, s_, x_.2.2.2.2.2.2.2.1, x_.2.2.2.2.2.2.2.2.1, x_.2.2.2.2.2.2.2.2.2.1, x_.2.2.2.2.2.2.2.2.2.2.1, x_.2.2.2.2.2.2.2.2.2.2.2.1, x_.2.2.2.2.2.2.2.2.2.2.2.2.1, ())) (fun x_ => rfl) (fun ρ x_ s_ k_ => (nat_br (nat_bnd fun _ => (nat_br nat_leaf nat_leaf)) nat_leaf)) (fun ρ x_ t k => (nat_sel (fun _ => (by kernel_rfl)) (fun _ => (by kernel_rfl)))) (fun x_ s => by kernel_rfl))
theorem R_badOp.p11 : PieceOk R_badOp.G (pieceAt (pieces R_badOp.G.cks (bodyOf Go.Proofs.Tryd.f43)) 11).1 (pieceAt (pieces R_badOp.G.cks (bodyOf Go.Proofs.Tryd.f43)) 11).2 :=
  region_ok (s := R_badOp.c27r) (by kernel_rfl) (by kernel_rfl) (sums_of (sh := R_badOp.c27s) (fun ρ x_ k_ => (nat_bnd fun _ => (nat_br nat_leaf (nat_bnd fun _ => (nat_br nat_leaf (nat_bnd fun _ => nat_leaf)))))) (fun ρ x_ t k => (by kernel_rfl)) (fun x_ => by kernel_rfl))
theorem R_badOp.ok : CalleeOk Go.Proofs.Tryd.prog 43 R_badOp.ce := fn_ok (G := R_badOp.G) tab_ok mixed Go.Proofs.Tryd.func43 ⟨(fns_cons R_member.ok fns_nil), mfns_nil, tab_eqs_ok⟩ (m := 12) (by kernel_rfl) ⟨⟨⟨⟨⟨⟨⟨⟨⟨⟨⟨⟨trivial, R_badOp.p0⟩, R_badOp.p1⟩, R_badOp.p2⟩, R_badOp.p3⟩, R_badOp.p4⟩, R_badOp.p5⟩, R_badOp.p6⟩, R_badOp.p7⟩, R_badOp.p8⟩, R_badOp.p9⟩, R_badOp.p10⟩, R_badOp.p11⟩ (by kernel_rfl) R_badOp.eq
def R_Check.c1 {ρ : Type} (c0 : Int) (k_ : Bool → Option ρ) : Option ρ :=
  br (decide (c0 < (1 : Int)))
   (k_ true)
   (k_ (decide (c0 > (12 : Int))))
def R_Check.c1s : Shape := ⟨[(0, q10), (1, q11), (2, q5)], [(1, q4), (2, q12)]⟩
def R_Check.c1x0 : Shape := ⟨[(0, q10), (1, q11), (2, q5), (12, q1)], [(1, q4), (2, q12)]⟩
def R_Check.c1r : Ck := Ck.of (T := Bool) R_Check.c1s (fun ρ x_ k_ => uP x_ fun c x_ => uP x_ fun c0 x_ => uP x_ fun c1 x_ => uP x_ fun c2 x_ => uP x_ fun t20 x_ => uP x_ fun t21 x_ => R_Check.c1 c0 k_) (fun ρ x_ r_ k_ => uP x_ fun c x_ => uP x_ fun c0 x_ => uP x_ fun c1 x_ => uP x_ fun c2 x_ => uP x_ fun t20 x_ => uP x_ fun t21 x_ => k_ 0 (Shape.inj R_Check.c1x0 (c, r_, c0, c1, c2, t20, t21, ())))
def R_Check.c3 {ρ : Type} (c1 : Int) (k_ : Bool → Option ρ) : Option ρ :=
  br (decide (c1 < (0 : Int)))
   (k_ true)
   (k_ (decide (c1 > (12 : Int))))
def R_Check.c3s : Shape := ⟨[(0, q10), (1, q11), (2, q5)], [(1, q4), (2, q12)]⟩
def R_Check.c3x0 : Shape := ⟨[(0, q10), (1, q11), (2, q5), (21, q1)], [(1, q4), (2, q12)]⟩
def R_Check.c3r : Ck := Ck.of (T := Bool) R_Check.c3s (fun ρ x_ k_ => uP x_ fun c x_ => uP x_ fun c0 x_ => uP x_ fun c1 x_ => uP x_ fun c2 x_ => uP x_ fun t20 x_ => uP x_ fun t21 x_ => R_Check.c3 c1 k_) (fun ρ x_ r_ k_ => uP x_ fun c x_ => uP x_ fun c0 x_ => uP x_ fun c1 x_ => uP x_ fun c2 x_ => uP x_ fun t20 x_ => uP x_ fun t21 x_ => k_ 0 (Shape.inj R_Check.c3x0 (c, r_, c0, c1, c2, t20, t21, ())))
def R_Check.c10 {ρ : Type} (i : Int) (c0 : Int) (c1 : Int) (c2 : List ((Int) × ((Int) × ((List Int) × ((Int) × ((Int) × (List Int))))))) (k_ : Int → Option ρ) : Option ρ :=
  bnd (idx c2 i) fun y =>
  bnd (W.R_badOp y c0 c1) fun y_1 =>
  k_ y_1
def R_Check.c10s : Shape := ⟨[(0, q10), (1, q11), (2, q5), (3, q0)], [(1, q4), (2, q12)]⟩
def R_Check.c10x0 : Shape := ⟨[(0, q10), (1, q11), (2, q5), (3, q0), (4, q0)], [(1, q4), (2, q12)]⟩
def R_Check.c10r : Ck := Ck.of (T := Int) R_Check.c10s (fun ρ x_ k_ => uP x_ fun c x_ => uP x_ fun i x_ => uP x_ fun c0 x_ => uP x_ fun c1 x_ => uP x_ fun c2 x_ => uP x_ fun t20 x_ => uP x_ fun t21 x_ => R_Check.c10 i c0 c1 c2 k_) (fun ρ x_ r_ k_ => uP x_ fun c x_ => uP x_ fun i x_ => uP x_ fun c0 x_ => uP x_ fun c1 x_ => uP x_ fun c2 x_ => uP x_ fun t20 x_ => uP x_ fun t21 x_ => k_ 0 (Shape.inj R_Check.c10x0 (c, i, r_, c0, c1, c2, t20, t21, ())))
def R_Check.c100008 {ρ : Type} (i : Int) (c0 : Int) (c1 : Int) (c2 : List ((Int) × ((Int) × ((List Int) × ((Int) × ((Int) × (List Int))))))) (k_ : (Int) ⊕ (((Int) × (Int) × (Int)) ⊕ (Int)) → Option ρ) : Option ρ :=
  br (decide (i < (↑(List.length c2) : Int)))
   (bnd (W.R_Check.c10 i c0 c1 c2 some) fun y =>
    br (y != (0 : Int))
     (bnd (W.R_rfault y i) fun y_1 =>
      k_ (.inr (.inl (i, (Prod.fst y_1), (Prod.snd y_1)))))
     (k_ (.inl (IntKind.wrap IntKind.i64 (i + (1 : Int))))))
   (k_ (.inr (.inr i)))
def R_Check.c100008s : Shape := ⟨[(0, q10), (1, q11), (2, q5), (3, q0)], [(1, q4), (2, q12)]⟩
def R_Check.c100008x0 : Shape := ⟨[(0, q10), (1, q11), (2, q5), (3, q0)], [(1, q4), (2, q12)]⟩
def R_Check.c100008x1 : Shape := ⟨[(0, q10), (1, q11), (2, q5), (3, q0)], [(1, q4), (2, q12)]⟩
def R_Check.c100008r : Ck := Ck.ofLoop (S := Int) (T := ((Int) × (Int) × (Int)) ⊕ (Int)) R_Check.c100008s (fun x_ => uP x_ fun c x_ => uP x_ fun i x_ => uP x_ fun c0 x_ => uP x_ fun c1 x_ => uP x_ fun c2 x_ => uP x_ fun t20 x_ => uP x_ fun t21 x_ => i) (fun ρ x_ s_ k_ => uP x_ fun c x_ => uP x_ fun i x_ => uP x_ fun c0 x_ => uP x_ fun c1 x_ => uP x_ fun c2 x_ => uP x_ fun t20 x_ => uP x_ fun t21 x_ => R_Check.c100008 s_ c0 c1 c2 k_) (fun ρ x_ r_ k_ => uP x_ fun c x_ => uP x_ fun i x_ => uP x_ fun c0 x_ => uP x_ fun c1 x_ => uP x_ fun c2 x_ => uP x_ fun t20 x_ => uP x_ fun t21 x_ => sel r_ (fun r_ => k_ 1 (Shape.inj R_Check.c100008x0 (c, r_.1, c0, c1, c2, r_.2.1, r_.2.2, ()))) (fun r_ => k_ 2 (Shape.inj R_Check.c100008x1 (c, r_, c0, c1, c2, t20, t21, ()))))
def R_Check (c : (Int) × ((Int) × (List ((Int) × ((Int) × ((List Int) × ((Int) × ((Int) × (List Int))))))))) : Option ((Int) × (Int)) :=
  bnd (W.R_Check.c1 (Prod.fst c) some) fun y =>
  br y
   (bnd (W.R_rfault (6 : Int) (0 : Int)) fun y_1 =>
    some (Prod.fst y_1, Prod.snd y_1))
   (bnd (W.R_Check.c3 (Prod.fst (Prod.snd c)) some) fun y_2 =>
    br y_2
     (bnd (W.R_rfault (7 : Int) (0 : Int)) fun y_3 =>
      some (Prod.fst y_3, Prod.snd y_3))
     (br (decide ((↑(List.length (Prod.snd (Prod.snd c))) : Int) > (4096 : Int)))
       (bnd (W.R_rfault (2 : Int) (0 : Int)) fun y_4 =>
        some (Prod.fst y_4, Prod.snd y_4))
       (bnd (iter (fun s ↦ W.R_Check.c100008 s (Prod.fst c) (Prod.fst (Prod.snd c)) (Prod.snd (Prod.snd c)) some) (0 : Int)) fun y_5 =>
        sel y_5
         (fun u => some (Prod.fst (Prod.snd u), Prod.snd (Prod.snd u)))
         (fun v => some ((0 : Int), (0 : Int))))))
def R_Check.ce : Go.Ql.Callee := ⟨[(.st (.pair (.int .i64) (.pair (.int .i64) (.sl (.st (.pair (.int .i64) (.pair (.int .i64) (.pair (.sl (.int .i64)) (.pair (.int .i64) (.pair (.int .i64) (.sl (.int .i64))))))))))))], [(.st (.pair (.int .i64) (.int .i64)))], fun x_ => R_Check x_⟩
def R_Check.G : Env := ⟨51, tab, [(42, R_rfault.ce), (43, R_badOp.ce)], [0, 1, 2, 3, 4, 12, 21, 26, 32, 46], [], [(10, [⟨[], [], [37, 40, 41, 42, 43], []⟩, ⟨[0], [], [37, 40, 41, 42, 43], []⟩, ⟨[], [], [35, 36, 40, 41, 42, 43], []⟩, ⟨[1, 0, 2], [], [40, 41, 42, 43], []⟩, ⟨[3, 1, 0, 2], [], [40, 41, 42, 43], []⟩, ⟨[], [], [35, 36, 37, 38, 39, 42, 43], []⟩, ⟨[5], [], [35, 36, 37, 38, 39, 42, 43], []⟩, ⟨[], [], [35, 36, 37, 38, 39, 40, 41], []⟩, ⟨[7], [], [35, 36, 37, 38, 39, 40, 41], []⟩, ⟨[4, 3, 1, 0, 2, 6, 5, 8, 7], [], [], []⟩, ⟨[9, 4, 3, 1, 0, 2, 6, 5, 8, 7], [], [], []⟩])], [(100008, R_Check.c100008r), (10, R_Check.c10r), (3, R_Check.c3r), (1, R_Check.c1r)], [], tab_eqs⟩
theorem R_Check.eq (x_ : dens [(.st (.pair (.int .i64) (.pair (.int .i64) (.sl (.st (.pair (.int .i64) (.pair (.int .i64) (.pair (.sl (.int .i64)) (.pair (.int .i64) (.pair (.int .i64) (.sl (.int .i64))))))))))))]) : den R_Check.G Go.Proofs.Tryd.f15 [(.st (.pair (.int .i64) (.pair (.int .i64) (.sl (.st (.pair (.int .i64) (.pair (.int .i64) (.pair (.sl (.int .i64)) (.pair (.int .i64) (.pair (.int .i64) (.sl (.int .i64))))))))))))] [(.st (.pair (.int .i64) (.int .i64)))] x_ = R_Check x_ := by kernel_rfl
theorem R_Check.p0 : PieceOk R_Check.G (pieceAt (pieces R_Check.G.cks (bodyOf Go.Proofs.Tryd.f15)) 0).1 (pieceAt (pieces R_Check.G.cks (bodyOf Go.Proofs.Tryd.f15)) 0).2 :=
  region_ok (s := R_Check.c1r) (by kernel_rfl) (by kernel_rfl) (sums_of (sh := R_Check.c1s) (fun ρ x_ k_ => (nat_br nat_leaf nat_leaf)) (fun ρ x_ t k => (by kernel_rfl)) (fun x_ => by kernel_rfl))
theorem R_Check.p1 : PieceOk R_Check.G (pieceAt (pieces R_Check.G.cks (bodyOf Go.Proofs.Tryd.f15)) 1).1 (pieceAt (pieces R_Check.G.cks (bodyOf Go.Proofs.Tryd.f15)) 1).2 :=
  region_ok (s := R_Check.c3r) (by kernel_rfl) (by kernel_rfl) (sums_of (sh := R_Check.c3s) (fun ρ x_ k_ => (nat_br nat_leaf nat_leaf)) (fun ρ x_ t k => (by kernel_rfl)) (fun x_ => by kernel_rfl))
theorem R_Check.p2 : PieceOk R_Check.G (pieceAt (pieces R_Check.G.cks (bodyOf Go.Proofs.Tryd.f15)) 2).1 (pieceAt (pieces R_Check.G.cks (bodyOf Go.Proofs.Tryd.f15)) 2).2 :=
  loop_ok (s := R_Check.c100008r) (by kernel_rfl) (by kernel_rfl) (loops_of (sh := R_Check.c100008s) (I := fun x_ s_ => (x_.1, s_, x_.2.2.1, x_.2.2.2.1, x_.2.2.2.2.1, x_.2.2.2.2.2.1, x_.2.2.2.2.2.2.1, ())) (fun x_ => rfl) (fun ρ x_ s_ k_ => (nat_br (nat_bnd fun _ => (nat_br (nat_bnd fun _ => nat_leaf) nat_leaf)) nat_leaf)) (fun ρ x_ t k => (nat_sel (fun _ => (by kernel_rfl)) (fun _ => (by kernel_rfl)))) (fun x_ s => by kernel_rfl))
theorem R_Check.p3 : PieceOk R_Check.G (pieceAt (pieces R_Check.G.cks (bodyOf Go.Proofs.Tryd.f15)) 3).1 (pieceAt (pieces R_Check.G.cks (bodyOf Go.Proofs.Tryd.f15)) 3).2 :=
  region_ok (s := R_Check.c10r) (by kernel_rfl) (by kernel_rfl) (sums_of (sh := R_Check.c10s) (fun ρ x_ k_ => (nat_bnd fun _ => (nat_bnd fun _ => nat_leaf))) (fun ρ x_ t k => (by kernel_rfl)) (fun x_ => by kernel_rfl))
theorem R_Check.ok : CalleeOk Go.Proofs.Tryd.prog 15 R_Check.ce := fn_ok (G := R_Check.G) tab_ok mixed Go.Proofs.Tryd.func15 ⟨(fns_cons R_rfault.ok (fns_cons R_badOp.ok fns_nil)), mfns_nil, tab_eqs_ok⟩ (m := 4) (by kernel_rfl) ⟨⟨⟨⟨trivial, R_Check.p0⟩, R_Check.p1⟩, R_Check.p2⟩, R_Check.p3⟩ (by kernel_rfl) R_Check.eq
def R_Pure.c7 {ρ : Type} (i : Int) (c2 : List ((Int) × ((Int) × ((List Int) × ((Int) × ((Int) × (List Int))))))) (k_ : Bool → Option ρ) : Option ρ :=
  bnd (idx c2 i) fun y =>
  br (decide (Prod.fst y ≥ (5 : Int)))
   (k_ true)
   (bnd (idx c2 i) fun y_1 =>
    k_ (decide ((↑(List.length (Prod.snd (Prod.snd (Prod.snd (Prod.snd (Prod.snd y_1)))))) : Int) > (0 : Int))))
def R_Pure.c7s : Shape := ⟨[(0, q10), (1, q11), (2, q5), (3, q24), (4, q0)], [(1, q4), (2, q12), (3, q12)]⟩
def R_Pure.c7x0 : Shape := ⟨[(0, q10), (1, q11), (2, q5), (3, q24), (4, q0), (34, q1)], [(1, q4), (2, q12), (3, q12)]⟩
def R_Pure.c7r : Ck := Ck.of (T := Bool) R_Pure.c7s (fun ρ x_ k_ => uP x_ fun c x_ => uP x_ fun i x_ => uP x_ fun c0 x_ => uP x_ fun c1 x_ => uP x_ fun c2 x_ => uP x_ fun t20 x_ => uP x_ fun t21 x_ => uP x_ fun f0 x_ => uP x_ fun f1 x_ => R_Pure.c7 i c2 k_) (fun ρ x_ r_ k_ => uP x_ fun c x_ => uP x_ fun i x_ => uP x_ fun c0 x_ => uP x_ fun c1 x_ => uP x_ fun c2 x_ => uP x_ fun t20 x_ => uP x_ fun t21 x_ => uP x_ fun f0 x_ => uP x_ fun f1 x_ => k_ 0 (Shape.inj R_Pure.c7x0 (c, i, r_, c0, c1, c2, t20, t21, f0, f1, ())))
def R_Pure.c100005 {ρ : Type} (i : Int) (c2 : List ((Int) × ((Int) × ((List Int) × ((Int) × ((Int) × (List Int))))))) (k_ : (Int) ⊕ (((Int) × (Int) × (Int)) ⊕ (Int)) → Option ρ) : Option ρ :=
  br (decide (i < (↑(List.length c2) : Int)))
   (bnd (W.R_Pure.c7 i c2 some) fun y =>
    br y
     (bnd (W.R_rfault (15 : Int) i) fun y_1 =>
      k_ (.inr (.inl (i, (Prod.fst y_1), (Prod.snd y_1)))))
     (k_ (.inl (IntKind.wrap IntKind.i64 (i + (1 : Int))))))
   (k_ (.inr (.inr i)))
def R_Pure.c100005s : Shape := ⟨[(0, q10), (1, q11), (2, q5), (3, q24), (4, q0)], [(1, q4), (2, q12), (3, q12)]⟩
def R_Pure.c100005x0 : Shape := ⟨[(0, q10), (1, q11), (2, q5), (3, q24), (4, q0)], [(1, q4), (2, q12), (3, q12)]⟩
def R_Pure.c100005x1 : Shape := ⟨[(0, q10), (1, q11), (2, q5), (3, q24), (4, q0)], [(1, q4), (2, q12), (3, q12)]⟩
def R_Pure.c100005r : Ck := Ck.ofLoop (S := Int) (T := ((Int) × (Int) × (Int)) ⊕ (Int)) R_Pure.c100005s (fun x_ => uP x_ fun c x_ => uP x_ fun i x_ => uP x_ fun c0 x_ => uP x_ fun c1 x_ => uP x_ fun c2 x_ => uP x_ fun t20 x_ => uP x_ fun t21 x_ => uP x_ fun f0 x_ => uP x_ fun f1 x_ => i) (fun ρ x_ s_ k_ => uP x_ fun c x_ => uP x_ fun i x_ => uP x_ fun c0 x_ => uP x_ fun c1 x_ => uP x_ fun c2 x_ => uP x_ fun t20 x_ => uP x_ fun t21 x_ => uP x_ fun f0 x_ => uP x_ fun f1 x_ => R_Pure.c100005 s_ c2 k_) (fun ρ x_ r_ k_ => uP x_ fun c x_ => uP x_ fun i x_ => uP x_ fun c0 x_ => uP x_ fun c1 x_ => uP x_ fun c2 x_ => uP x_ fun t20 x_ => uP x_ fun t21 x_ => uP x_ fun f0 x_ => uP x_ fun f1 x_ => sel r_ (fun r_ => k_ 1 (Shape.inj R_Pure.c100005x0 (c, r_.1, c0, c1, c2, r_.2.1, r_.2.2, f0, f1, ()))) (fun r_ => k_ 2 (Shape.inj R_Pure.c100005x1 (c, r_, c0, c1, c2, t20, t21, f0, f1, ()))))
def R_Pure (c : (Int) × ((Int) × (List ((Int) × ((Int) × ((List Int) × ((Int) × ((Int) × (List Int))))))))) : Option ((Int) × (Int)) :=
  bnd (W.R_Check (Prod.fst c, Prod.fst (Prod.snd c), Prod.snd (Prod.snd c))) fun y =>
  br (Prod.fst y != (0 : Int))
   (some (Prod.fst y, Prod.snd y))
   (bnd (iter (fun s ↦ W.R_Pure.c100005 s (Prod.snd (Prod.snd c)) some) (0 : Int)) fun y_1 =>
    sel y_1
     (fun u => some (Prod.fst (Prod.snd u), Prod.snd (Prod.snd u)))
     (fun v => some (Prod.fst y, Prod.snd y)))
def R_Pure.ce : Go.Ql.Callee := ⟨[(.st (.pair (.int .i64) (.pair (.int .i64) (.sl (.st (.pair (.int .i64) (.pair (.int .i64) (.pair (.sl (.int .i64)) (.pair (.int .i64) (.pair (.int .i64) (.sl (.int .i64))))))))))))], [(.st (.pair (.int .i64) (.int .i64)))], fun x_ => R_Pure x_⟩
def R_Pure.G : Env := ⟨38, tab, [(15, R_Check.ce), (42, R_rfault.ce)], [0, 1, 2, 3, 4, 9, 15, 34], [], [], [(100005, R_Pure.c100005r), (7, R_Pure.c7r)], [], tab_eqs⟩
theorem R_Pure.eq (x_ : dens [(.st (.pair (.int .i64) (.pair (.int .i64) (.sl (.st (.pair (.int .i64) (.pair (.int .i64) (.pair (.sl (.int .i64)) (.pair (.int .i64) (.pair (.int .i64) (.sl (.int .i64))))))))))))]) : den R_Pure.G Go.Proofs.Tryd.f17 [(.st (.pair (.int .i64) (.pair (.int .i64) (.sl (.st (.pair (.int .i64) (.pair (.int .i64) (.pair (.sl (.int .i64)) (.pair (.int .i64) (.pair (.int .i64) (.sl (.int .i64))))))))))))] [(.st (.pair (.int .i64) (.int .i64)))] x_ = R_Pure x_ := by kernel_rfl
theorem R_Pure.p0 : PieceOk R_Pure.G (pieceAt (pieces R_Pure.G.cks (bodyOf Go.Proofs.Tryd.f17)) 0).1 (pieceAt (pieces R_Pure.G.cks (bodyOf Go.Proofs.Tryd.f17)) 0).2 :=
  loop_ok (s := R_Pure.c100005r) (by kernel_rfl) (by kernel_rfl) (loops_of (sh := R_Pure.c100005s) (I := fun x_ s_ => (x_.1, s_, x_.2.2.1, x_.2.2.2.1, x_.2.2.2.2.1, x_.2.2.2.2.2.1, x_.2.2.2.2.2.2.1, x_.2.2.2.2.2.2.2.1, x_.2.2.2.2.2.2.2.2.1, ())) (fun x_ => rfl) (fun ρ x_ s_ k_ => (nat_br (nat_bnd fun _ => (nat_br (nat_bnd fun _ => nat_leaf) nat_leaf)) nat_leaf)) (fun ρ x_ t k => (nat_sel (fun _ => (by kernel_rfl)) (fun _ => (by kernel_rfl)))) (fun x_ s => by kernel_rfl))
theorem R_Pure.p1 : PieceOk R_Pure.G (pieceAt (pieces R_Pure.G.cks (bodyOf Go.Proofs.Tryd.f17)) 1).1 (pieceAt (pieces R_Pure.G.cks (bodyOf Go.Proofs.Tryd.f17)) 1).2 :=
  region_ok (s := R_Pure.c7r) (by kernel_rfl) (by kernel_rfl) (sums_of (sh := R_Pure.c7s) (fun ρ x_ k_ => (nat_bnd fun _ => (nat_br nat_leaf (nat_bnd fun _ => nat_leaf)))) (fun ρ x_ t k => (by kernel_rfl)) (fun x_ => by kernel_rfl))
theorem R_Pure.ok : CalleeOk Go.Proofs.Tryd.prog 17 R_Pure.ce := fn_ok (G := R_Pure.G) tab_ok mixed Go.Proofs.Tryd.func17 ⟨(fns_cons R_Check.ok (fns_cons R_rfault.ok fns_nil)), mfns_nil, tab_eqs_ok⟩ (m := 2) (by kernel_rfl) ⟨⟨trivial, R_Pure.p0⟩, R_Pure.p1⟩ (by kernel_rfl) R_Pure.eq
abbrev q59 : SD := .one (.own 3 0)
def R_copyInts.c100003 {ρ : Type} (l : List (Int)) (i : Int) (out : List (Int)) (k_ : ((Int) × (List Int)) ⊕ ((Int) × (List Int)) → Option ρ) : Option ρ :=
  br (decide (i < (↑(List.length l) : Int)))
   (bnd (idx l i) fun y =>
    bnd (okIf (decide ((List.length out + List.length [y]) * (8 : Nat) ≤ (140737488355328 : Nat)) && decide (List.length out + List.length [y] ≤ (140737488355328 : Nat)))) fun y_1 =>
    k_ (.inl ((IntKind.wrap IntKind.i64 (i + (1 : Int))), (out ++ [y]))))
   (k_ (.inr (i, out)))
def R_copyInts.c100003s : Shape := ⟨[(0, q8), (2, q8), (3, q59), (4, q0)], [(3, q32)]⟩
def R_copyInts.c100003x0 : Shape := ⟨[(0, q8), (2, q8), (3, q59), (4, q0)], [(3, q32)]⟩
def R_copyInts.c100003r : Ck := Ck.ofLoop (S := (Int) × (List Int)) (T := (Int) × (List Int)) R_copyInts.c100003s (fun x_ => uP x_ fun l x_ => uP x_ fun t2 x_ => uP x_ fun i x_ => uP x_ fun out x_ => (i, out)) (fun ρ x_ s_ k_ => uP x_ fun l x_ => uP x_ fun t2 x_ => uP x_ fun i x_ => uP x_ fun out x_ => R_copyInts.c100003 l s_.1 s_.2 k_) (fun ρ x_ r_ k_ => uP x_ fun l x_ => uP x_ fun t2 x_ => uP x_ fun i x_ => uP x_ fun out x_ => k_ 2 (Shape.inj R_copyInts.c100003x0 (l, t2, r_.1, r_.2, ())))
def R_copyInts (l : List (Int)) : Option (List Int) :=
  bnd (iter (fun s ↦ W.R_copyInts.c100003 l (Prod.fst s) (Prod.snd s) some) ((0 : Int), [])) fun y =>
  some (Prod.snd y)
def R_copyInts.ce : Go.Ql.Callee := ⟨[(.sl (.int .i64))], [(.sl (.int .i64))], fun x_ => R_copyInts x_⟩
def R_copyInts.G : Env := ⟨19, tab, [], [0, 2, 3, 4, 8], [3], [], [(100003, R_copyInts.c100003r)], [], tab_eqs⟩
theorem R_copyInts.eq (x_ : dens [(.sl (.int .i64))]) : den R_copyInts.G Go.Proofs.Tryd.f67 [(.sl (.int .i64))] [(.sl (.int .i64))] x_ = R_copyInts x_ := by kernel_rfl
theorem R_copyInts.p0 : PieceOk R_copyInts.G (pieceAt (pieces R_copyInts.G.cks (bodyOf Go.Proofs.Tryd.f67)) 0).1 (pieceAt (pieces R_copyInts.G.cks (bodyOf Go.Proofs.Tryd.f67)) 0).2 :=
  loop_ok (s := R_copyInts.c100003r) (by kernel_rfl) (by kernel_rfl) (loops_of (sh := R_copyInts.c100003s) (I := fun x_ s_ => (x_.1, x_.2.1, s_.1, s_.2, ())) (fun x_ => rfl) (fun ρ x_ s_ k_ => (nat_br (nat_bnd fun _ => (nat_bnd fun _ => nat_leaf)) nat_leaf)) (fun ρ x_ t k => (by kernel_rfl)) (fun x_ s => by kernel_rfl))
theorem R_copyInts.ok : CalleeOk Go.Proofs.Tryd.prog 67 R_copyInts.ce := fn_ok (G := R_copyInts.G) tab_ok mixed Go.Proofs.Tryd.func67 ⟨fns_nil, mfns_nil, tab_eqs_ok⟩ (m := 1) (by kernel_rfl) ⟨trivial, R_copyInts.p0⟩ (by kernel_rfl) R_copyInts.eq
def R_copyOp (o : (Int) × ((Int) × ((List Int) × ((Int) × ((Int) × (List Int)))))) : Option ((Int) × ((Int) × ((List Int) × ((Int) × ((Int) × (List Int)))))) :=
  bnd (W.R_copyInts (Prod.fst (Prod.snd (Prod.snd o)))) fun y =>
  bnd (W.R_copyInts (Prod.snd (Prod.snd (Prod.snd (Prod.snd (Prod.snd o)))))) fun y_1 =>
  some (Prod.fst o, Prod.fst (Prod.snd o), y, Prod.fst (Prod.snd (Prod.snd (Prod.snd o))), Prod.fst (Prod.snd (Prod.snd (Prod.snd (Prod.snd o)))), y_1)
def R_copyOp.ce : Go.Ql.Callee := ⟨[(.st (.pair (.int .i64) (.pair (.int .i64) (.pair (.sl (.int .i64)) (.pair (.int .i64) (.pair (.int .i64) (.sl (.int .i64))))))))], [(.st (.pair (.int .i64) (.pair (.int .i64) (.pair (.sl (.int .i64)) (.pair (.int .i64) (.pair (.int .i64) (.sl (.int .i64))))))))], fun x_ => R_copyOp x_⟩
def R_copyOp.G : Env := ⟨12, tab, [(67, R_copyInts.ce)], [0, 1, 2], [], [], [], [], tab_eqs⟩
theorem R_copyOp.eq (x_ : dens [(.st (.pair (.int .i64) (.pair (.int .i64) (.pair (.sl (.int .i64)) (.pair (.int .i64) (.pair (.int .i64) (.sl (.int .i64))))))))]) : den R_copyOp.G Go.Proofs.Tryd.f37 [(.st (.pair (.int .i64) (.pair (.int .i64) (.pair (.sl (.int .i64)) (.pair (.int .i64) (.pair (.int .i64) (.sl (.int .i64))))))))] [(.st (.pair (.int .i64) (.pair (.int .i64) (.pair (.sl (.int .i64)) (.pair (.int .i64) (.pair (.int .i64) (.sl (.int .i64))))))))] x_ = R_copyOp x_ := by kernel_rfl
theorem R_copyOp.ok : CalleeOk Go.Proofs.Tryd.prog 37 R_copyOp.ce := fn_ok (G := R_copyOp.G) tab_ok mixed Go.Proofs.Tryd.func37 ⟨(fns_cons R_copyInts.ok fns_nil), mfns_nil, tab_eqs_ok⟩ (m := 0) (by kernel_rfl) trivial (by kernel_rfl) R_copyOp.eq
abbrev q60 : SO := .box [.val (.int .i64), .val (.int .i64), .own 3003 0]
def R_CopyCircuit.c5 {ρ : Type} (i : Int) (c2 : List ((Int) × ((Int) × ((List Int) × ((Int) × ((Int) × (List Int))))))) (t3003 : List ((Int) × ((Int) × ((List Int) × ((Int) × ((Int) × (List Int))))))) (k_ : List ((Int) × ((Int) × ((List Int) × ((Int) × ((Int) × (List Int)))))) → Option ρ) : Option ρ :=
  bnd (idx c2 i) fun y =>
  bnd (W.R_copyOp y) fun y_1 =>
  bnd (okIf (decide ((List.length t3003 + List.length [y_1]) * (80 : Nat) ≤ (140737488355328 : Nat)) && decide (List.length t3003 + List.length [y_1] ≤ (140737488355328 : Nat)))) fun y_2 =>
  k_ (t3003 ++ [y_1])
def R_CopyCircuit.c5s : Shape := ⟨[(0, q10), (1, q11), (2, q5), (3, q24), (4, q0)], [(1, q4), (2, q4), (3, q60), (3003, q44)]⟩
def R_CopyCircuit.c5x0 : Shape := ⟨[(0, q10), (1, q11), (2, q5), (3, q24), (4, q0)], [(1, q4), (2, q4), (3, q60), (3003, q44)]⟩
def R_CopyCircuit.c5r : Ck := Ck.of (T := List ((Int) × ((Int) × ((List Int) × ((Int) × ((Int) × (List Int))))))) R_CopyCircuit.c5s (fun ρ x_ k_ => uP x_ fun c x_ => uP x_ fun i x_ => uP x_ fun c0 x_ => uP x_ fun c1 x_ => uP x_ fun c2 x_ => uP x_ fun t20 x_ => uP x_ fun t21 x_ => uP x_ fun t22 x_ => uP x_ fun out0 x_ => uP x_ fun out1 x_ => uP x_ fun t3003 x_ => R_CopyCircuit.c5 i c2 t3003 k_) (fun ρ x_ r_ k_ => uP x_ fun c x_ => uP x_ fun i x_ => uP x_ fun c0 x_ => uP x_ fun c1 x_ => uP x_ fun c2 x_ => uP x_ fun t20 x_ => uP x_ fun t21 x_ => uP x_ fun t22 x_ => uP x_ fun out0 x_ => uP x_ fun out1 x_ => uP x_ fun t3003 x_ => k_ 0 (Shape.inj R_CopyCircuit.c5x0 (c, i, c0, c1, c2, t20, t21, t22, out0, out1, r_, ())))
def R_CopyCircuit.c100003 {ρ : Type} (i : Int) (c2 : List ((Int) × ((Int) × ((List Int) × ((Int) × ((Int) × (List Int))))))) (t3003 : List ((Int) × ((Int) × ((List Int) × ((Int) × ((Int) × (List Int))))))) (k_ : ((Int) × (List ((Int) × ((Int) × ((List Int) × ((Int) × ((Int) × (List Int)))))))) ⊕ ((Int) × (List ((Int) × ((Int) × ((List Int) × ((Int) × ((Int) × (List Int)))))))) → Option ρ) : Option ρ :=
  br (decide (i < (↑(List.length c2) : Int)))
   (bnd (W.R_CopyCircuit.c5 i c2 t3003 some) fun y =>
    k_ (.inl ((IntKind.wrap IntKind.i64 (i + (1 : Int))), y)))
   (k_ (.inr (i, t3003)))
def R_CopyCircuit.c100003s : Shape := ⟨[(0, q10), (1, q11), (2, q5), (3, q24), (4, q0)], [(1, q4), (2, q4), (3, q60), (3003, q44)]⟩
def R_CopyCircuit.c100003x0 : Shape := ⟨[(0, q10), (1, q11), (2, q5), (3, q24), (4, q0)], [(1, q4), (2, q4), (3, q60), (3003, q44)]⟩
def R_CopyCircuit.c100003r : Ck := Ck.ofLoop (S := (Int) × (List ((Int) × ((Int) × ((List Int) × ((Int) × ((Int) × (List Int)))))))) (T := (Int) × (List ((Int) × ((Int) × ((List Int) × ((Int) × ((Int) × (List Int)))))))) R_CopyCircuit.c100003s (fun x_ => uP x_ fun c x_ => uP x_ fun i x_ => uP x_ fun c0 x_ => uP x_ fun c1 x_ => uP x_ fun c2 x_ => uP x_ fun t20 x_ => uP x_ fun t21 x_ => uP x_ fun t22 x_ => uP x_ fun out0 x_ => uP x_ fun out1 x_ => uP x_ fun t3003 x_ => (i, t3003)) (fun ρ x_ s_ k_ => uP x_ fun c x_ => uP x_ fun i x_ => uP x_ fun c0 x_ => uP x_ fun c1 x_ => uP x_ fun c2 x_ => uP x_ fun t20 x_ => uP x_ fun t21 x_ => uP x_ fun t22 x_ => uP x_ fun out0 x_ => uP x_ fun out1 x_ => uP x_ fun t3003 x_ => R_CopyCircuit.c100003 s_.1 c2 s_.2 k_) (fun ρ x_ r_ k_ => uP x_ fun c x_ => uP x_ fun i x_ => uP x_ fun c0 x_ => uP x_ fun c1 x_ => uP x_ fun c2 x_ => uP x_ fun t20 x_ => uP x_ fun t21 x_ => uP x_ fun t22 x_ => uP x_ fun out0 x_ => uP x_ fun out1 x_ => uP x_ fun t3003 x_ => k_ 2 (Shape.inj R_CopyCircuit.c100003x0 (c, r_.1, c0, c1, c2, t20, t21, t22, out0, out1, r_.2, ())))
def R_CopyCircuit (c : (Int) × ((Int) × (List ((Int) × ((Int) × ((List Int) × ((Int) × ((Int) × (List Int))))))))) : Option ((Int) × ((Int) × (List ((Int) × ((Int) × ((List Int) × ((Int) × ((Int) × (List Int))))))))) :=
  bnd (iter (fun s ↦ W.R_CopyCircuit.c100003 (Prod.fst s) (Prod.snd (Prod.snd c)) (Prod.snd s) some) ((0 : Int), [])) fun y =>
  some (Prod.fst c, Prod.fst (Prod.snd c), Prod.snd y)
def R_CopyCircuit.ce : Go.Ql.Callee := ⟨[(.st (.pair (.int .i64) (.pair (.int .i64) (.sl (.st (.pair (.int .i64) (.pair (.int .i64) (.pair (.sl (.int .i64)) (.pair (.int .i64) (.pair (.int .i64) (.sl (.int .i64))))))))))))], [(.st (.pair (.int .i64) (.pair (.int .i64) (.sl (.st (.pair (.int .i64) (.pair (.int .i64) (.pair (.sl (.int .i64)) (.pair (.int .i64) (.pair (.int .i64) (.sl (.int .i64))))))))))))], fun x_ => R_CopyCircuit x_⟩
def R_CopyCircuit.G : Env := ⟨29, tab, [(37, R_copyOp.ce)], [0, 1, 2, 3, 4, 14], [1, 3, 9, 3001, 3003], [(5, [⟨[], [], [19, 20, 21, 22, 23, 24, 25], [25]⟩, ⟨[0], [], [19, 20, 21, 22, 23, 24, 25], [25]⟩, ⟨[], [], [17, 18, 21], []⟩, ⟨[2], [], [17, 18, 21], []⟩, ⟨[], [], [17, 18, 19, 20], []⟩, ⟨[3, 2, 4], [], [17, 18], []⟩, ⟨[5, 3, 2, 4], [], [17, 18], []⟩, ⟨[6, 5, 3, 2, 4], [], [17, 18], []⟩, ⟨[7, 6, 5, 3, 2, 4], [25], [17, 18], []⟩, ⟨[1, 0, 8, 7, 6, 5, 3, 2, 4], [3003], [], []⟩, ⟨[0, 1, 2, 3, 4, 5, 6, 7, 8, 9], [], [], []⟩, ⟨[10, 0, 1, 2, 3, 4, 5, 6, 7, 8, 9], [3], [], []⟩])], [(100003, R_CopyCircuit.c100003r), (5, R_CopyCircuit.c5r)], [], tab_eqs⟩
theorem R_CopyCircuit.eq (x_ : dens [(.st (.pair (.int .i64) (.pair (.int .i64) (.sl (.st (.pair (.int .i64) (.pair (.int .i64) (.pair (.sl (.int .i64)) (.pair (.int .i64) (.pair (.int .i64) (.sl (.int .i64))))))))))))]) : den R_CopyCircuit.G Go.Proofs.Tryd.f11 [(.st (.pair (.int .i64) (.pair (.int .i64) (.sl (.st (.pair (.int .i64) (.pair (.int .i64) (.pair (.sl (.int .i64)) (.pair (.int .i64) (.pair (.int .i64) (.sl (.int .i64))))))))))))] [(.st (.pair (.int .i64) (.pair (.int .i64) (.sl (.st (.pair (.int .i64) (.pair (.int .i64) (.pair (.sl (.int .i64)) (.pair (.int .i64) (.pair (.int .i64) (.sl (.int .i64))))))))))))] x_ = R_CopyCircuit x_ := by kernel_rfl
theorem R_CopyCircuit.p0 : PieceOk R_CopyCircuit.G (pieceAt (pieces R_CopyCircuit.G.cks (bodyOf Go.Proofs.Tryd.f11)) 0).1 (pieceAt (pieces R_CopyCircuit.G.cks (bodyOf Go.Proofs.Tryd.f11)) 0).2 :=
  loop_ok (s := R_CopyCircuit.c100003r) (by kernel_rfl) (by kernel_rfl) (loops_of (sh := R_CopyCircuit.c100003s) (I := fun x_ s_ => (x_.1, s_.1, x_.2.2.1, x_.2.2.2.1, x_.2.2.2.2.1, x_.2.2.2.2.2.1, x_.2.2.2.2.2.2.1, x_.2.2.2.2.2.2.2.1, x_.2.2.2.2.2.2.2.2.1, x_.2.2.2.2.2.2.2.2.2.1, s_.2, ())) (fun x_ => rfl) (fun ρ x_ s_ k_ => (nat_br (nat_bnd fun _ => nat_leaf) nat_leaf)) (fun ρ x_ t k => (by kernel_rfl)) (fun x_ s => by kernel_rfl))
theorem R_CopyCircuit.p1 : PieceOk R_CopyCircuit.G (pieceAt (pieces R_CopyCircuit.G.cks (bodyOf Go.Proofs.Tryd.f11)) 1).1 (pieceAt (pieces R_CopyCircuit.G.cks (bodyOf Go.Proofs.Tryd.f11)) 1).2 :=
  region_ok (s := R_CopyCircuit.c5r) (by kernel_rfl) (by kernel_rfl) (sums_of (sh := R_CopyCircuit.c5s) (fun ρ x_ k_ => (nat_bnd fun _ => (nat_bnd fun _ => (nat_bnd fun _ => nat_leaf)))) (fun ρ x_ t k => (by kernel_rfl)) (fun x_ => by kernel_rfl))
theorem R_CopyCircuit.ok : CalleeOk Go.Proofs.Tryd.prog 11 R_CopyCircuit.ce := fn_ok (G := R_CopyCircuit.G) tab_ok mixed Go.Proofs.Tryd.func11 ⟨(fns_cons R_copyOp.ok fns_nil), mfns_nil, tab_eqs_ok⟩ (m := 2) (by kernel_rfl) ⟨⟨trivial, R_CopyCircuit.p0⟩, R_CopyCircuit.p1⟩ (by kernel_rfl) R_CopyCircuit.eq
def R_SameInts.c6 {ρ : Type} (a : List (Int)) (b : List (Int)) (i : Int) (k_ : Bool → Option ρ) : Option ρ :=
  bnd (idx a i) fun y =>
  bnd (idx b i) fun y_1 =>
  k_ (y != y_1)
def R_SameInts.c6s : Shape := ⟨[(0, q8), (1, q8), (4, q1), (5, q0)], []⟩
def R_SameInts.c6x0 : Shape := ⟨[(0, q8), (1, q8), (4, q1), (5, q0), (25, q1)], []⟩
def R_SameInts.c6r : Ck := Ck.of (T := Bool) R_SameInts.c6s (fun ρ x_ k_ => uP x_ fun a x_ => uP x_ fun b x_ => uP x_ fun t4 x_ => uP x_ fun i x_ => R_SameInts.c6 a b i k_) (fun ρ x_ r_ k_ => uP x_ fun a x_ => uP x_ fun b x_ => uP x_ fun t4 x_ => uP x_ fun i x_ => k_ 0 (Shape.inj R_SameInts.c6x0 (a, b, t4, i, r_, ())))
def R_SameInts.c100004 {ρ : Type} (a : List (Int)) (b : List (Int)) (i : Int) (k_ : (Int) ⊕ ((Int) ⊕ (Int)) → Option ρ) : Option ρ :=
  br (decide (i < (↑(List.length a) : Int)))
   (bnd (W.R_SameInts.c6 a b i some) fun y =>
    br y
     (k_ (.inr (.inl i)))
     (k_ (.inl (IntKind.wrap IntKind.i64 (i + (1 : Int))))))
   (k_ (.inr (.inr i)))
def R_SameInts.c100004s : Shape := ⟨[(0, q8), (1, q8), (4, q1), (5, q0)], []⟩
def R_SameInts.c100004x0 : Shape := ⟨[(0, q8), (1, q8), (4, q1), (5, q0)], []⟩
def R_SameInts.c100004x1 : Shape := ⟨[(0, q8), (1, q8), (4, q1), (5, q0)], []⟩
def R_SameInts.c100004r : Ck := Ck.ofLoop (S := Int) (T := (Int) ⊕ (Int)) R_SameInts.c100004s (fun x_ => uP x_ fun a x_ => uP x_ fun b x_ => uP x_ fun t4 x_ => uP x_ fun i x_ => i) (fun ρ x_ s_ k_ => uP x_ fun a x_ => uP x_ fun b x_ => uP x_ fun t4 x_ => uP x_ fun i x_ => R_SameInts.c100004 a b s_ k_) (fun ρ x_ r_ k_ => uP x_ fun a x_ => uP x_ fun b x_ => uP x_ fun t4 x_ => uP x_ fun i x_ => sel r_ (fun r_ => k_ 1 (Shape.inj R_SameInts.c100004x0 (a, b, false, r_, ()))) (fun r_ => k_ 2 (Shape.inj R_SameInts.c100004x1 (a, b, t4, r_, ()))))
def R_SameInts (a : List (Int)) (b : List (Int)) : Option (Bool) :=
  br ((↑(List.length a) : Int) != (↑(List.length b) : Int))
   (some false)
   (bnd (iter (fun s ↦ W.R_SameInts.c100004 a b s some) (0 : Int)) fun y =>
    sel y
     (fun u => some false)
     (fun v => some true))
def R_SameInts.ce : Go.Ql.Callee := ⟨[(.sl (.int .i64)), (.sl (.int .i64))], [.bool], fun x_ => R_SameInts x_.1 x_.2⟩
def R_SameInts.G : Env := ⟨26, tab, [], [0, 1, 4, 5, 10, 14, 25], [], [(6, [⟨[], [], [18, 21, 22, 23, 24], []⟩, ⟨[], [], [17, 21, 22, 23, 24], []⟩, ⟨[0, 1], [], [21, 22, 23, 24], []⟩, ⟨[2, 0, 1], [], [21, 22, 23, 24], []⟩, ⟨[], [], [17, 18, 19, 20, 22], []⟩, ⟨[], [], [17, 18, 19, 20, 21], []⟩, ⟨[4, 5], [], [17, 18, 19, 20], []⟩, ⟨[6, 4, 5], [], [17, 18, 19, 20], []⟩, ⟨[3, 2, 0, 1, 7, 6, 4, 5], [], [], []⟩])], [(100004, R_SameInts.c100004r), (6, R_SameInts.c6r)], [], tab_eqs⟩
theorem R_SameInts.eq (x_ : dens [(.sl (.int .i64)), (.sl (.int .i64))]) : den R_SameInts.G Go.Proofs.Tryd.f30 [(.sl (.int .i64)), (.sl (.int .i64))] [.bool] x_ = R_SameInts x_.1 x_.2 := by kernel_rfl
theorem R_SameInts.p0 : PieceOk R_SameInts.G (pieceAt (pieces R_SameInts.G.cks (bodyOf Go.Proofs.Tryd.f30)) 0).1 (pieceAt (pieces R_SameInts.G.cks (bodyOf Go.Proofs.Tryd.f30)) 0).2 :=
  loop_ok (s := R_SameInts.c100004r) (by kernel_rfl) (by kernel_rfl) (loops_of (sh := R_SameInts.c100004s) (I := fun x_ s_ => (x_.1, x_.2.1, x_.2.2.1, s_, ())) (fun x_ => rfl) (fun ρ x_ s_ k_ => (nat_br (nat_bnd fun _ => (nat_br nat_leaf nat_leaf)) nat_leaf)) (fun ρ x_ t k => (nat_sel (fun _ => (by kernel_rfl)) (fun _ => (by kernel_rfl)))) (fun x_ s => by kernel_rfl))
theorem R_SameInts.p1 : PieceOk R_SameInts.G (pieceAt (pieces R_SameInts.G.cks (bodyOf Go.Proofs.Tryd.f30)) 1).1 (pieceAt (pieces R_SameInts.G.cks (bodyOf Go.Proofs.Tryd.f30)) 1).2 :=
  region_ok (s := R_SameInts.c6r) (by kernel_rfl) (by kernel_rfl) (sums_of (sh := R_SameInts.c6s) (fun ρ x_ k_ => (nat_bnd fun _ => (nat_bnd fun _ => nat_leaf))) (fun ρ x_ t k => (by kernel_rfl)) (fun x_ => by kernel_rfl))
theorem R_SameInts.ok : CalleeOk Go.Proofs.Tryd.prog 30 R_SameInts.ce := fn_ok (G := R_SameInts.G) tab_ok mixed Go.Proofs.Tryd.func30 ⟨fns_nil, mfns_nil, tab_eqs_ok⟩ (m := 2) (by kernel_rfl) ⟨⟨trivial, R_SameInts.p0⟩, R_SameInts.p1⟩ (by kernel_rfl) R_SameInts.eq
def R_SameCircuit.c1 {ρ : Type} (a0 : Int) (a1 : Int) (a2 : List ((Int) × ((Int) × ((List Int) × ((Int) × ((Int) × (List Int))))))) (b0 : Int) (b1 : Int) (b2 : List ((Int) × ((Int) × ((List Int) × ((Int) × ((Int) × (List Int))))))) (k_ : Bool → Option ρ) : Option ρ :=
  br (a0 != b0)
   (k_ true)
   (br (a1 != b1)
     (k_ true)
     (k_ ((↑(List.length a2) : Int) != (↑(List.length b2) : Int))))
def R_SameCircuit.c1s : Shape := ⟨[(0, q10), (1, q10), (2, q5), (3, q24), (4, q1)], [(2, q4), (3, q4)]⟩
def R_SameCircuit.c1x0 : Shape := ⟨[(0, q10), (1, q10), (2, q5), (3, q24), (4, q1), (28, q1)], [(2, q4), (3, q4)]⟩
def R_SameCircuit.c1r : Ck := Ck.of (T := Bool) R_SameCircuit.c1s (fun ρ x_ k_ => uP x_ fun a x_ => uP x_ fun b x_ => uP x_ fun t4 x_ => uP x_ fun a0 x_ => uP x_ fun a1 x_ => uP x_ fun a2 x_ => uP x_ fun b0 x_ => uP x_ fun b1 x_ => uP x_ fun b2 x_ => R_SameCircuit.c1 a0 a1 a2 b0 b1 b2 k_) (fun ρ x_ r_ k_ => uP x_ fun a x_ => uP x_ fun b x_ => uP x_ fun t4 x_ => uP x_ fun a0 x_ => uP x_ fun a1 x_ => uP x_ fun a2 x_ => uP x_ fun b0 x_ => uP x_ fun b1 x_ => uP x_ fun b2 x_ => k_ 0 (Shape.inj R_SameCircuit.c1x0 (a, b, t4, r_, a0, a1, a2, b0, b1, b2, ())))
def R_SameCircuit.c8 {ρ : Type} (x0 : Int) (x1 : Int) (x2 : List (Int)) (x3 : Int) (x4 : Int) (x5 : List (Int)) (y0 : Int) (y1 : Int) (y2 : List (Int)) (y3 : Int) (y4 : Int) (y5 : List (Int)) (k_ : Bool → Option ρ) : Option ρ :=
  br (x0 != y0)
   (k_ true)
   (br (x1 != y1)
     (k_ true)
     (br (x3 != y3)
       (k_ true)
       (br (x4 != y4)
         (k_ true)
         (bnd (W.R_SameInts x2 y2) fun y =>
          br (!y)
           (k_ true)
           (bnd (W.R_SameInts x5 y5) fun y_1 =>
            k_ (!y_1))))))
def R_SameCircuit.c8s : Shape := ⟨[(0, q10), (1, q10), (2, q5), (3, q24), (4, q1), (5, q0), (6, q45), (7, q42)], [(2, q4), (3, q4), (6, q6), (7, q6)]⟩
def R_SameCircuit.c8x0 : Shape := ⟨[(0, q10), (1, q10), (2, q5), (3, q24), (4, q1), (5, q0), (6, q45), (7, q42), (87, q1)], [(2, q4), (3, q4), (6, q6), (7, q6)]⟩
def R_SameCircuit.c8r : Ck := Ck.of (T := Bool) R_SameCircuit.c8s (fun ρ x_ k_ => uP x_ fun a x_ => uP x_ fun b x_ => uP x_ fun t4 x_ => uP x_ fun i x_ => uP x_ fun a0 x_ => uP x_ fun a1 x_ => uP x_ fun a2 x_ => uP x_ fun b0 x_ => uP x_ fun b1 x_ => uP x_ fun b2 x_ => uP x_ fun x0 x_ => uP x_ fun x1 x_ => uP x_ fun x2 x_ => uP x_ fun x3 x_ => uP x_ fun x4 x_ => uP x_ fun x5 x_ => uP x_ fun y0 x_ => uP x_ fun y1 x_ => uP x_ fun y2 x_ => uP x_ fun y3 x_ => uP x_ fun y4 x_ => uP x_ fun y5 x_ => R_SameCircuit.c8 x0 x1 x2 x3 x4 x5 y0 y1 y2 y3 y4 y5 k_) (fun ρ x_ r_ k_ => uP x_ fun a x_ => uP x_ fun b x_ => uP x_ fun t4 x_ => uP x_ fun i x_ => uP x_ fun a0 x_ => uP x_ fun a1 x_ => uP x_ fun a2 x_ => uP x_ fun b0 x_ => uP x_ fun b1 x_ => uP x_ fun b2 x_ => uP x_ fun x0 x_ => uP x_ fun x1 x_ => uP x_ fun x2 x_ => uP x_ fun x3 x_ => uP x_ fun x4 x_ => uP x_ fun x5 x_ => uP x_ fun y0 x_ => uP x_ fun y1 x_ => uP x_ fun y2 x_ => uP x_ fun y3 x_ => uP x_ fun y4 x_ => uP x_ fun y5 x_ => k_ 0 (Shape.inj R_SameCircuit.c8x0 (a, b, t4, i, r_, a0, a1, a2, b0, b1, b2, x0, x1, x2, x3, x4, x5, y0, y1, y2, y3, y4, y5, ())))
def R_SameCircuit.c100004 {ρ : Type} (i : Int) (a2 : List ((Int) × ((Int) × ((List Int) × ((Int) × ((Int) × (List Int))))))) (b2 : List ((Int) × ((Int) × ((List Int) × ((Int) × ((Int) × (List Int))))))) (k_ : (Int) ⊕ ((Int) ⊕ (Int)) → Option ρ) : Option ρ :=
  br (decide (i < (↑(List.length a2) : Int)))
   (bnd (idx a2 i) fun y =>
    bnd (idx b2 i) fun y_1 =>
    bnd (W.R_SameCircuit.c8 (Prod.fst y) (Prod.fst (Prod.snd y)) (Prod.fst (Prod.snd (Prod.snd y))) (Prod.fst (Prod.snd (Prod.snd (Prod.snd y)))) (Prod.fst (Prod.snd (Prod.snd (Prod.snd (Prod.snd y))))) (Prod.snd (Prod.snd (Prod.snd (Prod.snd (Prod.snd y))))) (Prod.fst y_1) (Prod.fst (Prod.snd y_1)) (Prod.fst (Prod.snd (Prod.snd y_1))) (Prod.fst (Prod.snd (Prod.snd (Prod.snd y_1)))) (Prod.fst (Prod.snd (Prod.snd (Prod.snd (Prod.snd y_1))))) (Prod.snd (Prod.snd (Prod.snd (Prod.snd (Prod.snd y_1))))) some) fun y_2 =>
    br y_2
     (k_ (.inr (.inl i)))
     (k_ (.inl (IntKind.wrap IntKind.i64 (i + (1 : Int))))))
   (k_ (.inr (.inr i)))
def R_SameCircuit.c100004s : Shape := ⟨[(0, q10), (1, q10), (2, q5), (3, q24), (4, q1), (5, q0)], [(2, q4), (3, q4)]⟩
def R_SameCircuit.c100004x0 : Shape := ⟨[(0, q10), (1, q10), (2, q5), (3, q24), (4, q1), (5, q0)], [(2, q4), (3, q4)]⟩
def R_SameCircuit.c100004x1 : Shape := ⟨[(0, q10), (1, q10), (2, q5), (3, q24), (4, q1), (5, q0)], [(2, q4), (3, q4)]⟩
def R_SameCircuit.c100004r : Ck := Ck.ofLoop (S := Int) (T := (Int) ⊕ (Int)) R_SameCircuit.c100004s (fun x_ => uP x_ fun a x_ => uP x_ fun b x_ => uP x_ fun t4 x_ => uP x_ fun i x_ => uP x_ fun a0 x_ => uP x_ fun a1 x_ => uP x_ fun a2 x_ => uP x_ fun b0 x_ => uP x_ fun b1 x_ => uP x_ fun b2 x_ => i) (fun ρ x_ s_ k_ => uP x_ fun a x_ => uP x_ fun b x_ => uP x_ fun t4 x_ => uP x_ fun i x_ => uP x_ fun a0 x_ => uP x_ fun a1 x_ => uP x_ fun a2 x_ => uP x_ fun b0 x_ => uP x_ fun b1 x_ => uP x_ fun b2 x_ => R_SameCircuit.c100004 s_ a2 b2 k_) (fun ρ x_ r_ k_ => uP x_ fun a x_ => uP x_ fun b x_ => uP x_ fun t4 x_ => uP x_ fun i x_ => uP x_ fun a0 x_ => uP x_ fun a1 x_ => uP x_ fun a2 x_ => uP x_ fun b0 x_ => uP x_ fun b1 x_ => uP x_ fun b2 x_ => sel r_ (fun r_ => k_ 1 (Shape.inj R_SameCircuit.c100004x0 (a, b, false, r_, a0, a1, a2, b0, b1, b2, ()))) (fun r_ => k_ 2 (Shape.inj R_SameCircuit.c100004x1 (a, b, t4, r_, a0, a1, a2, b0, b1, b2, ()))))
def R_SameCircuit (a : (Int) × ((Int) × (List ((Int) × ((Int) × ((List Int) × ((Int) × ((Int) × (List Int))))))))) (b : (Int) × ((Int) × (List ((Int) × ((Int) × ((List Int) × ((Int) × ((Int) × (List Int))))))))) : Option (Bool) :=
  bnd (W.R_SameCircuit.c1 (Prod.fst a) (Prod.fst (Prod.snd a)) (Prod.snd (Prod.snd a)) (Prod.fst b) (Prod.fst (Prod.snd b)) (Prod.snd (Prod.snd b)) some) fun y =>
  br y
   (some false)
   (bnd (iter (fun s ↦ W.R_SameCircuit.c100004 s (Prod.snd (Prod.snd a)) (Prod.snd (Prod.snd b)) some) (0 : Int)) fun y_1 =>
    sel y_1
     (fun u => some false)
     (fun v => some true))
def R_SameCircuit.ce : Go.Ql.Callee := ⟨[(.st (.pair (.int .i64) (.pair (.int .i64) (.sl (.st (.pair (.int .i64) (.pair (.int .i64) (.pair (.sl (.int .i64)) (.pair (.int .i64) (.pair (.int .i64) (.sl (.int .i64)))))))))))), (.st (.pair (.int .i64) (.pair (.int .i64) (.sl (.st (.pair (.int .i64) (.pair (.int .i64) (.pair (.sl (.int .i64)) (.pair (.int .i64) (.pair (.int .i64) (.sl (.int .i64))))))))))))], [.bool], fun x_ => R_SameCircuit x_.1 x_.2⟩
def R_SameCircuit.G : Env := ⟨88, tab, [(30, R_SameInts.ce)], [0, 1, 2, 3, 4, 5, 6, 7, 28, 33, 87], [], [], [(100004, R_SameCircuit.c100004r), (8, R_SameCircuit.c8r), (1, R_SameCircuit.c1r)], [], tab_eqs⟩
theorem R_SameCircuit.eq (x_ : dens [(.st (.pair (.int .i64) (.pair (.int .i64) (.sl (.st (.pair (.int .i64) (.pair (.int .i64) (.pair (.sl (.int .i64)) (.pair (.int .i64) (.pair (.int .i64) (.sl (.int .i64)))))))))))), (.st (.pair (.int .i64) (.pair (.int .i64) (.sl (.st (.pair (.int .i64) (.pair (.int .i64) (.pair (.sl (.int .i64)) (.pair (.int .i64) (.pair (.int .i64) (.sl (.int .i64))))))))))))]) : den R_SameCircuit.G Go.Proofs.Tryd.f29 [(.st (.pair (.int .i64) (.pair (.int .i64) (.sl (.st (.pair (.int .i64) (.pair (.int .i64) (.pair (.sl (.int .i64)) (.pair (.int .i64) (.pair (.int .i64) (.sl (.int .i64)))))))))))), (.st (.pair (.int .i64) (.pair (.int .i64) (.sl (.st (.pair (.int .i64) (.pair (.int .i64) (.pair (.sl (.int .i64)) (.pair (.int .i64) (.pair (.int .i64) (.sl (.int .i64))))))))))))] [.bool] x_ = R_SameCircuit x_.1 x_.2 := by kernel_rfl
theorem R_SameCircuit.p0 : PieceOk R_SameCircuit.G (pieceAt (pieces R_SameCircuit.G.cks (bodyOf Go.Proofs.Tryd.f29)) 0).1 (pieceAt (pieces R_SameCircuit.G.cks (bodyOf Go.Proofs.Tryd.f29)) 0).2 :=
  region_ok (s := R_SameCircuit.c1r) (by kernel_rfl) (by kernel_rfl) (sums_of (sh := R_SameCircuit.c1s) (fun ρ x_ k_ => (nat_br nat_leaf (nat_br nat_leaf nat_leaf))) (fun ρ x_ t k => (by kernel_rfl)) (fun x_ => by kernel_rfl))
theorem R_SameCircuit.p1 : PieceOk R_SameCircuit.G (pieceAt (pieces R_SameCircuit.G.cks (bodyOf Go.Proofs.Tryd.f29)) 1).1 (pieceAt (pieces R_SameCircuit.G.cks (bodyOf Go.Proofs.Tryd.f29)) 1).2 :=
  loop_ok (s := R_SameCircuit.c100004r) (by kernel_rfl) (by kernel_rfl) (loops_of (sh := R_SameCircuit.c100004s) (I := fun x_ s_ => (x_.1, x_.2.1, x_.2.2.1, s_, x_.2.2.2.2.1, x_.2.2.2.2.2.1, x_.2.2.2.2.2.2.1, x_.2.2.2.2.2.2.2.1, x_.2.2.2.2.2.2.2.2.1, x_.2.2.2.2.2.2.2.2.2.1, ())) (fun x_ => rfl) (fun ρ x_ s_ k_ => (nat_br (nat_bnd fun _ => (nat_bnd fun _ => (nat_bnd fun _ => (nat_br nat_leaf nat_leaf)))) nat_leaf)) (fun ρ x_ t k => (nat_sel (fun _ => (by kernel_rfl)) (fun _ => (by kernel_rfl)))) (fun x_ s => by kernel_rfl))
theorem R_SameCircuit.p2 : PieceOk R_SameCircuit.G (pieceAt (pieces R_SameCircuit.G.cks (bodyOf Go.Proofs.Tryd.f29)) 2).1 (pieceAt (pieces R_SameCircuit.G.cks (bodyOf Go.Proofs.Tryd.f29)) 2).2 :=
  region_ok (s := R_SameCircuit.c8r) (by kernel_rfl) (by kernel_rfl) (sums_of (sh := R_SameCircuit.c8s) (fun ρ x_ k_ => (nat_br nat_leaf (nat_br nat_leaf (nat_br nat_leaf (nat_br nat_leaf (nat_bnd fun _ => (nat_br nat_leaf (nat_bnd fun _ => nat_leaf)))))))) (fun ρ x_ t k => (by kernel_rfl)) (fun x_ => by kernel_rfl))
theorem R_SameCircuit.ok : CalleeOk Go.Proofs.Tryd.prog 29 R_SameCircuit.ce := fn_ok (G := R_SameCircuit.G) tab_ok mixed Go.Proofs.Tryd.func29 ⟨(fns_cons R_SameInts.ok fns_nil), mfns_nil, tab_eqs_ok⟩ (m := 3) (by kernel_rfl) ⟨⟨⟨trivial, R_SameCircuit.p0⟩, R_SameCircuit.p1⟩, R_SameCircuit.p2⟩ (by kernel_rfl) R_SameCircuit.eq
def R_Inverse.c3 {ρ : Type}  (k_ : Unit → Option ρ) : Option ρ :=
  k_ ()
def R_Inverse.c3s : Shape := ⟨[(0, q10), (1, q11), (2, q5), (3, q24), (4, q28)], [(1, q4), (2, q4), (3, q12), (4, q12)]⟩
def R_Inverse.c3x0 : Shape := ⟨[(0, q10), (1, q11), (2, q5), (3, q24), (4, q28)], [(1, q4), (2, q4), (3, q12), (4, q12)]⟩
def R_Inverse.c3r : Ck := Ck.of (T := Unit) R_Inverse.c3s (fun ρ x_ k_ => uP x_ fun c x_ => uP x_ fun c0 x_ => uP x_ fun c1 x_ => uP x_ fun c2 x_ => uP x_ fun t20 x_ => uP x_ fun t21 x_ => uP x_ fun t22 x_ => uP x_ fun t30 x_ => uP x_ fun t31 x_ => uP x_ fun f0 x_ => uP x_ fun f1 x_ => R_Inverse.c3  k_) (fun ρ x_ r_ k_ => uP x_ fun c x_ => uP x_ fun c0 x_ => uP x_ fun c1 x_ => uP x_ fun c2 x_ => uP x_ fun t20 x_ => uP x_ fun t21 x_ => uP x_ fun t22 x_ => uP x_ fun t30 x_ => uP x_ fun t31 x_ => uP x_ fun f0 x_ => uP x_ fun f1 x_ => k_ 0 (Shape.inj R_Inverse.c3x0 (c, c0, c1, c2, (0 : Int), (0 : Int), [], f0, f1, f0, f1, ())))
def R_Inverse.c236869 {ρ : Type} (o1 : Int) (k_ : Int → Option ρ) : Option ρ :=
  br (decide (o1 > (0 : Int)))
   (k_ (IntKind.wrap IntKind.i64 ((16 : Int) - o1)))
   (k_ o1)
def R_Inverse.c236869s : Shape := ⟨[(0, q10), (1, q11), (2, q5), (3, q24), (4, q28), (5, q29), (6, q0), (7, q42)], [(1, q4), (2, q4), (3, q12), (4, q12), (5, q43), (7, q6), (3005, q44)]⟩
def R_Inverse.c236869x0 : Shape := ⟨[(0, q10), (1, q11), (2, q5), (3, q24), (4, q28), (5, q29), (6, q0), (7, q42)], [(1, q4), (2, q4), (3, q12), (4, q12), (5, q43), (7, q6), (3005, q44)]⟩
def R_Inverse.c236869r : Ck := Ck.of (T := Int) R_Inverse.c236869s (fun ρ x_ k_ => uP x_ fun c x_ => uP x_ fun i x_ => uP x_ fun c0 x_ => uP x_ fun c1 x_ => uP x_ fun c2 x_ => uP x_ fun t20 x_ => uP x_ fun t21 x_ => uP x_ fun t22 x_ => uP x_ fun t30 x_ => uP x_ fun t31 x_ => uP x_ fun f0 x_ => uP x_ fun f1 x_ => uP x_ fun out0 x_ => uP x_ fun out1 x_ => uP x_ fun o0 x_ => uP x_ fun o1 x_ => uP x_ fun o2 x_ => uP x_ fun o3 x_ => uP x_ fun o4 x_ => uP x_ fun o5 x_ => uP x_ fun t3005 x_ => R_Inverse.c236869 o1 k_) (fun ρ x_ r_ k_ => uP x_ fun c x_ => uP x_ fun i x_ => uP x_ fun c0 x_ => uP x_ fun c1 x_ => uP x_ fun c2 x_ => uP x_ fun t20 x_ => uP x_ fun t21 x_ => uP x_ fun t22 x_ => uP x_ fun t30 x_ => uP x_ fun t31 x_ => uP x_ fun f0 x_ => uP x_ fun f1 x_ => uP x_ fun out0 x_ => uP x_ fun out1 x_ => uP x_ fun o0 x_ => uP x_ fun o1 x_ => uP x_ fun o2 x_ => uP x_ fun o3 x_ => uP x_ fun o4 x_ => uP x_ fun o5 x_ => uP x_ fun t3005 x_ => k_ 0 (Shape.inj R_Inverse.c236869x0 (c, i, c0, c1, c2, t20, t21, t22, t30, t31, f0, f1, out0, out1, o0, r_, o2, o3, o4, o5, t3005, ())))
def R_Inverse.c100006 {ρ : Type} (i : Int) (c2 : List ((Int) × ((Int) × ((List Int) × ((Int) × ((Int) × (List Int))))))) (t3005 : List ((Int) × ((Int) × ((List Int) × ((Int) × ((Int) × (List Int))))))) (k_ : ((Int) × (List ((Int) × ((Int) × ((List Int) × ((Int) × ((Int) × (List Int)))))))) ⊕ ((Int) × (List ((Int) × ((Int) × ((List Int) × ((Int) × ((Int) × (List Int)))))))) → Option ρ) : Option ρ :=
  br (decide (i ≥ (0 : Int)))
   (bnd (idx c2 i) fun y =>
    bnd (W.R_copyOp y) fun y_1 =>
    bnd (W.R_Inverse.c236869 (Prod.fst (Prod.snd y_1)) some) fun y_2 =>
    bnd (okIf (decide ((List.length t3005 + List.length [(Prod.fst y_1, y_2, Prod.fst (Prod.snd (Prod.snd y_1)), Prod.fst (Prod.snd (Prod.snd (Prod.snd y_1))), Prod.fst (Prod.snd (Prod.snd (Prod.snd (Prod.snd y_1)))), Prod.snd (Prod.snd (Prod.snd (Prod.snd (Prod.snd y_1)))))]) * (80 : Nat) ≤ (140737488355328 : Nat)) && decide (List.length t3005 + List.length [(Prod.fst y_1, y_2, Prod.fst (Prod.snd (Prod.snd y_1)), Prod.fst (Prod.snd (Prod.snd (Prod.snd y_1))), Prod.fst (Prod.snd (Prod.snd (Prod.snd (Prod.snd y_1)))), Prod.snd (Prod.snd (Prod.snd (Prod.snd (Prod.snd y_1)))))] ≤ (140737488355328 : Nat)))) fun y_3 =>
    k_ (.inl ((IntKind.wrap IntKind.i64 (i - (1 : Int))), (t3005 ++ [(Prod.fst y_1, y_2, Prod.fst (Prod.snd (Prod.snd y_1)), Prod.fst (Prod.snd (Prod.snd (Prod.snd y_1))), Prod.fst (Prod.snd (Prod.snd (Prod.snd (Prod.snd y_1)))), Prod.snd (Prod.snd (Prod.snd (Prod.snd (Prod.snd y_1)))))]))))
   (k_ (.inr (i, t3005)))
def R_Inverse.c100006s : Shape := ⟨[(0, q10), (1, q11), (2, q5), (3, q24), (4, q28), (5, q29), (6, q0)], [(1, q4), (2, q4), (3, q12), (4, q12), (5, q43), (3005, q44)]⟩
def R_Inverse.c100006x0 : Shape := ⟨[(0, q10), (1, q11), (2, q5), (3, q24), (4, q28), (5, q29), (6, q0)], [(1, q4), (2, q4), (3, q12), (4, q12), (5, q43), (3005, q44)]⟩
def R_Inverse.c100006r : Ck := Ck.ofLoop (S := (Int) × (List ((Int) × ((Int) × ((List Int) × ((Int) × ((Int) × (List Int)))))))) (T := (Int) × (List ((Int) × ((Int) × ((List Int) × ((Int) × ((Int) × (List Int)))))))) R_Inverse.c100006s (fun x_ => uP x_ fun c x_ => uP x_ fun i x_ => uP x_ fun c0 x_ => uP x_ fun c1 x_ => uP x_ fun c2 x_ => uP x_ fun t20 x_ => uP x_ fun t21 x_ => uP x_ fun t22 x_ => uP x_ fun t30 x_ => uP x_ fun t31 x_ => uP x_ fun f0 x_ => uP x_ fun f1 x_ => uP x_ fun out0 x_ => uP x_ fun out1 x_ => uP x_ fun t3005 x_ => (i, t3005)) (fun ρ x_ s_ k_ => uP x_ fun c x_ => uP x_ fun i x_ => uP x_ fun c0 x_ => uP x_ fun c1 x_ => uP x_ fun c2 x_ => uP x_ fun t20 x_ => uP x_ fun t21 x_ => uP x_ fun t22 x_ => uP x_ fun t30 x_ => uP x_ fun t31 x_ => uP x_ fun f0 x_ => uP x_ fun f1 x_ => uP x_ fun out0 x_ => uP x_ fun out1 x_ => uP x_ fun t3005 x_ => R_Inverse.c100006 s_.1 c2 s_.2 k_) (fun ρ x_ r_ k_ => uP x_ fun c x_ => uP x_ fun i x_ => uP x_ fun c0 x_ => uP x_ fun c1 x_ => uP x_ fun c2 x_ => uP x_ fun t20 x_ => uP x_ fun t21 x_ => uP x_ fun t22 x_ => uP x_ fun t30 x_ => uP x_ fun t31 x_ => uP x_ fun f0 x_ => uP x_ fun f1 x_ => uP x_ fun out0 x_ => uP x_ fun out1 x_ => uP x_ fun t3005 x_ => k_ 2 (Shape.inj R_Inverse.c100006x0 (c, r_.1, c0, c1, c2, t20, t21, t22, t30, t31, f0, f1, out0, out1, r_.2, ())))
def R_Inverse.c12 {ρ : Type}  (k_ : Unit → Option ρ) : Option ρ :=
  k_ ()
def R_Inverse.c12s : Shape := ⟨[(0, q10), (1, q11), (2, q5), (3, q24), (4, q28), (5, q29), (6, q0)], [(1, q4), (2, q4), (3, q12), (4, q12), (5, q43), (3005, q44)]⟩
def R_Inverse.c12x0 : Shape := ⟨[(0, q10), (1, q11), (2, q5), (3, q24), (4, q28), (5, q29), (6, q0)], [(1, q4), (2, q43), (3, q12), (4, q12), (5, q43), (3005, q44)]⟩
def R_Inverse.c12r : Ck := Ck.of (T := Unit) R_Inverse.c12s (fun ρ x_ k_ => uP x_ fun c x_ => uP x_ fun i x_ => uP x_ fun c0 x_ => uP x_ fun c1 x_ => uP x_ fun c2 x_ => uP x_ fun t20 x_ => uP x_ fun t21 x_ => uP x_ fun t22 x_ => uP x_ fun t30 x_ => uP x_ fun t31 x_ => uP x_ fun f0 x_ => uP x_ fun f1 x_ => uP x_ fun out0 x_ => uP x_ fun out1 x_ => uP x_ fun t3005 x_ => R_Inverse.c12  k_) (fun ρ x_ r_ k_ => uP x_ fun c x_ => uP x_ fun i x_ => uP x_ fun c0 x_ => uP x_ fun c1 x_ => uP x_ fun c2 x_ => uP x_ fun t20 x_ => uP x_ fun t21 x_ => uP x_ fun t22 x_ => uP x_ fun t30 x_ => uP x_ fun t31 x_ => uP x_ fun f0 x_ => uP x_ fun f1 x_ => uP x_ fun out0 x_ => uP x_ fun out1 x_ => uP x_ fun t3005 x_ => k_ 0 (Shape.inj R_Inverse.c12x0 (c, i, c0, c1, c2, out0, out1, f0, f1, f0, f1, out0, out1, t3005, ())))
def R_Inverse (c : (Int) × ((Int) × (List ((Int) × ((Int) × ((List Int) × ((Int) × ((Int) × (List Int))))))))) : Option (((Int) × ((Int) × (List ((Int) × ((Int) × ((List Int) × ((Int) × ((Int) × (List Int))))))))) × ((Int) × (Int))) :=
  bnd (W.R_Pure (Prod.fst c, Prod.fst (Prod.snd c), Prod.snd (Prod.snd c))) fun y =>
  br (Prod.fst y != (0 : Int))
   (bnd (W.R_Inverse.c3 some) fun y_1 =>
    some (((0 : Int), (0 : Int), []), Prod.fst y, Prod.snd y))
   (bnd (iter (fun s ↦ W.R_Inverse.c100006 (Prod.fst s) (Prod.snd (Prod.snd c)) (Prod.snd s) some) (IntKind.wrap IntKind.i64 ((↑(List.length (Prod.snd (Prod.snd c))) : Int) - (1 : Int)), [])) fun y_2 =>
    bnd (W.R_Inverse.c12 some) fun y_3 =>
    some ((Prod.fst c, Prod.fst (Prod.snd c), Prod.snd y_2), Prod.fst y, Prod.snd y))
def R_Inverse.ce : Go.Ql.Callee := ⟨[(.st (.pair (.int .i64) (.pair (.int .i64) (.sl (.st (.pair (.int .i64) (.pair (.int .i64) (.pair (.sl (.int .i64)) (.pair (.int .i64) (.pair (.int .i64) (.sl (.int .i64))))))))))))], [(.st (.pair (.int .i64) (.pair (.int .i64) (.sl (.st (.pair (.int .i64) (.pair (.int .i64) (.pair (.sl (.int .i64)) (.pair (.int .i64) (.pair (.int .i64) (.sl (.int .i64)))))))))))), (.st (.pair (.int .i64) (.int .i64)))], fun x_ => R_Inverse x_⟩
def R_Inverse.G : Env := ⟨49, tab, [(17, R_Pure.ce), (37, R_copyOp.ce)], [0, 1, 2, 3, 4, 5, 6, 7, 12, 25, 36], [1, 5, 19, 3001, 3005], [(12, [⟨[], [], [48], []⟩, ⟨[], [], [47], [2]⟩, ⟨[0], [2], [48], []⟩, ⟨[1, 2, 0], [3], [], []⟩]),
  (3, [⟨[], [], [14], []⟩, ⟨[], [], [13], [2]⟩, ⟨[0], [2], [14], []⟩, ⟨[1, 2, 0], [3], [], []⟩])], [(12, R_Inverse.c12r), (100006, R_Inverse.c100006r), (236869, R_Inverse.c236869r), (3, R_Inverse.c3r)], [], tab_eqs⟩
theorem R_Inverse.eq (x_ : dens [(.st (.pair (.int .i64) (.pair (.int .i64) (.sl (.st (.pair (.int .i64) (.pair (.int .i64) (.pair (.sl (.int .i64)) (.pair (.int .i64) (.pair (.int .i64) (.sl (.int .i64))))))))))))]) : den R_Inverse.G Go.Proofs.Tryd.f24 [(.st (.pair (.int .i64) (.pair (.int .i64) (.sl (.st (.pair (.int .i64) (.pair (.int .i64) (.pair (.sl (.int .i64)) (.pair (.int .i64) (.pair (.int .i64) (.sl (.int .i64))))))))))))] [(.st (.pair (.int .i64) (.pair (.int .i64) (.sl (.st (.pair (.int .i64) (.pair (.int .i64) (.pair (.sl (.int .i64)) (.pair (.int .i64) (.pair (.int .i64) (.sl (.int .i64)))))))))))), (.st (.pair (.int .i64) (.int .i64)))] x_ = R_Inverse x_ := by kernel_rfl
theorem R_Inverse.p0 : PieceOk R_Inverse.G (pieceAt (pieces R_Inverse.G.cks (bodyOf Go.Proofs.Tryd.f24)) 0).1 (pieceAt (pieces R_Inverse.G.cks (bodyOf Go.Proofs.Tryd.f24)) 0).2 :=
  region_ok (s := R_Inverse.c3r) (by kernel_rfl) (by kernel_rfl) (sums_of (sh := R_Inverse.c3s) (fun ρ x_ k_ => nat_leaf) (fun ρ x_ t k => (by kernel_rfl)) (fun x_ => by kernel_rfl))
theorem R_Inverse.p1 : PieceOk R_Inverse.G (pieceAt (pieces R_Inverse.G.cks (bodyOf Go.Proofs.Tryd.f24)) 1).1 (pieceAt (pieces R_Inverse.G.cks (bodyOf Go.Proofs.Tryd.f24)) 1).2 :=
  loop_ok (s := R_Inverse.c100006r) (by kernel_rfl) (by kernel_rfl) (loops_of (sh := R_Inverse.c100006s) (I := fun x_ s_ => (x_.1, s_.1, x_.2.2.1, x_.2.2.2.1, x_.2.2.2.2.1, x_.2.2.2.2.2.1, x_.2.2.2.2.2.2.1, x_.2.2.2.2.2.2.2.1, x_.2.2.2.2.2.2.2.2.1, x_.2.2.2.2.2.2.2.2.2.1, x_.2.2.2.2.2.2.2.2.2.2.1, x_.2.2.2.2.2.2.2.2.2.2.2.1, x_.2.2.2.2.2.2.2.2.2.2.2.2.1, x_.2.2.2.2.2.2.2.2.2.2.2.2.2.1, s_.2, ())) (fun x_ => rfl) (fun ρ x_ s_ k_ => (nat_br (nat_bnd fun _ => (nat_bnd fun _ => (nat_bnd fun _ => (nat_bnd fun _ => nat_leaf)))) nat_leaf)) (fun ρ x_ t k => (by kernel_rfl)) (fun x_ s => by kernel_rfl))
theorem R_Inverse.p2 : PieceOk R_Inverse.G (pieceAt (pieces R_Inverse.G.cks (bodyOf Go.Proofs.Tryd.f24)) 2).1 (pieceAt (pieces R_Inverse.G.cks (bodyOf Go.Proofs.Tryd.f24)) 2).2 :=
  join_ok (s := R_Inverse.c236869r) (by kernel_rfl) (by kernel_rfl) (sums_of (sh := R_Inverse.c236869s) (fun ρ x_ k_ => (nat_br nat_leaf nat_leaf)) (fun ρ x_ t k => (by kernel_rfl)) (fun x_ => by kernel_rfl))
theorem R_Inverse.p3 : PieceOk R_Inverse.G (pieceAt (pieces R_Inverse.G.cks (bodyOf Go.Proofs.Tryd.f24)) 3).1 (pieceAt (pieces R_Inverse.G.cks (bodyOf Go.Proofs.Tryd.f24)) 3).2 :=
  region_ok (s := R_Inverse.c12r) (by kernel_rfl) (by kernel_rfl) (sums_of (sh := R_Inverse.c12s) (fun ρ x_ k_ => nat_leaf) (fun ρ x_ t k => (by kernel_rfl)) (fun x_ => by kernel_rfl))
theorem R_Inverse.ok : CalleeOk Go.Proofs.Tryd.prog 24 R_Inverse.ce := fn_ok (G := R_Inverse.G) tab_ok mixed Go.Proofs.Tryd.func24 ⟨(fns_cons R_Pure.ok (fns_cons R_copyOp.ok fns_nil)), mfns_nil, tab_eqs_ok⟩ (m := 4) (by kernel_rfl) ⟨⟨⟨⟨trivial, R_Inverse.p0⟩, R_Inverse.p1⟩, R_Inverse.p2⟩, R_Inverse.p3⟩ (by kernel_rfl) R_Inverse.eq
abbrev q61 : SO := .box [.val (.int .i64), .val (.int .i64), .own 3007 0]
def R_Power.c3 {ρ : Type}  (k_ : Unit → Option ρ) : Option ρ :=
  k_ ()
def R_Power.c3s : Shape := ⟨[(0, q10), (1, q0), (2, q5), (4, q28), (5, q29), (6, q45)], [(2, q4), (4, q4), (5, q12), (6, q12)]⟩
def R_Power.c3x0 : Shape := ⟨[(0, q10), (1, q0), (2, q5), (4, q28), (5, q29), (6, q45)], [(2, q4), (4, q4), (5, q12), (6, q12)]⟩
def R_Power.c3r : Ck := Ck.of (T := Unit) R_Power.c3s (fun ρ x_ k_ => uP x_ fun c x_ => uP x_ fun n x_ => uP x_ fun c0 x_ => uP x_ fun c1 x_ => uP x_ fun c2 x_ => uP x_ fun t40 x_ => uP x_ fun t41 x_ => uP x_ fun t42 x_ => uP x_ fun t50 x_ => uP x_ fun t51 x_ => uP x_ fun f0 x_ => uP x_ fun f1 x_ => R_Power.c3  k_) (fun ρ x_ r_ k_ => uP x_ fun c x_ => uP x_ fun n x_ => uP x_ fun c0 x_ => uP x_ fun c1 x_ => uP x_ fun c2 x_ => uP x_ fun t40 x_ => uP x_ fun t41 x_ => uP x_ fun t42 x_ => uP x_ fun t50 x_ => uP x_ fun t51 x_ => uP x_ fun f0 x_ => uP x_ fun f1 x_ => k_ 0 (Shape.inj R_Power.c3x0 (c, n, c0, c1, c2, (0 : Int), (0 : Int), [], f0, f1, f0, f1, ())))
def R_Power.c224581 {ρ : Type} (n : Int) (c0 : Int) (c1 : Int) (c2 : List ((Int) × ((Int) × ((List Int) × ((Int) × ((Int) × (List Int))))))) (base0 : Int) (base1 : Int) (base2 : List ((Int) × ((Int) × ((List Int) × ((Int) × ((Int) × (List Int))))))) (k_ : (Int) × (Int) × (List ((Int) × ((Int) × ((List Int) × ((Int) × ((Int) × (List Int))))))) → Option ρ) : Option ρ :=
  br (decide (n < (0 : Int)))
   (bnd (W.R_Inverse (c0, c1, c2)) fun y =>
    k_ ((Prod.fst (Prod.fst y)), (Prod.fst (Prod.snd (Prod.fst y))), (Prod.snd (Prod.snd (Prod.fst y)))))
   (k_ (base0, base1, base2))
def R_Power.c224581s : Shape := ⟨[(0, q10), (1, q0), (2, q5), (4, q28), (5, q29), (6, q45), (7, q42), (8, q46)], [(2, q4), (4, q4), (5, q12), (6, q12), (7, q61), (8, q4), (3007, q44)]⟩
def R_Power.c224581x0 : Shape := ⟨[(0, q10), (1, q0), (2, q5), (4, q28), (5, q29), (6, q45), (7, q42), (8, q46)], [(2, q4), (4, q4), (5, q12), (6, q12), (7, q61), (8, q4), (3007, q44)]⟩
def R_Power.c224581r : Ck := Ck.of (T := (Int) × (Int) × (List ((Int) × ((Int) × ((List Int) × ((Int) × ((Int) × (List Int)))))))) R_Power.c224581s (fun ρ x_ k_ => uP x_ fun c x_ => uP x_ fun n x_ => uP x_ fun c0 x_ => uP x_ fun c1 x_ => uP x_ fun c2 x_ => uP x_ fun t40 x_ => uP x_ fun t41 x_ => uP x_ fun t42 x_ => uP x_ fun t50 x_ => uP x_ fun t51 x_ => uP x_ fun f0 x_ => uP x_ fun f1 x_ => uP x_ fun out0 x_ => uP x_ fun out1 x_ => uP x_ fun base0 x_ => uP x_ fun base1 x_ => uP x_ fun base2 x_ => uP x_ fun t3007 x_ => R_Power.c224581 n c0 c1 c2 base0 base1 base2 k_) (fun ρ x_ r_ k_ => uP x_ fun c x_ => uP x_ fun n x_ => uP x_ fun c0 x_ => uP x_ fun c1 x_ => uP x_ fun c2 x_ => uP x_ fun t40 x_ => uP x_ fun t41 x_ => uP x_ fun t42 x_ => uP x_ fun t50 x_ => uP x_ fun t51 x_ => uP x_ fun f0 x_ => uP x_ fun f1 x_ => uP x_ fun out0 x_ => uP x_ fun out1 x_ => uP x_ fun base0 x_ => uP x_ fun base1 x_ => uP x_ fun base2 x_ => uP x_ fun t3007 x_ => k_ 0 (Shape.inj R_Power.c224581x0 (c, n, c0, c1, c2, t40, t41, t42, t50, t51, f0, f1, out0, out1, r_.1, r_.2.1, r_.2.2, t3007, ())))
def R_Power.c9 {ρ : Type}  (k_ : Unit → Option ρ) : Option ρ :=
  k_ ()
def R_Power.c9s : Shape := ⟨[(0, q10), (1, q0), (2, q5), (4, q28), (5, q29), (6, q45), (7, q42), (8, q46)], [(2, q4), (4, q4), (5, q12), (6, q12), (7, q61), (8, q4), (3007, q44)]⟩
def R_Power.c9x0 : Shape := ⟨[(0, q10), (1, q0), (2, q5), (4, q28), (5, q29), (6, q45), (7, q42), (8, q46)], [(2, q4), (4, q61), (5, q12), (6, q12), (7, q61), (8, q4), (3007, q44)]⟩
def R_Power.c9r : Ck := Ck.of (T := Unit) R_Power.c9s (fun ρ x_ k_ => uP x_ fun c x_ => uP x_ fun n x_ => uP x_ fun c0 x_ => uP x_ fun c1 x_ => uP x_ fun c2 x_ => uP x_ fun t40 x_ => uP x_ fun t41 x_ => uP x_ fun t42 x_ => uP x_ fun t50 x_ => uP x_ fun t51 x_ => uP x_ fun f0 x_ => uP x_ fun f1 x_ => uP x_ fun out0 x_ => uP x_ fun out1 x_ => uP x_ fun base0 x_ => uP x_ fun base1 x_ => uP x_ fun base2 x_ => uP x_ fun t3007 x_ => R_Power.c9  k_) (fun ρ x_ r_ k_ => uP x_ fun c x_ => uP x_ fun n x_ => uP x_ fun c0 x_ => uP x_ fun c1 x_ => uP x_ fun c2 x_ => uP x_ fun t40 x_ => uP x_ fun t41 x_ => uP x_ fun t42 x_ => uP x_ fun t50 x_ => uP x_ fun t51 x_ => uP x_ fun f0 x_ => uP x_ fun f1 x_ => uP x_ fun out0 x_ => uP x_ fun out1 x_ => uP x_ fun base0 x_ => uP x_ fun base1 x_ => uP x_ fun base2 x_ => uP x_ fun t3007 x_ => k_ 0 (Shape.inj R_Power.c9x0 (c, n, c0, c1, c2, out0, out1, f0, f1, f0, f1, out0, out1, base0, base1, base2, t3007, ())))
def R_Power.c16 {ρ : Type} (i : Int) (base2 : List ((Int) × ((Int) × ((List Int) × ((Int) × ((Int) × (List Int))))))) (t3007 : List ((Int) × ((Int) × ((List Int) × ((Int) × ((Int) × (List Int))))))) (k_ : List ((Int) × ((Int) × ((List Int) × ((Int) × ((Int) × (List Int)))))) → Option ρ) : Option ρ :=
  bnd (idx base2 i) fun y =>
  bnd (W.R_copyOp y) fun y_1 =>
  bnd (okIf (decide ((List.length t3007 + List.length [y_1]) * (80 : Nat) ≤ (140737488355328 : Nat)) && decide (List.length t3007 + List.length [y_1] ≤ (140737488355328 : Nat)))) fun y_2 =>
  k_ (t3007 ++ [y_1])
def R_Power.c16s : Shape := ⟨[(0, q10), (1, q0), (2, q5), (4, q28), (5, q29), (6, q45), (7, q42), (8, q46), (9, q0)], [(2, q4), (4, q4), (5, q12), (6, q12), (7, q61), (8, q4), (3007, q44)]⟩
def R_Power.c16x0 : Shape := ⟨[(0, q10), (1, q0), (2, q5), (4, q28), (5, q29), (6, q45), (7, q42), (8, q46), (9, q0)], [(2, q4), (4, q4), (5, q12), (6, q12), (7, q61), (8, q4), (3007, q44)]⟩
def R_Power.c16r : Ck := Ck.of (T := List ((Int) × ((Int) × ((List Int) × ((Int) × ((Int) × (List Int))))))) R_Power.c16s (fun ρ x_ k_ => uP x_ fun c x_ => uP x_ fun n x_ => uP x_ fun i x_ => uP x_ fun c0 x_ => uP x_ fun c1 x_ => uP x_ fun c2 x_ => uP x_ fun t40 x_ => uP x_ fun t41 x_ => uP x_ fun t42 x_ => uP x_ fun t50 x_ => uP x_ fun t51 x_ => uP x_ fun f0 x_ => uP x_ fun f1 x_ => uP x_ fun out0 x_ => uP x_ fun out1 x_ => uP x_ fun base0 x_ => uP x_ fun base1 x_ => uP x_ fun base2 x_ => uP x_ fun t3007 x_ => R_Power.c16 i base2 t3007 k_) (fun ρ x_ r_ k_ => uP x_ fun c x_ => uP x_ fun n x_ => uP x_ fun i x_ => uP x_ fun c0 x_ => uP x_ fun c1 x_ => uP x_ fun c2 x_ => uP x_ fun t40 x_ => uP x_ fun t41 x_ => uP x_ fun t42 x_ => uP x_ fun t50 x_ => uP x_ fun t51 x_ => uP x_ fun f0 x_ => uP x_ fun f1 x_ => uP x_ fun out0 x_ => uP x_ fun out1 x_ => uP x_ fun base0 x_ => uP x_ fun base1 x_ => uP x_ fun base2 x_ => uP x_ fun t3007 x_ => k_ 0 (Shape.inj R_Power.c16x0 (c, n, i, c0, c1, c2, t40, t41, t42, t50, t51, f0, f1, out0, out1, base0, base1, base2, r_, ())))
def R_Power.c100014 {ρ : Type} (i : Int) (base2 : List ((Int) × ((Int) × ((List Int) × ((Int) × ((Int) × (List Int))))))) (t3007 : List ((Int) × ((Int) × ((List Int) × ((Int) × ((Int) × (List Int))))))) (k_ : ((Int) × (List ((Int) × ((Int) × ((List Int) × ((Int) × ((Int) × (List Int)))))))) ⊕ ((Int) × (List ((Int) × ((Int) × ((List Int) × ((Int) × ((Int) × (List Int)))))))) → Option ρ) : Option ρ :=
  br (decide (i < (↑(List.length base2) : Int)))
   (bnd (W.R_Power.c16 i base2 t3007 some) fun y =>
    k_ (.inl ((IntKind.wrap IntKind.i64 (i + (1 : Int))), y)))
   (k_ (.inr (i, t3007)))
def R_Power.c100014s : Shape := ⟨[(0, q10), (1, q0), (2, q5), (4, q28), (5, q29), (6, q45), (7, q42), (8, q46), (9, q0)], [(2, q4), (4, q4), (5, q12), (6, q12), (7, q61), (8, q4), (3007, q44)]⟩
def R_Power.c100014x0 : Shape := ⟨[(0, q10), (1, q0), (2, q5), (4, q28), (5, q29), (6, q45), (7, q42), (8, q46), (9, q0)], [(2, q4), (4, q4), (5, q12), (6, q12), (7, q61), (8, q4), (3007, q44)]⟩
def R_Power.c100014r : Ck := Ck.ofLoop (S := (Int) × (List ((Int) × ((Int) × ((List Int) × ((Int) × ((Int) × (List Int)))))))) (T := (Int) × (List ((Int) × ((Int) × ((List Int) × ((Int) × ((Int) × (List Int)))))))) R_Power.c100014s (fun x_ => uP x_ fun c x_ => uP x_ fun n x_ => uP x_ fun i x_ => uP x_ fun c0 x_ => uP x_ fun c1 x_ => uP x_ fun c2 x_ => uP x_ fun t40 x_ => uP x_ fun t41 x_ => uP x_ fun t42 x_ => uP x_ fun t50 x_ => uP x_ fun t51 x_ => uP x_ fun f0 x_ => uP x_ fun f1 x_ => uP x_ fun out0 x_ => uP x_ fun out1 x_ => uP x_ fun base0 x_ => uP x_ fun base1 x_ => uP x_ fun base2 x_ => uP x_ fun t3007 x_ => (i, t3007)) (fun ρ x_ s_ k_ => uP x_ fun c x_ => uP x_ fun n x_ => uP x_ fun i x_ => uP x_ fun c0 x_ => uP x_ fun c1 x_ => uP x_ fun c2 x_ => uP x_ fun t40 x_ => uP x_ fun t41 x_ => uP x_ fun t42 x_ => uP x_ fun t50 x_ => uP x_ fun t51 x_ => uP x_ fun f0 x_ => uP x_ fun f1 x_ => uP x_ fun out0 x_ => uP x_ fun out1 x_ => uP x_ fun base0 x_ => uP x_ fun base1 x_ => uP x_ fun base2 x_ => uP x_ fun t3007 x_ => R_Power.c100014 s_.1 base2 s_.2 k_) (fun ρ x_ r_ k_ => uP x_ fun c x_ => uP x_ fun n x_ => uP x_ fun i x_ => uP x_ fun c0 x_ => uP x_ fun c1 x_ => uP x_ fun c2 x_ => uP x_ fun t40 x_ => uP x_ fun t41 x_ => uP x_ fun t42 x_ => uP x_ fun t50 x_ => uP x_ fun t51 x_ => uP x_ fun f0 x_ => uP x_ fun f1 x_ => uP x_ fun out0 x_ => uP x_ fun out1 x_ => uP x_ fun base0 x_ => uP x_ fun base1 x_ => uP x_ fun base2 x_ => uP x_ fun t3007 x_ => k_ 4 (Shape.inj R_Power.c100014x0 (c, n, r_.1, c0, c1, c2, t40, t41, t42, t50, t51, f0, f1, out0, out1, base0, base1, base2, r_.2, ())))
def R_Power.c100010 {ρ : Type} (n : Int) (base2 : List ((Int) × ((Int) × ((List Int) × ((Int) × ((Int) × (List Int))))))) (t3007 : List ((Int) × ((Int) × ((List Int) × ((Int) × ((Int) × (List Int))))))) (k_ : ((Int) × (List ((Int) × ((Int) × ((List Int) × ((Int) × ((Int) × (List Int)))))))) ⊕ (((Int) × (Int) × (Int) × (List ((Int) × ((Int) × ((List Int) × ((Int) × ((Int) × (List Int)))))))) ⊕ ((Int) × (List ((Int) × ((Int) × ((List Int) × ((Int) × ((Int) × (List Int))))))))) → Option ρ) : Option ρ :=
  br (n != (0 : Int))
   (br (decide (IntKind.wrap IntKind.i64 ((↑(List.length t3007) : Int) + (↑(List.length base2) : Int)) > (4096 : Int)))
     (bnd (W.R_rfault (2 : Int) (0 : Int)) fun y =>
      k_ (.inr (.inl (n, (Prod.fst y), (Prod.snd y), t3007))))
     (bnd (iter (fun s ↦ W.R_Power.c100014 (Prod.fst s) base2 (Prod.snd s) some) ((0 : Int), t3007)) fun y_1 =>
      br (decide (n > (0 : Int)))
       (k_ (.inl ((IntKind.wrap IntKind.i64 (n - (1 : Int))), (Prod.snd y_1))))
       (k_ (.inl ((IntKind.wrap IntKind.i64 (n + (1 : Int))), (Prod.snd y_1))))))
   (k_ (.inr (.inr (n, t3007))))
def R_Power.c100010s : Shape := ⟨[(0, q10), (1, q0), (2, q5), (4, q28), (5, q29), (6, q45), (7, q42), (8, q46)], [(2, q4), (4, q4), (5, q12), (6, q12), (7, q61), (8, q4), (3007, q44)]⟩
def R_Power.c100010x0 : Shape := ⟨[(0, q10), (1, q0), (2, q5), (4, q28), (5, q29), (6, q45), (7, q42), (8, q46)], [(2, q4), (4, q4), (5, q12), (6, q12), (7, q61), (8, q4), (3007, q44)]⟩
def R_Power.c100010x1 : Shape := ⟨[(0, q10), (1, q0), (2, q5), (4, q28), (5, q29), (6, q45), (7, q42), (8, q46)], [(2, q4), (4, q4), (5, q12), (6, q12), (7, q61), (8, q4), (3007, q44)]⟩
def R_Power.c100010r : Ck := Ck.ofLoop (S := (Int) × (List ((Int) × ((Int) × ((List Int) × ((Int) × ((Int) × (List Int)))))))) (T := ((Int) × (Int) × (Int) × (List ((Int) × ((Int) × ((List Int) × ((Int) × ((Int) × (List Int)))))))) ⊕ ((Int) × (List ((Int) × ((Int) × ((List Int) × ((Int) × ((Int) × (List Int))))))))) R_Power.c100010s (fun x_ => uP x_ fun c x_ => uP x_ fun n x_ => uP x_ fun c0 x_ => uP x_ fun c1 x_ => uP x_ fun c2 x_ => uP x_ fun t40 x_ => uP x_ fun t41 x_ => uP x_ fun t42 x_ => uP x_ fun t50 x_ => uP x_ fun t51 x_ => uP x_ fun f0 x_ => uP x_ fun f1 x_ => uP x_ fun out0 x_ => uP x_ fun out1 x_ => uP x_ fun base0 x_ => uP x_ fun base1 x_ => uP x_ fun base2 x_ => uP x_ fun t3007 x_ => (n, t3007)) (fun ρ x_ s_ k_ => uP x_ fun c x_ => uP x_ fun n x_ => uP x_ fun c0 x_ => uP x_ fun c1 x_ => uP x_ fun c2 x_ => uP x_ fun t40 x_ => uP x_ fun t41 x_ => uP x_ fun t42 x_ => uP x_ fun t50 x_ => uP x_ fun t51 x_ => uP x_ fun f0 x_ => uP x_ fun f1 x_ => uP x_ fun out0 x_ => uP x_ fun out1 x_ => uP x_ fun base0 x_ => uP x_ fun base1 x_ => uP x_ fun base2 x_ => uP x_ fun t3007 x_ => R_Power.c100010 s_.1 base2 s_.2 k_) (fun ρ x_ r_ k_ => uP x_ fun c x_ => uP x_ fun n x_ => uP x_ fun c0 x_ => uP x_ fun c1 x_ => uP x_ fun c2 x_ => uP x_ fun t40 x_ => uP x_ fun t41 x_ => uP x_ fun t42 x_ => uP x_ fun t50 x_ => uP x_ fun t51 x_ => uP x_ fun f0 x_ => uP x_ fun f1 x_ => uP x_ fun out0 x_ => uP x_ fun out1 x_ => uP x_ fun base0 x_ => uP x_ fun base1 x_ => uP x_ fun base2 x_ => uP x_ fun t3007 x_ => sel r_ (fun r_ => k_ 1 (Shape.inj R_Power.c100010x0 (c, r_.1, c0, c1, c2, (0 : Int), (0 : Int), [], r_.2.1, r_.2.2.1, f0, f1, out0, out1, base0, base1, base2, r_.2.2.2, ()))) (fun r_ => k_ 2 (Shape.inj R_Power.c100010x1 (c, r_.1, c0, c1, c2, t40, t41, t42, t50, t51, f0, f1, out0, out1, base0, base1, base2, r_.2, ()))))
def R_Power.c20 {ρ : Type}  (k_ : Unit → Option ρ) : Option ρ :=
  k_ ()
def R_Power.c20s : Shape := ⟨[(0, q10), (1, q0), (2, q5), (4, q28), (5, q29), (6, q45), (7, q42), (8, q46)], [(2, q4), (4, q4), (5, q12), (6, q12), (7, q61), (8, q4), (3007, q44)]⟩
def R_Power.c20x0 : Shape := ⟨[(0, q10), (1, q0), (2, q5), (4, q28), (5, q29), (6, q45), (7, q42), (8, q46)], [(2, q4), (4, q61), (5, q12), (6, q12), (7, q61), (8, q4), (3007, q44)]⟩
def R_Power.c20r : Ck := Ck.of (T := Unit) R_Power.c20s (fun ρ x_ k_ => uP x_ fun c x_ => uP x_ fun n x_ => uP x_ fun c0 x_ => uP x_ fun c1 x_ => uP x_ fun c2 x_ => uP x_ fun t40 x_ => uP x_ fun t41 x_ => uP x_ fun t42 x_ => uP x_ fun t50 x_ => uP x_ fun t51 x_ => uP x_ fun f0 x_ => uP x_ fun f1 x_ => uP x_ fun out0 x_ => uP x_ fun out1 x_ => uP x_ fun base0 x_ => uP x_ fun base1 x_ => uP x_ fun base2 x_ => uP x_ fun t3007 x_ => R_Power.c20  k_) (fun ρ x_ r_ k_ => uP x_ fun c x_ => uP x_ fun n x_ => uP x_ fun c0 x_ => uP x_ fun c1 x_ => uP x_ fun c2 x_ => uP x_ fun t40 x_ => uP x_ fun t41 x_ => uP x_ fun t42 x_ => uP x_ fun t50 x_ => uP x_ fun t51 x_ => uP x_ fun f0 x_ => uP x_ fun f1 x_ => uP x_ fun out0 x_ => uP x_ fun out1 x_ => uP x_ fun base0 x_ => uP x_ fun base1 x_ => uP x_ fun base2 x_ => uP x_ fun t3007 x_ => k_ 0 (Shape.inj R_Power.c20x0 (c, n, c0, c1, c2, out0, out1, f0, f1, f0, f1, out0, out1, base0, base1, base2, t3007, ())))
def R_Power (c : (Int) × ((Int) × (List ((Int) × ((Int) × ((List Int) × ((Int) × ((Int) × (List Int))))))))) (n : Int) : Option (((Int) × ((Int) × (List ((Int) × ((Int) × ((List Int) × ((Int) × ((Int) × (List Int))))))))) × ((Int) × (Int))) :=
  bnd (W.R_Pure (Prod.fst c, Prod.fst (Prod.snd c), Prod.snd (Prod.snd c))) fun y =>
  br (Prod.fst y != (0 : Int))
   (bnd (W.R_Power.c3 some) fun y_1 =>
    some (((0 : Int), (0 : Int), []), Prod.fst y, Prod.snd y))
   (bnd (W.R_Power.c224581 n (Prod.fst c) (Prod.fst (Prod.snd c)) (Prod.snd (Prod.snd c)) (Prod.fst c) (Prod.fst (Prod.snd c)) (Prod.snd (Prod.snd c)) some) fun y_2 =>
    br ((↑(List.length (Prod.snd (Prod.snd c))) : Int) == (0 : Int))
     (bnd (W.R_Power.c9 some) fun y_3 =>
      some ((Prod.fst c, Prod.fst (Prod.snd c), []), Prod.fst y, Prod.snd y))
     (bnd (iter (fun s ↦ W.R_Power.c100010 (Prod.fst s) (Prod.snd (Prod.snd y_2)) (Prod.snd s) some) (n, [])) fun y_4 =>
      sel y_4
       (fun u => some (((0 : Int), (0 : Int), []), Prod.fst (Prod.snd u), Prod.fst (Prod.snd (Prod.snd u))))
       (fun v => bnd (W.R_Power.c20 some) fun y_5 =>
        some ((Prod.fst c, Prod.fst (Prod.snd c), Prod.snd v), Prod.fst y, Prod.snd y))))
def R_Power.ce : Go.Ql.Callee := ⟨[(.st (.pair (.int .i64) (.pair (.int .i64) (.sl (.st (.pair (.int .i64) (.pair (.int .i64) (.pair (.sl (.int .i64)) (.pair (.int .i64) (.pair (.int .i64) (.sl (.int .i64)))))))))))), (.int .i64)], [(.st (.pair (.int .i64) (.pair (.int .i64) (.sl (.st (.pair (.int .i64) (.pair (.int .i64) (.pair (.sl (.int .i64)) (.pair (.int .i64) (.pair (.int .i64) (.sl (.int .i64)))))))))))), (.st (.pair (.int .i64) (.int .i64)))], fun x_ => R_Power x_.1 x_.2⟩
def R_Power.G : Env := ⟨74, tab, [(17, R_Pure.ce), (24, R_Inverse.ce), (42, R_rfault.ce), (37, R_copyOp.ce)], [0, 1, 2, 4, 5, 6, 7, 8, 9, 14, 24, 33, 37, 45, 52, 67], [2, 7, 21, 3002, 3007], [(20, [⟨[], [], [73], []⟩, ⟨[], [], [72], [4]⟩, ⟨[0], [4], [73], []⟩, ⟨[1, 2, 0], [5], [], []⟩]),
  (16, [⟨[], [], [57, 58, 59, 60, 61, 62, 63], [63]⟩, ⟨[0], [], [57, 58, 59, 60, 61, 62, 63], [63]⟩, ⟨[], [], [55, 56, 59], []⟩, ⟨[2], [], [55, 56, 59], []⟩, ⟨[], [], [55, 56, 57, 58], []⟩, ⟨[3, 2, 4], [], [55, 56], []⟩, ⟨[5, 3, 2, 4], [], [55, 56], []⟩, ⟨[6, 5, 3, 2, 4], [], [55, 56], []⟩, ⟨[7, 6, 5, 3, 2, 4], [63], [55, 56], []⟩, ⟨[1, 0, 8, 7, 6, 5, 3, 2, 4], [3007], [], []⟩, ⟨[0, 1, 2, 3, 4, 5, 6, 7, 8, 9], [], [], []⟩, ⟨[10, 0, 1, 2, 3, 4, 5, 6, 7, 8, 9], [7], [], []⟩]),
  (9, [⟨[], [], [35], []⟩, ⟨[], [], [34], [4]⟩, ⟨[0], [4], [35], []⟩, ⟨[1, 2, 0], [5], [], []⟩]),
  (3, [⟨[], [], [16], []⟩, ⟨[], [], [15], [4]⟩, ⟨[0], [4], [16], []⟩, ⟨[1, 2, 0], [5], [], []⟩])], [(20, R_Power.c20r), (100010, R_Power.c100010r), (100014, R_Power.c100014r), (16, R_Power.c16r), (9, R_Power.c9r), (224581, R_Power.c224581r), (3, R_Power.c3r)], [], tab_eqs⟩
theorem R_Power.eq (x_ : dens [(.st (.pair (.int .i64) (.pair (.int .i64) (.sl (.st (.pair (.int .i64) (.pair (.int .i64) (.pair (.sl (.int .i64)) (.pair (.int .i64) (.pair (.int .i64) (.sl (.int .i64)))))))))))), (.int .i64)]) : den R_Power.G Go.Proofs.Tryd.f19 [(.st (.pair (.int .i64) (.pair (.int .i64) (.sl (.st (.pair (.int .i64) (.pair (.int .i64) (.pair (.sl (.int .i64)) (.pair (.int .i64) (.pair (.int .i64) (.sl (.int .i64)))))))))))), (.int .i64)] [(.st (.pair (.int .i64) (.pair (.int .i64) (.sl (.st (.pair (.int .i64) (.pair (.int .i64) (.pair (.sl (.int .i64)) (.pair (.int .i64) (.pair (.int .i64) (.sl (.int .i64)))))))))))), (.st (.pair (.int .i64) (.int .i64)))] x_ = R_Power x_.1 x_.2 := by kernel_rfl
theorem R_Power.p0 : PieceOk R_Power.G (pieceAt (pieces R_Power.G.cks (bodyOf Go.Proofs.Tryd.f19)) 0).1 (pieceAt (pieces R_Power.G.cks (bodyOf Go.Proofs.Tryd.f19)) 0).2 :=
  region_ok (s := R_Power.c3r) (by kernel_rfl) (by kernel_rfl) (sums_of (sh := R_Power.c3s) (fun ρ x_ k_ => nat_leaf) (fun ρ x_ t k => (by kernel_rfl)) (fun x_ => by kernel_rfl))
theorem R_Power.p1 : PieceOk R_Power.G (pieceAt (pieces R_Power.G.cks (bodyOf Go.Proofs.Tryd.f19)) 1).1 (pieceAt (pieces R_Power.G.cks (bodyOf Go.Proofs.Tryd.f19)) 1).2 :=
  join_ok (s := R_Power.c224581r) (by kernel_rfl) (by kernel_rfl) (sums_of (sh := R_Power.c224581s) (fun ρ x_ k_ => (nat_br (nat_bnd fun _ => nat_leaf) nat_leaf)) (fun ρ x_ t k => (by kernel_rfl)) (fun x_ => by kernel_rfl))
theorem R_Power.p2 : PieceOk R_Power.G (pieceAt (pieces R_Power.G.cks (bodyOf Go.Proofs.Tryd.f19)) 2).1 (pieceAt (pieces R_Power.G.cks (bodyOf Go.Proofs.Tryd.f19)) 2).2 :=
  region_ok (s := R_Power.c9r) (by kernel_rfl) (by kernel_rfl) (sums_of (sh := R_Power.c9s) (fun ρ x_ k_ => nat_leaf) (fun ρ x_ t k => (by kernel_rfl)) (fun x_ => by kernel_rfl))
theorem R_Power.p3 : PieceOk R_Power.G (pieceAt (pieces R_Power.G.cks (bodyOf Go.Proofs.Tryd.f19)) 3).1 (pieceAt (pieces R_Power.G.cks (bodyOf Go.Proofs.Tryd.f19)) 3).2 :=
  loop_ok (s := R_Power.c100010r) (by kernel_rfl) (by kernel_rfl) (loops_of (sh := R_Power.c100010s) (I := fun x_ s_ => (x_.1, s_.1, x_.2.2.1, x_.2.2.2.1, x_.2.2.2.2.1, x_.2.2.2.2.2.1, x_.2.2.2.2.2.2.1, x_.2.2.2.2.2.2.2.1, x_.2.2.2.2.2.2.2.2.1, x_.2.2.2.2.2.2.2.2.2.1, x_.2.2.2.2.2.2.2.2.2.2.1, x_.2.2.2.2.2.2.2.2.2.2.2.1, x_.2.2.2.2.2.2.2.2.2.2.2.2.1, x_.2.2.2.2.2.2.2.2.2.2.2.2.2.1, x_.2.2.2.2.2.2.2.2.2.2.2.2.2.2.1, x_.2.2.2.2.2.2.2.2.2.2.2.2.2.2.2.1, x_.2.2.2.2.2.2.2.2.2.2.2.2.2.2.2.2.1, s_.2, ())) (fun x_ => rfl) (fun ρ x_ s_ k_ => (nat_br (nat_br (nat_bnd fun _ => nat_leaf) (nat_bnd fun _ => (nat_br nat_leaf nat_leaf))) nat_leaf)) (fun ρ x_ t k => (nat_sel (fun _ => (by kernel_rfl)) (fun _ => (by kernel_rfl)))) (fun x_ s => by kernel_rfl))
theorem R_Power.p4 : PieceOk R_Power.G (pieceAt (pieces R_Power.G.cks (bodyOf Go.Proofs.Tryd.f19)) 4).1 (pieceAt (pieces R_Power.G.cks (bodyOf Go.Proofs.Tryd.f19)) 4).2 :=
  loop_ok (s := R_Power.c100014r) (by kernel_rfl) (by kernel_rfl) (loops_of (sh := R_Power.c100014s) (I := fun x_ s_ => (x_.1, x_.2.1, s_.1, x_.2.2.2.1, x_.2.2.2.2.1, x_.2.2.2.2.2.1, x_.2.2.2.2.2.2.1, x_.2.2.2.2.2.2.2.1, x_.2.2.2.2.2.2.2.2.1, x_.2.2.2.2.2.2.2.2.2.1, x_.2.2.2.2.2.2.2.2.2.2.1, x_.2.2.2.2.2.2.2.2.2.2.2.1, x_.2.2.2.2.2.2.2.2.2.2.2.2.1, x_.2.2.2.2.2.2.2.2.2.2.2.2.2.1, x_.2.2.2.2.2.2.2.2.2.2.2.2.2.2.1, x_.2.2.2.2.2.2.2.2.2.2.2.2.2.2.2.1, x_.2.2.2.2.2.2.2.2.2.2.2.2.2.2.2.2.1, x_.2.2.2.2.2.2.2.2.2.2.2.2.2.2.2.2.2.1, s_.2, ())) (fun x_ => rfl) (fun ρ x_ s_ k_ => (nat_br (nat_bnd fun _ => nat_leaf) nat_leaf)) (fun ρ x_ t k => (by kernel_rfl)) (fun x_ s => by kernel_rfl))
theorem R_Power.p5 : PieceOk R_Power.G (pieceAt (pieces R_Power.G.cks (bodyOf Go.Proofs.Tryd.f19)) 5).1 (pieceAt (pieces R_Power.G.cks (bodyOf Go.Proofs.Tryd.f19)) 5).2 :=
  region_ok (s := R_Power.c16r) (by kernel_rfl) (by kernel_rfl) (sums_of (sh := R_Power.c16s) (fun ρ x_ k_ => (nat_bnd fun _ => (nat_bnd fun _ => (nat_bnd fun _ => nat_leaf)))) (fun ρ x_ t k => (by kernel_rfl)) (fun x_ => by kernel_rfl))
theorem R_Power.p6 : PieceOk R_Power.G (pieceAt (pieces R_Power.G.cks (bodyOf Go.Proofs.Tryd.f19)) 6).1 (pieceAt (pieces R_Power.G.cks (bodyOf Go.Proofs.Tryd.f19)) 6).2 :=
  region_ok (s := R_Power.c20r) (by kernel_rfl) (by kernel_rfl) (sums_of (sh := R_Power.c20s) (fun ρ x_ k_ => nat_leaf) (fun ρ x_ t k => (by kernel_rfl)) (fun x_ => by kernel_rfl))
theorem R_Power.ok : CalleeOk Go.Proofs.Tryd.prog 19 R_Power.ce := fn_ok (G := R_Power.G) tab_ok mixed Go.Proofs.Tryd.func19 ⟨(fns_cons R_Pure.ok (fns_cons R_Inverse.ok (fns_cons R_rfault.ok (fns_cons R_copyOp.ok fns_nil)))), mfns_nil, tab_eqs_ok⟩ (m := 7) (by kernel_rfl) ⟨⟨⟨⟨⟨⟨⟨trivial, R_Power.p0⟩, R_Power.p1⟩, R_Power.p2⟩, R_Power.p3⟩, R_Power.p4⟩, R_Power.p5⟩, R_Power.p6⟩ (by kernel_rfl) R_Power.eq
abbrev q62 : SD := .one (.val (.st (.pair (.int .i64) (.int .i64))))
def Law_answers.c1 {ρ : Type} (c0 : Int) (c1 : Int) (c2 : List ((Int) × ((Int) × ((List Int) × ((Int) × ((Int) × (List Int))))))) (f0 : Int) (f1 : Int) (d0 : Int) (d1 : Int) (d2 : List ((Int) × ((Int) × ((List Int) × ((Int) × ((Int) × (List Int))))))) (g0 : Int) (g1 : Int) (k_ : Bool → Option ρ) : Option ρ :=
  br (Ty.eqT (Ty.pair (Ty.int IntKind.i64) (Ty.int IntKind.i64)) (f0, f1) (g0, g1))
   (bnd (W.R_SameCircuit (c0, c1, c2) (d0, d1, d2)) fun y =>
    k_ y)
   (k_ false)
def Law_answers.c1s : Shape := ⟨[(0, q10), (1, q62), (2, q10), (3, q62), (4, q28), (5, q29), (6, q45), (7, q42), (8, q1)], [(4, q4), (5, q12), (6, q4), (7, q12)]⟩
def Law_answers.c1x0 : Shape := ⟨[(0, q10), (1, q62), (2, q10), (3, q62), (4, q28), (5, q29), (6, q45), (7, q42), (8, q1)], [(4, q4), (5, q12), (6, q4), (7, q12)]⟩
def Law_answers.c1r : Ck := Ck.of (T := Bool) Law_answers.c1s (fun ρ x_ k_ => uP x_ fun c x_ => uP x_ fun f x_ => uP x_ fun d x_ => uP x_ fun g x_ => uP x_ fun t8 x_ => uP x_ fun c0 x_ => uP x_ fun c1 x_ => uP x_ fun c2 x_ => uP x_ fun f0 x_ => uP x_ fun f1 x_ => uP x_ fun d0 x_ => uP x_ fun d1 x_ => uP x_ fun d2 x_ => uP x_ fun g0 x_ => uP x_ fun g1 x_ => Law_answers.c1 c0 c1 c2 f0 f1 d0 d1 d2 g0 g1 k_) (fun ρ x_ r_ k_ => uP x_ fun c x_ => uP x_ fun f x_ => uP x_ fun d x_ => uP x_ fun g x_ => uP x_ fun t8 x_ => uP x_ fun c0 x_ => uP x_ fun c1 x_ => uP x_ fun c2 x_ => uP x_ fun f0 x_ => uP x_ fun f1 x_ => uP x_ fun d0 x_ => uP x_ fun d1 x_ => uP x_ fun d2 x_ => uP x_ fun g0 x_ => uP x_ fun g1 x_ => k_ 0 (Shape.inj Law_answers.c1x0 (c, f, d, g, r_, c0, c1, c2, f0, f1, d0, d1, d2, g0, g1, ())))
def Law_answers (c : (Int) × ((Int) × (List ((Int) × ((Int) × ((List Int) × ((Int) × ((Int) × (List Int))))))))) (f : (Int) × (Int)) (d : (Int) × ((Int) × (List ((Int) × ((Int) × ((List Int) × ((Int) × ((Int) × (List Int))))))))) (g : (Int) × (Int)) : Option (Bool) :=
  bnd (W.Law_answers.c1 (Prod.fst c) (Prod.fst (Prod.snd c)) (Prod.snd (Prod.snd c)) (Prod.fst f) (Prod.snd f) (Prod.fst d) (Prod.fst (Prod.snd d)) (Prod.snd (Prod.snd d)) (Prod.fst g) (Prod.snd g) some) fun y =>
  some y
def Law_answers.ce : Go.Ql.Callee := ⟨[(.st (.pair (.int .i64) (.pair (.int .i64) (.sl (.st (.pair (.int .i64) (.pair (.int .i64) (.pair (.sl (.int .i64)) (.pair (.int .i64) (.pair (.int .i64) (.sl (.int .i64)))))))))))), (.st (.pair (.int .i64) (.int .i64))), (.st (.pair (.int .i64) (.pair (.int .i64) (.sl (.st (.pair (.int .i64) (.pair (.int .i64) (.pair (.sl (.int .i64)) (.pair (.int .i64) (.pair (.int .i64) (.sl (.int .i64)))))))))))), (.st (.pair (.int .i64) (.int .i64)))], [.bool], fun x_ => Law_answers x_.1 x_.2.1 x_.2.2.1 x_.2.2.2⟩
def Law_answers.G : Env := ⟨17, tab, [(29, R_SameCircuit.ce)], [0, 1, 2, 3, 4, 5, 6, 7, 8], [], [], [(1, Law_answers.c1r)], [], tab_eqs⟩
theorem Law_answers.eq (x_ : dens [(.st (.pair (.int .i64) (.pair (.int .i64) (.sl (.st (.pair (.int .i64) (.pair (.int .i64) (.pair (.sl (.int .i64)) (.pair (.int .i64) (.pair (.int .i64) (.sl (.int .i64)))))))))))), (.st (.pair (.int .i64) (.int .i64))), (.st (.pair (.int .i64) (.pair (.int .i64) (.sl (.st (.pair (.int .i64) (.pair (.int .i64) (.pair (.sl (.int .i64)) (.pair (.int .i64) (.pair (.int .i64) (.sl (.int .i64)))))))))))), (.st (.pair (.int .i64) (.int .i64)))]) : den Law_answers.G Go.Proofs.Tryd.f20 [(.st (.pair (.int .i64) (.pair (.int .i64) (.sl (.st (.pair (.int .i64) (.pair (.int .i64) (.pair (.sl (.int .i64)) (.pair (.int .i64) (.pair (.int .i64) (.sl (.int .i64)))))))))))), (.st (.pair (.int .i64) (.int .i64))), (.st (.pair (.int .i64) (.pair (.int .i64) (.sl (.st (.pair (.int .i64) (.pair (.int .i64) (.pair (.sl (.int .i64)) (.pair (.int .i64) (.pair (.int .i64) (.sl (.int .i64)))))))))))), (.st (.pair (.int .i64) (.int .i64)))] [.bool] x_ = Law_answers x_.1 x_.2.1 x_.2.2.1 x_.2.2.2 := by kernel_rfl
theorem Law_answers.p0 : PieceOk Law_answers.G (pieceAt (pieces Law_answers.G.cks (bodyOf Go.Proofs.Tryd.f20)) 0).1 (pieceAt (pieces Law_answers.G.cks (bodyOf Go.Proofs.Tryd.f20)) 0).2 :=
  region_ok (s := Law_answers.c1r) (by kernel_rfl) (by kernel_rfl) (sums_of (sh := Law_answers.c1s) (fun ρ x_ k_ => (nat_br (nat_bnd fun _ => nat_leaf) nat_leaf)) (fun ρ x_ t k => (by kernel_rfl)) (fun x_ => by kernel_rfl))
theorem Law_answers.ok : CalleeOk Go.Proofs.Tryd.prog 20 Law_answers.ce := fn_ok (G := Law_answers.G) tab_ok mixed Go.Proofs.Tryd.func20 ⟨(fns_cons R_SameCircuit.ok fns_nil), mfns_nil, tab_eqs_ok⟩ (m := 1) (by kernel_rfl) ⟨trivial, Law_answers.p0⟩ (by kernel_rfl) Law_answers.eq
end
end W
end
