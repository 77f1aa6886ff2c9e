/- Lifted functions, part 2: each with its contract. -/
import Derived.Test.YtbaankfibhmcaaaWa
import Derived.Test.YtbaankfibhmcaaaProg
section
set_option maxHeartbeats 4000000
set_option maxRecDepth 100000
set_option linter.unusedVariables false
namespace W
open Go Go.Ql Go.Proofs
noncomputable section
abbrev lb51 : SO := .box [.val .bool, .val (.sl (.int .i64))]
def R_zmade.c2 {ρ : Type} (d : List (Int)) (n : Int) (k_ : Bool → Option ρ) : Option ρ :=
  br (decide (n > (0 : Int)))
   (bnd (idx d (IntKind.wrap IntKind.i64 (n - (1 : Int)))) fun y =>
    k_ (y == (0 : Int)))
   (k_ false)
def R_zmade.c2s : Shape := ⟨[(0, lb11), (1, lb0), (4, lb30), (5, lb2)], [(4, lb51)]⟩
def R_zmade.c2x0 : Shape := ⟨[(0, lb11), (1, lb0), (4, lb30), (5, lb2), (17, lb11)], [(4, lb51)]⟩
def R_zmade.c2r : Ck := Ck.of (T := Bool) R_zmade.c2s (fun ρ x_ k_ => R_zmade.c2 x_.2.1 x_.2.2.1 k_) (fun ρ x_ r_ k_ => k_ 0 (Shape.inj R_zmade.c2x0 (x_.1, x_.2.1, x_.2.2.1, r_, x_.2.2.2)))
def R_zmade.c100002 {ρ : Type} (d : List (Int)) (n : Int) (k_ : (Int) ⊕ (Int) → Option ρ) : Option ρ :=
  bnd (W.R_zmade.c2 d n some) fun y =>
  br y
   (k_ (.inl (IntKind.wrap IntKind.i64 (n - (1 : Int)))))
   (k_ (.inr n))
def R_zmade.c100002s : Shape := R_zmade.c2s
def R_zmade.c100002x0 : Shape := R_zmade.c2s
def R_zmade.c100002r : Ck := Ck.ofLoop (S := Int) (T := Int) R_zmade.c100002s (fun x_ => x_.2.2.1) (fun ρ x_ s_ k_ => R_zmade.c100002 x_.2.1 s_ k_) (fun ρ x_ r_ k_ => k_ 2 (Shape.inj R_zmade.c100002x0 (x_.1, x_.2.1, r_, x_.2.2.2)))
def R_zmade (neg : Bool) (d : List (Int)) : Option ((Bool) × (List Int)) :=
  bnd (iter (fun s ↦ W.R_zmade.c100002 d s some) ↑(List.length d)) fun y =>
  br (y == (0 : Int))
   (some (false, []))
   (bnd (okIf (decide ((0 : Int) ≤ y) && decide (y ≤ (↑(List.length d) : Int)))) fun y_1 =>
    some (neg, List.take (Int.toNat y) d))
def R_zmade.ce : Go.Ql.Callee := ⟨[.bool, (.sl (.int .i64))], [(.st (.pair .bool (.sl (.int .i64))))], fun x_ => R_zmade x_.1 x_.2⟩
def R_zmade.G : Env := ⟨28, tab, [], [0, 1, 4, 5, 17, 21], [], [], [(100002, R_zmade.c100002r), (2, R_zmade.c2r)], [], tab_eqs⟩
theorem R_zmade.eq (x_ : dens R_zmade.ce.params) : den R_zmade.G Try.f50 R_zmade.ce.params R_zmade.ce.res x_ = R_zmade.ce.F x_ := by kernel_rfl
theorem R_zmade.p0 : PcA R_zmade.G Try.f50 0 :=
  loop_ok (s := R_zmade.c100002r) (by kernel_rfl) (by kernel_rfl) (loops_of (sh := R_zmade.c100002s) (I := fun x_ s_ => (x_.1, x_.2.1, s_, x_.2.2.2)) (fun x_ => rfl) (fun ρ x_ s_ k_ => (nat_bnd fun _ => (nat_br nat_leaf nat_leaf))) (fun ρ x_ t k => (by kernel_rfl)) (fun x_ s => by kernel_rfl))
theorem R_zmade.p1 : PcA R_zmade.G Try.f50 1 :=
  region_ok (s := R_zmade.c2r) (by kernel_rfl) (by kernel_rfl) (sums_of (sh := R_zmade.c2s) (fun ρ x_ k_ => (nat_br (nat_bnd fun _ => nat_leaf) nat_leaf)) (fun ρ x_ t k => (by kernel_rfl)) (fun x_ => by kernel_rfl))
theorem R_zmade.ok : CalleeOk Try.prog 50 R_zmade.ce := fn_ok (G := R_zmade.G) tab_ok mixed Try.func50 ⟨fns_nil, mfns_nil, tab_eqs_ok⟩ (m := 2) (by kernel_rfl) ⟨⟨trivial, R_zmade.p0⟩, R_zmade.p1⟩ (by kernel_rfl) R_zmade.eq
abbrev lb52 : SD := .one (.val (.int .u64))
abbrev lb53 : SD := .one (.own 4 0)
def R_ZOf.c208197 {ρ : Type} (n : Int) (u : Int) (k_ : Int → Option ρ) : Option ρ :=
  br (decide (n < (0 : Int)))
   (k_ (IntKind.wrap IntKind.u64 ((0 : Int) - u)))
   (k_ u)
def R_ZOf.c208197s : Shape := ⟨[(0, lb2), (2, lb6), (3, lb52)], [(2, lb51)]⟩
def R_ZOf.c208197x0 : Shape := R_ZOf.c208197s
def R_ZOf.c208197r : Ck := Ck.of (T := Int) R_ZOf.c208197s (fun ρ x_ k_ => R_ZOf.c208197 x_.1 x_.2.1 k_) (fun ρ x_ r_ k_ => k_ 0 (Shape.inj R_ZOf.c208197x0 (x_.1, r_, x_.2.2)))
def R_ZOf.c100005 {ρ : Type} (u : Int) (d : List (Int)) (k_ : ((Int) × (List Int)) ⊕ ((Int) × (List Int)) → Option ρ) : Option ρ :=
  br (decide (u > (0 : Int)))
   (bnd (okIf (decide ((List.length d + (1 : Nat)) * (8 : Nat) ≤ (140737488355328 : Nat)) && decide (List.length d + (1 : Nat) ≤ (140737488355328 : Nat)))) fun y =>
    k_ (.inl ((IntKind.wrap IntKind.u64 (Int.tdiv u (10000 : Int))), (d ++ [IntKind.wrap IntKind.i64 (Int.tmod u (10000 : Int))]))))
   (k_ (.inr (u, d)))
def R_ZOf.c100005s : Shape := ⟨[(0, lb2), (2, lb6), (3, lb52), (4, lb53)], [(2, lb51), (4, lb3)]⟩
def R_ZOf.c100005x0 : Shape := R_ZOf.c100005s
def R_ZOf.c100005r : Ck := Ck.ofLoop (S := (Int) × (List Int)) (T := (Int) × (List Int)) R_ZOf.c100005s (fun x_ => (x_.2.1, x_.2.2.2.2.1)) (fun ρ x_ s_ k_ => R_ZOf.c100005 s_.1 s_.2 k_) (fun ρ x_ r_ k_ => k_ 2 (Shape.inj R_ZOf.c100005x0 (x_.1, r_.1, x_.2.2.1, x_.2.2.2.1, r_.2, ())))
def R_ZOf (n : Int) : Option ((Bool) × (List Int)) :=
  bnd (W.R_ZOf.c208197 n (IntKind.wrap IntKind.u64 n) some) fun y =>
  bnd (iter (fun s ↦ W.R_ZOf.c100005 (Prod.fst s) (Prod.snd s) some) (y, [])) fun y_1 =>
  bnd (W.R_zmade (decide (n < (0 : Int))) (Prod.snd y_1)) fun y_2 =>
  some (Prod.fst y_2, Prod.snd y_2)
def R_ZOf.ce : Go.Ql.Callee := ⟨[(.int .i64)], [(.st (.pair .bool (.sl (.int .i64))))], fun x_ => R_ZOf x_⟩
def R_ZOf.G : Env := ⟨25, tab, [(50, R_zmade.ce)], [0, 2, 3, 4, 8, 12], [4], [], [(100005, R_ZOf.c100005r), (208197, R_ZOf.c208197r)], [], tab_eqs⟩
theorem R_ZOf.eq (x_ : dens R_ZOf.ce.params) : den R_ZOf.G Try.f38 R_ZOf.ce.params R_ZOf.ce.res x_ = R_ZOf.ce.F x_ := by kernel_rfl
theorem R_ZOf.p0 : PcA R_ZOf.G Try.f38 0 :=
  join_ok (s := R_ZOf.c208197r) (by kernel_rfl) (by kernel_rfl) (sums_of (sh := R_ZOf.c208197s) (fun ρ x_ k_ => (nat_br nat_leaf nat_leaf)) (fun ρ x_ t k => (by kernel_rfl)) (fun x_ => by kernel_rfl))
theorem R_ZOf.p1 : PcA R_ZOf.G Try.f38 1 :=
  loop_ok (s := R_ZOf.c100005r) (by kernel_rfl) (by kernel_rfl) (loops_of (sh := R_ZOf.c100005s) (I := fun x_ s_ => (x_.1, s_.1, x_.2.2.1, x_.2.2.2.1, s_.2, ())) (fun x_ => rfl) (fun ρ x_ s_ k_ => (nat_br (nat_bnd fun _ => nat_leaf) nat_leaf)) (fun ρ x_ t k => (by kernel_rfl)) (fun x_ s => by kernel_rfl))
theorem R_ZOf.ok : CalleeOk Try.prog 38 R_ZOf.ce := fn_ok (G := R_ZOf.G) tab_ok mixed Try.func38 ⟨(fns_cons R_zmade.ok fns_nil), mfns_nil, tab_eqs_ok⟩ (m := 2) (by kernel_rfl) ⟨⟨trivial, R_ZOf.p0⟩, R_ZOf.p1⟩ (by kernel_rfl) R_ZOf.eq
def R_ROf (n : (Bool) × (List Int)) : Option ((List ((Bool) × (List Int))) × (Int)) :=
  bnd (idx (List.replicate (8 : Nat) (false, ([] : List (Ty.den (Ty.int IntKind.i64))))) (0 : Int)) fun y =>
  some (List.set (List.replicate (8 : Nat) (false, ([] : List (Ty.den (Ty.int IntKind.i64))))) (0 : Nat) (Prod.fst n, Prod.snd n), (0 : Int))
def R_ROf.ce : Go.Ql.Callee := ⟨[(.st (.pair .bool (.sl (.int .i64))))], [(.st (.pair (.ar 8 (.st (.pair .bool (.sl (.int .i64))))) (.int .i64)))], fun x_ => R_ROf x_⟩
def R_ROf.G : Env := ⟨9, tab, [], [0, 1, 2, 3], [2, 3, 4], [], [], [], tab_eqs⟩
theorem R_ROf.eq (x_ : dens R_ROf.ce.params) : den R_ROf.G Try.f37 R_ROf.ce.params R_ROf.ce.res x_ = R_ROf.ce.F x_ := by kernel_rfl
theorem R_ROf.ok : CalleeOk Try.prog 37 R_ROf.ce := fn_ok (G := R_ROf.G) tab_ok mixed Try.func37 ⟨fns_nil, mfns_nil, tab_eqs_ok⟩ (m := 0) (by kernel_rfl) trivial (by kernel_rfl) R_ROf.eq
def R_Basis (qubits : Int) (t1 : Int) : Option (List ((List ((Bool) × (List Int))) × (Int))) :=
  bnd (okIf (decide ((0 : Int) ≤ qubits))) fun y =>
  bnd (okIf (decide ((0 : Int) ≤ IntKind.wrap IntKind.i64 ((1 : Int) * (2 : Int) ^ Min.min (Int.toNat qubits) (64 : Nat))) && decide (IntKind.wrap IntKind.i64 ((1 : Int) * (2 : Int) ^ Min.min (Int.toNat qubits) (64 : Nat)) ≤ IntKind.wrap IntKind.i64 ((1 : Int) * (2 : Int) ^ Min.min (Int.toNat qubits) (64 : Nat))) && decide (IntKind.wrap IntKind.i64 ((1 : Int) * (2 : Int) ^ Min.min (Int.toNat qubits) (64 : Nat)) * (↑(264 : Nat) : Int) ≤ (140737488355328 : Int)) && decide (IntKind.wrap IntKind.i64 ((1 : Int) * (2 : Int) ^ Min.min (Int.toNat qubits) (64 : Nat)) ≤ (140737488355328 : Int)))) fun y_1 =>
  bnd (W.R_ZOf (1 : Int)) fun y_2 =>
  bnd (W.R_ROf y_2) fun y_3 =>
  bnd (inR (List.length (List.replicate (Int.toNat (IntKind.wrap IntKind.i64 ((1 : Int) * (2 : Int) ^ Min.min (Int.toNat qubits) (64 : Nat)))) (List.replicate (8 : Nat) (false, ([] : List (Ty.den (Ty.int IntKind.i64)))), (0 : Int)))) t1) fun y_4 =>
  bnd (idx (List.replicate (Int.toNat (IntKind.wrap IntKind.i64 ((1 : Int) * (2 : Int) ^ Min.min (Int.toNat qubits) (64 : Nat)))) (List.replicate (8 : Nat) (false, ([] : List (Ty.den (Ty.int IntKind.i64)))), (0 : Int))) t1) fun y_5 =>
  some (List.set (List.replicate (Int.toNat (IntKind.wrap IntKind.i64 ((1 : Int) * (2 : Int) ^ Min.min (Int.toNat qubits) (64 : Nat)))) (List.replicate (8 : Nat) (false, ([] : List (Ty.den (Ty.int IntKind.i64)))), (0 : Int))) (Int.toNat t1) y_3)
def R_Basis.ce : Go.Ql.Callee := ⟨[(.int .i64), (.int .i64)], [(.sl (.st (.pair (.ar 8 (.st (.pair .bool (.sl (.int .i64))))) (.int .i64))))], fun x_ => R_Basis x_.1 x_.2⟩
def R_Basis.G : Env := ⟨15, tab, [(38, R_ZOf.ce), (37, R_ROf.ce)], [0, 1, 4, 5], [8], [], [], [], tab_eqs⟩
theorem R_Basis.eq (x_ : dens R_Basis.ce.params) : den R_Basis.G Try.f23 R_Basis.ce.params R_Basis.ce.res x_ = R_Basis.ce.F x_ := by kernel_rfl
theorem R_Basis.ok : CalleeOk Try.prog 23 R_Basis.ce := fn_ok (G := R_Basis.G) tab_ok mixed Try.func23 ⟨(fns_cons R_ZOf.ok (fns_cons R_ROf.ok fns_nil)), mfns_nil, tab_eqs_ok⟩ (m := 0) (by kernel_rfl) trivial (by kernel_rfl) R_Basis.eq
def R_condition.c4 {ρ : Type} (bits : List (Int)) (i : Int) (o5 : List (Int)) (k_ : Bool → Option ρ) : Option ρ :=
  bnd (idx o5 i) fun y =>
  br (decide (y > (0 : Int)))
   (bnd (idx o5 i) fun y_1 =>
    bnd (idx bits (IntKind.wrap IntKind.i64 (y_1 - (1 : Int)))) fun y_2 =>
    k_ (y_2 != (1 : Int)))
   (k_ false)
def R_condition.c4s : Shape := ⟨[(0, lb12), (1, lb0), (2, lb6), (4, lb11), (5, lb2)], [(2, lb14)]⟩
def R_condition.c4x0 : Shape := ⟨[(0, lb12), (1, lb0), (2, lb6), (4, lb11), (5, lb2), (30, lb11)], [(2, lb14)]⟩
def R_condition.c4r : Ck := Ck.of (T := Bool) R_condition.c4s (fun ρ x_ k_ => R_condition.c4 x_.2.1 x_.2.2.2.1 x_.2.2.2.2.2.2.2.2.2.1 k_) (fun ρ x_ r_ k_ => k_ 0 (Shape.inj R_condition.c4x0 (x_.1, x_.2.1, x_.2.2.1, x_.2.2.2.1, r_, x_.2.2.2.2)))
def R_condition.c6 {ρ : Type} (bits : List (Int)) (i : Int) (o5 : List (Int)) (k_ : Bool → Option ρ) : Option ρ :=
  bnd (idx o5 i) fun y =>
  br (decide (y < (0 : Int)))
   (bnd (idx o5 i) fun y_1 =>
    bnd (idx bits (IntKind.wrap IntKind.i64 (IntKind.wrap IntKind.i64 ((0 : Int) - y_1) - (1 : Int)))) fun y_2 =>
    k_ (y_2 != (0 : Int)))
   (k_ false)
def R_condition.c6s : Shape := R_condition.c4s
def R_condition.c6x0 : Shape := ⟨[(0, lb12), (1, lb0), (2, lb6), (4, lb11), (5, lb2), (49, lb11)], [(2, lb14)]⟩
def R_condition.c6r : Ck := Ck.of (T := Bool) R_condition.c6s (fun ρ x_ k_ => R_condition.c6 x_.2.1 x_.2.2.2.1 x_.2.2.2.2.2.2.2.2.2.1 k_) (fun ρ x_ r_ k_ => k_ 0 (Shape.inj R_condition.c6x0 (x_.1, x_.2.1, x_.2.2.1, x_.2.2.2.1, r_, x_.2.2.2.2)))
def R_condition.c100002 {ρ : Type} (bits : List (Int)) (i : Int) (o5 : List (Int)) (k_ : (Int) ⊕ ((Int) ⊕ (Int)) → Option ρ) : Option ρ :=
  br (decide (i < (↑(List.length o5) : Int)))
   (bnd (W.R_condition.c4 bits i o5 some) fun y =>
    br y
     (k_ (.inr (.inl i)))
     (bnd (W.R_condition.c6 bits i o5 some) fun y_1 =>
      br y_1
       (k_ (.inr (.inl i)))
       (k_ (.inl (IntKind.wrap IntKind.i64 (i + (1 : Int)))))))
   (k_ (.inr (.inr i)))
def R_condition.c100002s : Shape := R_condition.c4s
def R_condition.c100002x0 : Shape := R_condition.c4s
def R_condition.c100002x1 : Shape := R_condition.c4s
def R_condition.c100002r : Ck := Ck.ofLoop (S := Int) (T := (Int) ⊕ (Int)) R_condition.c100002s (fun x_ => x_.2.2.2.1) (fun ρ x_ s_ k_ => R_condition.c100002 x_.2.1 s_ x_.2.2.2.2.2.2.2.2.2.1 k_) (fun ρ x_ r_ k_ => sel r_ (fun r_ => k_ 1 (Shape.inj R_condition.c100002x0 (x_.1, x_.2.1, false, r_, x_.2.2.2.2))) (fun r_ => k_ 2 (Shape.inj R_condition.c100002x1 (x_.1, x_.2.1, x_.2.2.1, r_, x_.2.2.2.2))))
def R_condition (o : (Int) × ((Int) × ((List Int) × ((Int) × ((Int) × (List Int)))))) (bits : List (Int)) : Option (Bool) :=
  bnd (iter (fun s ↦ W.R_condition.c100002 bits s (Prod.snd (Prod.snd (Prod.snd (Prod.snd (Prod.snd o))))) some) (0 : Int)) fun y =>
  sel y
   (fun u => some false)
   (fun v => some true)
def R_condition.ce : Go.Ql.Callee := ⟨[(.st (.pair (.int .i64) (.pair (.int .i64) (.pair (.sl (.int .i64)) (.pair (.int .i64) (.pair (.int .i64) (.sl (.int .i64)))))))), (.sl (.int .i64))], [.bool], fun x_ => R_condition x_.1 x_.2⟩
def R_condition.G : Env := ⟨50, tab, [], [0, 1, 2, 4, 5, 10, 30, 49], [], [], [(100002, R_condition.c100002r), (6, R_condition.c6r), (4, R_condition.c4r)], [], tab_eqs⟩
theorem R_condition.eq (x_ : dens R_condition.ce.params) : den R_condition.G Try.f24 R_condition.ce.params R_condition.ce.res x_ = R_condition.ce.F x_ := by kernel_rfl
theorem R_condition.p0 : PcA R_condition.G Try.f24 0 :=
  loop_ok (s := R_condition.c100002r) (by kernel_rfl) (by kernel_rfl) (loops_of (sh := R_condition.c100002s) (I := fun x_ s_ => (x_.1, x_.2.1, x_.2.2.1, s_, x_.2.2.2.2)) (fun x_ => rfl) (fun ρ x_ s_ k_ => (nat_br (nat_bnd fun _ => (nat_br nat_leaf (nat_bnd fun _ => (nat_br nat_leaf nat_leaf)))) nat_leaf)) (fun ρ x_ t k => (nat_sel (fun _ => (by kernel_rfl)) (fun _ => (by kernel_rfl)))) (fun x_ s => by kernel_rfl))
theorem R_condition.p1 : PcA R_condition.G Try.f24 1 :=
  region_ok (s := R_condition.c4r) (by kernel_rfl) (by kernel_rfl) (sums_of (sh := R_condition.c4s) (fun ρ x_ k_ => (nat_bnd fun _ => (nat_br (nat_bnd fun _ => (nat_bnd fun _ => nat_leaf)) nat_leaf))) (fun ρ x_ t k => (by kernel_rfl)) (fun x_ => by kernel_rfl))
theorem R_condition.p2 : PcA R_condition.G Try.f24 2 :=
  region_ok (s := R_condition.c6r) (by kernel_rfl) (by kernel_rfl) (sums_of (sh := R_condition.c6s) (fun ρ x_ k_ => (nat_bnd fun _ => (nat_br (nat_bnd fun _ => (nat_bnd fun _ => nat_leaf)) nat_leaf))) (fun ρ x_ t k => (by kernel_rfl)) (fun x_ => by kernel_rfl))
theorem R_condition.ok : CalleeOk Try.prog 24 R_condition.ce := fn_ok (G := R_condition.G) tab_ok mixed Try.func24 ⟨fns_nil, mfns_nil, tab_eqs_ok⟩ (m := 3) (by kernel_rfl) ⟨⟨⟨trivial, R_condition.p0⟩, R_condition.p1⟩, R_condition.p2⟩ (by kernel_rfl) R_condition.eq
abbrev lb54 : SD := .one (.val (.st (.pair (.ar 8 (.st (.pair .bool (.sl (.int .i64))))) (.int .i64))))
abbrev lb55 : SD := .one (.fptr (.st (.pair (.ar 8 (.st (.pair .bool (.sl (.int .i64))))) (.int .i64))))
def R_RZero.c100002 {ρ : Type} (a_1 : (List ((Bool) × (List Int))) × (Int)) (i : Int) (k_ : (Int) ⊕ ((Int) ⊕ (Int)) → Option ρ) : Option ρ :=
  br (decide (i < (8 : Int)))
   (bnd (idx (Prod.fst a_1) i) fun y =>
    br (decide ((↑(List.length (Prod.snd y)) : Int) > (0 : Int)))
     (k_ (.inr (.inl i)))
     (k_ (.inl (IntKind.wrap IntKind.i64 (i + (1 : Int))))))
   (k_ (.inr (.inr i)))
def R_RZero.c100002s : Shape := ⟨[(0, lb54), (1, lb55), (2, lb11), (3, lb2)], []⟩
def R_RZero.c100002x0 : Shape := R_RZero.c100002s
def R_RZero.c100002x1 : Shape := R_RZero.c100002s
def R_RZero.c100002r : Ck := Ck.ofLoop (S := Int) (T := (Int) ⊕ (Int)) R_RZero.c100002s (fun x_ => x_.2.2.2.1) (fun ρ x_ s_ k_ => R_RZero.c100002 x_.2.1 s_ k_) (fun ρ x_ r_ k_ => sel r_ (fun r_ => k_ 1 (Shape.inj R_RZero.c100002x0 (x_.1, x_.2.1, false, r_, ()))) (fun r_ => k_ 2 (Shape.inj R_RZero.c100002x1 (x_.1, x_.2.1, x_.2.2.1, r_, ()))))
def R_RZero (a : (List ((Bool) × (List Int))) × (Int)) : Option (Bool) :=
  bnd (iter (fun s ↦ W.R_RZero.c100002 a s some) (0 : Int)) fun y =>
  sel y
   (fun u => some false)
   (fun v => some true)
def R_RZero.ce : Go.Ql.Callee := ⟨[(.st (.pair (.ar 8 (.st (.pair .bool (.sl (.int .i64))))) (.int .i64)))], [.bool], fun x_ => R_RZero x_⟩
def R_RZero.G : Env := ⟨15, tab, [], [0, 1, 2, 3, 5, 14], [8000001], [], [(100002, R_RZero.c100002r)], [], tab_eqs⟩
theorem R_RZero.eq (x_ : dens R_RZero.ce.params) : den R_RZero.G Try.f15 R_RZero.ce.params R_RZero.ce.res x_ = R_RZero.ce.F x_ := by kernel_rfl
theorem R_RZero.p0 : PcA R_RZero.G Try.f15 0 :=
  loop_ok (s := R_RZero.c100002r) (by kernel_rfl) (by kernel_rfl) (loops_of (sh := R_RZero.c100002s) (I := fun x_ s_ => (x_.1, x_.2.1, x_.2.2.1, s_, ())) (fun x_ => rfl) (fun ρ x_ s_ k_ => (nat_br (nat_bnd fun _ => (nat_br nat_leaf nat_leaf)) nat_leaf)) (fun ρ x_ t k => (nat_sel (fun _ => (by kernel_rfl)) (fun _ => (by kernel_rfl)))) (fun x_ s => by kernel_rfl))
theorem R_RZero.ok : CalleeOk Try.prog 15 R_RZero.ce := fn_ok (G := R_RZero.G) tab_ok mixed Try.func15 ⟨fns_nil, mfns_nil, tab_eqs_ok⟩ (m := 1) (by kernel_rfl) ⟨trivial, R_RZero.p0⟩ (by kernel_rfl) R_RZero.eq
def R_bitOf (x : Int) (q : Int) : Option (Int) :=
  bnd (okIf (decide ((0 : Int) ≤ q))) fun y =>
  some (ibits BinOp.and IntKind.i64 (Int.fdiv x ((2 : Int) ^ Min.min (Int.toNat q) (64 : Nat))) (1 : Int))
def R_bitOf.ce : Go.Ql.Callee := ⟨[(.int .i64), (.int .i64)], [(.int .i64)], fun x_ => R_bitOf x_.1 x_.2⟩
def R_bitOf.G : Env := ⟨9, tab, [], [0, 1, 4], [], [], [], [], tab_eqs⟩
theorem R_bitOf.eq (x_ : dens R_bitOf.ce.params) : den R_bitOf.G Try.f41 R_bitOf.ce.params R_bitOf.ce.res x_ = R_bitOf.ce.F x_ := by kernel_rfl
theorem R_bitOf.ok : CalleeOk Try.prog 41 R_bitOf.ce := fn_ok (G := R_bitOf.G) tab_ok mixed Try.func41 ⟨fns_nil, mfns_nil, tab_eqs_ok⟩ (m := 0) (by kernel_rfl) trivial (by kernel_rfl) R_bitOf.eq
def R_allOne.c100002 {ρ : Type} (x : Int) (qs : List (Int)) (i : Int) (k_ : (Int) ⊕ ((Int) ⊕ (Int)) → Option ρ) : Option ρ :=
  br (decide (i < (↑(List.length qs) : Int)))
   (bnd (idx qs i) fun y =>
    bnd (W.R_bitOf x y) fun y_1 =>
    br (y_1 == (0 : Int))
     (k_ (.inr (.inl i)))
     (k_ (.inl (IntKind.wrap IntKind.i64 (i + (1 : Int))))))
   (k_ (.inr (.inr i)))
def R_allOne.c100002s : Shape := ⟨[(0, lb2), (1, lb0), (4, lb11), (5, lb2)], []⟩
def R_allOne.c100002x0 : Shape := R_allOne.c100002s
def R_allOne.c100002x1 : Shape := R_allOne.c100002s
def R_allOne.c100002r : Ck := Ck.ofLoop (S := Int) (T := (Int) ⊕ (Int)) R_allOne.c100002s (fun x_ => x_.2.2.2.1) (fun ρ x_ s_ k_ => R_allOne.c100002 x_.1 x_.2.1 s_ k_) (fun ρ x_ r_ k_ => sel r_ (fun r_ => k_ 1 (Shape.inj R_allOne.c100002x0 (x_.1, x_.2.1, false, r_, ()))) (fun r_ => k_ 2 (Shape.inj R_allOne.c100002x1 (x_.1, x_.2.1, x_.2.2.1, r_, ()))))
def R_allOne (x : Int) (qs : List (Int)) : Option (Bool) :=
  bnd (iter (fun s ↦ W.R_allOne.c100002 x qs s some) (0 : Int)) fun y =>
  sel y
   (fun u => some false)
   (fun v => some true)
def R_allOne.ce : Go.Ql.Callee := ⟨[(.int .i64), (.sl (.int .i64))], [.bool], fun x_ => R_allOne x_.1 x_.2⟩
def R_allOne.G : Env := ⟨19, tab, [(41, R_bitOf.ce)], [0, 1, 4, 5, 9, 18], [], [], [(100002, R_allOne.c100002r)], [], tab_eqs⟩
theorem R_allOne.eq (x_ : dens R_allOne.ce.params) : den R_allOne.G Try.f39 R_allOne.ce.params R_allOne.ce.res x_ = R_allOne.ce.F x_ := by kernel_rfl
theorem R_allOne.p0 : PcA R_allOne.G Try.f39 0 :=
  loop_ok (s := R_allOne.c100002r) (by kernel_rfl) (by kernel_rfl) (loops_of (sh := R_allOne.c100002s) (I := fun x_ s_ => (x_.1, x_.2.1, x_.2.2.1, s_, ())) (fun x_ => rfl) (fun ρ x_ s_ k_ => (nat_br (nat_bnd fun _ => (nat_bnd fun _ => (nat_br nat_leaf nat_leaf))) nat_leaf)) (fun ρ x_ t k => (nat_sel (fun _ => (by kernel_rfl)) (fun _ => (by kernel_rfl)))) (fun x_ s => by kernel_rfl))
theorem R_allOne.ok : CalleeOk Try.prog 39 R_allOne.ce := fn_ok (G := R_allOne.G) tab_ok mixed Try.func39 ⟨(fns_cons R_bitOf.ok fns_nil), mfns_nil, tab_eqs_ok⟩ (m := 1) (by kernel_rfl) ⟨trivial, R_allOne.p0⟩ (by kernel_rfl) R_allOne.eq
abbrev lb56 : SD := .one (.val (.st (.pair .bool (.sl (.int .i64)))))
abbrev lb57 : SD := .one (.own 17 0)
def R_ZMul.c7 {ρ : Type} (c : Int) (j : Int) (b1 : List (Int)) (k_ : Bool → Option ρ) : Option ρ :=
  br (decide (j < (↑(List.length b1) : Int)))
   (k_ true)
   (k_ (decide (c > (0 : Int))))
def R_ZMul.c7s : Shape := ⟨[(0, lb56), (1, lb56), (2, lb6), (3, lb7), (4, lb30), (5, lb57), (6, lb2), (7, lb2), (8, lb2)], [(2, lb51), (3, lb51), (4, lb51), (17, lb3)]⟩
def R_ZMul.c7x0 : Shape := ⟨[(0, lb56), (1, lb56), (2, lb6), (3, lb7), (4, lb30), (5, lb57), (6, lb2), (7, lb2), (8, lb2), (33, lb11)], [(2, lb51), (3, lb51), (4, lb51), (17, lb3)]⟩
def R_ZMul.c7r : Ck := Ck.of (T := Bool) R_ZMul.c7s (fun ρ x_ k_ => R_ZMul.c7 x_.2.2.2.1 x_.2.2.2.2.1 x_.2.2.2.2.2.2.2.2.1 k_) (fun ρ x_ r_ k_ => k_ 0 (Shape.inj R_ZMul.c7x0 (x_.1, x_.2.1, x_.2.2.1, x_.2.2.2.1, x_.2.2.2.2.1, r_, x_.2.2.2.2.2)))
def R_ZMul.c11 {ρ : Type} (i : Int) (c : Int) (j : Int) (a1 : List (Int)) (b1 : List (Int)) (k_ : Int → Option ρ) : Option ρ :=
  bnd (idx a1 i) fun y =>
  bnd (idx b1 j) fun y_1 =>
  k_ (IntKind.wrap IntKind.i64 (c + IntKind.wrap IntKind.i64 (y * y_1)))
def R_ZMul.c11s : Shape := R_ZMul.c7s
def R_ZMul.c11x0 : Shape := R_ZMul.c7s
def R_ZMul.c11r : Ck := Ck.of (T := Int) R_ZMul.c11s (fun ρ x_ k_ => R_ZMul.c11 x_.2.2.1 x_.2.2.2.1 x_.2.2.2.2.1 x_.2.2.2.2.2.2.1 x_.2.2.2.2.2.2.2.2.1 k_) (fun ρ x_ r_ k_ => k_ 0 (Shape.inj R_ZMul.c11x0 (x_.1, x_.2.1, x_.2.2.1, r_, x_.2.2.2.2)))
def R_ZMul.c240965 {ρ : Type} (i : Int) (c : Int) (j : Int) (a1 : List (Int)) (b1 : List (Int)) (k_ : Int → Option ρ) : Option ρ :=
  br (decide (j < (↑(List.length b1) : Int)))
   (bnd (W.R_ZMul.c11 i c j a1 b1 some) fun y =>
    k_ y)
   (k_ c)
def R_ZMul.c240965s : Shape := R_ZMul.c7s
def R_ZMul.c240965x0 : Shape := R_ZMul.c7s
def R_ZMul.c240965r : Ck := Ck.of (T := Int) R_ZMul.c240965s (fun ρ x_ k_ => R_ZMul.c240965 x_.2.2.1 x_.2.2.2.1 x_.2.2.2.2.1 x_.2.2.2.2.2.2.1 x_.2.2.2.2.2.2.2.2.1 k_) (fun ρ x_ r_ k_ => k_ 0 (Shape.inj R_ZMul.c240965x0 (x_.1, x_.2.1, x_.2.2.1, r_, x_.2.2.2.2)))
def R_ZMul.c100007 {ρ : Type} (i : Int) (c : Int) (j : Int) (a1 : List (Int)) (b1 : List (Int)) (t17 : List (Int)) (k_ : ((Int) × (Int) × (List Int)) ⊕ ((Int) × (Int) × (List Int)) → Option ρ) : Option ρ :=
  bnd (W.R_ZMul.c7 c j b1 some) fun y =>
  br y
   (bnd (inR (List.length t17) (IntKind.wrap IntKind.i64 (i + j))) fun y_1 =>
    bnd (idx t17 (IntKind.wrap IntKind.i64 (i + j))) fun y_2 =>
    bnd (W.R_ZMul.c240965 i (IntKind.wrap IntKind.i64 (c + y_2)) j a1 b1 some) fun y_3 =>
    bnd (inR (List.length t17) (IntKind.wrap IntKind.i64 (i + j))) fun y_4 =>
    bnd (idx t17 (IntKind.wrap IntKind.i64 (i + j))) fun y_5 =>
    k_ (.inl ((IntKind.wrap IntKind.i64 (Int.tdiv y_3 (10000 : Int))), (IntKind.wrap IntKind.i64 (j + (1 : Int))), (List.set t17 (Int.toNat (IntKind.wrap IntKind.i64 (i + j))) (Int.tmod y_3 (10000 : Int))))))
   (k_ (.inr (c, j, t17)))
def R_ZMul.c100007s : Shape := R_ZMul.c7s
def R_ZMul.c100007x0 : Shape := R_ZMul.c7s
def R_ZMul.c100007r : Ck := Ck.ofLoop (S := (Int) × (Int) × (List Int)) (T := (Int) × (Int) × (List Int)) R_ZMul.c100007s (fun x_ => (x_.2.2.2.1, x_.2.2.2.2.1, x_.2.2.2.2.2.2.2.2.2.2.2.1)) (fun ρ x_ s_ k_ => R_ZMul.c100007 x_.2.2.1 s_.1 s_.2.1 x_.2.2.2.2.2.2.1 x_.2.2.2.2.2.2.2.2.1 s_.2.2 k_) (fun ρ x_ r_ k_ => k_ 4 (Shape.inj R_ZMul.c100007x0 (x_.1, x_.2.1, x_.2.2.1, r_.1, r_.2.1, x_.2.2.2.2.2.1, x_.2.2.2.2.2.2.1, x_.2.2.2.2.2.2.2.1, x_.2.2.2.2.2.2.2.2.1, x_.2.2.2.2.2.2.2.2.2.1, x_.2.2.2.2.2.2.2.2.2.2.1, r_.2.2, ())))
def R_ZMul.c100003 {ρ : Type} (i : Int) (a1 : List (Int)) (b1 : List (Int)) (t17 : List (Int)) (k_ : ((Int) × (List Int)) ⊕ ((Int) × (List Int)) → Option ρ) : Option ρ :=
  br (decide (i < (↑(List.length a1) : Int)))
   (bnd (iter (fun s ↦ W.R_ZMul.c100007 i (Prod.fst s) (Prod.fst (Prod.snd s)) a1 b1 (Prod.snd (Prod.snd s)) some) ((0 : Int), (0 : Int), t17)) fun y =>
    k_ (.inl ((IntKind.wrap IntKind.i64 (i + (1 : Int))), (Prod.snd (Prod.snd y)))))
   (k_ (.inr (i, t17)))
def R_ZMul.c100003s : Shape := ⟨[(0, lb56), (1, lb56), (2, lb6), (3, lb7), (4, lb30), (5, lb57), (6, lb2)], [(2, lb51), (3, lb51), (4, lb51), (17, lb3)]⟩
def R_ZMul.c100003x0 : Shape := R_ZMul.c100003s
def R_ZMul.c100003r : Ck := Ck.ofLoop (S := (Int) × (List Int)) (T := (Int) × (List Int)) R_ZMul.c100003s (fun x_ => (x_.2.2.1, x_.2.2.2.2.2.2.2.2.2.1)) (fun ρ x_ s_ k_ => R_ZMul.c100003 s_.1 x_.2.2.2.2.1 x_.2.2.2.2.2.2.1 s_.2 k_) (fun ρ x_ r_ k_ => k_ 2 (Shape.inj R_ZMul.c100003x0 (x_.1, x_.2.1, r_.1, x_.2.2.2.1, x_.2.2.2.2.1, x_.2.2.2.2.2.1, x_.2.2.2.2.2.2.1, x_.2.2.2.2.2.2.2.1, x_.2.2.2.2.2.2.2.2.1, r_.2, ())))
def R_ZMul (a : (Bool) × (List Int)) (b : (Bool) × (List Int)) : Option ((Bool) × (List Int)) :=
  bnd (okIf (decide ((0 : Int) ≤ IntKind.wrap IntKind.i64 (IntKind.wrap IntKind.i64 ((↑(List.length (Prod.snd a)) : Int) + (↑(List.length (Prod.snd b)) : Int)) + (1 : Int))) && decide (IntKind.wrap IntKind.i64 (IntKind.wrap IntKind.i64 ((↑(List.length (Prod.snd a)) : Int) + (↑(List.length (Prod.snd b)) : Int)) + (1 : Int)) ≤ IntKind.wrap IntKind.i64 (IntKind.wrap IntKind.i64 ((↑(List.length (Prod.snd a)) : Int) + (↑(List.length (Prod.snd b)) : Int)) + (1 : Int))) && decide (IntKind.wrap IntKind.i64 (IntKind.wrap IntKind.i64 ((↑(List.length (Prod.snd a)) : Int) + (↑(List.length (Prod.snd b)) : Int)) + (1 : Int)) * (↑(8 : Nat) : Int) ≤ (140737488355328 : Int)) && decide (IntKind.wrap IntKind.i64 (IntKind.wrap IntKind.i64 ((↑(List.length (Prod.snd a)) : Int) + (↑(List.length (Prod.snd b)) : Int)) + (1 : Int)) ≤ (140737488355328 : Int)))) fun y =>
  bnd (iter (fun s ↦ W.R_ZMul.c100003 (Prod.fst s) (Prod.snd a) (Prod.snd b) (Prod.snd s) some) ((0 : Int), List.replicate (Int.toNat (IntKind.wrap IntKind.i64 (IntKind.wrap IntKind.i64 ((↑(List.length (Prod.snd a)) : Int) + (↑(List.length (Prod.snd b)) : Int)) + (1 : Int)))) (0 : Int))) fun y_1 =>
  bnd (W.R_zmade (!Prod.fst a == Prod.fst b) (Prod.snd y_1)) fun y_2 =>
  some (Prod.fst y_2, Prod.snd y_2)
def R_ZMul.ce : Go.Ql.Callee := ⟨[(.st (.pair .bool (.sl (.int .i64)))), (.st (.pair .bool (.sl (.int .i64))))], [(.st (.pair .bool (.sl (.int .i64))))], fun x_ => R_ZMul x_.1 x_.2⟩
def R_ZMul.G : Env := ⟨78, tab, [(50, R_zmade.ce)], [0, 1, 2, 3, 4, 5, 6, 7, 8, 22, 33, 48], [17], [(11, [⟨[], [], [50, 51, 52, 53, 54, 55, 56, 57, 58, 59, 60], []⟩, ⟨[], [], [49, 52, 55, 56, 57, 58, 59], []⟩, ⟨[1], [], [49, 52, 55, 56, 57, 58, 59], []⟩, ⟨[], [], [49, 50, 51, 55, 56, 57, 58, 59], []⟩, ⟨[2, 1, 3], [], [49, 55, 56, 57, 58, 59], []⟩, ⟨[4, 2, 1, 3], [], [49, 55, 56, 57, 58, 59], []⟩, ⟨[], [], [49, 50, 51, 52, 53, 54, 57], []⟩, ⟨[6], [], [49, 50, 51, 52, 53, 54, 57], []⟩, ⟨[], [], [49, 50, 51, 52, 53, 54, 55, 56], []⟩, ⟨[7, 6, 8], [], [49, 50, 51, 52, 53, 54], []⟩, ⟨[9, 7, 6, 8], [], [49, 50, 51, 52, 53, 54], []⟩, ⟨[5, 4, 2, 1, 3, 10, 9, 7, 6, 8], [], [49], []⟩, ⟨[0, 11, 5, 4, 2, 1, 3, 10, 9, 7, 6, 8], [], [], []⟩, ⟨[12, 0, 11, 5, 4, 2, 1, 3, 10, 9, 7, 6, 8], [], [], []⟩])], [(100003, R_ZMul.c100003r), (100007, R_ZMul.c100007r), (240965, R_ZMul.c240965r), (11, R_ZMul.c11r), (7, R_ZMul.c7r)], [], tab_eqs⟩
theorem R_ZMul.eq (x_ : dens R_ZMul.ce.params) : den R_ZMul.G Try.f57 R_ZMul.ce.params R_ZMul.ce.res x_ = R_ZMul.ce.F x_ := by kernel_rfl
theorem R_ZMul.p0 : PcA R_ZMul.G Try.f57 0 :=
  loop_ok (s := R_ZMul.c100003r) (by kernel_rfl) (by kernel_rfl) (loops_of (sh := R_ZMul.c100003s) (I := fun x_ s_ => (x_.1, x_.2.1, s_.1, x_.2.2.2.1, x_.2.2.2.2.1, x_.2.2.2.2.2.1, x_.2.2.2.2.2.2.1, x_.2.2.2.2.2.2.2.1, x_.2.2.2.2.2.2.2.2.1, s_.2, ())) (fun x_ => rfl) (fun ρ x_ s_ k_ => (nat_br (nat_bnd fun _ => nat_leaf) nat_leaf)) (fun ρ x_ t k => (by kernel_rfl)) (fun x_ s => by kernel_rfl))
theorem R_ZMul.p1 : PcA R_ZMul.G Try.f57 1 :=
  loop_ok (s := R_ZMul.c100007r) (by kernel_rfl) (by kernel_rfl) (loops_of (sh := R_ZMul.c100007s) (I := fun x_ s_ => (x_.1, x_.2.1, x_.2.2.1, s_.1, s_.2.1, x_.2.2.2.2.2.1, x_.2.2.2.2.2.2.1, x_.2.2.2.2.2.2.2.1, x_.2.2.2.2.2.2.2.2.1, x_.2.2.2.2.2.2.2.2.2.1, x_.2.2.2.2.2.2.2.2.2.2.1, s_.2.2, ())) (fun x_ => rfl) (fun ρ x_ s_ k_ => (nat_bnd fun _ => (nat_br (nat_bnd fun _ => (nat_bnd fun _ => (nat_bnd fun _ => (nat_bnd fun _ => (nat_bnd fun _ => nat_leaf))))) nat_leaf))) (fun ρ x_ t k => (by kernel_rfl)) (fun x_ s => by kernel_rfl))
theorem R_ZMul.p2 : PcA R_ZMul.G Try.f57 2 :=
  region_ok (s := R_ZMul.c7r) (by kernel_rfl) (by kernel_rfl) (sums_of (sh := R_ZMul.c7s) (fun ρ x_ k_ => (nat_br nat_leaf nat_leaf)) (fun ρ x_ t k => (by kernel_rfl)) (fun x_ => by kernel_rfl))
theorem R_ZMul.p3 : PcA R_ZMul.G Try.f57 3 :=
  join_ok (s := R_ZMul.c240965r) (by kernel_rfl) (by kernel_rfl) (sums_of (sh := R_ZMul.c240965s) (fun ρ x_ k_ => (nat_br (nat_bnd fun _ => nat_leaf) nat_leaf)) (fun ρ x_ t k => (by kernel_rfl)) (fun x_ => by kernel_rfl))
theorem R_ZMul.p4 : PcA R_ZMul.G Try.f57 4 :=
  region_ok (s := R_ZMul.c11r) (by kernel_rfl) (by kernel_rfl) (sums_of (sh := R_ZMul.c11s) (fun ρ x_ k_ => (nat_bnd fun _ => (nat_bnd fun _ => nat_leaf))) (fun ρ x_ t k => (by kernel_rfl)) (fun x_ => by kernel_rfl))
theorem R_ZMul.ok : CalleeOk Try.prog 57 R_ZMul.ce := fn_ok (G := R_ZMul.G) tab_ok mixed Try.func57 ⟨(fns_cons R_zmade.ok fns_nil), mfns_nil, tab_eqs_ok⟩ (m := 5) (by kernel_rfl) ⟨⟨⟨⟨⟨trivial, R_ZMul.p0⟩, R_ZMul.p1⟩, R_ZMul.p2⟩, R_ZMul.p3⟩, R_ZMul.p4⟩ (by kernel_rfl) R_ZMul.eq
def R_ZPow2.c216389 {ρ : Type} (n : Int) (out0 : Bool) (out1 : List (Int)) (t40 : Bool) (t41 : List (Int)) (k_ : (Bool) × (List Int) → Option ρ) : Option ρ :=
  br (Int.tmod n (2 : Int) == (1 : Int))
   (bnd (W.R_ZMul (out0, out1) (t40, t41)) fun y =>
    k_ ((Prod.fst y), (Prod.snd y)))
   (k_ (out0, out1))
def R_ZPow2.c216389s : Shape := ⟨[(0, lb2), (2, lb6), (3, lb7), (4, lb30)], [(2, lb51), (3, lb51), (4, lb51)]⟩
def R_ZPow2.c216389x0 : Shape := R_ZPow2.c216389s
def R_ZPow2.c216389r : Ck := Ck.of (T := (Bool) × (List Int)) R_ZPow2.c216389s (fun ρ x_ k_ => R_ZPow2.c216389 x_.1 x_.2.2.2.1 x_.2.2.2.2.1 x_.2.2.2.2.2.1 x_.2.2.2.2.2.2.1 k_) (fun ρ x_ r_ k_ => k_ 0 (Shape.inj R_ZPow2.c216389x0 (x_.1, x_.2.1, x_.2.2.1, r_.1, r_.2, x_.2.2.2.2.2)))
def R_ZPow2.c100003 {ρ : Type} (n : Int) (out0 : Bool) (out1 : List (Int)) (t40 : Bool) (t41 : List (Int)) (k_ : ((Int) × (Bool) × (List Int) × (Bool) × (List Int)) ⊕ ((Int) × (Bool) × (List Int) × (Bool) × (List Int)) → Option ρ) : Option ρ :=
  br (decide (n > (0 : Int)))
   (bnd (W.R_ZPow2.c216389 n out0 out1 t40 t41 some) fun y =>
    bnd (W.R_ZMul (t40, t41) (t40, t41)) fun y_1 =>
    k_ (.inl ((IntKind.wrap IntKind.i64 (Int.tdiv n (2 : Int))), (Prod.fst y), (Prod.snd y), (Prod.fst y_1), (Prod.snd y_1))))
   (k_ (.inr (n, out0, out1, t40, t41)))
def R_ZPow2.c100003s : Shape := R_ZPow2.c216389s
def R_ZPow2.c100003x0 : Shape := R_ZPow2.c216389s
def R_ZPow2.c100003r : Ck := Ck.ofLoop (S := (Int) × (Bool) × (List Int) × (Bool) × (List Int)) (T := (Int) × (Bool) × (List Int) × (Bool) × (List Int)) R_ZPow2.c100003s (fun x_ => (x_.1, x_.2.2.2.1, x_.2.2.2.2.1, x_.2.2.2.2.2.1, x_.2.2.2.2.2.2.1)) (fun ρ x_ s_ k_ => R_ZPow2.c100003 s_.1 s_.2.1 s_.2.2.1 s_.2.2.2.1 s_.2.2.2.2 k_) (fun ρ x_ r_ k_ => k_ 2 (Shape.inj R_ZPow2.c100003x0 (r_.1, x_.2.1, x_.2.2.1, r_.2.1, r_.2.2.1, r_.2.2.2.1, r_.2.2.2.2, ())))
def R_ZPow2 (n : Int) : Option ((Bool) × (List Int)) :=
  bnd (W.R_ZOf (1 : Int)) fun y =>
  bnd (W.R_ZOf (2 : Int)) fun y_1 =>
  bnd (iter (fun s ↦ W.R_ZPow2.c100003 (Prod.fst s) (Prod.fst (Prod.snd s)) (Prod.fst (Prod.snd (Prod.snd s))) (Prod.fst (Prod.snd (Prod.snd (Prod.snd s)))) (Prod.snd (Prod.snd (Prod.snd (Prod.snd s)))) some) (n, Prod.fst y, Prod.snd y, Prod.fst y_1, Prod.snd y_1)) fun y_2 =>
  some (Prod.fst (Prod.snd y_2), Prod.fst (Prod.snd (Prod.snd y_2)))
def R_ZPow2.ce : Go.Ql.Callee := ⟨[(.int .i64)], [(.st (.pair .bool (.sl (.int .i64))))], fun x_ => R_ZPow2 x_⟩
def R_ZPow2.G : Env := ⟨21, tab, [(38, R_ZOf.ce), (57, R_ZMul.ce)], [0, 2, 3, 4, 8, 11], [], [], [(100003, R_ZPow2.c100003r), (216389, R_ZPow2.c216389r)], [], tab_eqs⟩
theorem R_ZPow2.eq (x_ : dens R_ZPow2.ce.params) : den R_ZPow2.G Try.f56 R_ZPow2.ce.params R_ZPow2.ce.res x_ = R_ZPow2.ce.F x_ := by kernel_rfl
theorem R_ZPow2.p0 : PcA R_ZPow2.G Try.f56 0 :=
  loop_ok (s := R_ZPow2.c100003r) (by kernel_rfl) (by kernel_rfl) (loops_of (sh := R_ZPow2.c100003s) (I := fun x_ s_ => (s_.1, x_.2.1, x_.2.2.1, s_.2.1, s_.2.2.1, s_.2.2.2.1, s_.2.2.2.2, ())) (fun x_ => rfl) (fun ρ x_ s_ k_ => (nat_br (nat_bnd fun _ => (nat_bnd fun _ => nat_leaf)) nat_leaf)) (fun ρ x_ t k => (by kernel_rfl)) (fun x_ s => by kernel_rfl))
theorem R_ZPow2.p1 : PcA R_ZPow2.G Try.f56 1 :=
  join_ok (s := R_ZPow2.c216389r) (by kernel_rfl) (by kernel_rfl) (sums_of (sh := R_ZPow2.c216389s) (fun ρ x_ k_ => (nat_br (nat_bnd fun _ => nat_leaf) nat_leaf)) (fun ρ x_ t k => (by kernel_rfl)) (fun x_ => by kernel_rfl))
theorem R_ZPow2.ok : CalleeOk Try.prog 56 R_ZPow2.ce := fn_ok (G := R_ZPow2.G) tab_ok mixed Try.func56 ⟨(fns_cons R_ZOf.ok (fns_cons R_ZMul.ok fns_nil)), mfns_nil, tab_eqs_ok⟩ (m := 2) (by kernel_rfl) ⟨⟨trivial, R_ZPow2.p0⟩, R_ZPow2.p1⟩ (by kernel_rfl) R_ZPow2.eq
abbrev lb58 : SD := .one (.aptr 2 0)
abbrev lb59 : SD := .one (.aptr 4 0)
abbrev lb60 : SO := .arr 0 false 49 (.st (.pair (.ar 8 (.st (.pair .bool (.sl (.int .i64))))) (.int .i64)))
def R_rto.c6 {ρ : Type} (i : Int) (a_1 : List ((List ((Bool) × (List Int))) × (Int))) (t50 : Bool) (t51 : List (Int)) (k_ : List ((List ((Bool) × (List Int))) × (Int)) → Option ρ) : Option ρ :=
  bnd (inR (List.length a_1) (0 : Int)) fun y =>
  bnd (okIf (decide ((0 : Ty.den (Ty.int IntKind.i64)) ≤ i) && decide (i < (↑(8 : Nat) : Int)))) fun y_1 =>
  bnd (idx a_1 (0 : Int)) fun y_2 =>
  bnd (idx (Prod.fst y_2) i) fun y_3 =>
  bnd (W.R_ZMul y_3 (t50, t51)) fun y_4 =>
  bnd (inR (List.length a_1) (0 : Int)) fun y_5 =>
  bnd (okIf (decide ((0 : Ty.den (Ty.int IntKind.i64)) ≤ i) && decide (i < (↑(8 : Nat) : Int)))) fun y_6 =>
  bnd (idx a_1 (0 : Int)) fun y_7 =>
  bnd (idx (Prod.fst y_7) i) fun y_8 =>
  k_ (List.set a_1 (0 : Nat) (List.set (Prod.fst y_7) (Int.toNat i) y_4, Prod.snd y_7))
def R_rto.c6s : Shape := ⟨[(0, lb54), (1, lb2), (2, lb58), (4, lb59), (5, lb39), (6, lb2)], [(2, lb60), (4, lb60), (5, lb51)]⟩
def R_rto.c6x0 : Shape := R_rto.c6s
def R_rto.c6r : Ck := Ck.of (T := List ((List ((Bool) × (List Int))) × (Int))) R_rto.c6s (fun ρ x_ k_ => R_rto.c6 x_.2.2.1 x_.2.2.2.1 x_.2.2.2.2.2.1 x_.2.2.2.2.2.2.1 k_) (fun ρ x_ r_ k_ => k_ 0 (Shape.inj R_rto.c6x0 (x_.1, x_.2.1, x_.2.2.1, r_, x_.2.2.2.2)))
def R_rto.c100004 {ρ : Type} (i : Int) (a_1 : List ((List ((Bool) × (List Int))) × (Int))) (t50 : Bool) (t51 : List (Int)) (k_ : ((Int) × (List ((List ((Bool) × (List Int))) × (Int)))) ⊕ ((Int) × (List ((List ((Bool) × (List Int))) × (Int)))) → Option ρ) : Option ρ :=
  br (decide (i < (8 : Int)))
   (bnd (W.R_rto.c6 i a_1 t50 t51 some) fun y =>
    k_ (.inl ((IntKind.wrap IntKind.i64 (i + (1 : Int))), y)))
   (k_ (.inr (i, a_1)))
def R_rto.c100004s : Shape := R_rto.c6s
def R_rto.c100004x0 : Shape := R_rto.c6s
def R_rto.c100004r : Ck := Ck.ofLoop (S := (Int) × (List ((List ((Bool) × (List Int))) × (Int)))) (T := (Int) × (List ((List ((Bool) × (List Int))) × (Int)))) R_rto.c100004s (fun x_ => (x_.2.2.1, x_.2.2.2.1)) (fun ρ x_ s_ k_ => R_rto.c100004 s_.1 s_.2 x_.2.2.2.2.2.1 x_.2.2.2.2.2.2.1 k_) (fun ρ x_ r_ k_ => k_ 2 (Shape.inj R_rto.c100004x0 (x_.1, x_.2.1, r_.1, r_.2, x_.2.2.2.2)))
def R_rto.c204118 {ρ : Type} (e : Int) (a_1 : List ((List ((Bool) × (List Int))) × (Int))) (k_ : List ((List ((Bool) × (List Int))) × (Int)) → Option ρ) : Option ρ :=
  bnd (inR (List.length a_1) (0 : Int)) fun y =>
  bnd (idx a_1 (0 : Int)) fun y_1 =>
  br (decide (Prod.snd y_1 < e))
   (bnd (inR (List.length a_1) (0 : Int)) fun y_2 =>
    bnd (idx a_1 (0 : Int)) fun y_3 =>
    bnd (W.R_ZPow2 (IntKind.wrap IntKind.i64 (e - Prod.snd y_3))) fun y_4 =>
    bnd (iter (fun s ↦ W.R_rto.c100004 (Prod.fst s) (Prod.snd s) (Prod.fst y_4) (Prod.snd y_4) some) ((0 : Int), a_1)) fun y_5 =>
    bnd (inR (List.length (Prod.snd y_5)) (0 : Int)) fun y_6 =>
    bnd (idx (Prod.snd y_5) (0 : Int)) fun y_7 =>
    k_ (List.set (Prod.snd y_5) (0 : Nat) (Prod.fst y_7, e)))
   (k_ a_1)
def R_rto.c204118s : Shape := ⟨[(0, lb54), (1, lb2), (2, lb58), (4, lb59)], [(2, lb60), (4, lb60)]⟩
def R_rto.c204118x0 : Shape := R_rto.c204118s
def R_rto.c204118r : Ck := Ck.of (T := List ((List ((Bool) × (List Int))) × (Int))) R_rto.c204118s (fun ρ x_ k_ => R_rto.c204118 x_.2.1 x_.2.2.1 k_) (fun ρ x_ r_ k_ => k_ 0 (Shape.inj R_rto.c204118x0 (x_.1, x_.2.1, r_, x_.2.2.2)))
def R_rto (a : (List ((Bool) × (List Int))) × (Int)) (e : Int) : Option ((List ((Bool) × (List Int))) × (Int)) :=
  bnd (W.R_rto.c204118 e [a] some) fun y =>
  bnd (idx y (0 : Int)) fun y_1 =>
  some y_1
def R_rto.ce : Go.Ql.Callee := ⟨[(.st (.pair (.ar 8 (.st (.pair .bool (.sl (.int .i64))))) (.int .i64))), (.int .i64)], [(.st (.pair (.ar 8 (.st (.pair .bool (.sl (.int .i64))))) (.int .i64)))], fun x_ => R_rto x_.1 x_.2⟩
def R_rto.G : Env := ⟨32, tab, [(56, R_ZPow2.ce), (57, R_ZMul.ce)], [0, 1, 2, 4, 5, 6, 10, 17], [2, 4], [(6, [⟨[], [], [21, 22, 23, 24, 25, 26, 27], []⟩, ⟨[], [], [20, 22, 25, 27], []⟩, ⟨[], [], [20, 21, 25, 27], []⟩, ⟨[2, 1], [], [20, 25, 27], []⟩, ⟨[3, 2, 1], [], [20, 25, 27], []⟩, ⟨[], [], [20, 21, 22, 23, 24, 27], []⟩, ⟨[4, 3, 2, 1, 5], [], [20, 27], []⟩, ⟨[], [], [20, 21, 22, 23, 24, 25, 26], []⟩, ⟨[7, 0, 1, 2, 3, 4, 5, 6], [], [], []⟩, ⟨[8, 7, 0, 1, 2, 3, 4, 5, 6], [2], [], []⟩])], [(204118, R_rto.c204118r), (100004, R_rto.c100004r), (6, R_rto.c6r)], [], tab_eqs⟩
theorem R_rto.eq (x_ : dens R_rto.ce.params) : den R_rto.G Try.f51 R_rto.ce.params R_rto.ce.res x_ = R_rto.ce.F x_ := by kernel_rfl
theorem R_rto.p0 : PcA R_rto.G Try.f51 0 :=
  join_ok (s := R_rto.c204118r) (by kernel_rfl) (by kernel_rfl) (sums_of (sh := R_rto.c204118s) (fun ρ x_ k_ => (nat_bnd fun _ => (nat_bnd fun _ => (nat_br (nat_bnd fun _ => (nat_bnd fun _ => (nat_bnd fun _ => (nat_bnd fun _ => (nat_bnd fun _ => (nat_bnd fun _ => nat_leaf)))))) nat_leaf)))) (fun ρ x_ t k => (by kernel_rfl)) (fun x_ => by kernel_rfl))
theorem R_rto.p1 : PcA R_rto.G Try.f51 1 :=
  loop_ok (s := R_rto.c100004r) (by kernel_rfl) (by kernel_rfl) (loops_of (sh := R_rto.c100004s) (I := fun x_ s_ => (x_.1, x_.2.1, s_.1, s_.2, x_.2.2.2.2)) (fun x_ => rfl) (fun ρ x_ s_ k_ => (nat_br (nat_bnd fun _ => nat_leaf) nat_leaf)) (fun ρ x_ t k => (by kernel_rfl)) (fun x_ s => by kernel_rfl))
theorem R_rto.p2 : PcA R_rto.G Try.f51 2 :=
  region_ok (s := R_rto.c6r) (by kernel_rfl) (by kernel_rfl) (sums_of (sh := R_rto.c6s) (fun ρ x_ k_ => (nat_bnd fun _ => (nat_bnd fun _ => (nat_bnd fun _ => (nat_bnd fun _ => (nat_bnd fun _ => (nat_bnd fun _ => (nat_bnd fun _ => (nat_bnd fun _ => (nat_bnd fun _ => nat_leaf)))))))))) (fun ρ x_ t k => (by kernel_rfl)) (fun x_ => by kernel_rfl))
theorem R_rto.ok : CalleeOk Try.prog 51 R_rto.ce := fn_ok (G := R_rto.G) tab_ok mixed Try.func51 ⟨(fns_cons R_ZPow2.ok (fns_cons R_ZMul.ok fns_nil)), mfns_nil, tab_eqs_ok⟩ (m := 3) (by kernel_rfl) ⟨⟨⟨trivial, R_rto.p0⟩, R_rto.p1⟩, R_rto.p2⟩ (by kernel_rfl) R_rto.eq
abbrev lb61 : SD := .one (.own 5 0)
def R_dadd.c4 {ρ : Type} (a : List (Int)) (b : List (Int)) (c : Int) (i : Int) (k_ : Bool → Option ρ) : Option ρ :=
  br (decide (i < (↑(List.length a) : Int)))
   (k_ true)
   (br (decide (i < (↑(List.length b) : Int)))
     (k_ true)
     (k_ (decide (c > (0 : Int)))))
def R_dadd.c4s : Shape := ⟨[(0, lb0), (1, lb0), (4, lb0), (5, lb61), (6, lb2), (7, lb2)], [(5, lb3)]⟩
def R_dadd.c4x0 : Shape := ⟨[(0, lb0), (1, lb0), (4, lb0), (5, lb61), (6, lb2), (7, lb2), (21, lb11)], [(5, lb3)]⟩
def R_dadd.c4r : Ck := Ck.of (T := Bool) R_dadd.c4s (fun ρ x_ k_ => R_dadd.c4 x_.1 x_.2.1 x_.2.2.2.1 x_.2.2.2.2.1 k_) (fun ρ x_ r_ k_ => k_ 0 (Shape.inj R_dadd.c4x0 (x_.1, x_.2.1, x_.2.2.1, x_.2.2.2.1, x_.2.2.2.2.1, r_, x_.2.2.2.2.2)))
def R_dadd.c224581 {ρ : Type} (a : List (Int)) (c : Int) (i : Int) (k_ : Int → Option ρ) : Option ρ :=
  br (decide (i < (↑(List.length a) : Int)))
   (bnd (idx a i) fun y =>
    k_ (IntKind.wrap IntKind.i64 (c + y)))
   (k_ c)
def R_dadd.c224581s : Shape := R_dadd.c4s
def R_dadd.c224581x0 : Shape := R_dadd.c4s
def R_dadd.c224581r : Ck := Ck.of (T := Int) R_dadd.c224581s (fun ρ x_ k_ => R_dadd.c224581 x_.1 x_.2.2.2.1 x_.2.2.2.2.1 k_) (fun ρ x_ r_ k_ => k_ 0 (Shape.inj R_dadd.c224581x0 (x_.1, x_.2.1, x_.2.2.1, r_, x_.2.2.2.2)))
def R_dadd.c232773 {ρ : Type} (b : List (Int)) (c : Int) (i : Int) (k_ : Int → Option ρ) : Option ρ :=
  br (decide (i < (↑(List.length b) : Int)))
   (bnd (idx b i) fun y =>
    k_ (IntKind.wrap IntKind.i64 (c + y)))
   (k_ c)
def R_dadd.c232773s : Shape := R_dadd.c4s
def R_dadd.c232773x0 : Shape := R_dadd.c4s
def R_dadd.c232773r : Ck := Ck.of (T := Int) R_dadd.c232773s (fun ρ x_ k_ => R_dadd.c232773 x_.2.1 x_.2.2.2.1 x_.2.2.2.2.1 k_) (fun ρ x_ r_ k_ => k_ 0 (Shape.inj R_dadd.c232773x0 (x_.1, x_.2.1, x_.2.2.1, r_, x_.2.2.2.2)))
def R_dadd.c100004 {ρ : Type} (a : List (Int)) (b : List (Int)) (c : Int) (i : Int) (out : List (Int)) (k_ : ((Int) × (Int) × (List Int)) ⊕ ((Int) × (Int) × (List Int)) → Option ρ) : Option ρ :=
  bnd (W.R_dadd.c4 a b c i some) fun y =>
  br y
   (bnd (W.R_dadd.c224581 a c i some) fun y_1 =>
    bnd (W.R_dadd.c232773 b y_1 i some) fun y_2 =>
    bnd (okIf (decide ((List.length out + (1 : Nat)) * (8 : Nat) ≤ (140737488355328 : Nat)) && decide (List.length out + (1 : Nat) ≤ (140737488355328 : Nat)))) fun y_3 =>
    k_ (.inl ((IntKind.wrap IntKind.i64 (Int.tdiv y_2 (10000 : Int))), (IntKind.wrap IntKind.i64 (i + (1 : Int))), (out ++ [Int.tmod y_2 (10000 : Int)]))))
   (k_ (.inr (c, i, out)))
def R_dadd.c100004s : Shape := R_dadd.c4s
def R_dadd.c100004x0 : Shape := R_dadd.c4s
def R_dadd.c100004r : Ck := Ck.ofLoop (S := (Int) × (Int) × (List Int)) (T := (Int) × (Int) × (List Int)) R_dadd.c100004s (fun x_ => (x_.2.2.2.1, x_.2.2.2.2.1, x_.2.2.2.2.2.1)) (fun ρ x_ s_ k_ => R_dadd.c100004 x_.1 x_.2.1 s_.1 s_.2.1 s_.2.2 k_) (fun ρ x_ r_ k_ => k_ 2 (Shape.inj R_dadd.c100004x0 (x_.1, x_.2.1, x_.2.2.1, r_.1, r_.2.1, r_.2.2, ())))
def R_dadd (a : List (Int)) (b : List (Int)) : Option (List Int) :=
  bnd (iter (fun s ↦ W.R_dadd.c100004 a b (Prod.fst s) (Prod.fst (Prod.snd s)) (Prod.snd (Prod.snd s)) some) ((0 : Int), (0 : Int), [])) fun y =>
  some (Prod.snd (Prod.snd y))
def R_dadd.ce : Go.Ql.Callee := ⟨[(.sl (.int .i64)), (.sl (.int .i64))], [(.sl (.int .i64))], fun x_ => R_dadd x_.1 x_.2⟩
def R_dadd.G : Env := ⟨52, tab, [], [0, 1, 4, 5, 6, 7, 21, 27, 37], [5], [], [(100004, R_dadd.c100004r), (232773, R_dadd.c232773r), (224581, R_dadd.c224581r), (4, R_dadd.c4r)], [], tab_eqs⟩
theorem R_dadd.eq (x_ : dens R_dadd.ce.params) : den R_dadd.G Try.f58 R_dadd.ce.params R_dadd.ce.res x_ = R_dadd.ce.F x_ := by kernel_rfl
theorem R_dadd.p0 : PcA R_dadd.G Try.f58 0 :=
  loop_ok (s := R_dadd.c100004r) (by kernel_rfl) (by kernel_rfl) (loops_of (sh := R_dadd.c100004s) (I := fun x_ s_ => (x_.1, x_.2.1, x_.2.2.1, s_.1, s_.2.1, s_.2.2, ())) (fun x_ => rfl) (fun ρ x_ s_ k_ => (nat_bnd fun _ => (nat_br (nat_bnd fun _ => (nat_bnd fun _ => (nat_bnd fun _ => nat_leaf))) nat_leaf))) (fun ρ x_ t k => (by kernel_rfl)) (fun x_ s => by kernel_rfl))
theorem R_dadd.p1 : PcA R_dadd.G Try.f58 1 :=
  region_ok (s := R_dadd.c4r) (by kernel_rfl) (by kernel_rfl) (sums_of (sh := R_dadd.c4s) (fun ρ x_ k_ => (nat_br nat_leaf (nat_br nat_leaf nat_leaf))) (fun ρ x_ t k => (by kernel_rfl)) (fun x_ => by kernel_rfl))
theorem R_dadd.p2 : PcA R_dadd.G Try.f58 2 :=
  join_ok (s := R_dadd.c224581r) (by kernel_rfl) (by kernel_rfl) (sums_of (sh := R_dadd.c224581s) (fun ρ x_ k_ => (nat_br (nat_bnd fun _ => nat_leaf) nat_leaf)) (fun ρ x_ t k => (by kernel_rfl)) (fun x_ => by kernel_rfl))
theorem R_dadd.p3 : PcA R_dadd.G Try.f58 3 :=
  join_ok (s := R_dadd.c232773r) (by kernel_rfl) (by kernel_rfl) (sums_of (sh := R_dadd.c232773s) (fun ρ x_ k_ => (nat_br (nat_bnd fun _ => nat_leaf) nat_leaf)) (fun ρ x_ t k => (by kernel_rfl)) (fun x_ => by kernel_rfl))
theorem R_dadd.ok : CalleeOk Try.prog 58 R_dadd.ce := fn_ok (G := R_dadd.G) tab_ok mixed Try.func58 ⟨fns_nil, mfns_nil, tab_eqs_ok⟩ (m := 4) (by kernel_rfl) ⟨⟨⟨⟨trivial, R_dadd.p0⟩, R_dadd.p1⟩, R_dadd.p2⟩, R_dadd.p3⟩ (by kernel_rfl) R_dadd.eq
def R_dcmp.c8 {ρ : Type} (a : List (Int)) (b : List (Int)) (i : Int) (k_ : Bool → Option ρ) : Option ρ :=
  bnd (idx a i) fun y =>
  bnd (idx b i) fun y_1 =>
  k_ (decide (y < y_1))
def R_dcmp.c8s : Shape := ⟨[(0, lb0), (1, lb0), (4, lb2), (5, lb2)], []⟩
def R_dcmp.c8x0 : Shape := ⟨[(0, lb0), (1, lb0), (4, lb2), (5, lb2), (31, lb11)], []⟩
def R_dcmp.c8r : Ck := Ck.of (T := Bool) R_dcmp.c8s (fun ρ x_ k_ => R_dcmp.c8 x_.1 x_.2.1 x_.2.2.2.1 k_) (fun ρ x_ r_ k_ => k_ 0 (Shape.inj R_dcmp.c8x0 (x_.1, x_.2.1, x_.2.2.1, x_.2.2.2.1, r_, ())))
def R_dcmp.c10 {ρ : Type} (a : List (Int)) (b : List (Int)) (i : Int) (k_ : Bool → Option ρ) : Option ρ :=
  bnd (idx a i) fun y =>
  bnd (idx b i) fun y_1 =>
  k_ (decide (y > y_1))
def R_dcmp.c10s : Shape := R_dcmp.c8s
def R_dcmp.c10x0 : Shape := ⟨[(0, lb0), (1, lb0), (4, lb2), (5, lb2), (40, lb11)], []⟩
def R_dcmp.c10r : Ck := Ck.of (T := Bool) R_dcmp.c10s (fun ρ x_ k_ => R_dcmp.c10 x_.1 x_.2.1 x_.2.2.2.1 k_) (fun ρ x_ r_ k_ => k_ 0 (Shape.inj R_dcmp.c10x0 (x_.1, x_.2.1, x_.2.2.1, x_.2.2.2.1, r_, ())))
def R_dcmp.c100006 {ρ : Type} (a : List (Int)) (b : List (Int)) (i : Int) (k_ : (Int) ⊕ (((Int) × (Int)) ⊕ (Int)) → Option ρ) : Option ρ :=
  br (decide (i ≥ (0 : Int)))
   (bnd (W.R_dcmp.c8 a b i some) fun y =>
    br y
     (k_ (.inr (.inl ((-1 : Int), i))))
     (bnd (W.R_dcmp.c10 a b i some) fun y_1 =>
      br y_1
       (k_ (.inr (.inl ((1 : Int), i))))
       (k_ (.inl (IntKind.wrap IntKind.i64 (i - (1 : Int)))))))
   (k_ (.inr (.inr i)))
def R_dcmp.c100006s : Shape := R_dcmp.c8s
def R_dcmp.c100006x0 : Shape := R_dcmp.c8s
def R_dcmp.c100006x1 : Shape := R_dcmp.c8s
def R_dcmp.c100006r : Ck := Ck.ofLoop (S := Int) (T := ((Int) × (Int)) ⊕ (Int)) R_dcmp.c100006s (fun x_ => x_.2.2.2.1) (fun ρ x_ s_ k_ => R_dcmp.c100006 x_.1 x_.2.1 s_ k_) (fun ρ x_ r_ k_ => sel r_ (fun r_ => k_ 1 (Shape.inj R_dcmp.c100006x0 (x_.1, x_.2.1, r_.1, r_.2, ()))) (fun r_ => k_ 2 (Shape.inj R_dcmp.c100006x1 (x_.1, x_.2.1, x_.2.2.1, r_, ()))))
def R_dcmp (a : List (Int)) (b : List (Int)) : Option (Int) :=
  br ((↑(List.length a) : Int) != (↑(List.length b) : Int))
   (br (decide ((↑(List.length a) : Int) < (↑(List.length b) : Int)))
     (some (-1 : Int))
     (some (1 : Int)))
   (bnd (iter (fun s ↦ W.R_dcmp.c100006 a b s some) (IntKind.wrap IntKind.i64 ((↑(List.length a) : Int) - (1 : Int)))) fun y =>
    sel y
     (fun u => some (Prod.fst u))
     (fun v => some (0 : Int)))
def R_dcmp.ce : Go.Ql.Callee := ⟨[(.sl (.int .i64)), (.sl (.int .i64))], [(.int .i64)], fun x_ => R_dcmp x_.1 x_.2⟩
def R_dcmp.G : Env := ⟨41, tab, [], [0, 1, 4, 5, 10, 15, 20, 31, 40], [], [(10, [⟨[], [], [33, 36, 37, 38, 39], []⟩, ⟨[], [], [32, 36, 37, 38, 39], []⟩, ⟨[0, 1], [], [36, 37, 38, 39], []⟩, ⟨[2, 0, 1], [], [36, 37, 38, 39], []⟩, ⟨[], [], [32, 33, 34, 35, 37], []⟩, ⟨[], [], [32, 33, 34, 35, 36], []⟩, ⟨[4, 5], [], [32, 33, 34, 35], []⟩, ⟨[6, 4, 5], [], [32, 33, 34, 35], []⟩, ⟨[3, 2, 0, 1, 7, 6, 4, 5], [], [], []⟩]),
  (8, [⟨[], [], [24, 27, 28, 29, 30], []⟩, ⟨[], [], [23, 27, 28, 29, 30], []⟩, ⟨[0, 1], [], [27, 28, 29, 30], []⟩, ⟨[2, 0, 1], [], [27, 28, 29, 30], []⟩, ⟨[], [], [23, 24, 25, 26, 28], []⟩, ⟨[], [], [23, 24, 25, 26, 27], []⟩, ⟨[4, 5], [], [23, 24, 25, 26], []⟩, ⟨[6, 4, 5], [], [23, 24, 25, 26], []⟩, ⟨[3, 2, 0, 1, 7, 6, 4, 5], [], [], []⟩])], [(100006, R_dcmp.c100006r), (10, R_dcmp.c10r), (8, R_dcmp.c8r)], [], tab_eqs⟩
theorem R_dcmp.eq (x_ : dens R_dcmp.ce.params) : den R_dcmp.G Try.f59 R_dcmp.ce.params R_dcmp.ce.res x_ = R_dcmp.ce.F x_ := by kernel_rfl
theorem R_dcmp.p0 : PcA R_dcmp.G Try.f59 0 :=
  loop_ok (s := R_dcmp.c100006r) (by kernel_rfl) (by kernel_rfl) (loops_of (sh := R_dcmp.c100006s) (I := fun x_ s_ => (x_.1, x_.2.1, x_.2.2.1, s_, ())) (fun x_ => rfl) (fun ρ x_ s_ k_ => (nat_br (nat_bnd fun _ => (nat_br nat_leaf (nat_bnd fun _ => (nat_br nat_leaf nat_leaf)))) nat_leaf)) (fun ρ x_ t k => (nat_sel (fun _ => (by kernel_rfl)) (fun _ => (by kernel_rfl)))) (fun x_ s => by kernel_rfl))
theorem R_dcmp.p1 : PcA R_dcmp.G Try.f59 1 :=
  region_ok (s := R_dcmp.c8r) (by kernel_rfl) (by kernel_rfl) (sums_of (sh := R_dcmp.c8s) (fun ρ x_ k_ => (nat_bnd fun _ => (nat_bnd fun _ => nat_leaf))) (fun ρ x_ t k => (by kernel_rfl)) (fun x_ => by kernel_rfl))
theorem R_dcmp.p2 : PcA R_dcmp.G Try.f59 2 :=
  region_ok (s := R_dcmp.c10r) (by kernel_rfl) (by kernel_rfl) (sums_of (sh := R_dcmp.c10s) (fun ρ x_ k_ => (nat_bnd fun _ => (nat_bnd fun _ => nat_leaf))) (fun ρ x_ t k => (by kernel_rfl)) (fun x_ => by kernel_rfl))
theorem R_dcmp.ok : CalleeOk Try.prog 59 R_dcmp.ce := fn_ok (G := R_dcmp.G) tab_ok mixed Try.func59 ⟨fns_nil, mfns_nil, tab_eqs_ok⟩ (m := 3) (by kernel_rfl) ⟨⟨⟨trivial, R_dcmp.p0⟩, R_dcmp.p1⟩, R_dcmp.p2⟩ (by kernel_rfl) R_dcmp.eq
def R_dsub.c228677 {ρ : Type} (b : List (Int)) (i : Int) (x : Int) (k_ : Int → Option ρ) : Option ρ :=
  br (decide (i < (↑(List.length b) : Int)))
   (bnd (idx b i) fun y =>
    k_ (IntKind.wrap IntKind.i64 (x - y)))
   (k_ x)
def R_dsub.c228677s : Shape := ⟨[(0, lb0), (1, lb0), (4, lb0), (5, lb61), (6, lb2), (7, lb2), (8, lb2)], [(5, lb3)]⟩
def R_dsub.c228677x0 : Shape := R_dsub.c228677s
def R_dsub.c228677r : Ck := Ck.of (T := Int) R_dsub.c228677s (fun ρ x_ k_ => R_dsub.c228677 x_.2.1 x_.2.2.2.2.1 x_.2.2.2.2.2.1 k_) (fun ρ x_ r_ k_ => k_ 0 (Shape.inj R_dsub.c228677x0 (x_.1, x_.2.1, x_.2.2.1, x_.2.2.2.1, x_.2.2.2.2.1, r_, x_.2.2.2.2.2.2)))
def R_dsub.c240967 {ρ : Type} (c : Int) (x : Int) (k_ : (Int) × (Int) → Option ρ) : Option ρ :=
  br (decide (x < (0 : Int)))
   (k_ ((1 : Int), (IntKind.wrap IntKind.i64 (x + (10000 : Int)))))
   (k_ (c, x))
def R_dsub.c240967s : Shape := R_dsub.c228677s
def R_dsub.c240967x0 : Shape := R_dsub.c228677s
def R_dsub.c240967r : Ck := Ck.of (T := (Int) × (Int)) R_dsub.c240967s (fun ρ x_ k_ => R_dsub.c240967 x_.2.2.2.1 x_.2.2.2.2.2.1 k_) (fun ρ x_ r_ k_ => k_ 0 (Shape.inj R_dsub.c240967x0 (x_.1, x_.2.1, x_.2.2.1, r_.1, x_.2.2.2.2.1, r_.2, x_.2.2.2.2.2.2)))
def R_dsub.c100004 {ρ : Type} (a : List (Int)) (b : List (Int)) (c : Int) (i : Int) (out : List (Int)) (k_ : ((Int) × (Int) × (List Int)) ⊕ ((Int) × (Int) × (List Int)) → Option ρ) : Option ρ :=
  br (decide (i < (↑(List.length a) : Int)))
   (bnd (idx a i) fun y =>
    bnd (W.R_dsub.c228677 b i (IntKind.wrap IntKind.i64 (y - c)) some) fun y_1 =>
    bnd (W.R_dsub.c240967 (0 : Int) y_1 some) fun y_2 =>
    bnd (okIf (decide ((List.length out + (1 : Nat)) * (8 : Nat) ≤ (140737488355328 : Nat)) && decide (List.length out + (1 : Nat) ≤ (140737488355328 : Nat)))) fun y_3 =>
    k_ (.inl ((Prod.fst y_2), (IntKind.wrap IntKind.i64 (i + (1 : Int))), (out ++ [Prod.snd y_2]))))
   (k_ (.inr (c, i, out)))
def R_dsub.c100004s : Shape := ⟨[(0, lb0), (1, lb0), (4, lb0), (5, lb61), (6, lb2), (7, lb2)], [(5, lb3)]⟩
def R_dsub.c100004x0 : Shape := R_dsub.c100004s
def R_dsub.c100004r : Ck := Ck.ofLoop (S := (Int) × (Int) × (List Int)) (T := (Int) × (Int) × (List Int)) R_dsub.c100004s (fun x_ => (x_.2.2.2.1, x_.2.2.2.2.1, x_.2.2.2.2.2.1)) (fun ρ x_ s_ k_ => R_dsub.c100004 x_.1 x_.2.1 s_.1 s_.2.1 s_.2.2 k_) (fun ρ x_ r_ k_ => k_ 2 (Shape.inj R_dsub.c100004x0 (x_.1, x_.2.1, x_.2.2.1, r_.1, r_.2.1, r_.2.2, ())))
def R_dsub (a : List (Int)) (b : List (Int)) : Option (List Int) :=
  bnd (iter (fun s ↦ W.R_dsub.c100004 a b (Prod.fst s) (Prod.fst (Prod.snd s)) (Prod.snd (Prod.snd s)) some) ((0 : Int), (0 : Int), [])) fun y =>
  some (Prod.snd (Prod.snd y))
def R_dsub.ce : Go.Ql.Callee := ⟨[(.sl (.int .i64)), (.sl (.int .i64))], [(.sl (.int .i64))], fun x_ => R_dsub x_.1 x_.2⟩
def R_dsub.G : Env := ⟨40, tab, [], [0, 1, 4, 5, 6, 7, 8, 12, 24, 32], [5], [], [(100004, R_dsub.c100004r), (240967, R_dsub.c240967r), (228677, R_dsub.c228677r)], [], tab_eqs⟩
theorem R_dsub.eq (x_ : dens R_dsub.ce.params) : den R_dsub.G Try.f60 R_dsub.ce.params R_dsub.ce.res x_ = R_dsub.ce.F x_ := by kernel_rfl
theorem R_dsub.p0 : PcA R_dsub.G Try.f60 0 :=
  loop_ok (s := R_dsub.c100004r) (by kernel_rfl) (by kernel_rfl) (loops_of (sh := R_dsub.c100004s) (I := fun x_ s_ => (x_.1, x_.2.1, x_.2.2.1, s_.1, s_.2.1, s_.2.2, ())) (fun x_ => rfl) (fun ρ x_ s_ k_ => (nat_br (nat_bnd fun _ => (nat_bnd fun _ => (nat_bnd fun _ => (nat_bnd fun _ => nat_leaf)))) nat_leaf)) (fun ρ x_ t k => (by kernel_rfl)) (fun x_ s => by kernel_rfl))
theorem R_dsub.p1 : PcA R_dsub.G Try.f60 1 :=
  join_ok (s := R_dsub.c228677r) (by kernel_rfl) (by kernel_rfl) (sums_of (sh := R_dsub.c228677s) (fun ρ x_ k_ => (nat_br (nat_bnd fun _ => nat_leaf) nat_leaf)) (fun ρ x_ t k => (by kernel_rfl)) (fun x_ => by kernel_rfl))
theorem R_dsub.p2 : PcA R_dsub.G Try.f60 2 :=
  join_ok (s := R_dsub.c240967r) (by kernel_rfl) (by kernel_rfl) (sums_of (sh := R_dsub.c240967s) (fun ρ x_ k_ => (nat_br nat_leaf nat_leaf)) (fun ρ x_ t k => (by kernel_rfl)) (fun x_ => by kernel_rfl))
theorem R_dsub.ok : CalleeOk Try.prog 60 R_dsub.ce := fn_ok (G := R_dsub.G) tab_ok mixed Try.func60 ⟨fns_nil, mfns_nil, tab_eqs_ok⟩ (m := 3) (by kernel_rfl) ⟨⟨⟨trivial, R_dsub.p0⟩, R_dsub.p1⟩, R_dsub.p2⟩ (by kernel_rfl) R_dsub.eq
def R_ZAdd.c6 {ρ : Type} (a0 : Bool) (a1 : List (Int)) (b1 : List (Int)) (k_ : (Bool) × (List Int) → Option ρ) : Option ρ :=
  bnd (W.R_dadd a1 b1) fun y =>
  bnd (W.R_zmade a0 y) fun y_1 =>
  k_ ((Prod.fst y_1), (Prod.snd y_1))
def R_ZAdd.c6s : Shape := ⟨[(0, lb56), (1, lb56), (2, lb6), (3, lb7), (4, lb30)], [(2, lb51), (3, lb51), (4, lb51)]⟩
def R_ZAdd.c6x0 : Shape := R_ZAdd.c6s
def R_ZAdd.c6r : Ck := Ck.of (T := (Bool) × (List Int)) R_ZAdd.c6s (fun ρ x_ k_ => R_ZAdd.c6 x_.2.2.1 x_.2.2.2.1 x_.2.2.2.2.2.1 k_) (fun ρ x_ r_ k_ => k_ 0 (Shape.inj R_ZAdd.c6x0 (x_.1, x_.2.1, x_.2.2.1, x_.2.2.2.1, x_.2.2.2.2.1, x_.2.2.2.2.2.1, r_.1, r_.2, ())))
def R_ZAdd.c8 {ρ : Type} (a0 : Bool) (a1 : List (Int)) (b1 : List (Int)) (k_ : (Bool) × (List Int) → Option ρ) : Option ρ :=
  bnd (W.R_dsub a1 b1) fun y =>
  bnd (W.R_zmade a0 y) fun y_1 =>
  k_ ((Prod.fst y_1), (Prod.snd y_1))
def R_ZAdd.c8s : Shape := R_ZAdd.c6s
def R_ZAdd.c8x0 : Shape := R_ZAdd.c6s
def R_ZAdd.c8r : Ck := Ck.of (T := (Bool) × (List Int)) R_ZAdd.c8s (fun ρ x_ k_ => R_ZAdd.c8 x_.2.2.1 x_.2.2.2.1 x_.2.2.2.2.2.1 k_) (fun ρ x_ r_ k_ => k_ 0 (Shape.inj R_ZAdd.c8x0 (x_.1, x_.2.1, x_.2.2.1, x_.2.2.2.1, x_.2.2.2.2.1, x_.2.2.2.2.2.1, r_.1, r_.2, ())))
def R_ZAdd.c9 {ρ : Type} (a1 : List (Int)) (b0 : Bool) (b1 : List (Int)) (k_ : (Bool) × (List Int) → Option ρ) : Option ρ :=
  bnd (W.R_dsub b1 a1) fun y =>
  bnd (W.R_zmade b0 y) fun y_1 =>
  k_ ((Prod.fst y_1), (Prod.snd y_1))
def R_ZAdd.c9s : Shape := R_ZAdd.c6s
def R_ZAdd.c9x0 : Shape := R_ZAdd.c6s
def R_ZAdd.c9r : Ck := Ck.of (T := (Bool) × (List Int)) R_ZAdd.c9s (fun ρ x_ k_ => R_ZAdd.c9 x_.2.2.2.1 x_.2.2.2.2.1 x_.2.2.2.2.2.1 k_) (fun ρ x_ r_ k_ => k_ 0 (Shape.inj R_ZAdd.c9x0 (x_.1, x_.2.1, x_.2.2.1, x_.2.2.2.1, x_.2.2.2.2.1, x_.2.2.2.2.2.1, r_.1, r_.2, ())))
def R_ZAdd (a : (Bool) × (List Int)) (b : (Bool) × (List Int)) : Option ((Bool) × (List Int)) :=
  br ((↑(List.length (Prod.snd a)) : Int) == (0 : Int))
   (some (Prod.fst b, Prod.snd b))
   (br ((↑(List.length (Prod.snd b)) : Int) == (0 : Int))
     (some (Prod.fst a, Prod.snd a))
     (br (Prod.fst a == Prod.fst b)
       (bnd (W.R_ZAdd.c6 (Prod.fst a) (Prod.snd a) (Prod.snd b) some) fun y =>
        some (Prod.fst y, Prod.snd y))
       (bnd (W.R_dcmp (Prod.snd a) (Prod.snd b)) fun y_1 =>
        br (decide (y_1 ≥ (0 : Int)))
         (bnd (W.R_ZAdd.c8 (Prod.fst a) (Prod.snd a) (Prod.snd b) some) fun y_2 =>
          some (Prod.fst y_2, Prod.snd y_2))
         (bnd (W.R_ZAdd.c9 (Prod.snd a) (Prod.fst b) (Prod.snd b) some) fun y_3 =>
          some (Prod.fst y_3, Prod.snd y_3)))))
def R_ZAdd.ce : Go.Ql.Callee := ⟨[(.st (.pair .bool (.sl (.int .i64)))), (.st (.pair .bool (.sl (.int .i64))))], [(.st (.pair .bool (.sl (.int .i64))))], fun x_ => R_ZAdd x_.1 x_.2⟩
def R_ZAdd.G : Env := ⟨50, tab, [(58, R_dadd.ce), (50, R_zmade.ce), (59, R_dcmp.ce), (60, R_dsub.ce)], [0, 1, 2, 3, 4, 8, 13, 19, 33], [], [(9, [⟨[], [], [44, 45, 46, 47, 48], []⟩, ⟨[0], [], [44, 45, 46, 47, 48], []⟩, ⟨[], [], [42, 43, 46, 47], []⟩, ⟨[2], [], [42, 43, 46, 47], []⟩, ⟨[], [], [42, 43, 44, 45], []⟩, ⟨[4], [], [42, 43, 44, 45], []⟩, ⟨[3, 2, 5, 4], [], [42, 43], []⟩, ⟨[1, 0, 6, 3, 2, 5, 4], [], [], []⟩, ⟨[7, 1, 0, 6, 3, 2, 5, 4], [4], [], []⟩]),
  (8, [⟨[], [], [36, 37, 38, 39, 40], []⟩, ⟨[0], [], [36, 37, 38, 39, 40], []⟩, ⟨[], [], [34, 35, 38, 39], []⟩, ⟨[2], [], [34, 35, 38, 39], []⟩, ⟨[], [], [34, 35, 36, 37], []⟩, ⟨[4], [], [34, 35, 36, 37], []⟩, ⟨[3, 2, 5, 4], [], [34, 35], []⟩, ⟨[1, 0, 6, 3, 2, 5, 4], [], [], []⟩, ⟨[7, 1, 0, 6, 3, 2, 5, 4], [4], [], []⟩]),
  (6, [⟨[], [], [22, 23, 24, 25, 26], []⟩, ⟨[0], [], [22, 23, 24, 25, 26], []⟩, ⟨[], [], [20, 21, 24, 25], []⟩, ⟨[2], [], [20, 21, 24, 25], []⟩, ⟨[], [], [20, 21, 22, 23], []⟩, ⟨[4], [], [20, 21, 22, 23], []⟩, ⟨[3, 2, 5, 4], [], [20, 21], []⟩, ⟨[1, 0, 6, 3, 2, 5, 4], [], [], []⟩, ⟨[7, 1, 0, 6, 3, 2, 5, 4], [4], [], []⟩])], [(9, R_ZAdd.c9r), (8, R_ZAdd.c8r), (6, R_ZAdd.c6r)], [], tab_eqs⟩
theorem R_ZAdd.eq (x_ : dens R_ZAdd.ce.params) : den R_ZAdd.G Try.f52 R_ZAdd.ce.params R_ZAdd.ce.res x_ = R_ZAdd.ce.F x_ := by kernel_rfl
theorem R_ZAdd.p0 : PcA R_ZAdd.G Try.f52 0 :=
  region_ok (s := R_ZAdd.c6r) (by kernel_rfl) (by kernel_rfl) (sums_of (sh := R_ZAdd.c6s) (fun ρ x_ k_ => (nat_bnd fun _ => (nat_bnd fun _ => nat_leaf))) (fun ρ x_ t k => (by kernel_rfl)) (fun x_ => by kernel_rfl))
theorem R_ZAdd.p1 : PcA R_ZAdd.G Try.f52 1 :=
  region_ok (s := R_ZAdd.c8r) (by kernel_rfl) (by kernel_rfl) (sums_of (sh := R_ZAdd.c8s) (fun ρ x_ k_ => (nat_bnd fun _ => (nat_bnd fun _ => nat_leaf))) (fun ρ x_ t k => (by kernel_rfl)) (fun x_ => by kernel_rfl))
theorem R_ZAdd.p2 : PcA R_ZAdd.G Try.f52 2 :=
  region_ok (s := R_ZAdd.c9r) (by kernel_rfl) (by kernel_rfl) (sums_of (sh := R_ZAdd.c9s) (fun ρ x_ k_ => (nat_bnd fun _ => (nat_bnd fun _ => nat_leaf))) (fun ρ x_ t k => (by kernel_rfl)) (fun x_ => by kernel_rfl))
theorem R_ZAdd.ok : CalleeOk Try.prog 52 R_ZAdd.ce := fn_ok (G := R_ZAdd.G) tab_ok mixed Try.func52 ⟨(fns_cons R_dadd.ok (fns_cons R_zmade.ok (fns_cons R_dcmp.ok (fns_cons R_dsub.ok fns_nil)))), mfns_nil, tab_eqs_ok⟩ (m := 3) (by kernel_rfl) ⟨⟨⟨trivial, R_ZAdd.p0⟩, R_ZAdd.p1⟩, R_ZAdd.p2⟩ (by kernel_rfl) R_ZAdd.eq
def R_zodd.c1 {ρ : Type} (a1 : List (Int)) (k_ : Bool → Option ρ) : Option ρ :=
  br (decide ((↑(List.length a1) : Int) > (0 : Int)))
   (bnd (idx a1 (0 : Int)) fun y =>
    k_ (Int.tmod y (2 : Int) == (1 : Int)))
   (k_ false)
def R_zodd.c1s : Shape := ⟨[(0, lb56), (1, lb5), (2, lb11)], [(1, lb51)]⟩
def R_zodd.c1x0 : Shape := R_zodd.c1s
def R_zodd.c1r : Ck := Ck.of (T := Bool) R_zodd.c1s (fun ρ x_ k_ => R_zodd.c1 x_.2.2.2.1 k_) (fun ρ x_ r_ k_ => k_ 0 (Shape.inj R_zodd.c1x0 (x_.1, r_, x_.2.2)))
def R_zodd (a : (Bool) × (List Int)) : Option (Bool) :=
  bnd (W.R_zodd.c1 (Prod.snd a) some) fun y =>
  some y
def R_zodd.ce : Go.Ql.Callee := ⟨[(.st (.pair .bool (.sl (.int .i64))))], [.bool], fun x_ => R_zodd x_⟩
def R_zodd.G : Env := ⟨15, tab, [], [0, 1, 2], [], [], [(1, R_zodd.c1r)], [], tab_eqs⟩
theorem R_zodd.eq (x_ : dens R_zodd.ce.params) : den R_zodd.G Try.f61 R_zodd.ce.params R_zodd.ce.res x_ = R_zodd.ce.F x_ := by kernel_rfl
theorem R_zodd.p0 : PcA R_zodd.G Try.f61 0 :=
  region_ok (s := R_zodd.c1r) (by kernel_rfl) (by kernel_rfl) (sums_of (sh := R_zodd.c1s) (fun ρ x_ k_ => (nat_br (nat_bnd fun _ => nat_leaf) nat_leaf)) (fun ρ x_ t k => (by kernel_rfl)) (fun x_ => by kernel_rfl))
theorem R_zodd.ok : CalleeOk Try.prog 61 R_zodd.ce := fn_ok (G := R_zodd.G) tab_ok mixed Try.func61 ⟨fns_nil, mfns_nil, tab_eqs_ok⟩ (m := 1) (by kernel_rfl) ⟨trivial, R_zodd.p0⟩ (by kernel_rfl) R_zodd.eq
abbrev lb62 : SD := .one (.own 10 0)
def R_zhalf.c100004 {ρ : Type} (c : Int) (i : Int) (a1 : List (Int)) (t10 : List (Int)) (k_ : ((Int) × (Int) × (List Int)) ⊕ ((Int) × (Int) × (List Int)) → Option ρ) : Option ρ :=
  br (decide (i ≥ (0 : Int)))
   (bnd (idx a1 i) fun y =>
    bnd (inR (List.length t10) i) fun y_1 =>
    bnd (idx t10 i) fun y_2 =>
    k_ (.inl ((Int.tmod (IntKind.wrap IntKind.i64 (IntKind.wrap IntKind.i64 (c * (10000 : Int)) + y)) (2 : Int)), (IntKind.wrap IntKind.i64 (i - (1 : Int))), (List.set t10 (Int.toNat i) (IntKind.wrap IntKind.i64 (Int.tdiv (IntKind.wrap IntKind.i64 (IntKind.wrap IntKind.i64 (c * (10000 : Int)) + y)) (2 : Int)))))))
   (k_ (.inr (c, i, t10)))
def R_zhalf.c100004s : Shape := ⟨[(0, lb56), (1, lb5), (2, lb6), (3, lb11), (4, lb62), (5, lb2), (6, lb2)], [(1, lb51), (2, lb51), (10, lb3)]⟩
def R_zhalf.c100004x0 : Shape := R_zhalf.c100004s
def R_zhalf.c100004r : Ck := Ck.ofLoop (S := (Int) × (Int) × (List Int)) (T := (Int) × (Int) × (List Int)) R_zhalf.c100004s (fun x_ => (x_.2.2.1, x_.2.2.2.1, x_.2.2.2.2.2.2.2.2.1)) (fun ρ x_ s_ k_ => R_zhalf.c100004 s_.1 s_.2.1 x_.2.2.2.2.2.1 s_.2.2 k_) (fun ρ x_ r_ k_ => k_ 2 (Shape.inj R_zhalf.c100004x0 (x_.1, x_.2.1, r_.1, r_.2.1, x_.2.2.2.2.1, x_.2.2.2.2.2.1, x_.2.2.2.2.2.2.1, x_.2.2.2.2.2.2.2.1, r_.2.2, ())))
def R_zhalf (a : (Bool) × (List Int)) : Option (((Bool) × (List Int)) × (Bool)) :=
  bnd (okIf (decide ((0 : Int) ≤ (↑(List.length (Prod.snd a)) : Int)) && decide ((↑(List.length (Prod.snd a)) : Int) ≤ (↑(List.length (Prod.snd a)) : Int)) && decide ((↑(List.length (Prod.snd a)) : Int) * (↑(8 : Nat) : Int) ≤ (140737488355328 : Int)) && decide ((↑(List.length (Prod.snd a)) : Int) ≤ (140737488355328 : Int)))) fun y =>
  bnd (iter (fun s ↦ W.R_zhalf.c100004 (Prod.fst s) (Prod.fst (Prod.snd s)) (Prod.snd a) (Prod.snd (Prod.snd s)) some) ((0 : Int), IntKind.wrap IntKind.i64 ((↑(List.length (Prod.snd a)) : Int) - (1 : Int)), List.replicate (Int.toNat (↑(List.length (Prod.snd a)) : Int)) (0 : Int))) fun y_1 =>
  bnd (W.R_zmade (Prod.fst a) (Prod.snd (Prod.snd y_1))) fun y_2 =>
  some ((Prod.fst y_2, Prod.snd y_2), decide (Prod.fst y_1 > (0 : Int)))
def R_zhalf.ce : Go.Ql.Callee := ⟨[(.st (.pair .bool (.sl (.int .i64))))], [(.st (.pair .bool (.sl (.int .i64)))), .bool], fun x_ => R_zhalf x_⟩
def R_zhalf.G : Env := ⟨40, tab, [(50, R_zmade.ce)], [0, 1, 2, 3, 4, 5, 6, 16], [10], [], [(100004, R_zhalf.c100004r)], [], tab_eqs⟩
theorem R_zhalf.eq (x_ : dens R_zhalf.ce.params) : den R_zhalf.G Try.f62 R_zhalf.ce.params R_zhalf.ce.res x_ = R_zhalf.ce.F x_ := by kernel_rfl
theorem R_zhalf.p0 : PcA R_zhalf.G Try.f62 0 :=
  loop_ok (s := R_zhalf.c100004r) (by kernel_rfl) (by kernel_rfl) (loops_of (sh := R_zhalf.c100004s) (I := fun x_ s_ => (x_.1, x_.2.1, s_.1, s_.2.1, x_.2.2.2.2.1, x_.2.2.2.2.2.1, x_.2.2.2.2.2.2.1, x_.2.2.2.2.2.2.2.1, s_.2.2, ())) (fun x_ => rfl) (fun ρ x_ s_ k_ => (nat_br (nat_bnd fun _ => (nat_bnd fun _ => (nat_bnd fun _ => nat_leaf))) nat_leaf)) (fun ρ x_ t k => (by kernel_rfl)) (fun x_ s => by kernel_rfl))
theorem R_zhalf.ok : CalleeOk Try.prog 62 R_zhalf.ce := fn_ok (G := R_zhalf.G) tab_ok mixed Try.func62 ⟨(fns_cons R_zmade.ok fns_nil), mfns_nil, tab_eqs_ok⟩ (m := 1) (by kernel_rfl) ⟨trivial, R_zhalf.p0⟩ (by kernel_rfl) R_zhalf.eq
abbrev lb63 : SD := .one (.aptr 1 0)
def R_rleast.c100003 {ρ : Type} (i : Int) (a_1 : List ((List ((Bool) × (List Int))) × (Int))) (t2 : List ((List ((Bool) × (List Int))) × (Int))) (k_ : (Int) ⊕ (((Int) × (List ((List ((Bool) × (List Int))) × (Int)))) ⊕ (Int)) → Option ρ) : Option ρ :=
  br (decide (i < (8 : Int)))
   (bnd (inR (List.length a_1) (0 : Int)) fun y =>
    bnd (okIf (decide ((0 : Ty.den (Ty.int IntKind.i64)) ≤ i) && decide (i < (↑(8 : Nat) : Int)))) fun y_1 =>
    bnd (idx a_1 (0 : Int)) fun y_2 =>
    bnd (idx (Prod.fst y_2) i) fun y_3 =>
    bnd (W.R_zodd y_3) fun y_4 =>
    br y_4
     (bnd (idx a_1 (0 : Int)) fun y_5 =>
      bnd (idx t2 (0 : Int)) fun y_6 =>
      k_ (.inr (.inl (i, (List.set t2 (0 : Nat) y_5)))))
     (k_ (.inl (IntKind.wrap IntKind.i64 (i + (1 : Int))))))
   (k_ (.inr (.inr i)))
def R_rleast.c100003s : Shape := ⟨[(0, lb54), (1, lb63), (2, lb58), (3, lb2)], [(1, lb60), (2, lb60)]⟩
def R_rleast.c100003x0 : Shape := R_rleast.c100003s
def R_rleast.c100003x1 : Shape := R_rleast.c100003s
def R_rleast.c100003r : Ck := Ck.ofLoop (S := Int) (T := ((Int) × (List ((List ((Bool) × (List Int))) × (Int)))) ⊕ (Int)) R_rleast.c100003s (fun x_ => x_.2.1) (fun ρ x_ s_ k_ => R_rleast.c100003 s_ x_.2.2.1 x_.2.2.2.1 k_) (fun ρ x_ r_ k_ => sel r_ (fun r_ => k_ 1 (Shape.inj R_rleast.c100003x0 (x_.1, r_.1, x_.2.2.1, r_.2, ()))) (fun r_ => k_ 4 (Shape.inj R_rleast.c100003x1 (x_.1, r_, x_.2.2))))
def R_rleast.c100008 {ρ : Type} (i_1 : Int) (a_1 : List ((List ((Bool) × (List Int))) × (Int))) (k_ : ((Int) × (List ((List ((Bool) × (List Int))) × (Int)))) ⊕ ((Int) × (List ((List ((Bool) × (List Int))) × (Int)))) → Option ρ) : Option ρ :=
  br (decide (i_1 < (8 : Int)))
   (bnd (inR (List.length a_1) (0 : Int)) fun y =>
    bnd (okIf (decide ((0 : Ty.den (Ty.int IntKind.i64)) ≤ i_1) && decide (i_1 < (↑(8 : Nat) : Int)))) fun y_1 =>
    bnd (idx a_1 (0 : Int)) fun y_2 =>
    bnd (idx (Prod.fst y_2) i_1) fun y_3 =>
    bnd (W.R_zhalf y_3) fun y_4 =>
    bnd (inR (List.length a_1) (0 : Int)) fun y_5 =>
    bnd (okIf (decide ((0 : Ty.den (Ty.int IntKind.i64)) ≤ i_1) && decide (i_1 < (↑(8 : Nat) : Int)))) fun y_6 =>
    bnd (idx a_1 (0 : Int)) fun y_7 =>
    bnd (idx (Prod.fst y_7) i_1) fun y_8 =>
    k_ (.inl ((IntKind.wrap IntKind.i64 (i_1 + (1 : Int))), (List.set a_1 (0 : Nat) (List.set (Prod.fst y_7) (Int.toNat i_1) (Prod.fst y_4), Prod.snd y_7)))))
   (k_ (.inr (i_1, a_1)))
def R_rleast.c100008s : Shape := ⟨[(0, lb54), (1, lb63), (2, lb58), (3, lb2), (4, lb2)], [(1, lb60), (2, lb60)]⟩
def R_rleast.c100008x0 : Shape := R_rleast.c100008s
def R_rleast.c100008r : Ck := Ck.ofLoop (S := (Int) × (List ((List ((Bool) × (List Int))) × (Int)))) (T := (Int) × (List ((List ((Bool) × (List Int))) × (Int)))) R_rleast.c100008s (fun x_ => (x_.2.2.1, x_.2.2.2.1)) (fun ρ x_ s_ k_ => R_rleast.c100008 s_.1 s_.2 k_) (fun ρ x_ r_ k_ => k_ 6 (Shape.inj R_rleast.c100008x0 (x_.1, x_.2.1, r_.1, r_.2, x_.2.2.2.2)))
def R_rleast.c100001 {ρ : Type} (a_1 : List ((List ((Bool) × (List Int))) × (Int))) (t2 : List ((List ((Bool) × (List Int))) × (Int))) (k_ : (List ((List ((Bool) × (List Int))) × (Int))) ⊕ (((List ((List ((Bool) × (List Int))) × (Int))) × (List ((List ((Bool) × (List Int))) × (Int)))) ⊕ (List ((List ((Bool) × (List Int))) × (Int)))) → Option ρ) : Option ρ :=
  bnd (inR (List.length a_1) (0 : Int)) fun y =>
  bnd (idx a_1 (0 : Int)) fun y_1 =>
  br (decide (Prod.snd y_1 > (0 : Int)))
   (bnd (iter (fun s ↦ W.R_rleast.c100003 s a_1 t2 some) (0 : Int)) fun y_2 =>
    sel y_2
     (fun u => k_ (.inr (.inl (a_1, (Prod.snd u)))))
     (fun v => bnd (iter (fun s ↦ W.R_rleast.c100008 (Prod.fst s) (Prod.snd s) some) ((0 : Int), a_1)) fun y_3 =>
      bnd (idx (Prod.snd y_3) (0 : Int)) fun y_4 =>
      bnd (W.R_RZero y_4) fun y_5 =>
      br y_5
       (bnd (idx t2 (0 : Int)) fun y_6 =>
        k_ (.inr (.inl ((Prod.snd y_3), (List.set t2 (0 : Nat) (List.replicate (8 : Nat) (false, []), (0 : Int)))))))
       (bnd (inR (List.length (Prod.snd y_3)) (0 : Int)) fun y_7 =>
        bnd (idx (Prod.snd y_3) (0 : Int)) fun y_8 =>
        bnd (inR (List.length (Prod.snd y_3)) (0 : Int)) fun y_9 =>
        bnd (idx (Prod.snd y_3) (0 : Int)) fun y_10 =>
        k_ (.inl (List.set (Prod.snd y_3) (0 : Nat) (Prod.fst y_10, IntKind.wrap IntKind.i64 (Prod.snd y_8 - (1 : Int))))))))
   (k_ (.inr (.inr a_1)))
def R_rleast.c100001s : Shape := ⟨[(0, lb54), (1, lb63), (2, lb58)], [(1, lb60), (2, lb60)]⟩
def R_rleast.c100001x0 : Shape := R_rleast.c100001s
def R_rleast.c100001x1 : Shape := R_rleast.c100001s
def R_rleast.c100001r : Ck := Ck.ofLoop (S := List ((List ((Bool) × (List Int))) × (Int))) (T := ((List ((List ((Bool) × (List Int))) × (Int))) × (List ((List ((Bool) × (List Int))) × (Int)))) ⊕ (List ((List ((Bool) × (List Int))) × (Int)))) R_rleast.c100001s (fun x_ => x_.2.1) (fun ρ x_ s_ k_ => R_rleast.c100001 s_ x_.2.2.1 k_) (fun ρ x_ r_ k_ => sel r_ (fun r_ => k_ 1 (Shape.inj R_rleast.c100001x0 (x_.1, r_.1, r_.2, ()))) (fun r_ => k_ 2 (Shape.inj R_rleast.c100001x1 (x_.1, r_, x_.2.2))))
def R_rleast (a : (List ((Bool) × (List Int))) × (Int)) : Option ((List ((Bool) × (List Int))) × (Int)) :=
  bnd (iter (fun s ↦ W.R_rleast.c100001 s [(List.replicate (8 : Nat) (false, []), (0 : Int))] some) [a]) fun y =>
  sel y
   (fun u => bnd (idx (Prod.snd u) (0 : Int)) fun y_1 =>
    some y_1)
   (fun v => bnd (idx v (0 : Int)) fun y_2 =>
    some y_2)
def R_rleast.ce : Go.Ql.Callee := ⟨[(.st (.pair (.ar 8 (.st (.pair .bool (.sl (.int .i64))))) (.int .i64)))], [(.st (.pair (.ar 8 (.st (.pair .bool (.sl (.int .i64))))) (.int .i64)))], fun x_ => R_rleast x_⟩
def R_rleast.G : Env := ⟨41, tab, [(61, R_zodd.ce), (62, R_zhalf.ce), (15, R_RZero.ce)], [0, 1, 2, 3, 4, 7, 9, 16, 19, 34], [1, 2, 35], [], [(100001, R_rleast.c100001r), (100008, R_rleast.c100008r), (100003, R_rleast.c100003r)], [], tab_eqs⟩
theorem R_rleast.eq (x_ : dens R_rleast.ce.params) : den R_rleast.G Try.f53 R_rleast.ce.params R_rleast.ce.res x_ = R_rleast.ce.F x_ := by kernel_rfl
theorem R_rleast.p0 : PcA R_rleast.G Try.f53 0 :=
  loop_ok (s := R_rleast.c100001r) (by kernel_rfl) (by kernel_rfl) (loops_of (sh := R_rleast.c100001s) (I := fun x_ s_ => (x_.1, s_, x_.2.2)) (fun x_ => rfl) (fun ρ x_ s_ k_ => (nat_bnd fun _ => (nat_bnd fun _ => (nat_br (nat_bnd fun _ => (nat_sel (fun _ => nat_leaf) (fun _ => (nat_bnd fun _ => (nat_bnd fun _ => (nat_bnd fun _ => (nat_br (nat_bnd fun _ => nat_leaf) (nat_bnd fun _ => (nat_bnd fun _ => (nat_bnd fun _ => (nat_bnd fun _ => nat_leaf))))))))))) nat_leaf)))) (fun ρ x_ t k => (nat_sel (fun _ => (by kernel_rfl)) (fun _ => (by kernel_rfl)))) (fun x_ s => by kernel_rfl))
theorem R_rleast.p1 : PcA R_rleast.G Try.f53 1 :=
  loop_ok (s := R_rleast.c100003r) (by kernel_rfl) (by kernel_rfl) (loops_of (sh := R_rleast.c100003s) (I := fun x_ s_ => (x_.1, s_, x_.2.2)) (fun x_ => rfl) (fun ρ x_ s_ k_ => (nat_br (nat_bnd fun _ => (nat_bnd fun _ => (nat_bnd fun _ => (nat_bnd fun _ => (nat_bnd fun _ => (nat_br (nat_bnd fun _ => (nat_bnd fun _ => nat_leaf)) nat_leaf)))))) nat_leaf)) (fun ρ x_ t k => (nat_sel (fun _ => (by kernel_rfl)) (fun _ => (by kernel_rfl)))) (fun x_ s => by kernel_rfl))
theorem R_rleast.p2 : PcA R_rleast.G Try.f53 2 :=
  loop_ok (s := R_rleast.c100008r) (by kernel_rfl) (by kernel_rfl) (loops_of (sh := R_rleast.c100008s) (I := fun x_ s_ => (x_.1, x_.2.1, s_.1, s_.2, x_.2.2.2.2)) (fun x_ => rfl) (fun ρ x_ s_ k_ => (nat_br (nat_bnd fun _ => (nat_bnd fun _ => (nat_bnd fun _ => (nat_bnd fun _ => (nat_bnd fun _ => (nat_bnd fun _ => (nat_bnd fun _ => (nat_bnd fun _ => (nat_bnd fun _ => nat_leaf))))))))) nat_leaf)) (fun ρ x_ t k => (by kernel_rfl)) (fun x_ s => by kernel_rfl))
theorem R_rleast.ok : CalleeOk Try.prog 53 R_rleast.ce := fn_ok (G := R_rleast.G) tab_ok mixed Try.func53 ⟨(fns_cons R_zodd.ok (fns_cons R_zhalf.ok (fns_cons R_RZero.ok fns_nil))), mfns_nil, tab_eqs_ok⟩ (m := 3) (by kernel_rfl) ⟨⟨⟨trivial, R_rleast.p0⟩, R_rleast.p1⟩, R_rleast.p2⟩ (by kernel_rfl) R_rleast.eq
abbrev lb64 : SD := .one (.aptr 3 0)
def R_RAdd.c10 {ρ : Type} (i : Int) (a_1 : List ((List ((Bool) × (List Int))) × (Int))) (b_1 : List ((List ((Bool) × (List Int))) × (Int))) (k_ : List ((List ((Bool) × (List Int))) × (Int)) → Option ρ) : Option ρ :=
  bnd (inR (List.length a_1) (0 : Int)) fun y =>
  bnd (okIf (decide ((0 : Ty.den (Ty.int IntKind.i64)) ≤ i) && decide (i < (↑(8 : Nat) : Int)))) fun y_1 =>
  bnd (idx a_1 (0 : Int)) fun y_2 =>
  bnd (idx (Prod.fst y_2) i) fun y_3 =>
  bnd (inR (List.length b_1) (0 : Int)) fun y_4 =>
  bnd (okIf (decide ((0 : Ty.den (Ty.int IntKind.i64)) ≤ i) && decide (i < (↑(8 : Nat) : Int)))) fun y_5 =>
  bnd (idx b_1 (0 : Int)) fun y_6 =>
  bnd (idx (Prod.fst y_6) i) fun y_7 =>
  bnd (W.R_ZAdd y_3 y_7) fun y_8 =>
  bnd (inR (List.length a_1) (0 : Int)) fun y_9 =>
  bnd (okIf (decide ((0 : Ty.den (Ty.int IntKind.i64)) ≤ i) && decide (i < (↑(8 : Nat) : Int)))) fun y_10 =>
  bnd (idx a_1 (0 : Int)) fun y_11 =>
  bnd (idx (Prod.fst y_11) i) fun y_12 =>
  k_ (List.set a_1 (0 : Nat) (List.set (Prod.fst y_11) (Int.toNat i) y_8, Prod.snd y_11))
def R_RAdd.c10s : Shape := ⟨[(0, lb54), (1, lb54), (2, lb58), (3, lb64), (4, lb59), (5, lb2)], [(2, lb60), (3, lb60), (4, lb60)]⟩
def R_RAdd.c10x0 : Shape := R_RAdd.c10s
def R_RAdd.c10r : Ck := Ck.of (T := List ((List ((Bool) × (List Int))) × (Int))) R_RAdd.c10s (fun ρ x_ k_ => R_RAdd.c10 x_.2.2.1 x_.2.2.2.1 x_.2.2.2.2.1 k_) (fun ρ x_ r_ k_ => k_ 0 (Shape.inj R_RAdd.c10x0 (x_.1, x_.2.1, x_.2.2.1, r_, x_.2.2.2.2)))
def R_RAdd.c100008 {ρ : Type} (i : Int) (a_1 : List ((List ((Bool) × (List Int))) × (Int))) (b_1 : List ((List ((Bool) × (List Int))) × (Int))) (k_ : ((Int) × (List ((List ((Bool) × (List Int))) × (Int)))) ⊕ ((Int) × (List ((List ((Bool) × (List Int))) × (Int)))) → Option ρ) : Option ρ :=
  br (decide (i < (8 : Int)))
   (bnd (W.R_RAdd.c10 i a_1 b_1 some) fun y =>
    k_ (.inl ((IntKind.wrap IntKind.i64 (i + (1 : Int))), y)))
   (k_ (.inr (i, a_1)))
def R_RAdd.c100008s : Shape := R_RAdd.c10s
def R_RAdd.c100008x0 : Shape := R_RAdd.c10s
def R_RAdd.c100008r : Ck := Ck.ofLoop (S := (Int) × (List ((List ((Bool) × (List Int))) × (Int)))) (T := (Int) × (List ((List ((Bool) × (List Int))) × (Int)))) R_RAdd.c100008s (fun x_ => (x_.2.2.1, x_.2.2.2.1)) (fun ρ x_ s_ k_ => R_RAdd.c100008 s_.1 s_.2 x_.2.2.2.2.1 k_) (fun ρ x_ r_ k_ => k_ 2 (Shape.inj R_RAdd.c100008x0 (x_.1, x_.2.1, r_.1, r_.2, x_.2.2.2.2)))
def R_RAdd (a : (List ((Bool) × (List Int))) × (Int)) (b : (List ((Bool) × (List Int))) × (Int)) : Option ((List ((Bool) × (List Int))) × (Int)) :=
  bnd (W.R_RZero a) fun y =>
  br y
   (some b)
   (bnd (W.R_RZero b) fun y_1 =>
    br y_1
     (some a)
     (bnd (W.R_rto a (Prod.snd b)) fun y_2 =>
      bnd (W.R_rto b (Prod.snd y_2)) fun y_3 =>
      bnd (iter (fun s ↦ W.R_RAdd.c100008 (Prod.fst s) (Prod.snd s) [y_3] some) ((0 : Int), [y_2])) fun y_4 =>
      bnd (idx (Prod.snd y_4) (0 : Int)) fun y_5 =>
      bnd (W.R_RZero y_5) fun y_6 =>
      br y_6
       (some (List.replicate (8 : Nat) (false, []), (0 : Int)))
       (bnd (idx (Prod.snd y_4) (0 : Int)) fun y_7 =>
        bnd (W.R_rleast y_7) fun y_8 =>
        some y_8)))
def R_RAdd.ce : Go.Ql.Callee := ⟨[(.st (.pair (.ar 8 (.st (.pair .bool (.sl (.int .i64))))) (.int .i64))), (.st (.pair (.ar 8 (.st (.pair .bool (.sl (.int .i64))))) (.int .i64)))], [(.st (.pair (.ar 8 (.st (.pair .bool (.sl (.int .i64))))) (.int .i64)))], fun x_ => R_RAdd x_.1 x_.2⟩
def R_RAdd.G : Env := ⟨41, tab, [(15, R_RZero.ce), (51, R_rto.ce), (52, R_ZAdd.ce), (53, R_rleast.ce)], [0, 1, 2, 3, 4, 5, 7, 10, 21, 37], [2, 3, 4, 38], [(10, [⟨[], [], [25, 26, 27, 28, 29, 30, 31, 32, 33, 34], []⟩, ⟨[], [], [24, 26, 29, 30, 31, 32, 34], []⟩, ⟨[], [], [24, 25, 29, 30, 31, 32, 34], []⟩, ⟨[2, 1], [], [24, 29, 30, 31, 32, 34], []⟩, ⟨[3, 2, 1], [], [24, 29, 30, 31, 32, 34], []⟩, ⟨[], [], [24, 25, 26, 27, 28, 30, 34], []⟩, ⟨[], [], [24, 25, 26, 27, 28, 29, 34], []⟩, ⟨[6, 5], [], [24, 25, 26, 27, 28, 34], []⟩, ⟨[7, 6, 5], [], [24, 25, 26, 27, 28, 34], []⟩, ⟨[4, 3, 2, 1, 8, 7, 6, 5], [], [24, 34], []⟩, ⟨[], [], [24, 25, 26, 27, 28, 29, 30, 31, 32, 33], []⟩, ⟨[10, 0, 1, 2, 3, 4, 5, 6, 7, 8, 9], [], [], []⟩, ⟨[11, 10, 0, 1, 2, 3, 4, 5, 6, 7, 8, 9], [2], [], []⟩])], [(100008, R_RAdd.c100008r), (10, R_RAdd.c10r)], [], tab_eqs⟩
theorem R_RAdd.eq (x_ : dens R_RAdd.ce.params) : den R_RAdd.G Try.f40 R_RAdd.ce.params R_RAdd.ce.res x_ = R_RAdd.ce.F x_ := by kernel_rfl
theorem R_RAdd.p0 : PcA R_RAdd.G Try.f40 0 :=
  loop_ok (s := R_RAdd.c100008r) (by kernel_rfl) (by kernel_rfl) (loops_of (sh := R_RAdd.c100008s) (I := fun x_ s_ => (x_.1, x_.2.1, s_.1, s_.2, x_.2.2.2.2)) (fun x_ => rfl) (fun ρ x_ s_ k_ => (nat_br (nat_bnd fun _ => nat_leaf) nat_leaf)) (fun ρ x_ t k => (by kernel_rfl)) (fun x_ s => by kernel_rfl))
theorem R_RAdd.p1 : PcA R_RAdd.G Try.f40 1 :=
  region_ok (s := R_RAdd.c10r) (by kernel_rfl) (by kernel_rfl) (sums_of (sh := R_RAdd.c10s) (fun ρ x_ k_ => (nat_bnd fun _ => (nat_bnd fun _ => (nat_bnd fun _ => (nat_bnd fun _ => (nat_bnd fun _ => (nat_bnd fun _ => (nat_bnd fun _ => (nat_bnd fun _ => (nat_bnd fun _ => (nat_bnd fun _ => (nat_bnd fun _ => (nat_bnd fun _ => (nat_bnd fun _ => nat_leaf)))))))))))))) (fun ρ x_ t k => (by kernel_rfl)) (fun x_ => by kernel_rfl))
theorem R_RAdd.ok : CalleeOk Try.prog 40 R_RAdd.ce := fn_ok (G := R_RAdd.G) tab_ok mixed Try.func40 ⟨(fns_cons R_RZero.ok (fns_cons R_rto.ok (fns_cons R_ZAdd.ok (fns_cons R_rleast.ok fns_nil)))), mfns_nil, tab_eqs_ok⟩ (m := 2) (by kernel_rfl) ⟨⟨trivial, R_RAdd.p0⟩, R_RAdd.p1⟩ (by kernel_rfl) R_RAdd.eq
def R_ZNeg (a : (Bool) × (List Int)) : Option ((Bool) × (List Int)) :=
  bnd (W.R_zmade (!Prod.fst a) (Prod.snd a)) fun y =>
  some (Prod.fst y, Prod.snd y)
def R_ZNeg.ce : Go.Ql.Callee := ⟨[(.st (.pair .bool (.sl (.int .i64))))], [(.st (.pair .bool (.sl (.int .i64))))], fun x_ => R_ZNeg x_⟩
def R_ZNeg.G : Env := ⟨9, tab, [(50, R_zmade.ce)], [0, 1, 2], [], [], [], [], tab_eqs⟩
theorem R_ZNeg.eq (x_ : dens R_ZNeg.ce.params) : den R_ZNeg.G Try.f54 R_ZNeg.ce.params R_ZNeg.ce.res x_ = R_ZNeg.ce.F x_ := by kernel_rfl
theorem R_ZNeg.ok : CalleeOk Try.prog 54 R_ZNeg.ce := fn_ok (G := R_ZNeg.G) tab_ok mixed Try.func54 ⟨(fns_cons R_zmade.ok fns_nil), mfns_nil, tab_eqs_ok⟩ (m := 0) (by kernel_rfl) trivial (by kernel_rfl) R_ZNeg.eq
def R_RTurn.c208197 {ρ : Type} (t1 : Int) (k_ : Int → Option ρ) : Option ρ :=
  br (decide (t1 < (0 : Int)))
   (k_ (IntKind.wrap IntKind.i64 (t1 + (16 : Int))))
   (k_ t1)
def R_RTurn.c208197s : Shape := ⟨[(0, lb54), (1, lb2), (2, lb55), (4, lb59)], [(4, lb60)]⟩
def R_RTurn.c208197x0 : Shape := R_RTurn.c208197s
def R_RTurn.c208197r : Ck := Ck.of (T := Int) R_RTurn.c208197s (fun ρ x_ k_ => R_RTurn.c208197 x_.2.1 k_) (fun ρ x_ r_ k_ => k_ 0 (Shape.inj R_RTurn.c208197x0 (x_.1, r_, x_.2.2)))
def R_RTurn.c236872 {ρ : Type} (t1 : Int) (a_1 : (List ((Bool) × (List Int))) × (Int)) (i : Int) (out : List ((List ((Bool) × (List Int))) × (Int))) (k_ : List ((List ((Bool) × (List Int))) × (Int)) → Option ρ) : Option ρ :=
  br (decide (Int.tmod (IntKind.wrap IntKind.i64 (i + t1)) (16 : Int) < (8 : Int)))
   (bnd (idx (Prod.fst a_1) i) fun y =>
    bnd (inR (List.length out) (0 : Int)) fun y_1 =>
    bnd (okIf (decide ((0 : Ty.den (Ty.int IntKind.i64)) ≤ Int.tmod (IntKind.wrap IntKind.i64 (i + t1)) (16 : Int)) && decide (Int.tmod (IntKind.wrap IntKind.i64 (i + t1)) (16 : Int) < (↑(8 : Nat) : Int)))) fun y_2 =>
    bnd (idx out (0 : Int)) fun y_3 =>
    bnd (idx (Prod.fst y_3) (Int.tmod (IntKind.wrap IntKind.i64 (i + t1)) (16 : Int))) fun y_4 =>
    k_ (List.set out (0 : Nat) (List.set (Prod.fst y_3) (Int.toNat (Int.tmod (IntKind.wrap IntKind.i64 (i + t1)) (16 : Int))) y, Prod.snd y_3)))
   (bnd (idx (Prod.fst a_1) i) fun y_5 =>
    bnd (W.R_ZNeg y_5) fun y_6 =>
    bnd (inR (List.length out) (0 : Int)) fun y_7 =>
    bnd (okIf (decide ((0 : Ty.den (Ty.int IntKind.i64)) ≤ IntKind.wrap IntKind.i64 (Int.tmod (IntKind.wrap IntKind.i64 (i + t1)) (16 : Int) - (8 : Int))) && decide (IntKind.wrap IntKind.i64 (Int.tmod (IntKind.wrap IntKind.i64 (i + t1)) (16 : Int) - (8 : Int)) < (↑(8 : Nat) : Int)))) fun y_8 =>
    bnd (idx out (0 : Int)) fun y_9 =>
    bnd (idx (Prod.fst y_9) (IntKind.wrap IntKind.i64 (Int.tmod (IntKind.wrap IntKind.i64 (i + t1)) (16 : Int) - (8 : Int)))) fun y_10 =>
    k_ (List.set out (0 : Nat) (List.set (Prod.fst y_9) (Int.toNat (IntKind.wrap IntKind.i64 (Int.tmod (IntKind.wrap IntKind.i64 (i + t1)) (16 : Int) - (8 : Int)))) y_6, Prod.snd y_9)))
def R_RTurn.c236872s : Shape := ⟨[(0, lb54), (1, lb2), (2, lb55), (4, lb59), (5, lb15), (6, lb2)], [(4, lb60), (5, lb60)]⟩
def R_RTurn.c236872x0 : Shape := R_RTurn.c236872s
def R_RTurn.c236872r : Ck := Ck.of (T := List ((List ((Bool) × (List Int))) × (Int))) R_RTurn.c236872s (fun ρ x_ k_ => R_RTurn.c236872 x_.2.1 x_.2.2.1 x_.2.2.2.1 x_.2.2.2.2.2.1 k_) (fun ρ x_ r_ k_ => k_ 0 (Shape.inj R_RTurn.c236872x0 (x_.1, x_.2.1, x_.2.2.1, x_.2.2.2.1, x_.2.2.2.2.1, r_, ())))
def R_RTurn.c100007 {ρ : Type} (t1 : Int) (a_1 : (List ((Bool) × (List Int))) × (Int)) (i : Int) (out : List ((List ((Bool) × (List Int))) × (Int))) (k_ : ((Int) × (List ((List ((Bool) × (List Int))) × (Int)))) ⊕ ((Int) × (List ((List ((Bool) × (List Int))) × (Int)))) → Option ρ) : Option ρ :=
  br (decide (i < (8 : Int)))
   (bnd (W.R_RTurn.c236872 t1 a_1 i out some) fun y =>
    k_ (.inl ((IntKind.wrap IntKind.i64 (i + (1 : Int))), y)))
   (k_ (.inr (i, out)))
def R_RTurn.c100007s : Shape := R_RTurn.c236872s
def R_RTurn.c100007x0 : Shape := R_RTurn.c236872s
def R_RTurn.c100007r : Ck := Ck.ofLoop (S := (Int) × (List ((List ((Bool) × (List Int))) × (Int)))) (T := (Int) × (List ((List ((Bool) × (List Int))) × (Int)))) R_RTurn.c100007s (fun x_ => (x_.2.2.2.1, x_.2.2.2.2.2.1)) (fun ρ x_ s_ k_ => R_RTurn.c100007 x_.2.1 x_.2.2.1 s_.1 s_.2 k_) (fun ρ x_ r_ k_ => k_ 2 (Shape.inj R_RTurn.c100007x0 (x_.1, x_.2.1, x_.2.2.1, r_.1, x_.2.2.2.2.1, r_.2, ())))
def R_RTurn (a : (List ((Bool) × (List Int))) × (Int)) (t1 : Int) : Option ((List ((Bool) × (List Int))) × (Int)) :=
  bnd (W.R_RTurn.c208197 (Int.tmod t1 (16 : Int)) some) fun y =>
  bnd (iter (fun s ↦ W.R_RTurn.c100007 y a (Prod.fst s) (Prod.snd s) some) ((0 : Int), [(List.replicate (8 : Nat) (false, []), Prod.snd a)])) fun y_1 =>
  bnd (idx (Prod.snd y_1) (0 : Int)) fun y_2 =>
  some y_2
def R_RTurn.ce : Go.Ql.Callee := ⟨[(.st (.pair (.ar 8 (.st (.pair .bool (.sl (.int .i64))))) (.int .i64))), (.int .i64)], [(.st (.pair (.ar 8 (.st (.pair .bool (.sl (.int .i64))))) (.int .i64)))], fun x_ => R_RTurn x_.1 x_.2⟩
def R_RTurn.G : Env := ⟨45, tab, [(54, R_ZNeg.ce)], [0, 1, 2, 4, 5, 6, 7, 11, 19, 27], [4, 5, 14, 8000002], [], [(100007, R_RTurn.c100007r), (236872, R_RTurn.c236872r), (208197, R_RTurn.c208197r)], [], tab_eqs⟩
theorem R_RTurn.eq (x_ : dens R_RTurn.ce.params) : den R_RTurn.G Try.f42 R_RTurn.ce.params R_RTurn.ce.res x_ = R_RTurn.ce.F x_ := by kernel_rfl
theorem R_RTurn.p0 : PcA R_RTurn.G Try.f42 0 :=
  join_ok (s := R_RTurn.c208197r) (by kernel_rfl) (by kernel_rfl) (sums_of (sh := R_RTurn.c208197s) (fun ρ x_ k_ => (nat_br nat_leaf nat_leaf)) (fun ρ x_ t k => (by kernel_rfl)) (fun x_ => by kernel_rfl))
theorem R_RTurn.p1 : PcA R_RTurn.G Try.f42 1 :=
  loop_ok (s := R_RTurn.c100007r) (by kernel_rfl) (by kernel_rfl) (loops_of (sh := R_RTurn.c100007s) (I := fun x_ s_ => (x_.1, x_.2.1, x_.2.2.1, s_.1, x_.2.2.2.2.1, s_.2, ())) (fun x_ => rfl) (fun ρ x_ s_ k_ => (nat_br (nat_bnd fun _ => nat_leaf) nat_leaf)) (fun ρ x_ t k => (by kernel_rfl)) (fun x_ s => by kernel_rfl))
theorem R_RTurn.p2 : PcA R_RTurn.G Try.f42 2 :=
  join_ok (s := R_RTurn.c236872r) (by kernel_rfl) (by kernel_rfl) (sums_of (sh := R_RTurn.c236872s) (fun ρ x_ k_ => (nat_br (nat_bnd fun _ => (nat_bnd fun _ => (nat_bnd fun _ => (nat_bnd fun _ => (nat_bnd fun _ => nat_leaf))))) (nat_bnd fun _ => (nat_bnd fun _ => (nat_bnd fun _ => (nat_bnd fun _ => (nat_bnd fun _ => (nat_bnd fun _ => nat_leaf)))))))) (fun ρ x_ t k => (by kernel_rfl)) (fun x_ => by kernel_rfl))
theorem R_RTurn.ok : CalleeOk Try.prog 42 R_RTurn.ce := fn_ok (G := R_RTurn.G) tab_ok mixed Try.func42 ⟨(fns_cons R_ZNeg.ok fns_nil), mfns_nil, tab_eqs_ok⟩ (m := 3) (by kernel_rfl) ⟨⟨⟨trivial, R_RTurn.p0⟩, R_RTurn.p1⟩, R_RTurn.p2⟩ (by kernel_rfl) R_RTurn.eq
def R_RNeg.c100002 {ρ : Type} (i : Int) (a_1 : List ((List ((Bool) × (List Int))) × (Int))) (k_ : ((Int) × (List ((List ((Bool) × (List Int))) × (Int)))) ⊕ ((Int) × (List ((List ((Bool) × (List Int))) × (Int)))) → Option ρ) : Option ρ :=
  br (decide (i < (8 : Int)))
   (bnd (inR (List.length a_1) (0 : Int)) fun y =>
    bnd (okIf (decide ((0 : Ty.den (Ty.int IntKind.i64)) ≤ i) && decide (i < (↑(8 : Nat) : Int)))) fun y_1 =>
    bnd (idx a_1 (0 : Int)) fun y_2 =>
    bnd (idx (Prod.fst y_2) i) fun y_3 =>
    bnd (W.R_ZNeg y_3) fun y_4 =>
    bnd (inR (List.length a_1) (0 : Int)) fun y_5 =>
    bnd (okIf (decide ((0 : Ty.den (Ty.int IntKind.i64)) ≤ i) && decide (i < (↑(8 : Nat) : Int)))) fun y_6 =>
    bnd (idx a_1 (0 : Int)) fun y_7 =>
    bnd (idx (Prod.fst y_7) i) fun y_8 =>
    k_ (.inl ((IntKind.wrap IntKind.i64 (i + (1 : Int))), (List.set a_1 (0 : Nat) (List.set (Prod.fst y_7) (Int.toNat i) y_4, Prod.snd y_7)))))
   (k_ (.inr (i, a_1)))
def R_RNeg.c100002s : Shape := ⟨[(0, lb54), (1, lb63), (2, lb58), (3, lb2)], [(1, lb60), (2, lb60)]⟩
def R_RNeg.c100002x0 : Shape := R_RNeg.c100002s
def R_RNeg.c100002r : Ck := Ck.ofLoop (S := (Int) × (List ((List ((Bool) × (List Int))) × (Int)))) (T := (Int) × (List ((List ((Bool) × (List Int))) × (Int)))) R_RNeg.c100002s (fun x_ => (x_.2.1, x_.2.2.1)) (fun ρ x_ s_ k_ => R_RNeg.c100002 s_.1 s_.2 k_) (fun ρ x_ r_ k_ => k_ 2 (Shape.inj R_RNeg.c100002x0 (x_.1, r_.1, r_.2, x_.2.2.2)))
def R_RNeg (a : (List ((Bool) × (List Int))) × (Int)) : Option ((List ((Bool) × (List Int))) × (Int)) :=
  bnd (iter (fun s ↦ W.R_RNeg.c100002 (Prod.fst s) (Prod.snd s) some) ((0 : Int), [a])) fun y =>
  bnd (idx (Prod.snd y) (0 : Int)) fun y_1 =>
  some y_1
def R_RNeg.ce : Go.Ql.Callee := ⟨[(.st (.pair (.ar 8 (.st (.pair .bool (.sl (.int .i64))))) (.int .i64)))], [(.st (.pair (.ar 8 (.st (.pair .bool (.sl (.int .i64))))) (.int .i64)))], fun x_ => R_RNeg x_⟩
def R_RNeg.G : Env := ⟨17, tab, [(54, R_ZNeg.ce)], [0, 1, 2, 3, 5], [1, 2], [], [(100002, R_RNeg.c100002r)], [], tab_eqs⟩
theorem R_RNeg.eq (x_ : dens R_RNeg.ce.params) : den R_RNeg.G Try.f44 R_RNeg.ce.params R_RNeg.ce.res x_ = R_RNeg.ce.F x_ := by kernel_rfl
theorem R_RNeg.p0 : PcA R_RNeg.G Try.f44 0 :=
  loop_ok (s := R_RNeg.c100002r) (by kernel_rfl) (by kernel_rfl) (loops_of (sh := R_RNeg.c100002s) (I := fun x_ s_ => (x_.1, s_.1, s_.2, x_.2.2.2)) (fun x_ => rfl) (fun ρ x_ s_ k_ => (nat_br (nat_bnd fun _ => (nat_bnd fun _ => (nat_bnd fun _ => (nat_bnd fun _ => (nat_bnd fun _ => (nat_bnd fun _ => (nat_bnd fun _ => (nat_bnd fun _ => (nat_bnd fun _ => nat_leaf))))))))) nat_leaf)) (fun ρ x_ t k => (by kernel_rfl)) (fun x_ s => by kernel_rfl))
theorem R_RNeg.ok : CalleeOk Try.prog 44 R_RNeg.ce := fn_ok (G := R_RNeg.G) tab_ok mixed Try.func44 ⟨(fns_cons R_ZNeg.ok fns_nil), mfns_nil, tab_eqs_ok⟩ (m := 1) (by kernel_rfl) ⟨trivial, R_RNeg.p0⟩ (by kernel_rfl) R_RNeg.eq
def R_RSub.c1 {ρ : Type} (a_1 : (List ((Bool) × (List Int))) × (Int)) (b_1 : (List ((Bool) × (List Int))) × (Int)) (t4 : List ((List ((Bool) × (List Int))) × (Int))) (k_ : List ((List ((Bool) × (List Int))) × (Int)) → Option ρ) : Option ρ :=
  bnd (W.R_RNeg b_1) fun y =>
  bnd (W.R_RAdd a_1 y) fun y_1 =>
  bnd (idx t4 (0 : Int)) fun y_2 =>
  k_ (List.set t4 (0 : Nat) y_1)
def R_RSub.c1s : Shape := ⟨[(0, lb54), (1, lb54), (2, lb55), (3, lb55), (4, lb59)], [(4, lb60)]⟩
def R_RSub.c1x0 : Shape := R_RSub.c1s
def R_RSub.c1r : Ck := Ck.of (T := List ((List ((Bool) × (List Int))) × (Int))) R_RSub.c1s (fun ρ x_ k_ => R_RSub.c1 x_.2.2.1 x_.2.2.2.1 x_.2.2.2.2.1 k_) (fun ρ x_ r_ k_ => k_ 0 (Shape.inj R_RSub.c1x0 (x_.1, x_.2.1, x_.2.2.1, x_.2.2.2.1, r_, ())))
def R_RSub (a : (List ((Bool) × (List Int))) × (Int)) (b : (List ((Bool) × (List Int))) × (Int)) : Option ((List ((Bool) × (List Int))) × (Int)) :=
  bnd (W.R_RSub.c1 a b [(List.replicate (8 : Nat) (false, []), (0 : Int))] some) fun y =>
  bnd (idx y (0 : Int)) fun y_1 =>
  some y_1
def R_RSub.ce : Go.Ql.Callee := ⟨[(.st (.pair (.ar 8 (.st (.pair .bool (.sl (.int .i64))))) (.int .i64))), (.st (.pair (.ar 8 (.st (.pair .bool (.sl (.int .i64))))) (.int .i64)))], [(.st (.pair (.ar 8 (.st (.pair .bool (.sl (.int .i64))))) (.int .i64)))], fun x_ => R_RSub x_.1 x_.2⟩
def R_RSub.G : Env := ⟨9, tab, [(44, R_RNeg.ce), (40, R_RAdd.ce)], [0, 1, 2, 3, 4], [4, 8000002, 8000003], [(1, [⟨[], [], [6, 7], []⟩, ⟨[], [], [5], []⟩, ⟨[1], [], [5], []⟩, ⟨[0, 2, 1], [], [], []⟩, ⟨[3, 0, 2, 1], [4], [], []⟩])], [(1, R_RSub.c1r)], [], tab_eqs⟩
theorem R_RSub.eq (x_ : dens R_RSub.ce.params) : den R_RSub.G Try.f27 R_RSub.ce.params R_RSub.ce.res x_ = R_RSub.ce.F x_ := by kernel_rfl
theorem R_RSub.p0 : PcA R_RSub.G Try.f27 0 :=
  region_ok (s := R_RSub.c1r) (by kernel_rfl) (by kernel_rfl) (sums_of (sh := R_RSub.c1s) (fun ρ x_ k_ => (nat_bnd fun _ => (nat_bnd fun _ => (nat_bnd fun _ => nat_leaf)))) (fun ρ x_ t k => (by kernel_rfl)) (fun x_ => by kernel_rfl))
theorem R_RSub.ok : CalleeOk Try.prog 27 R_RSub.ce := fn_ok (G := R_RSub.G) tab_ok mixed Try.func27 ⟨(fns_cons R_RNeg.ok (fns_cons R_RAdd.ok fns_nil)), mfns_nil, tab_eqs_ok⟩ (m := 1) (by kernel_rfl) ⟨trivial, R_RSub.p0⟩ (by kernel_rfl) R_RSub.eq
def R_RHalf.c1 {ρ : Type} (a_1 : (List ((Bool) × (List Int))) × (Int)) (k_ : List ((List ((Bool) × (List Int))) × (Int)) → Option ρ) : Option ρ :=
  bnd (W.R_RTurn a_1 (2 : Int)) fun y =>
  bnd (W.R_RTurn a_1 (6 : Int)) fun y_1 =>
  bnd (W.R_RSub y y_1) fun y_2 =>
  k_ [y_2]
def R_RHalf.c1s : Shape := ⟨[(0, lb54), (1, lb55), (2, lb58)], [(2, lb60)]⟩
def R_RHalf.c1x0 : Shape := ⟨[(0, lb54), (1, lb55), (2, lb58), (3, lb64)], [(2, lb60), (3, lb60)]⟩
def R_RHalf.c1r : Ck := Ck.of (T := List ((List ((Bool) × (List Int))) × (Int))) R_RHalf.c1s (fun ρ x_ k_ => R_RHalf.c1 x_.2.1 k_) (fun ρ x_ r_ k_ => k_ 0 (Shape.inj R_RHalf.c1x0 (x_.1, x_.2.1, x_.2.2.1, r_, ())))
def R_RHalf (a : (List ((Bool) × (List Int))) × (Int)) : Option ((List ((Bool) × (List Int))) × (Int)) :=
  bnd (W.R_RHalf.c1 a some) fun y =>
  bnd (idx y (0 : Int)) fun y_1 =>
  bnd (W.R_RZero y_1) fun y_2 =>
  br y_2
   (bnd (idx y (0 : Int)) fun y_3 =>
    some y_3)
   (bnd (inR (List.length y) (0 : Int)) fun y_4 =>
    bnd (idx y (0 : Int)) fun y_5 =>
    bnd (inR (List.length y) (0 : Int)) fun y_6 =>
    bnd (idx y (0 : Int)) fun y_7 =>
    bnd (idx (List.set y (0 : Nat) (Prod.fst y_7, IntKind.wrap IntKind.i64 (Prod.snd y_5 + (1 : Int)))) (0 : Int)) fun y_8 =>
    bnd (W.R_rleast y_8) fun y_9 =>
    some y_9)
def R_RHalf.ce : Go.Ql.Callee := ⟨[(.st (.pair (.ar 8 (.st (.pair .bool (.sl (.int .i64))))) (.int .i64)))], [(.st (.pair (.ar 8 (.st (.pair .bool (.sl (.int .i64))))) (.int .i64)))], fun x_ => R_RHalf x_⟩
def R_RHalf.G : Env := ⟨18, tab, [(42, R_RTurn.ce), (27, R_RSub.ce), (15, R_RZero.ce), (53, R_rleast.ce)], [0, 1, 2, 3, 10], [2, 3, 8000001], [(1, [⟨[], [], [6, 3], [3]⟩, ⟨[0], [], [6, 3], [3]⟩, ⟨[], [], [4, 5, 3], [3]⟩, ⟨[2, 1, 0], [], [3], [3]⟩, ⟨[1, 0, 3, 2], [], [3], [3]⟩, ⟨[], [3], [4, 5, 6, 7, 8], []⟩, ⟨[5, 4, 1, 0, 3, 2], [3], [], []⟩])], [(1, R_RHalf.c1r)], [], tab_eqs⟩
theorem R_RHalf.eq (x_ : dens R_RHalf.ce.params) : den R_RHalf.G Try.f43 R_RHalf.ce.params R_RHalf.ce.res x_ = R_RHalf.ce.F x_ := by kernel_rfl
theorem R_RHalf.p0 : PcA R_RHalf.G Try.f43 0 :=
  region_ok (s := R_RHalf.c1r) (by kernel_rfl) (by kernel_rfl) (sums_of (sh := R_RHalf.c1s) (fun ρ x_ k_ => (nat_bnd fun _ => (nat_bnd fun _ => (nat_bnd fun _ => nat_leaf)))) (fun ρ x_ t k => (by kernel_rfl)) (fun x_ => by kernel_rfl))
theorem R_RHalf.ok : CalleeOk Try.prog 43 R_RHalf.ce := fn_ok (G := R_RHalf.G) tab_ok mixed Try.func43 ⟨(fns_cons R_RTurn.ok (fns_cons R_RSub.ok (fns_cons R_RZero.ok (fns_cons R_rleast.ok fns_nil)))), mfns_nil, tab_eqs_ok⟩ (m := 1) (by kernel_rfl) ⟨trivial, R_RHalf.p0⟩ (by kernel_rfl) R_RHalf.eq
abbrev lb65 : SD := .one (.val (.sl (.st (.pair (.ar 8 (.st (.pair .bool (.sl (.int .i64))))) (.int .i64)))))
abbrev lb66 : SD := .one (.own 11 0)
abbrev lb67 : SD := .one (.aptr 8 0)
def R_Gate.c7 {ρ : Type} (v : List ((List ((Bool) × (List Int))) × (Int))) (x : Int) (t11 : List ((List ((Bool) × (List Int))) × (Int))) (k_ : List ((List ((Bool) × (List Int))) × (Int)) → Option ρ) : Option ρ :=
  bnd (inR (List.length t11) x) fun y =>
  bnd (idx t11 x) fun y_1 =>
  bnd (idx v x) fun y_2 =>
  bnd (W.R_RAdd y_1 y_2) fun y_3 =>
  bnd (inR (List.length t11) x) fun y_4 =>
  bnd (idx t11 x) fun y_5 =>
  k_ (List.set t11 (Int.toNat x) y_3)
def R_Gate.c7s : Shape := ⟨[(0, lb65), (1, lb12), (3, lb7), (4, lb65), (5, lb66), (6, lb2)], [(3, lb14), (11, lb60)]⟩
def R_Gate.c7x0 : Shape := R_Gate.c7s
def R_Gate.c7r : Ck := Ck.of (T := List ((List ((Bool) × (List Int))) × (Int))) R_Gate.c7s (fun ρ x_ k_ => R_Gate.c7 x_.1 x_.2.2.2.1 x_.2.2.2.2.2.2.2.2.2.2.1 k_) (fun ρ x_ r_ k_ => k_ 0 (Shape.inj R_Gate.c7x0 (x_.1, x_.2.1, x_.2.2.1, x_.2.2.2.1, x_.2.2.2.2.1, x_.2.2.2.2.2.1, x_.2.2.2.2.2.2.1, x_.2.2.2.2.2.2.2.1, x_.2.2.2.2.2.2.2.2.1, x_.2.2.2.2.2.2.2.2.2.1, r_, ())))
def R_Gate.c9 {ρ : Type} (x : Int) (o0 : Int) (o3 : Int) (k_ : Bool → Option ρ) : Option ρ :=
  br (o0 == (1 : Int))
   (k_ true)
   (br (o0 == (4 : Int))
     (bnd (W.R_bitOf x o3) fun y =>
      k_ (y == (1 : Int)))
     (k_ false))
def R_Gate.c9s : Shape := ⟨[(0, lb65), (1, lb12), (3, lb7), (4, lb65), (5, lb66), (6, lb2), (7, lb2)], [(3, lb14), (11, lb60)]⟩
def R_Gate.c9x0 : Shape := ⟨[(0, lb65), (1, lb12), (3, lb7), (4, lb65), (5, lb66), (6, lb2), (7, lb2), (59, lb11)], [(3, lb14), (11, lb60)]⟩
def R_Gate.c9r : Ck := Ck.of (T := Bool) R_Gate.c9s (fun ρ x_ k_ => R_Gate.c9 x_.2.2.2.1 x_.2.2.2.2.2.1 x_.2.2.2.2.2.2.2.2.1 k_) (fun ρ x_ r_ k_ => k_ 0 (Shape.inj R_Gate.c9x0 (x_.1, x_.2.1, x_.2.2.1, x_.2.2.2.1, x_.2.2.2.2.1, r_, x_.2.2.2.2.2)))
def R_Gate.c10 {ρ : Type} (v : List ((List ((Bool) × (List Int))) × (Int))) (x : Int) (o1 : Int) (t11 : List ((List ((Bool) × (List Int))) × (Int))) (k_ : List ((List ((Bool) × (List Int))) × (Int)) → Option ρ) : Option ρ :=
  bnd (idx v x) fun y =>
  bnd (W.R_RTurn y o1) fun y_1 =>
  bnd (inR (List.length t11) x) fun y_2 =>
  bnd (idx t11 x) fun y_3 =>
  k_ (List.set t11 (Int.toNat x) y_1)
def R_Gate.c10s : Shape := R_Gate.c9s
def R_Gate.c10x0 : Shape := R_Gate.c9s
def R_Gate.c10r : Ck := Ck.of (T := List ((List ((Bool) × (List Int))) × (Int))) R_Gate.c10s (fun ρ x_ k_ => R_Gate.c10 x_.1 x_.2.2.2.1 x_.2.2.2.2.2.2.1 x_.2.2.2.2.2.2.2.2.2.2.2.1 k_) (fun ρ x_ r_ k_ => k_ 0 (Shape.inj R_Gate.c10x0 (x_.1, x_.2.1, x_.2.2.1, x_.2.2.2.1, x_.2.2.2.2.1, x_.2.2.2.2.2.1, x_.2.2.2.2.2.2.1, x_.2.2.2.2.2.2.2.1, x_.2.2.2.2.2.2.2.2.1, x_.2.2.2.2.2.2.2.2.2.1, x_.2.2.2.2.2.2.2.2.2.2.1, r_, ())))
def R_Gate.c16 {ρ : Type} (other : Int) (half : List ((List ((Bool) × (List Int))) × (Int))) (t11 : List ((List ((Bool) × (List Int))) × (Int))) (k_ : List ((List ((Bool) × (List Int))) × (Int)) → Option ρ) : Option ρ :=
  bnd (inR (List.length t11) other) fun y =>
  bnd (idx t11 other) fun y_1 =>
  bnd (idx half (0 : Int)) fun y_2 =>
  bnd (W.R_RAdd y_1 y_2) fun y_3 =>
  bnd (inR (List.length t11) other) fun y_4 =>
  bnd (idx t11 other) fun y_5 =>
  k_ (List.set t11 (Int.toNat other) y_3)
def R_Gate.c16s : Shape := ⟨[(0, lb65), (1, lb12), (3, lb7), (4, lb65), (5, lb66), (6, lb2), (7, lb2), (8, lb67)], [(3, lb14), (8, lb60), (11, lb60)]⟩
def R_Gate.c16x0 : Shape := R_Gate.c16s
def R_Gate.c16r : Ck := Ck.of (T := List ((List ((Bool) × (List Int))) × (Int))) R_Gate.c16s (fun ρ x_ k_ => R_Gate.c16 x_.2.2.2.2.1 x_.2.2.2.2.2.2.2.2.2.2.2.1 x_.2.2.2.2.2.2.2.2.2.2.2.2.1 k_) (fun ρ x_ r_ k_ => k_ 0 (Shape.inj R_Gate.c16x0 (x_.1, x_.2.1, x_.2.2.1, x_.2.2.2.1, x_.2.2.2.2.1, x_.2.2.2.2.2.1, x_.2.2.2.2.2.2.1, x_.2.2.2.2.2.2.2.1, x_.2.2.2.2.2.2.2.2.1, x_.2.2.2.2.2.2.2.2.2.1, x_.2.2.2.2.2.2.2.2.2.2.1, x_.2.2.2.2.2.2.2.2.2.2.2.1, r_, ())))
def R_Gate.c269637 {ρ : Type} (x : Int) (o3 : Int) (half : List ((List ((Bool) × (List Int))) × (Int))) (k_ : List ((List ((Bool) × (List Int))) × (Int)) → Option ρ) : Option ρ :=
  bnd (W.R_bitOf x o3) fun y =>
  br (y == (1 : Int))
   (bnd (idx half (0 : Int)) fun y_1 =>
    bnd (W.R_RNeg y_1) fun y_2 =>
    bnd (idx half (0 : Int)) fun y_3 =>
    k_ (List.set half (0 : Nat) y_2))
   (k_ half)
def R_Gate.c269637s : Shape := R_Gate.c16s
def R_Gate.c269637x0 : Shape := R_Gate.c16s
def R_Gate.c269637r : Ck := Ck.of (T := List ((List ((Bool) × (List Int))) × (Int))) R_Gate.c269637s (fun ρ x_ k_ => R_Gate.c269637 x_.2.2.2.1 x_.2.2.2.2.2.2.2.2.1 x_.2.2.2.2.2.2.2.2.2.2.2.1 k_) (fun ρ x_ r_ k_ => k_ 0 (Shape.inj R_Gate.c269637x0 (x_.1, x_.2.1, x_.2.2.1, x_.2.2.2.1, x_.2.2.2.2.1, x_.2.2.2.2.2.1, x_.2.2.2.2.2.2.1, x_.2.2.2.2.2.2.2.1, x_.2.2.2.2.2.2.2.2.1, x_.2.2.2.2.2.2.2.2.2.1, x_.2.2.2.2.2.2.2.2.2.2.1, r_, x_.2.2.2.2.2.2.2.2.2.2.2.2)))
def R_Gate.c19 {ρ : Type} (x : Int) (half : List ((List ((Bool) × (List Int))) × (Int))) (t11 : List ((List ((Bool) × (List Int))) × (Int))) (k_ : List ((List ((Bool) × (List Int))) × (Int)) → Option ρ) : Option ρ :=
  bnd (inR (List.length t11) x) fun y =>
  bnd (idx t11 x) fun y_1 =>
  bnd (idx half (0 : Int)) fun y_2 =>
  bnd (W.R_RAdd y_1 y_2) fun y_3 =>
  bnd (inR (List.length t11) x) fun y_4 =>
  bnd (idx t11 x) fun y_5 =>
  k_ (List.set t11 (Int.toNat x) y_3)
def R_Gate.c19s : Shape := R_Gate.c16s
def R_Gate.c19x0 : Shape := R_Gate.c16s
def R_Gate.c19r : Ck := Ck.of (T := List ((List ((Bool) × (List Int))) × (Int))) R_Gate.c19s (fun ρ x_ k_ => R_Gate.c19 x_.2.2.2.1 x_.2.2.2.2.2.2.2.2.2.2.2.1 x_.2.2.2.2.2.2.2.2.2.2.2.2.1 k_) (fun ρ x_ r_ k_ => k_ 0 (Shape.inj R_Gate.c19x0 (x_.1, x_.2.1, x_.2.2.1, x_.2.2.2.1, x_.2.2.2.2.1, x_.2.2.2.2.2.1, x_.2.2.2.2.2.2.1, x_.2.2.2.2.2.2.2.1, x_.2.2.2.2.2.2.2.2.1, x_.2.2.2.2.2.2.2.2.2.1, x_.2.2.2.2.2.2.2.2.2.2.1, x_.2.2.2.2.2.2.2.2.2.2.2.1, r_, ())))
def R_Gate.c220520 {ρ : Type} (v : List ((List ((Bool) × (List Int))) × (Int))) (x : Int) (o0 : Int) (o1 : Int) (o2 : List (Int)) (o3 : Int) (t11 : List ((List ((Bool) × (List Int))) × (Int))) (k_ : List ((List ((Bool) × (List Int))) × (Int)) → Option ρ) : Option ρ :=
  bnd (idx v x) fun y =>
  bnd (W.R_RZero y) fun y_1 =>
  br y_1
   (k_ t11)
   (bnd (W.R_allOne x o2) fun y_2 =>
    br (!y_2)
     (bnd (W.R_Gate.c7 v x t11 some) fun y_3 =>
      k_ y_3)
     (bnd (okIf (decide ((0 : Int) ≤ o3))) fun y_4 =>
      bnd (W.R_Gate.c9 x o0 o3 some) fun y_5 =>
      br y_5
       (bnd (W.R_Gate.c10 v x o1 t11 some) fun y_6 =>
        k_ y_6)
       (br (o0 == (4 : Int))
         (bnd (idx v x) fun y_7 =>
          bnd (inR (List.length t11) x) fun y_8 =>
          bnd (idx t11 x) fun y_9 =>
          k_ (List.set t11 (Int.toNat x) y_7))
         (br (o0 == (2 : Int))
           (bnd (idx v x) fun y_10 =>
            bnd (inR (List.length t11) (ibits BinOp.xor IntKind.i64 x (IntKind.wrap IntKind.i64 ((1 : Int) * (2 : Int) ^ Min.min (Int.toNat o3) (64 : Nat))))) fun y_11 =>
            bnd (idx t11 (ibits BinOp.xor IntKind.i64 x (IntKind.wrap IntKind.i64 ((1 : Int) * (2 : Int) ^ Min.min (Int.toNat o3) (64 : Nat))))) fun y_12 =>
            k_ (List.set t11 (Int.toNat (ibits BinOp.xor IntKind.i64 x (IntKind.wrap IntKind.i64 ((1 : Int) * (2 : Int) ^ Min.min (Int.toNat o3) (64 : Nat))))) y_10))
           (bnd (idx v x) fun y_13 =>
            bnd (W.R_RHalf y_13) fun y_14 =>
            bnd (W.R_Gate.c16 (ibits BinOp.xor IntKind.i64 x (IntKind.wrap IntKind.i64 ((1 : Int) * (2 : Int) ^ Min.min (Int.toNat o3) (64 : Nat)))) [y_14] t11 some) fun y_15 =>
            bnd (W.R_Gate.c269637 x o3 [y_14] some) fun y_16 =>
            bnd (W.R_Gate.c19 x y_16 y_15 some) fun y_17 =>
            k_ y_17)))))
def R_Gate.c220520s : Shape := R_Gate.c7s
def R_Gate.c220520x0 : Shape := R_Gate.c7s
def R_Gate.c220520r : Ck := Ck.of (T := List ((List ((Bool) × (List Int))) × (Int))) R_Gate.c220520s (fun ρ x_ k_ => R_Gate.c220520 x_.1 x_.2.2.2.1 x_.2.2.2.2.1 x_.2.2.2.2.2.1 x_.2.2.2.2.2.2.1 x_.2.2.2.2.2.2.2.1 x_.2.2.2.2.2.2.2.2.2.2.1 k_) (fun ρ x_ r_ k_ => k_ 0 (Shape.inj R_Gate.c220520x0 (x_.1, x_.2.1, x_.2.2.1, x_.2.2.2.1, x_.2.2.2.2.1, x_.2.2.2.2.2.1, x_.2.2.2.2.2.2.1, x_.2.2.2.2.2.2.2.1, x_.2.2.2.2.2.2.2.2.1, x_.2.2.2.2.2.2.2.2.2.1, r_, ())))
def R_Gate.c100003 {ρ : Type} (v : List ((List ((Bool) × (List Int))) × (Int))) (x : Int) (o0 : Int) (o1 : Int) (o2 : List (Int)) (o3 : Int) (t11 : List ((List ((Bool) × (List Int))) × (Int))) (k_ : ((Int) × (List ((List ((Bool) × (List Int))) × (Int)))) ⊕ ((Int) × (List ((List ((Bool) × (List Int))) × (Int)))) → Option ρ) : Option ρ :=
  br (decide (x < (↑(List.length v) : Int)))
   (bnd (W.R_Gate.c220520 v x o0 o1 o2 o3 t11 some) fun y =>
    k_ (.inl ((IntKind.wrap IntKind.i64 (x + (1 : Int))), y)))
   (k_ (.inr (x, t11)))
def R_Gate.c100003s : Shape := R_Gate.c7s
def R_Gate.c100003x0 : Shape := R_Gate.c7s
def R_Gate.c100003r : Ck := Ck.ofLoop (S := (Int) × (List ((List ((Bool) × (List Int))) × (Int)))) (T := (Int) × (List ((List ((Bool) × (List Int))) × (Int)))) R_Gate.c100003s (fun x_ => (x_.2.2.2.1, x_.2.2.2.2.2.2.2.2.2.2.1)) (fun ρ x_ s_ k_ => R_Gate.c100003 x_.1 s_.1 x_.2.2.2.2.1 x_.2.2.2.2.2.1 x_.2.2.2.2.2.2.1 x_.2.2.2.2.2.2.2.1 s_.2 k_) (fun ρ x_ r_ k_ => k_ 2 (Shape.inj R_Gate.c100003x0 (x_.1, x_.2.1, x_.2.2.1, r_.1, x_.2.2.2.2.1, x_.2.2.2.2.2.1, x_.2.2.2.2.2.2.1, x_.2.2.2.2.2.2.2.1, x_.2.2.2.2.2.2.2.2.1, x_.2.2.2.2.2.2.2.2.2.1, r_.2, ())))
def R_Gate (v : List ((List ((Bool) × (List Int))) × (Int))) (o : (Int) × ((Int) × ((List Int) × ((Int) × ((Int) × (List Int)))))) : Option (List ((List ((Bool) × (List Int))) × (Int))) :=
  bnd (okIf (decide ((0 : Int) ≤ (↑(List.length v) : Int)) && decide ((↑(List.length v) : Int) ≤ (↑(List.length v) : Int)) && decide ((↑(List.length v) : Int) * (↑(264 : Nat) : Int) ≤ (140737488355328 : Int)) && decide ((↑(List.length v) : Int) ≤ (140737488355328 : Int)))) fun y =>
  bnd (iter (fun s ↦ W.R_Gate.c100003 v (Prod.fst s) (Prod.fst o) (Prod.fst (Prod.snd o)) (Prod.fst (Prod.snd (Prod.snd o))) (Prod.fst (Prod.snd (Prod.snd (Prod.snd o)))) (Prod.snd s) some) ((0 : Int), List.replicate (Int.toNat (↑(List.length v) : Int)) (List.replicate (8 : Nat) (false, []), (0 : Int)))) fun y_1 =>
  some (Prod.snd y_1)
def R_Gate.ce : Go.Ql.Callee := ⟨[(.sl (.st (.pair (.ar 8 (.st (.pair .bool (.sl (.int .i64))))) (.int .i64)))), (.st (.pair (.int .i64) (.pair (.int .i64) (.pair (.sl (.int .i64)) (.pair (.int .i64) (.pair (.int .i64) (.sl (.int .i64))))))))], [(.sl (.st (.pair (.ar 8 (.st (.pair .bool (.sl (.int .i64))))) (.int .i64))))], fun x_ => R_Gate x_.1 x_.2⟩
def R_Gate.G : Env := ⟨121, tab, [(15, R_RZero.ce), (39, R_allOne.ce), (40, R_RAdd.ce), (41, R_bitOf.ce), (42, R_RTurn.ce), (43, R_RHalf.ce), (44, R_RNeg.ce)], [0, 1, 3, 4, 5, 6, 7, 8, 15, 22, 27, 59, 72, 82, 108], [8, 11], [(19, [⟨[], [], [112, 113, 114, 115, 116, 117, 118], []⟩, ⟨[], [], [111, 113, 114, 115, 116, 117, 118], []⟩, ⟨[], [], [111, 112, 114, 117], []⟩, ⟨[], [], [111, 112, 113, 117], []⟩, ⟨[2, 3], [], [111, 112, 117], []⟩, ⟨[4, 2, 3], [], [111, 112, 117], []⟩, ⟨[], [], [111, 112, 113, 114, 115, 116], []⟩, ⟨[5, 4, 2, 3, 6], [], [111, 112], []⟩, ⟨[0, 1, 2, 3, 4, 5, 6, 7], [], [], []⟩, ⟨[8, 0, 1, 2, 3, 4, 5, 6, 7], [11], [], []⟩]),
  (16, [⟨[], [], [96, 97, 98, 99, 100, 101, 102], []⟩, ⟨[], [], [95, 97, 98, 99, 100, 101, 102], []⟩, ⟨[], [], [95, 96, 98, 101], []⟩, ⟨[], [], [95, 96, 97, 101], []⟩, ⟨[2, 3], [], [95, 96, 101], []⟩, ⟨[4, 2, 3], [], [95, 96, 101], []⟩, ⟨[], [], [95, 96, 97, 98, 99, 100], []⟩, ⟨[5, 4, 2, 3, 6], [], [95, 96], []⟩, ⟨[0, 1, 2, 3, 4, 5, 6, 7], [], [], []⟩, ⟨[8, 0, 1, 2, 3, 4, 5, 6, 7], [11], [], []⟩]),
  (10, [⟨[], [], [61, 62, 63, 64, 65, 66, 67, 68], []⟩, ⟨[], [], [60, 62, 63, 64, 65, 66, 67, 68], []⟩, ⟨[], [], [60, 61, 63, 66, 67], []⟩, ⟨[], [], [60, 61, 62, 66, 67], []⟩, ⟨[2, 3], [], [60, 61, 66, 67], []⟩, ⟨[4, 2, 3], [], [60, 61, 66, 67], []⟩, ⟨[], [], [60, 61, 62, 63, 64, 65], []⟩, ⟨[6], [], [60, 61, 62, 63, 64, 65], []⟩, ⟨[5, 4, 2, 3, 7, 6], [], [60, 61], []⟩, ⟨[0, 1, 2, 3, 4, 5, 6, 7, 8], [], [], []⟩, ⟨[9, 0, 1, 2, 3, 4, 5, 6, 7, 8], [11], [], []⟩]),
  (7, [⟨[], [], [29, 30, 31, 32, 33, 34, 35, 36, 37, 38], []⟩, ⟨[], [], [28, 30, 31, 32, 33, 34, 35, 36, 37, 38], []⟩, ⟨[], [], [28, 29, 31, 34, 35, 36, 37], []⟩, ⟨[], [], [28, 29, 30, 34, 35, 36, 37], []⟩, ⟨[2, 3], [], [28, 29, 34, 35, 36, 37], []⟩, ⟨[4, 2, 3], [], [28, 29, 34, 35, 36, 37], []⟩, ⟨[], [], [28, 29, 30, 31, 32, 33, 35], []⟩, ⟨[], [], [28, 29, 30, 31, 32, 33, 34], []⟩, ⟨[6, 7], [], [28, 29, 30, 31, 32, 33], []⟩, ⟨[8, 6, 7], [], [28, 29, 30, 31, 32, 33], []⟩, ⟨[5, 4, 2, 3, 9, 8, 6, 7], [], [28, 29], []⟩, ⟨[0, 1, 2, 3, 4, 5, 6, 7, 8, 9, 10], [], [], []⟩, ⟨[11, 0, 1, 2, 3, 4, 5, 6, 7, 8, 9, 10], [11], [], []⟩])], [(100003, R_Gate.c100003r), (220520, R_Gate.c220520r), (19, R_Gate.c19r), (269637, R_Gate.c269637r), (16, R_Gate.c16r), (10, R_Gate.c10r), (9, R_Gate.c9r), (7, R_Gate.c7r)], [], tab_eqs⟩
theorem R_Gate.eq (x_ : dens R_Gate.ce.params) : den R_Gate.G Try.f25 R_Gate.ce.params R_Gate.ce.res x_ = R_Gate.ce.F x_ := by kernel_rfl
theorem R_Gate.p0 : PcA R_Gate.G Try.f25 0 :=
  loop_ok (s := R_Gate.c100003r) (by kernel_rfl) (by kernel_rfl) (loops_of (sh := R_Gate.c100003s) (I := fun x_ s_ => (x_.1, x_.2.1, x_.2.2.1, s_.1, x_.2.2.2.2.1, x_.2.2.2.2.2.1, x_.2.2.2.2.2.2.1, x_.2.2.2.2.2.2.2.1, x_.2.2.2.2.2.2.2.2.1, x_.2.2.2.2.2.2.2.2.2.1, s_.2, ())) (fun x_ => rfl) (fun ρ x_ s_ k_ => (nat_br (nat_bnd fun _ => nat_leaf) nat_leaf)) (fun ρ x_ t k => (by kernel_rfl)) (fun x_ s => by kernel_rfl))
theorem R_Gate.p1 : PcA R_Gate.G Try.f25 1 :=
  join_ok (s := R_Gate.c220520r) (by kernel_rfl) (by kernel_rfl) (sums_of (sh := R_Gate.c220520s) (fun ρ x_ k_ => (nat_bnd fun _ => (nat_bnd fun _ => (nat_br nat_leaf (nat_bnd fun _ => (nat_br (nat_bnd fun _ => nat_leaf) (nat_bnd fun _ => (nat_bnd fun _ => (nat_br (nat_bnd fun _ => nat_leaf) (nat_br (nat_bnd fun _ => (nat_bnd fun _ => (nat_bnd fun _ => nat_leaf))) (nat_br (nat_bnd fun _ => (nat_bnd fun _ => (nat_bnd fun _ => nat_leaf))) (nat_bnd fun _ => (nat_bnd fun _ => (nat_bnd fun _ => (nat_bnd fun _ => (nat_bnd fun _ => nat_leaf)))))))))))))))) (fun ρ x_ t k => (by kernel_rfl)) (fun x_ => by kernel_rfl))
theorem R_Gate.p2 : PcA R_Gate.G Try.f25 2 :=
  region_ok (s := R_Gate.c7r) (by kernel_rfl) (by kernel_rfl) (sums_of (sh := R_Gate.c7s) (fun ρ x_ k_ => (nat_bnd fun _ => (nat_bnd fun _ => (nat_bnd fun _ => (nat_bnd fun _ => (nat_bnd fun _ => (nat_bnd fun _ => nat_leaf))))))) (fun ρ x_ t k => (by kernel_rfl)) (fun x_ => by kernel_rfl))
theorem R_Gate.p3 : PcA R_Gate.G Try.f25 3 :=
  region_ok (s := R_Gate.c9r) (by kernel_rfl) (by kernel_rfl) (sums_of (sh := R_Gate.c9s) (fun ρ x_ k_ => (nat_br nat_leaf (nat_br (nat_bnd fun _ => nat_leaf) nat_leaf))) (fun ρ x_ t k => (by kernel_rfl)) (fun x_ => by kernel_rfl))
theorem R_Gate.p4 : PcA R_Gate.G Try.f25 4 :=
  region_ok (s := R_Gate.c10r) (by kernel_rfl) (by kernel_rfl) (sums_of (sh := R_Gate.c10s) (fun ρ x_ k_ => (nat_bnd fun _ => (nat_bnd fun _ => (nat_bnd fun _ => (nat_bnd fun _ => nat_leaf))))) (fun ρ x_ t k => (by kernel_rfl)) (fun x_ => by kernel_rfl))
theorem R_Gate.p5 : PcA R_Gate.G Try.f25 5 :=
  region_ok (s := R_Gate.c16r) (by kernel_rfl) (by kernel_rfl) (sums_of (sh := R_Gate.c16s) (fun ρ x_ k_ => (nat_bnd fun _ => (nat_bnd fun _ => (nat_bnd fun _ => (nat_bnd fun _ => (nat_bnd fun _ => (nat_bnd fun _ => nat_leaf))))))) (fun ρ x_ t k => (by kernel_rfl)) (fun x_ => by kernel_rfl))
theorem R_Gate.p6 : PcA R_Gate.G Try.f25 6 :=
  join_ok (s := R_Gate.c269637r) (by kernel_rfl) (by kernel_rfl) (sums_of (sh := R_Gate.c269637s) (fun ρ x_ k_ => (nat_bnd fun _ => (nat_br (nat_bnd fun _ => (nat_bnd fun _ => (nat_bnd fun _ => nat_leaf))) nat_leaf))) (fun ρ x_ t k => (by kernel_rfl)) (fun x_ => by kernel_rfl))
theorem R_Gate.p7 : PcA R_Gate.G Try.f25 7 :=
  region_ok (s := R_Gate.c19r) (by kernel_rfl) (by kernel_rfl) (sums_of (sh := R_Gate.c19s) (fun ρ x_ k_ => (nat_bnd fun _ => (nat_bnd fun _ => (nat_bnd fun _ => (nat_bnd fun _ => (nat_bnd fun _ => (nat_bnd fun _ => nat_leaf))))))) (fun ρ x_ t k => (by kernel_rfl)) (fun x_ => by kernel_rfl))
theorem R_Gate.ok : CalleeOk Try.prog 25 R_Gate.ce := fn_ok (G := R_Gate.G) tab_ok mixed Try.func25 ⟨(fns_cons R_RZero.ok (fns_cons R_allOne.ok (fns_cons R_RAdd.ok (fns_cons R_bitOf.ok (fns_cons R_RTurn.ok (fns_cons R_RHalf.ok (fns_cons R_RNeg.ok fns_nil))))))), mfns_nil, tab_eqs_ok⟩ (m := 8) (by kernel_rfl) ⟨⟨⟨⟨⟨⟨⟨⟨trivial, R_Gate.p0⟩, R_Gate.p1⟩, R_Gate.p2⟩, R_Gate.p3⟩, R_Gate.p4⟩, R_Gate.p5⟩, R_Gate.p6⟩, R_Gate.p7⟩ (by kernel_rfl) R_Gate.eq
def R_Outcome.c220486 {ρ : Type} (v : List ((List ((Bool) × (List Int))) × (Int))) (q : Int) (b : Int) (x : Int) (t11 : List ((List ((Bool) × (List Int))) × (Int))) (k_ : List ((List ((Bool) × (List Int))) × (Int)) → Option ρ) : Option ρ :=
  bnd (W.R_bitOf x q) fun y =>
  br (y == b)
   (bnd (idx v x) fun y_1 =>
    bnd (inR (List.length t11) x) fun y_2 =>
    bnd (idx t11 x) fun y_3 =>
    k_ (List.set t11 (Int.toNat x) y_1))
   (k_ t11)
def R_Outcome.c220486s : Shape := ⟨[(0, lb65), (1, lb2), (2, lb2), (6, lb65), (7, lb66), (8, lb2)], [(11, lb60)]⟩
def R_Outcome.c220486x0 : Shape := R_Outcome.c220486s
def R_Outcome.c220486r : Ck := Ck.of (T := List ((List ((Bool) × (List Int))) × (Int))) R_Outcome.c220486s (fun ρ x_ k_ => R_Outcome.c220486 x_.1 x_.2.1 x_.2.2.1 x_.2.2.2.2.1 x_.2.2.2.2.2.1 k_) (fun ρ x_ r_ k_ => k_ 0 (Shape.inj R_Outcome.c220486x0 (x_.1, x_.2.1, x_.2.2.1, x_.2.2.2.1, x_.2.2.2.2.1, r_, ())))
def R_Outcome.c100003 {ρ : Type} (v : List ((List ((Bool) × (List Int))) × (Int))) (q : Int) (b : Int) (x : Int) (t11 : List ((List ((Bool) × (List Int))) × (Int))) (k_ : ((Int) × (List ((List ((Bool) × (List Int))) × (Int)))) ⊕ ((Int) × (List ((List ((Bool) × (List Int))) × (Int)))) → Option ρ) : Option ρ :=
  br (decide (x < (↑(List.length v) : Int)))
   (bnd (W.R_Outcome.c220486 v q b x t11 some) fun y =>
    k_ (.inl ((IntKind.wrap IntKind.i64 (x + (1 : Int))), y)))
   (k_ (.inr (x, t11)))
def R_Outcome.c100003s : Shape := R_Outcome.c220486s
def R_Outcome.c100003x0 : Shape := R_Outcome.c220486s
def R_Outcome.c100003r : Ck := Ck.ofLoop (S := (Int) × (List ((List ((Bool) × (List Int))) × (Int)))) (T := (Int) × (List ((List ((Bool) × (List Int))) × (Int)))) R_Outcome.c100003s (fun x_ => (x_.2.2.2.2.1, x_.2.2.2.2.2.1)) (fun ρ x_ s_ k_ => R_Outcome.c100003 x_.1 x_.2.1 x_.2.2.1 s_.1 s_.2 k_) (fun ρ x_ r_ k_ => k_ 2 (Shape.inj R_Outcome.c100003x0 (x_.1, x_.2.1, x_.2.2.1, x_.2.2.2.1, r_.1, r_.2, ())))
def R_Outcome (v : List ((List ((Bool) × (List Int))) × (Int))) (q : Int) (b : Int) : Option (List ((List ((Bool) × (List Int))) × (Int))) :=
  bnd (okIf (decide ((0 : Int) ≤ (↑(List.length v) : Int)) && decide ((↑(List.length v) : Int) ≤ (↑(List.length v) : Int)) && decide ((↑(List.length v) : Int) * (↑(264 : Nat) : Int) ≤ (140737488355328 : Int)) && decide ((↑(List.length v) : Int) ≤ (140737488355328 : Int)))) fun y =>
  bnd (iter (fun s ↦ W.R_Outcome.c100003 v q b (Prod.fst s) (Prod.snd s) some) ((0 : Int), List.replicate (Int.toNat (↑(List.length v) : Int)) (List.replicate (8 : Nat) (false, []), (0 : Int)))) fun y_1 =>
  some (Prod.snd y_1)
def R_Outcome.ce : Go.Ql.Callee := ⟨[(.sl (.st (.pair (.ar 8 (.st (.pair .bool (.sl (.int .i64))))) (.int .i64)))), (.int .i64), (.int .i64)], [(.sl (.st (.pair (.ar 8 (.st (.pair .bool (.sl (.int .i64))))) (.int .i64))))], fun x_ => R_Outcome x_.1 x_.2.1 x_.2.2⟩
def R_Outcome.G : Env := ⟨31, tab, [(41, R_bitOf.ce)], [0, 1, 2, 6, 7, 8, 15, 22], [11], [], [(100003, R_Outcome.c100003r), (220486, R_Outcome.c220486r)], [], tab_eqs⟩
theorem R_Outcome.eq (x_ : dens R_Outcome.ce.params) : den R_Outcome.G Try.f26 R_Outcome.ce.params R_Outcome.ce.res x_ = R_Outcome.ce.F x_ := by kernel_rfl
theorem R_Outcome.p0 : PcA R_Outcome.G Try.f26 0 :=
  loop_ok (s := R_Outcome.c100003r) (by kernel_rfl) (by kernel_rfl) (loops_of (sh := R_Outcome.c100003s) (I := fun x_ s_ => (x_.1, x_.2.1, x_.2.2.1, x_.2.2.2.1, s_.1, s_.2, ())) (fun x_ => rfl) (fun ρ x_ s_ k_ => (nat_br (nat_bnd fun _ => nat_leaf) nat_leaf)) (fun ρ x_ t k => (by kernel_rfl)) (fun x_ s => by kernel_rfl))
theorem R_Outcome.p1 : PcA R_Outcome.G Try.f26 1 :=
  join_ok (s := R_Outcome.c220486r) (by kernel_rfl) (by kernel_rfl) (sums_of (sh := R_Outcome.c220486s) (fun ρ x_ k_ => (nat_bnd fun _ => (nat_br (nat_bnd fun _ => (nat_bnd fun _ => (nat_bnd fun _ => nat_leaf))) nat_leaf))) (fun ρ x_ t k => (by kernel_rfl)) (fun x_ => by kernel_rfl))
theorem R_Outcome.ok : CalleeOk Try.prog 26 R_Outcome.ce := fn_ok (G := R_Outcome.G) tab_ok mixed Try.func26 ⟨(fns_cons R_bitOf.ok fns_nil), mfns_nil, tab_eqs_ok⟩ (m := 2) (by kernel_rfl) ⟨⟨trivial, R_Outcome.p0⟩, R_Outcome.p1⟩ (by kernel_rfl) R_Outcome.eq
abbrev lb68 : SD := .one (.ref 10 0)
abbrev lb69 : SD := .one (.own 39 0)
abbrev lb70 : SD := .one (.ref 15 0)
def R_Play.c3 {ρ : Type}  (k_ : Unit → Option ρ) : Option ρ :=
  k_ ()
def R_Play.c3s : Shape := ⟨[(0, lb4), (1, lb2), (2, lb0), (3, lb7), (6, lb65), (7, lb0), (8, lb2), (9, lb43), (10, lb68)], [(3, lb8), (9, lb17), (10, lb17)]⟩
def R_Play.c3x0 : Shape := R_Play.c3s
def R_Play.c3r : Ck := Ck.of (T := Unit) R_Play.c3s (fun ρ x_ k_ => R_Play.c3  k_) (fun ρ x_ r_ k_ => k_ 0 (Shape.inj R_Play.c3x0 (x_.1, x_.2.1, x_.2.2.1, [], [], (0 : Int), x_.2.2.2.2.2.2.1, x_.2.2.2.2.2.2.2.1, x_.2.2.2.2.2.2.2.2.1, x_.2.2.2.2.2.2.2.2.2.2.2.1, x_.2.2.2.2.2.2.2.2.2.2.2.2.1, x_.2.2.2.2.2.2.2.2.2.2.2)))
def R_Play.c4 {ρ : Type} (t1 : Int) (c0 : Int) (k_ : Bool → Option ρ) : Option ρ :=
  br (decide (t1 < (0 : Int)))
   (k_ true)
   (bnd (okIf (decide ((0 : Int) ≤ c0))) fun y =>
    k_ (decide (t1 ≥ IntKind.wrap IntKind.i64 ((1 : Int) * (2 : Int) ^ Min.min (Int.toNat c0) (64 : Nat)))))
def R_Play.c4s : Shape := R_Play.c3s
def R_Play.c4x0 : Shape := ⟨[(0, lb4), (1, lb2), (2, lb0), (3, lb7), (6, lb65), (7, lb0), (8, lb2), (9, lb43), (10, lb68), (31, lb11)], [(3, lb8), (9, lb17), (10, lb17)]⟩
def R_Play.c4r : Ck := Ck.of (T := Bool) R_Play.c4s (fun ρ x_ k_ => R_Play.c4 x_.2.1 x_.2.2.2.2.2.2.1 k_) (fun ρ x_ r_ k_ => k_ 0 (Shape.inj R_Play.c4x0 (x_.1, x_.2.1, x_.2.2.1, x_.2.2.2.1, x_.2.2.2.2.1, x_.2.2.2.2.2.1, r_, x_.2.2.2.2.2.2)))
def R_Play.c19 {ρ : Type} (b : Int) (k_ : Bool → Option ρ) : Option ρ :=
  br (b != (0 : Int))
   (k_ (b != (1 : Int)))
   (k_ false)
def R_Play.c19s : Shape := ⟨[(0, lb4), (1, lb2), (2, lb0), (3, lb7), (6, lb65), (7, lb0), (8, lb2), (9, lb43), (10, lb68), (11, lb65), (12, lb69), (13, lb2), (14, lb2), (15, lb70), (16, lb2)], [(3, lb8), (9, lb17), (10, lb17), (15, lb14), (39, lb3)]⟩
def R_Play.c19x0 : Shape := ⟨[(0, lb4), (1, lb2), (2, lb0), (3, lb7), (6, lb65), (7, lb0), (8, lb2), (9, lb43), (10, lb68), (11, lb65), (12, lb69), (13, lb2), (14, lb2), (15, lb70), (16, lb2), (77, lb11)], [(3, lb8), (9, lb17), (10, lb17), (15, lb14), (39, lb3)]⟩
def R_Play.c19r : Ck := Ck.of (T := Bool) R_Play.c19s (fun ρ x_ k_ => R_Play.c19 x_.2.2.2.2.2.2.2.2.2.1 k_) (fun ρ x_ r_ k_ => k_ 0 (Shape.inj R_Play.c19x0 (x_.1, x_.2.1, x_.2.2.1, x_.2.2.2.1, x_.2.2.2.2.1, x_.2.2.2.2.2.1, x_.2.2.2.2.2.2.1, x_.2.2.2.2.2.2.2.1, x_.2.2.2.2.2.2.2.2.1, x_.2.2.2.2.2.2.2.2.2.1, r_, x_.2.2.2.2.2.2.2.2.2.2)))
def R_Play.c249200 {ρ : Type} (tape : List (Int)) (v : List ((List ((Bool) × (List Int))) × (Int))) (used : Int) (i : Int) (c2 : List ((Int) × ((Int) × ((List Int) × ((Int) × ((Int) × (List Int))))))) (t39 : List (Int)) (k_ : ((List ((List ((Bool) × (List Int))) × (Int))) × (Int) × (List Int)) ⊕ ((Int) × (Int)) → Option ρ) : Option ρ :=
  bnd (idx c2 i) fun y =>
  bnd (W.R_condition (Prod.fst y, Prod.fst (Prod.snd y), Prod.fst (Prod.snd (Prod.snd y)), Prod.fst (Prod.snd (Prod.snd (Prod.snd y))), Prod.fst (Prod.snd (Prod.snd (Prod.snd (Prod.snd y)))), Prod.snd (Prod.snd (Prod.snd (Prod.snd (Prod.snd y))))) t39) fun y_1 =>
  br (!y_1)
   (k_ (.inl (v, used, t39)))
   (br (decide (Prod.fst y < (5 : Int)))
     (bnd (W.R_Gate v (Prod.fst y, Prod.fst (Prod.snd y), Prod.fst (Prod.snd (Prod.snd y)), Prod.fst (Prod.snd (Prod.snd (Prod.snd y))), Prod.fst (Prod.snd (Prod.snd (Prod.snd (Prod.snd y)))), Prod.snd (Prod.snd (Prod.snd (Prod.snd (Prod.snd y)))))) fun y_2 =>
      k_ (.inl (y_2, used, t39)))
     (br (used == (↑(List.length tape) : Int))
       (bnd (W.R_rfault (19 : Int) i) fun y_3 =>
        k_ (.inr ((Prod.fst y_3), (Prod.snd y_3))))
       (bnd (idx tape used) fun y_4 =>
        bnd (W.R_Play.c19 y_4 some) fun y_5 =>
        br y_5
         (bnd (W.R_rfault (20 : Int) i) fun y_6 =>
          k_ (.inr ((Prod.fst y_6), (Prod.snd y_6))))
         (bnd (W.R_Outcome v (Prod.fst (Prod.snd (Prod.snd (Prod.snd y)))) y_4) fun y_7 =>
          br (Prod.fst y == (5 : Int))
           (bnd (inR (List.length t39) (Prod.fst (Prod.snd (Prod.snd (Prod.snd (Prod.snd y)))))) fun y_8 =>
            bnd (idx t39 (Prod.fst (Prod.snd (Prod.snd (Prod.snd (Prod.snd y)))))) fun y_9 =>
            k_ (.inl (y_7, (IntKind.wrap IntKind.i64 (used + (1 : Int))), (List.set t39 (Int.toNat (Prod.fst (Prod.snd (Prod.snd (Prod.snd (Prod.snd y)))))) y_4))))
           (br (y_4 == (1 : Int))
             (bnd (W.R_Gate y_7 ((2 : Int), (0 : Int), [], Prod.fst (Prod.snd (Prod.snd (Prod.snd y))), (0 : Int), [])) fun y_10 =>
              k_ (.inl (y_10, (IntKind.wrap IntKind.i64 (used + (1 : Int))), t39)))
             (k_ (.inl (y_7, (IntKind.wrap IntKind.i64 (used + (1 : Int))), t39))))))))
def R_Play.c249200s : Shape := ⟨[(0, lb4), (1, lb2), (2, lb0), (3, lb7), (6, lb65), (7, lb0), (8, lb2), (9, lb43), (10, lb68), (11, lb65), (12, lb69), (13, lb2), (14, lb2)], [(3, lb8), (9, lb17), (10, lb17), (39, lb3)]⟩
def R_Play.c249200x0 : Shape := R_Play.c249200s
def R_Play.c249200x1 : Shape := R_Play.c249200s
def R_Play.c249200r : Ck := Ck.of (T := ((List ((List ((Bool) × (List Int))) × (Int))) × (Int) × (List Int)) ⊕ ((Int) × (Int))) R_Play.c249200s (fun ρ x_ k_ => R_Play.c249200 x_.2.2.1 x_.2.2.2.2.2.2.1 x_.2.2.2.2.2.2.2.1 x_.2.2.2.2.2.2.2.2.1 x_.2.2.2.2.2.2.2.2.2.2.2.1 x_.2.2.2.2.2.2.2.2.2.2.2.2.2.2.2.2.1 k_) (fun ρ x_ r_ k_ => uP x_ fun c x_ => uP x_ fun t1 x_ => uP x_ fun tape x_ => uP x_ fun t6 x_ => uP x_ fun t7 x_ => uP x_ fun t8 x_ => uP x_ fun v x_ => uP x_ fun used x_ => uP x_ fun i x_ => uP x_ fun c0 x_ => uP x_ fun c1 x_ => uP x_ fun c2 x_ => uP x_ fun t90 x_ => uP x_ fun t91 x_ => uP x_ fun f0 x_ => uP x_ fun f1 x_ => uP x_ fun t39 x_ => sel r_ (fun r_ => k_ 0 (Shape.inj R_Play.c249200x0 (c, t1, tape, t6, t7, t8, r_.1, r_.2.1, i, c0, c1, c2, t90, t91, f0, f1, r_.2.2, ()))) (fun r_ => k_ 1 (Shape.inj R_Play.c249200x1 (c, t1, tape, [], [], (0 : Int), v, used, i, c0, c1, c2, r_.1, r_.2, f0, f1, t39, ()))))
def R_Play.c100010 {ρ : Type} (tape : List (Int)) (v : List ((List ((Bool) × (List Int))) × (Int))) (used : Int) (i : Int) (c2 : List ((Int) × ((Int) × ((List Int) × ((Int) × ((Int) × (List Int))))))) (t39 : List (Int)) (k_ : ((List ((List ((Bool) × (List Int))) × (Int))) × (Int) × (Int) × (List Int)) ⊕ (((List ((List ((Bool) × (List Int))) × (Int))) × (Int) × (Int) × (Int) × (Int) × (List Int)) ⊕ ((List ((List ((Bool) × (List Int))) × (Int))) × (Int) × (Int) × (List Int))) → Option ρ) : Option ρ :=
  br (decide (i < (↑(List.length c2) : Int)))
   (bnd (W.R_Play.c249200 tape v used i c2 t39 some) fun y =>
    sel y
     (fun u => k_ (.inl ((Prod.fst u), (Prod.fst (Prod.snd u)), (IntKind.wrap IntKind.i64 (i + (1 : Int))), (Prod.snd (Prod.snd u)))))
     (fun v_1 => k_ (.inr (.inl (v, used, i, (Prod.fst v_1), (Prod.snd v_1), t39)))))
   (k_ (.inr (.inr (v, used, i, t39))))
def R_Play.c100010s : Shape := R_Play.c249200s
def R_Play.c100010x0 : Shape := R_Play.c249200s
def R_Play.c100010x1 : Shape := R_Play.c249200s
def R_Play.c100010r : Ck := Ck.ofLoop (S := (List ((List ((Bool) × (List Int))) × (Int))) × (Int) × (Int) × (List Int)) (T := ((List ((List ((Bool) × (List Int))) × (Int))) × (Int) × (Int) × (Int) × (Int) × (List Int)) ⊕ ((List ((List ((Bool) × (List Int))) × (Int))) × (Int) × (Int) × (List Int))) R_Play.c100010s (fun x_ => (x_.2.2.2.2.2.2.1, x_.2.2.2.2.2.2.2.1, x_.2.2.2.2.2.2.2.2.1, x_.2.2.2.2.2.2.2.2.2.2.2.2.2.2.2.2.1)) (fun ρ x_ s_ k_ => R_Play.c100010 x_.2.2.1 s_.1 s_.2.1 s_.2.2.1 x_.2.2.2.2.2.2.2.2.2.2.2.1 s_.2.2.2 k_) (fun ρ x_ r_ k_ => uP x_ fun c x_ => uP x_ fun t1 x_ => uP x_ fun tape x_ => uP x_ fun t6 x_ => uP x_ fun t7 x_ => uP x_ fun t8 x_ => uP x_ fun v x_ => uP x_ fun used x_ => uP x_ fun i x_ => uP x_ fun c0 x_ => uP x_ fun c1 x_ => uP x_ fun c2 x_ => uP x_ fun t90 x_ => uP x_ fun t91 x_ => uP x_ fun f0 x_ => uP x_ fun f1 x_ => uP x_ fun t39 x_ => sel r_ (fun r_ => k_ 1 (Shape.inj R_Play.c100010x0 (c, t1, tape, [], [], (0 : Int), r_.1, r_.2.1, r_.2.2.1, c0, c1, c2, r_.2.2.2.1, r_.2.2.2.2.1, f0, f1, r_.2.2.2.2.2, ()))) (fun r_ => k_ 2 (Shape.inj R_Play.c100010x1 (c, t1, tape, t6, t7, t8, r_.1, r_.2.1, r_.2.2.1, c0, c1, c2, t90, t91, f0, f1, r_.2.2.2, ()))))
def R_Play (c : (Int) × ((Int) × (List ((Int) × ((Int) × ((List Int) × ((Int) × ((Int) × (List Int))))))))) (t1 : Int) (tape : List (Int)) : Option ((List ((List ((Bool) × (List Int))) × (Int))) × (List Int) × (Int) × ((Int) × (Int))) :=
  bnd (W.R_Check (Prod.fst c, Prod.fst (Prod.snd c), Prod.snd (Prod.snd c))) fun y =>
  br (Prod.fst y != (0 : Int))
   (bnd (W.R_Play.c3 some) fun y_1 =>
    some ([], [], (0 : Int), Prod.fst y, Prod.snd y))
   (bnd (W.R_Play.c4 t1 (Prod.fst c) some) fun y_2 =>
    br y_2
     (bnd (W.R_rfault (18 : Int) (0 : Int)) fun y_3 =>
      some ([], [], (0 : Int), Prod.fst y_3, Prod.snd y_3))
     (bnd (W.R_Basis (Prod.fst c) t1) fun y_4 =>
      bnd (okIf (decide ((0 : Int) ≤ Prod.fst (Prod.snd c)) && decide (Prod.fst (Prod.snd c) ≤ Prod.fst (Prod.snd c)) && decide (Prod.fst (Prod.snd c) * (↑(8 : Nat) : Int) ≤ (140737488355328 : Int)) && decide (Prod.fst (Prod.snd c) ≤ (140737488355328 : Int)))) fun y_5 =>
      bnd (iter (fun s ↦ W.R_Play.c100010 tape (Prod.fst s) (Prod.fst (Prod.snd s)) (Prod.fst (Prod.snd (Prod.snd s))) (Prod.snd (Prod.snd c)) (Prod.snd (Prod.snd (Prod.snd s))) some) (y_4, (0 : Int), (0 : Int), List.replicate (Int.toNat (Prod.fst (Prod.snd c))) (0 : Int))) fun y_6 =>
      sel y_6
       (fun u => some ([], [], (0 : Int), Prod.fst (Prod.snd (Prod.snd (Prod.snd u))), Prod.fst (Prod.snd (Prod.snd (Prod.snd (Prod.snd u))))))
       (fun v => some (Prod.fst v, Prod.snd (Prod.snd (Prod.snd v)), Prod.fst (Prod.snd v), (0 : Int), (0 : Int)))))
def R_Play.ce : Go.Ql.Callee := ⟨[(.st (.pair (.int .i64) (.pair (.int .i64) (.sl (.st (.pair (.int .i64) (.pair (.int .i64) (.pair (.sl (.int .i64)) (.pair (.int .i64) (.pair (.int .i64) (.sl (.int .i64)))))))))))), (.int .i64), (.sl (.int .i64))], [(.sl (.st (.pair (.ar 8 (.st (.pair .bool (.sl (.int .i64))))) (.int .i64)))), (.sl (.int .i64)), (.int .i64), (.st (.pair (.int .i64) (.int .i64)))], fun x_ => R_Play x_.1 x_.2.1 x_.2.2⟩
def R_Play.G : Env := ⟨106, tab, [(10, R_Check.ce), (21, R_rfault.ce), (23, R_Basis.ce), (24, R_condition.ce), (25, R_Gate.ce), (26, R_Outcome.ce)], [0, 1, 2, 3, 6, 7, 8, 9, 10, 11, 12, 13, 14, 15, 16, 21, 31, 44, 55, 58, 65, 77, 89, 96], [39], [(3, [⟨[], [], [6, 7, 8], [6, 7]⟩, ⟨[], [6], [22], []⟩, ⟨[1], [7], [22], []⟩, ⟨[2, 1], [], [22], []⟩, ⟨[0, 3, 2, 1], [9], [], []⟩])], [(100010, R_Play.c100010r), (249200, R_Play.c249200r), (19, R_Play.c19r), (4, R_Play.c4r), (3, R_Play.c3r)], [], tab_eqs⟩
theorem R_Play.eq (x_ : dens R_Play.ce.params) : den R_Play.G Try.f12 R_Play.ce.params R_Play.ce.res x_ = R_Play.ce.F x_ := by kernel_rfl
theorem R_Play.p0 : PcA R_Play.G Try.f12 0 :=
  region_ok (s := R_Play.c3r) (by kernel_rfl) (by kernel_rfl) (sums_of (sh := R_Play.c3s) (fun ρ x_ k_ => nat_leaf) (fun ρ x_ t k => (by kernel_rfl)) (fun x_ => by kernel_rfl))
theorem R_Play.p1 : PcA R_Play.G Try.f12 1 :=
  region_ok (s := R_Play.c4r) (by kernel_rfl) (by kernel_rfl) (sums_of (sh := R_Play.c4s) (fun ρ x_ k_ => (nat_br nat_leaf (nat_bnd fun _ => nat_leaf))) (fun ρ x_ t k => (by kernel_rfl)) (fun x_ => by kernel_rfl))
theorem R_Play.p2 : PcA R_Play.G Try.f12 2 :=
  loop_ok (s := R_Play.c100010r) (by kernel_rfl) (by kernel_rfl) (loops_of (sh := R_Play.c100010s) (I := fun x_ s_ => (x_.1, x_.2.1, x_.2.2.1, x_.2.2.2.1, x_.2.2.2.2.1, x_.2.2.2.2.2.1, s_.1, s_.2.1, s_.2.2.1, x_.2.2.2.2.2.2.2.2.2.1, x_.2.2.2.2.2.2.2.2.2.2.1, x_.2.2.2.2.2.2.2.2.2.2.2.1, x_.2.2.2.2.2.2.2.2.2.2.2.2.1, x_.2.2.2.2.2.2.2.2.2.2.2.2.2.1, x_.2.2.2.2.2.2.2.2.2.2.2.2.2.2.1, x_.2.2.2.2.2.2.2.2.2.2.2.2.2.2.2.1, s_.2.2.2, ())) (fun x_ => rfl) (fun ρ x_ s_ k_ => (nat_br (nat_bnd fun _ => (nat_sel (fun _ => nat_leaf) (fun _ => nat_leaf))) nat_leaf)) (fun ρ x_ t k => (nat_sel (fun _ => (by kernel_rfl)) (fun _ => (by kernel_rfl)))) (fun x_ s => by kernel_rfl))
theorem R_Play.p3 : PcA R_Play.G Try.f12 3 :=
  join_ok (s := R_Play.c249200r) (by kernel_rfl) (by kernel_rfl) (sums_of (sh := R_Play.c249200s) (fun ρ x_ k_ => (nat_bnd fun _ => (nat_bnd fun _ => (nat_br nat_leaf (nat_br (nat_bnd fun _ => nat_leaf) (nat_br (nat_bnd fun _ => nat_leaf) (nat_bnd fun _ => (nat_bnd fun _ => (nat_br (nat_bnd fun _ => nat_leaf) (nat_bnd fun _ => (nat_br (nat_bnd fun _ => (nat_bnd fun _ => nat_leaf)) (nat_br (nat_bnd fun _ => nat_leaf) nat_leaf)))))))))))) (fun ρ x_ t k => (nat_sel (fun _ => (by kernel_rfl)) (fun _ => (by kernel_rfl)))) (fun x_ => by kernel_rfl))
theorem R_Play.p4 : PcA R_Play.G Try.f12 4 :=
  region_ok (s := R_Play.c19r) (by kernel_rfl) (by kernel_rfl) (sums_of (sh := R_Play.c19s) (fun ρ x_ k_ => (nat_br nat_leaf nat_leaf)) (fun ρ x_ t k => (by kernel_rfl)) (fun x_ => by kernel_rfl))
theorem R_Play.ok : CalleeOk Try.prog 12 R_Play.ce := fn_ok (G := R_Play.G) tab_ok mixed Try.func12 ⟨(fns_cons R_Check.ok (fns_cons R_rfault.ok (fns_cons R_Basis.ok (fns_cons R_condition.ok (fns_cons R_Gate.ok (fns_cons R_Outcome.ok fns_nil)))))), mfns_nil, tab_eqs_ok⟩ (m := 5) (by kernel_rfl) ⟨⟨⟨⟨⟨trivial, R_Play.p0⟩, R_Play.p1⟩, R_Play.p2⟩, R_Play.p3⟩, R_Play.p4⟩ (by kernel_rfl) R_Play.eq
def R_RSame (a : (List ((Bool) × (List Int))) × (Int)) (b : (List ((Bool) × (List Int))) × (Int)) : Option (Bool) :=
  bnd (W.R_RSub a b) fun y =>
  bnd (W.R_RZero y) fun y_1 =>
  some y_1
def R_RSame.ce : Go.Ql.Callee := ⟨[(.st (.pair (.ar 8 (.st (.pair .bool (.sl (.int .i64))))) (.int .i64))), (.st (.pair (.ar 8 (.st (.pair .bool (.sl (.int .i64))))) (.int .i64)))], [.bool], fun x_ => R_RSame x_.1 x_.2⟩
def R_RSame.G : Env := ⟨9, tab, [(27, R_RSub.ce), (15, R_RZero.ce)], [0, 1, 2, 3, 4], [8000002, 8000003], [], [], [], tab_eqs⟩
theorem R_RSame.eq (x_ : dens R_RSame.ce.params) : den R_RSame.G Try.f14 R_RSame.ce.params R_RSame.ce.res x_ = R_RSame.ce.F x_ := by kernel_rfl
theorem R_RSame.ok : CalleeOk Try.prog 14 R_RSame.ce := fn_ok (G := R_RSame.G) tab_ok mixed Try.func14 ⟨(fns_cons R_RSub.ok (fns_cons R_RZero.ok fns_nil)), mfns_nil, tab_eqs_ok⟩ (m := 0) (by kernel_rfl) trivial (by kernel_rfl) R_RSame.eq
abbrev lb71 : SD := .one (.ref 14 0)
abbrev lb72 : SD := .one (.ref 18 0)
def Law_LowerKeeps.c3 {ρ : Type} (f0 : Int) (f1 : Int) (g0 : Int) (g1 : Int) (k_ : Bool → Option ρ) : Option ρ :=
  bnd W.Law_lowerBegun fun y =>
  br (!y)
   (k_ true)
   (k_ (!Ty.eqT (Ty.pair (Ty.int IntKind.i64) (Ty.int IntKind.i64)) (f0, f1) (g0, g1)))
def Law_LowerKeeps.c3s : Shape := ⟨[(0, lb4), (1, lb2), (2, lb0), (3, lb7), (6, lb11), (7, lb33), (8, lb40), (10, lb68)], [(3, lb8), (7, lb8), (8, lb17), (10, lb17)]⟩
def Law_LowerKeeps.c3x0 : Shape := ⟨[(0, lb4), (1, lb2), (2, lb0), (3, lb7), (6, lb11), (7, lb33), (8, lb40), (10, lb68), (37, lb11)], [(3, lb8), (7, lb8), (8, lb17), (10, lb17)]⟩
def Law_LowerKeeps.c3r : Ck := Ck.of (T := Bool) Law_LowerKeeps.c3s (fun ρ x_ k_ => Law_LowerKeeps.c3 x_.2.2.2.2.2.2.2.2.2.2.1 x_.2.2.2.2.2.2.2.2.2.2.2.1 x_.2.2.2.2.2.2.2.2.2.2.2.2.1 x_.2.2.2.2.2.2.2.2.2.2.2.2.2.1 k_) (fun ρ x_ r_ k_ => k_ 0 (Shape.inj Law_LowerKeeps.c3x0 (x_.1, x_.2.1, x_.2.2.1, x_.2.2.2.1, r_, x_.2.2.2.2)))
def Law_LowerKeeps.c5 {ρ : Type} (b0 : Int) (b2 : List ((Int) × ((Int) × ((List Int) × ((Int) × ((Int) × (List Int))))))) (g0 : Int) (k_ : Bool → Option ρ) : Option ρ :=
  br (g0 != (0 : Int))
   (k_ true)
   (bnd (okIf (decide ((0 : Int) ≤ b0))) fun y =>
    k_ (decide (IntKind.wrap IntKind.i64 ((↑(List.length b2) : Int) * (2 : Int) ^ Min.min (Int.toNat b0) (64 : Nat)) > (400000 : Int))))
def Law_LowerKeeps.c5s : Shape := Law_LowerKeeps.c3s
def Law_LowerKeeps.c5x0 : Shape := ⟨[(0, lb4), (1, lb2), (2, lb0), (3, lb7), (6, lb11), (7, lb33), (8, lb40), (10, lb68), (49, lb11)], [(3, lb8), (7, lb8), (8, lb17), (10, lb17)]⟩
def Law_LowerKeeps.c5r : Ck := Ck.of (T := Bool) Law_LowerKeeps.c5s (fun ρ x_ k_ => Law_LowerKeeps.c5 x_.2.2.2.2.2.2.2.1 x_.2.2.2.2.2.2.2.2.2.1 x_.2.2.2.2.2.2.2.2.2.2.2.2.1 k_) (fun ρ x_ r_ k_ => k_ 0 (Shape.inj Law_LowerKeeps.c5x0 (x_.1, x_.2.1, x_.2.2.1, x_.2.2.2.1, r_, x_.2.2.2.2)))
def Law_LowerKeeps.c7 {ρ : Type} (t1 : Int) (c0 : Int) (k_ : Bool → Option ρ) : Option ρ :=
  br (decide (t1 < (0 : Int)))
   (k_ true)
   (bnd (okIf (decide ((0 : Int) ≤ c0))) fun y =>
    k_ (decide (t1 ≥ IntKind.wrap IntKind.i64 ((1 : Int) * (2 : Int) ^ Min.min (Int.toNat c0) (64 : Nat)))))
def Law_LowerKeeps.c7s : Shape := Law_LowerKeeps.c3s
def Law_LowerKeeps.c7x0 : Shape := ⟨[(0, lb4), (1, lb2), (2, lb0), (3, lb7), (6, lb11), (7, lb33), (8, lb40), (10, lb68), (58, lb11)], [(3, lb8), (7, lb8), (8, lb17), (10, lb17)]⟩
def Law_LowerKeeps.c7r : Ck := Ck.of (T := Bool) Law_LowerKeeps.c7s (fun ρ x_ k_ => Law_LowerKeeps.c7 x_.2.1 x_.2.2.2.2.1 k_) (fun ρ x_ r_ k_ => k_ 0 (Shape.inj Law_LowerKeeps.c7x0 (x_.1, x_.2.1, x_.2.2.1, x_.2.2.2.1, r_, x_.2.2.2.2)))
def Law_LowerKeeps.c228677 {ρ : Type} (t1 : Int) (c0 : Int) (k_ : Int → Option ρ) : Option ρ :=
  bnd (W.Law_LowerKeeps.c7 t1 c0 some) fun y =>
  br y
   (k_ (0 : Int))
   (k_ t1)
def Law_LowerKeeps.c228677s : Shape := Law_LowerKeeps.c3s
def Law_LowerKeeps.c228677x0 : Shape := Law_LowerKeeps.c3s
def Law_LowerKeeps.c228677r : Ck := Ck.of (T := Int) Law_LowerKeeps.c228677s (fun ρ x_ k_ => Law_LowerKeeps.c228677 x_.2.1 x_.2.2.2.2.1 k_) (fun ρ x_ r_ k_ => k_ 0 (Shape.inj Law_LowerKeeps.c228677x0 (x_.1, r_, x_.2.2)))
def Law_LowerKeeps.c11 {ρ : Type} (bits : List (Int)) (used : Int) (bots : List (Int)) (ased : Int) (h0 : Int) (t180 : Int) (k_ : Bool → Option ρ) : Option ρ :=
  br (h0 != t180)
   (k_ true)
   (br (used != ased)
     (k_ true)
     (bnd (W.R_SameInts bits bots) fun y =>
      k_ (!y)))
def Law_LowerKeeps.c11s : Shape := ⟨[(0, lb4), (1, lb2), (2, lb0), (3, lb7), (6, lb11), (7, lb33), (8, lb40), (10, lb68), (11, lb65), (12, lb0), (13, lb2), (14, lb71), (15, lb65), (16, lb0), (17, lb2), (18, lb72)], [(3, lb8), (7, lb8), (8, lb17), (10, lb17), (14, lb17), (18, lb17)]⟩
def Law_LowerKeeps.c11x0 : Shape := ⟨[(0, lb4), (1, lb2), (2, lb0), (3, lb7), (6, lb11), (7, lb33), (8, lb40), (10, lb68), (11, lb65), (12, lb0), (13, lb2), (14, lb71), (15, lb65), (16, lb0), (17, lb2), (18, lb72), (92, lb11)], [(3, lb8), (7, lb8), (8, lb17), (10, lb17), (14, lb17), (18, lb17)]⟩
def Law_LowerKeeps.c11r : Ck := Ck.of (T := Bool) Law_LowerKeeps.c11s (fun ρ x_ k_ => Law_LowerKeeps.c11 x_.2.2.2.2.2.1 x_.2.2.2.2.2.2.1 x_.2.2.2.2.2.2.2.2.1 x_.2.2.2.2.2.2.2.2.2.1 x_.2.2.2.2.2.2.2.2.2.2.2.2.2.2.2.2.2.2.2.2.1 x_.2.2.2.2.2.2.2.2.2.2.2.2.2.2.2.2.2.2.2.2.2.2.1 k_) (fun ρ x_ r_ k_ => k_ 0 (Shape.inj Law_LowerKeeps.c11x0 (x_.1, x_.2.1, x_.2.2.1, x_.2.2.2.1, x_.2.2.2.2.1, x_.2.2.2.2.2.1, x_.2.2.2.2.2.2.1, x_.2.2.2.2.2.2.2.1, x_.2.2.2.2.2.2.2.2.1, x_.2.2.2.2.2.2.2.2.2.1, r_, x_.2.2.2.2.2.2.2.2.2.2)))
def Law_LowerKeeps.c18 {ρ : Type} (v : List ((List ((Bool) × (List Int))) × (Int))) (w : List ((List ((Bool) × (List Int))) × (Int))) (x : Int) (k_ : Bool → Option ρ) : Option ρ :=
  br (decide (x < (↑(List.length v) : Int)))
   (bnd (idx v x) fun y =>
    bnd (idx w x) fun y_1 =>
    bnd (W.R_RSame y y_1) fun y_2 =>
    k_ (!y_2))
   (k_ false)
def Law_LowerKeeps.c18s : Shape := ⟨[(0, lb4), (1, lb2), (2, lb0), (3, lb7), (6, lb11), (7, lb33), (8, lb40), (10, lb68), (11, lb65), (12, lb0), (13, lb2), (14, lb71), (15, lb65), (16, lb0), (17, lb2), (18, lb72), (19, lb2)], [(3, lb8), (7, lb8), (8, lb17), (10, lb17), (14, lb17), (18, lb17)]⟩
def Law_LowerKeeps.c18x0 : Shape := ⟨[(0, lb4), (1, lb2), (2, lb0), (3, lb7), (6, lb11), (7, lb33), (8, lb40), (10, lb68), (11, lb65), (12, lb0), (13, lb2), (14, lb71), (15, lb65), (16, lb0), (17, lb2), (18, lb72), (19, lb2), (117, lb11)], [(3, lb8), (7, lb8), (8, lb17), (10, lb17), (14, lb17), (18, lb17)]⟩
def Law_LowerKeeps.c18r : Ck := Ck.of (T := Bool) Law_LowerKeeps.c18s (fun ρ x_ k_ => Law_LowerKeeps.c18 x_.2.2.2.2.1 x_.2.2.2.2.2.2.2.1 x_.2.2.2.2.2.2.2.2.2.2.1 k_) (fun ρ x_ r_ k_ => k_ 0 (Shape.inj Law_LowerKeeps.c18x0 (x_.1, x_.2.1, x_.2.2.1, x_.2.2.2.1, x_.2.2.2.2.1, x_.2.2.2.2.2.1, x_.2.2.2.2.2.2.1, x_.2.2.2.2.2.2.2.1, x_.2.2.2.2.2.2.2.2.1, x_.2.2.2.2.2.2.2.2.2.1, x_.2.2.2.2.2.2.2.2.2.2.1, r_, x_.2.2.2.2.2.2.2.2.2.2.2)))
def Law_LowerKeeps.c20 {ρ : Type} (v : List ((List ((Bool) × (List Int))) × (Int))) (w : List ((List ((Bool) × (List Int))) × (Int))) (x : Int) (k_ : Bool → Option ρ) : Option ρ :=
  br (decide (x ≥ (↑(List.length v) : Int)))
   (bnd (idx w x) fun y =>
    bnd (W.R_RZero y) fun y_1 =>
    k_ (!y_1))
   (k_ false)
def Law_LowerKeeps.c20s : Shape := Law_LowerKeeps.c18s
def Law_LowerKeeps.c20x0 : Shape := ⟨[(0, lb4), (1, lb2), (2, lb0), (3, lb7), (6, lb11), (7, lb33), (8, lb40), (10, lb68), (11, lb65), (12, lb0), (13, lb2), (14, lb71), (15, lb65), (16, lb0), (17, lb2), (18, lb72), (19, lb2), (129, lb11)], [(3, lb8), (7, lb8), (8, lb17), (10, lb17), (14, lb17), (18, lb17)]⟩
def Law_LowerKeeps.c20r : Ck := Ck.of (T := Bool) Law_LowerKeeps.c20s (fun ρ x_ k_ => Law_LowerKeeps.c20 x_.2.2.2.2.1 x_.2.2.2.2.2.2.2.1 x_.2.2.2.2.2.2.2.2.2.2.1 k_) (fun ρ x_ r_ k_ => k_ 0 (Shape.inj Law_LowerKeeps.c20x0 (x_.1, x_.2.1, x_.2.2.1, x_.2.2.2.1, x_.2.2.2.2.1, x_.2.2.2.2.2.1, x_.2.2.2.2.2.2.1, x_.2.2.2.2.2.2.2.1, x_.2.2.2.2.2.2.2.2.1, x_.2.2.2.2.2.2.2.2.2.1, x_.2.2.2.2.2.2.2.2.2.2.1, r_, x_.2.2.2.2.2.2.2.2.2.2.2)))
def Law_LowerKeeps.c100016 {ρ : Type} (v : List ((List ((Bool) × (List Int))) × (Int))) (w : List ((List ((Bool) × (List Int))) × (Int))) (x : Int) (k_ : (Int) ⊕ ((Int) ⊕ (Int)) → Option ρ) : Option ρ :=
  br (decide (x < (↑(List.length w) : Int)))
   (bnd (W.Law_LowerKeeps.c18 v w x some) fun y =>
    br y
     (k_ (.inr (.inl x)))
     (bnd (W.Law_LowerKeeps.c20 v w x some) fun y_1 =>
      br y_1
       (k_ (.inr (.inl x)))
       (k_ (.inl (IntKind.wrap IntKind.i64 (x + (1 : Int)))))))
   (k_ (.inr (.inr x)))
def Law_LowerKeeps.c100016s : Shape := Law_LowerKeeps.c18s
def Law_LowerKeeps.c100016x0 : Shape := Law_LowerKeeps.c18s
def Law_LowerKeeps.c100016x1 : Shape := Law_LowerKeeps.c18s
def Law_LowerKeeps.c100016r : Ck := Ck.ofLoop (S := Int) (T := (Int) ⊕ (Int)) Law_LowerKeeps.c100016s (fun x_ => x_.2.2.2.2.2.2.2.2.2.2.1) (fun ρ x_ s_ k_ => Law_LowerKeeps.c100016 x_.2.2.2.2.1 x_.2.2.2.2.2.2.2.1 s_ k_) (fun ρ x_ r_ k_ => sel r_ (fun r_ => k_ 1 (Shape.inj Law_LowerKeeps.c100016x0 (x_.1, x_.2.1, x_.2.2.1, false, x_.2.2.2.2.1, x_.2.2.2.2.2.1, x_.2.2.2.2.2.2.1, x_.2.2.2.2.2.2.2.1, x_.2.2.2.2.2.2.2.2.1, x_.2.2.2.2.2.2.2.2.2.1, r_, x_.2.2.2.2.2.2.2.2.2.2.2))) (fun r_ => k_ 2 (Shape.inj Law_LowerKeeps.c100016x1 (x_.1, x_.2.1, x_.2.2.1, x_.2.2.2.1, x_.2.2.2.2.1, x_.2.2.2.2.2.1, x_.2.2.2.2.2.2.1, x_.2.2.2.2.2.2.2.1, x_.2.2.2.2.2.2.2.2.1, x_.2.2.2.2.2.2.2.2.2.1, r_, x_.2.2.2.2.2.2.2.2.2.2.2))))
def Law_LowerKeeps (c : (Int) × ((Int) × (List ((Int) × ((Int) × ((List Int) × ((Int) × ((Int) × (List Int))))))))) (t1 : Int) (tape : List (Int)) : Option (Bool) :=
  bnd (W.R_CopyCircuit (Prod.fst c, Prod.fst (Prod.snd c), Prod.snd (Prod.snd c))) fun y =>
  bnd (W.lower_Base y) fun y_1 =>
  bnd (W.R_LowerFault (Prod.fst c, Prod.fst (Prod.snd c), Prod.snd (Prod.snd c))) fun y_2 =>
  bnd (W.Law_LowerKeeps.c3 (Prod.fst (Prod.snd y_1)) (Prod.snd (Prod.snd y_1)) (Prod.fst (Prod.snd y_2)) (Prod.snd (Prod.snd y_2)) some) fun y_3 =>
  br y_3
   (some false)
   (bnd (W.Law_LowerKeeps.c5 (Prod.fst (Prod.fst y_1)) (Prod.snd (Prod.snd (Prod.fst y_1))) (Prod.fst (Prod.snd y_2)) some) fun y_4 =>
    br y_4
     (some true)
     (bnd (W.Law_LowerKeeps.c228677 t1 (Prod.fst c) some) fun y_5 =>
      bnd (W.R_Play (Prod.fst c, Prod.fst (Prod.snd c), Prod.snd (Prod.snd c)) y_5 tape) fun y_6 =>
      bnd (W.R_Play (Prod.fst (Prod.fst y_1), Prod.fst (Prod.snd (Prod.fst y_1)), Prod.snd (Prod.snd (Prod.fst y_1))) y_5 tape) fun y_7 =>
      bnd (W.Law_LowerKeeps.c11 (Prod.fst (Prod.snd y_6)) (Prod.fst (Prod.snd (Prod.snd y_6))) (Prod.fst (Prod.snd y_7)) (Prod.fst (Prod.snd (Prod.snd y_7))) (Prod.fst (Prod.snd (Prod.snd (Prod.snd y_6)))) (Prod.fst (Prod.snd (Prod.snd (Prod.snd y_7)))) some) fun y_8 =>
      br y_8
       (some false)
       (br (Prod.fst (Prod.snd (Prod.snd (Prod.snd y_6))) != (0 : Int))
         (some true)
         (bnd (iter (fun s ↦ W.Law_LowerKeeps.c100016 (Prod.fst y_6) (Prod.fst y_7) s some) (0 : Int)) fun y_9 =>
          sel y_9
           (fun u => some false)
           (fun v => some true)))))
def Law_LowerKeeps.ce : Go.Ql.Callee := ⟨[(.st (.pair (.int .i64) (.pair (.int .i64) (.sl (.st (.pair (.int .i64) (.pair (.int .i64) (.pair (.sl (.int .i64)) (.pair (.int .i64) (.pair (.int .i64) (.sl (.int .i64)))))))))))), (.int .i64), (.sl (.int .i64))], [.bool], fun x_ => Law_LowerKeeps x_.1 x_.2.1 x_.2.2⟩
def Law_LowerKeeps.G : Env := ⟨130, tab, [(5, R_CopyCircuit.ce), (6, lower_Base.ce), (7, R_LowerFault.ce), (8, Law_lowerBegun.ce), (12, R_Play.ce), (13, R_SameInts.ce), (14, R_RSame.ce), (15, R_RZero.ce)], [0, 1, 2, 3, 6, 7, 8, 10, 11, 12, 13, 14, 15, 16, 17, 18, 19, 37, 49, 58, 92, 95, 99, 117, 129], [], [(18, [⟨[], [], [103, 104], []⟩, ⟨[], [], [102], []⟩, ⟨[1], [], [102], []⟩, ⟨[0, 2, 1], [], [], []⟩, ⟨[3, 0, 2, 1], [], [], []⟩, ⟨[4, 3, 0, 2, 1], [], [108, 111, 112, 113, 114], []⟩, ⟨[4, 3, 0, 2, 1], [], [107, 111, 112, 113, 114], []⟩, ⟨[5, 4, 3, 0, 2, 1, 6], [], [111, 112, 113, 114], []⟩, ⟨[7, 5, 4, 3, 0, 2, 1, 6], [], [111, 112, 113, 114], []⟩, ⟨[4, 3, 0, 2, 1], [], [107, 108, 109, 110, 112], []⟩, ⟨[4, 3, 0, 2, 1], [], [107, 108, 109, 110, 111], []⟩, ⟨[9, 4, 3, 0, 2, 1, 10], [], [107, 108, 109, 110], []⟩, ⟨[11, 9, 4, 3, 0, 2, 1, 10], [], [107, 108, 109, 110], []⟩, ⟨[8, 7, 5, 4, 3, 0, 2, 1, 6, 12, 11, 9, 10], [], [], []⟩, ⟨[13, 8, 7, 5, 4, 3, 0, 2, 1, 6, 12, 11, 9, 10], [], [], []⟩, ⟨[4, 3, 0, 2, 1, 14, 13, 8, 7, 5, 6, 12, 11, 9, 10], [], [], []⟩])], [(100016, Law_LowerKeeps.c100016r), (20, Law_LowerKeeps.c20r), (18, Law_LowerKeeps.c18r), (11, Law_LowerKeeps.c11r), (228677, Law_LowerKeeps.c228677r), (7, Law_LowerKeeps.c7r), (5, Law_LowerKeeps.c5r), (3, Law_LowerKeeps.c3r)], [], tab_eqs⟩
theorem Law_LowerKeeps.eq (x_ : dens Law_LowerKeeps.ce.params) : den Law_LowerKeeps.G Try.f4 Law_LowerKeeps.ce.params Law_LowerKeeps.ce.res x_ = Law_LowerKeeps.ce.F x_ := by kernel_rfl
theorem Law_LowerKeeps.p0 : PcA Law_LowerKeeps.G Try.f4 0 :=
  region_ok (s := Law_LowerKeeps.c3r) (by kernel_rfl) (by kernel_rfl) (sums_of (sh := Law_LowerKeeps.c3s) (fun ρ x_ k_ => (nat_bnd fun _ => (nat_br nat_leaf nat_leaf))) (fun ρ x_ t k => (by kernel_rfl)) (fun x_ => by kernel_rfl))
theorem Law_LowerKeeps.p1 : PcA Law_LowerKeeps.G Try.f4 1 :=
  region_ok (s := Law_LowerKeeps.c5r) (by kernel_rfl) (by kernel_rfl) (sums_of (sh := Law_LowerKeeps.c5s) (fun ρ x_ k_ => (nat_br nat_leaf (nat_bnd fun _ => nat_leaf))) (fun ρ x_ t k => (by kernel_rfl)) (fun x_ => by kernel_rfl))
theorem Law_LowerKeeps.p2 : PcA Law_LowerKeeps.G Try.f4 2 :=
  join_ok (s := Law_LowerKeeps.c228677r) (by kernel_rfl) (by kernel_rfl) (sums_of (sh := Law_LowerKeeps.c228677s) (fun ρ x_ k_ => (nat_bnd fun _ => (nat_br nat_leaf nat_leaf))) (fun ρ x_ t k => (by kernel_rfl)) (fun x_ => by kernel_rfl))
theorem Law_LowerKeeps.p3 : PcA Law_LowerKeeps.G Try.f4 3 :=
  region_ok (s := Law_LowerKeeps.c7r) (by kernel_rfl) (by kernel_rfl) (sums_of (sh := Law_LowerKeeps.c7s) (fun ρ x_ k_ => (nat_br nat_leaf (nat_bnd fun _ => nat_leaf))) (fun ρ x_ t k => (by kernel_rfl)) (fun x_ => by kernel_rfl))
theorem Law_LowerKeeps.p4 : PcA Law_LowerKeeps.G Try.f4 4 :=
  region_ok (s := Law_LowerKeeps.c11r) (by kernel_rfl) (by kernel_rfl) (sums_of (sh := Law_LowerKeeps.c11s) (fun ρ x_ k_ => (nat_br nat_leaf (nat_br nat_leaf (nat_bnd fun _ => nat_leaf)))) (fun ρ x_ t k => (by kernel_rfl)) (fun x_ => by kernel_rfl))
theorem Law_LowerKeeps.p5 : PcA Law_LowerKeeps.G Try.f4 5 :=
  loop_ok (s := Law_LowerKeeps.c100016r) (by kernel_rfl) (by kernel_rfl) (loops_of (sh := Law_LowerKeeps.c100016s) (I := fun x_ s_ => (x_.1, x_.2.1, x_.2.2.1, x_.2.2.2.1, x_.2.2.2.2.1, x_.2.2.2.2.2.1, x_.2.2.2.2.2.2.1, x_.2.2.2.2.2.2.2.1, x_.2.2.2.2.2.2.2.2.1, x_.2.2.2.2.2.2.2.2.2.1, s_, x_.2.2.2.2.2.2.2.2.2.2.2)) (fun x_ => rfl) (fun ρ x_ s_ k_ => (nat_br (nat_bnd fun _ => (nat_br nat_leaf (nat_bnd fun _ => (nat_br nat_leaf nat_leaf)))) nat_leaf)) (fun ρ x_ t k => (nat_sel (fun _ => (by kernel_rfl)) (fun _ => (by kernel_rfl)))) (fun x_ s => by kernel_rfl))
theorem Law_LowerKeeps.p6 : PcA Law_LowerKeeps.G Try.f4 6 :=
  region_ok (s := Law_LowerKeeps.c18r) (by kernel_rfl) (by kernel_rfl) (sums_of (sh := Law_LowerKeeps.c18s) (fun ρ x_ k_ => (nat_br (nat_bnd fun _ => (nat_bnd fun _ => (nat_bnd fun _ => nat_leaf))) nat_leaf)) (fun ρ x_ t k => (by kernel_rfl)) (fun x_ => by kernel_rfl))
theorem Law_LowerKeeps.p7 : PcA Law_LowerKeeps.G Try.f4 7 :=
  region_ok (s := Law_LowerKeeps.c20r) (by kernel_rfl) (by kernel_rfl) (sums_of (sh := Law_LowerKeeps.c20s) (fun ρ x_ k_ => (nat_br (nat_bnd fun _ => (nat_bnd fun _ => nat_leaf)) nat_leaf)) (fun ρ x_ t k => (by kernel_rfl)) (fun x_ => by kernel_rfl))
theorem Law_LowerKeeps.ok : CalleeOk Try.prog 4 Law_LowerKeeps.ce := fn_ok (G := Law_LowerKeeps.G) tab_ok mixed Try.func4 ⟨(fns_cons R_CopyCircuit.ok (fns_cons lower_Base.ok (fns_cons R_LowerFault.ok (fns_cons Law_lowerBegun.ok (fns_cons R_Play.ok (fns_cons R_SameInts.ok (fns_cons R_RSame.ok (fns_cons R_RZero.ok fns_nil)))))))), mfns_nil, tab_eqs_ok⟩ (m := 8) (by kernel_rfl) ⟨⟨⟨⟨⟨⟨⟨⟨trivial, Law_LowerKeeps.p0⟩, Law_LowerKeeps.p1⟩, Law_LowerKeeps.p2⟩, Law_LowerKeeps.p3⟩, Law_LowerKeeps.p4⟩, Law_LowerKeeps.p5⟩, Law_LowerKeeps.p6⟩, Law_LowerKeeps.p7⟩ (by kernel_rfl) Law_LowerKeeps.eq
end
end W
end
