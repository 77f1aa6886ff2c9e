/- Lifted functions of whole numbers, each with its contract. -/
import Derived.Test.YtmhhlfpejfajaaaDoorWa
import Derived.Test.YtmhhlfpejfajaaaDoorProg
section
/- Functions of the program as typed functions, printed by a program of mine, with their proofs. -/
set_option maxHeartbeats 4000000
set_option maxRecDepth 100000
set_option linter.unusedVariables false
namespace W
open Go Go.Ql
noncomputable section
abbrev q0 : SD := .one (.val .str)
abbrev q1 : SD := .one (.val .bool)
def stringslite_HasPrefix.c1 {ρ : Type} (s : List UInt8) (t1 : List UInt8) (k_ : Bool → Option ρ) : Option ρ :=
  br (decide ((↑(List.length s) : Int) ≥ (↑(List.length t1) : Int)))
   (bnd (okIf (decide ((0 : Int) ≤ (↑(List.length t1) : Int)) && decide ((↑(List.length t1) : Int) ≤ (↑(List.length s) : Int)))) fun y =>
    k_ (List.take (Int.toNat (↑(List.length t1) : Int)) s == t1))
   (k_ false)
def stringslite_HasPrefix.c1s : Shape := ⟨[(0, q0), (1, q0), (4, q1)], []⟩
def stringslite_HasPrefix.c1x0 : Shape := ⟨[(0, q0), (1, q0), (4, q1)], []⟩
def stringslite_HasPrefix.c1r : Ck := Ck.of (T := Bool) stringslite_HasPrefix.c1s (fun ρ x_ k_ => uP x_ fun s x_ => uP x_ fun t1 x_ => uP x_ fun t4 x_ => stringslite_HasPrefix.c1 s t1 k_) (fun ρ x_ r_ k_ => uP x_ fun s x_ => uP x_ fun t1 x_ => uP x_ fun t4 x_ => k_ 0 (Shape.inj stringslite_HasPrefix.c1x0 (s, t1, r_, ())))
def stringslite_HasPrefix (s : List UInt8) (t1 : List UInt8) : Option (Bool) :=
  bnd (W.stringslite_HasPrefix.c1 s t1 some) fun y =>
  some y
def stringslite_HasPrefix.ce : Go.Ql.Callee := ⟨[.str, .str], [.bool], fun x_ => stringslite_HasPrefix x_.1 x_.2⟩
def stringslite_HasPrefix.G : Env := ⟨18, tab, [], [0, 1, 4], [], [], [(1, stringslite_HasPrefix.c1r)], [], tab_eqs⟩
theorem stringslite_HasPrefix.eq (x_ : dens [.str, .str]) : den stringslite_HasPrefix.G Go.Proofs.Tryd.f37 [.str, .str] [.bool] x_ = stringslite_HasPrefix x_.1 x_.2 := by kernel_rfl
theorem stringslite_HasPrefix.p0 : PieceOk stringslite_HasPrefix.G (pieceAt (pieces stringslite_HasPrefix.G.cks (bodyOf Go.Proofs.Tryd.f37)) 0).1 (pieceAt (pieces stringslite_HasPrefix.G.cks (bodyOf Go.Proofs.Tryd.f37)) 0).2 :=
  region_ok (s := stringslite_HasPrefix.c1r) (by kernel_rfl) (by kernel_rfl) (sums_of (sh := stringslite_HasPrefix.c1s) (fun ρ x_ k_ => (nat_br (nat_bnd fun _ => nat_leaf) nat_leaf)) (fun ρ x_ t k => (by kernel_rfl)) (fun x_ => by kernel_rfl))
theorem stringslite_HasPrefix.ok : CalleeOk Go.Proofs.Tryd.prog 37 stringslite_HasPrefix.ce := fn_ok (G := stringslite_HasPrefix.G) tab_ok mixed Go.Proofs.Tryd.func37 ⟨fns_nil, mfns_nil, tab_eqs_ok⟩ (m := 1) (by kernel_rfl) ⟨trivial, stringslite_HasPrefix.p0⟩ (by kernel_rfl) stringslite_HasPrefix.eq
def strings_HasPrefix (s : List UInt8) (t1 : List UInt8) : Option (Bool) :=
  bnd (W.stringslite_HasPrefix s t1) fun y =>
  some y
def strings_HasPrefix.ce : Go.Ql.Callee := ⟨[.str, .str], [.bool], fun x_ => strings_HasPrefix x_.1 x_.2⟩
def strings_HasPrefix.G : Env := ⟨8, tab, [(37, stringslite_HasPrefix.ce)], [0, 1, 4], [], [], [], [], tab_eqs⟩
theorem strings_HasPrefix.eq (x_ : dens [.str, .str]) : den strings_HasPrefix.G Go.Proofs.Tryd.f34 [.str, .str] [.bool] x_ = strings_HasPrefix x_.1 x_.2 := by kernel_rfl
theorem strings_HasPrefix.ok : CalleeOk Go.Proofs.Tryd.prog 34 strings_HasPrefix.ce := fn_ok (G := strings_HasPrefix.G) tab_ok mixed Go.Proofs.Tryd.func34 ⟨(fns_cons stringslite_HasPrefix.ok fns_nil), mfns_nil, tab_eqs_ok⟩ (m := 0) (by kernel_rfl) trivial (by kernel_rfl) strings_HasPrefix.eq
abbrev q2 : SD := .one (.val (.int .i64))
def whole_number.c2 {ρ : Type} (text : List UInt8) (signed : Bool) (k_ : Bool → Option ρ) : Option ρ :=
  br signed
   (bnd (W.strings_HasPrefix text (Array.toList (ByteArray.data (ByteArray.mk #[(45 : UInt8)])))) fun y =>
    k_ y)
   (k_ false)
def whole_number.c2s : Shape := ⟨[(0, q0), (1, q1), (4, q2), (5, q1), (6, q2)], []⟩
def whole_number.c2x0 : Shape := ⟨[(0, q0), (1, q1), (4, q2), (5, q1), (6, q2), (12, q1)], []⟩
def whole_number.c2r : Ck := Ck.of (T := Bool) whole_number.c2s (fun ρ x_ k_ => uP x_ fun text x_ => uP x_ fun signed x_ => uP x_ fun t4 x_ => uP x_ fun t5 x_ => uP x_ fun t6 x_ => whole_number.c2 text signed k_) (fun ρ x_ r_ k_ => uP x_ fun text x_ => uP x_ fun signed x_ => uP x_ fun t4 x_ => uP x_ fun t5 x_ => uP x_ fun t6 x_ => k_ 0 (Shape.inj whole_number.c2x0 (text, signed, t4, t5, t6, r_, ())))
def whole_number.c208197 {ρ : Type} (text : List UInt8) (signed : Bool) (t6 : Int) (k_ : Int → Option ρ) : Option ρ :=
  bnd (W.whole_number.c2 text signed some) fun y =>
  br y
   (k_ (1 : Int))
   (k_ t6)
def whole_number.c208197s : Shape := ⟨[(0, q0), (1, q1), (4, q2), (5, q1), (6, q2)], []⟩
def whole_number.c208197x0 : Shape := ⟨[(0, q0), (1, q1), (4, q2), (5, q1), (6, q2)], []⟩
def whole_number.c208197r : Ck := Ck.of (T := Int) whole_number.c208197s (fun ρ x_ k_ => uP x_ fun text x_ => uP x_ fun signed x_ => uP x_ fun t4 x_ => uP x_ fun t5 x_ => uP x_ fun t6 x_ => whole_number.c208197 text signed t6 k_) (fun ρ x_ r_ k_ => uP x_ fun text x_ => uP x_ fun signed x_ => uP x_ fun t4 x_ => uP x_ fun t5 x_ => uP x_ fun t6 x_ => k_ 0 (Shape.inj whole_number.c208197x0 (text, signed, t4, t5, r_, ())))
def whole_number.c5 {ρ : Type} (signed : Bool) (t6 : Int) (k_ : Bool → Option ρ) : Option ρ :=
  br (!signed)
   (k_ true)
   (k_ (t6 == (1 : Int)))
def whole_number.c5s : Shape := ⟨[(0, q0), (1, q1), (4, q2), (5, q1), (6, q2)], []⟩
def whole_number.c5x0 : Shape := ⟨[(0, q0), (1, q1), (4, q2), (5, q1), (6, q2), (22, q1)], []⟩
def whole_number.c5r : Ck := Ck.of (T := Bool) whole_number.c5s (fun ρ x_ k_ => uP x_ fun text x_ => uP x_ fun signed x_ => uP x_ fun t4 x_ => uP x_ fun t5 x_ => uP x_ fun t6 x_ => whole_number.c5 signed t6 k_) (fun ρ x_ r_ k_ => uP x_ fun text x_ => uP x_ fun signed x_ => uP x_ fun t4 x_ => uP x_ fun t5 x_ => uP x_ fun t6 x_ => k_ 0 (Shape.inj whole_number.c5x0 (text, signed, t4, t5, t6, r_, ())))
def whole_number.c9 {ρ : Type} (text : List UInt8) (i : Int) (k_ : Bool → Option ρ) : Option ρ :=
  br (decide (i < (↑(List.length text) : Int)))
   (bnd (idx text i) fun y =>
    br (decide ((48 : Int) ≤ (↑(UInt8.toNat y) : Int)))
     (bnd (idx text i) fun y_1 =>
      k_ (decide ((↑(UInt8.toNat y_1) : Int) ≤ (57 : Int))))
     (k_ false))
   (k_ false)
def whole_number.c9s : Shape := ⟨[(0, q0), (1, q1), (4, q2), (5, q1), (6, q2), (7, q2)], []⟩
def whole_number.c9x0 : Shape := ⟨[(0, q0), (1, q1), (4, q2), (5, q1), (6, q2), (7, q2), (40, q1)], []⟩
def whole_number.c9r : Ck := Ck.of (T := Bool) whole_number.c9s (fun ρ x_ k_ => uP x_ fun text x_ => uP x_ fun signed x_ => uP x_ fun t4 x_ => uP x_ fun t5 x_ => uP x_ fun t6 x_ => uP x_ fun i x_ => whole_number.c9 text i k_) (fun ρ x_ r_ k_ => uP x_ fun text x_ => uP x_ fun signed x_ => uP x_ fun t4 x_ => uP x_ fun t5 x_ => uP x_ fun t6 x_ => uP x_ fun i x_ => k_ 0 (Shape.inj whole_number.c9x0 (text, signed, t4, t5, t6, i, r_, ())))
def whole_number.c100009 {ρ : Type} (text : List UInt8) (i : Int) (k_ : (Int) ⊕ (Int) → Option ρ) : Option ρ :=
  bnd (W.whole_number.c9 text i some) fun y =>
  br y
   (k_ (.inl (IntKind.wrap IntKind.i64 (i + (1 : Int)))))
   (k_ (.inr i))
def whole_number.c100009s : Shape := ⟨[(0, q0), (1, q1), (4, q2), (5, q1), (6, q2), (7, q2)], []⟩
def whole_number.c100009x0 : Shape := ⟨[(0, q0), (1, q1), (4, q2), (5, q1), (6, q2), (7, q2)], []⟩
def whole_number.c100009r : Ck := Ck.ofLoop (S := Int) (T := Int) whole_number.c100009s (fun x_ => uP x_ fun text x_ => uP x_ fun signed x_ => uP x_ fun t4 x_ => uP x_ fun t5 x_ => uP x_ fun t6 x_ => uP x_ fun i x_ => i) (fun ρ x_ s_ k_ => uP x_ fun text x_ => uP x_ fun signed x_ => uP x_ fun t4 x_ => uP x_ fun t5 x_ => uP x_ fun t6 x_ => uP x_ fun i x_ => whole_number.c100009 text s_ k_) (fun ρ x_ r_ k_ => uP x_ fun text x_ => uP x_ fun signed x_ => uP x_ fun t4 x_ => uP x_ fun t5 x_ => uP x_ fun t6 x_ => uP x_ fun i x_ => k_ 2 (Shape.inj whole_number.c100009x0 (text, signed, t4, t5, t6, r_, ())))
def whole_number (text : List UInt8) (signed : Bool) : Option ((Int) × (Bool)) :=
  bnd (W.whole_number.c208197 text signed (0 : Int) some) fun y =>
  bnd (okIf (decide ((0 : Int) ≤ y) && decide (y ≤ (↑(List.length text) : Int)) && decide ((↑(List.length text) : Int) ≤ (↑(List.length text) : Int)))) fun y_1 =>
  bnd (W.strings_HasPrefix (List.drop (Int.toNat y) (List.take (Int.toNat (↑(List.length text) : Int)) text)) (Array.toList (ByteArray.data (ByteArray.mk #[(48 : UInt8)])))) fun y_2 =>
  br y_2
   (bnd (W.whole_number.c5 signed y some) fun y_3 =>
    br y_3
     (some (y, false))
     (some ((1 : Int), true)))
   (bnd (iter (fun s ↦ W.whole_number.c100009 text s some) y) fun y_4 =>
    some (y_4, decide (y_4 > y)))
def whole_number.ce : Go.Ql.Callee := ⟨[.str, .bool], [(.int .i64), .bool], fun x_ => whole_number x_.1 x_.2⟩
def whole_number.G : Env := ⟨47, tab, [(34, strings_HasPrefix.ce)], [0, 1, 4, 5, 6, 7, 12, 16, 22, 40], [], [], [(100009, whole_number.c100009r), (9, whole_number.c9r), (5, whole_number.c5r), (208197, whole_number.c208197r), (2, whole_number.c2r)], [], tab_eqs⟩
theorem whole_number.eq (x_ : dens [.str, .bool]) : den whole_number.G Go.Proofs.Tryd.f19 [.str, .bool] [(.int .i64), .bool] x_ = whole_number x_.1 x_.2 := by kernel_rfl
theorem whole_number.p0 : PieceOk whole_number.G (pieceAt (pieces whole_number.G.cks (bodyOf Go.Proofs.Tryd.f19)) 0).1 (pieceAt (pieces whole_number.G.cks (bodyOf Go.Proofs.Tryd.f19)) 0).2 :=
  join_ok (s := whole_number.c208197r) (by kernel_rfl) (by kernel_rfl) (sums_of (sh := whole_number.c208197s) (fun ρ x_ k_ => (nat_bnd fun _ => (nat_br nat_leaf nat_leaf))) (fun ρ x_ t k => (by kernel_rfl)) (fun x_ => by kernel_rfl))
theorem whole_number.p1 : PieceOk whole_number.G (pieceAt (pieces whole_number.G.cks (bodyOf Go.Proofs.Tryd.f19)) 1).1 (pieceAt (pieces whole_number.G.cks (bodyOf Go.Proofs.Tryd.f19)) 1).2 :=
  region_ok (s := whole_number.c2r) (by kernel_rfl) (by kernel_rfl) (sums_of (sh := whole_number.c2s) (fun ρ x_ k_ => (nat_br (nat_bnd fun _ => nat_leaf) nat_leaf)) (fun ρ x_ t k => (by kernel_rfl)) (fun x_ => by kernel_rfl))
theorem whole_number.p2 : PieceOk whole_number.G (pieceAt (pieces whole_number.G.cks (bodyOf Go.Proofs.Tryd.f19)) 2).1 (pieceAt (pieces whole_number.G.cks (bodyOf Go.Proofs.Tryd.f19)) 2).2 :=
  region_ok (s := whole_number.c5r) (by kernel_rfl) (by kernel_rfl) (sums_of (sh := whole_number.c5s) (fun ρ x_ k_ => (nat_br nat_leaf nat_leaf)) (fun ρ x_ t k => (by kernel_rfl)) (fun x_ => by kernel_rfl))
theorem whole_number.p3 : PieceOk whole_number.G (pieceAt (pieces whole_number.G.cks (bodyOf Go.Proofs.Tryd.f19)) 3).1 (pieceAt (pieces whole_number.G.cks (bodyOf Go.Proofs.Tryd.f19)) 3).2 :=
  loop_ok (s := whole_number.c100009r) (by kernel_rfl) (by kernel_rfl) (loops_of (sh := whole_number.c100009s) (I := fun x_ s_ => (x_.1, x_.2.1, x_.2.2.1, x_.2.2.2.1, x_.2.2.2.2.1, s_, ())) (fun x_ => rfl) (fun ρ x_ s_ k_ => (nat_bnd fun _ => (nat_br nat_leaf nat_leaf))) (fun ρ x_ t k => (by kernel_rfl)) (fun x_ s => by kernel_rfl))
theorem whole_number.p4 : PieceOk whole_number.G (pieceAt (pieces whole_number.G.cks (bodyOf Go.Proofs.Tryd.f19)) 4).1 (pieceAt (pieces whole_number.G.cks (bodyOf Go.Proofs.Tryd.f19)) 4).2 :=
  region_ok (s := whole_number.c9r) (by kernel_rfl) (by kernel_rfl) (sums_of (sh := whole_number.c9s) (fun ρ x_ k_ => (nat_br (nat_bnd fun _ => (nat_br (nat_bnd fun _ => nat_leaf) nat_leaf)) nat_leaf)) (fun ρ x_ t k => (by kernel_rfl)) (fun x_ => by kernel_rfl))
theorem whole_number.ok : CalleeOk Go.Proofs.Tryd.prog 19 whole_number.ce := fn_ok (G := whole_number.G) tab_ok mixed Go.Proofs.Tryd.func19 ⟨(fns_cons strings_HasPrefix.ok fns_nil), mfns_nil, tab_eqs_ok⟩ (m := 5) (by kernel_rfl) ⟨⟨⟨⟨⟨trivial, whole_number.p0⟩, whole_number.p1⟩, whole_number.p2⟩, whole_number.p3⟩, whole_number.p4⟩ (by kernel_rfl) whole_number.eq
def stringslite_TrimPrefix (s : List UInt8) (t1 : List UInt8) : Option (List UInt8) :=
  bnd (W.stringslite_HasPrefix s t1) fun y =>
  br y
   (bnd (okIf (decide ((0 : Int) ≤ (↑(List.length t1) : Int)) && decide ((↑(List.length t1) : Int) ≤ (↑(List.length s) : Int)) && decide ((↑(List.length s) : Int) ≤ (↑(List.length s) : Int)))) fun y_1 =>
    some (List.drop (Int.toNat (↑(List.length t1) : Int)) (List.take (Int.toNat (↑(List.length s) : Int)) s)))
   (some s)
def stringslite_TrimPrefix.ce : Go.Ql.Callee := ⟨[.str, .str], [.str], fun x_ => stringslite_TrimPrefix x_.1 x_.2⟩
def stringslite_TrimPrefix.G : Env := ⟨13, tab, [(37, stringslite_HasPrefix.ce)], [0, 1, 4, 7], [], [], [], [], tab_eqs⟩
theorem stringslite_TrimPrefix.eq (x_ : dens [.str, .str]) : den stringslite_TrimPrefix.G Go.Proofs.Tryd.f35 [.str, .str] [.str] x_ = stringslite_TrimPrefix x_.1 x_.2 := by kernel_rfl
theorem stringslite_TrimPrefix.ok : CalleeOk Go.Proofs.Tryd.prog 35 stringslite_TrimPrefix.ce := fn_ok (G := stringslite_TrimPrefix.G) tab_ok mixed Go.Proofs.Tryd.func35 ⟨(fns_cons stringslite_HasPrefix.ok fns_nil), mfns_nil, tab_eqs_ok⟩ (m := 0) (by kernel_rfl) trivial (by kernel_rfl) stringslite_TrimPrefix.eq
def strings_TrimPrefix (s : List UInt8) (t1 : List UInt8) : Option (List UInt8) :=
  bnd (W.stringslite_TrimPrefix s t1) fun y =>
  some y
def strings_TrimPrefix.ce : Go.Ql.Callee := ⟨[.str, .str], [.str], fun x_ => strings_TrimPrefix x_.1 x_.2⟩
def strings_TrimPrefix.G : Env := ⟨8, tab, [(35, stringslite_TrimPrefix.ce)], [0, 1, 4], [], [], [], [], tab_eqs⟩
theorem strings_TrimPrefix.eq (x_ : dens [.str, .str]) : den strings_TrimPrefix.G Go.Proofs.Tryd.f20 [.str, .str] [.str] x_ = strings_TrimPrefix x_.1 x_.2 := by kernel_rfl
theorem strings_TrimPrefix.ok : CalleeOk Go.Proofs.Tryd.prog 20 strings_TrimPrefix.ce := fn_ok (G := strings_TrimPrefix.G) tab_ok mixed Go.Proofs.Tryd.func20 ⟨(fns_cons stringslite_TrimPrefix.ok fns_nil), mfns_nil, tab_eqs_ok⟩ (m := 0) (by kernel_rfl) trivial (by kernel_rfl) strings_TrimPrefix.eq
abbrev q3 : SD := .one (.val (.sl (.int .u32)))
abbrev q4 : SD := .one (.own 3 0)
abbrev q5 : SD := .one (.val (.int .u64))
abbrev q6 : SD := .one (.val (.sl (.int .u8)))
abbrev q7 : SO := .arr 0 false 55 (.int .u32)
def whole_digits.c100006 {ρ : Type} (part : Int) (t6 : Int) (t21 : List (Int)) (t22 : Int) (t23 : Int) (k_ : ((Int) × (Int) × (Int)) ⊕ ((Int) × (Int) × (Int)) → Option ρ) : Option ρ :=
  br (decide (t23 < t22))
   (bnd (idx t21 t23) fun y =>
    k_ (.inl ((IntKind.wrap IntKind.u64 (IntKind.wrap IntKind.u64 (part * (10 : Int)) + IntKind.wrap IntKind.u64 (IntKind.wrap IntKind.u8 (y - (48 : Int))))), (IntKind.wrap IntKind.u64 (t6 * (10 : Int))), (IntKind.wrap IntKind.i64 (t23 + (1 : Int))))))
   (k_ (.inr (part, t6, t23)))
def whole_digits.c100006s : Shape := ⟨[(0, q0), (2, q3), (3, q4), (4, q2), (5, q5), (6, q5), (21, q6), (22, q2), (23, q2)], [(3, q7)]⟩
def whole_digits.c100006x0 : Shape := ⟨[(0, q0), (2, q3), (3, q4), (4, q2), (5, q5), (6, q5), (21, q6), (22, q2), (23, q2)], [(3, q7)]⟩
def whole_digits.c100006r : Ck := Ck.ofLoop (S := (Int) × (Int) × (Int)) (T := (Int) × (Int) × (Int)) whole_digits.c100006s (fun x_ => uP x_ fun text x_ => uP x_ fun t2 x_ => uP x_ fun n x_ => uP x_ fun part x_ => uP x_ fun t6 x_ => uP x_ fun t21 x_ => uP x_ fun t22 x_ => uP x_ fun t23 x_ => uP x_ fun mag x_ => (part, t6, t23)) (fun ρ x_ s_ k_ => uP x_ fun text x_ => uP x_ fun t2 x_ => uP x_ fun n x_ => uP x_ fun part x_ => uP x_ fun t6 x_ => uP x_ fun t21 x_ => uP x_ fun t22 x_ => uP x_ fun t23 x_ => uP x_ fun mag x_ => whole_digits.c100006 s_.1 s_.2.1 t21 t22 s_.2.2 k_) (fun ρ x_ r_ k_ => uP x_ fun text x_ => uP x_ fun t2 x_ => uP x_ fun n x_ => uP x_ fun part x_ => uP x_ fun t6 x_ => uP x_ fun t21 x_ => uP x_ fun t22 x_ => uP x_ fun t23 x_ => uP x_ fun mag x_ => k_ 4 (Shape.inj whole_digits.c100006x0 (text, t2, n, r_.1, r_.2.1, t21, t22, r_.2.2, mag, ())))
def whole_digits.c100012 {ρ : Type} (part : Int) (t6 : Int) (t40 : Int) (t41 : Int) (mag : List (Int)) (k_ : ((Int) × (Int) × (List Int)) ⊕ ((Int) × (Int) × (List Int)) → Option ρ) : Option ρ :=
  br (decide (t41 < t40))
   (bnd (inR (List.length mag) t41) fun y =>
    bnd (idx mag t41) fun y_1 =>
    bnd (inR (List.length mag) t41) fun y_2 =>
    bnd (idx mag t41) fun y_3 =>
    k_ (.inl ((Int.fdiv (IntKind.wrap IntKind.u64 (part + IntKind.wrap IntKind.u64 (IntKind.wrap IntKind.u64 y_1 * t6))) ((2 : Int) ^ (32 : Nat))), (IntKind.wrap IntKind.i64 (t41 + (1 : Int))), (List.set mag (Int.toNat t41) (IntKind.wrap IntKind.u32 (IntKind.wrap IntKind.u64 (part + IntKind.wrap IntKind.u64 (IntKind.wrap IntKind.u64 y_1 * t6))))))))
   (k_ (.inr (part, t41, mag)))
def whole_digits.c100012s : Shape := ⟨[(0, q0), (2, q3), (3, q4), (4, q2), (5, q5), (6, q5), (21, q6), (22, q2), (23, q2), (40, q2), (41, q2)], [(3, q7)]⟩
def whole_digits.c100012x0 : Shape := ⟨[(0, q0), (2, q3), (3, q4), (4, q2), (5, q5), (6, q5), (21, q6), (22, q2), (23, q2), (40, q2), (41, q2)], [(3, q7)]⟩
def whole_digits.c100012r : Ck := Ck.ofLoop (S := (Int) × (Int) × (List Int)) (T := (Int) × (Int) × (List Int)) whole_digits.c100012s (fun x_ => uP x_ fun text x_ => uP x_ fun t2 x_ => uP x_ fun n x_ => uP x_ fun part x_ => uP x_ fun t6 x_ => uP x_ fun t21 x_ => uP x_ fun t22 x_ => uP x_ fun t23 x_ => uP x_ fun t40 x_ => uP x_ fun t41 x_ => uP x_ fun mag x_ => (part, t41, mag)) (fun ρ x_ s_ k_ => uP x_ fun text x_ => uP x_ fun t2 x_ => uP x_ fun n x_ => uP x_ fun part x_ => uP x_ fun t6 x_ => uP x_ fun t21 x_ => uP x_ fun t22 x_ => uP x_ fun t23 x_ => uP x_ fun t40 x_ => uP x_ fun t41 x_ => uP x_ fun mag x_ => whole_digits.c100012 s_.1 t6 t40 s_.2.1 s_.2.2 k_) (fun ρ x_ r_ k_ => uP x_ fun text x_ => uP x_ fun t2 x_ => uP x_ fun n x_ => uP x_ fun part x_ => uP x_ fun t6 x_ => uP x_ fun t21 x_ => uP x_ fun t22 x_ => uP x_ fun t23 x_ => uP x_ fun t40 x_ => uP x_ fun t41 x_ => uP x_ fun mag x_ => k_ 6 (Shape.inj whole_digits.c100012x0 (text, t2, n, r_.1, t6, t21, t22, t23, t40, r_.2.1, r_.2.2, ())))
def whole_digits.c100002 {ρ : Type} (text : List UInt8) (mag : List (Int)) (k_ : ((List UInt8) × (List Int)) ⊕ ((List UInt8) × (List Int)) → Option ρ) : Option ρ :=
  br (decide ((↑(List.length text) : Int) > (0 : Int)))
   (bnd (okIf (decide ((0 : Int) ≤ IntKind.wrap IntKind.i64 (Int.tmod (IntKind.wrap IntKind.i64 ((↑(List.length text) : Int) - (1 : Int))) (9 : Int) + (1 : Int))) && decide (IntKind.wrap IntKind.i64 (Int.tmod (IntKind.wrap IntKind.i64 ((↑(List.length text) : Int) - (1 : Int))) (9 : Int) + (1 : Int)) ≤ (↑(List.length text) : Int)))) fun y =>
    bnd (okIf (decide (List.length (List.take (Int.toNat (IntKind.wrap IntKind.i64 (Int.tmod (IntKind.wrap IntKind.i64 ((↑(List.length text) : Int) - (1 : Int))) (9 : Int) + (1 : Int)))) text) ≤ (140737488355328 : Nat)))) fun y_1 =>
    bnd (iter (fun s ↦ W.whole_digits.c100006 (Prod.fst s) (Prod.fst (Prod.snd s)) (List.map (fun b ↦ (↑(UInt8.toNat b) : Int)) (List.take (Int.toNat (IntKind.wrap IntKind.i64 (Int.tmod (IntKind.wrap IntKind.i64 ((↑(List.length text) : Int) - (1 : Int))) (9 : Int) + (1 : Int)))) text)) (↑(List.length (List.map (fun b ↦ (↑(UInt8.toNat b) : Int)) (List.take (Int.toNat (IntKind.wrap IntKind.i64 (Int.tmod (IntKind.wrap IntKind.i64 ((↑(List.length text) : Int) - (1 : Int))) (9 : Int) + (1 : Int)))) text))) : Int) (Prod.snd (Prod.snd s)) some) ((0 : Int), (1 : Int), (0 : Int))) fun y_2 =>
    bnd (okIf (decide ((0 : Int) ≤ IntKind.wrap IntKind.i64 (Int.tmod (IntKind.wrap IntKind.i64 ((↑(List.length text) : Int) - (1 : Int))) (9 : Int) + (1 : Int))) && decide (IntKind.wrap IntKind.i64 (Int.tmod (IntKind.wrap IntKind.i64 ((↑(List.length text) : Int) - (1 : Int))) (9 : Int) + (1 : Int)) ≤ (↑(List.length text) : Int)) && decide ((↑(List.length text) : Int) ≤ (↑(List.length text) : Int)))) fun y_3 =>
    bnd (iter (fun s ↦ W.whole_digits.c100012 (Prod.fst s) (Prod.fst (Prod.snd y_2)) (↑(List.length mag) : Int) (Prod.fst (Prod.snd s)) (Prod.snd (Prod.snd s)) some) (Prod.fst y_2, (0 : Int), mag)) fun y_4 =>
    br (decide (Prod.fst y_4 > (0 : Int)))
     (bnd (okIf (decide ((List.length (Prod.snd (Prod.snd y_4)) + List.length [IntKind.wrap IntKind.u32 (Prod.fst y_4)]) * (4 : Nat) ≤ (140737488355328 : Nat)) && decide (List.length (Prod.snd (Prod.snd y_4)) + List.length [IntKind.wrap IntKind.u32 (Prod.fst y_4)] ≤ (140737488355328 : Nat)))) fun y_5 =>
      k_ (.inl ((List.drop (Int.toNat (IntKind.wrap IntKind.i64 (Int.tmod (IntKind.wrap IntKind.i64 ((↑(List.length text) : Int) - (1 : Int))) (9 : Int) + (1 : Int)))) (List.take (Int.toNat (↑(List.length text) : Int)) text)), (Prod.snd (Prod.snd y_4) ++ [IntKind.wrap IntKind.u32 (Prod.fst y_4)]))))
     (k_ (.inl ((List.drop (Int.toNat (IntKind.wrap IntKind.i64 (Int.tmod (IntKind.wrap IntKind.i64 ((↑(List.length text) : Int) - (1 : Int))) (9 : Int) + (1 : Int)))) (List.take (Int.toNat (↑(List.length text) : Int)) text)), (Prod.snd (Prod.snd y_4))))))
   (k_ (.inr (text, mag)))
def whole_digits.c100002s : Shape := ⟨[(0, q0), (2, q3), (3, q4)], [(3, q7)]⟩
def whole_digits.c100002x0 : Shape := ⟨[(0, q0), (2, q3), (3, q4)], [(3, q7)]⟩
def whole_digits.c100002r : Ck := Ck.ofLoop (S := (List UInt8) × (List Int)) (T := (List UInt8) × (List Int)) whole_digits.c100002s (fun x_ => uP x_ fun text x_ => uP x_ fun t2 x_ => uP x_ fun mag x_ => (text, mag)) (fun ρ x_ s_ k_ => uP x_ fun text x_ => uP x_ fun t2 x_ => uP x_ fun mag x_ => whole_digits.c100002 s_.1 s_.2 k_) (fun ρ x_ r_ k_ => uP x_ fun text x_ => uP x_ fun t2 x_ => uP x_ fun mag x_ => k_ 2 (Shape.inj whole_digits.c100002x0 (r_.1, t2, r_.2, ())))
def whole_digits (text : List UInt8) : Option (List Int) :=
  bnd (iter (fun s ↦ W.whole_digits.c100002 (Prod.fst s) (Prod.snd s) some) (text, [])) fun y =>
  some (Prod.snd y)
def whole_digits.ce : Go.Ql.Callee := ⟨[.str], [(.sl (.int .u32))], fun x_ => whole_digits x_⟩
def whole_digits.G : Env := ⟨69, tab, [], [0, 2, 3, 4, 5, 6, 8, 9, 12, 21, 22, 23, 24, 40, 41, 42, 62], [3], [], [(100002, whole_digits.c100002r), (100012, whole_digits.c100012r), (100006, whole_digits.c100006r)], [], tab_eqs⟩
theorem whole_digits.eq (x_ : dens [.str]) : den whole_digits.G Go.Proofs.Tryd.f22 [.str] [(.sl (.int .u32))] x_ = whole_digits x_ := by kernel_rfl
theorem whole_digits.p0 : PieceOk whole_digits.G (pieceAt (pieces whole_digits.G.cks (bodyOf Go.Proofs.Tryd.f22)) 0).1 (pieceAt (pieces whole_digits.G.cks (bodyOf Go.Proofs.Tryd.f22)) 0).2 :=
  loop_ok (s := whole_digits.c100002r) (by kernel_rfl) (by kernel_rfl) (loops_of (sh := whole_digits.c100002s) (I := fun x_ s_ => (s_.1, x_.2.1, s_.2, ())) (fun x_ => rfl) (fun ρ x_ s_ k_ => (nat_br (nat_bnd fun _ => (nat_bnd fun _ => (nat_bnd fun _ => (nat_bnd fun _ => (nat_bnd fun _ => (nat_br (nat_bnd fun _ => nat_leaf) nat_leaf)))))) nat_leaf)) (fun ρ x_ t k => (by kernel_rfl)) (fun x_ s => by kernel_rfl))
theorem whole_digits.p1 : PieceOk whole_digits.G (pieceAt (pieces whole_digits.G.cks (bodyOf Go.Proofs.Tryd.f22)) 1).1 (pieceAt (pieces whole_digits.G.cks (bodyOf Go.Proofs.Tryd.f22)) 1).2 :=
  loop_ok (s := whole_digits.c100006r) (by kernel_rfl) (by kernel_rfl) (loops_of (sh := whole_digits.c100006s) (I := fun x_ s_ => (x_.1, x_.2.1, x_.2.2.1, s_.1, s_.2.1, x_.2.2.2.2.2.1, x_.2.2.2.2.2.2.1, s_.2.2, x_.2.2.2.2.2.2.2.2.1, ())) (fun x_ => rfl) (fun ρ x_ s_ k_ => (nat_br (nat_bnd fun _ => nat_leaf) nat_leaf)) (fun ρ x_ t k => (by kernel_rfl)) (fun x_ s => by kernel_rfl))
theorem whole_digits.p2 : PieceOk whole_digits.G (pieceAt (pieces whole_digits.G.cks (bodyOf Go.Proofs.Tryd.f22)) 2).1 (pieceAt (pieces whole_digits.G.cks (bodyOf Go.Proofs.Tryd.f22)) 2).2 :=
  loop_ok (s := whole_digits.c100012r) (by kernel_rfl) (by kernel_rfl) (loops_of (sh := whole_digits.c100012s) (I := fun x_ s_ => (x_.1, x_.2.1, x_.2.2.1, s_.1, x_.2.2.2.2.1, x_.2.2.2.2.2.1, x_.2.2.2.2.2.2.1, x_.2.2.2.2.2.2.2.1, x_.2.2.2.2.2.2.2.2.1, s_.2.1, s_.2.2, ())) (fun x_ => rfl) (fun ρ x_ s_ k_ => (nat_br (nat_bnd fun _ => (nat_bnd fun _ => (nat_bnd fun _ => (nat_bnd fun _ => nat_leaf)))) nat_leaf)) (fun ρ x_ t k => (by kernel_rfl)) (fun x_ s => by kernel_rfl))
theorem whole_digits.ok : CalleeOk Go.Proofs.Tryd.prog 22 whole_digits.ce := fn_ok (G := whole_digits.G) tab_ok mixed Go.Proofs.Tryd.func22 ⟨fns_nil, mfns_nil, tab_eqs_ok⟩ (m := 3) (by kernel_rfl) ⟨⟨⟨trivial, whole_digits.p0⟩, whole_digits.p1⟩, whole_digits.p2⟩ (by kernel_rfl) whole_digits.eq
abbrev q8 : SD := .one (.ref 4 0)
abbrev q9 : SO := .box [.val .bool, .val (.sl (.int .u32))]
def whole_made.c2 {ρ : Type} (mag : List (Int)) (n : Int) (k_ : Bool → Option ρ) : Option ρ :=
  br (decide (n > (0 : Int)))
   (bnd (idx mag (IntKind.wrap IntKind.i64 (n - (1 : Int)))) fun y =>
    k_ (y == (0 : Int)))
   (k_ false)
def whole_made.c2s : Shape := ⟨[(0, q1), (1, q3), (4, q8), (5, q2)], [(4, q9)]⟩
def whole_made.c2x0 : Shape := ⟨[(0, q1), (1, q3), (4, q8), (5, q2), (17, q1)], [(4, q9)]⟩
def whole_made.c2r : Ck := Ck.of (T := Bool) whole_made.c2s (fun ρ x_ k_ => uP x_ fun neg x_ => uP x_ fun mag x_ => uP x_ fun n x_ => uP x_ fun t40 x_ => uP x_ fun t41 x_ => whole_made.c2 mag n k_) (fun ρ x_ r_ k_ => uP x_ fun neg x_ => uP x_ fun mag x_ => uP x_ fun n x_ => uP x_ fun t40 x_ => uP x_ fun t41 x_ => k_ 0 (Shape.inj whole_made.c2x0 (neg, mag, n, r_, t40, t41, ())))
def whole_made.c100002 {ρ : Type} (mag : List (Int)) (n : Int) (k_ : (Int) ⊕ (Int) → Option ρ) : Option ρ :=
  bnd (W.whole_made.c2 mag n some) fun y =>
  br y
   (k_ (.inl (IntKind.wrap IntKind.i64 (n - (1 : Int)))))
   (k_ (.inr n))
def whole_made.c100002s : Shape := ⟨[(0, q1), (1, q3), (4, q8), (5, q2)], [(4, q9)]⟩
def whole_made.c100002x0 : Shape := ⟨[(0, q1), (1, q3), (4, q8), (5, q2)], [(4, q9)]⟩
def whole_made.c100002r : Ck := Ck.ofLoop (S := Int) (T := Int) whole_made.c100002s (fun x_ => uP x_ fun neg x_ => uP x_ fun mag x_ => uP x_ fun n x_ => uP x_ fun t40 x_ => uP x_ fun t41 x_ => n) (fun ρ x_ s_ k_ => uP x_ fun neg x_ => uP x_ fun mag x_ => uP x_ fun n x_ => uP x_ fun t40 x_ => uP x_ fun t41 x_ => whole_made.c100002 mag s_ k_) (fun ρ x_ r_ k_ => uP x_ fun neg x_ => uP x_ fun mag x_ => uP x_ fun n x_ => uP x_ fun t40 x_ => uP x_ fun t41 x_ => k_ 2 (Shape.inj whole_made.c100002x0 (neg, mag, r_, t40, t41, ())))
def whole_made (neg : Bool) (mag : List (Int)) : Option ((Bool) × (List Int)) :=
  bnd (iter (fun s ↦ W.whole_made.c100002 mag s some) ↑(List.length mag)) fun y =>
  br (y == (0 : Int))
   (some (false, []))
   (bnd (okIf (decide ((0 : Int) ≤ y) && decide (y ≤ y) && decide (y ≤ (↑(List.length mag) : Int)))) fun y_1 =>
    some (neg, List.take (Int.toNat y) mag))
def whole_made.ce : Go.Ql.Callee := ⟨[.bool, (.sl (.int .u32))], [(.st (.pair .bool (.sl (.int .u32))))], fun x_ => whole_made x_.1 x_.2⟩
def whole_made.G : Env := ⟨29, tab, [], [0, 1, 4, 5, 17, 21], [], [], [(100002, whole_made.c100002r), (2, whole_made.c2r)], [], tab_eqs⟩
theorem whole_made.eq (x_ : dens [.bool, (.sl (.int .u32))]) : den whole_made.G Go.Proofs.Tryd.f21 [.bool, (.sl (.int .u32))] [(.st (.pair .bool (.sl (.int .u32))))] x_ = whole_made x_.1 x_.2 := by kernel_rfl
theorem whole_made.p0 : PieceOk whole_made.G (pieceAt (pieces whole_made.G.cks (bodyOf Go.Proofs.Tryd.f21)) 0).1 (pieceAt (pieces whole_made.G.cks (bodyOf Go.Proofs.Tryd.f21)) 0).2 :=
  loop_ok (s := whole_made.c100002r) (by kernel_rfl) (by kernel_rfl) (loops_of (sh := whole_made.c100002s) (I := fun x_ s_ => (x_.1, x_.2.1, s_, x_.2.2.2.1, x_.2.2.2.2.1, ())) (fun x_ => rfl) (fun ρ x_ s_ k_ => (nat_bnd fun _ => (nat_br nat_leaf nat_leaf))) (fun ρ x_ t k => (by kernel_rfl)) (fun x_ s => by kernel_rfl))
theorem whole_made.p1 : PieceOk whole_made.G (pieceAt (pieces whole_made.G.cks (bodyOf Go.Proofs.Tryd.f21)) 1).1 (pieceAt (pieces whole_made.G.cks (bodyOf Go.Proofs.Tryd.f21)) 1).2 :=
  region_ok (s := whole_made.c2r) (by kernel_rfl) (by kernel_rfl) (sums_of (sh := whole_made.c2s) (fun ρ x_ k_ => (nat_br (nat_bnd fun _ => nat_leaf) nat_leaf)) (fun ρ x_ t k => (by kernel_rfl)) (fun x_ => by kernel_rfl))
theorem whole_made.ok : CalleeOk Go.Proofs.Tryd.prog 21 whole_made.ce := fn_ok (G := whole_made.G) tab_ok mixed Go.Proofs.Tryd.func21 ⟨fns_nil, mfns_nil, tab_eqs_ok⟩ (m := 2) (by kernel_rfl) ⟨⟨trivial, whole_made.p0⟩, whole_made.p1⟩ (by kernel_rfl) whole_made.eq
abbrev q10 : SD := .one (.ref 2 0)
abbrev q11 : SD := .one (.ref 3 0)
abbrev q12 : SO := .box [.val (.int .i64), .val (.int .i64)]
def whole_Parse.c2 {ρ : Type} (text : List UInt8) (n : Int) (ok : Bool) (k_ : Bool → Option ρ) : Option ρ :=
  br (!ok)
   (k_ true)
   (k_ (decide (n < (↑(List.length text) : Int))))
def whole_Parse.c2s : Shape := ⟨[(0, q0), (2, q10), (3, q11), (4, q2), (5, q1)], [(2, q9), (3, q12)]⟩
def whole_Parse.c2x0 : Shape := ⟨[(0, q0), (2, q10), (3, q11), (4, q2), (5, q1), (19, q1)], [(2, q9), (3, q12)]⟩
def whole_Parse.c2r : Ck := Ck.of (T := Bool) whole_Parse.c2s (fun ρ x_ k_ => uP x_ fun text x_ => uP x_ fun n x_ => uP x_ fun ok x_ => uP x_ fun t20 x_ => uP x_ fun t21 x_ => uP x_ fun t30 x_ => uP x_ fun t31 x_ => whole_Parse.c2 text n ok k_) (fun ρ x_ r_ k_ => uP x_ fun text x_ => uP x_ fun n x_ => uP x_ fun ok x_ => uP x_ fun t20 x_ => uP x_ fun t21 x_ => uP x_ fun t30 x_ => uP x_ fun t31 x_ => k_ 0 (Shape.inj whole_Parse.c2x0 (text, n, ok, r_, t20, t21, t30, t31, ())))
def whole_Parse (text : List UInt8) : Option (((Bool) × (List Int)) × ((Int) × (Int))) :=
  bnd (W.whole_number text true) fun y =>
  bnd (W.whole_Parse.c2 text (Prod.fst y) (Prod.snd y) some) fun y_1 =>
  br y_1
   (some ((false, []), (1 : Int), Prod.fst y))
   (bnd (W.strings_TrimPrefix text (Array.toList (ByteArray.data (ByteArray.mk #[(45 : UInt8)])))) fun y_2 =>
    br (decide ((↑(List.length y_2) : Int) > (1000 : Int)))
     (some ((false, []), (2 : Int), (0 : Int)))
     (bnd (W.whole_digits y_2) fun y_3 =>
      bnd (W.whole_made (decide ((↑(List.length y_2) : Int) < (↑(List.length text) : Int))) y_3) fun y_4 =>
      some ((Prod.fst y_4, Prod.snd y_4), (0 : Int), (0 : Int))))
def whole_Parse.ce : Go.Ql.Callee := ⟨[.str], [(.st (.pair .bool (.sl (.int .u32)))), (.st (.pair (.int .i64) (.int .i64)))], fun x_ => whole_Parse x_⟩
def whole_Parse.G : Env := ⟨39, tab, [(19, whole_number.ce), (20, strings_TrimPrefix.ce), (22, whole_digits.ce), (21, whole_made.ce)], [0, 2, 3, 4, 5, 6, 19, 27], [], [], [(2, whole_Parse.c2r)], [], tab_eqs⟩
theorem whole_Parse.eq (x_ : dens [.str]) : den whole_Parse.G Go.Proofs.Tryd.f4 [.str] [(.st (.pair .bool (.sl (.int .u32)))), (.st (.pair (.int .i64) (.int .i64)))] x_ = whole_Parse x_ := by kernel_rfl
theorem whole_Parse.p0 : PieceOk whole_Parse.G (pieceAt (pieces whole_Parse.G.cks (bodyOf Go.Proofs.Tryd.f4)) 0).1 (pieceAt (pieces whole_Parse.G.cks (bodyOf Go.Proofs.Tryd.f4)) 0).2 :=
  region_ok (s := whole_Parse.c2r) (by kernel_rfl) (by kernel_rfl) (sums_of (sh := whole_Parse.c2s) (fun ρ x_ k_ => (nat_br nat_leaf nat_leaf)) (fun ρ x_ t k => (by kernel_rfl)) (fun x_ => by kernel_rfl))
theorem whole_Parse.ok : CalleeOk Go.Proofs.Tryd.prog 4 whole_Parse.ce := fn_ok (G := whole_Parse.G) tab_ok mixed Go.Proofs.Tryd.func4 ⟨(fns_cons whole_number.ok (fns_cons strings_TrimPrefix.ok (fns_cons whole_digits.ok (fns_cons whole_made.ok fns_nil)))), mfns_nil, tab_eqs_ok⟩ (m := 1) (by kernel_rfl) ⟨trivial, whole_Parse.p0⟩ (by kernel_rfl) whole_Parse.eq
def R_word.c2 {ρ : Type} (text : List UInt8) (sign : Bool) (k_ : Bool → Option ρ) : Option ρ :=
  br sign
   (br (decide ((↑(List.length text) : Int) > (0 : Int)))
     (bnd (idx text (0 : Int)) fun y =>
      k_ ((↑(UInt8.toNat y) : Int) == (45 : Int)))
     (k_ false))
   (k_ false)
def R_word.c2s : Shape := ⟨[(0, q0), (1, q1), (2, q1), (6, q2), (7, q1), (8, q2)], []⟩
def R_word.c2x0 : Shape := ⟨[(0, q0), (1, q1), (2, q1), (6, q2), (7, q1), (8, q2), (20, q1)], []⟩
def R_word.c2r : Ck := Ck.of (T := Bool) R_word.c2s (fun ρ x_ k_ => uP x_ fun text x_ => uP x_ fun sign x_ => uP x_ fun nought x_ => uP x_ fun t6 x_ => uP x_ fun t7 x_ => uP x_ fun i x_ => R_word.c2 text sign k_) (fun ρ x_ r_ k_ => uP x_ fun text x_ => uP x_ fun sign x_ => uP x_ fun nought x_ => uP x_ fun t6 x_ => uP x_ fun t7 x_ => uP x_ fun i x_ => k_ 0 (Shape.inj R_word.c2x0 (text, sign, nought, t6, t7, i, r_, ())))
def R_word.c208199 {ρ : Type} (text : List UInt8) (sign : Bool) (nought : Bool) (i : Int) (k_ : (Bool) × (Int) → Option ρ) : Option ρ :=
  bnd (W.R_word.c2 text sign some) fun y =>
  br y
   (k_ (false, (1 : Int)))
   (k_ (nought, i))
def R_word.c208199s : Shape := ⟨[(0, q0), (1, q1), (2, q1), (6, q2), (7, q1), (8, q2)], []⟩
def R_word.c208199x0 : Shape := ⟨[(0, q0), (1, q1), (2, q1), (6, q2), (7, q1), (8, q2)], []⟩
def R_word.c208199r : Ck := Ck.of (T := (Bool) × (Int)) R_word.c208199s (fun ρ x_ k_ => uP x_ fun text x_ => uP x_ fun sign x_ => uP x_ fun nought x_ => uP x_ fun t6 x_ => uP x_ fun t7 x_ => uP x_ fun i x_ => R_word.c208199 text sign nought i k_) (fun ρ x_ r_ k_ => uP x_ fun text x_ => uP x_ fun sign x_ => uP x_ fun nought x_ => uP x_ fun t6 x_ => uP x_ fun t7 x_ => uP x_ fun i x_ => k_ 0 (Shape.inj R_word.c208199x0 (text, sign, r_.1, t6, t7, r_.2, ())))
def R_word.c5 {ρ : Type} (text : List UInt8) (i : Int) (k_ : Bool → Option ρ) : Option ρ :=
  br (decide (i < (↑(List.length text) : Int)))
   (bnd (idx text i) fun y =>
    k_ ((↑(UInt8.toNat y) : Int) == (48 : Int)))
   (k_ false)
def R_word.c5s : Shape := ⟨[(0, q0), (1, q1), (2, q1), (6, q2), (7, q1), (8, q2)], []⟩
def R_word.c5x0 : Shape := ⟨[(0, q0), (1, q1), (2, q1), (6, q2), (7, q1), (8, q2), (30, q1)], []⟩
def R_word.c5r : Ck := Ck.of (T := Bool) R_word.c5s (fun ρ x_ k_ => uP x_ fun text x_ => uP x_ fun sign x_ => uP x_ fun nought x_ => uP x_ fun t6 x_ => uP x_ fun t7 x_ => uP x_ fun i x_ => R_word.c5 text i k_) (fun ρ x_ r_ k_ => uP x_ fun text x_ => uP x_ fun sign x_ => uP x_ fun nought x_ => uP x_ fun t6 x_ => uP x_ fun t7 x_ => uP x_ fun i x_ => k_ 0 (Shape.inj R_word.c5x0 (text, sign, nought, t6, t7, i, r_, ())))
def R_word.c10 {ρ : Type} (text : List UInt8) (j : Int) (k_ : Bool → Option ρ) : Option ρ :=
  br (decide (j < (↑(List.length text) : Int)))
   (bnd (idx text j) fun y =>
    br (decide ((↑(UInt8.toNat y) : Int) ≥ (48 : Int)))
     (bnd (idx text j) fun y_1 =>
      k_ (decide ((↑(UInt8.toNat y_1) : Int) ≤ (57 : Int))))
     (k_ false))
   (k_ false)
def R_word.c10s : Shape := ⟨[(0, q0), (1, q1), (2, q1), (6, q2), (7, q1), (8, q2), (9, q2)], []⟩
def R_word.c10x0 : Shape := ⟨[(0, q0), (1, q1), (2, q1), (6, q2), (7, q1), (8, q2), (9, q2), (51, q1)], []⟩
def R_word.c10r : Ck := Ck.of (T := Bool) R_word.c10s (fun ρ x_ k_ => uP x_ fun text x_ => uP x_ fun sign x_ => uP x_ fun nought x_ => uP x_ fun t6 x_ => uP x_ fun t7 x_ => uP x_ fun i x_ => uP x_ fun j x_ => R_word.c10 text j k_) (fun ρ x_ r_ k_ => uP x_ fun text x_ => uP x_ fun sign x_ => uP x_ fun nought x_ => uP x_ fun t6 x_ => uP x_ fun t7 x_ => uP x_ fun i x_ => uP x_ fun j x_ => k_ 0 (Shape.inj R_word.c10x0 (text, sign, nought, t6, t7, i, j, r_, ())))
def R_word.c100010 {ρ : Type} (text : List UInt8) (j : Int) (k_ : (Int) ⊕ (Int) → Option ρ) : Option ρ :=
  bnd (W.R_word.c10 text j some) fun y =>
  br y
   (k_ (.inl (IntKind.wrap IntKind.i64 (j + (1 : Int)))))
   (k_ (.inr j))
def R_word.c100010s : Shape := ⟨[(0, q0), (1, q1), (2, q1), (6, q2), (7, q1), (8, q2), (9, q2)], []⟩
def R_word.c100010x0 : Shape := ⟨[(0, q0), (1, q1), (2, q1), (6, q2), (7, q1), (8, q2), (9, q2)], []⟩
def R_word.c100010r : Ck := Ck.ofLoop (S := Int) (T := Int) R_word.c100010s (fun x_ => uP x_ fun text x_ => uP x_ fun sign x_ => uP x_ fun nought x_ => uP x_ fun t6 x_ => uP x_ fun t7 x_ => uP x_ fun i x_ => uP x_ fun j x_ => j) (fun ρ x_ s_ k_ => uP x_ fun text x_ => uP x_ fun sign x_ => uP x_ fun nought x_ => uP x_ fun t6 x_ => uP x_ fun t7 x_ => uP x_ fun i x_ => uP x_ fun j x_ => R_word.c100010 text s_ k_) (fun ρ x_ r_ k_ => uP x_ fun text x_ => uP x_ fun sign x_ => uP x_ fun nought x_ => uP x_ fun t6 x_ => uP x_ fun t7 x_ => uP x_ fun i x_ => uP x_ fun j x_ => k_ 2 (Shape.inj R_word.c100010x0 (text, sign, nought, t6, t7, i, r_, ())))
def R_word (text : List UInt8) (sign : Bool) (nought : Bool) : Option ((Int) × (Bool)) :=
  bnd (W.R_word.c208199 text sign nought (0 : Int) some) fun y =>
  bnd (W.R_word.c5 text (Prod.snd y) some) fun y_1 =>
  br y_1
   (br (Prod.fst y)
     (some (IntKind.wrap IntKind.i64 (Prod.snd y + (1 : Int)), true))
     (some (Prod.snd y, false)))
   (bnd (iter (fun s ↦ W.R_word.c100010 text s some) y.2) fun y_2 =>
    some (y_2, decide (y_2 > Prod.snd y)))
def R_word.ce : Go.Ql.Callee := ⟨[.str, .bool, .bool], [(.int .i64), .bool], fun x_ => R_word x_.1 x_.2.1 x_.2.2⟩
def R_word.G : Env := ⟨58, tab, [], [0, 1, 2, 6, 7, 8, 9, 20, 30, 31, 51], [], [], [(100010, R_word.c100010r), (10, R_word.c10r), (5, R_word.c5r), (208199, R_word.c208199r), (2, R_word.c2r)], [], tab_eqs⟩
theorem R_word.eq (x_ : dens [.str, .bool, .bool]) : den R_word.G Go.Proofs.Tryd.f23 [.str, .bool, .bool] [(.int .i64), .bool] x_ = R_word x_.1 x_.2.1 x_.2.2 := by kernel_rfl
theorem R_word.p0 : PieceOk R_word.G (pieceAt (pieces R_word.G.cks (bodyOf Go.Proofs.Tryd.f23)) 0).1 (pieceAt (pieces R_word.G.cks (bodyOf Go.Proofs.Tryd.f23)) 0).2 :=
  join_ok (s := R_word.c208199r) (by kernel_rfl) (by kernel_rfl) (sums_of (sh := R_word.c208199s) (fun ρ x_ k_ => (nat_bnd fun _ => (nat_br nat_leaf nat_leaf))) (fun ρ x_ t k => (by kernel_rfl)) (fun x_ => by kernel_rfl))
theorem R_word.p1 : PieceOk R_word.G (pieceAt (pieces R_word.G.cks (bodyOf Go.Proofs.Tryd.f23)) 1).1 (pieceAt (pieces R_word.G.cks (bodyOf Go.Proofs.Tryd.f23)) 1).2 :=
  region_ok (s := R_word.c2r) (by kernel_rfl) (by kernel_rfl) (sums_of (sh := R_word.c2s) (fun ρ x_ k_ => (nat_br (nat_br (nat_bnd fun _ => nat_leaf) nat_leaf) nat_leaf)) (fun ρ x_ t k => (by kernel_rfl)) (fun x_ => by kernel_rfl))
theorem R_word.p2 : PieceOk R_word.G (pieceAt (pieces R_word.G.cks (bodyOf Go.Proofs.Tryd.f23)) 2).1 (pieceAt (pieces R_word.G.cks (bodyOf Go.Proofs.Tryd.f23)) 2).2 :=
  region_ok (s := R_word.c5r) (by kernel_rfl) (by kernel_rfl) (sums_of (sh := R_word.c5s) (fun ρ x_ k_ => (nat_br (nat_bnd fun _ => nat_leaf) nat_leaf)) (fun ρ x_ t k => (by kernel_rfl)) (fun x_ => by kernel_rfl))
theorem R_word.p3 : PieceOk R_word.G (pieceAt (pieces R_word.G.cks (bodyOf Go.Proofs.Tryd.f23)) 3).1 (pieceAt (pieces R_word.G.cks (bodyOf Go.Proofs.Tryd.f23)) 3).2 :=
  loop_ok (s := R_word.c100010r) (by kernel_rfl) (by kernel_rfl) (loops_of (sh := R_word.c100010s) (I := fun x_ s_ => (x_.1, x_.2.1, x_.2.2.1, x_.2.2.2.1, x_.2.2.2.2.1, x_.2.2.2.2.2.1, s_, ())) (fun x_ => rfl) (fun ρ x_ s_ k_ => (nat_bnd fun _ => (nat_br nat_leaf nat_leaf))) (fun ρ x_ t k => (by kernel_rfl)) (fun x_ s => by kernel_rfl))
theorem R_word.p4 : PieceOk R_word.G (pieceAt (pieces R_word.G.cks (bodyOf Go.Proofs.Tryd.f23)) 4).1 (pieceAt (pieces R_word.G.cks (bodyOf Go.Proofs.Tryd.f23)) 4).2 :=
  region_ok (s := R_word.c10r) (by kernel_rfl) (by kernel_rfl) (sums_of (sh := R_word.c10s) (fun ρ x_ k_ => (nat_br (nat_bnd fun _ => (nat_br (nat_bnd fun _ => nat_leaf) nat_leaf)) nat_leaf)) (fun ρ x_ t k => (by kernel_rfl)) (fun x_ => by kernel_rfl))
theorem R_word.ok : CalleeOk Go.Proofs.Tryd.prog 23 R_word.ce := fn_ok (G := R_word.G) tab_ok mixed Go.Proofs.Tryd.func23 ⟨fns_nil, mfns_nil, tab_eqs_ok⟩ (m := 5) (by kernel_rfl) ⟨⟨⟨⟨⟨trivial, R_word.p0⟩, R_word.p1⟩, R_word.p2⟩, R_word.p3⟩, R_word.p4⟩ (by kernel_rfl) R_word.eq
def R_digitsOf.c1 {ρ : Type} (text : List UInt8) (k_ : Bool → Option ρ) : Option ρ :=
  br (decide ((↑(List.length text) : Int) > (0 : Int)))
   (bnd (idx text (0 : Int)) fun y =>
    k_ ((↑(UInt8.toNat y) : Int) == (45 : Int)))
   (k_ false)
def R_digitsOf.c1s : Shape := ⟨[(0, q0), (2, q2)], []⟩
def R_digitsOf.c1x0 : Shape := ⟨[(0, q0), (2, q2), (10, q1)], []⟩
def R_digitsOf.c1r : Ck := Ck.of (T := Bool) R_digitsOf.c1s (fun ρ x_ k_ => uP x_ fun text x_ => uP x_ fun t2 x_ => R_digitsOf.c1 text k_) (fun ρ x_ r_ k_ => uP x_ fun text x_ => uP x_ fun t2 x_ => k_ 0 (Shape.inj R_digitsOf.c1x0 (text, t2, r_, ())))
def R_digitsOf (text : List UInt8) : Option (Int) :=
  bnd (W.R_digitsOf.c1 text some) fun y =>
  br y
   (some (IntKind.wrap IntKind.i64 ((↑(List.length text) : Int) - (1 : Int))))
   (some (↑(List.length text) : Int))
def R_digitsOf.ce : Go.Ql.Callee := ⟨[.str], [(.int .i64)], fun x_ => R_digitsOf x_⟩
def R_digitsOf.G : Env := ⟨16, tab, [], [0, 2, 10], [], [], [(1, R_digitsOf.c1r)], [], tab_eqs⟩
theorem R_digitsOf.eq (x_ : dens [.str]) : den R_digitsOf.G Go.Proofs.Tryd.f24 [.str] [(.int .i64)] x_ = R_digitsOf x_ := by kernel_rfl
theorem R_digitsOf.p0 : PieceOk R_digitsOf.G (pieceAt (pieces R_digitsOf.G.cks (bodyOf Go.Proofs.Tryd.f24)) 0).1 (pieceAt (pieces R_digitsOf.G.cks (bodyOf Go.Proofs.Tryd.f24)) 0).2 :=
  region_ok (s := R_digitsOf.c1r) (by kernel_rfl) (by kernel_rfl) (sums_of (sh := R_digitsOf.c1s) (fun ρ x_ k_ => (nat_br (nat_bnd fun _ => nat_leaf) nat_leaf)) (fun ρ x_ t k => (by kernel_rfl)) (fun x_ => by kernel_rfl))
theorem R_digitsOf.ok : CalleeOk Go.Proofs.Tryd.prog 24 R_digitsOf.ce := fn_ok (G := R_digitsOf.G) tab_ok mixed Go.Proofs.Tryd.func24 ⟨fns_nil, mfns_nil, tab_eqs_ok⟩ (m := 1) (by kernel_rfl) ⟨trivial, R_digitsOf.p0⟩ (by kernel_rfl) R_digitsOf.eq
abbrev q13 : SD := .one (.val (.sl (.int .i64)))
abbrev q14 : SO := .box [.val .bool, .val (.sl (.int .i64))]
def R_zmade.c2 {ρ : Type} (d : List (Int)) (n : Int) (k_ : Bool → Option ρ) : Option ρ :=
  br (decide (n > (0 : Int)))
   (bnd (idx d (IntKind.wrap IntKind.i64 (n - (1 : Int)))) fun y =>
    k_ (y == (0 : Int)))
   (k_ false)
def R_zmade.c2s : Shape := ⟨[(0, q1), (1, q13), (4, q8), (5, q2)], [(4, q14)]⟩
def R_zmade.c2x0 : Shape := ⟨[(0, q1), (1, q13), (4, q8), (5, q2), (17, q1)], [(4, q14)]⟩
def R_zmade.c2r : Ck := Ck.of (T := Bool) R_zmade.c2s (fun ρ x_ k_ => uP x_ fun neg x_ => uP x_ fun d x_ => uP x_ fun n x_ => uP x_ fun t40 x_ => uP x_ fun t41 x_ => R_zmade.c2 d n k_) (fun ρ x_ r_ k_ => uP x_ fun neg x_ => uP x_ fun d x_ => uP x_ fun n x_ => uP x_ fun t40 x_ => uP x_ fun t41 x_ => k_ 0 (Shape.inj R_zmade.c2x0 (neg, d, n, r_, t40, t41, ())))
def R_zmade.c100002 {ρ : Type} (d : List (Int)) (n : Int) (k_ : (Int) ⊕ (Int) → Option ρ) : Option ρ :=
  bnd (W.R_zmade.c2 d n some) fun y =>
  br y
   (k_ (.inl (IntKind.wrap IntKind.i64 (n - (1 : Int)))))
   (k_ (.inr n))
def R_zmade.c100002s : Shape := ⟨[(0, q1), (1, q13), (4, q8), (5, q2)], [(4, q14)]⟩
def R_zmade.c100002x0 : Shape := ⟨[(0, q1), (1, q13), (4, q8), (5, q2)], [(4, q14)]⟩
def R_zmade.c100002r : Ck := Ck.ofLoop (S := Int) (T := Int) R_zmade.c100002s (fun x_ => uP x_ fun neg x_ => uP x_ fun d x_ => uP x_ fun n x_ => uP x_ fun t40 x_ => uP x_ fun t41 x_ => n) (fun ρ x_ s_ k_ => uP x_ fun neg x_ => uP x_ fun d x_ => uP x_ fun n x_ => uP x_ fun t40 x_ => uP x_ fun t41 x_ => R_zmade.c100002 d s_ k_) (fun ρ x_ r_ k_ => uP x_ fun neg x_ => uP x_ fun d x_ => uP x_ fun n x_ => uP x_ fun t40 x_ => uP x_ fun t41 x_ => k_ 2 (Shape.inj R_zmade.c100002x0 (neg, d, r_, t40, t41, ())))
def R_zmade (neg : Bool) (d : List (Int)) : Option ((Bool) × (List Int)) :=
  bnd (iter (fun s ↦ W.R_zmade.c100002 d s some) ↑(List.length d)) fun y =>
  br (y == (0 : Int))
   (some (false, []))
   (bnd (okIf (decide ((0 : Int) ≤ y) && decide (y ≤ (↑(List.length d) : Int)))) fun y_1 =>
    some (neg, List.take (Int.toNat y) d))
def R_zmade.ce : Go.Ql.Callee := ⟨[.bool, (.sl (.int .i64))], [(.st (.pair .bool (.sl (.int .i64))))], fun x_ => R_zmade x_.1 x_.2⟩
def R_zmade.G : Env := ⟨28, tab, [], [0, 1, 4, 5, 17, 21], [], [], [(100002, R_zmade.c100002r), (2, R_zmade.c2r)], [], tab_eqs⟩
theorem R_zmade.eq (x_ : dens [.bool, (.sl (.int .i64))]) : den R_zmade.G Go.Proofs.Tryd.f29 [.bool, (.sl (.int .i64))] [(.st (.pair .bool (.sl (.int .i64))))] x_ = R_zmade x_.1 x_.2 := by kernel_rfl
theorem R_zmade.p0 : PieceOk R_zmade.G (pieceAt (pieces R_zmade.G.cks (bodyOf Go.Proofs.Tryd.f29)) 0).1 (pieceAt (pieces R_zmade.G.cks (bodyOf Go.Proofs.Tryd.f29)) 0).2 :=
  loop_ok (s := R_zmade.c100002r) (by kernel_rfl) (by kernel_rfl) (loops_of (sh := R_zmade.c100002s) (I := fun x_ s_ => (x_.1, x_.2.1, s_, x_.2.2.2.1, x_.2.2.2.2.1, ())) (fun x_ => rfl) (fun ρ x_ s_ k_ => (nat_bnd fun _ => (nat_br nat_leaf nat_leaf))) (fun ρ x_ t k => (by kernel_rfl)) (fun x_ s => by kernel_rfl))
theorem R_zmade.p1 : PieceOk R_zmade.G (pieceAt (pieces R_zmade.G.cks (bodyOf Go.Proofs.Tryd.f29)) 1).1 (pieceAt (pieces R_zmade.G.cks (bodyOf Go.Proofs.Tryd.f29)) 1).2 :=
  region_ok (s := R_zmade.c2r) (by kernel_rfl) (by kernel_rfl) (sums_of (sh := R_zmade.c2s) (fun ρ x_ k_ => (nat_br (nat_bnd fun _ => nat_leaf) nat_leaf)) (fun ρ x_ t k => (by kernel_rfl)) (fun x_ => by kernel_rfl))
theorem R_zmade.ok : CalleeOk Go.Proofs.Tryd.prog 29 R_zmade.ce := fn_ok (G := R_zmade.G) tab_ok mixed Go.Proofs.Tryd.func29 ⟨fns_nil, mfns_nil, tab_eqs_ok⟩ (m := 2) (by kernel_rfl) ⟨⟨trivial, R_zmade.p0⟩, R_zmade.p1⟩ (by kernel_rfl) R_zmade.eq
abbrev q15 : SD := .one (.own 4 0)
abbrev q16 : SO := .arr 0 false 3 (.int .i64)
def R_zread.c1 {ρ : Type} (text : List UInt8) (k_ : Bool → Option ρ) : Option ρ :=
  br (decide ((↑(List.length text) : Int) > (0 : Int)))
   (bnd (idx text (0 : Int)) fun y =>
    k_ ((↑(UInt8.toNat y) : Int) == (45 : Int)))
   (k_ false)
def R_zread.c1s : Shape := ⟨[(0, q0), (2, q10)], [(2, q14)]⟩
def R_zread.c1x0 : Shape := ⟨[(0, q0), (2, q10), (3, q1)], [(2, q14)]⟩
def R_zread.c1r : Ck := Ck.of (T := Bool) R_zread.c1s (fun ρ x_ k_ => uP x_ fun text x_ => uP x_ fun t20 x_ => uP x_ fun t21 x_ => R_zread.c1 text k_) (fun ρ x_ r_ k_ => uP x_ fun text x_ => uP x_ fun t20 x_ => uP x_ fun t21 x_ => k_ 0 (Shape.inj R_zread.c1x0 (text, r_, t20, t21, ())))
def R_zread.c208197 {ρ : Type} (text : List UInt8) (neg : Bool) (k_ : List UInt8 → Option ρ) : Option ρ :=
  br neg
   (bnd (okIf (decide ((1 : Int) ≤ (↑(List.length text) : Int)) && decide ((↑(List.length text) : Int) ≤ (↑(List.length text) : Int)))) fun y =>
    k_ (List.drop (1 : Nat) (List.take (Int.toNat (↑(List.length text) : Int)) text)))
   (k_ text)
def R_zread.c208197s : Shape := ⟨[(0, q0), (2, q10), (3, q1)], [(2, q14)]⟩
def R_zread.c208197x0 : Shape := ⟨[(0, q0), (2, q10), (3, q1)], [(2, q14)]⟩
def R_zread.c208197r : Ck := Ck.of (T := List UInt8) R_zread.c208197s (fun ρ x_ k_ => uP x_ fun text x_ => uP x_ fun neg x_ => uP x_ fun t20 x_ => uP x_ fun t21 x_ => R_zread.c208197 text neg k_) (fun ρ x_ r_ k_ => uP x_ fun text x_ => uP x_ fun neg x_ => uP x_ fun t20 x_ => uP x_ fun t21 x_ => k_ 0 (Shape.inj R_zread.c208197x0 (r_, neg, t20, t21, ())))
def R_zread.c249158 {ρ : Type} (text : List UInt8) (n : Int) (j : Int) (k_ : Int → Option ρ) : Option ρ :=
  br (decide (j ≥ (0 : Int)))
   (bnd (idx text j) fun y =>
    k_ (IntKind.wrap IntKind.i64 (IntKind.wrap IntKind.i64 (n * (10 : Int)) + IntKind.wrap IntKind.i64 (IntKind.wrap IntKind.u8 ((↑(UInt8.toNat y) : Int) - (48 : Int))))))
   (k_ n)
def R_zread.c249158s : Shape := ⟨[(0, q0), (2, q10), (3, q1), (4, q15), (5, q2), (6, q2), (7, q2)], [(2, q14), (4, q16)]⟩
def R_zread.c249158x0 : Shape := ⟨[(0, q0), (2, q10), (3, q1), (4, q15), (5, q2), (6, q2), (7, q2)], [(2, q14), (4, q16)]⟩
def R_zread.c249158r : Ck := Ck.of (T := Int) R_zread.c249158s (fun ρ x_ k_ => uP x_ fun text x_ => uP x_ fun neg x_ => uP x_ fun i x_ => uP x_ fun n x_ => uP x_ fun j x_ => uP x_ fun t20 x_ => uP x_ fun t21 x_ => uP x_ fun d x_ => R_zread.c249158 text n j k_) (fun ρ x_ r_ k_ => uP x_ fun text x_ => uP x_ fun neg x_ => uP x_ fun i x_ => uP x_ fun n x_ => uP x_ fun j x_ => uP x_ fun t20 x_ => uP x_ fun t21 x_ => uP x_ fun d x_ => k_ 0 (Shape.inj R_zread.c249158x0 (text, neg, i, r_, j, t20, t21, d, ())))
def R_zread.c100010 {ρ : Type} (text : List UInt8) (i : Int) (n : Int) (j : Int) (k_ : ((Int) × (Int)) ⊕ ((Int) × (Int)) → Option ρ) : Option ρ :=
  br (decide (j < i))
   (bnd (W.R_zread.c249158 text n j some) fun y =>
    k_ (.inl (y, (IntKind.wrap IntKind.i64 (j + (1 : Int))))))
   (k_ (.inr (n, j)))
def R_zread.c100010s : Shape := ⟨[(0, q0), (2, q10), (3, q1), (4, q15), (5, q2), (6, q2), (7, q2)], [(2, q14), (4, q16)]⟩
def R_zread.c100010x0 : Shape := ⟨[(0, q0), (2, q10), (3, q1), (4, q15), (5, q2), (6, q2), (7, q2)], [(2, q14), (4, q16)]⟩
def R_zread.c100010r : Ck := Ck.ofLoop (S := (Int) × (Int)) (T := (Int) × (Int)) R_zread.c100010s (fun x_ => uP x_ fun text x_ => uP x_ fun neg x_ => uP x_ fun i x_ => uP x_ fun n x_ => uP x_ fun j x_ => uP x_ fun t20 x_ => uP x_ fun t21 x_ => uP x_ fun d x_ => (n, j)) (fun ρ x_ s_ k_ => uP x_ fun text x_ => uP x_ fun neg x_ => uP x_ fun i x_ => uP x_ fun n x_ => uP x_ fun j x_ => uP x_ fun t20 x_ => uP x_ fun t21 x_ => uP x_ fun d x_ => R_zread.c100010 text i s_.1 s_.2 k_) (fun ρ x_ r_ k_ => uP x_ fun text x_ => uP x_ fun neg x_ => uP x_ fun i x_ => uP x_ fun n x_ => uP x_ fun j x_ => uP x_ fun t20 x_ => uP x_ fun t21 x_ => uP x_ fun d x_ => k_ 4 (Shape.inj R_zread.c100010x0 (text, neg, i, r_.1, r_.2, t20, t21, d, ())))
def R_zread.c100006 {ρ : Type} (text : List UInt8) (i : Int) (d : List (Int)) (k_ : ((Int) × (List Int)) ⊕ ((Int) × (List Int)) → Option ρ) : Option ρ :=
  br (decide (i > (0 : Int)))
   (bnd (iter (fun s ↦ W.R_zread.c100010 text i (Prod.fst s) (Prod.snd s) some) ((0 : Int), IntKind.wrap IntKind.i64 (i - (4 : Int)))) fun y =>
    bnd (okIf (decide ((List.length d + List.length [Prod.fst y]) * (8 : Nat) ≤ (140737488355328 : Nat)) && decide (List.length d + List.length [Prod.fst y] ≤ (140737488355328 : Nat)))) fun y_1 =>
    k_ (.inl ((IntKind.wrap IntKind.i64 (i - (4 : Int))), (d ++ [Prod.fst y]))))
   (k_ (.inr (i, d)))
def R_zread.c100006s : Shape := ⟨[(0, q0), (2, q10), (3, q1), (4, q15), (5, q2)], [(2, q14), (4, q16)]⟩
def R_zread.c100006x0 : Shape := ⟨[(0, q0), (2, q10), (3, q1), (4, q15), (5, q2)], [(2, q14), (4, q16)]⟩
def R_zread.c100006r : Ck := Ck.ofLoop (S := (Int) × (List Int)) (T := (Int) × (List Int)) R_zread.c100006s (fun x_ => uP x_ fun text x_ => uP x_ fun neg x_ => uP x_ fun i x_ => uP x_ fun t20 x_ => uP x_ fun t21 x_ => uP x_ fun d x_ => (i, d)) (fun ρ x_ s_ k_ => uP x_ fun text x_ => uP x_ fun neg x_ => uP x_ fun i x_ => uP x_ fun t20 x_ => uP x_ fun t21 x_ => uP x_ fun d x_ => R_zread.c100006 text s_.1 s_.2 k_) (fun ρ x_ r_ k_ => uP x_ fun text x_ => uP x_ fun neg x_ => uP x_ fun i x_ => uP x_ fun t20 x_ => uP x_ fun t21 x_ => uP x_ fun d x_ => k_ 2 (Shape.inj R_zread.c100006x0 (text, neg, r_.1, t20, t21, r_.2, ())))
def R_zread (text : List UInt8) : Option ((Bool) × (List Int)) :=
  bnd (W.R_zread.c1 text some) fun y =>
  bnd (W.R_zread.c208197 text y some) fun y_1 =>
  bnd (iter (fun s ↦ W.R_zread.c100006 y_1 (Prod.fst s) (Prod.snd s) some) ((↑(List.length y_1) : Int), [])) fun y_2 =>
  bnd (W.R_zmade y (Prod.snd y_2)) fun y_3 =>
  some (Prod.fst y_3, Prod.snd y_3)
def R_zread.ce : Go.Ql.Callee := ⟨[.str], [(.st (.pair .bool (.sl (.int .i64))))], fun x_ => R_zread x_⟩
def R_zread.G : Env := ⟨49, tab, [(29, R_zmade.ce)], [0, 2, 3, 4, 5, 6, 7, 16, 22, 29, 33], [4], [], [(100006, R_zread.c100006r), (100010, R_zread.c100010r), (249158, R_zread.c249158r), (208197, R_zread.c208197r), (1, R_zread.c1r)], [], tab_eqs⟩
theorem R_zread.eq (x_ : dens [.str]) : den R_zread.G Go.Proofs.Tryd.f25 [.str] [(.st (.pair .bool (.sl (.int .i64))))] x_ = R_zread x_ := by kernel_rfl
theorem R_zread.p0 : PieceOk R_zread.G (pieceAt (pieces R_zread.G.cks (bodyOf Go.Proofs.Tryd.f25)) 0).1 (pieceAt (pieces R_zread.G.cks (bodyOf Go.Proofs.Tryd.f25)) 0).2 :=
  region_ok (s := R_zread.c1r) (by kernel_rfl) (by kernel_rfl) (sums_of (sh := R_zread.c1s) (fun ρ x_ k_ => (nat_br (nat_bnd fun _ => nat_leaf) nat_leaf)) (fun ρ x_ t k => (by kernel_rfl)) (fun x_ => by kernel_rfl))
theorem R_zread.p1 : PieceOk R_zread.G (pieceAt (pieces R_zread.G.cks (bodyOf Go.Proofs.Tryd.f25)) 1).1 (pieceAt (pieces R_zread.G.cks (bodyOf Go.Proofs.Tryd.f25)) 1).2 :=
  join_ok (s := R_zread.c208197r) (by kernel_rfl) (by kernel_rfl) (sums_of (sh := R_zread.c208197s) (fun ρ x_ k_ => (nat_br (nat_bnd fun _ => nat_leaf) nat_leaf)) (fun ρ x_ t k => (by kernel_rfl)) (fun x_ => by kernel_rfl))
theorem R_zread.p2 : PieceOk R_zread.G (pieceAt (pieces R_zread.G.cks (bodyOf Go.Proofs.Tryd.f25)) 2).1 (pieceAt (pieces R_zread.G.cks (bodyOf Go.Proofs.Tryd.f25)) 2).2 :=
  loop_ok (s := R_zread.c100006r) (by kernel_rfl) (by kernel_rfl) (loops_of (sh := R_zread.c100006s) (I := fun x_ s_ => (x_.1, x_.2.1, s_.1, x_.2.2.2.1, x_.2.2.2.2.1, s_.2, ())) (fun x_ => rfl) (fun ρ x_ s_ k_ => (nat_br (nat_bnd fun _ => (nat_bnd fun _ => nat_leaf)) nat_leaf)) (fun ρ x_ t k => (by kernel_rfl)) (fun x_ s => by kernel_rfl))
theorem R_zread.p3 : PieceOk R_zread.G (pieceAt (pieces R_zread.G.cks (bodyOf Go.Proofs.Tryd.f25)) 3).1 (pieceAt (pieces R_zread.G.cks (bodyOf Go.Proofs.Tryd.f25)) 3).2 :=
  loop_ok (s := R_zread.c100010r) (by kernel_rfl) (by kernel_rfl) (loops_of (sh := R_zread.c100010s) (I := fun x_ s_ => (x_.1, x_.2.1, x_.2.2.1, s_.1, s_.2, x_.2.2.2.2.2.1, x_.2.2.2.2.2.2.1, x_.2.2.2.2.2.2.2.1, ())) (fun x_ => rfl) (fun ρ x_ s_ k_ => (nat_br (nat_bnd fun _ => nat_leaf) nat_leaf)) (fun ρ x_ t k => (by kernel_rfl)) (fun x_ s => by kernel_rfl))
theorem R_zread.p4 : PieceOk R_zread.G (pieceAt (pieces R_zread.G.cks (bodyOf Go.Proofs.Tryd.f25)) 4).1 (pieceAt (pieces R_zread.G.cks (bodyOf Go.Proofs.Tryd.f25)) 4).2 :=
  join_ok (s := R_zread.c249158r) (by kernel_rfl) (by kernel_rfl) (sums_of (sh := R_zread.c249158s) (fun ρ x_ k_ => (nat_br (nat_bnd fun _ => nat_leaf) nat_leaf)) (fun ρ x_ t k => (by kernel_rfl)) (fun x_ => by kernel_rfl))
theorem R_zread.ok : CalleeOk Go.Proofs.Tryd.prog 25 R_zread.ce := fn_ok (G := R_zread.G) tab_ok mixed Go.Proofs.Tryd.func25 ⟨(fns_cons R_zmade.ok fns_nil), mfns_nil, tab_eqs_ok⟩ (m := 5) (by kernel_rfl) ⟨⟨⟨⟨⟨trivial, R_zread.p0⟩, R_zread.p1⟩, R_zread.p2⟩, R_zread.p3⟩, R_zread.p4⟩ (by kernel_rfl) R_zread.eq
def R_ZParse.c2 {ρ : Type} (text : List UInt8) (n : Int) (ok : Bool) (k_ : Bool → Option ρ) : Option ρ :=
  br (!ok)
   (k_ true)
   (k_ (decide (n < (↑(List.length text) : Int))))
def R_ZParse.c2s : Shape := ⟨[(0, q0), (2, q10), (3, q11), (4, q2), (5, q1)], [(2, q14), (3, q12)]⟩
def R_ZParse.c2x0 : Shape := ⟨[(0, q0), (2, q10), (3, q11), (4, q2), (5, q1), (18, q1)], [(2, q14), (3, q12)]⟩
def R_ZParse.c2r : Ck := Ck.of (T := Bool) R_ZParse.c2s (fun ρ x_ k_ => uP x_ fun text x_ => uP x_ fun n x_ => uP x_ fun ok x_ => uP x_ fun t20 x_ => uP x_ fun t21 x_ => uP x_ fun t30 x_ => uP x_ fun t31 x_ => R_ZParse.c2 text n ok k_) (fun ρ x_ r_ k_ => uP x_ fun text x_ => uP x_ fun n x_ => uP x_ fun ok x_ => uP x_ fun t20 x_ => uP x_ fun t21 x_ => uP x_ fun t30 x_ => uP x_ fun t31 x_ => k_ 0 (Shape.inj R_ZParse.c2x0 (text, n, ok, r_, t20, t21, t30, t31, ())))
def R_ZParse (text : List UInt8) : Option (((Bool) × (List Int)) × ((Int) × (Int))) :=
  bnd (W.R_word text true true) fun y =>
  bnd (W.R_ZParse.c2 text (Prod.fst y) (Prod.snd y) some) fun y_1 =>
  br y_1
   (some ((false, []), (1 : Int), Prod.fst y))
   (bnd (W.R_digitsOf text) fun y_2 =>
    br (decide (y_2 > (1000 : Int)))
     (some ((false, []), (2 : Int), (0 : Int)))
     (bnd (W.R_zread text) fun y_3 =>
      some ((Prod.fst y_3, Prod.snd y_3), (0 : Int), (0 : Int))))
def R_ZParse.ce : Go.Ql.Callee := ⟨[.str], [(.st (.pair .bool (.sl (.int .i64)))), (.st (.pair (.int .i64) (.int .i64)))], fun x_ => R_ZParse x_⟩
def R_ZParse.G : Env := ⟨30, tab, [(23, R_word.ce), (24, R_digitsOf.ce), (25, R_zread.ce)], [0, 2, 3, 4, 5, 18, 24], [], [], [(2, R_ZParse.c2r)], [], tab_eqs⟩
theorem R_ZParse.eq (x_ : dens [.str]) : den R_ZParse.G Go.Proofs.Tryd.f5 [.str] [(.st (.pair .bool (.sl (.int .i64)))), (.st (.pair (.int .i64) (.int .i64)))] x_ = R_ZParse x_ := by kernel_rfl
theorem R_ZParse.p0 : PieceOk R_ZParse.G (pieceAt (pieces R_ZParse.G.cks (bodyOf Go.Proofs.Tryd.f5)) 0).1 (pieceAt (pieces R_ZParse.G.cks (bodyOf Go.Proofs.Tryd.f5)) 0).2 :=
  region_ok (s := R_ZParse.c2r) (by kernel_rfl) (by kernel_rfl) (sums_of (sh := R_ZParse.c2s) (fun ρ x_ k_ => (nat_br nat_leaf nat_leaf)) (fun ρ x_ t k => (by kernel_rfl)) (fun x_ => by kernel_rfl))
theorem R_ZParse.ok : CalleeOk Go.Proofs.Tryd.prog 5 R_ZParse.ce := fn_ok (G := R_ZParse.G) tab_ok mixed Go.Proofs.Tryd.func5 ⟨(fns_cons R_word.ok (fns_cons R_digitsOf.ok (fns_cons R_zread.ok fns_nil))), mfns_nil, tab_eqs_ok⟩ (m := 1) (by kernel_rfl) ⟨trivial, R_ZParse.p0⟩ (by kernel_rfl) R_ZParse.eq
def whole_Of.c208197 {ρ : Type} (n : Int) (u : Int) (k_ : Int → Option ρ) : Option ρ :=
  br (decide (n < (0 : Int)))
   (k_ (IntKind.wrap IntKind.u64 ((0 : Int) - u)))
   (k_ u)
def whole_Of.c208197s : Shape := ⟨[(0, q2), (2, q10), (3, q5)], [(2, q9)]⟩
def whole_Of.c208197x0 : Shape := ⟨[(0, q2), (2, q10), (3, q5)], [(2, q9)]⟩
def whole_Of.c208197r : Ck := Ck.of (T := Int) whole_Of.c208197s (fun ρ x_ k_ => uP x_ fun n x_ => uP x_ fun u x_ => uP x_ fun t20 x_ => uP x_ fun t21 x_ => whole_Of.c208197 n u k_) (fun ρ x_ r_ k_ => uP x_ fun n x_ => uP x_ fun u x_ => uP x_ fun t20 x_ => uP x_ fun t21 x_ => k_ 0 (Shape.inj whole_Of.c208197x0 (n, r_, t20, t21, ())))
def whole_Of (n : Int) : Option ((Bool) × (List Int)) :=
  bnd (W.whole_Of.c208197 n (IntKind.wrap IntKind.u64 n) some) fun y =>
  bnd (W.whole_made (decide (n < (0 : Int))) [IntKind.wrap IntKind.u32 y, IntKind.wrap IntKind.u32 (Int.fdiv y ((2 : Int) ^ (32 : Nat)))]) fun y_1 =>
  some (Prod.fst y_1, Prod.snd y_1)
def whole_Of.ce : Go.Ql.Callee := ⟨[(.int .i64)], [(.st (.pair .bool (.sl (.int .u32))))], fun x_ => whole_Of x_⟩
def whole_Of.G : Env := ⟨19, tab, [(21, whole_made.ce)], [0, 2, 3, 7], [], [], [(208197, whole_Of.c208197r)], [], tab_eqs⟩
theorem whole_Of.eq (x_ : dens [(.int .i64)]) : den whole_Of.G Go.Proofs.Tryd.f11 [(.int .i64)] [(.st (.pair .bool (.sl (.int .u32))))] x_ = whole_Of x_ := by kernel_rfl
theorem whole_Of.p0 : PieceOk whole_Of.G (pieceAt (pieces whole_Of.G.cks (bodyOf Go.Proofs.Tryd.f11)) 0).1 (pieceAt (pieces whole_Of.G.cks (bodyOf Go.Proofs.Tryd.f11)) 0).2 :=
  join_ok (s := whole_Of.c208197r) (by kernel_rfl) (by kernel_rfl) (sums_of (sh := whole_Of.c208197s) (fun ρ x_ k_ => (nat_br nat_leaf nat_leaf)) (fun ρ x_ t k => (by kernel_rfl)) (fun x_ => by kernel_rfl))
theorem whole_Of.ok : CalleeOk Go.Proofs.Tryd.prog 11 whole_Of.ce := fn_ok (G := whole_Of.G) tab_ok mixed Go.Proofs.Tryd.func11 ⟨(fns_cons whole_made.ok fns_nil), mfns_nil, tab_eqs_ok⟩ (m := 1) (by kernel_rfl) ⟨trivial, whole_Of.p0⟩ (by kernel_rfl) whole_Of.eq
abbrev q17 : SD := .one (.own 0 0)
def slices_Clone_uint32.pre : Shape := ⟨[(0, q3)], []⟩
def slices_Clone_uint32.post : Shape := ⟨[(0, q17)], [(0, q7)]⟩
def slices_Clone_uint32 (s : List (Int)) : Option ((List Int) × Unit) :=
  br (List.isEmpty s)
   (both
     (some (uP ([], ()) fun u r ↦ (u, ())))
     (bnd (okIf (decide (((0 : Nat) + List.length s) * (4 : Nat) ≤ (140737488355328 : Nat)) && decide ((0 : Nat) + List.length s ≤ (140737488355328 : Nat)))) fun y =>
      some (uP (s, ()) fun u r ↦ (u, ()))))
   (bnd (okIf (decide (((0 : Nat) + List.length s) * (4 : Nat) ≤ (140737488355328 : Nat)) && decide ((0 : Nat) + List.length s ≤ (140737488355328 : Nat)))) fun y_1 =>
    some (uP (s, ()) fun u r ↦ (u, ())))
def slices_Clone_uint32.mc : MCallee := ⟨27, slices_Clone_uint32.pre, slices_Clone_uint32.post, fun x_ => slices_Clone_uint32 x_.1⟩
def slices_Clone_uint32.G : Env := ⟨8, tab, [], [0, 2, 4], [2, 5], [], [], [], tab_eqs⟩
theorem slices_Clone_uint32.eq (x_ : densU slices_Clone_uint32.mc.pre.tys) : denM slices_Clone_uint32.G Go.Proofs.Tryd.f27 slices_Clone_uint32.mc.pre slices_Clone_uint32.mc.post x_ = slices_Clone_uint32.mc.F x_ := by kernel_rfl
theorem slices_Clone_uint32.ok : MOk Go.Proofs.Tryd.prog 27 slices_Clone_uint32.mc := fnm_ok (G := slices_Clone_uint32.G) tab_ok mixed Go.Proofs.Tryd.func27 ⟨fns_nil, mfns_nil, tab_eqs_ok⟩ (m := 0) (by kernel_rfl) trivial (by kernel_rfl) slices_Clone_uint32.eq
abbrev q18 : SD := .one (.own 2000000 0)
abbrev q19 : SO := .arr 0 false 5 (.int .u8)
def slices_Reverse_byte.pre : Shape := ⟨[(0, q18)], [(2000000, q19)]⟩
def slices_Reverse_byte.post : Shape := ⟨[], [(2000000, q19)]⟩
def slices_Reverse_byte.c3 {ρ : Type} (i : Int) (j : Int) (t2000000 : List (Int)) (k_ : List (Int) → Option ρ) : Option ρ :=
  bnd (inR (List.length t2000000) j) fun y =>
  bnd (idx t2000000 j) fun y_1 =>
  bnd (inR (List.length t2000000) i) fun y_2 =>
  bnd (idx t2000000 i) fun y_3 =>
  bnd (inR (List.length t2000000) i) fun y_4 =>
  bnd (idx t2000000 i) fun y_5 =>
  bnd (inR (List.length (List.set t2000000 (Int.toNat i) y_1)) j) fun y_6 =>
  bnd (idx (List.set t2000000 (Int.toNat i) y_1) j) fun y_7 =>
  k_ (List.set (List.set t2000000 (Int.toNat i) y_1) (Int.toNat j) y_3)
def slices_Reverse_byte.c3s : Shape := ⟨[(0, q18), (2, q2), (3, q2)], [(2000000, q19)]⟩
def slices_Reverse_byte.c3x0 : Shape := ⟨[(0, q18), (2, q2), (3, q2)], [(2000000, q19)]⟩
def slices_Reverse_byte.c3r : Ck := Ck.of (T := List (Int)) slices_Reverse_byte.c3s (fun ρ x_ k_ => uP x_ fun i x_ => uP x_ fun j x_ => uP x_ fun t2000000 x_ => slices_Reverse_byte.c3 i j t2000000 k_) (fun ρ x_ r_ k_ => uP x_ fun i x_ => uP x_ fun j x_ => uP x_ fun t2000000 x_ => k_ 0 (Shape.inj slices_Reverse_byte.c3x0 (i, j, r_, ())))
def slices_Reverse_byte.c100001 {ρ : Type} (i : Int) (j : Int) (t2000000 : List (Int)) (k_ : ((Int) × (Int) × (List Int)) ⊕ ((Int) × (Int) × (List Int)) → Option ρ) : Option ρ :=
  br (decide (i < j))
   (bnd (W.slices_Reverse_byte.c3 i j t2000000 some) fun y =>
    k_ (.inl ((IntKind.wrap IntKind.i64 (i + (1 : Int))), (IntKind.wrap IntKind.i64 (j - (1 : Int))), y)))
   (k_ (.inr (i, j, t2000000)))
def slices_Reverse_byte.c100001s : Shape := ⟨[(0, q18), (2, q2), (3, q2)], [(2000000, q19)]⟩
def slices_Reverse_byte.c100001x0 : Shape := ⟨[(0, q18), (2, q2), (3, q2)], [(2000000, q19)]⟩
def slices_Reverse_byte.c100001r : Ck := Ck.ofLoop (S := (Int) × (Int) × (List Int)) (T := (Int) × (Int) × (List Int)) slices_Reverse_byte.c100001s (fun x_ => uP x_ fun i x_ => uP x_ fun j x_ => uP x_ fun t2000000 x_ => (i, j, t2000000)) (fun ρ x_ s_ k_ => uP x_ fun i x_ => uP x_ fun j x_ => uP x_ fun t2000000 x_ => slices_Reverse_byte.c100001 s_.1 s_.2.1 s_.2.2 k_) (fun ρ x_ r_ k_ => uP x_ fun i x_ => uP x_ fun j x_ => uP x_ fun t2000000 x_ => k_ 2 (Shape.inj slices_Reverse_byte.c100001x0 (r_.1, r_.2.1, r_.2.2, ())))
def slices_Reverse_byte (t2000000 : List (Int)) : Option ((List Int) × Unit) :=
  bnd (iter (fun s ↦ W.slices_Reverse_byte.c100001 (Prod.fst s) (Prod.fst (Prod.snd s)) (Prod.snd (Prod.snd s)) some) ((0 : Int), IntKind.wrap IntKind.i64 ((↑(List.length t2000000) : Int) - (1 : Int)), t2000000)) fun y =>
  some (uP (Prod.snd (Prod.snd y), ()) fun u r ↦ (u, ()))
def slices_Reverse_byte.mc : MCallee := ⟨28, slices_Reverse_byte.pre, slices_Reverse_byte.post, fun x_ => slices_Reverse_byte x_.1⟩
def slices_Reverse_byte.G : Env := ⟨28, tab, [], [0, 2, 3, 9], [2000000], [(3, [⟨[], [], [15, 16, 17, 18, 19, 20, 21, 22, 23, 24, 25], []⟩, ⟨[], [], [14, 16, 17, 18, 19, 20, 21, 22, 23, 24, 25], []⟩, ⟨[], [], [14, 15, 17, 18, 19, 20, 21, 22, 23, 24, 25, 26], [2000000]⟩, ⟨[], [], [14, 15, 16, 18, 19, 20, 21, 22, 23, 24, 25, 26], [2000000]⟩, ⟨[], [], [14, 15, 16, 17, 19, 22, 23, 24, 25], []⟩, ⟨[], [], [14, 15, 16, 17, 18, 22, 23, 24, 25], []⟩, ⟨[4, 5], [], [14, 15, 16, 17, 22, 23, 24, 25], []⟩, ⟨[6, 4, 5], [], [14, 15, 16, 17, 22, 23, 24, 25], []⟩, ⟨[], [], [14, 15, 16, 17, 18, 19, 20, 21, 23], []⟩, ⟨[], [], [14, 15, 16, 17, 18, 19, 20, 21, 22], []⟩, ⟨[8, 9], [], [14, 15, 16, 17, 18, 19, 20, 21], []⟩, ⟨[10, 8, 9], [], [14, 15, 16, 17, 18, 19, 20, 21], []⟩, ⟨[0, 1, 4, 5, 6, 7, 11, 10, 8, 9], [], [16, 17], []⟩, ⟨[12, 0, 1, 4, 5, 6, 7, 11, 10, 8, 9], [2000000], [16, 17], []⟩, ⟨[2, 3, 0, 1, 4, 5, 6, 7, 8, 9, 10, 11, 12, 13], [], [], []⟩, ⟨[14, 2, 3, 0, 1, 4, 5, 6, 7, 8, 9, 10, 11, 12, 13], [2000000], [], []⟩])], [(100001, slices_Reverse_byte.c100001r), (3, slices_Reverse_byte.c3r)], [], tab_eqs⟩
theorem slices_Reverse_byte.eq (x_ : densU slices_Reverse_byte.mc.pre.tys) : denM slices_Reverse_byte.G Go.Proofs.Tryd.f28 slices_Reverse_byte.mc.pre slices_Reverse_byte.mc.post x_ = slices_Reverse_byte.mc.F x_ := by kernel_rfl
theorem slices_Reverse_byte.p0 : PieceOk slices_Reverse_byte.G (pieceAt (pieces slices_Reverse_byte.G.cks (bodyOf Go.Proofs.Tryd.f28)) 0).1 (pieceAt (pieces slices_Reverse_byte.G.cks (bodyOf Go.Proofs.Tryd.f28)) 0).2 :=
  loop_ok (s := slices_Reverse_byte.c100001r) (by kernel_rfl) (by kernel_rfl) (loops_of (sh := slices_Reverse_byte.c100001s) (I := fun x_ s_ => (s_.1, s_.2.1, s_.2.2, ())) (fun x_ => rfl) (fun ρ x_ s_ k_ => (nat_br (nat_bnd fun _ => nat_leaf) nat_leaf)) (fun ρ x_ t k => (by kernel_rfl)) (fun x_ s => by kernel_rfl))
theorem slices_Reverse_byte.p1 : PieceOk slices_Reverse_byte.G (pieceAt (pieces slices_Reverse_byte.G.cks (bodyOf Go.Proofs.Tryd.f28)) 1).1 (pieceAt (pieces slices_Reverse_byte.G.cks (bodyOf Go.Proofs.Tryd.f28)) 1).2 :=
  region_ok (s := slices_Reverse_byte.c3r) (by kernel_rfl) (by kernel_rfl) (sums_of (sh := slices_Reverse_byte.c3s) (fun ρ x_ k_ => (nat_bnd fun _ => (nat_bnd fun _ => (nat_bnd fun _ => (nat_bnd fun _ => (nat_bnd fun _ => (nat_bnd fun _ => (nat_bnd fun _ => (nat_bnd fun _ => nat_leaf))))))))) (fun ρ x_ t k => (by kernel_rfl)) (fun x_ => by kernel_rfl))
theorem slices_Reverse_byte.ok : MOk Go.Proofs.Tryd.prog 28 slices_Reverse_byte.mc := fnm_ok (G := slices_Reverse_byte.G) tab_ok mixed Go.Proofs.Tryd.func28 ⟨fns_nil, mfns_nil, tab_eqs_ok⟩ (m := 2) (by kernel_rfl) ⟨⟨trivial, slices_Reverse_byte.p0⟩, slices_Reverse_byte.p1⟩ (by kernel_rfl) slices_Reverse_byte.eq
abbrev q20 : SD := .one (.val (.st (.pair .bool (.sl (.int .u32)))))
abbrev q21 : SD := .one (.ref 1 0)
abbrev q22 : SD := .one (.own 14 0)
def whole_Int_Text.c100008 {ρ : Type} (part : Int) (i : Int) (t14 : List (Int)) (k_ : ((Int) × (Int) × (List Int)) ⊕ ((Int) × (Int) × (List Int)) → Option ρ) : Option ρ :=
  br (decide (i ≥ (0 : Int)))
   (bnd (inR (List.length t14) i) fun y =>
    bnd (idx t14 i) fun y_1 =>
    bnd (inR (List.length t14) i) fun y_2 =>
    bnd (idx t14 i) fun y_3 =>
    k_ (.inl ((Int.tmod (ibits BinOp.or IntKind.u64 (IntKind.wrap IntKind.u64 (part * (2 : Int) ^ (32 : Nat))) (IntKind.wrap IntKind.u64 y_1)) (1000000000 : Int)), (IntKind.wrap IntKind.i64 (i - (1 : Int))), (List.set t14 (Int.toNat i) (IntKind.wrap IntKind.u32 (IntKind.wrap IntKind.u64 (Int.tdiv (ibits BinOp.or IntKind.u64 (IntKind.wrap IntKind.u64 (part * (2 : Int) ^ (32 : Nat))) (IntKind.wrap IntKind.u64 y_1)) (1000000000 : Int))))))))
   (k_ (.inr (part, i, t14)))
def whole_Int_Text.c100008s : Shape := ⟨[(0, q20), (1, q21), (2, q0), (3, q4), (4, q22), (5, q5), (6, q2)], [(1, q9), (3, q19), (14, q7)]⟩
def whole_Int_Text.c100008x0 : Shape := ⟨[(0, q20), (1, q21), (2, q0), (3, q4), (4, q22), (5, q5), (6, q2)], [(1, q9), (3, q19), (14, q7)]⟩
def whole_Int_Text.c100008r : Ck := Ck.ofLoop (S := (Int) × (Int) × (List Int)) (T := (Int) × (Int) × (List Int)) whole_Int_Text.c100008s (fun x_ => uP x_ fun a x_ => uP x_ fun t2 x_ => uP x_ fun part x_ => uP x_ fun i x_ => uP x_ fun a0 x_ => uP x_ fun a1 x_ => uP x_ fun out x_ => uP x_ fun t14 x_ => (part, i, t14)) (fun ρ x_ s_ k_ => uP x_ fun a x_ => uP x_ fun t2 x_ => uP x_ fun part x_ => uP x_ fun i x_ => uP x_ fun a0 x_ => uP x_ fun a1 x_ => uP x_ fun out x_ => uP x_ fun t14 x_ => whole_Int_Text.c100008 s_.1 s_.2.1 s_.2.2 k_) (fun ρ x_ r_ k_ => uP x_ fun a x_ => uP x_ fun t2 x_ => uP x_ fun part x_ => uP x_ fun i x_ => uP x_ fun a0 x_ => uP x_ fun a1 x_ => uP x_ fun out x_ => uP x_ fun t14 x_ => k_ 4 (Shape.inj whole_Int_Text.c100008x0 (a, t2, r_.1, r_.2.1, a0, a1, out, r_.2.2, ())))
def whole_Int_Text.c253253 {ρ : Type} (t14 : List (Int)) (k_ : List (Int) → Option ρ) : Option ρ :=
  bnd (inR (List.length t14) (IntKind.wrap IntKind.i64 ((↑(List.length t14) : Int) - (1 : Int)))) fun y =>
  bnd (idx t14 (IntKind.wrap IntKind.i64 ((↑(List.length t14) : Int) - (1 : Int)))) fun y_1 =>
  br (y_1 == (0 : Int))
   (bnd (okIf (decide ((0 : Int) ≤ IntKind.wrap IntKind.i64 ((↑(List.length t14) : Int) - (1 : Int))) && decide (IntKind.wrap IntKind.i64 ((↑(List.length t14) : Int) - (1 : Int)) ≤ (↑(List.length t14) : Int)))) fun y_2 =>
    k_ (List.take (Int.toNat (IntKind.wrap IntKind.i64 ((↑(List.length t14) : Int) - (1 : Int)))) t14))
   (k_ t14)
def whole_Int_Text.c253253s : Shape := ⟨[(0, q20), (1, q21), (2, q0), (3, q4), (4, q22), (5, q5), (6, q2)], [(1, q9), (3, q19), (14, q7)]⟩
def whole_Int_Text.c253253x0 : Shape := ⟨[(0, q20), (1, q21), (2, q0), (3, q4), (4, q22), (5, q5), (6, q2)], [(1, q9), (3, q19), (14, q7)]⟩
def whole_Int_Text.c253253r : Ck := Ck.of (T := List (Int)) whole_Int_Text.c253253s (fun ρ x_ k_ => uP x_ fun a x_ => uP x_ fun t2 x_ => uP x_ fun part x_ => uP x_ fun i x_ => uP x_ fun a0 x_ => uP x_ fun a1 x_ => uP x_ fun out x_ => uP x_ fun t14 x_ => whole_Int_Text.c253253 t14 k_) (fun ρ x_ r_ k_ => uP x_ fun a x_ => uP x_ fun t2 x_ => uP x_ fun part x_ => uP x_ fun i x_ => uP x_ fun a0 x_ => uP x_ fun a1 x_ => uP x_ fun out x_ => uP x_ fun t14 x_ => k_ 0 (Shape.inj whole_Int_Text.c253253x0 (a, t2, part, i, a0, a1, out, r_, ())))
def whole_Int_Text.c16 {ρ : Type} (part : Int) (t7 : Int) (t14 : List (Int)) (k_ : Bool → Option ρ) : Option ρ :=
  br (decide (t7 < (9 : Int)))
   (br (decide (part > (0 : Int)))
     (k_ true)
     (k_ (decide ((↑(List.length t14) : Int) > (0 : Int)))))
   (k_ false)
def whole_Int_Text.c16s : Shape := ⟨[(0, q20), (1, q21), (2, q0), (3, q4), (4, q22), (5, q5), (6, q2), (7, q2)], [(1, q9), (3, q19), (14, q7)]⟩
def whole_Int_Text.c16x0 : Shape := ⟨[(0, q20), (1, q21), (2, q0), (3, q4), (4, q22), (5, q5), (6, q2), (7, q2), (63, q1)], [(1, q9), (3, q19), (14, q7)]⟩
def whole_Int_Text.c16r : Ck := Ck.of (T := Bool) whole_Int_Text.c16s (fun ρ x_ k_ => uP x_ fun a x_ => uP x_ fun t2 x_ => uP x_ fun part x_ => uP x_ fun i x_ => uP x_ fun t7 x_ => uP x_ fun a0 x_ => uP x_ fun a1 x_ => uP x_ fun out x_ => uP x_ fun t14 x_ => whole_Int_Text.c16 part t7 t14 k_) (fun ρ x_ r_ k_ => uP x_ fun a x_ => uP x_ fun t2 x_ => uP x_ fun part x_ => uP x_ fun i x_ => uP x_ fun t7 x_ => uP x_ fun a0 x_ => uP x_ fun a1 x_ => uP x_ fun out x_ => uP x_ fun t14 x_ => k_ 0 (Shape.inj whole_Int_Text.c16x0 (a, t2, part, i, t7, r_, a0, a1, out, t14, ())))
def whole_Int_Text.c100016 {ρ : Type} (part : Int) (t7 : Int) (out : List (Int)) (t14 : List (Int)) (k_ : ((Int) × (Int) × (List Int)) ⊕ ((Int) × (Int) × (List Int)) → Option ρ) : Option ρ :=
  bnd (W.whole_Int_Text.c16 part t7 t14 some) fun y =>
  br y
   (bnd (okIf (decide ((List.length out + List.length [IntKind.wrap IntKind.u8 (IntKind.wrap IntKind.u64 ((48 : Int) + Int.tmod part (10 : Int)))]) * (1 : Nat) ≤ (140737488355328 : Nat)) && decide (List.length out + List.length [IntKind.wrap IntKind.u8 (IntKind.wrap IntKind.u64 ((48 : Int) + Int.tmod part (10 : Int)))] ≤ (140737488355328 : Nat)))) fun y_1 =>
    k_ (.inl ((IntKind.wrap IntKind.u64 (Int.tdiv part (10 : Int))), (IntKind.wrap IntKind.i64 (t7 + (1 : Int))), (out ++ [IntKind.wrap IntKind.u8 (IntKind.wrap IntKind.u64 ((48 : Int) + Int.tmod part (10 : Int)))]))))
   (k_ (.inr (part, t7, out)))
def whole_Int_Text.c100016s : Shape := ⟨[(0, q20), (1, q21), (2, q0), (3, q4), (4, q22), (5, q5), (6, q2), (7, q2)], [(1, q9), (3, q19), (14, q7)]⟩
def whole_Int_Text.c100016x0 : Shape := ⟨[(0, q20), (1, q21), (2, q0), (3, q4), (4, q22), (5, q5), (6, q2), (7, q2)], [(1, q9), (3, q19), (14, q7)]⟩
def whole_Int_Text.c100016r : Ck := Ck.ofLoop (S := (Int) × (Int) × (List Int)) (T := (Int) × (Int) × (List Int)) whole_Int_Text.c100016s (fun x_ => uP x_ fun a x_ => uP x_ fun t2 x_ => uP x_ fun part x_ => uP x_ fun i x_ => uP x_ fun t7 x_ => uP x_ fun a0 x_ => uP x_ fun a1 x_ => uP x_ fun out x_ => uP x_ fun t14 x_ => (part, t7, out)) (fun ρ x_ s_ k_ => uP x_ fun a x_ => uP x_ fun t2 x_ => uP x_ fun part x_ => uP x_ fun i x_ => uP x_ fun t7 x_ => uP x_ fun a0 x_ => uP x_ fun a1 x_ => uP x_ fun out x_ => uP x_ fun t14 x_ => whole_Int_Text.c100016 s_.1 s_.2.1 s_.2.2 t14 k_) (fun ρ x_ r_ k_ => uP x_ fun a x_ => uP x_ fun t2 x_ => uP x_ fun part x_ => uP x_ fun i x_ => uP x_ fun t7 x_ => uP x_ fun a0 x_ => uP x_ fun a1 x_ => uP x_ fun out x_ => uP x_ fun t14 x_ => k_ 6 (Shape.inj whole_Int_Text.c100016x0 (a, t2, r_.1, i, r_.2.1, a0, a1, r_.2.2, t14, ())))
def whole_Int_Text.c100005 {ρ : Type} (out : List (Int)) (t14 : List (Int)) (k_ : ((List Int) × (List Int)) ⊕ ((List Int) × (List Int)) → Option ρ) : Option ρ :=
  br (decide ((↑(List.length t14) : Int) > (0 : Int)))
   (bnd (iter (fun s ↦ W.whole_Int_Text.c100008 (Prod.fst s) (Prod.fst (Prod.snd s)) (Prod.snd (Prod.snd s)) some) ((0 : Int), IntKind.wrap IntKind.i64 ((↑(List.length t14) : Int) - (1 : Int)), t14)) fun y =>
    bnd (W.whole_Int_Text.c253253 (Prod.snd (Prod.snd y)) some) fun y_1 =>
    bnd (iter (fun s ↦ W.whole_Int_Text.c100016 (Prod.fst s) (Prod.fst (Prod.snd s)) (Prod.snd (Prod.snd s)) y_1 some) (Prod.fst y, (0 : Int), out)) fun y_2 =>
    k_ (.inl ((Prod.snd (Prod.snd y_2)), y_1)))
   (k_ (.inr (out, t14)))
def whole_Int_Text.c100005s : Shape := ⟨[(0, q20), (1, q21), (2, q0), (3, q4), (4, q22)], [(1, q9), (3, q19), (14, q7)]⟩
def whole_Int_Text.c100005x0 : Shape := ⟨[(0, q20), (1, q21), (2, q0), (3, q4), (4, q22)], [(1, q9), (3, q19), (14, q7)]⟩
def whole_Int_Text.c100005r : Ck := Ck.ofLoop (S := (List Int) × (List Int)) (T := (List Int) × (List Int)) whole_Int_Text.c100005s (fun x_ => uP x_ fun a x_ => uP x_ fun t2 x_ => uP x_ fun a0 x_ => uP x_ fun a1 x_ => uP x_ fun out x_ => uP x_ fun t14 x_ => (out, t14)) (fun ρ x_ s_ k_ => uP x_ fun a x_ => uP x_ fun t2 x_ => uP x_ fun a0 x_ => uP x_ fun a1 x_ => uP x_ fun out x_ => uP x_ fun t14 x_ => whole_Int_Text.c100005 s_.1 s_.2 k_) (fun ρ x_ r_ k_ => uP x_ fun a x_ => uP x_ fun t2 x_ => uP x_ fun a0 x_ => uP x_ fun a1 x_ => uP x_ fun out x_ => uP x_ fun t14 x_ => k_ 2 (Shape.inj whole_Int_Text.c100005x0 (a, t2, a0, a1, r_.1, r_.2, ())))
def whole_Int_Text.c281925 {ρ : Type} (a0 : Bool) (out : List (Int)) (k_ : List (Int) → Option ρ) : Option ρ :=
  br a0
   (bnd (okIf (decide ((List.length out + List.length [(45 : Int)]) * (1 : Nat) ≤ (140737488355328 : Nat)) && decide (List.length out + List.length [(45 : Int)] ≤ (140737488355328 : Nat)))) fun y =>
    k_ (out ++ [(45 : Int)]))
   (k_ out)
def whole_Int_Text.c281925s : Shape := ⟨[(0, q20), (1, q21), (2, q0), (3, q4), (4, q22)], [(1, q9), (3, q19), (14, q7)]⟩
def whole_Int_Text.c281925x0 : Shape := ⟨[(0, q20), (1, q21), (2, q0), (3, q4), (4, q22)], [(1, q9), (3, q19), (14, q7)]⟩
def whole_Int_Text.c281925r : Ck := Ck.of (T := List (Int)) whole_Int_Text.c281925s (fun ρ x_ k_ => uP x_ fun a x_ => uP x_ fun t2 x_ => uP x_ fun a0 x_ => uP x_ fun a1 x_ => uP x_ fun out x_ => uP x_ fun t14 x_ => whole_Int_Text.c281925 a0 out k_) (fun ρ x_ r_ k_ => uP x_ fun a x_ => uP x_ fun t2 x_ => uP x_ fun a0 x_ => uP x_ fun a1 x_ => uP x_ fun out x_ => uP x_ fun t14 x_ => k_ 0 (Shape.inj whole_Int_Text.c281925x0 (a, t2, a0, a1, r_, t14, ())))
def whole_Int_Text (a : (Bool) × (List Int)) : Option (List UInt8) :=
  br ((↑(List.length (Prod.snd a)) : Int) == (0 : Int))
   (some (Array.toList (ByteArray.data (ByteArray.mk #[(48 : UInt8)]))))
   (bnd (W.slices_Clone_uint32 (Prod.fst (uP (uP (Prod.snd a, ()) fun u r ↦ (u, ())) fun u r ↦ (u, ())))) fun y =>
    bnd (iter (fun s ↦ W.whole_Int_Text.c100005 (Prod.fst s) (Prod.snd s) some) ([], Prod.fst y)) fun y_1 =>
    bnd (W.whole_Int_Text.c281925 (Prod.fst a) (Prod.fst y_1) some) fun y_2 =>
    bnd (W.slices_Reverse_byte (Prod.fst (uP (y_2, ()) fun u r ↦ (u, ())))) fun y_3 =>
    some (List.map (fun n ↦ UInt8.ofNat (Int.toNat n)) (Prod.fst y_3)))
def whole_Int_Text.ce : Go.Ql.Callee := ⟨[(.st (.pair .bool (.sl (.int .u32))))], [.str], fun x_ => whole_Int_Text x_⟩
def whole_Int_Text.G : Env := ⟨84, tab, [], [0, 1, 2, 3, 4, 5, 6, 7, 11, 17, 22, 47, 63, 76], [3, 14], [], [(281925, whole_Int_Text.c281925r), (100005, whole_Int_Text.c100005r), (100016, whole_Int_Text.c100016r), (16, whole_Int_Text.c16r), (253253, whole_Int_Text.c253253r), (100008, whole_Int_Text.c100008r)], [(27, slices_Clone_uint32.mc), (28, slices_Reverse_byte.mc)], tab_eqs⟩
theorem whole_Int_Text.eq (x_ : dens [(.st (.pair .bool (.sl (.int .u32))))]) : den whole_Int_Text.G Go.Proofs.Tryd.f9 [(.st (.pair .bool (.sl (.int .u32))))] [.str] x_ = whole_Int_Text x_ := by kernel_rfl
theorem whole_Int_Text.p0 : PieceOk whole_Int_Text.G (pieceAt (pieces whole_Int_Text.G.cks (bodyOf Go.Proofs.Tryd.f9)) 0).1 (pieceAt (pieces whole_Int_Text.G.cks (bodyOf Go.Proofs.Tryd.f9)) 0).2 :=
  loop_ok (s := whole_Int_Text.c100005r) (by kernel_rfl) (by kernel_rfl) (loops_of (sh := whole_Int_Text.c100005s) (I := fun x_ s_ => (x_.1, x_.2.1, x_.2.2.1, x_.2.2.2.1, s_.1, s_.2, ())) (fun x_ => rfl) (fun ρ x_ s_ k_ => (nat_br (nat_bnd fun _ => (nat_bnd fun _ => (nat_bnd fun _ => nat_leaf))) nat_leaf)) (fun ρ x_ t k => (by kernel_rfl)) (fun x_ s => by kernel_rfl))
theorem whole_Int_Text.p1 : PieceOk whole_Int_Text.G (pieceAt (pieces whole_Int_Text.G.cks (bodyOf Go.Proofs.Tryd.f9)) 1).1 (pieceAt (pieces whole_Int_Text.G.cks (bodyOf Go.Proofs.Tryd.f9)) 1).2 :=
  loop_ok (s := whole_Int_Text.c100008r) (by kernel_rfl) (by kernel_rfl) (loops_of (sh := whole_Int_Text.c100008s) (I := fun x_ s_ => (x_.1, x_.2.1, s_.1, s_.2.1, x_.2.2.2.2.1, x_.2.2.2.2.2.1, x_.2.2.2.2.2.2.1, s_.2.2, ())) (fun x_ => rfl) (fun ρ x_ s_ k_ => (nat_br (nat_bnd fun _ => (nat_bnd fun _ => (nat_bnd fun _ => (nat_bnd fun _ => nat_leaf)))) nat_leaf)) (fun ρ x_ t k => (by kernel_rfl)) (fun x_ s => by kernel_rfl))
theorem whole_Int_Text.p2 : PieceOk whole_Int_Text.G (pieceAt (pieces whole_Int_Text.G.cks (bodyOf Go.Proofs.Tryd.f9)) 2).1 (pieceAt (pieces whole_Int_Text.G.cks (bodyOf Go.Proofs.Tryd.f9)) 2).2 :=
  join_ok (s := whole_Int_Text.c253253r) (by kernel_rfl) (by kernel_rfl) (sums_of (sh := whole_Int_Text.c253253s) (fun ρ x_ k_ => (nat_bnd fun _ => (nat_bnd fun _ => (nat_br (nat_bnd fun _ => nat_leaf) nat_leaf)))) (fun ρ x_ t k => (by kernel_rfl)) (fun x_ => by kernel_rfl))
theorem whole_Int_Text.p3 : PieceOk whole_Int_Text.G (pieceAt (pieces whole_Int_Text.G.cks (bodyOf Go.Proofs.Tryd.f9)) 3).1 (pieceAt (pieces whole_Int_Text.G.cks (bodyOf Go.Proofs.Tryd.f9)) 3).2 :=
  loop_ok (s := whole_Int_Text.c100016r) (by kernel_rfl) (by kernel_rfl) (loops_of (sh := whole_Int_Text.c100016s) (I := fun x_ s_ => (x_.1, x_.2.1, s_.1, x_.2.2.2.1, s_.2.1, x_.2.2.2.2.2.1, x_.2.2.2.2.2.2.1, s_.2.2, x_.2.2.2.2.2.2.2.2.1, ())) (fun x_ => rfl) (fun ρ x_ s_ k_ => (nat_bnd fun _ => (nat_br (nat_bnd fun _ => nat_leaf) nat_leaf))) (fun ρ x_ t k => (by kernel_rfl)) (fun x_ s => by kernel_rfl))
theorem whole_Int_Text.p4 : PieceOk whole_Int_Text.G (pieceAt (pieces whole_Int_Text.G.cks (bodyOf Go.Proofs.Tryd.f9)) 4).1 (pieceAt (pieces whole_Int_Text.G.cks (bodyOf Go.Proofs.Tryd.f9)) 4).2 :=
  region_ok (s := whole_Int_Text.c16r) (by kernel_rfl) (by kernel_rfl) (sums_of (sh := whole_Int_Text.c16s) (fun ρ x_ k_ => (nat_br (nat_br nat_leaf nat_leaf) nat_leaf)) (fun ρ x_ t k => (by kernel_rfl)) (fun x_ => by kernel_rfl))
theorem whole_Int_Text.p5 : PieceOk whole_Int_Text.G (pieceAt (pieces whole_Int_Text.G.cks (bodyOf Go.Proofs.Tryd.f9)) 5).1 (pieceAt (pieces whole_Int_Text.G.cks (bodyOf Go.Proofs.Tryd.f9)) 5).2 :=
  join_ok (s := whole_Int_Text.c281925r) (by kernel_rfl) (by kernel_rfl) (sums_of (sh := whole_Int_Text.c281925s) (fun ρ x_ k_ => (nat_br (nat_bnd fun _ => nat_leaf) nat_leaf)) (fun ρ x_ t k => (by kernel_rfl)) (fun x_ => by kernel_rfl))
theorem whole_Int_Text.ok : CalleeOk Go.Proofs.Tryd.prog 9 whole_Int_Text.ce := fn_ok (G := whole_Int_Text.G) tab_ok mixed Go.Proofs.Tryd.func9 ⟨fns_nil, (mfns_cons slices_Clone_uint32.ok (mfns_cons slices_Reverse_byte.ok mfns_nil)), tab_eqs_ok⟩ (m := 6) (by kernel_rfl) ⟨⟨⟨⟨⟨⟨trivial, whole_Int_Text.p0⟩, whole_Int_Text.p1⟩, whole_Int_Text.p2⟩, whole_Int_Text.p3⟩, whole_Int_Text.p4⟩, whole_Int_Text.p5⟩ (by kernel_rfl) whole_Int_Text.eq
def Law_wholeBegun  : Option (Bool) :=
  bnd (W.whole_Of (-70001 : Int)) fun y =>
  bnd (W.whole_Int_Text y) fun y_1 =>
  some (y_1 == Array.toList (ByteArray.data (ByteArray.mk #[(45 : UInt8), (55 : UInt8), (48 : UInt8), (48 : UInt8), (48 : UInt8), (49 : UInt8)])))
def Law_wholeBegun.ce : Go.Ql.Callee := ⟨[], [.bool], fun x_ => Law_wholeBegun⟩
def Law_wholeBegun.G : Env := ⟨4, tab, [(11, whole_Of.ce), (9, whole_Int_Text.ce)], [0], [], [], [], [], tab_eqs⟩
theorem Law_wholeBegun.eq (x_ : dens []) : den Law_wholeBegun.G Go.Proofs.Tryd.f6 [] [.bool] x_ = Law_wholeBegun := by kernel_rfl
theorem Law_wholeBegun.ok : CalleeOk Go.Proofs.Tryd.prog 6 Law_wholeBegun.ce := fn_ok (G := Law_wholeBegun.G) tab_ok mixed Go.Proofs.Tryd.func6 ⟨(fns_cons whole_Of.ok (fns_cons whole_Int_Text.ok fns_nil)), mfns_nil, tab_eqs_ok⟩ (m := 0) (by kernel_rfl) trivial (by kernel_rfl) Law_wholeBegun.eq
def whole_Int_Small.c100005 {ρ : Type} (u : Int) (t12 : List (Int)) (t13 : Int) (t14 : Int) (k_ : ((Int) × (Int)) ⊕ ((Int) × (Int)) → Option ρ) : Option ρ :=
  br (decide (t14 < t13))
   (bnd (idx t12 t14) fun y =>
    bnd (okIf (decide ((0 : Int) ≤ IntKind.wrap IntKind.i64 ((32 : Int) * t14)))) fun y_1 =>
    k_ (.inl ((ibits BinOp.or IntKind.u64 u (IntKind.wrap IntKind.u64 (IntKind.wrap IntKind.u64 y * (2 : Int) ^ Min.min (Int.toNat (IntKind.wrap IntKind.i64 ((32 : Int) * t14))) (64 : Nat)))), (IntKind.wrap IntKind.i64 (t14 + (1 : Int))))))
   (k_ (.inr (u, t14)))
def whole_Int_Small.c100005s : Shape := ⟨[(0, q20), (1, q21), (2, q2), (3, q1), (4, q5), (12, q3), (13, q2), (14, q2)], [(1, q9)]⟩
def whole_Int_Small.c100005x0 : Shape := ⟨[(0, q20), (1, q21), (2, q2), (3, q1), (4, q5), (12, q3), (13, q2), (14, q2)], [(1, q9)]⟩
def whole_Int_Small.c100005r : Ck := Ck.ofLoop (S := (Int) × (Int)) (T := (Int) × (Int)) whole_Int_Small.c100005s (fun x_ => uP x_ fun a x_ => uP x_ fun t2 x_ => uP x_ fun t3 x_ => uP x_ fun u x_ => uP x_ fun t12 x_ => uP x_ fun t13 x_ => uP x_ fun t14 x_ => uP x_ fun a0 x_ => uP x_ fun a1 x_ => (u, t14)) (fun ρ x_ s_ k_ => uP x_ fun a x_ => uP x_ fun t2 x_ => uP x_ fun t3 x_ => uP x_ fun u x_ => uP x_ fun t12 x_ => uP x_ fun t13 x_ => uP x_ fun t14 x_ => uP x_ fun a0 x_ => uP x_ fun a1 x_ => whole_Int_Small.c100005 s_.1 t12 t13 s_.2 k_) (fun ρ x_ r_ k_ => uP x_ fun a x_ => uP x_ fun t2 x_ => uP x_ fun t3 x_ => uP x_ fun u x_ => uP x_ fun t12 x_ => uP x_ fun t13 x_ => uP x_ fun t14 x_ => uP x_ fun a0 x_ => uP x_ fun a1 x_ => k_ 2 (Shape.inj whole_Int_Small.c100005x0 (a, t2, t3, r_.1, t12, t13, r_.2, a0, a1, ())))
def whole_Int_Small.c9 {ρ : Type} (u : Int) (a0 : Bool) (k_ : Bool → Option ρ) : Option ρ :=
  br a0
   (k_ (decide (u ≤ (9223372036854775808 : Int))))
   (k_ false)
def whole_Int_Small.c9s : Shape := ⟨[(0, q20), (1, q21), (2, q2), (3, q1), (4, q5), (12, q3), (13, q2), (14, q2)], [(1, q9)]⟩
def whole_Int_Small.c9x0 : Shape := ⟨[(0, q20), (1, q21), (2, q2), (3, q1), (4, q5), (12, q3), (13, q2), (14, q2), (32, q1)], [(1, q9)]⟩
def whole_Int_Small.c9r : Ck := Ck.of (T := Bool) whole_Int_Small.c9s (fun ρ x_ k_ => uP x_ fun a x_ => uP x_ fun t2 x_ => uP x_ fun t3 x_ => uP x_ fun u x_ => uP x_ fun t12 x_ => uP x_ fun t13 x_ => uP x_ fun t14 x_ => uP x_ fun a0 x_ => uP x_ fun a1 x_ => whole_Int_Small.c9 u a0 k_) (fun ρ x_ r_ k_ => uP x_ fun a x_ => uP x_ fun t2 x_ => uP x_ fun t3 x_ => uP x_ fun u x_ => uP x_ fun t12 x_ => uP x_ fun t13 x_ => uP x_ fun t14 x_ => uP x_ fun a0 x_ => uP x_ fun a1 x_ => k_ 0 (Shape.inj whole_Int_Small.c9x0 (a, t2, t3, u, t12, t13, t14, r_, a0, a1, ())))
def whole_Int_Small (a : (Bool) × (List Int)) : Option ((Int) × (Bool)) :=
  br (decide ((↑(List.length (Prod.snd a)) : Int) > (2 : Int)))
   (some ((0 : Int), false))
   (bnd (iter (fun s ↦ W.whole_Int_Small.c100005 (Prod.fst s) (Prod.snd a) (↑(List.length (Prod.snd a)) : Int) (Prod.snd s) some) ((0 : Int), (0 : Int))) fun y =>
    bnd (W.whole_Int_Small.c9 (Prod.fst y) (Prod.fst a) some) fun y_1 =>
    br y_1
     (some (IntKind.wrap IntKind.i64 (IntKind.wrap IntKind.u64 ((0 : Int) - Prod.fst y)), true))
     (br (decide (Prod.fst y > (9223372036854775807 : Int)))
       (some ((0 : Int), false))
       (some (IntKind.wrap IntKind.i64 (Prod.fst y), true))))
def whole_Int_Small.ce : Go.Ql.Callee := ⟨[(.st (.pair .bool (.sl (.int .u32))))], [(.int .i64), .bool], fun x_ => whole_Int_Small x_⟩
def whole_Int_Small.G : Env := ⟨40, tab, [], [0, 1, 2, 3, 4, 5, 6, 10, 12, 13, 14, 15, 32, 37], [], [], [(9, whole_Int_Small.c9r), (100005, whole_Int_Small.c100005r)], [], tab_eqs⟩
theorem whole_Int_Small.eq (x_ : dens [(.st (.pair .bool (.sl (.int .u32))))]) : den whole_Int_Small.G Go.Proofs.Tryd.f7 [(.st (.pair .bool (.sl (.int .u32))))] [(.int .i64), .bool] x_ = whole_Int_Small x_ := by kernel_rfl
theorem whole_Int_Small.p0 : PieceOk whole_Int_Small.G (pieceAt (pieces whole_Int_Small.G.cks (bodyOf Go.Proofs.Tryd.f7)) 0).1 (pieceAt (pieces whole_Int_Small.G.cks (bodyOf Go.Proofs.Tryd.f7)) 0).2 :=
  loop_ok (s := whole_Int_Small.c100005r) (by kernel_rfl) (by kernel_rfl) (loops_of (sh := whole_Int_Small.c100005s) (I := fun x_ s_ => (x_.1, x_.2.1, x_.2.2.1, s_.1, x_.2.2.2.2.1, x_.2.2.2.2.2.1, s_.2, x_.2.2.2.2.2.2.2.1, x_.2.2.2.2.2.2.2.2.1, ())) (fun x_ => rfl) (fun ρ x_ s_ k_ => (nat_br (nat_bnd fun _ => (nat_bnd fun _ => nat_leaf)) nat_leaf)) (fun ρ x_ t k => (by kernel_rfl)) (fun x_ s => by kernel_rfl))
theorem whole_Int_Small.p1 : PieceOk whole_Int_Small.G (pieceAt (pieces whole_Int_Small.G.cks (bodyOf Go.Proofs.Tryd.f7)) 1).1 (pieceAt (pieces whole_Int_Small.G.cks (bodyOf Go.Proofs.Tryd.f7)) 1).2 :=
  region_ok (s := whole_Int_Small.c9r) (by kernel_rfl) (by kernel_rfl) (sums_of (sh := whole_Int_Small.c9s) (fun ρ x_ k_ => (nat_br nat_leaf nat_leaf)) (fun ρ x_ t k => (by kernel_rfl)) (fun x_ => by kernel_rfl))
theorem whole_Int_Small.ok : CalleeOk Go.Proofs.Tryd.prog 7 whole_Int_Small.ce := fn_ok (G := whole_Int_Small.G) tab_ok mixed Go.Proofs.Tryd.func7 ⟨fns_nil, mfns_nil, tab_eqs_ok⟩ (m := 2) (by kernel_rfl) ⟨⟨trivial, whole_Int_Small.p0⟩, whole_Int_Small.p1⟩ (by kernel_rfl) whole_Int_Small.eq
def R_ZOf.c208197 {ρ : Type} (n : Int) (u : Int) (k_ : Int → Option ρ) : Option ρ :=
  br (decide (n < (0 : Int)))
   (k_ (IntKind.wrap IntKind.u64 ((0 : Int) - u)))
   (k_ u)
def R_ZOf.c208197s : Shape := ⟨[(0, q2), (2, q10), (3, q5)], [(2, q14)]⟩
def R_ZOf.c208197x0 : Shape := ⟨[(0, q2), (2, q10), (3, q5)], [(2, q14)]⟩
def R_ZOf.c208197r : Ck := Ck.of (T := Int) R_ZOf.c208197s (fun ρ x_ k_ => uP x_ fun n x_ => uP x_ fun u x_ => uP x_ fun t20 x_ => uP x_ fun t21 x_ => R_ZOf.c208197 n u k_) (fun ρ x_ r_ k_ => uP x_ fun n x_ => uP x_ fun u x_ => uP x_ fun t20 x_ => uP x_ fun t21 x_ => k_ 0 (Shape.inj R_ZOf.c208197x0 (n, r_, t20, t21, ())))
def R_ZOf.c100005 {ρ : Type} (u : Int) (d : List (Int)) (k_ : ((Int) × (List Int)) ⊕ ((Int) × (List Int)) → Option ρ) : Option ρ :=
  br (decide (u > (0 : Int)))
   (bnd (okIf (decide ((List.length d + List.length [IntKind.wrap IntKind.i64 (Int.tmod u (10000 : Int))]) * (8 : Nat) ≤ (140737488355328 : Nat)) && decide (List.length d + List.length [IntKind.wrap IntKind.i64 (Int.tmod u (10000 : Int))] ≤ (140737488355328 : Nat)))) fun y =>
    k_ (.inl ((IntKind.wrap IntKind.u64 (Int.tdiv u (10000 : Int))), (d ++ [IntKind.wrap IntKind.i64 (Int.tmod u (10000 : Int))]))))
   (k_ (.inr (u, d)))
def R_ZOf.c100005s : Shape := ⟨[(0, q2), (2, q10), (3, q5), (4, q15)], [(2, q14), (4, q16)]⟩
def R_ZOf.c100005x0 : Shape := ⟨[(0, q2), (2, q10), (3, q5), (4, q15)], [(2, q14), (4, q16)]⟩
def R_ZOf.c100005r : Ck := Ck.ofLoop (S := (Int) × (List Int)) (T := (Int) × (List Int)) R_ZOf.c100005s (fun x_ => uP x_ fun n x_ => uP x_ fun u x_ => uP x_ fun t20 x_ => uP x_ fun t21 x_ => uP x_ fun d x_ => (u, d)) (fun ρ x_ s_ k_ => uP x_ fun n x_ => uP x_ fun u x_ => uP x_ fun t20 x_ => uP x_ fun t21 x_ => uP x_ fun d x_ => R_ZOf.c100005 s_.1 s_.2 k_) (fun ρ x_ r_ k_ => uP x_ fun n x_ => uP x_ fun u x_ => uP x_ fun t20 x_ => uP x_ fun t21 x_ => uP x_ fun d x_ => k_ 2 (Shape.inj R_ZOf.c100005x0 (n, r_.1, t20, t21, r_.2, ())))
def R_ZOf (n : Int) : Option ((Bool) × (List Int)) :=
  bnd (W.R_ZOf.c208197 n (IntKind.wrap IntKind.u64 n) some) fun y =>
  bnd (iter (fun s ↦ W.R_ZOf.c100005 (Prod.fst s) (Prod.snd s) some) (y, [])) fun y_1 =>
  bnd (W.R_zmade (decide (n < (0 : Int))) (Prod.snd y_1)) fun y_2 =>
  some (Prod.fst y_2, Prod.snd y_2)
def R_ZOf.ce : Go.Ql.Callee := ⟨[(.int .i64)], [(.st (.pair .bool (.sl (.int .i64))))], fun x_ => R_ZOf x_⟩
def R_ZOf.G : Env := ⟨25, tab, [(29, R_zmade.ce)], [0, 2, 3, 4, 8, 12], [4], [], [(100005, R_ZOf.c100005r), (208197, R_ZOf.c208197r)], [], tab_eqs⟩
theorem R_ZOf.eq (x_ : dens [(.int .i64)]) : den R_ZOf.G Go.Proofs.Tryd.f12 [(.int .i64)] [(.st (.pair .bool (.sl (.int .i64))))] x_ = R_ZOf x_ := by kernel_rfl
theorem R_ZOf.p0 : PieceOk R_ZOf.G (pieceAt (pieces R_ZOf.G.cks (bodyOf Go.Proofs.Tryd.f12)) 0).1 (pieceAt (pieces R_ZOf.G.cks (bodyOf Go.Proofs.Tryd.f12)) 0).2 :=
  join_ok (s := R_ZOf.c208197r) (by kernel_rfl) (by kernel_rfl) (sums_of (sh := R_ZOf.c208197s) (fun ρ x_ k_ => (nat_br nat_leaf nat_leaf)) (fun ρ x_ t k => (by kernel_rfl)) (fun x_ => by kernel_rfl))
theorem R_ZOf.p1 : PieceOk R_ZOf.G (pieceAt (pieces R_ZOf.G.cks (bodyOf Go.Proofs.Tryd.f12)) 1).1 (pieceAt (pieces R_ZOf.G.cks (bodyOf Go.Proofs.Tryd.f12)) 1).2 :=
  loop_ok (s := R_ZOf.c100005r) (by kernel_rfl) (by kernel_rfl) (loops_of (sh := R_ZOf.c100005s) (I := fun x_ s_ => (x_.1, s_.1, x_.2.2.1, x_.2.2.2.1, s_.2, ())) (fun x_ => rfl) (fun ρ x_ s_ k_ => (nat_br (nat_bnd fun _ => nat_leaf) nat_leaf)) (fun ρ x_ t k => (by kernel_rfl)) (fun x_ s => by kernel_rfl))
theorem R_ZOf.ok : CalleeOk Go.Proofs.Tryd.prog 12 R_ZOf.ce := fn_ok (G := R_ZOf.G) tab_ok mixed Go.Proofs.Tryd.func12 ⟨(fns_cons R_zmade.ok fns_nil), mfns_nil, tab_eqs_ok⟩ (m := 2) (by kernel_rfl) ⟨⟨trivial, R_ZOf.p0⟩, R_ZOf.p1⟩ (by kernel_rfl) R_ZOf.eq
def R_ZNeg (a : (Bool) × (List Int)) : Option ((Bool) × (List Int)) :=
  bnd (W.R_zmade (!Prod.fst a) (Prod.snd a)) fun y =>
  some (Prod.fst y, Prod.snd y)
def R_ZNeg.ce : Go.Ql.Callee := ⟨[(.st (.pair .bool (.sl (.int .i64))))], [(.st (.pair .bool (.sl (.int .i64))))], fun x_ => R_ZNeg x_⟩
def R_ZNeg.G : Env := ⟨9, tab, [(29, R_zmade.ce)], [0, 1, 2], [], [], [], [], tab_eqs⟩
theorem R_ZNeg.eq (x_ : dens [(.st (.pair .bool (.sl (.int .i64))))]) : den R_ZNeg.G Go.Proofs.Tryd.f16 [(.st (.pair .bool (.sl (.int .i64))))] [(.st (.pair .bool (.sl (.int .i64))))] x_ = R_ZNeg x_ := by kernel_rfl
theorem R_ZNeg.ok : CalleeOk Go.Proofs.Tryd.prog 16 R_ZNeg.ce := fn_ok (G := R_ZNeg.G) tab_ok mixed Go.Proofs.Tryd.func16 ⟨(fns_cons R_zmade.ok fns_nil), mfns_nil, tab_eqs_ok⟩ (m := 0) (by kernel_rfl) trivial (by kernel_rfl) R_ZNeg.eq
abbrev q23 : SD := .one (.own 5 0)
def R_dadd.c4 {ρ : Type} (a : List (Int)) (b : List (Int)) (c : Int) (i : Int) (k_ : Bool → Option ρ) : Option ρ :=
  br (decide (i < (↑(List.length a) : Int)))
   (k_ true)
   (br (decide (i < (↑(List.length b) : Int)))
     (k_ true)
     (k_ (decide (c > (0 : Int)))))
def R_dadd.c4s : Shape := ⟨[(0, q13), (1, q13), (4, q13), (5, q23), (6, q2), (7, q2)], [(5, q16)]⟩
def R_dadd.c4x0 : Shape := ⟨[(0, q13), (1, q13), (4, q13), (5, q23), (6, q2), (7, q2), (21, q1)], [(5, q16)]⟩
def R_dadd.c4r : Ck := Ck.of (T := Bool) R_dadd.c4s (fun ρ x_ k_ => uP x_ fun a x_ => uP x_ fun b x_ => uP x_ fun t4 x_ => uP x_ fun c x_ => uP x_ fun i x_ => uP x_ fun out x_ => R_dadd.c4 a b c i k_) (fun ρ x_ r_ k_ => uP x_ fun a x_ => uP x_ fun b x_ => uP x_ fun t4 x_ => uP x_ fun c x_ => uP x_ fun i x_ => uP x_ fun out x_ => k_ 0 (Shape.inj R_dadd.c4x0 (a, b, t4, c, i, r_, out, ())))
def R_dadd.c224581 {ρ : Type} (a : List (Int)) (c : Int) (i : Int) (k_ : Int → Option ρ) : Option ρ :=
  br (decide (i < (↑(List.length a) : Int)))
   (bnd (idx a i) fun y =>
    k_ (IntKind.wrap IntKind.i64 (c + y)))
   (k_ c)
def R_dadd.c224581s : Shape := ⟨[(0, q13), (1, q13), (4, q13), (5, q23), (6, q2), (7, q2)], [(5, q16)]⟩
def R_dadd.c224581x0 : Shape := ⟨[(0, q13), (1, q13), (4, q13), (5, q23), (6, q2), (7, q2)], [(5, q16)]⟩
def R_dadd.c224581r : Ck := Ck.of (T := Int) R_dadd.c224581s (fun ρ x_ k_ => uP x_ fun a x_ => uP x_ fun b x_ => uP x_ fun t4 x_ => uP x_ fun c x_ => uP x_ fun i x_ => uP x_ fun out x_ => R_dadd.c224581 a c i k_) (fun ρ x_ r_ k_ => uP x_ fun a x_ => uP x_ fun b x_ => uP x_ fun t4 x_ => uP x_ fun c x_ => uP x_ fun i x_ => uP x_ fun out x_ => k_ 0 (Shape.inj R_dadd.c224581x0 (a, b, t4, r_, i, out, ())))
def R_dadd.c232773 {ρ : Type} (b : List (Int)) (c : Int) (i : Int) (k_ : Int → Option ρ) : Option ρ :=
  br (decide (i < (↑(List.length b) : Int)))
   (bnd (idx b i) fun y =>
    k_ (IntKind.wrap IntKind.i64 (c + y)))
   (k_ c)
def R_dadd.c232773s : Shape := ⟨[(0, q13), (1, q13), (4, q13), (5, q23), (6, q2), (7, q2)], [(5, q16)]⟩
def R_dadd.c232773x0 : Shape := ⟨[(0, q13), (1, q13), (4, q13), (5, q23), (6, q2), (7, q2)], [(5, q16)]⟩
def R_dadd.c232773r : Ck := Ck.of (T := Int) R_dadd.c232773s (fun ρ x_ k_ => uP x_ fun a x_ => uP x_ fun b x_ => uP x_ fun t4 x_ => uP x_ fun c x_ => uP x_ fun i x_ => uP x_ fun out x_ => R_dadd.c232773 b c i k_) (fun ρ x_ r_ k_ => uP x_ fun a x_ => uP x_ fun b x_ => uP x_ fun t4 x_ => uP x_ fun c x_ => uP x_ fun i x_ => uP x_ fun out x_ => k_ 0 (Shape.inj R_dadd.c232773x0 (a, b, t4, r_, i, out, ())))
def R_dadd.c100004 {ρ : Type} (a : List (Int)) (b : List (Int)) (c : Int) (i : Int) (out : List (Int)) (k_ : ((Int) × (Int) × (List Int)) ⊕ ((Int) × (Int) × (List Int)) → Option ρ) : Option ρ :=
  bnd (W.R_dadd.c4 a b c i some) fun y =>
  br y
   (bnd (W.R_dadd.c224581 a c i some) fun y_1 =>
    bnd (W.R_dadd.c232773 b y_1 i some) fun y_2 =>
    bnd (okIf (decide ((List.length out + List.length [Int.tmod y_2 (10000 : Int)]) * (8 : Nat) ≤ (140737488355328 : Nat)) && decide (List.length out + List.length [Int.tmod y_2 (10000 : Int)] ≤ (140737488355328 : Nat)))) fun y_3 =>
    k_ (.inl ((IntKind.wrap IntKind.i64 (Int.tdiv y_2 (10000 : Int))), (IntKind.wrap IntKind.i64 (i + (1 : Int))), (out ++ [Int.tmod y_2 (10000 : Int)]))))
   (k_ (.inr (c, i, out)))
def R_dadd.c100004s : Shape := ⟨[(0, q13), (1, q13), (4, q13), (5, q23), (6, q2), (7, q2)], [(5, q16)]⟩
def R_dadd.c100004x0 : Shape := ⟨[(0, q13), (1, q13), (4, q13), (5, q23), (6, q2), (7, q2)], [(5, q16)]⟩
def R_dadd.c100004r : Ck := Ck.ofLoop (S := (Int) × (Int) × (List Int)) (T := (Int) × (Int) × (List Int)) R_dadd.c100004s (fun x_ => uP x_ fun a x_ => uP x_ fun b x_ => uP x_ fun t4 x_ => uP x_ fun c x_ => uP x_ fun i x_ => uP x_ fun out x_ => (c, i, out)) (fun ρ x_ s_ k_ => uP x_ fun a x_ => uP x_ fun b x_ => uP x_ fun t4 x_ => uP x_ fun c x_ => uP x_ fun i x_ => uP x_ fun out x_ => R_dadd.c100004 a b s_.1 s_.2.1 s_.2.2 k_) (fun ρ x_ r_ k_ => uP x_ fun a x_ => uP x_ fun b x_ => uP x_ fun t4 x_ => uP x_ fun c x_ => uP x_ fun i x_ => uP x_ fun out x_ => k_ 2 (Shape.inj R_dadd.c100004x0 (a, b, t4, r_.1, r_.2.1, r_.2.2, ())))
def R_dadd (a : List (Int)) (b : List (Int)) : Option (List Int) :=
  bnd (iter (fun s ↦ W.R_dadd.c100004 a b (Prod.fst s) (Prod.fst (Prod.snd s)) (Prod.snd (Prod.snd s)) some) ((0 : Int), (0 : Int), [])) fun y =>
  some (Prod.snd (Prod.snd y))
def R_dadd.ce : Go.Ql.Callee := ⟨[(.sl (.int .i64)), (.sl (.int .i64))], [(.sl (.int .i64))], fun x_ => R_dadd x_.1 x_.2⟩
def R_dadd.G : Env := ⟨52, tab, [], [0, 1, 4, 5, 6, 7, 21, 27, 37], [5], [], [(100004, R_dadd.c100004r), (232773, R_dadd.c232773r), (224581, R_dadd.c224581r), (4, R_dadd.c4r)], [], tab_eqs⟩
theorem R_dadd.eq (x_ : dens [(.sl (.int .i64)), (.sl (.int .i64))]) : den R_dadd.G Go.Proofs.Tryd.f39 [(.sl (.int .i64)), (.sl (.int .i64))] [(.sl (.int .i64))] x_ = R_dadd x_.1 x_.2 := by kernel_rfl
theorem R_dadd.p0 : PieceOk R_dadd.G (pieceAt (pieces R_dadd.G.cks (bodyOf Go.Proofs.Tryd.f39)) 0).1 (pieceAt (pieces R_dadd.G.cks (bodyOf Go.Proofs.Tryd.f39)) 0).2 :=
  loop_ok (s := R_dadd.c100004r) (by kernel_rfl) (by kernel_rfl) (loops_of (sh := R_dadd.c100004s) (I := fun x_ s_ => (x_.1, x_.2.1, x_.2.2.1, s_.1, s_.2.1, s_.2.2, ())) (fun x_ => rfl) (fun ρ x_ s_ k_ => (nat_bnd fun _ => (nat_br (nat_bnd fun _ => (nat_bnd fun _ => (nat_bnd fun _ => nat_leaf))) nat_leaf))) (fun ρ x_ t k => (by kernel_rfl)) (fun x_ s => by kernel_rfl))
theorem R_dadd.p1 : PieceOk R_dadd.G (pieceAt (pieces R_dadd.G.cks (bodyOf Go.Proofs.Tryd.f39)) 1).1 (pieceAt (pieces R_dadd.G.cks (bodyOf Go.Proofs.Tryd.f39)) 1).2 :=
  region_ok (s := R_dadd.c4r) (by kernel_rfl) (by kernel_rfl) (sums_of (sh := R_dadd.c4s) (fun ρ x_ k_ => (nat_br nat_leaf (nat_br nat_leaf nat_leaf))) (fun ρ x_ t k => (by kernel_rfl)) (fun x_ => by kernel_rfl))
theorem R_dadd.p2 : PieceOk R_dadd.G (pieceAt (pieces R_dadd.G.cks (bodyOf Go.Proofs.Tryd.f39)) 2).1 (pieceAt (pieces R_dadd.G.cks (bodyOf Go.Proofs.Tryd.f39)) 2).2 :=
  join_ok (s := R_dadd.c224581r) (by kernel_rfl) (by kernel_rfl) (sums_of (sh := R_dadd.c224581s) (fun ρ x_ k_ => (nat_br (nat_bnd fun _ => nat_leaf) nat_leaf)) (fun ρ x_ t k => (by kernel_rfl)) (fun x_ => by kernel_rfl))
theorem R_dadd.p3 : PieceOk R_dadd.G (pieceAt (pieces R_dadd.G.cks (bodyOf Go.Proofs.Tryd.f39)) 3).1 (pieceAt (pieces R_dadd.G.cks (bodyOf Go.Proofs.Tryd.f39)) 3).2 :=
  join_ok (s := R_dadd.c232773r) (by kernel_rfl) (by kernel_rfl) (sums_of (sh := R_dadd.c232773s) (fun ρ x_ k_ => (nat_br (nat_bnd fun _ => nat_leaf) nat_leaf)) (fun ρ x_ t k => (by kernel_rfl)) (fun x_ => by kernel_rfl))
theorem R_dadd.ok : CalleeOk Go.Proofs.Tryd.prog 39 R_dadd.ce := fn_ok (G := R_dadd.G) tab_ok mixed Go.Proofs.Tryd.func39 ⟨fns_nil, mfns_nil, tab_eqs_ok⟩ (m := 4) (by kernel_rfl) ⟨⟨⟨⟨trivial, R_dadd.p0⟩, R_dadd.p1⟩, R_dadd.p2⟩, R_dadd.p3⟩ (by kernel_rfl) R_dadd.eq
def R_dcmp.c8 {ρ : Type} (a : List (Int)) (b : List (Int)) (i : Int) (k_ : Bool → Option ρ) : Option ρ :=
  bnd (idx a i) fun y =>
  bnd (idx b i) fun y_1 =>
  k_ (decide (y < y_1))
def R_dcmp.c8s : Shape := ⟨[(0, q13), (1, q13), (4, q2), (5, q2)], []⟩
def R_dcmp.c8x0 : Shape := ⟨[(0, q13), (1, q13), (4, q2), (5, q2), (31, q1)], []⟩
def R_dcmp.c8r : Ck := Ck.of (T := Bool) R_dcmp.c8s (fun ρ x_ k_ => uP x_ fun a x_ => uP x_ fun b x_ => uP x_ fun t4 x_ => uP x_ fun i x_ => R_dcmp.c8 a b i k_) (fun ρ x_ r_ k_ => uP x_ fun a x_ => uP x_ fun b x_ => uP x_ fun t4 x_ => uP x_ fun i x_ => k_ 0 (Shape.inj R_dcmp.c8x0 (a, b, t4, i, r_, ())))
def R_dcmp.c10 {ρ : Type} (a : List (Int)) (b : List (Int)) (i : Int) (k_ : Bool → Option ρ) : Option ρ :=
  bnd (idx a i) fun y =>
  bnd (idx b i) fun y_1 =>
  k_ (decide (y > y_1))
def R_dcmp.c10s : Shape := ⟨[(0, q13), (1, q13), (4, q2), (5, q2)], []⟩
def R_dcmp.c10x0 : Shape := ⟨[(0, q13), (1, q13), (4, q2), (5, q2), (40, q1)], []⟩
def R_dcmp.c10r : Ck := Ck.of (T := Bool) R_dcmp.c10s (fun ρ x_ k_ => uP x_ fun a x_ => uP x_ fun b x_ => uP x_ fun t4 x_ => uP x_ fun i x_ => R_dcmp.c10 a b i k_) (fun ρ x_ r_ k_ => uP x_ fun a x_ => uP x_ fun b x_ => uP x_ fun t4 x_ => uP x_ fun i x_ => k_ 0 (Shape.inj R_dcmp.c10x0 (a, b, t4, i, r_, ())))
def R_dcmp.c100006 {ρ : Type} (a : List (Int)) (b : List (Int)) (i : Int) (k_ : (Int) ⊕ (((Int) × (Int)) ⊕ (Int)) → Option ρ) : Option ρ :=
  br (decide (i ≥ (0 : Int)))
   (bnd (W.R_dcmp.c8 a b i some) fun y =>
    br y
     (k_ (.inr (.inl ((-1 : Int), i))))
     (bnd (W.R_dcmp.c10 a b i some) fun y_1 =>
      br y_1
       (k_ (.inr (.inl ((1 : Int), i))))
       (k_ (.inl (IntKind.wrap IntKind.i64 (i - (1 : Int)))))))
   (k_ (.inr (.inr i)))
def R_dcmp.c100006s : Shape := ⟨[(0, q13), (1, q13), (4, q2), (5, q2)], []⟩
def R_dcmp.c100006x0 : Shape := ⟨[(0, q13), (1, q13), (4, q2), (5, q2)], []⟩
def R_dcmp.c100006x1 : Shape := ⟨[(0, q13), (1, q13), (4, q2), (5, q2)], []⟩
def R_dcmp.c100006r : Ck := Ck.ofLoop (S := Int) (T := ((Int) × (Int)) ⊕ (Int)) R_dcmp.c100006s (fun x_ => uP x_ fun a x_ => uP x_ fun b x_ => uP x_ fun t4 x_ => uP x_ fun i x_ => i) (fun ρ x_ s_ k_ => uP x_ fun a x_ => uP x_ fun b x_ => uP x_ fun t4 x_ => uP x_ fun i x_ => R_dcmp.c100006 a b s_ k_) (fun ρ x_ r_ k_ => uP x_ fun a x_ => uP x_ fun b x_ => uP x_ fun t4 x_ => uP x_ fun i x_ => sel r_ (fun r_ => k_ 1 (Shape.inj R_dcmp.c100006x0 (a, b, r_.1, r_.2, ()))) (fun r_ => k_ 2 (Shape.inj R_dcmp.c100006x1 (a, b, t4, r_, ()))))
def R_dcmp (a : List (Int)) (b : List (Int)) : Option (Int) :=
  br ((↑(List.length a) : Int) != (↑(List.length b) : Int))
   (br (decide ((↑(List.length a) : Int) < (↑(List.length b) : Int)))
     (some (-1 : Int))
     (some (1 : Int)))
   (bnd (iter (fun s ↦ W.R_dcmp.c100006 a b s some) (IntKind.wrap IntKind.i64 ((↑(List.length a) : Int) - (1 : Int)))) fun y =>
    sel y
     (fun u => some (Prod.fst u))
     (fun v => some (0 : Int)))
def R_dcmp.ce : Go.Ql.Callee := ⟨[(.sl (.int .i64)), (.sl (.int .i64))], [(.int .i64)], fun x_ => R_dcmp x_.1 x_.2⟩
def R_dcmp.G : Env := ⟨41, tab, [], [0, 1, 4, 5, 10, 15, 20, 31, 40], [], [(10, [⟨[], [], [33, 36, 37, 38, 39], []⟩, ⟨[], [], [32, 36, 37, 38, 39], []⟩, ⟨[0, 1], [], [36, 37, 38, 39], []⟩, ⟨[2, 0, 1], [], [36, 37, 38, 39], []⟩, ⟨[], [], [32, 33, 34, 35, 37], []⟩, ⟨[], [], [32, 33, 34, 35, 36], []⟩, ⟨[4, 5], [], [32, 33, 34, 35], []⟩, ⟨[6, 4, 5], [], [32, 33, 34, 35], []⟩, ⟨[3, 2, 0, 1, 7, 6, 4, 5], [], [], []⟩]),
  (8, [⟨[], [], [24, 27, 28, 29, 30], []⟩, ⟨[], [], [23, 27, 28, 29, 30], []⟩, ⟨[0, 1], [], [27, 28, 29, 30], []⟩, ⟨[2, 0, 1], [], [27, 28, 29, 30], []⟩, ⟨[], [], [23, 24, 25, 26, 28], []⟩, ⟨[], [], [23, 24, 25, 26, 27], []⟩, ⟨[4, 5], [], [23, 24, 25, 26], []⟩, ⟨[6, 4, 5], [], [23, 24, 25, 26], []⟩, ⟨[3, 2, 0, 1, 7, 6, 4, 5], [], [], []⟩])], [(100006, R_dcmp.c100006r), (10, R_dcmp.c10r), (8, R_dcmp.c8r)], [], tab_eqs⟩
theorem R_dcmp.eq (x_ : dens [(.sl (.int .i64)), (.sl (.int .i64))]) : den R_dcmp.G Go.Proofs.Tryd.f40 [(.sl (.int .i64)), (.sl (.int .i64))] [(.int .i64)] x_ = R_dcmp x_.1 x_.2 := by kernel_rfl
theorem R_dcmp.p0 : PieceOk R_dcmp.G (pieceAt (pieces R_dcmp.G.cks (bodyOf Go.Proofs.Tryd.f40)) 0).1 (pieceAt (pieces R_dcmp.G.cks (bodyOf Go.Proofs.Tryd.f40)) 0).2 :=
  loop_ok (s := R_dcmp.c100006r) (by kernel_rfl) (by kernel_rfl) (loops_of (sh := R_dcmp.c100006s) (I := fun x_ s_ => (x_.1, x_.2.1, x_.2.2.1, s_, ())) (fun x_ => rfl) (fun ρ x_ s_ k_ => (nat_br (nat_bnd fun _ => (nat_br nat_leaf (nat_bnd fun _ => (nat_br nat_leaf nat_leaf)))) nat_leaf)) (fun ρ x_ t k => (nat_sel (fun _ => (by kernel_rfl)) (fun _ => (by kernel_rfl)))) (fun x_ s => by kernel_rfl))
theorem R_dcmp.p1 : PieceOk R_dcmp.G (pieceAt (pieces R_dcmp.G.cks (bodyOf Go.Proofs.Tryd.f40)) 1).1 (pieceAt (pieces R_dcmp.G.cks (bodyOf Go.Proofs.Tryd.f40)) 1).2 :=
  region_ok (s := R_dcmp.c8r) (by kernel_rfl) (by kernel_rfl) (sums_of (sh := R_dcmp.c8s) (fun ρ x_ k_ => (nat_bnd fun _ => (nat_bnd fun _ => nat_leaf))) (fun ρ x_ t k => (by kernel_rfl)) (fun x_ => by kernel_rfl))
theorem R_dcmp.p2 : PieceOk R_dcmp.G (pieceAt (pieces R_dcmp.G.cks (bodyOf Go.Proofs.Tryd.f40)) 2).1 (pieceAt (pieces R_dcmp.G.cks (bodyOf Go.Proofs.Tryd.f40)) 2).2 :=
  region_ok (s := R_dcmp.c10r) (by kernel_rfl) (by kernel_rfl) (sums_of (sh := R_dcmp.c10s) (fun ρ x_ k_ => (nat_bnd fun _ => (nat_bnd fun _ => nat_leaf))) (fun ρ x_ t k => (by kernel_rfl)) (fun x_ => by kernel_rfl))
theorem R_dcmp.ok : CalleeOk Go.Proofs.Tryd.prog 40 R_dcmp.ce := fn_ok (G := R_dcmp.G) tab_ok mixed Go.Proofs.Tryd.func40 ⟨fns_nil, mfns_nil, tab_eqs_ok⟩ (m := 3) (by kernel_rfl) ⟨⟨⟨trivial, R_dcmp.p0⟩, R_dcmp.p1⟩, R_dcmp.p2⟩ (by kernel_rfl) R_dcmp.eq
def R_dsub.c228677 {ρ : Type} (b : List (Int)) (i : Int) (x : Int) (k_ : Int → Option ρ) : Option ρ :=
  br (decide (i < (↑(List.length b) : Int)))
   (bnd (idx b i) fun y =>
    k_ (IntKind.wrap IntKind.i64 (x - y)))
   (k_ x)
def R_dsub.c228677s : Shape := ⟨[(0, q13), (1, q13), (4, q13), (5, q23), (6, q2), (7, q2), (8, q2)], [(5, q16)]⟩
def R_dsub.c228677x0 : Shape := ⟨[(0, q13), (1, q13), (4, q13), (5, q23), (6, q2), (7, q2), (8, q2)], [(5, q16)]⟩
def R_dsub.c228677r : Ck := Ck.of (T := Int) R_dsub.c228677s (fun ρ x_ k_ => uP x_ fun a x_ => uP x_ fun b x_ => uP x_ fun t4 x_ => uP x_ fun c x_ => uP x_ fun i x_ => uP x_ fun x x_ => uP x_ fun out x_ => R_dsub.c228677 b i x k_) (fun ρ x_ r_ k_ => uP x_ fun a x_ => uP x_ fun b x_ => uP x_ fun t4 x_ => uP x_ fun c x_ => uP x_ fun i x_ => uP x_ fun x x_ => uP x_ fun out x_ => k_ 0 (Shape.inj R_dsub.c228677x0 (a, b, t4, c, i, r_, out, ())))
def R_dsub.c240967 {ρ : Type} (c : Int) (x : Int) (k_ : (Int) × (Int) → Option ρ) : Option ρ :=
  br (decide (x < (0 : Int)))
   (k_ ((1 : Int), (IntKind.wrap IntKind.i64 (x + (10000 : Int)))))
   (k_ (c, x))
def R_dsub.c240967s : Shape := ⟨[(0, q13), (1, q13), (4, q13), (5, q23), (6, q2), (7, q2), (8, q2)], [(5, q16)]⟩
def R_dsub.c240967x0 : Shape := ⟨[(0, q13), (1, q13), (4, q13), (5, q23), (6, q2), (7, q2), (8, q2)], [(5, q16)]⟩
def R_dsub.c240967r : Ck := Ck.of (T := (Int) × (Int)) R_dsub.c240967s (fun ρ x_ k_ => uP x_ fun a x_ => uP x_ fun b x_ => uP x_ fun t4 x_ => uP x_ fun c x_ => uP x_ fun i x_ => uP x_ fun x x_ => uP x_ fun out x_ => R_dsub.c240967 c x k_) (fun ρ x_ r_ k_ => uP x_ fun a x_ => uP x_ fun b x_ => uP x_ fun t4 x_ => uP x_ fun c x_ => uP x_ fun i x_ => uP x_ fun x x_ => uP x_ fun out x_ => k_ 0 (Shape.inj R_dsub.c240967x0 (a, b, t4, r_.1, i, r_.2, out, ())))
def R_dsub.c100004 {ρ : Type} (a : List (Int)) (b : List (Int)) (c : Int) (i : Int) (out : List (Int)) (k_ : ((Int) × (Int) × (List Int)) ⊕ ((Int) × (Int) × (List Int)) → Option ρ) : Option ρ :=
  br (decide (i < (↑(List.length a) : Int)))
   (bnd (idx a i) fun y =>
    bnd (W.R_dsub.c228677 b i (IntKind.wrap IntKind.i64 (y - c)) some) fun y_1 =>
    bnd (W.R_dsub.c240967 (0 : Int) y_1 some) fun y_2 =>
    bnd (okIf (decide ((List.length out + List.length [Prod.snd y_2]) * (8 : Nat) ≤ (140737488355328 : Nat)) && decide (List.length out + List.length [Prod.snd y_2] ≤ (140737488355328 : Nat)))) fun y_3 =>
    k_ (.inl ((Prod.fst y_2), (IntKind.wrap IntKind.i64 (i + (1 : Int))), (out ++ [Prod.snd y_2]))))
   (k_ (.inr (c, i, out)))
def R_dsub.c100004s : Shape := ⟨[(0, q13), (1, q13), (4, q13), (5, q23), (6, q2), (7, q2)], [(5, q16)]⟩
def R_dsub.c100004x0 : Shape := ⟨[(0, q13), (1, q13), (4, q13), (5, q23), (6, q2), (7, q2)], [(5, q16)]⟩
def R_dsub.c100004r : Ck := Ck.ofLoop (S := (Int) × (Int) × (List Int)) (T := (Int) × (Int) × (List Int)) R_dsub.c100004s (fun x_ => uP x_ fun a x_ => uP x_ fun b x_ => uP x_ fun t4 x_ => uP x_ fun c x_ => uP x_ fun i x_ => uP x_ fun out x_ => (c, i, out)) (fun ρ x_ s_ k_ => uP x_ fun a x_ => uP x_ fun b x_ => uP x_ fun t4 x_ => uP x_ fun c x_ => uP x_ fun i x_ => uP x_ fun out x_ => R_dsub.c100004 a b s_.1 s_.2.1 s_.2.2 k_) (fun ρ x_ r_ k_ => uP x_ fun a x_ => uP x_ fun b x_ => uP x_ fun t4 x_ => uP x_ fun c x_ => uP x_ fun i x_ => uP x_ fun out x_ => k_ 2 (Shape.inj R_dsub.c100004x0 (a, b, t4, r_.1, r_.2.1, r_.2.2, ())))
def R_dsub (a : List (Int)) (b : List (Int)) : Option (List Int) :=
  bnd (iter (fun s ↦ W.R_dsub.c100004 a b (Prod.fst s) (Prod.fst (Prod.snd s)) (Prod.snd (Prod.snd s)) some) ((0 : Int), (0 : Int), [])) fun y =>
  some (Prod.snd (Prod.snd y))
def R_dsub.ce : Go.Ql.Callee := ⟨[(.sl (.int .i64)), (.sl (.int .i64))], [(.sl (.int .i64))], fun x_ => R_dsub x_.1 x_.2⟩
def R_dsub.G : Env := ⟨40, tab, [], [0, 1, 4, 5, 6, 7, 8, 12, 24, 32], [5], [], [(100004, R_dsub.c100004r), (240967, R_dsub.c240967r), (228677, R_dsub.c228677r)], [], tab_eqs⟩
theorem R_dsub.eq (x_ : dens [(.sl (.int .i64)), (.sl (.int .i64))]) : den R_dsub.G Go.Proofs.Tryd.f41 [(.sl (.int .i64)), (.sl (.int .i64))] [(.sl (.int .i64))] x_ = R_dsub x_.1 x_.2 := by kernel_rfl
theorem R_dsub.p0 : PieceOk R_dsub.G (pieceAt (pieces R_dsub.G.cks (bodyOf Go.Proofs.Tryd.f41)) 0).1 (pieceAt (pieces R_dsub.G.cks (bodyOf Go.Proofs.Tryd.f41)) 0).2 :=
  loop_ok (s := R_dsub.c100004r) (by kernel_rfl) (by kernel_rfl) (loops_of (sh := R_dsub.c100004s) (I := fun x_ s_ => (x_.1, x_.2.1, x_.2.2.1, s_.1, s_.2.1, s_.2.2, ())) (fun x_ => rfl) (fun ρ x_ s_ k_ => (nat_br (nat_bnd fun _ => (nat_bnd fun _ => (nat_bnd fun _ => (nat_bnd fun _ => nat_leaf)))) nat_leaf)) (fun ρ x_ t k => (by kernel_rfl)) (fun x_ s => by kernel_rfl))
theorem R_dsub.p1 : PieceOk R_dsub.G (pieceAt (pieces R_dsub.G.cks (bodyOf Go.Proofs.Tryd.f41)) 1).1 (pieceAt (pieces R_dsub.G.cks (bodyOf Go.Proofs.Tryd.f41)) 1).2 :=
  join_ok (s := R_dsub.c228677r) (by kernel_rfl) (by kernel_rfl) (sums_of (sh := R_dsub.c228677s) (fun ρ x_ k_ => (nat_br (nat_bnd fun _ => nat_leaf) nat_leaf)) (fun ρ x_ t k => (by kernel_rfl)) (fun x_ => by kernel_rfl))
theorem R_dsub.p2 : PieceOk R_dsub.G (pieceAt (pieces R_dsub.G.cks (bodyOf Go.Proofs.Tryd.f41)) 2).1 (pieceAt (pieces R_dsub.G.cks (bodyOf Go.Proofs.Tryd.f41)) 2).2 :=
  join_ok (s := R_dsub.c240967r) (by kernel_rfl) (by kernel_rfl) (sums_of (sh := R_dsub.c240967s) (fun ρ x_ k_ => (nat_br nat_leaf nat_leaf)) (fun ρ x_ t k => (by kernel_rfl)) (fun x_ => by kernel_rfl))
theorem R_dsub.ok : CalleeOk Go.Proofs.Tryd.prog 41 R_dsub.ce := fn_ok (G := R_dsub.G) tab_ok mixed Go.Proofs.Tryd.func41 ⟨fns_nil, mfns_nil, tab_eqs_ok⟩ (m := 3) (by kernel_rfl) ⟨⟨⟨trivial, R_dsub.p0⟩, R_dsub.p1⟩, R_dsub.p2⟩ (by kernel_rfl) R_dsub.eq
abbrev q24 : SD := .one (.val (.st (.pair .bool (.sl (.int .i64)))))
def R_ZAdd.c6 {ρ : Type} (a0 : Bool) (a1 : List (Int)) (b1 : List (Int)) (k_ : (Bool) × (List Int) → Option ρ) : Option ρ :=
  bnd (W.R_dadd a1 b1) fun y =>
  bnd (W.R_zmade a0 y) fun y_1 =>
  k_ ((Prod.fst y_1), (Prod.snd y_1))
def R_ZAdd.c6s : Shape := ⟨[(0, q24), (1, q24), (2, q10), (3, q11), (4, q8)], [(2, q14), (3, q14), (4, q14)]⟩
def R_ZAdd.c6x0 : Shape := ⟨[(0, q24), (1, q24), (2, q10), (3, q11), (4, q8)], [(2, q14), (3, q14), (4, q14)]⟩
def R_ZAdd.c6r : Ck := Ck.of (T := (Bool) × (List Int)) R_ZAdd.c6s (fun ρ x_ k_ => uP x_ fun a x_ => uP x_ fun b x_ => uP x_ fun a0 x_ => uP x_ fun a1 x_ => uP x_ fun b0 x_ => uP x_ fun b1 x_ => uP x_ fun t40 x_ => uP x_ fun t41 x_ => R_ZAdd.c6 a0 a1 b1 k_) (fun ρ x_ r_ k_ => uP x_ fun a x_ => uP x_ fun b x_ => uP x_ fun a0 x_ => uP x_ fun a1 x_ => uP x_ fun b0 x_ => uP x_ fun b1 x_ => uP x_ fun t40 x_ => uP x_ fun t41 x_ => k_ 0 (Shape.inj R_ZAdd.c6x0 (a, b, a0, a1, b0, b1, r_.1, r_.2, ())))
def R_ZAdd.c8 {ρ : Type} (a0 : Bool) (a1 : List (Int)) (b1 : List (Int)) (k_ : (Bool) × (List Int) → Option ρ) : Option ρ :=
  bnd (W.R_dsub a1 b1) fun y =>
  bnd (W.R_zmade a0 y) fun y_1 =>
  k_ ((Prod.fst y_1), (Prod.snd y_1))
def R_ZAdd.c8s : Shape := ⟨[(0, q24), (1, q24), (2, q10), (3, q11), (4, q8)], [(2, q14), (3, q14), (4, q14)]⟩
def R_ZAdd.c8x0 : Shape := ⟨[(0, q24), (1, q24), (2, q10), (3, q11), (4, q8)], [(2, q14), (3, q14), (4, q14)]⟩
def R_ZAdd.c8r : Ck := Ck.of (T := (Bool) × (List Int)) R_ZAdd.c8s (fun ρ x_ k_ => uP x_ fun a x_ => uP x_ fun b x_ => uP x_ fun a0 x_ => uP x_ fun a1 x_ => uP x_ fun b0 x_ => uP x_ fun b1 x_ => uP x_ fun t40 x_ => uP x_ fun t41 x_ => R_ZAdd.c8 a0 a1 b1 k_) (fun ρ x_ r_ k_ => uP x_ fun a x_ => uP x_ fun b x_ => uP x_ fun a0 x_ => uP x_ fun a1 x_ => uP x_ fun b0 x_ => uP x_ fun b1 x_ => uP x_ fun t40 x_ => uP x_ fun t41 x_ => k_ 0 (Shape.inj R_ZAdd.c8x0 (a, b, a0, a1, b0, b1, r_.1, r_.2, ())))
def R_ZAdd.c9 {ρ : Type} (a1 : List (Int)) (b0 : Bool) (b1 : List (Int)) (k_ : (Bool) × (List Int) → Option ρ) : Option ρ :=
  bnd (W.R_dsub b1 a1) fun y =>
  bnd (W.R_zmade b0 y) fun y_1 =>
  k_ ((Prod.fst y_1), (Prod.snd y_1))
def R_ZAdd.c9s : Shape := ⟨[(0, q24), (1, q24), (2, q10), (3, q11), (4, q8)], [(2, q14), (3, q14), (4, q14)]⟩
def R_ZAdd.c9x0 : Shape := ⟨[(0, q24), (1, q24), (2, q10), (3, q11), (4, q8)], [(2, q14), (3, q14), (4, q14)]⟩
def R_ZAdd.c9r : Ck := Ck.of (T := (Bool) × (List Int)) R_ZAdd.c9s (fun ρ x_ k_ => uP x_ fun a x_ => uP x_ fun b x_ => uP x_ fun a0 x_ => uP x_ fun a1 x_ => uP x_ fun b0 x_ => uP x_ fun b1 x_ => uP x_ fun t40 x_ => uP x_ fun t41 x_ => R_ZAdd.c9 a1 b0 b1 k_) (fun ρ x_ r_ k_ => uP x_ fun a x_ => uP x_ fun b x_ => uP x_ fun a0 x_ => uP x_ fun a1 x_ => uP x_ fun b0 x_ => uP x_ fun b1 x_ => uP x_ fun t40 x_ => uP x_ fun t41 x_ => k_ 0 (Shape.inj R_ZAdd.c9x0 (a, b, a0, a1, b0, b1, r_.1, r_.2, ())))
def R_ZAdd (a : (Bool) × (List Int)) (b : (Bool) × (List Int)) : Option ((Bool) × (List Int)) :=
  br ((↑(List.length (Prod.snd a)) : Int) == (0 : Int))
   (some (Prod.fst b, Prod.snd b))
   (br ((↑(List.length (Prod.snd b)) : Int) == (0 : Int))
     (some (Prod.fst a, Prod.snd a))
     (br (Prod.fst a == Prod.fst b)
       (bnd (W.R_ZAdd.c6 (Prod.fst a) (Prod.snd a) (Prod.snd b) some) fun y =>
        some (Prod.fst y, Prod.snd y))
       (bnd (W.R_dcmp (Prod.snd a) (Prod.snd b)) fun y_1 =>
        br (decide (y_1 ≥ (0 : Int)))
         (bnd (W.R_ZAdd.c8 (Prod.fst a) (Prod.snd a) (Prod.snd b) some) fun y_2 =>
          some (Prod.fst y_2, Prod.snd y_2))
         (bnd (W.R_ZAdd.c9 (Prod.snd a) (Prod.fst b) (Prod.snd b) some) fun y_3 =>
          some (Prod.fst y_3, Prod.snd y_3)))))
def R_ZAdd.ce : Go.Ql.Callee := ⟨[(.st (.pair .bool (.sl (.int .i64)))), (.st (.pair .bool (.sl (.int .i64))))], [(.st (.pair .bool (.sl (.int .i64))))], fun x_ => R_ZAdd x_.1 x_.2⟩
def R_ZAdd.G : Env := ⟨50, tab, [(39, R_dadd.ce), (29, R_zmade.ce), (40, R_dcmp.ce), (41, R_dsub.ce)], [0, 1, 2, 3, 4, 8, 13, 19, 33], [], [(9, [⟨[], [], [44, 45, 46, 47, 48], []⟩, ⟨[0], [], [44, 45, 46, 47, 48], []⟩, ⟨[], [], [42, 43, 46, 47], []⟩, ⟨[2], [], [42, 43, 46, 47], []⟩, ⟨[], [], [42, 43, 44, 45], []⟩, ⟨[4], [], [42, 43, 44, 45], []⟩, ⟨[3, 2, 5, 4], [], [42, 43], []⟩, ⟨[1, 0, 6, 3, 2, 5, 4], [], [], []⟩, ⟨[7, 1, 0, 6, 3, 2, 5, 4], [4], [], []⟩]),
  (8, [⟨[], [], [36, 37, 38, 39, 40], []⟩, ⟨[0], [], [36, 37, 38, 39, 40], []⟩, ⟨[], [], [34, 35, 38, 39], []⟩, ⟨[2], [], [34, 35, 38, 39], []⟩, ⟨[], [], [34, 35, 36, 37], []⟩, ⟨[4], [], [34, 35, 36, 37], []⟩, ⟨[3, 2, 5, 4], [], [34, 35], []⟩, ⟨[1, 0, 6, 3, 2, 5, 4], [], [], []⟩, ⟨[7, 1, 0, 6, 3, 2, 5, 4], [4], [], []⟩]),
  (6, [⟨[], [], [22, 23, 24, 25, 26], []⟩, ⟨[0], [], [22, 23, 24, 25, 26], []⟩, ⟨[], [], [20, 21, 24, 25], []⟩, ⟨[2], [], [20, 21, 24, 25], []⟩, ⟨[], [], [20, 21, 22, 23], []⟩, ⟨[4], [], [20, 21, 22, 23], []⟩, ⟨[3, 2, 5, 4], [], [20, 21], []⟩, ⟨[1, 0, 6, 3, 2, 5, 4], [], [], []⟩, ⟨[7, 1, 0, 6, 3, 2, 5, 4], [4], [], []⟩])], [(9, R_ZAdd.c9r), (8, R_ZAdd.c8r), (6, R_ZAdd.c6r)], [], tab_eqs⟩
theorem R_ZAdd.eq (x_ : dens [(.st (.pair .bool (.sl (.int .i64)))), (.st (.pair .bool (.sl (.int .i64))))]) : den R_ZAdd.G Go.Proofs.Tryd.f38 [(.st (.pair .bool (.sl (.int .i64)))), (.st (.pair .bool (.sl (.int .i64))))] [(.st (.pair .bool (.sl (.int .i64))))] x_ = R_ZAdd x_.1 x_.2 := by kernel_rfl
theorem R_ZAdd.p0 : PieceOk R_ZAdd.G (pieceAt (pieces R_ZAdd.G.cks (bodyOf Go.Proofs.Tryd.f38)) 0).1 (pieceAt (pieces R_ZAdd.G.cks (bodyOf Go.Proofs.Tryd.f38)) 0).2 :=
  region_ok (s := R_ZAdd.c6r) (by kernel_rfl) (by kernel_rfl) (sums_of (sh := R_ZAdd.c6s) (fun ρ x_ k_ => (nat_bnd fun _ => (nat_bnd fun _ => nat_leaf))) (fun ρ x_ t k => (by kernel_rfl)) (fun x_ => by kernel_rfl))
theorem R_ZAdd.p1 : PieceOk R_ZAdd.G (pieceAt (pieces R_ZAdd.G.cks (bodyOf Go.Proofs.Tryd.f38)) 1).1 (pieceAt (pieces R_ZAdd.G.cks (bodyOf Go.Proofs.Tryd.f38)) 1).2 :=
  region_ok (s := R_ZAdd.c8r) (by kernel_rfl) (by kernel_rfl) (sums_of (sh := R_ZAdd.c8s) (fun ρ x_ k_ => (nat_bnd fun _ => (nat_bnd fun _ => nat_leaf))) (fun ρ x_ t k => (by kernel_rfl)) (fun x_ => by kernel_rfl))
theorem R_ZAdd.p2 : PieceOk R_ZAdd.G (pieceAt (pieces R_ZAdd.G.cks (bodyOf Go.Proofs.Tryd.f38)) 2).1 (pieceAt (pieces R_ZAdd.G.cks (bodyOf Go.Proofs.Tryd.f38)) 2).2 :=
  region_ok (s := R_ZAdd.c9r) (by kernel_rfl) (by kernel_rfl) (sums_of (sh := R_ZAdd.c9s) (fun ρ x_ k_ => (nat_bnd fun _ => (nat_bnd fun _ => nat_leaf))) (fun ρ x_ t k => (by kernel_rfl)) (fun x_ => by kernel_rfl))
theorem R_ZAdd.ok : CalleeOk Go.Proofs.Tryd.prog 38 R_ZAdd.ce := fn_ok (G := R_ZAdd.G) tab_ok mixed Go.Proofs.Tryd.func38 ⟨(fns_cons R_dadd.ok (fns_cons R_zmade.ok (fns_cons R_dcmp.ok (fns_cons R_dsub.ok fns_nil)))), mfns_nil, tab_eqs_ok⟩ (m := 3) (by kernel_rfl) ⟨⟨⟨trivial, R_ZAdd.p0⟩, R_ZAdd.p1⟩, R_ZAdd.p2⟩ (by kernel_rfl) R_ZAdd.eq
def R_ZSub.c1 {ρ : Type} (a0 : Bool) (a1 : List (Int)) (b0 : Bool) (b1 : List (Int)) (k_ : (Bool) × (List Int) → Option ρ) : Option ρ :=
  bnd (W.R_ZNeg (b0, b1)) fun y =>
  bnd (W.R_ZAdd (a0, a1) y) fun y_1 =>
  k_ ((Prod.fst y_1), (Prod.snd y_1))
def R_ZSub.c1s : Shape := ⟨[(0, q24), (1, q24), (2, q10), (3, q11), (4, q8)], [(2, q14), (3, q14), (4, q14)]⟩
def R_ZSub.c1x0 : Shape := ⟨[(0, q24), (1, q24), (2, q10), (3, q11), (4, q8)], [(2, q14), (3, q14), (4, q14)]⟩
def R_ZSub.c1r : Ck := Ck.of (T := (Bool) × (List Int)) R_ZSub.c1s (fun ρ x_ k_ => uP x_ fun a x_ => uP x_ fun b x_ => uP x_ fun a0 x_ => uP x_ fun a1 x_ => uP x_ fun b0 x_ => uP x_ fun b1 x_ => uP x_ fun t40 x_ => uP x_ fun t41 x_ => R_ZSub.c1 a0 a1 b0 b1 k_) (fun ρ x_ r_ k_ => uP x_ fun a x_ => uP x_ fun b x_ => uP x_ fun a0 x_ => uP x_ fun a1 x_ => uP x_ fun b0 x_ => uP x_ fun b1 x_ => uP x_ fun t40 x_ => uP x_ fun t41 x_ => k_ 0 (Shape.inj R_ZSub.c1x0 (a, b, a0, a1, b0, b1, r_.1, r_.2, ())))
def R_ZSub (a : (Bool) × (List Int)) (b : (Bool) × (List Int)) : Option ((Bool) × (List Int)) :=
  bnd (W.R_ZSub.c1 (Prod.fst a) (Prod.snd a) (Prod.fst b) (Prod.snd b) some) fun y =>
  some (Prod.fst y, Prod.snd y)
def R_ZSub.ce : Go.Ql.Callee := ⟨[(.st (.pair .bool (.sl (.int .i64)))), (.st (.pair .bool (.sl (.int .i64))))], [(.st (.pair .bool (.sl (.int .i64))))], fun x_ => R_ZSub x_.1 x_.2⟩
def R_ZSub.G : Env := ⟨9, tab, [(16, R_ZNeg.ce), (38, R_ZAdd.ce)], [0, 1, 2, 3, 4], [], [(1, [⟨[], [], [6, 7], []⟩, ⟨[], [], [5], []⟩, ⟨[1], [], [5], []⟩, ⟨[0, 2, 1], [], [], []⟩, ⟨[3, 0, 2, 1], [4], [], []⟩])], [(1, R_ZSub.c1r)], [], tab_eqs⟩
theorem R_ZSub.eq (x_ : dens [(.st (.pair .bool (.sl (.int .i64)))), (.st (.pair .bool (.sl (.int .i64))))]) : den R_ZSub.G Go.Proofs.Tryd.f36 [(.st (.pair .bool (.sl (.int .i64)))), (.st (.pair .bool (.sl (.int .i64))))] [(.st (.pair .bool (.sl (.int .i64))))] x_ = R_ZSub x_.1 x_.2 := by kernel_rfl
theorem R_ZSub.p0 : PieceOk R_ZSub.G (pieceAt (pieces R_ZSub.G.cks (bodyOf Go.Proofs.Tryd.f36)) 0).1 (pieceAt (pieces R_ZSub.G.cks (bodyOf Go.Proofs.Tryd.f36)) 0).2 :=
  region_ok (s := R_ZSub.c1r) (by kernel_rfl) (by kernel_rfl) (sums_of (sh := R_ZSub.c1s) (fun ρ x_ k_ => (nat_bnd fun _ => (nat_bnd fun _ => nat_leaf))) (fun ρ x_ t k => (by kernel_rfl)) (fun x_ => by kernel_rfl))
theorem R_ZSub.ok : CalleeOk Go.Proofs.Tryd.prog 36 R_ZSub.ce := fn_ok (G := R_ZSub.G) tab_ok mixed Go.Proofs.Tryd.func36 ⟨(fns_cons R_ZNeg.ok (fns_cons R_ZAdd.ok fns_nil)), mfns_nil, tab_eqs_ok⟩ (m := 1) (by kernel_rfl) ⟨trivial, R_ZSub.p0⟩ (by kernel_rfl) R_ZSub.eq
def R_zsign (a : (Bool) × (List Int)) : Option (Int) :=
  br ((↑(List.length (Prod.snd a)) : Int) == (0 : Int))
   (some (0 : Int))
   (br (Prod.fst a)
     (some (-1 : Int))
     (some (1 : Int)))
def R_zsign.ce : Go.Ql.Callee := ⟨[(.st (.pair .bool (.sl (.int .i64))))], [(.int .i64)], fun x_ => R_zsign x_⟩
def R_zsign.G : Env := ⟨9, tab, [], [0, 1, 2, 6, 8], [], [], [], [], tab_eqs⟩
theorem R_zsign.eq (x_ : dens [(.st (.pair .bool (.sl (.int .i64))))]) : den R_zsign.G Go.Proofs.Tryd.f30 [(.st (.pair .bool (.sl (.int .i64))))] [(.int .i64)] x_ = R_zsign x_ := by kernel_rfl
theorem R_zsign.ok : CalleeOk Go.Proofs.Tryd.prog 30 R_zsign.ce := fn_ok (G := R_zsign.G) tab_ok mixed Go.Proofs.Tryd.func30 ⟨fns_nil, mfns_nil, tab_eqs_ok⟩ (m := 0) (by kernel_rfl) trivial (by kernel_rfl) R_zsign.eq
def R_ZCmp (a : (Bool) × (List Int)) (b : (Bool) × (List Int)) : Option (Int) :=
  bnd (W.R_ZSub (Prod.fst a, Prod.snd a) (Prod.fst b, Prod.snd b)) fun y =>
  bnd (W.R_zsign y) fun y_1 =>
  some y_1
def R_ZCmp.ce : Go.Ql.Callee := ⟨[(.st (.pair .bool (.sl (.int .i64)))), (.st (.pair .bool (.sl (.int .i64))))], [(.int .i64)], fun x_ => R_ZCmp x_.1 x_.2⟩
def R_ZCmp.G : Env := ⟨9, tab, [(36, R_ZSub.ce), (30, R_zsign.ce)], [0, 1, 2, 3, 4], [], [], [], [], tab_eqs⟩
theorem R_ZCmp.eq (x_ : dens [(.st (.pair .bool (.sl (.int .i64)))), (.st (.pair .bool (.sl (.int .i64))))]) : den R_ZCmp.G Go.Proofs.Tryd.f26 [(.st (.pair .bool (.sl (.int .i64)))), (.st (.pair .bool (.sl (.int .i64))))] [(.int .i64)] x_ = R_ZCmp x_.1 x_.2 := by kernel_rfl
theorem R_ZCmp.ok : CalleeOk Go.Proofs.Tryd.prog 26 R_ZCmp.ce := fn_ok (G := R_ZCmp.G) tab_ok mixed Go.Proofs.Tryd.func26 ⟨(fns_cons R_ZSub.ok (fns_cons R_zsign.ok fns_nil)), mfns_nil, tab_eqs_ok⟩ (m := 0) (by kernel_rfl) trivial (by kernel_rfl) R_ZCmp.eq
def R_ZSmall.c1 {ρ : Type} (a0 : Bool) (a1 : List (Int)) (k_ : Bool → Option ρ) : Option ρ :=
  bnd (W.R_ZOf (-9223372036854775808 : Int)) fun y =>
  bnd (W.R_ZCmp (a0, a1) y) fun y_1 =>
  br (decide (y_1 < (0 : Int)))
   (k_ true)
   (bnd (W.R_ZOf (9223372036854775807 : Int)) fun y_2 =>
    bnd (W.R_ZCmp (a0, a1) y_2) fun y_3 =>
    k_ (decide (y_3 > (0 : Int))))
def R_ZSmall.c1s : Shape := ⟨[(0, q24), (1, q21), (2, q2), (3, q1)], [(1, q14)]⟩
def R_ZSmall.c1x0 : Shape := ⟨[(0, q24), (1, q21), (2, q2), (3, q1), (15, q1)], [(1, q14)]⟩
def R_ZSmall.c1r : Ck := Ck.of (T := Bool) R_ZSmall.c1s (fun ρ x_ k_ => uP x_ fun a x_ => uP x_ fun t2 x_ => uP x_ fun t3 x_ => uP x_ fun a0 x_ => uP x_ fun a1 x_ => R_ZSmall.c1 a0 a1 k_) (fun ρ x_ r_ k_ => uP x_ fun a x_ => uP x_ fun t2 x_ => uP x_ fun t3 x_ => uP x_ fun a0 x_ => uP x_ fun a1 x_ => k_ 0 (Shape.inj R_ZSmall.c1x0 (a, t2, t3, r_, a0, a1, ())))
def R_ZSmall.c100005 {ρ : Type} (n : Int) (i : Int) (a1 : List (Int)) (k_ : ((Int) × (Int)) ⊕ ((Int) × (Int)) → Option ρ) : Option ρ :=
  br (decide (i ≥ (0 : Int)))
   (bnd (idx a1 i) fun y =>
    k_ (.inl ((IntKind.wrap IntKind.i64 (IntKind.wrap IntKind.i64 (n * (10000 : Int)) - y)), (IntKind.wrap IntKind.i64 (i - (1 : Int))))))
   (k_ (.inr (n, i)))
def R_ZSmall.c100005s : Shape := ⟨[(0, q24), (1, q21), (2, q2), (3, q1), (4, q2), (5, q2)], [(1, q14)]⟩
def R_ZSmall.c100005x0 : Shape := ⟨[(0, q24), (1, q21), (2, q2), (3, q1), (4, q2), (5, q2)], [(1, q14)]⟩
def R_ZSmall.c100005r : Ck := Ck.ofLoop (S := (Int) × (Int)) (T := (Int) × (Int)) R_ZSmall.c100005s (fun x_ => uP x_ fun a x_ => uP x_ fun t2 x_ => uP x_ fun t3 x_ => uP x_ fun n x_ => uP x_ fun i x_ => uP x_ fun a0 x_ => uP x_ fun a1 x_ => (n, i)) (fun ρ x_ s_ k_ => uP x_ fun a x_ => uP x_ fun t2 x_ => uP x_ fun t3 x_ => uP x_ fun n x_ => uP x_ fun i x_ => uP x_ fun a0 x_ => uP x_ fun a1 x_ => R_ZSmall.c100005 s_.1 s_.2 a1 k_) (fun ρ x_ r_ k_ => uP x_ fun a x_ => uP x_ fun t2 x_ => uP x_ fun t3 x_ => uP x_ fun n x_ => uP x_ fun i x_ => uP x_ fun a0 x_ => uP x_ fun a1 x_ => k_ 2 (Shape.inj R_ZSmall.c100005x0 (a, t2, t3, r_.1, r_.2, a0, a1, ())))
def R_ZSmall.c232773 {ρ : Type} (n : Int) (a0 : Bool) (k_ : Int → Option ρ) : Option ρ :=
  br (!a0)
   (k_ (IntKind.wrap IntKind.i64 ((0 : Int) - n)))
   (k_ n)
def R_ZSmall.c232773s : Shape := ⟨[(0, q24), (1, q21), (2, q2), (3, q1), (4, q2), (5, q2)], [(1, q14)]⟩
def R_ZSmall.c232773x0 : Shape := ⟨[(0, q24), (1, q21), (2, q2), (3, q1), (4, q2), (5, q2)], [(1, q14)]⟩
def R_ZSmall.c232773r : Ck := Ck.of (T := Int) R_ZSmall.c232773s (fun ρ x_ k_ => uP x_ fun a x_ => uP x_ fun t2 x_ => uP x_ fun t3 x_ => uP x_ fun n x_ => uP x_ fun i x_ => uP x_ fun a0 x_ => uP x_ fun a1 x_ => R_ZSmall.c232773 n a0 k_) (fun ρ x_ r_ k_ => uP x_ fun a x_ => uP x_ fun t2 x_ => uP x_ fun t3 x_ => uP x_ fun n x_ => uP x_ fun i x_ => uP x_ fun a0 x_ => uP x_ fun a1 x_ => k_ 0 (Shape.inj R_ZSmall.c232773x0 (a, t2, t3, r_, i, a0, a1, ())))
def R_ZSmall (a : (Bool) × (List Int)) : Option ((Int) × (Bool)) :=
  bnd (W.R_ZSmall.c1 (Prod.fst a) (Prod.snd a) some) fun y =>
  br y
   (some ((0 : Int), false))
   (bnd (iter (fun s ↦ W.R_ZSmall.c100005 (Prod.fst s) (Prod.snd s) (Prod.snd a) some) ((0 : Int), IntKind.wrap IntKind.i64 ((↑(List.length (Prod.snd a)) : Int) - (1 : Int)))) fun y_1 =>
    bnd (W.R_ZSmall.c232773 (Prod.fst y_1) (Prod.fst a) some) fun y_2 =>
    some (y_2, true))
def R_ZSmall.ce : Go.Ql.Callee := ⟨[(.st (.pair .bool (.sl (.int .i64))))], [(.int .i64), .bool], fun x_ => R_ZSmall x_⟩
def R_ZSmall.G : Env := ⟨38, tab, [(12, R_ZOf.ce), (26, R_ZCmp.ce)], [0, 1, 2, 3, 4, 5, 15, 21, 34], [], [(1, [⟨[], [], [7], []⟩, ⟨[], [], [6], []⟩, ⟨[0, 1], [], [], []⟩, ⟨[2, 0, 1], [], [], []⟩, ⟨[3, 2, 0, 1], [], [], []⟩, ⟨[4, 3, 2, 0, 1], [], [12], []⟩, ⟨[4, 3, 2, 0, 1], [], [11], []⟩, ⟨[5, 4, 3, 2, 0, 1, 6], [], [], []⟩, ⟨[7, 5, 4, 3, 2, 0, 1, 6], [], [], []⟩, ⟨[4, 3, 2, 0, 1, 8, 7, 5, 6], [], [], []⟩])], [(232773, R_ZSmall.c232773r), (100005, R_ZSmall.c100005r), (1, R_ZSmall.c1r)], [], tab_eqs⟩
theorem R_ZSmall.eq (x_ : dens [(.st (.pair .bool (.sl (.int .i64))))]) : den R_ZSmall.G Go.Proofs.Tryd.f8 [(.st (.pair .bool (.sl (.int .i64))))] [(.int .i64), .bool] x_ = R_ZSmall x_ := by kernel_rfl
theorem R_ZSmall.p0 : PieceOk R_ZSmall.G (pieceAt (pieces R_ZSmall.G.cks (bodyOf Go.Proofs.Tryd.f8)) 0).1 (pieceAt (pieces R_ZSmall.G.cks (bodyOf Go.Proofs.Tryd.f8)) 0).2 :=
  region_ok (s := R_ZSmall.c1r) (by kernel_rfl) (by kernel_rfl) (sums_of (sh := R_ZSmall.c1s) (fun ρ x_ k_ => (nat_bnd fun _ => (nat_bnd fun _ => (nat_br nat_leaf (nat_bnd fun _ => (nat_bnd fun _ => nat_leaf)))))) (fun ρ x_ t k => (by kernel_rfl)) (fun x_ => by kernel_rfl))
theorem R_ZSmall.p1 : PieceOk R_ZSmall.G (pieceAt (pieces R_ZSmall.G.cks (bodyOf Go.Proofs.Tryd.f8)) 1).1 (pieceAt (pieces R_ZSmall.G.cks (bodyOf Go.Proofs.Tryd.f8)) 1).2 :=
  loop_ok (s := R_ZSmall.c100005r) (by kernel_rfl) (by kernel_rfl) (loops_of (sh := R_ZSmall.c100005s) (I := fun x_ s_ => (x_.1, x_.2.1, x_.2.2.1, s_.1, s_.2, x_.2.2.2.2.2.1, x_.2.2.2.2.2.2.1, ())) (fun x_ => rfl) (fun ρ x_ s_ k_ => (nat_br (nat_bnd fun _ => nat_leaf) nat_leaf)) (fun ρ x_ t k => (by kernel_rfl)) (fun x_ s => by kernel_rfl))
theorem R_ZSmall.p2 : PieceOk R_ZSmall.G (pieceAt (pieces R_ZSmall.G.cks (bodyOf Go.Proofs.Tryd.f8)) 2).1 (pieceAt (pieces R_ZSmall.G.cks (bodyOf Go.Proofs.Tryd.f8)) 2).2 :=
  join_ok (s := R_ZSmall.c232773r) (by kernel_rfl) (by kernel_rfl) (sums_of (sh := R_ZSmall.c232773s) (fun ρ x_ k_ => (nat_br nat_leaf nat_leaf)) (fun ρ x_ t k => (by kernel_rfl)) (fun x_ => by kernel_rfl))
theorem R_ZSmall.ok : CalleeOk Go.Proofs.Tryd.prog 8 R_ZSmall.ce := fn_ok (G := R_ZSmall.G) tab_ok mixed Go.Proofs.Tryd.func8 ⟨(fns_cons R_ZOf.ok (fns_cons R_ZCmp.ok fns_nil)), mfns_nil, tab_eqs_ok⟩ (m := 3) (by kernel_rfl) ⟨⟨⟨trivial, R_ZSmall.p0⟩, R_ZSmall.p1⟩, R_ZSmall.p2⟩ (by kernel_rfl) R_ZSmall.eq
def R_ZText.c216389 {ρ : Type} (text : List UInt8) (a0 : Bool) (k_ : List UInt8 → Option ρ) : Option ρ :=
  br a0
   (k_ (Array.toList (ByteArray.data (ByteArray.mk #[(45 : UInt8)]))))
   (k_ text)
def R_ZText.c216389s : Shape := ⟨[(0, q24), (1, q21), (2, q0), (3, q0)], [(1, q14)]⟩
def R_ZText.c216389x0 : Shape := ⟨[(0, q24), (1, q21), (2, q0), (3, q0)], [(1, q14)]⟩
def R_ZText.c216389r : Ck := Ck.of (T := List UInt8) R_ZText.c216389s (fun ρ x_ k_ => uP x_ fun a x_ => uP x_ fun t2 x_ => uP x_ fun text x_ => uP x_ fun a0 x_ => uP x_ fun a1 x_ => R_ZText.c216389 text a0 k_) (fun ρ x_ r_ k_ => uP x_ fun a x_ => uP x_ fun t2 x_ => uP x_ fun text x_ => uP x_ fun a0 x_ => uP x_ fun a1 x_ => k_ 0 (Shape.inj R_ZText.c216389x0 (a, t2, r_, a0, a1, ())))
def R_ZText.c9 {ρ : Type} (i : Int) (a1 : List (Int)) (k_ : List (Int) → Option ρ) : Option ρ :=
  bnd (idx a1 i) fun y =>
  bnd (idx a1 i) fun y_1 =>
  bnd (idx a1 i) fun y_2 =>
  bnd (idx a1 i) fun y_3 =>
  k_ ([IntKind.wrap IntKind.u8 (IntKind.wrap IntKind.i64 ((48 : Int) + IntKind.wrap IntKind.i64 (Int.tdiv y (1000 : Int)))), IntKind.wrap IntKind.u8 (IntKind.wrap IntKind.i64 ((48 : Int) + Int.tmod (IntKind.wrap IntKind.i64 (Int.tdiv y_1 (100 : Int))) (10 : Int))), IntKind.wrap IntKind.u8 (IntKind.wrap IntKind.i64 ((48 : Int) + Int.tmod (IntKind.wrap IntKind.i64 (Int.tdiv y_2 (10 : Int))) (10 : Int))), IntKind.wrap IntKind.u8 (IntKind.wrap IntKind.i64 ((48 : Int) + Int.tmod y_3 (10 : Int)))])
def R_ZText.c9s : Shape := ⟨[(0, q24), (1, q21), (2, q0), (3, q0), (4, q2)], [(1, q14)]⟩
def R_ZText.c9x0 : Shape := ⟨[(0, q24), (1, q21), (2, q0), (3, q0), (4, q2), (5, q6)], [(1, q14)]⟩
def R_ZText.c9r : Ck := Ck.of (T := List (Int)) R_ZText.c9s (fun ρ x_ k_ => uP x_ fun a x_ => uP x_ fun t2 x_ => uP x_ fun text x_ => uP x_ fun i x_ => uP x_ fun a0 x_ => uP x_ fun a1 x_ => R_ZText.c9 i a1 k_) (fun ρ x_ r_ k_ => uP x_ fun a x_ => uP x_ fun t2 x_ => uP x_ fun text x_ => uP x_ fun i x_ => uP x_ fun a0 x_ => uP x_ fun a1 x_ => k_ 0 (Shape.inj R_ZText.c9x0 (a, t2, text, i, r_, a0, a1, ())))
def R_ZText.c11 {ρ : Type} (i : Int) (four : List (Int)) (t6 : Int) (a1 : List (Int)) (k_ : Bool → Option ρ) : Option ρ :=
  br (i == IntKind.wrap IntKind.i64 ((↑(List.length a1) : Int) - (1 : Int)))
   (br (decide (t6 < (3 : Int)))
     (bnd (idx four t6) fun y =>
      k_ (y == (48 : Int)))
     (k_ false))
   (k_ false)
def R_ZText.c11s : Shape := ⟨[(0, q24), (1, q21), (2, q0), (3, q0), (4, q2), (5, q6), (6, q2)], [(1, q14)]⟩
def R_ZText.c11x0 : Shape := ⟨[(0, q24), (1, q21), (2, q0), (3, q0), (4, q2), (5, q6), (6, q2), (72, q1)], [(1, q14)]⟩
def R_ZText.c11r : Ck := Ck.of (T := Bool) R_ZText.c11s (fun ρ x_ k_ => uP x_ fun a x_ => uP x_ fun t2 x_ => uP x_ fun text x_ => uP x_ fun i x_ => uP x_ fun four x_ => uP x_ fun t6 x_ => uP x_ fun a0 x_ => uP x_ fun a1 x_ => R_ZText.c11 i four t6 a1 k_) (fun ρ x_ r_ k_ => uP x_ fun a x_ => uP x_ fun t2 x_ => uP x_ fun text x_ => uP x_ fun i x_ => uP x_ fun four x_ => uP x_ fun t6 x_ => uP x_ fun a0 x_ => uP x_ fun a1 x_ => k_ 0 (Shape.inj R_ZText.c11x0 (a, t2, text, i, four, t6, r_, a0, a1, ())))
def R_ZText.c100011 {ρ : Type} (i : Int) (four : List (Int)) (t6 : Int) (a1 : List (Int)) (k_ : (Int) ⊕ (Int) → Option ρ) : Option ρ :=
  bnd (W.R_ZText.c11 i four t6 a1 some) fun y =>
  br y
   (k_ (.inl (IntKind.wrap IntKind.i64 (t6 + (1 : Int)))))
   (k_ (.inr t6))
def R_ZText.c100011s : Shape := ⟨[(0, q24), (1, q21), (2, q0), (3, q0), (4, q2), (5, q6), (6, q2)], [(1, q14)]⟩
def R_ZText.c100011x0 : Shape := ⟨[(0, q24), (1, q21), (2, q0), (3, q0), (4, q2), (5, q6), (6, q2)], [(1, q14)]⟩
def R_ZText.c100011r : Ck := Ck.ofLoop (S := Int) (T := Int) R_ZText.c100011s (fun x_ => uP x_ fun a x_ => uP x_ fun t2 x_ => uP x_ fun text x_ => uP x_ fun i x_ => uP x_ fun four x_ => uP x_ fun t6 x_ => uP x_ fun a0 x_ => uP x_ fun a1 x_ => t6) (fun ρ x_ s_ k_ => uP x_ fun a x_ => uP x_ fun t2 x_ => uP x_ fun text x_ => uP x_ fun i x_ => uP x_ fun four x_ => uP x_ fun t6 x_ => uP x_ fun a0 x_ => uP x_ fun a1 x_ => R_ZText.c100011 i four s_ a1 k_) (fun ρ x_ r_ k_ => uP x_ fun a x_ => uP x_ fun t2 x_ => uP x_ fun text x_ => uP x_ fun i x_ => uP x_ fun four x_ => uP x_ fun t6 x_ => uP x_ fun a0 x_ => uP x_ fun a1 x_ => k_ 4 (Shape.inj R_ZText.c100011x0 (a, t2, text, i, four, r_, a0, a1, ())))
def R_ZText.c100007 {ρ : Type} (text : List UInt8) (i : Int) (a1 : List (Int)) (k_ : ((List UInt8) × (Int)) ⊕ ((List UInt8) × (Int)) → Option ρ) : Option ρ :=
  br (decide (i ≥ (0 : Int)))
   (bnd (W.R_ZText.c9 i a1 some) fun y =>
    bnd (iter (fun s ↦ W.R_ZText.c100011 i y s a1 some) (0 : Int)) fun y_1 =>
    bnd (okIf (decide ((0 : Int) ≤ y_1) && decide (y_1 ≤ (↑(List.length y) : Int)) && decide ((↑(List.length y) : Int) ≤ (↑(List.length y) : Int)))) fun y_2 =>
    bnd (okIf (decide (List.length text + List.length (List.map (fun n ↦ UInt8.ofNat (Int.toNat n)) (List.drop (Int.toNat y_1) (List.take (Int.toNat (↑(List.length y) : Int)) y))) ≤ (9223372036854775807 : Nat)))) fun y_3 =>
    k_ (.inl ((text ++ List.map (fun n ↦ UInt8.ofNat (Int.toNat n)) (List.drop (Int.toNat y_1) (List.take (Int.toNat (↑(List.length y) : Int)) y))), (IntKind.wrap IntKind.i64 (i - (1 : Int))))))
   (k_ (.inr (text, i)))
def R_ZText.c100007s : Shape := ⟨[(0, q24), (1, q21), (2, q0), (3, q0), (4, q2)], [(1, q14)]⟩
def R_ZText.c100007x0 : Shape := ⟨[(0, q24), (1, q21), (2, q0), (3, q0), (4, q2)], [(1, q14)]⟩
def R_ZText.c100007r : Ck := Ck.ofLoop (S := (List UInt8) × (Int)) (T := (List UInt8) × (Int)) R_ZText.c100007s (fun x_ => uP x_ fun a x_ => uP x_ fun t2 x_ => uP x_ fun text x_ => uP x_ fun i x_ => uP x_ fun a0 x_ => uP x_ fun a1 x_ => (text, i)) (fun ρ x_ s_ k_ => uP x_ fun a x_ => uP x_ fun t2 x_ => uP x_ fun text x_ => uP x_ fun i x_ => uP x_ fun a0 x_ => uP x_ fun a1 x_ => R_ZText.c100007 s_.1 s_.2 a1 k_) (fun ρ x_ r_ k_ => uP x_ fun a x_ => uP x_ fun t2 x_ => uP x_ fun text x_ => uP x_ fun i x_ => uP x_ fun a0 x_ => uP x_ fun a1 x_ => k_ 2 (Shape.inj R_ZText.c100007x0 (a, t2, r_.1, r_.2, a0, a1, ())))
def R_ZText (a : (Bool) × (List Int)) : Option (List UInt8) :=
  br ((↑(List.length (Prod.snd a)) : Int) == (0 : Int))
   (some (Array.toList (ByteArray.data (ByteArray.mk #[(48 : UInt8)]))))
   (bnd (W.R_ZText.c216389 (Array.toList (ByteArray.data (ByteArray.mk #[]))) (Prod.fst a) some) fun y =>
    bnd (iter (fun s ↦ W.R_ZText.c100007 (Prod.fst s) (Prod.snd s) (Prod.snd a) some) (y, IntKind.wrap IntKind.i64 ((↑(List.length (Prod.snd a)) : Int) - (1 : Int)))) fun y_1 =>
    some (Prod.fst y_1))
def R_ZText.ce : Go.Ql.Callee := ⟨[(.st (.pair .bool (.sl (.int .i64))))], [.str], fun x_ => R_ZText x_⟩
def R_ZText.G : Env := ⟨82, tab, [], [0, 1, 2, 3, 4, 5, 6, 10, 12, 18, 72], [], [(9, [⟨[], [], [23, 29, 30, 31, 32, 33, 34, 35, 36, 37, 38, 39, 40, 41, 42, 43, 44, 45, 46, 47, 48, 49, 50, 51, 52, 53, 54], []⟩, ⟨[0], [], [23, 29, 30, 31, 32, 33, 34, 35, 36, 37, 38, 39, 40, 41, 42, 43, 44, 45, 46, 47, 48, 49, 50, 51, 52, 53, 54], []⟩, ⟨[], [], [21, 22, 29, 30, 31, 32, 33, 34, 35, 36, 37, 38, 39, 40, 41, 42, 43, 44, 45, 46, 47, 48, 49, 50, 51, 52, 53, 54], []⟩, ⟨[1, 0, 2], [], [29, 30, 31, 32, 33, 34, 35, 36, 37, 38, 39, 40, 41, 42, 43, 44, 45, 46, 47, 48, 49, 50, 51, 52, 53, 54], []⟩, ⟨[3, 1, 0, 2], [], [29, 30, 31, 32, 33, 34, 35, 36, 37, 38, 39, 40, 41, 42, 43, 44, 45, 46, 47, 48, 49, 50, 51, 52, 53, 54], []⟩, ⟨[4, 3, 1, 0, 2], [], [29, 30, 31, 32, 33, 34, 35, 36, 37, 38, 39, 40, 41, 42, 43, 44, 45, 46, 47, 48, 49, 50, 51, 52, 53, 54], []⟩, ⟨[5, 4, 3, 1, 0, 2], [], [29, 30, 31, 32, 33, 34, 35, 36, 37, 38, 39, 40, 41, 42, 43, 44, 45, 46, 47, 48, 49, 50, 51, 52, 53, 54], []⟩, ⟨[6, 5, 4, 3, 1, 0, 2], [], [29, 30, 31, 32, 33, 34, 35, 36, 37, 38, 39, 40, 41, 42, 43, 44, 45, 46, 47, 48, 49, 50, 51, 52, 53, 54], []⟩, ⟨[], [], [21, 22, 23, 24, 25, 26, 27, 28, 31, 38, 39, 40, 41, 42, 43, 44, 45, 46, 47, 48, 49, 50, 51, 52, 53, 54], []⟩, ⟨[8], [], [21, 22, 23, 24, 25, 26, 27, 28, 31, 38, 39, 40, 41, 42, 43, 44, 45, 46, 47, 48, 49, 50, 51, 52, 53, 54], []⟩, ⟨[], [], [21, 22, 23, 24, 25, 26, 27, 28, 29, 30, 38, 39, 40, 41, 42, 43, 44, 45, 46, 47, 48, 49, 50, 51, 52, 53, 54], []⟩, ⟨[9, 8, 10], [], [21, 22, 23, 24, 25, 26, 27, 28, 38, 39, 40, 41, 42, 43, 44, 45, 46, 47, 48, 49, 50, 51, 52, 53, 54], []⟩, ⟨[11, 9, 8, 10], [], [21, 22, 23, 24, 25, 26, 27, 28, 38, 39, 40, 41, 42, 43, 44, 45, 46, 47, 48, 49, 50, 51, 52, 53, 54], []⟩, ⟨[12, 11, 9, 8, 10], [], [21, 22, 23, 24, 25, 26, 27, 28, 38, 39, 40, 41, 42, 43, 44, 45, 46, 47, 48, 49, 50, 51, 52, 53, 54], []⟩, ⟨[13, 12, 11, 9, 8, 10], [], [21, 22, 23, 24, 25, 26, 27, 28, 38, 39, 40, 41, 42, 43, 44, 45, 46, 47, 48, 49, 50, 51, 52, 53, 54], []⟩, ⟨[14, 13, 12, 11, 9, 8, 10], [], [21, 22, 23, 24, 25, 26, 27, 28, 38, 39, 40, 41, 42, 43, 44, 45, 46, 47, 48, 49, 50, 51, 52, 53, 54], []⟩, ⟨[15, 14, 13, 12, 11, 9, 8, 10], [], [21, 22, 23, 24, 25, 26, 27, 28, 38, 39, 40, 41, 42, 43, 44, 45, 46, 47, 48, 49, 50, 51, 52, 53, 54], []⟩, ⟨[], [], [21, 22, 23, 24, 25, 26, 27, 28, 29, 30, 31, 32, 33, 34, 35, 36, 37, 40, 47, 48, 49, 50, 51, 52, 53, 54], []⟩, ⟨[17], [], [21, 22, 23, 24, 25, 26, 27, 28, 29, 30, 31, 32, 33, 34, 35, 36, 37, 40, 47, 48, 49, 50, 51, 52, 53, 54], []⟩, ⟨[], [], [21, 22, 23, 24, 25, 26, 27, 28, 29, 30, 31, 32, 33, 34, 35, 36, 37, 38, 39, 47, 48, 49, 50, 51, 52, 53, 54], []⟩, ⟨[18, 17, 19], [], [21, 22, 23, 24, 25, 26, 27, 28, 29, 30, 31, 32, 33, 34, 35, 36, 37, 47, 48, 49, 50, 51, 52, 53, 54], []⟩, ⟨[20, 18, 17, 19], [], [21, 22, 23, 24, 25, 26, 27, 28, 29, 30, 31, 32, 33, 34, 35, 36, 37, 47, 48, 49, 50, 51, 52, 53, 54], []⟩, ⟨[21, 20, 18, 17, 19], [], [21, 22, 23, 24, 25, 26, 27, 28, 29, 30, 31, 32, 33, 34, 35, 36, 37, 47, 48, 49, 50, 51, 52, 53, 54], []⟩, ⟨[22, 21, 20, 18, 17, 19], [], [21, 22, 23, 24, 25, 26, 27, 28, 29, 30, 31, 32, 33, 34, 35, 36, 37, 47, 48, 49, 50, 51, 52, 53, 54], []⟩, ⟨[23, 22, 21, 20, 18, 17, 19], [], [21, 22, 23, 24, 25, 26, 27, 28, 29, 30, 31, 32, 33, 34, 35, 36, 37, 47, 48, 49, 50, 51, 52, 53, 54], []⟩, ⟨[24, 23, 22, 21, 20, 18, 17, 19], [], [21, 22, 23, 24, 25, 26, 27, 28, 29, 30, 31, 32, 33, 34, 35, 36, 37, 47, 48, 49, 50, 51, 52, 53, 54], []⟩, ⟨[], [], [21, 22, 23, 24, 25, 26, 27, 28, 29, 30, 31, 32, 33, 34, 35, 36, 37, 38, 39, 40, 41, 42, 43, 44, 45, 46, 49], []⟩, ⟨[26], [], [21, 22, 23, 24, 25, 26, 27, 28, 29, 30, 31, 32, 33, 34, 35, 36, 37, 38, 39, 40, 41, 42, 43, 44, 45, 46, 49], []⟩, ⟨[], [], [21, 22, 23, 24, 25, 26, 27, 28, 29, 30, 31, 32, 33, 34, 35, 36, 37, 38, 39, 40, 41, 42, 43, 44, 45, 46, 47, 48], []⟩, ⟨[27, 26, 28], [], [21, 22, 23, 24, 25, 26, 27, 28, 29, 30, 31, 32, 33, 34, 35, 36, 37, 38, 39, 40, 41, 42, 43, 44, 45, 46], []⟩, ⟨[29, 27, 26, 28], [], [21, 22, 23, 24, 25, 26, 27, 28, 29, 30, 31, 32, 33, 34, 35, 36, 37, 38, 39, 40, 41, 42, 43, 44, 45, 46], []⟩, ⟨[30, 29, 27, 26, 28], [], [21, 22, 23, 24, 25, 26, 27, 28, 29, 30, 31, 32, 33, 34, 35, 36, 37, 38, 39, 40, 41, 42, 43, 44, 45, 46], []⟩, ⟨[31, 30, 29, 27, 26, 28], [], [21, 22, 23, 24, 25, 26, 27, 28, 29, 30, 31, 32, 33, 34, 35, 36, 37, 38, 39, 40, 41, 42, 43, 44, 45, 46], []⟩, ⟨[32, 31, 30, 29, 27, 26, 28], [], [21, 22, 23, 24, 25, 26, 27, 28, 29, 30, 31, 32, 33, 34, 35, 36, 37, 38, 39, 40, 41, 42, 43, 44, 45, 46], []⟩, ⟨[7, 6, 5, 4, 3, 1, 0, 2, 16, 15, 14, 13, 12, 11, 9, 8, 10, 25, 24, 23, 22, 21, 20, 18, 17, 19, 33, 32, 31, 30, 29, 27, 26, 28], [55], [], []⟩, ⟨[34, 7, 6, 5, 4, 3, 1, 0, 2, 16, 15, 14, 13, 12, 11, 9, 8, 10, 25, 24, 23, 22, 21, 20, 18, 17, 19, 33, 32, 31, 30, 29, 27, 26, 28], [], [], []⟩])], [(100007, R_ZText.c100007r), (100011, R_ZText.c100011r), (11, R_ZText.c11r), (9, R_ZText.c9r), (216389, R_ZText.c216389r)], [], tab_eqs⟩
theorem R_ZText.eq (x_ : dens [(.st (.pair .bool (.sl (.int .i64))))]) : den R_ZText.G Go.Proofs.Tryd.f10 [(.st (.pair .bool (.sl (.int .i64))))] [.str] x_ = R_ZText x_ := by kernel_rfl
theorem R_ZText.p0 : PieceOk R_ZText.G (pieceAt (pieces R_ZText.G.cks (bodyOf Go.Proofs.Tryd.f10)) 0).1 (pieceAt (pieces R_ZText.G.cks (bodyOf Go.Proofs.Tryd.f10)) 0).2 :=
  join_ok (s := R_ZText.c216389r) (by kernel_rfl) (by kernel_rfl) (sums_of (sh := R_ZText.c216389s) (fun ρ x_ k_ => (nat_br nat_leaf nat_leaf)) (fun ρ x_ t k => (by kernel_rfl)) (fun x_ => by kernel_rfl))
theorem R_ZText.p1 : PieceOk R_ZText.G (pieceAt (pieces R_ZText.G.cks (bodyOf Go.Proofs.Tryd.f10)) 1).1 (pieceAt (pieces R_ZText.G.cks (bodyOf Go.Proofs.Tryd.f10)) 1).2 :=
  loop_ok (s := R_ZText.c100007r) (by kernel_rfl) (by kernel_rfl) (loops_of (sh := R_ZText.c100007s) (I := fun x_ s_ => (x_.1, x_.2.1, s_.1, s_.2, x_.2.2.2.2.1, x_.2.2.2.2.2.1, ())) (fun x_ => rfl) (fun ρ x_ s_ k_ => (nat_br (nat_bnd fun _ => (nat_bnd fun _ => (nat_bnd fun _ => (nat_bnd fun _ => nat_leaf)))) nat_leaf)) (fun ρ x_ t k => (by kernel_rfl)) (fun x_ s => by kernel_rfl))
theorem R_ZText.p2 : PieceOk R_ZText.G (pieceAt (pieces R_ZText.G.cks (bodyOf Go.Proofs.Tryd.f10)) 2).1 (pieceAt (pieces R_ZText.G.cks (bodyOf Go.Proofs.Tryd.f10)) 2).2 :=
  region_ok (s := R_ZText.c9r) (by kernel_rfl) (by kernel_rfl) (sums_of (sh := R_ZText.c9s) (fun ρ x_ k_ => (nat_bnd fun _ => (nat_bnd fun _ => (nat_bnd fun _ => (nat_bnd fun _ => nat_leaf))))) (fun ρ x_ t k => (by kernel_rfl)) (fun x_ => by kernel_rfl))
theorem R_ZText.p3 : PieceOk R_ZText.G (pieceAt (pieces R_ZText.G.cks (bodyOf Go.Proofs.Tryd.f10)) 3).1 (pieceAt (pieces R_ZText.G.cks (bodyOf Go.Proofs.Tryd.f10)) 3).2 :=
  loop_ok (s := R_ZText.c100011r) (by kernel_rfl) (by kernel_rfl) (loops_of (sh := R_ZText.c100011s) (I := fun x_ s_ => (x_.1, x_.2.1, x_.2.2.1, x_.2.2.2.1, x_.2.2.2.2.1, s_, x_.2.2.2.2.2.2.1, x_.2.2.2.2.2.2.2.1, ())) (fun x_ => rfl) (fun ρ x_ s_ k_ => (nat_bnd fun _ => (nat_br nat_leaf nat_leaf))) (fun ρ x_ t k => (by kernel_rfl)) (fun x_ s => by kernel_rfl))
theorem R_ZText.p4 : PieceOk R_ZText.G (pieceAt (pieces R_ZText.G.cks (bodyOf Go.Proofs.Tryd.f10)) 4).1 (pieceAt (pieces R_ZText.G.cks (bodyOf Go.Proofs.Tryd.f10)) 4).2 :=
  region_ok (s := R_ZText.c11r) (by kernel_rfl) (by kernel_rfl) (sums_of (sh := R_ZText.c11s) (fun ρ x_ k_ => (nat_br (nat_br (nat_bnd fun _ => nat_leaf) nat_leaf) nat_leaf)) (fun ρ x_ t k => (by kernel_rfl)) (fun x_ => by kernel_rfl))
theorem R_ZText.ok : CalleeOk Go.Proofs.Tryd.prog 10 R_ZText.ce := fn_ok (G := R_ZText.G) tab_ok mixed Go.Proofs.Tryd.func10 ⟨fns_nil, mfns_nil, tab_eqs_ok⟩ (m := 5) (by kernel_rfl) ⟨⟨⟨⟨⟨trivial, R_ZText.p0⟩, R_ZText.p1⟩, R_ZText.p2⟩, R_ZText.p3⟩, R_ZText.p4⟩ (by kernel_rfl) R_ZText.eq
def whole_Int_Sign (a : (Bool) × (List Int)) : Option (Int) :=
  br ((↑(List.length (Prod.snd a)) : Int) == (0 : Int))
   (some (0 : Int))
   (br (Prod.fst a)
     (some (-1 : Int))
     (some (1 : Int)))
def whole_Int_Sign.ce : Go.Ql.Callee := ⟨[(.st (.pair .bool (.sl (.int .u32))))], [(.int .i64)], fun x_ => whole_Int_Sign x_⟩
def whole_Int_Sign.G : Env := ⟨11, tab, [], [0, 1, 2, 3, 8], [], [], [], [], tab_eqs⟩
theorem whole_Int_Sign.eq (x_ : dens [(.st (.pair .bool (.sl (.int .u32))))]) : den whole_Int_Sign.G Go.Proofs.Tryd.f13 [(.st (.pair .bool (.sl (.int .u32))))] [(.int .i64)] x_ = whole_Int_Sign x_ := by kernel_rfl
theorem whole_Int_Sign.ok : CalleeOk Go.Proofs.Tryd.prog 13 whole_Int_Sign.ce := fn_ok (G := whole_Int_Sign.G) tab_ok mixed Go.Proofs.Tryd.func13 ⟨fns_nil, mfns_nil, tab_eqs_ok⟩ (m := 0) (by kernel_rfl) trivial (by kernel_rfl) whole_Int_Sign.eq
def R_ZSign (a : (Bool) × (List Int)) : Option (Int) :=
  bnd (W.R_zsign (Prod.fst a, Prod.snd a)) fun y =>
  some y
def R_ZSign.ce : Go.Ql.Callee := ⟨[(.st (.pair .bool (.sl (.int .i64))))], [(.int .i64)], fun x_ => R_ZSign x_⟩
def R_ZSign.G : Env := ⟨5, tab, [(30, R_zsign.ce)], [0, 1, 2], [], [], [], [], tab_eqs⟩
theorem R_ZSign.eq (x_ : dens [(.st (.pair .bool (.sl (.int .i64))))]) : den R_ZSign.G Go.Proofs.Tryd.f14 [(.st (.pair .bool (.sl (.int .i64))))] [(.int .i64)] x_ = R_ZSign x_ := by kernel_rfl
theorem R_ZSign.ok : CalleeOk Go.Proofs.Tryd.prog 14 R_ZSign.ce := fn_ok (G := R_ZSign.G) tab_ok mixed Go.Proofs.Tryd.func14 ⟨(fns_cons R_zsign.ok fns_nil), mfns_nil, tab_eqs_ok⟩ (m := 0) (by kernel_rfl) trivial (by kernel_rfl) R_ZSign.eq
def whole_Int_Neg (a : (Bool) × (List Int)) : Option ((Bool) × (List Int)) :=
  bnd (W.whole_made (!Prod.fst a) (Prod.snd a)) fun y =>
  some (Prod.fst y, Prod.snd y)
def whole_Int_Neg.ce : Go.Ql.Callee := ⟨[(.st (.pair .bool (.sl (.int .u32))))], [(.st (.pair .bool (.sl (.int .u32))))], fun x_ => whole_Int_Neg x_⟩
def whole_Int_Neg.G : Env := ⟨9, tab, [(21, whole_made.ce)], [0, 1, 2], [], [], [], [], tab_eqs⟩
theorem whole_Int_Neg.eq (x_ : dens [(.st (.pair .bool (.sl (.int .u32))))]) : den whole_Int_Neg.G Go.Proofs.Tryd.f15 [(.st (.pair .bool (.sl (.int .u32))))] [(.st (.pair .bool (.sl (.int .u32))))] x_ = whole_Int_Neg x_ := by kernel_rfl
theorem whole_Int_Neg.ok : CalleeOk Go.Proofs.Tryd.prog 15 whole_Int_Neg.ce := fn_ok (G := whole_Int_Neg.G) tab_ok mixed Go.Proofs.Tryd.func15 ⟨(fns_cons whole_made.ok fns_nil), mfns_nil, tab_eqs_ok⟩ (m := 0) (by kernel_rfl) trivial (by kernel_rfl) whole_Int_Neg.eq
def whole_Int_Twos.c100002 {ρ : Type} (t6 : List (Int)) (t7 : Int) (t8 : Int) (k_ : (Int) ⊕ (((Int) × (Int)) ⊕ (Int)) → Option ρ) : Option ρ :=
  br (decide (t8 < t7))
   (bnd (idx t6 t8) fun y =>
    br (y != (0 : Int))
     (bnd (W.bits_TrailingZeros32 y) fun y_1 =>
      k_ (.inr (.inl ((IntKind.wrap IntKind.i64 (IntKind.wrap IntKind.i64 ((32 : Int) * t8) + y_1)), t8))))
     (k_ (.inl (IntKind.wrap IntKind.i64 (t8 + (1 : Int))))))
   (k_ (.inr (.inr t8)))
def whole_Int_Twos.c100002s : Shape := ⟨[(0, q20), (1, q21), (2, q2), (6, q3), (7, q2), (8, q2)], [(1, q9)]⟩
def whole_Int_Twos.c100002x0 : Shape := ⟨[(0, q20), (1, q21), (2, q2), (6, q3), (7, q2), (8, q2)], [(1, q9)]⟩
def whole_Int_Twos.c100002x1 : Shape := ⟨[(0, q20), (1, q21), (2, q2), (6, q3), (7, q2), (8, q2)], [(1, q9)]⟩
def whole_Int_Twos.c100002r : Ck := Ck.ofLoop (S := Int) (T := ((Int) × (Int)) ⊕ (Int)) whole_Int_Twos.c100002s (fun x_ => uP x_ fun a x_ => uP x_ fun t2 x_ => uP x_ fun t6 x_ => uP x_ fun t7 x_ => uP x_ fun t8 x_ => uP x_ fun a0 x_ => uP x_ fun a1 x_ => t8) (fun ρ x_ s_ k_ => uP x_ fun a x_ => uP x_ fun t2 x_ => uP x_ fun t6 x_ => uP x_ fun t7 x_ => uP x_ fun t8 x_ => uP x_ fun a0 x_ => uP x_ fun a1 x_ => whole_Int_Twos.c100002 t6 t7 s_ k_) (fun ρ x_ r_ k_ => uP x_ fun a x_ => uP x_ fun t2 x_ => uP x_ fun t6 x_ => uP x_ fun t7 x_ => uP x_ fun t8 x_ => uP x_ fun a0 x_ => uP x_ fun a1 x_ => sel r_ (fun r_ => k_ 1 (Shape.inj whole_Int_Twos.c100002x0 (a, r_.1, t6, t7, r_.2, a0, a1, ()))) (fun r_ => k_ 2 (Shape.inj whole_Int_Twos.c100002x1 (a, t2, t6, t7, r_, a0, a1, ()))))
def whole_Int_Twos (a : (Bool) × (List Int)) : Option (Int) :=
  bnd (iter (fun s ↦ W.whole_Int_Twos.c100002 (Prod.snd a) (↑(List.length (Prod.snd a)) : Int) s some) (0 : Int)) fun y =>
  sel y
   (fun u => some (Prod.fst u))
   (fun v => some (0 : Int))
def whole_Int_Twos.ce : Go.Ql.Callee := ⟨[(.st (.pair .bool (.sl (.int .u32))))], [(.int .i64)], fun x_ => whole_Int_Twos x_⟩
def whole_Int_Twos.G : Env := ⟨21, tab, [(31, bits_TrailingZeros32.ce)], [0, 1, 2, 3, 4, 6, 7, 8, 9, 14], [], [], [(100002, whole_Int_Twos.c100002r)], [], tab_eqs⟩
theorem whole_Int_Twos.eq (x_ : dens [(.st (.pair .bool (.sl (.int .u32))))]) : den whole_Int_Twos.G Go.Proofs.Tryd.f17 [(.st (.pair .bool (.sl (.int .u32))))] [(.int .i64)] x_ = whole_Int_Twos x_ := by kernel_rfl
theorem whole_Int_Twos.p0 : PieceOk whole_Int_Twos.G (pieceAt (pieces whole_Int_Twos.G.cks (bodyOf Go.Proofs.Tryd.f17)) 0).1 (pieceAt (pieces whole_Int_Twos.G.cks (bodyOf Go.Proofs.Tryd.f17)) 0).2 :=
  loop_ok (s := whole_Int_Twos.c100002r) (by kernel_rfl) (by kernel_rfl) (loops_of (sh := whole_Int_Twos.c100002s) (I := fun x_ s_ => (x_.1, x_.2.1, x_.2.2.1, x_.2.2.2.1, s_, x_.2.2.2.2.2.1, x_.2.2.2.2.2.2.1, ())) (fun x_ => rfl) (fun ρ x_ s_ k_ => (nat_br (nat_bnd fun _ => (nat_br (nat_bnd fun _ => nat_leaf) nat_leaf)) nat_leaf)) (fun ρ x_ t k => (nat_sel (fun _ => (by kernel_rfl)) (fun _ => (by kernel_rfl)))) (fun x_ s => by kernel_rfl))
theorem whole_Int_Twos.ok : CalleeOk Go.Proofs.Tryd.prog 17 whole_Int_Twos.ce := fn_ok (G := whole_Int_Twos.G) tab_ok mixed Go.Proofs.Tryd.func17 ⟨(fns_cons bits_TrailingZeros32.ok fns_nil), mfns_nil, tab_eqs_ok⟩ (m := 1) (by kernel_rfl) ⟨trivial, whole_Int_Twos.p0⟩ (by kernel_rfl) whole_Int_Twos.eq
def R_zodd.c1 {ρ : Type} (a1 : List (Int)) (k_ : Bool → Option ρ) : Option ρ :=
  br (decide ((↑(List.length a1) : Int) > (0 : Int)))
   (bnd (idx a1 (0 : Int)) fun y =>
    k_ (Int.tmod y (2 : Int) == (1 : Int)))
   (k_ false)
def R_zodd.c1s : Shape := ⟨[(0, q24), (1, q21), (2, q1)], [(1, q14)]⟩
def R_zodd.c1x0 : Shape := ⟨[(0, q24), (1, q21), (2, q1)], [(1, q14)]⟩
def R_zodd.c1r : Ck := Ck.of (T := Bool) R_zodd.c1s (fun ρ x_ k_ => uP x_ fun a x_ => uP x_ fun t2 x_ => uP x_ fun a0 x_ => uP x_ fun a1 x_ => R_zodd.c1 a1 k_) (fun ρ x_ r_ k_ => uP x_ fun a x_ => uP x_ fun t2 x_ => uP x_ fun a0 x_ => uP x_ fun a1 x_ => k_ 0 (Shape.inj R_zodd.c1x0 (a, r_, a0, a1, ())))
def R_zodd (a : (Bool) × (List Int)) : Option (Bool) :=
  bnd (W.R_zodd.c1 (Prod.snd a) some) fun y =>
  some y
def R_zodd.ce : Go.Ql.Callee := ⟨[(.st (.pair .bool (.sl (.int .i64))))], [.bool], fun x_ => R_zodd x_⟩
def R_zodd.G : Env := ⟨15, tab, [], [0, 1, 2], [], [], [(1, R_zodd.c1r)], [], tab_eqs⟩
theorem R_zodd.eq (x_ : dens [(.st (.pair .bool (.sl (.int .i64))))]) : den R_zodd.G Go.Proofs.Tryd.f32 [(.st (.pair .bool (.sl (.int .i64))))] [.bool] x_ = R_zodd x_ := by kernel_rfl
theorem R_zodd.p0 : PieceOk R_zodd.G (pieceAt (pieces R_zodd.G.cks (bodyOf Go.Proofs.Tryd.f32)) 0).1 (pieceAt (pieces R_zodd.G.cks (bodyOf Go.Proofs.Tryd.f32)) 0).2 :=
  region_ok (s := R_zodd.c1r) (by kernel_rfl) (by kernel_rfl) (sums_of (sh := R_zodd.c1s) (fun ρ x_ k_ => (nat_br (nat_bnd fun _ => nat_leaf) nat_leaf)) (fun ρ x_ t k => (by kernel_rfl)) (fun x_ => by kernel_rfl))
theorem R_zodd.ok : CalleeOk Go.Proofs.Tryd.prog 32 R_zodd.ce := fn_ok (G := R_zodd.G) tab_ok mixed Go.Proofs.Tryd.func32 ⟨fns_nil, mfns_nil, tab_eqs_ok⟩ (m := 1) (by kernel_rfl) ⟨trivial, R_zodd.p0⟩ (by kernel_rfl) R_zodd.eq
abbrev q25 : SD := .one (.own 10 0)
def R_zhalf.c100004 {ρ : Type} (c : Int) (i : Int) (a1 : List (Int)) (t10 : List (Int)) (k_ : ((Int) × (Int) × (List Int)) ⊕ ((Int) × (Int) × (List Int)) → Option ρ) : Option ρ :=
  br (decide (i ≥ (0 : Int)))
   (bnd (idx a1 i) fun y =>
    bnd (inR (List.length t10) i) fun y_1 =>
    bnd (idx t10 i) fun y_2 =>
    k_ (.inl ((Int.tmod (IntKind.wrap IntKind.i64 (IntKind.wrap IntKind.i64 (c * (10000 : Int)) + y)) (2 : Int)), (IntKind.wrap IntKind.i64 (i - (1 : Int))), (List.set t10 (Int.toNat i) (IntKind.wrap IntKind.i64 (Int.tdiv (IntKind.wrap IntKind.i64 (IntKind.wrap IntKind.i64 (c * (10000 : Int)) + y)) (2 : Int)))))))
   (k_ (.inr (c, i, t10)))
def R_zhalf.c100004s : Shape := ⟨[(0, q24), (1, q21), (2, q10), (3, q1), (4, q25), (5, q2), (6, q2)], [(1, q14), (2, q14), (10, q16)]⟩
def R_zhalf.c100004x0 : Shape := ⟨[(0, q24), (1, q21), (2, q10), (3, q1), (4, q25), (5, q2), (6, q2)], [(1, q14), (2, q14), (10, q16)]⟩
def R_zhalf.c100004r : Ck := Ck.ofLoop (S := (Int) × (Int) × (List Int)) (T := (Int) × (Int) × (List Int)) R_zhalf.c100004s (fun x_ => uP x_ fun a x_ => uP x_ fun t3 x_ => uP x_ fun c x_ => uP x_ fun i x_ => uP x_ fun a0 x_ => uP x_ fun a1 x_ => uP x_ fun t20 x_ => uP x_ fun t21 x_ => uP x_ fun t10 x_ => (c, i, t10)) (fun ρ x_ s_ k_ => uP x_ fun a x_ => uP x_ fun t3 x_ => uP x_ fun c x_ => uP x_ fun i x_ => uP x_ fun a0 x_ => uP x_ fun a1 x_ => uP x_ fun t20 x_ => uP x_ fun t21 x_ => uP x_ fun t10 x_ => R_zhalf.c100004 s_.1 s_.2.1 a1 s_.2.2 k_) (fun ρ x_ r_ k_ => uP x_ fun a x_ => uP x_ fun t3 x_ => uP x_ fun c x_ => uP x_ fun i x_ => uP x_ fun a0 x_ => uP x_ fun a1 x_ => uP x_ fun t20 x_ => uP x_ fun t21 x_ => uP x_ fun t10 x_ => k_ 2 (Shape.inj R_zhalf.c100004x0 (a, t3, r_.1, r_.2.1, a0, a1, t20, t21, r_.2.2, ())))
def R_zhalf (a : (Bool) × (List Int)) : Option (((Bool) × (List Int)) × (Bool)) :=
  bnd (okIf (decide ((0 : Int) ≤ (↑(List.length (Prod.snd a)) : Int)) && decide ((↑(List.length (Prod.snd a)) : Int) ≤ (↑(List.length (Prod.snd a)) : Int)) && decide ((↑(List.length (Prod.snd a)) : Int) * (↑(8 : Nat) : Int) ≤ (140737488355328 : Int)) && decide ((↑(List.length (Prod.snd a)) : Int) ≤ (140737488355328 : Int)))) fun y =>
  bnd (iter (fun s ↦ W.R_zhalf.c100004 (Prod.fst s) (Prod.fst (Prod.snd s)) (Prod.snd a) (Prod.snd (Prod.snd s)) some) ((0 : Int), IntKind.wrap IntKind.i64 ((↑(List.length (Prod.snd a)) : Int) - (1 : Int)), List.replicate (Int.toNat (↑(List.length (Prod.snd a)) : Int)) (0 : Int))) fun y_1 =>
  bnd (W.R_zmade (Prod.fst a) (Prod.snd (Prod.snd y_1))) fun y_2 =>
  some ((Prod.fst y_2, Prod.snd y_2), decide (Prod.fst y_1 > (0 : Int)))
def R_zhalf.ce : Go.Ql.Callee := ⟨[(.st (.pair .bool (.sl (.int .i64))))], [(.st (.pair .bool (.sl (.int .i64)))), .bool], fun x_ => R_zhalf x_⟩
def R_zhalf.G : Env := ⟨40, tab, [(29, R_zmade.ce)], [0, 1, 2, 3, 4, 5, 6, 16], [10], [], [(100004, R_zhalf.c100004r)], [], tab_eqs⟩
theorem R_zhalf.eq (x_ : dens [(.st (.pair .bool (.sl (.int .i64))))]) : den R_zhalf.G Go.Proofs.Tryd.f33 [(.st (.pair .bool (.sl (.int .i64))))] [(.st (.pair .bool (.sl (.int .i64)))), .bool] x_ = R_zhalf x_ := by kernel_rfl
theorem R_zhalf.p0 : PieceOk R_zhalf.G (pieceAt (pieces R_zhalf.G.cks (bodyOf Go.Proofs.Tryd.f33)) 0).1 (pieceAt (pieces R_zhalf.G.cks (bodyOf Go.Proofs.Tryd.f33)) 0).2 :=
  loop_ok (s := R_zhalf.c100004r) (by kernel_rfl) (by kernel_rfl) (loops_of (sh := R_zhalf.c100004s) (I := fun x_ s_ => (x_.1, x_.2.1, s_.1, s_.2.1, x_.2.2.2.2.1, x_.2.2.2.2.2.1, x_.2.2.2.2.2.2.1, x_.2.2.2.2.2.2.2.1, s_.2.2, ())) (fun x_ => rfl) (fun ρ x_ s_ k_ => (nat_br (nat_bnd fun _ => (nat_bnd fun _ => (nat_bnd fun _ => nat_leaf))) nat_leaf)) (fun ρ x_ t k => (by kernel_rfl)) (fun x_ s => by kernel_rfl))
theorem R_zhalf.ok : CalleeOk Go.Proofs.Tryd.prog 33 R_zhalf.ce := fn_ok (G := R_zhalf.G) tab_ok mixed Go.Proofs.Tryd.func33 ⟨(fns_cons R_zmade.ok fns_nil), mfns_nil, tab_eqs_ok⟩ (m := 1) (by kernel_rfl) ⟨trivial, R_zhalf.p0⟩ (by kernel_rfl) R_zhalf.eq
def R_ZTwos.c2 {ρ : Type} (a0 : Bool) (a1 : List (Int)) (k_ : Bool → Option ρ) : Option ρ :=
  br (decide ((↑(List.length a1) : Int) > (0 : Int)))
   (bnd (W.R_zodd (a0, a1)) fun y =>
    k_ (!y))
   (k_ false)
def R_ZTwos.c2s : Shape := ⟨[(0, q24), (1, q21), (2, q2), (3, q2)], [(1, q14)]⟩
def R_ZTwos.c2x0 : Shape := ⟨[(0, q24), (1, q21), (2, q2), (3, q2), (12, q1)], [(1, q14)]⟩
def R_ZTwos.c2r : Ck := Ck.of (T := Bool) R_ZTwos.c2s (fun ρ x_ k_ => uP x_ fun a x_ => uP x_ fun t2 x_ => uP x_ fun n x_ => uP x_ fun a0 x_ => uP x_ fun a1 x_ => R_ZTwos.c2 a0 a1 k_) (fun ρ x_ r_ k_ => uP x_ fun a x_ => uP x_ fun t2 x_ => uP x_ fun n x_ => uP x_ fun a0 x_ => uP x_ fun a1 x_ => k_ 0 (Shape.inj R_ZTwos.c2x0 (a, t2, n, r_, a0, a1, ())))
def R_ZTwos.c100002 {ρ : Type} (n : Int) (a0 : Bool) (a1 : List (Int)) (k_ : ((Int) × (Bool) × (List Int)) ⊕ ((Int) × (Bool) × (List Int)) → Option ρ) : Option ρ :=
  bnd (W.R_ZTwos.c2 a0 a1 some) fun y =>
  br y
   (bnd (W.R_zhalf (a0, a1)) fun y_1 =>
    k_ (.inl ((IntKind.wrap IntKind.i64 (n + (1 : Int))), (Prod.fst (Prod.fst y_1)), (Prod.snd (Prod.fst y_1)))))
   (k_ (.inr (n, a0, a1)))
def R_ZTwos.c100002s : Shape := ⟨[(0, q24), (1, q21), (2, q2), (3, q2)], [(1, q14)]⟩
def R_ZTwos.c100002x0 : Shape := ⟨[(0, q24), (1, q21), (2, q2), (3, q2)], [(1, q14)]⟩
def R_ZTwos.c100002r : Ck := Ck.ofLoop (S := (Int) × (Bool) × (List Int)) (T := (Int) × (Bool) × (List Int)) R_ZTwos.c100002s (fun x_ => uP x_ fun a x_ => uP x_ fun t2 x_ => uP x_ fun n x_ => uP x_ fun a0 x_ => uP x_ fun a1 x_ => (n, a0, a1)) (fun ρ x_ s_ k_ => uP x_ fun a x_ => uP x_ fun t2 x_ => uP x_ fun n x_ => uP x_ fun a0 x_ => uP x_ fun a1 x_ => R_ZTwos.c100002 s_.1 s_.2.1 s_.2.2 k_) (fun ρ x_ r_ k_ => uP x_ fun a x_ => uP x_ fun t2 x_ => uP x_ fun n x_ => uP x_ fun a0 x_ => uP x_ fun a1 x_ => k_ 2 (Shape.inj R_ZTwos.c100002x0 (a, t2, r_.1, r_.2.1, r_.2.2, ())))
def R_ZTwos (a : (Bool) × (List Int)) : Option (Int) :=
  bnd (iter (fun s ↦ W.R_ZTwos.c100002 (Prod.fst s) (Prod.fst (Prod.snd s)) (Prod.snd (Prod.snd s)) some) ((0 : Int), Prod.fst a, Prod.snd a)) fun y =>
  some (Prod.fst y)
def R_ZTwos.ce : Go.Ql.Callee := ⟨[(.st (.pair .bool (.sl (.int .i64))))], [(.int .i64)], fun x_ => R_ZTwos x_⟩
def R_ZTwos.G : Env := ⟨21, tab, [(32, R_zodd.ce), (33, R_zhalf.ce)], [0, 1, 2, 3, 12], [], [], [(100002, R_ZTwos.c100002r), (2, R_ZTwos.c2r)], [], tab_eqs⟩
theorem R_ZTwos.eq (x_ : dens [(.st (.pair .bool (.sl (.int .i64))))]) : den R_ZTwos.G Go.Proofs.Tryd.f18 [(.st (.pair .bool (.sl (.int .i64))))] [(.int .i64)] x_ = R_ZTwos x_ := by kernel_rfl
theorem R_ZTwos.p0 : PieceOk R_ZTwos.G (pieceAt (pieces R_ZTwos.G.cks (bodyOf Go.Proofs.Tryd.f18)) 0).1 (pieceAt (pieces R_ZTwos.G.cks (bodyOf Go.Proofs.Tryd.f18)) 0).2 :=
  loop_ok (s := R_ZTwos.c100002r) (by kernel_rfl) (by kernel_rfl) (loops_of (sh := R_ZTwos.c100002s) (I := fun x_ s_ => (x_.1, x_.2.1, s_.1, s_.2.1, s_.2.2, ())) (fun x_ => rfl) (fun ρ x_ s_ k_ => (nat_bnd fun _ => (nat_br (nat_bnd fun _ => nat_leaf) nat_leaf))) (fun ρ x_ t k => (by kernel_rfl)) (fun x_ s => by kernel_rfl))
theorem R_ZTwos.p1 : PieceOk R_ZTwos.G (pieceAt (pieces R_ZTwos.G.cks (bodyOf Go.Proofs.Tryd.f18)) 1).1 (pieceAt (pieces R_ZTwos.G.cks (bodyOf Go.Proofs.Tryd.f18)) 1).2 :=
  region_ok (s := R_ZTwos.c2r) (by kernel_rfl) (by kernel_rfl) (sums_of (sh := R_ZTwos.c2s) (fun ρ x_ k_ => (nat_br (nat_bnd fun _ => nat_leaf) nat_leaf)) (fun ρ x_ t k => (by kernel_rfl)) (fun x_ => by kernel_rfl))
theorem R_ZTwos.ok : CalleeOk Go.Proofs.Tryd.prog 18 R_ZTwos.ce := fn_ok (G := R_ZTwos.G) tab_ok mixed Go.Proofs.Tryd.func18 ⟨(fns_cons R_zodd.ok (fns_cons R_zhalf.ok fns_nil)), mfns_nil, tab_eqs_ok⟩ (m := 2) (by kernel_rfl) ⟨⟨trivial, R_ZTwos.p0⟩, R_ZTwos.p1⟩ (by kernel_rfl) R_ZTwos.eq
abbrev q26 : SD := .one (.ref 5 0)
abbrev q27 : SD := .one (.ref 6 0)
abbrev q28 : SD := .one (.ref 7 0)
abbrev q29 : SD := .one (.ref 8 0)
def Law_WholeReads.c3 {ρ : Type} (f0 : Int) (f1 : Int) (g0 : Int) (g1 : Int) (k_ : Bool → Option ρ) : Option ρ :=
  bnd W.Law_wholeBegun fun y =>
  br (!y)
   (k_ true)
   (k_ (!Ty.eqT (Ty.pair (Ty.int IntKind.i64) (Ty.int IntKind.i64)) (f0, f1) (g0, g1)))
def Law_WholeReads.c3s : Shape := ⟨[(0, q0), (1, q2), (4, q1), (5, q26), (6, q27), (7, q28), (8, q29)], [(5, q9), (6, q12), (7, q14), (8, q12)]⟩
def Law_WholeReads.c3x0 : Shape := ⟨[(0, q0), (1, q2), (4, q1), (5, q26), (6, q27), (7, q28), (8, q29), (29, q1)], [(5, q9), (6, q12), (7, q14), (8, q12)]⟩
def Law_WholeReads.c3r : Ck := Ck.of (T := Bool) Law_WholeReads.c3s (fun ρ x_ k_ => uP x_ fun text x_ => uP x_ fun n x_ => uP x_ fun t4 x_ => uP x_ fun a0 x_ => uP x_ fun a1 x_ => uP x_ fun f0 x_ => uP x_ fun f1 x_ => uP x_ fun z0 x_ => uP x_ fun z1 x_ => uP x_ fun g0 x_ => uP x_ fun g1 x_ => Law_WholeReads.c3 f0 f1 g0 g1 k_) (fun ρ x_ r_ k_ => uP x_ fun text x_ => uP x_ fun n x_ => uP x_ fun t4 x_ => uP x_ fun a0 x_ => uP x_ fun a1 x_ => uP x_ fun f0 x_ => uP x_ fun f1 x_ => uP x_ fun z0 x_ => uP x_ fun z1 x_ => uP x_ fun g0 x_ => uP x_ fun g1 x_ => k_ 0 (Shape.inj Law_WholeReads.c3x0 (text, n, t4, r_, a0, a1, f0, f1, z0, z1, g0, g1, ())))
def Law_WholeReads.c7 {ρ : Type} (text : List UInt8) (n : Int) (a0 : Bool) (a1 : List (Int)) (z0 : Bool) (z1 : List (Int)) (g0 : Int) (k_ : Bool → Option ρ) : Option ρ :=
  br (g0 == (0 : Int))
   (bnd (W.whole_Int_Text (a0, a1)) fun y =>
    br (!y == text)
     (k_ true)
     (bnd (W.whole_Int_Text (a0, a1)) fun y_1 =>
      bnd (W.R_ZText (z0, z1)) fun y_2 =>
      br (!y_1 == y_2)
       (k_ true)
       (bnd (W.whole_Of n) fun y_3 =>
        bnd (W.whole_Int_Text y_3) fun y_4 =>
        bnd (W.R_ZOf n) fun y_5 =>
        bnd (W.R_ZText y_5) fun y_6 =>
        k_ (!y_4 == y_6))))
   (bnd (W.whole_Int_Text (a0, a1)) fun y_7 =>
    bnd (W.R_ZText (z0, z1)) fun y_8 =>
    br (!y_7 == y_8)
     (k_ true)
     (bnd (W.whole_Of n) fun y_9 =>
      bnd (W.whole_Int_Text y_9) fun y_10 =>
      bnd (W.R_ZOf n) fun y_11 =>
      bnd (W.R_ZText y_11) fun y_12 =>
      k_ (!y_10 == y_12)))
def Law_WholeReads.c7s : Shape := ⟨[(0, q0), (1, q2), (4, q1), (5, q26), (6, q27), (7, q28), (8, q29), (9, q2), (10, q1), (11, q2), (12, q1)], [(5, q9), (6, q12), (7, q14), (8, q12)]⟩
def Law_WholeReads.c7x0 : Shape := ⟨[(0, q0), (1, q2), (4, q1), (5, q26), (6, q27), (7, q28), (8, q29), (9, q2), (10, q1), (11, q2), (12, q1), (64, q1)], [(5, q9), (6, q12), (7, q14), (8, q12)]⟩
def Law_WholeReads.c7r : Ck := Ck.of (T := Bool) Law_WholeReads.c7s (fun ρ x_ k_ => uP x_ fun text x_ => uP x_ fun n x_ => uP x_ fun t4 x_ => uP x_ fun small x_ => uP x_ fun is x_ => uP x_ fun rsmall x_ => uP x_ fun ris x_ => uP x_ fun a0 x_ => uP x_ fun a1 x_ => uP x_ fun f0 x_ => uP x_ fun f1 x_ => uP x_ fun z0 x_ => uP x_ fun z1 x_ => uP x_ fun g0 x_ => uP x_ fun g1 x_ => Law_WholeReads.c7 text n a0 a1 z0 z1 g0 k_) (fun ρ x_ r_ k_ => uP x_ fun text x_ => uP x_ fun n x_ => uP x_ fun t4 x_ => uP x_ fun small x_ => uP x_ fun is x_ => uP x_ fun rsmall x_ => uP x_ fun ris x_ => uP x_ fun a0 x_ => uP x_ fun a1 x_ => uP x_ fun f0 x_ => uP x_ fun f1 x_ => uP x_ fun z0 x_ => uP x_ fun z1 x_ => uP x_ fun g0 x_ => uP x_ fun g1 x_ => k_ 0 (Shape.inj Law_WholeReads.c7x0 (text, n, t4, small, is, rsmall, ris, r_, a0, a1, f0, f1, z0, z1, g0, g1, ())))
def Law_WholeReads.c9 {ρ : Type} (small : Int) (is : Bool) (rsmall : Int) (ris : Bool) (a0 : Bool) (a1 : List (Int)) (z0 : Bool) (z1 : List (Int)) (k_ : Bool → Option ρ) : Option ρ :=
  bnd (W.whole_Int_Sign (a0, a1)) fun y =>
  bnd (W.R_ZSign (z0, z1)) fun y_1 =>
  br (y == y_1)
   (bnd (W.whole_Int_Neg (a0, a1)) fun y_2 =>
    bnd (W.whole_Int_Text y_2) fun y_3 =>
    bnd (W.R_ZNeg (z0, z1)) fun y_4 =>
    bnd (W.R_ZText y_4) fun y_5 =>
    br (y_3 == y_5)
     (bnd (W.whole_Int_Twos (a0, a1)) fun y_6 =>
      bnd (W.R_ZTwos (z0, z1)) fun y_7 =>
      br (y_6 == y_7)
       (br (small == rsmall)
         (k_ (is == ris))
         (k_ false))
       (k_ false))
     (k_ false))
   (k_ false)
def Law_WholeReads.c9s : Shape := ⟨[(0, q0), (1, q2), (4, q1), (5, q26), (6, q27), (7, q28), (8, q29), (9, q2), (10, q1), (11, q2), (12, q1)], [(5, q9), (6, q12), (7, q14), (8, q12)]⟩
def Law_WholeReads.c9x0 : Shape := ⟨[(0, q0), (1, q2), (4, q1), (5, q26), (6, q27), (7, q28), (8, q29), (9, q2), (10, q1), (11, q2), (12, q1)], [(5, q9), (6, q12), (7, q14), (8, q12)]⟩
def Law_WholeReads.c9r : Ck := Ck.of (T := Bool) Law_WholeReads.c9s (fun ρ x_ k_ => uP x_ fun text x_ => uP x_ fun n x_ => uP x_ fun t4 x_ => uP x_ fun small x_ => uP x_ fun is x_ => uP x_ fun rsmall x_ => uP x_ fun ris x_ => uP x_ fun a0 x_ => uP x_ fun a1 x_ => uP x_ fun f0 x_ => uP x_ fun f1 x_ => uP x_ fun z0 x_ => uP x_ fun z1 x_ => uP x_ fun g0 x_ => uP x_ fun g1 x_ => Law_WholeReads.c9 small is rsmall ris a0 a1 z0 z1 k_) (fun ρ x_ r_ k_ => uP x_ fun text x_ => uP x_ fun n x_ => uP x_ fun t4 x_ => uP x_ fun small x_ => uP x_ fun is x_ => uP x_ fun rsmall x_ => uP x_ fun ris x_ => uP x_ fun a0 x_ => uP x_ fun a1 x_ => uP x_ fun f0 x_ => uP x_ fun f1 x_ => uP x_ fun z0 x_ => uP x_ fun z1 x_ => uP x_ fun g0 x_ => uP x_ fun g1 x_ => k_ 0 (Shape.inj Law_WholeReads.c9x0 (text, n, r_, small, is, rsmall, ris, a0, a1, f0, f1, z0, z1, g0, g1, ())))
def Law_WholeReads (text : List UInt8) (n : Int) : Option (Bool) :=
  bnd (W.whole_Parse text) fun y =>
  bnd (W.R_ZParse text) fun y_1 =>
  bnd (W.Law_WholeReads.c3 (Prod.fst (Prod.snd y)) (Prod.snd (Prod.snd y)) (Prod.fst (Prod.snd y_1)) (Prod.snd (Prod.snd y_1)) some) fun y_2 =>
  br y_2
   (some false)
   (bnd (W.whole_Int_Small (Prod.fst (Prod.fst y), Prod.snd (Prod.fst y))) fun y_3 =>
    bnd (W.R_ZSmall (Prod.fst (Prod.fst y_1), Prod.snd (Prod.fst y_1))) fun y_4 =>
    bnd (W.Law_WholeReads.c7 text n (Prod.fst (Prod.fst y)) (Prod.snd (Prod.fst y)) (Prod.fst (Prod.fst y_1)) (Prod.snd (Prod.fst y_1)) (Prod.fst (Prod.snd y_1)) some) fun y_5 =>
    br y_5
     (some false)
     (bnd (W.Law_WholeReads.c9 (Prod.fst y_3) (Prod.snd y_3) (Prod.fst y_4) (Prod.snd y_4) (Prod.fst (Prod.fst y)) (Prod.snd (Prod.fst y)) (Prod.fst (Prod.fst y_1)) (Prod.snd (Prod.fst y_1)) some) fun y_6 =>
      some y_6))
def Law_WholeReads.ce : Go.Ql.Callee := ⟨[.str, (.int .i64)], [.bool], fun x_ => Law_WholeReads x_.1 x_.2⟩
def Law_WholeReads.G : Env := ⟨96, tab, [(4, whole_Parse.ce), (5, R_ZParse.ce), (6, Law_wholeBegun.ce), (7, whole_Int_Small.ce), (8, R_ZSmall.ce), (9, whole_Int_Text.ce), (10, R_ZText.ce), (11, whole_Of.ce), (12, R_ZOf.ce), (13, whole_Int_Sign.ce), (14, R_ZSign.ce), (15, whole_Int_Neg.ce), (16, R_ZNeg.ce), (17, whole_Int_Twos.ce), (18, R_ZTwos.ce)], [0, 1, 4, 5, 6, 7, 8, 9, 10, 11, 12, 29, 64], [], [(9, [⟨[], [], [67], []⟩, ⟨[0], [], [67], []⟩, ⟨[], [], [65, 66], []⟩, ⟨[2, 1, 0], [], [], []⟩, ⟨[1, 0, 3, 2], [], [], []⟩, ⟨[4, 1, 0, 3, 2], [], [], []⟩, ⟨[5, 4, 1, 0, 3, 2], [], [74], []⟩, ⟨[6, 5, 4, 1, 0, 3, 2], [], [74], []⟩, ⟨[7, 6, 5, 4, 1, 0, 3, 2], [], [74], []⟩, ⟨[5, 4, 1, 0, 3, 2], [], [71, 72, 73], []⟩, ⟨[9, 5, 4, 1, 0, 3, 2, 8, 7, 6], [], [], []⟩, ⟨[10, 9, 5, 4, 1, 0, 3, 2, 8, 7, 6], [], [], []⟩, ⟨[8, 7, 6, 5, 4, 1, 0, 3, 2, 11, 10, 9], [], [], []⟩, ⟨[5, 4, 1, 0, 3, 2, 12, 8, 7, 6, 11, 10, 9], [], [], []⟩, ⟨[13, 5, 4, 1, 0, 3, 2, 12, 8, 7, 6, 11, 10, 9], [], [], []⟩, ⟨[14, 13, 5, 4, 1, 0, 3, 2, 12, 8, 7, 6, 11, 10, 9], [], [82], []⟩, ⟨[15, 14, 13, 5, 4, 1, 0, 3, 2, 12, 8, 7, 6, 11, 10, 9], [], [82], []⟩, ⟨[14, 13, 5, 4, 1, 0, 3, 2, 12, 8, 7, 6, 11, 10, 9], [], [80, 81], []⟩, ⟨[17, 14, 13, 5, 4, 1, 0, 3, 2, 12, 8, 7, 6, 11, 10, 9, 16, 15], [], [], []⟩, ⟨[16, 15, 14, 13, 5, 4, 1, 0, 3, 2, 12, 8, 7, 6, 11, 10, 9, 18, 17], [], [], []⟩, ⟨[14, 13, 5, 4, 1, 0, 3, 2, 12, 8, 7, 6, 11, 10, 9, 19, 16, 15, 18, 17], [], [], []⟩, ⟨[20, 14, 13, 5, 4, 1, 0, 3, 2, 12, 8, 7, 6, 11, 10, 9, 19, 16, 15, 18, 17], [], [], []⟩, ⟨[21, 20, 14, 13, 5, 4, 1, 0, 3, 2, 12, 8, 7, 6, 11, 10, 9, 19, 16, 15, 18, 17], [], [88], []⟩, ⟨[21, 20, 14, 13, 5, 4, 1, 0, 3, 2, 12, 8, 7, 6, 11, 10, 9, 19, 16, 15, 18, 17], [], [87], []⟩, ⟨[22, 21, 20, 14, 13, 5, 4, 1, 0, 3, 2, 12, 8, 7, 6, 11, 10, 9, 19, 16, 15, 18, 17, 23], [], [], []⟩, ⟨[21, 20, 14, 13, 5, 4, 1, 0, 3, 2, 12, 8, 7, 6, 11, 10, 9, 19, 16, 15, 18, 17, 24, 22, 23], [], [], []⟩, ⟨[25, 21, 20, 14, 13, 5, 4, 1, 0, 3, 2, 12, 8, 7, 6, 11, 10, 9, 19, 16, 15, 18, 17, 24, 22, 23], [], [], []⟩, ⟨[26, 25, 21, 20, 14, 13, 5, 4, 1, 0, 3, 2, 12, 8, 7, 6, 11, 10, 9, 19, 16, 15, 18, 17, 24, 22, 23], [], [93], []⟩, ⟨[26, 25, 21, 20, 14, 13, 5, 4, 1, 0, 3, 2, 12, 8, 7, 6, 11, 10, 9, 19, 16, 15, 18, 17, 24, 22, 23], [], [92], []⟩, ⟨[27, 26, 25, 21, 20, 14, 13, 5, 4, 1, 0, 3, 2, 12, 8, 7, 6, 11, 10, 9, 19, 16, 15, 18, 17, 24, 22, 23, 28], [], [], []⟩, ⟨[26, 25, 21, 20, 14, 13, 5, 4, 1, 0, 3, 2, 12, 8, 7, 6, 11, 10, 9, 19, 16, 15, 18, 17, 24, 22, 23, 29, 27, 28], [], [], []⟩, ⟨[30, 26, 25, 21, 20, 14, 13, 5, 4, 1, 0, 3, 2, 12, 8, 7, 6, 11, 10, 9, 19, 16, 15, 18, 17, 24, 22, 23, 29, 27, 28], [], [], []⟩]),
  (7, [⟨[], [], [], []⟩, ⟨[0], [], [], []⟩, ⟨[1, 0], [], [], []⟩, ⟨[2, 1, 0], [], [], []⟩, ⟨[3, 2, 1, 0], [], [46], []⟩, ⟨[4, 3, 2, 1, 0], [], [46], []⟩, ⟨[3, 2, 1, 0], [], [44, 45], []⟩, ⟨[5, 4, 3, 2, 1, 0, 6], [], [], []⟩, ⟨[3, 2, 1, 0, 7, 5, 4, 6], [], [], []⟩, ⟨[8, 3, 2, 1, 0, 7, 5, 4, 6], [], [], []⟩, ⟨[9, 8, 3, 2, 1, 0, 7, 5, 4, 6], [], [52], []⟩, ⟨[10, 9, 8, 3, 2, 1, 0, 7, 5, 4, 6], [], [52], []⟩, ⟨[9, 8, 3, 2, 1, 0, 7, 5, 4, 6], [], [50, 51], []⟩, ⟨[12, 9, 8, 3, 2, 1, 0, 7, 5, 4, 6, 11, 10], [], [], []⟩, ⟨[11, 10, 9, 8, 3, 2, 1, 0, 7, 5, 4, 6, 13, 12], [], [], []⟩, ⟨[9, 8, 3, 2, 1, 0, 7, 5, 4, 6, 14, 11, 10, 13, 12], [], [], []⟩, ⟨[15, 9, 8, 3, 2, 1, 0, 7, 5, 4, 6, 14, 11, 10, 13, 12], [], [], []⟩, ⟨[16, 15, 9, 8, 3, 2, 1, 0, 7, 5, 4, 6, 14, 11, 10, 13, 12], [], [60], []⟩, ⟨[17, 16, 15, 9, 8, 3, 2, 1, 0, 7, 5, 4, 6, 14, 11, 10, 13, 12], [], [60], []⟩, ⟨[18, 17, 16, 15, 9, 8, 3, 2, 1, 0, 7, 5, 4, 6, 14, 11, 10, 13, 12], [], [60], []⟩, ⟨[16, 15, 9, 8, 3, 2, 1, 0, 7, 5, 4, 6, 14, 11, 10, 13, 12], [], [57, 58, 59], []⟩, ⟨[20, 16, 15, 9, 8, 3, 2, 1, 0, 7, 5, 4, 6, 14, 11, 10, 13, 12, 19, 18, 17], [], [], []⟩, ⟨[21, 20, 16, 15, 9, 8, 3, 2, 1, 0, 7, 5, 4, 6, 14, 11, 10, 13, 12, 19, 18, 17], [], [], []⟩, ⟨[19, 18, 17, 16, 15, 9, 8, 3, 2, 1, 0, 7, 5, 4, 6, 14, 11, 10, 13, 12, 22, 21, 20], [], [], []⟩, ⟨[16, 15, 9, 8, 3, 2, 1, 0, 7, 5, 4, 6, 14, 11, 10, 13, 12, 23, 19, 18, 17, 22, 21, 20], [], [], []⟩])], [(9, Law_WholeReads.c9r), (7, Law_WholeReads.c7r), (3, Law_WholeReads.c3r)], [], tab_eqs⟩
theorem Law_WholeReads.eq (x_ : dens [.str, (.int .i64)]) : den Law_WholeReads.G Go.Proofs.Tryd.f3 [.str, (.int .i64)] [.bool] x_ = Law_WholeReads x_.1 x_.2 := by kernel_rfl
theorem Law_WholeReads.p0 : PieceOk Law_WholeReads.G (pieceAt (pieces Law_WholeReads.G.cks (bodyOf Go.Proofs.Tryd.f3)) 0).1 (pieceAt (pieces Law_WholeReads.G.cks (bodyOf Go.Proofs.Tryd.f3)) 0).2 :=
  region_ok (s := Law_WholeReads.c3r) (by kernel_rfl) (by kernel_rfl) (sums_of (sh := Law_WholeReads.c3s) (fun ρ x_ k_ => (nat_bnd fun _ => (nat_br nat_leaf nat_leaf))) (fun ρ x_ t k => (by kernel_rfl)) (fun x_ => by kernel_rfl))
theorem Law_WholeReads.p1 : PieceOk Law_WholeReads.G (pieceAt (pieces Law_WholeReads.G.cks (bodyOf Go.Proofs.Tryd.f3)) 1).1 (pieceAt (pieces Law_WholeReads.G.cks (bodyOf Go.Proofs.Tryd.f3)) 1).2 :=
  region_ok (s := Law_WholeReads.c7r) (by kernel_rfl) (by kernel_rfl) (sums_of (sh := Law_WholeReads.c7s) (fun ρ x_ k_ => (nat_br (nat_bnd fun _ => (nat_br nat_leaf (nat_bnd fun _ => (nat_bnd fun _ => (nat_br nat_leaf (nat_bnd fun _ => (nat_bnd fun _ => (nat_bnd fun _ => (nat_bnd fun _ => nat_leaf))))))))) (nat_bnd fun _ => (nat_bnd fun _ => (nat_br nat_leaf (nat_bnd fun _ => (nat_bnd fun _ => (nat_bnd fun _ => (nat_bnd fun _ => nat_leaf))))))))) (fun ρ x_ t k => (by kernel_rfl)) (fun x_ => by kernel_rfl))
theorem Law_WholeReads.p2 : PieceOk Law_WholeReads.G (pieceAt (pieces Law_WholeReads.G.cks (bodyOf Go.Proofs.Tryd.f3)) 2).1 (pieceAt (pieces Law_WholeReads.G.cks (bodyOf Go.Proofs.Tryd.f3)) 2).2 :=
  region_ok (s := Law_WholeReads.c9r) (by kernel_rfl) (by kernel_rfl) (sums_of (sh := Law_WholeReads.c9s) (fun ρ x_ k_ => (nat_bnd fun _ => (nat_bnd fun _ => (nat_br (nat_bnd fun _ => (nat_bnd fun _ => (nat_bnd fun _ => (nat_bnd fun _ => (nat_br (nat_bnd fun _ => (nat_bnd fun _ => (nat_br (nat_br nat_leaf nat_leaf) nat_leaf))) nat_leaf))))) nat_leaf)))) (fun ρ x_ t k => (by kernel_rfl)) (fun x_ => by kernel_rfl))
theorem Law_WholeReads.ok : CalleeOk Go.Proofs.Tryd.prog 3 Law_WholeReads.ce := fn_ok (G := Law_WholeReads.G) tab_ok mixed Go.Proofs.Tryd.func3 ⟨(fns_cons whole_Parse.ok (fns_cons R_ZParse.ok (fns_cons Law_wholeBegun.ok (fns_cons whole_Int_Small.ok (fns_cons R_ZSmall.ok (fns_cons whole_Int_Text.ok (fns_cons R_ZText.ok (fns_cons whole_Of.ok (fns_cons R_ZOf.ok (fns_cons whole_Int_Sign.ok (fns_cons R_ZSign.ok (fns_cons whole_Int_Neg.ok (fns_cons R_ZNeg.ok (fns_cons whole_Int_Twos.ok (fns_cons R_ZTwos.ok fns_nil))))))))))))))), mfns_nil, tab_eqs_ok⟩ (m := 3) (by kernel_rfl) ⟨⟨⟨trivial, Law_WholeReads.p0⟩, Law_WholeReads.p1⟩, Law_WholeReads.p2⟩ (by kernel_rfl) Law_WholeReads.eq
end
end W
end
