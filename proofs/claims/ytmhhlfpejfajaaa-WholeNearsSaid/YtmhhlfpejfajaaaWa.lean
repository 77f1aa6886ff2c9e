/- Lifted functions of whole numbers, part 1: each with its contract. -/
import Derived.Test.YtmhhlfpejfajaaaLf
import Derived.Test.YtmhhlfpejfajaaaProg
section
/- Functions of the program as typed functions, printed by a program of mine, with their proofs. -/
set_option maxHeartbeats 4000000
set_option maxRecDepth 100000
set_option linter.unusedVariables false
namespace W
open Go Go.Ql
noncomputable section
def tab : List (Nat × TI) := [(2, ⟨.int .i64, .scalar⟩),
 (3, ⟨.int .i64, .scalar⟩),
 (4, ⟨.bool, .scalar⟩),
 (5, ⟨.int .u8, .scalar⟩),
 (6, ⟨.int .u8, .scalar⟩),
 (7, ⟨.st (.pair (.int .i64) (.pair (.int .i64) (.pair .bool (.int .u8)))), .struct [(0, 2), (1, 3), (2, 4), (3, 6)]⟩),
 (8, ⟨.st (.pair (.int .i64) (.pair (.int .i64) (.pair .bool (.int .u8)))), .struct [(0, 2), (1, 3), (2, 4), (3, 6)]⟩),
 (9, ⟨.str, .scalar⟩),
 (10, ⟨.str, .scalar⟩),
 (11, ⟨.str, .scalar⟩),
 (12, ⟨.int .u64, .scalar⟩),
 (13, ⟨.st (.pair .str (.int .u64)), .struct [(0, 9), (1, 12)]⟩),
 (14, ⟨.st (.pair .str (.int .u64)), .struct [(0, 9), (1, 12)]⟩),
 (21, ⟨.int .i32, .scalar⟩),
 (22, ⟨.sl (.int .u32), .slice 87 4⟩),
 (23, ⟨.st (.pair .bool (.sl (.int .u32))), .struct [(0, 4), (1, 22)]⟩),
 (24, ⟨.st (.pair .bool (.sl (.int .u32))), .struct [(0, 4), (1, 22)]⟩),
 (25, ⟨.st (.pair (.int .i64) (.int .i64)), .struct [(0, 3), (1, 3)]⟩),
 (26, ⟨.st (.pair (.int .i64) (.int .i64)), .struct [(0, 3), (1, 3)]⟩),
 (29, ⟨.sl (.int .i64), .slice 3 8⟩),
 (30, ⟨.st (.pair .bool (.sl (.int .i64))), .struct [(0, 4), (1, 29)]⟩),
 (31, ⟨.st (.pair .bool (.sl (.int .i64))), .struct [(0, 4), (1, 29)]⟩),
 (52, ⟨.st (.pair (.st (.pair .bool (.sl (.int .u32)))) (.st (.pair .bool (.sl (.int .u32))))), .struct [(0, 24), (2, 24)]⟩),
 (53, ⟨.st (.pair (.st (.pair .bool (.sl (.int .u32)))) (.st (.pair .bool (.sl (.int .u32))))), .struct [(0, 24), (2, 24)]⟩),
 (59, ⟨.st (.pair (.st (.pair .bool (.sl (.int .i64)))) (.st (.pair .bool (.sl (.int .i64))))), .struct [(0, 31), (2, 31)]⟩),
 (60, ⟨.st (.pair (.st (.pair .bool (.sl (.int .i64)))) (.st (.pair .bool (.sl (.int .i64))))), .struct [(0, 31), (2, 31)]⟩),
 (85, ⟨.sl (.int .u8), .slice 5 1⟩),
 (87, ⟨.int .u32, .scalar⟩),
 (88, ⟨.int .u64, .scalar⟩),
 (89, ⟨.int .u64, .scalar⟩),
 (106, ⟨.sl (.st (.pair .bool (.sl (.int .i64)))), .slice 31 32⟩),
 (124, ⟨.int .u8, .scalar⟩),
 (125, ⟨.int .u8, .scalar⟩),
 (128, ⟨.int .i32, .scalar⟩),
 (129, ⟨.int .i32, .scalar⟩),
 (132, ⟨.st .str, .struct [(0, 9)]⟩),
 (133, ⟨.st .str, .struct [(0, 9)]⟩)]
theorem mixed : Go.Proofs.Try.prog.follows .mixedOrders = true := by kernel_rfl
theorem tab_ok : TabOk Go.Proofs.Try.prog tab := tabB_ok (by kernel_rfl)
def tab_eqs : List Nat := [26]
theorem tab_eqs_ok : EqsOk Go.Proofs.Try.prog tab tab_eqs := eqsB_ok (by kernel_rfl)
abbrev q0 : SD := .one (.val .str)
abbrev q1 : SD := .one (.val .bool)
def stringslite_HasPrefix.c1 {ρ : Type} (s : List UInt8) (t1 : List UInt8) (k_ : Bool → Option ρ) : Option ρ :=
  br (decide ((↑(List.length s) : Int) ≥ (↑(List.length t1) : Int)))
   (bnd (okIf (decide ((0 : Int) ≤ (↑(List.length t1) : Int)) && decide ((↑(List.length t1) : Int) ≤ (↑(List.length s) : Int)))) fun y =>
    k_ (List.take (Int.toNat (↑(List.length t1) : Int)) s == t1))
   (k_ false)
def stringslite_HasPrefix.c1s : Shape := ⟨[(0, q0), (1, q0), (4, q1)], []⟩
def stringslite_HasPrefix.c1x0 : Shape := ⟨[(0, q0), (1, q0), (4, q1)], []⟩
def stringslite_HasPrefix.c1r : Ck := Ck.of (T := Bool) stringslite_HasPrefix.c1s (fun ρ x_ k_ => uP x_ fun s x_ => uP x_ fun t1 x_ => uP x_ fun t4 x_ => stringslite_HasPrefix.c1 s t1 k_) (fun ρ x_ r_ k_ => uP x_ fun s x_ => uP x_ fun t1 x_ => uP x_ fun t4 x_ => k_ 0 (Shape.inj stringslite_HasPrefix.c1x0 (s, t1, r_, ())))
def stringslite_HasPrefix (s : List UInt8) (t1 : List UInt8) : Option (Bool) :=
  bnd (W.stringslite_HasPrefix.c1 s t1 some) fun y =>
  some y
def stringslite_HasPrefix.ce : Go.Ql.Callee := ⟨[.str, .str], [.bool], fun x_ => stringslite_HasPrefix x_.1 x_.2⟩
def stringslite_HasPrefix.G : Env := ⟨18, tab, [], [0, 1, 4], [], [], [(1, stringslite_HasPrefix.c1r)], [], tab_eqs⟩
theorem stringslite_HasPrefix.eq (x_ : dens [.str, .str]) : den stringslite_HasPrefix.G Go.Proofs.Try.f87 [.str, .str] [.bool] x_ = stringslite_HasPrefix x_.1 x_.2 := by kernel_rfl
theorem stringslite_HasPrefix.p0 : PieceOk stringslite_HasPrefix.G (pieceAt (pieces stringslite_HasPrefix.G.cks (bodyOf Go.Proofs.Try.f87)) 0).1 (pieceAt (pieces stringslite_HasPrefix.G.cks (bodyOf Go.Proofs.Try.f87)) 0).2 :=
  region_ok (s := stringslite_HasPrefix.c1r) (by kernel_rfl) (by kernel_rfl) (sums_of (sh := stringslite_HasPrefix.c1s) (fun ρ x_ k_ => (nat_br (nat_bnd fun _ => nat_leaf) nat_leaf)) (fun ρ x_ t k => (by kernel_rfl)) (fun x_ => by kernel_rfl))
theorem stringslite_HasPrefix.ok : CalleeOk Go.Proofs.Try.prog 87 stringslite_HasPrefix.ce := fn_ok (G := stringslite_HasPrefix.G) tab_ok mixed Go.Proofs.Try.func87 ⟨fns_nil, mfns_nil, tab_eqs_ok⟩ (m := 1) (by kernel_rfl) ⟨trivial, stringslite_HasPrefix.p0⟩ (by kernel_rfl) stringslite_HasPrefix.eq
def strings_HasPrefix (s : List UInt8) (t1 : List UInt8) : Option (Bool) :=
  bnd (W.stringslite_HasPrefix s t1) fun y =>
  some y
def strings_HasPrefix.ce : Go.Ql.Callee := ⟨[.str, .str], [.bool], fun x_ => strings_HasPrefix x_.1 x_.2⟩
def strings_HasPrefix.G : Env := ⟨8, tab, [(87, stringslite_HasPrefix.ce)], [0, 1, 4], [], [], [], [], tab_eqs⟩
theorem strings_HasPrefix.eq (x_ : dens [.str, .str]) : den strings_HasPrefix.G Go.Proofs.Try.f77 [.str, .str] [.bool] x_ = strings_HasPrefix x_.1 x_.2 := by kernel_rfl
theorem strings_HasPrefix.ok : CalleeOk Go.Proofs.Try.prog 77 strings_HasPrefix.ce := fn_ok (G := strings_HasPrefix.G) tab_ok mixed Go.Proofs.Try.func77 ⟨(fns_cons stringslite_HasPrefix.ok fns_nil), mfns_nil, tab_eqs_ok⟩ (m := 0) (by kernel_rfl) trivial (by kernel_rfl) strings_HasPrefix.eq
abbrev q2 : SD := .one (.val (.int .i64))
def whole_number.c2 {ρ : Type} (text : List UInt8) (signed : Bool) (k_ : Bool → Option ρ) : Option ρ :=
  br signed
   (bnd (W.strings_HasPrefix text (Array.toList (ByteArray.data (ByteArray.mk #[(45 : UInt8)])))) fun y =>
    k_ y)
   (k_ false)
def whole_number.c2s : Shape := ⟨[(0, q0), (1, q1), (4, q2), (5, q1), (6, q2)], []⟩
def whole_number.c2x0 : Shape := ⟨[(0, q0), (1, q1), (4, q2), (5, q1), (6, q2), (12, q1)], []⟩
def whole_number.c2r : Ck := Ck.of (T := Bool) whole_number.c2s (fun ρ x_ k_ => uP x_ fun text x_ => uP x_ fun signed x_ => uP x_ fun t4 x_ => uP x_ fun t5 x_ => uP x_ fun t6 x_ => whole_number.c2 text signed k_) (fun ρ x_ r_ k_ => uP x_ fun text x_ => uP x_ fun signed x_ => uP x_ fun t4 x_ => uP x_ fun t5 x_ => uP x_ fun t6 x_ => k_ 0 (Shape.inj whole_number.c2x0 (text, signed, t4, t5, t6, r_, ())))
def whole_number.c208197 {ρ : Type} (text : List UInt8) (signed : Bool) (t6 : Int) (k_ : Int → Option ρ) : Option ρ :=
  bnd (W.whole_number.c2 text signed some) fun y =>
  br y
   (k_ (1 : Int))
   (k_ t6)
def whole_number.c208197s : Shape := ⟨[(0, q0), (1, q1), (4, q2), (5, q1), (6, q2)], []⟩
def whole_number.c208197x0 : Shape := ⟨[(0, q0), (1, q1), (4, q2), (5, q1), (6, q2)], []⟩
def whole_number.c208197r : Ck := Ck.of (T := Int) whole_number.c208197s (fun ρ x_ k_ => uP x_ fun text x_ => uP x_ fun signed x_ => uP x_ fun t4 x_ => uP x_ fun t5 x_ => uP x_ fun t6 x_ => whole_number.c208197 text signed t6 k_) (fun ρ x_ r_ k_ => uP x_ fun text x_ => uP x_ fun signed x_ => uP x_ fun t4 x_ => uP x_ fun t5 x_ => uP x_ fun t6 x_ => k_ 0 (Shape.inj whole_number.c208197x0 (text, signed, t4, t5, r_, ())))
def whole_number.c5 {ρ : Type} (signed : Bool) (t6 : Int) (k_ : Bool → Option ρ) : Option ρ :=
  br (!signed)
   (k_ true)
   (k_ (t6 == (1 : Int)))
def whole_number.c5s : Shape := ⟨[(0, q0), (1, q1), (4, q2), (5, q1), (6, q2)], []⟩
def whole_number.c5x0 : Shape := ⟨[(0, q0), (1, q1), (4, q2), (5, q1), (6, q2), (22, q1)], []⟩
def whole_number.c5r : Ck := Ck.of (T := Bool) whole_number.c5s (fun ρ x_ k_ => uP x_ fun text x_ => uP x_ fun signed x_ => uP x_ fun t4 x_ => uP x_ fun t5 x_ => uP x_ fun t6 x_ => whole_number.c5 signed t6 k_) (fun ρ x_ r_ k_ => uP x_ fun text x_ => uP x_ fun signed x_ => uP x_ fun t4 x_ => uP x_ fun t5 x_ => uP x_ fun t6 x_ => k_ 0 (Shape.inj whole_number.c5x0 (text, signed, t4, t5, t6, r_, ())))
def whole_number.c9 {ρ : Type} (text : List UInt8) (i : Int) (k_ : Bool → Option ρ) : Option ρ :=
  br (decide (i < (↑(List.length text) : Int)))
   (bnd (idx text i) fun y =>
    br (decide ((48 : Int) ≤ (↑(UInt8.toNat y) : Int)))
     (bnd (idx text i) fun y_1 =>
      k_ (decide ((↑(UInt8.toNat y_1) : Int) ≤ (57 : Int))))
     (k_ false))
   (k_ false)
def whole_number.c9s : Shape := ⟨[(0, q0), (1, q1), (4, q2), (5, q1), (6, q2), (7, q2)], []⟩
def whole_number.c9x0 : Shape := ⟨[(0, q0), (1, q1), (4, q2), (5, q1), (6, q2), (7, q2), (40, q1)], []⟩
def whole_number.c9r : Ck := Ck.of (T := Bool) whole_number.c9s (fun ρ x_ k_ => uP x_ fun text x_ => uP x_ fun signed x_ => uP x_ fun t4 x_ => uP x_ fun t5 x_ => uP x_ fun t6 x_ => uP x_ fun i x_ => whole_number.c9 text i k_) (fun ρ x_ r_ k_ => uP x_ fun text x_ => uP x_ fun signed x_ => uP x_ fun t4 x_ => uP x_ fun t5 x_ => uP x_ fun t6 x_ => uP x_ fun i x_ => k_ 0 (Shape.inj whole_number.c9x0 (text, signed, t4, t5, t6, i, r_, ())))
def whole_number.c100009 {ρ : Type} (text : List UInt8) (i : Int) (k_ : (Int) ⊕ (Int) → Option ρ) : Option ρ :=
  bnd (W.whole_number.c9 text i some) fun y =>
  br y
   (k_ (.inl (IntKind.wrap IntKind.i64 (i + (1 : Int)))))
   (k_ (.inr i))
def whole_number.c100009s : Shape := ⟨[(0, q0), (1, q1), (4, q2), (5, q1), (6, q2), (7, q2)], []⟩
def whole_number.c100009x0 : Shape := ⟨[(0, q0), (1, q1), (4, q2), (5, q1), (6, q2), (7, q2)], []⟩
def whole_number.c100009r : Ck := Ck.ofLoop (S := Int) (T := Int) whole_number.c100009s (fun x_ => uP x_ fun text x_ => uP x_ fun signed x_ => uP x_ fun t4 x_ => uP x_ fun t5 x_ => uP x_ fun t6 x_ => uP x_ fun i x_ => i) (fun ρ x_ s_ k_ => uP x_ fun text x_ => uP x_ fun signed x_ => uP x_ fun t4 x_ => uP x_ fun t5 x_ => uP x_ fun t6 x_ => uP x_ fun i x_ => whole_number.c100009 text s_ k_) (fun ρ x_ r_ k_ => uP x_ fun text x_ => uP x_ fun signed x_ => uP x_ fun t4 x_ => uP x_ fun t5 x_ => uP x_ fun t6 x_ => uP x_ fun i x_ => k_ 2 (Shape.inj whole_number.c100009x0 (text, signed, t4, t5, t6, r_, ())))
def whole_number (text : List UInt8) (signed : Bool) : Option ((Int) × (Bool)) :=
  bnd (W.whole_number.c208197 text signed (0 : Int) some) fun y =>
  bnd (okIf (decide ((0 : Int) ≤ y) && decide (y ≤ (↑(List.length text) : Int)) && decide ((↑(List.length text) : Int) ≤ (↑(List.length text) : Int)))) fun y_1 =>
  bnd (W.strings_HasPrefix (List.drop (Int.toNat y) (List.take (Int.toNat (↑(List.length text) : Int)) text)) (Array.toList (ByteArray.data (ByteArray.mk #[(48 : UInt8)])))) fun y_2 =>
  br y_2
   (bnd (W.whole_number.c5 signed y some) fun y_3 =>
    br y_3
     (some (y, false))
     (some ((1 : Int), true)))
   (bnd (iter (fun s ↦ W.whole_number.c100009 text s some) y) fun y_4 =>
    some (y_4, decide (y_4 > y)))
def whole_number.ce : Go.Ql.Callee := ⟨[.str, .bool], [(.int .i64), .bool], fun x_ => whole_number x_.1 x_.2⟩
def whole_number.G : Env := ⟨47, tab, [(77, strings_HasPrefix.ce)], [0, 1, 4, 5, 6, 7, 12, 16, 22, 40], [], [], [(100009, whole_number.c100009r), (9, whole_number.c9r), (5, whole_number.c5r), (208197, whole_number.c208197r), (2, whole_number.c2r)], [], tab_eqs⟩
theorem whole_number.eq (x_ : dens [.str, .bool]) : den whole_number.G Go.Proofs.Try.f48 [.str, .bool] [(.int .i64), .bool] x_ = whole_number x_.1 x_.2 := by kernel_rfl
theorem whole_number.p0 : PieceOk whole_number.G (pieceAt (pieces whole_number.G.cks (bodyOf Go.Proofs.Try.f48)) 0).1 (pieceAt (pieces whole_number.G.cks (bodyOf Go.Proofs.Try.f48)) 0).2 :=
  join_ok (s := whole_number.c208197r) (by kernel_rfl) (by kernel_rfl) (sums_of (sh := whole_number.c208197s) (fun ρ x_ k_ => (nat_bnd fun _ => (nat_br nat_leaf nat_leaf))) (fun ρ x_ t k => (by kernel_rfl)) (fun x_ => by kernel_rfl))
theorem whole_number.p1 : PieceOk whole_number.G (pieceAt (pieces whole_number.G.cks (bodyOf Go.Proofs.Try.f48)) 1).1 (pieceAt (pieces whole_number.G.cks (bodyOf Go.Proofs.Try.f48)) 1).2 :=
  region_ok (s := whole_number.c2r) (by kernel_rfl) (by kernel_rfl) (sums_of (sh := whole_number.c2s) (fun ρ x_ k_ => (nat_br (nat_bnd fun _ => nat_leaf) nat_leaf)) (fun ρ x_ t k => (by kernel_rfl)) (fun x_ => by kernel_rfl))
theorem whole_number.p2 : PieceOk whole_number.G (pieceAt (pieces whole_number.G.cks (bodyOf Go.Proofs.Try.f48)) 2).1 (pieceAt (pieces whole_number.G.cks (bodyOf Go.Proofs.Try.f48)) 2).2 :=
  region_ok (s := whole_number.c5r) (by kernel_rfl) (by kernel_rfl) (sums_of (sh := whole_number.c5s) (fun ρ x_ k_ => (nat_br nat_leaf nat_leaf)) (fun ρ x_ t k => (by kernel_rfl)) (fun x_ => by kernel_rfl))
theorem whole_number.p3 : PieceOk whole_number.G (pieceAt (pieces whole_number.G.cks (bodyOf Go.Proofs.Try.f48)) 3).1 (pieceAt (pieces whole_number.G.cks (bodyOf Go.Proofs.Try.f48)) 3).2 :=
  loop_ok (s := whole_number.c100009r) (by kernel_rfl) (by kernel_rfl) (loops_of (sh := whole_number.c100009s) (I := fun x_ s_ => (x_.1, x_.2.1, x_.2.2.1, x_.2.2.2.1, x_.2.2.2.2.1, s_, ())) (fun x_ => rfl) (fun ρ x_ s_ k_ => (nat_bnd fun _ => (nat_br nat_leaf nat_leaf))) (fun ρ x_ t k => (by kernel_rfl)) (fun x_ s => by kernel_rfl))
theorem whole_number.p4 : PieceOk whole_number.G (pieceAt (pieces whole_number.G.cks (bodyOf Go.Proofs.Try.f48)) 4).1 (pieceAt (pieces whole_number.G.cks (bodyOf Go.Proofs.Try.f48)) 4).2 :=
  region_ok (s := whole_number.c9r) (by kernel_rfl) (by kernel_rfl) (sums_of (sh := whole_number.c9s) (fun ρ x_ k_ => (nat_br (nat_bnd fun _ => (nat_br (nat_bnd fun _ => nat_leaf) nat_leaf)) nat_leaf)) (fun ρ x_ t k => (by kernel_rfl)) (fun x_ => by kernel_rfl))
theorem whole_number.ok : CalleeOk Go.Proofs.Try.prog 48 whole_number.ce := fn_ok (G := whole_number.G) tab_ok mixed Go.Proofs.Try.func48 ⟨(fns_cons strings_HasPrefix.ok fns_nil), mfns_nil, tab_eqs_ok⟩ (m := 5) (by kernel_rfl) ⟨⟨⟨⟨⟨trivial, whole_number.p0⟩, whole_number.p1⟩, whole_number.p2⟩, whole_number.p3⟩, whole_number.p4⟩ (by kernel_rfl) whole_number.eq
def stringslite_TrimPrefix (s : List UInt8) (t1 : List UInt8) : Option (List UInt8) :=
  bnd (W.stringslite_HasPrefix s t1) fun y =>
  br y
   (bnd (okIf (decide ((0 : Int) ≤ (↑(List.length t1) : Int)) && decide ((↑(List.length t1) : Int) ≤ (↑(List.length s) : Int)) && decide ((↑(List.length s) : Int) ≤ (↑(List.length s) : Int)))) fun y_1 =>
    some (List.drop (Int.toNat (↑(List.length t1) : Int)) (List.take (Int.toNat (↑(List.length s) : Int)) s)))
   (some s)
def stringslite_TrimPrefix.ce : Go.Ql.Callee := ⟨[.str, .str], [.str], fun x_ => stringslite_TrimPrefix x_.1 x_.2⟩
def stringslite_TrimPrefix.G : Env := ⟨13, tab, [(87, stringslite_HasPrefix.ce)], [0, 1, 4, 7], [], [], [], [], tab_eqs⟩
theorem stringslite_TrimPrefix.eq (x_ : dens [.str, .str]) : den stringslite_TrimPrefix.G Go.Proofs.Try.f78 [.str, .str] [.str] x_ = stringslite_TrimPrefix x_.1 x_.2 := by kernel_rfl
theorem stringslite_TrimPrefix.ok : CalleeOk Go.Proofs.Try.prog 78 stringslite_TrimPrefix.ce := fn_ok (G := stringslite_TrimPrefix.G) tab_ok mixed Go.Proofs.Try.func78 ⟨(fns_cons stringslite_HasPrefix.ok fns_nil), mfns_nil, tab_eqs_ok⟩ (m := 0) (by kernel_rfl) trivial (by kernel_rfl) stringslite_TrimPrefix.eq
def strings_TrimPrefix (s : List UInt8) (t1 : List UInt8) : Option (List UInt8) :=
  bnd (W.stringslite_TrimPrefix s t1) fun y =>
  some y
def strings_TrimPrefix.ce : Go.Ql.Callee := ⟨[.str, .str], [.str], fun x_ => strings_TrimPrefix x_.1 x_.2⟩
def strings_TrimPrefix.G : Env := ⟨8, tab, [(78, stringslite_TrimPrefix.ce)], [0, 1, 4], [], [], [], [], tab_eqs⟩
theorem strings_TrimPrefix.eq (x_ : dens [.str, .str]) : den strings_TrimPrefix.G Go.Proofs.Try.f49 [.str, .str] [.str] x_ = strings_TrimPrefix x_.1 x_.2 := by kernel_rfl
theorem strings_TrimPrefix.ok : CalleeOk Go.Proofs.Try.prog 49 strings_TrimPrefix.ce := fn_ok (G := strings_TrimPrefix.G) tab_ok mixed Go.Proofs.Try.func49 ⟨(fns_cons stringslite_TrimPrefix.ok fns_nil), mfns_nil, tab_eqs_ok⟩ (m := 0) (by kernel_rfl) trivial (by kernel_rfl) strings_TrimPrefix.eq
abbrev q3 : SD := .one (.val (.sl (.int .u32)))
abbrev q4 : SD := .one (.own 3 0)
abbrev q5 : SD := .one (.val (.int .u64))
abbrev q6 : SD := .one (.val (.sl (.int .u8)))
abbrev q7 : SO := .arr 0 false 87 (.int .u32)
def whole_digits.c100006 {ρ : Type} (part : Int) (t6 : Int) (t21 : List (Int)) (t22 : Int) (t23 : Int) (k_ : ((Int) × (Int) × (Int)) ⊕ ((Int) × (Int) × (Int)) → Option ρ) : Option ρ :=
  br (decide (t23 < t22))
   (bnd (idx t21 t23) fun y =>
    k_ (.inl ((IntKind.wrap IntKind.u64 (IntKind.wrap IntKind.u64 (part * (10 : Int)) + IntKind.wrap IntKind.u64 (IntKind.wrap IntKind.u8 (y - (48 : Int))))), (IntKind.wrap IntKind.u64 (t6 * (10 : Int))), (IntKind.wrap IntKind.i64 (t23 + (1 : Int))))))
   (k_ (.inr (part, t6, t23)))
def whole_digits.c100006s : Shape := ⟨[(0, q0), (2, q3), (3, q4), (4, q2), (5, q5), (6, q5), (21, q6), (22, q2), (23, q2)], [(3, q7)]⟩
def whole_digits.c100006x0 : Shape := ⟨[(0, q0), (2, q3), (3, q4), (4, q2), (5, q5), (6, q5), (21, q6), (22, q2), (23, q2)], [(3, q7)]⟩
def whole_digits.c100006r : Ck := Ck.ofLoop (S := (Int) × (Int) × (Int)) (T := (Int) × (Int) × (Int)) whole_digits.c100006s (fun x_ => uP x_ fun text x_ => uP x_ fun t2 x_ => uP x_ fun n x_ => uP x_ fun part x_ => uP x_ fun t6 x_ => uP x_ fun t21 x_ => uP x_ fun t22 x_ => uP x_ fun t23 x_ => uP x_ fun mag x_ => (part, t6, t23)) (fun ρ x_ s_ k_ => uP x_ fun text x_ => uP x_ fun t2 x_ => uP x_ fun n x_ => uP x_ fun part x_ => uP x_ fun t6 x_ => uP x_ fun t21 x_ => uP x_ fun t22 x_ => uP x_ fun t23 x_ => uP x_ fun mag x_ => whole_digits.c100006 s_.1 s_.2.1 t21 t22 s_.2.2 k_) (fun ρ x_ r_ k_ => uP x_ fun text x_ => uP x_ fun t2 x_ => uP x_ fun n x_ => uP x_ fun part x_ => uP x_ fun t6 x_ => uP x_ fun t21 x_ => uP x_ fun t22 x_ => uP x_ fun t23 x_ => uP x_ fun mag x_ => k_ 4 (Shape.inj whole_digits.c100006x0 (text, t2, n, r_.1, r_.2.1, t21, t22, r_.2.2, mag, ())))
def whole_digits.c100012 {ρ : Type} (part : Int) (t6 : Int) (t40 : Int) (t41 : Int) (mag : List (Int)) (k_ : ((Int) × (Int) × (List Int)) ⊕ ((Int) × (Int) × (List Int)) → Option ρ) : Option ρ :=
  br (decide (t41 < t40))
   (bnd (inR (List.length mag) t41) fun y =>
    bnd (idx mag t41) fun y_1 =>
    bnd (inR (List.length mag) t41) fun y_2 =>
    bnd (idx mag t41) fun y_3 =>
    k_ (.inl ((Int.fdiv (IntKind.wrap IntKind.u64 (part + IntKind.wrap IntKind.u64 (IntKind.wrap IntKind.u64 y_1 * t6))) ((2 : Int) ^ (32 : Nat))), (IntKind.wrap IntKind.i64 (t41 + (1 : Int))), (List.set mag (Int.toNat t41) (IntKind.wrap IntKind.u32 (IntKind.wrap IntKind.u64 (part + IntKind.wrap IntKind.u64 (IntKind.wrap IntKind.u64 y_1 * t6))))))))
   (k_ (.inr (part, t41, mag)))
def whole_digits.c100012s : Shape := ⟨[(0, q0), (2, q3), (3, q4), (4, q2), (5, q5), (6, q5), (21, q6), (22, q2), (23, q2), (40, q2), (41, q2)], [(3, q7)]⟩
def whole_digits.c100012x0 : Shape := ⟨[(0, q0), (2, q3), (3, q4), (4, q2), (5, q5), (6, q5), (21, q6), (22, q2), (23, q2), (40, q2), (41, q2)], [(3, q7)]⟩
def whole_digits.c100012r : Ck := Ck.ofLoop (S := (Int) × (Int) × (List Int)) (T := (Int) × (Int) × (List Int)) whole_digits.c100012s (fun x_ => uP x_ fun text x_ => uP x_ fun t2 x_ => uP x_ fun n x_ => uP x_ fun part x_ => uP x_ fun t6 x_ => uP x_ fun t21 x_ => uP x_ fun t22 x_ => uP x_ fun t23 x_ => uP x_ fun t40 x_ => uP x_ fun t41 x_ => uP x_ fun mag x_ => (part, t41, mag)) (fun ρ x_ s_ k_ => uP x_ fun text x_ => uP x_ fun t2 x_ => uP x_ fun n x_ => uP x_ fun part x_ => uP x_ fun t6 x_ => uP x_ fun t21 x_ => uP x_ fun t22 x_ => uP x_ fun t23 x_ => uP x_ fun t40 x_ => uP x_ fun t41 x_ => uP x_ fun mag x_ => whole_digits.c100012 s_.1 t6 t40 s_.2.1 s_.2.2 k_) (fun ρ x_ r_ k_ => uP x_ fun text x_ => uP x_ fun t2 x_ => uP x_ fun n x_ => uP x_ fun part x_ => uP x_ fun t6 x_ => uP x_ fun t21 x_ => uP x_ fun t22 x_ => uP x_ fun t23 x_ => uP x_ fun t40 x_ => uP x_ fun t41 x_ => uP x_ fun mag x_ => k_ 6 (Shape.inj whole_digits.c100012x0 (text, t2, n, r_.1, t6, t21, t22, t23, t40, r_.2.1, r_.2.2, ())))
def whole_digits.c100002 {ρ : Type} (text : List UInt8) (mag : List (Int)) (k_ : ((List UInt8) × (List Int)) ⊕ ((List UInt8) × (List Int)) → Option ρ) : Option ρ :=
  br (decide ((↑(List.length text) : Int) > (0 : Int)))
   (bnd (okIf (decide ((0 : Int) ≤ IntKind.wrap IntKind.i64 (Int.tmod (IntKind.wrap IntKind.i64 ((↑(List.length text) : Int) - (1 : Int))) (9 : Int) + (1 : Int))) && decide (IntKind.wrap IntKind.i64 (Int.tmod (IntKind.wrap IntKind.i64 ((↑(List.length text) : Int) - (1 : Int))) (9 : Int) + (1 : Int)) ≤ (↑(List.length text) : Int)))) fun y =>
    bnd (okIf (decide (List.length (List.take (Int.toNat (IntKind.wrap IntKind.i64 (Int.tmod (IntKind.wrap IntKind.i64 ((↑(List.length text) : Int) - (1 : Int))) (9 : Int) + (1 : Int)))) text) ≤ (140737488355328 : Nat)))) fun y_1 =>
    bnd (iter (fun s ↦ W.whole_digits.c100006 (Prod.fst s) (Prod.fst (Prod.snd s)) (List.map (fun b ↦ (↑(UInt8.toNat b) : Int)) (List.take (Int.toNat (IntKind.wrap IntKind.i64 (Int.tmod (IntKind.wrap IntKind.i64 ((↑(List.length text) : Int) - (1 : Int))) (9 : Int) + (1 : Int)))) text)) (↑(List.length (List.map (fun b ↦ (↑(UInt8.toNat b) : Int)) (List.take (Int.toNat (IntKind.wrap IntKind.i64 (Int.tmod (IntKind.wrap IntKind.i64 ((↑(List.length text) : Int) - (1 : Int))) (9 : Int) + (1 : Int)))) text))) : Int) (Prod.snd (Prod.snd s)) some) ((0 : Int), (1 : Int), (0 : Int))) fun y_2 =>
    bnd (okIf (decide ((0 : Int) ≤ IntKind.wrap IntKind.i64 (Int.tmod (IntKind.wrap IntKind.i64 ((↑(List.length text) : Int) - (1 : Int))) (9 : Int) + (1 : Int))) && decide (IntKind.wrap IntKind.i64 (Int.tmod (IntKind.wrap IntKind.i64 ((↑(List.length text) : Int) - (1 : Int))) (9 : Int) + (1 : Int)) ≤ (↑(List.length text) : Int)) && decide ((↑(List.length text) : Int) ≤ (↑(List.length text) : Int)))) fun y_3 =>
    bnd (iter (fun s ↦ W.whole_digits.c100012 (Prod.fst s) (Prod.fst (Prod.snd y_2)) (↑(List.length mag) : Int) (Prod.fst (Prod.snd s)) (Prod.snd (Prod.snd s)) some) (Prod.fst y_2, (0 : Int), mag)) fun y_4 =>
    br (decide (Prod.fst y_4 > (0 : Int)))
     (bnd (okIf (decide ((List.length (Prod.snd (Prod.snd y_4)) + List.length [IntKind.wrap IntKind.u32 (Prod.fst y_4)]) * (4 : Nat) ≤ (140737488355328 : Nat)) && decide (List.length (Prod.snd (Prod.snd y_4)) + List.length [IntKind.wrap IntKind.u32 (Prod.fst y_4)] ≤ (140737488355328 : Nat)))) fun y_5 =>
      k_ (.inl ((List.drop (Int.toNat (IntKind.wrap IntKind.i64 (Int.tmod (IntKind.wrap IntKind.i64 ((↑(List.length text) : Int) - (1 : Int))) (9 : Int) + (1 : Int)))) (List.take (Int.toNat (↑(List.length text) : Int)) text)), (Prod.snd (Prod.snd y_4) ++ [IntKind.wrap IntKind.u32 (Prod.fst y_4)]))))
     (k_ (.inl ((List.drop (Int.toNat (IntKind.wrap IntKind.i64 (Int.tmod (IntKind.wrap IntKind.i64 ((↑(List.length text) : Int) - (1 : Int))) (9 : Int) + (1 : Int)))) (List.take (Int.toNat (↑(List.length text) : Int)) text)), (Prod.snd (Prod.snd y_4))))))
   (k_ (.inr (text, mag)))
def whole_digits.c100002s : Shape := ⟨[(0, q0), (2, q3), (3, q4)], [(3, q7)]⟩
def whole_digits.c100002x0 : Shape := ⟨[(0, q0), (2, q3), (3, q4)], [(3, q7)]⟩
def whole_digits.c100002r : Ck := Ck.ofLoop (S := (List UInt8) × (List Int)) (T := (List UInt8) × (List Int)) whole_digits.c100002s (fun x_ => uP x_ fun text x_ => uP x_ fun t2 x_ => uP x_ fun mag x_ => (text, mag)) (fun ρ x_ s_ k_ => uP x_ fun text x_ => uP x_ fun t2 x_ => uP x_ fun mag x_ => whole_digits.c100002 s_.1 s_.2 k_) (fun ρ x_ r_ k_ => uP x_ fun text x_ => uP x_ fun t2 x_ => uP x_ fun mag x_ => k_ 2 (Shape.inj whole_digits.c100002x0 (r_.1, t2, r_.2, ())))
def whole_digits (text : List UInt8) : Option (List Int) :=
  bnd (iter (fun s ↦ W.whole_digits.c100002 (Prod.fst s) (Prod.snd s) some) (text, [])) fun y =>
  some (Prod.snd y)
def whole_digits.ce : Go.Ql.Callee := ⟨[.str], [(.sl (.int .u32))], fun x_ => whole_digits x_⟩
def whole_digits.G : Env := ⟨69, tab, [], [0, 2, 3, 4, 5, 6, 8, 9, 12, 21, 22, 23, 24, 40, 41, 42, 62], [3], [], [(100002, whole_digits.c100002r), (100012, whole_digits.c100012r), (100006, whole_digits.c100006r)], [], tab_eqs⟩
theorem whole_digits.eq (x_ : dens [.str]) : den whole_digits.G Go.Proofs.Try.f51 [.str] [(.sl (.int .u32))] x_ = whole_digits x_ := by kernel_rfl
theorem whole_digits.p0 : PieceOk whole_digits.G (pieceAt (pieces whole_digits.G.cks (bodyOf Go.Proofs.Try.f51)) 0).1 (pieceAt (pieces whole_digits.G.cks (bodyOf Go.Proofs.Try.f51)) 0).2 :=
  loop_ok (s := whole_digits.c100002r) (by kernel_rfl) (by kernel_rfl) (loops_of (sh := whole_digits.c100002s) (I := fun x_ s_ => (s_.1, x_.2.1, s_.2, ())) (fun x_ => rfl) (fun ρ x_ s_ k_ => (nat_br (nat_bnd fun _ => (nat_bnd fun _ => (nat_bnd fun _ => (nat_bnd fun _ => (nat_bnd fun _ => (nat_br (nat_bnd fun _ => nat_leaf) nat_leaf)))))) nat_leaf)) (fun ρ x_ t k => (by kernel_rfl)) (fun x_ s => by kernel_rfl))
theorem whole_digits.p1 : PieceOk whole_digits.G (pieceAt (pieces whole_digits.G.cks (bodyOf Go.Proofs.Try.f51)) 1).1 (pieceAt (pieces whole_digits.G.cks (bodyOf Go.Proofs.Try.f51)) 1).2 :=
  loop_ok (s := whole_digits.c100006r) (by kernel_rfl) (by kernel_rfl) (loops_of (sh := whole_digits.c100006s) (I := fun x_ s_ => (x_.1, x_.2.1, x_.2.2.1, s_.1, s_.2.1, x_.2.2.2.2.2.1, x_.2.2.2.2.2.2.1, s_.2.2, x_.2.2.2.2.2.2.2.2.1, ())) (fun x_ => rfl) (fun ρ x_ s_ k_ => (nat_br (nat_bnd fun _ => nat_leaf) nat_leaf)) (fun ρ x_ t k => (by kernel_rfl)) (fun x_ s => by kernel_rfl))
theorem whole_digits.p2 : PieceOk whole_digits.G (pieceAt (pieces whole_digits.G.cks (bodyOf Go.Proofs.Try.f51)) 2).1 (pieceAt (pieces whole_digits.G.cks (bodyOf Go.Proofs.Try.f51)) 2).2 :=
  loop_ok (s := whole_digits.c100012r) (by kernel_rfl) (by kernel_rfl) (loops_of (sh := whole_digits.c100012s) (I := fun x_ s_ => (x_.1, x_.2.1, x_.2.2.1, s_.1, x_.2.2.2.2.1, x_.2.2.2.2.2.1, x_.2.2.2.2.2.2.1, x_.2.2.2.2.2.2.2.1, x_.2.2.2.2.2.2.2.2.1, s_.2.1, s_.2.2, ())) (fun x_ => rfl) (fun ρ x_ s_ k_ => (nat_br (nat_bnd fun _ => (nat_bnd fun _ => (nat_bnd fun _ => (nat_bnd fun _ => nat_leaf)))) nat_leaf)) (fun ρ x_ t k => (by kernel_rfl)) (fun x_ s => by kernel_rfl))
theorem whole_digits.ok : CalleeOk Go.Proofs.Try.prog 51 whole_digits.ce := fn_ok (G := whole_digits.G) tab_ok mixed Go.Proofs.Try.func51 ⟨fns_nil, mfns_nil, tab_eqs_ok⟩ (m := 3) (by kernel_rfl) ⟨⟨⟨trivial, whole_digits.p0⟩, whole_digits.p1⟩, whole_digits.p2⟩ (by kernel_rfl) whole_digits.eq
abbrev q8 : SD := .one (.ref 4 0)
abbrev q9 : SO := .box [.val .bool, .val (.sl (.int .u32))]
def whole_made.c2 {ρ : Type} (mag : List (Int)) (n : Int) (k_ : Bool → Option ρ) : Option ρ :=
  br (decide (n > (0 : Int)))
   (bnd (idx mag (IntKind.wrap IntKind.i64 (n - (1 : Int)))) fun y =>
    k_ (y == (0 : Int)))
   (k_ false)
def whole_made.c2s : Shape := ⟨[(0, q1), (1, q3), (4, q8), (5, q2)], [(4, q9)]⟩
def whole_made.c2x0 : Shape := ⟨[(0, q1), (1, q3), (4, q8), (5, q2), (17, q1)], [(4, q9)]⟩
def whole_made.c2r : Ck := Ck.of (T := Bool) whole_made.c2s (fun ρ x_ k_ => uP x_ fun neg x_ => uP x_ fun mag x_ => uP x_ fun n x_ => uP x_ fun t40 x_ => uP x_ fun t41 x_ => whole_made.c2 mag n k_) (fun ρ x_ r_ k_ => uP x_ fun neg x_ => uP x_ fun mag x_ => uP x_ fun n x_ => uP x_ fun t40 x_ => uP x_ fun t41 x_ => k_ 0 (Shape.inj whole_made.c2x0 (neg, mag, n, r_, t40, t41, ())))
def whole_made.c100002 {ρ : Type} (mag : List (Int)) (n : Int) (k_ : (Int) ⊕ (Int) → Option ρ) : Option ρ :=
  bnd (W.whole_made.c2 mag n some) fun y =>
  br y
   (k_ (.inl (IntKind.wrap IntKind.i64 (n - (1 : Int)))))
   (k_ (.inr n))
def whole_made.c100002s : Shape := ⟨[(0, q1), (1, q3), (4, q8), (5, q2)], [(4, q9)]⟩
def whole_made.c100002x0 : Shape := ⟨[(0, q1), (1, q3), (4, q8), (5, q2)], [(4, q9)]⟩
def whole_made.c100002r : Ck := Ck.ofLoop (S := Int) (T := Int) whole_made.c100002s (fun x_ => uP x_ fun neg x_ => uP x_ fun mag x_ => uP x_ fun n x_ => uP x_ fun t40 x_ => uP x_ fun t41 x_ => n) (fun ρ x_ s_ k_ => uP x_ fun neg x_ => uP x_ fun mag x_ => uP x_ fun n x_ => uP x_ fun t40 x_ => uP x_ fun t41 x_ => whole_made.c100002 mag s_ k_) (fun ρ x_ r_ k_ => uP x_ fun neg x_ => uP x_ fun mag x_ => uP x_ fun n x_ => uP x_ fun t40 x_ => uP x_ fun t41 x_ => k_ 2 (Shape.inj whole_made.c100002x0 (neg, mag, r_, t40, t41, ())))
def whole_made (neg : Bool) (mag : List (Int)) : Option ((Bool) × (List Int)) :=
  bnd (iter (fun s ↦ W.whole_made.c100002 mag s some) (↑(List.length mag) : Int)) fun y =>
  br (y == (0 : Int))
   (some (false, []))
   (bnd (okIf (decide ((0 : Int) ≤ y) && decide (y ≤ y) && decide (y ≤ (↑(List.length mag) : Int)))) fun y_1 =>
    some (neg, List.take (Int.toNat y) mag))
def whole_made.ce : Go.Ql.Callee := ⟨[.bool, (.sl (.int .u32))], [(.st (.pair .bool (.sl (.int .u32))))], fun x_ => whole_made x_.1 x_.2⟩
def whole_made.G : Env := ⟨29, tab, [], [0, 1, 4, 5, 17, 21], [], [], [(100002, whole_made.c100002r), (2, whole_made.c2r)], [], tab_eqs⟩
theorem whole_made.eq (x_ : dens [.bool, (.sl (.int .u32))]) : den whole_made.G Go.Proofs.Try.f50 [.bool, (.sl (.int .u32))] [(.st (.pair .bool (.sl (.int .u32))))] x_ = whole_made x_.1 x_.2 := by kernel_rfl
theorem whole_made.p0 : PieceOk whole_made.G (pieceAt (pieces whole_made.G.cks (bodyOf Go.Proofs.Try.f50)) 0).1 (pieceAt (pieces whole_made.G.cks (bodyOf Go.Proofs.Try.f50)) 0).2 :=
  loop_ok (s := whole_made.c100002r) (by kernel_rfl) (by kernel_rfl) (loops_of (sh := whole_made.c100002s) (I := fun x_ s_ => (x_.1, x_.2.1, s_, x_.2.2.2.1, x_.2.2.2.2.1, ())) (fun x_ => rfl) (fun ρ x_ s_ k_ => (nat_bnd fun _ => (nat_br nat_leaf nat_leaf))) (fun ρ x_ t k => (by kernel_rfl)) (fun x_ s => by kernel_rfl))
theorem whole_made.p1 : PieceOk whole_made.G (pieceAt (pieces whole_made.G.cks (bodyOf Go.Proofs.Try.f50)) 1).1 (pieceAt (pieces whole_made.G.cks (bodyOf Go.Proofs.Try.f50)) 1).2 :=
  region_ok (s := whole_made.c2r) (by kernel_rfl) (by kernel_rfl) (sums_of (sh := whole_made.c2s) (fun ρ x_ k_ => (nat_br (nat_bnd fun _ => nat_leaf) nat_leaf)) (fun ρ x_ t k => (by kernel_rfl)) (fun x_ => by kernel_rfl))
theorem whole_made.ok : CalleeOk Go.Proofs.Try.prog 50 whole_made.ce := fn_ok (G := whole_made.G) tab_ok mixed Go.Proofs.Try.func50 ⟨fns_nil, mfns_nil, tab_eqs_ok⟩ (m := 2) (by kernel_rfl) ⟨⟨trivial, whole_made.p0⟩, whole_made.p1⟩ (by kernel_rfl) whole_made.eq
abbrev q10 : SD := .one (.ref 2 0)
abbrev q11 : SD := .one (.ref 3 0)
abbrev q12 : SO := .box [.val (.int .i64), .val (.int .i64)]
def whole_Parse.c2 {ρ : Type} (text : List UInt8) (n : Int) (ok : Bool) (k_ : Bool → Option ρ) : Option ρ :=
  br (!ok)
   (k_ true)
   (k_ (decide (n < (↑(List.length text) : Int))))
def whole_Parse.c2s : Shape := ⟨[(0, q0), (2, q10), (3, q11), (4, q2), (5, q1)], [(2, q9), (3, q12)]⟩
def whole_Parse.c2x0 : Shape := ⟨[(0, q0), (2, q10), (3, q11), (4, q2), (5, q1), (19, q1)], [(2, q9), (3, q12)]⟩
def whole_Parse.c2r : Ck := Ck.of (T := Bool) whole_Parse.c2s (fun ρ x_ k_ => uP x_ fun text x_ => uP x_ fun n x_ => uP x_ fun ok x_ => uP x_ fun t20 x_ => uP x_ fun t21 x_ => uP x_ fun t30 x_ => uP x_ fun t31 x_ => whole_Parse.c2 text n ok k_) (fun ρ x_ r_ k_ => uP x_ fun text x_ => uP x_ fun n x_ => uP x_ fun ok x_ => uP x_ fun t20 x_ => uP x_ fun t21 x_ => uP x_ fun t30 x_ => uP x_ fun t31 x_ => k_ 0 (Shape.inj whole_Parse.c2x0 (text, n, ok, r_, t20, t21, t30, t31, ())))
def whole_Parse (text : List UInt8) : Option (((Bool) × (List Int)) × ((Int) × (Int))) :=
  bnd (W.whole_number text true) fun y =>
  bnd (W.whole_Parse.c2 text (Prod.fst y) (Prod.snd y) some) fun y_1 =>
  br y_1
   (some ((false, []), (1 : Int), Prod.fst y))
   (bnd (W.strings_TrimPrefix text (Array.toList (ByteArray.data (ByteArray.mk #[(45 : UInt8)])))) fun y_2 =>
    br (decide ((↑(List.length y_2) : Int) > (1000 : Int)))
     (some ((false, []), (2 : Int), (0 : Int)))
     (bnd (W.whole_digits y_2) fun y_3 =>
      bnd (W.whole_made (decide ((↑(List.length y_2) : Int) < (↑(List.length text) : Int))) y_3) fun y_4 =>
      some ((Prod.fst y_4, Prod.snd y_4), (0 : Int), (0 : Int))))
def whole_Parse.ce : Go.Ql.Callee := ⟨[.str], [(.st (.pair .bool (.sl (.int .u32)))), (.st (.pair (.int .i64) (.int .i64)))], fun x_ => whole_Parse x_⟩
def whole_Parse.G : Env := ⟨39, tab, [(48, whole_number.ce), (49, strings_TrimPrefix.ce), (51, whole_digits.ce), (50, whole_made.ce)], [0, 2, 3, 4, 5, 6, 19, 27], [], [], [(2, whole_Parse.c2r)], [], tab_eqs⟩
theorem whole_Parse.eq (x_ : dens [.str]) : den whole_Parse.G Go.Proofs.Try.f8 [.str] [(.st (.pair .bool (.sl (.int .u32)))), (.st (.pair (.int .i64) (.int .i64)))] x_ = whole_Parse x_ := by kernel_rfl
theorem whole_Parse.p0 : PieceOk whole_Parse.G (pieceAt (pieces whole_Parse.G.cks (bodyOf Go.Proofs.Try.f8)) 0).1 (pieceAt (pieces whole_Parse.G.cks (bodyOf Go.Proofs.Try.f8)) 0).2 :=
  region_ok (s := whole_Parse.c2r) (by kernel_rfl) (by kernel_rfl) (sums_of (sh := whole_Parse.c2s) (fun ρ x_ k_ => (nat_br nat_leaf nat_leaf)) (fun ρ x_ t k => (by kernel_rfl)) (fun x_ => by kernel_rfl))
theorem whole_Parse.ok : CalleeOk Go.Proofs.Try.prog 8 whole_Parse.ce := fn_ok (G := whole_Parse.G) tab_ok mixed Go.Proofs.Try.func8 ⟨(fns_cons whole_number.ok (fns_cons strings_TrimPrefix.ok (fns_cons whole_digits.ok (fns_cons whole_made.ok fns_nil)))), mfns_nil, tab_eqs_ok⟩ (m := 1) (by kernel_rfl) ⟨trivial, whole_Parse.p0⟩ (by kernel_rfl) whole_Parse.eq
def R_word.c2 {ρ : Type} (text : List UInt8) (sign : Bool) (k_ : Bool → Option ρ) : Option ρ :=
  br sign
   (br (decide ((↑(List.length text) : Int) > (0 : Int)))
     (bnd (idx text (0 : Int)) fun y =>
      k_ ((↑(UInt8.toNat y) : Int) == (45 : Int)))
     (k_ false))
   (k_ false)
def R_word.c2s : Shape := ⟨[(0, q0), (1, q1), (2, q1), (6, q2), (7, q1), (8, q2)], []⟩
def R_word.c2x0 : Shape := ⟨[(0, q0), (1, q1), (2, q1), (6, q2), (7, q1), (8, q2), (20, q1)], []⟩
def R_word.c2r : Ck := Ck.of (T := Bool) R_word.c2s (fun ρ x_ k_ => uP x_ fun text x_ => uP x_ fun sign x_ => uP x_ fun nought x_ => uP x_ fun t6 x_ => uP x_ fun t7 x_ => uP x_ fun i x_ => R_word.c2 text sign k_) (fun ρ x_ r_ k_ => uP x_ fun text x_ => uP x_ fun sign x_ => uP x_ fun nought x_ => uP x_ fun t6 x_ => uP x_ fun t7 x_ => uP x_ fun i x_ => k_ 0 (Shape.inj R_word.c2x0 (text, sign, nought, t6, t7, i, r_, ())))
def R_word.c208199 {ρ : Type} (text : List UInt8) (sign : Bool) (nought : Bool) (i : Int) (k_ : (Bool) × (Int) → Option ρ) : Option ρ :=
  bnd (W.R_word.c2 text sign some) fun y =>
  br y
   (k_ (false, (1 : Int)))
   (k_ (nought, i))
def R_word.c208199s : Shape := ⟨[(0, q0), (1, q1), (2, q1), (6, q2), (7, q1), (8, q2)], []⟩
def R_word.c208199x0 : Shape := ⟨[(0, q0), (1, q1), (2, q1), (6, q2), (7, q1), (8, q2)], []⟩
def R_word.c208199r : Ck := Ck.of (T := (Bool) × (Int)) R_word.c208199s (fun ρ x_ k_ => uP x_ fun text x_ => uP x_ fun sign x_ => uP x_ fun nought x_ => uP x_ fun t6 x_ => uP x_ fun t7 x_ => uP x_ fun i x_ => R_word.c208199 text sign nought i k_) (fun ρ x_ r_ k_ => uP x_ fun text x_ => uP x_ fun sign x_ => uP x_ fun nought x_ => uP x_ fun t6 x_ => uP x_ fun t7 x_ => uP x_ fun i x_ => k_ 0 (Shape.inj R_word.c208199x0 (text, sign, r_.1, t6, t7, r_.2, ())))
def R_word.c5 {ρ : Type} (text : List UInt8) (i : Int) (k_ : Bool → Option ρ) : Option ρ :=
  br (decide (i < (↑(List.length text) : Int)))
   (bnd (idx text i) fun y =>
    k_ ((↑(UInt8.toNat y) : Int) == (48 : Int)))
   (k_ false)
def R_word.c5s : Shape := ⟨[(0, q0), (1, q1), (2, q1), (6, q2), (7, q1), (8, q2)], []⟩
def R_word.c5x0 : Shape := ⟨[(0, q0), (1, q1), (2, q1), (6, q2), (7, q1), (8, q2), (30, q1)], []⟩
def R_word.c5r : Ck := Ck.of (T := Bool) R_word.c5s (fun ρ x_ k_ => uP x_ fun text x_ => uP x_ fun sign x_ => uP x_ fun nought x_ => uP x_ fun t6 x_ => uP x_ fun t7 x_ => uP x_ fun i x_ => R_word.c5 text i k_) (fun ρ x_ r_ k_ => uP x_ fun text x_ => uP x_ fun sign x_ => uP x_ fun nought x_ => uP x_ fun t6 x_ => uP x_ fun t7 x_ => uP x_ fun i x_ => k_ 0 (Shape.inj R_word.c5x0 (text, sign, nought, t6, t7, i, r_, ())))
def R_word.c10 {ρ : Type} (text : List UInt8) (j : Int) (k_ : Bool → Option ρ) : Option ρ :=
  br (decide (j < (↑(List.length text) : Int)))
   (bnd (idx text j) fun y =>
    br (decide ((↑(UInt8.toNat y) : Int) ≥ (48 : Int)))
     (bnd (idx text j) fun y_1 =>
      k_ (decide ((↑(UInt8.toNat y_1) : Int) ≤ (57 : Int))))
     (k_ false))
   (k_ false)
def R_word.c10s : Shape := ⟨[(0, q0), (1, q1), (2, q1), (6, q2), (7, q1), (8, q2), (9, q2)], []⟩
def R_word.c10x0 : Shape := ⟨[(0, q0), (1, q1), (2, q1), (6, q2), (7, q1), (8, q2), (9, q2), (51, q1)], []⟩
def R_word.c10r : Ck := Ck.of (T := Bool) R_word.c10s (fun ρ x_ k_ => uP x_ fun text x_ => uP x_ fun sign x_ => uP x_ fun nought x_ => uP x_ fun t6 x_ => uP x_ fun t7 x_ => uP x_ fun i x_ => uP x_ fun j x_ => R_word.c10 text j k_) (fun ρ x_ r_ k_ => uP x_ fun text x_ => uP x_ fun sign x_ => uP x_ fun nought x_ => uP x_ fun t6 x_ => uP x_ fun t7 x_ => uP x_ fun i x_ => uP x_ fun j x_ => k_ 0 (Shape.inj R_word.c10x0 (text, sign, nought, t6, t7, i, j, r_, ())))
def R_word.c100010 {ρ : Type} (text : List UInt8) (j : Int) (k_ : (Int) ⊕ (Int) → Option ρ) : Option ρ :=
  bnd (W.R_word.c10 text j some) fun y =>
  br y
   (k_ (.inl (IntKind.wrap IntKind.i64 (j + (1 : Int)))))
   (k_ (.inr j))
def R_word.c100010s : Shape := ⟨[(0, q0), (1, q1), (2, q1), (6, q2), (7, q1), (8, q2), (9, q2)], []⟩
def R_word.c100010x0 : Shape := ⟨[(0, q0), (1, q1), (2, q1), (6, q2), (7, q1), (8, q2), (9, q2)], []⟩
def R_word.c100010r : Ck := Ck.ofLoop (S := Int) (T := Int) R_word.c100010s (fun x_ => uP x_ fun text x_ => uP x_ fun sign x_ => uP x_ fun nought x_ => uP x_ fun t6 x_ => uP x_ fun t7 x_ => uP x_ fun i x_ => uP x_ fun j x_ => j) (fun ρ x_ s_ k_ => uP x_ fun text x_ => uP x_ fun sign x_ => uP x_ fun nought x_ => uP x_ fun t6 x_ => uP x_ fun t7 x_ => uP x_ fun i x_ => uP x_ fun j x_ => R_word.c100010 text s_ k_) (fun ρ x_ r_ k_ => uP x_ fun text x_ => uP x_ fun sign x_ => uP x_ fun nought x_ => uP x_ fun t6 x_ => uP x_ fun t7 x_ => uP x_ fun i x_ => uP x_ fun j x_ => k_ 2 (Shape.inj R_word.c100010x0 (text, sign, nought, t6, t7, i, r_, ())))
def R_word (text : List UInt8) (sign : Bool) (nought : Bool) : Option ((Int) × (Bool)) :=
  bnd (W.R_word.c208199 text sign nought (0 : Int) some) fun y =>
  bnd (W.R_word.c5 text (Prod.snd y) some) fun y_1 =>
  br y_1
   (br (Prod.fst y)
     (some (IntKind.wrap IntKind.i64 (Prod.snd y + (1 : Int)), true))
     (some (Prod.snd y, false)))
   (bnd (iter (fun s ↦ W.R_word.c100010 text s some) y.2) fun y_2 =>
    some (y_2, decide (y_2 > Prod.snd y)))
def R_word.ce : Go.Ql.Callee := ⟨[.str, .bool, .bool], [(.int .i64), .bool], fun x_ => R_word x_.1 x_.2.1 x_.2.2⟩
def R_word.G : Env := ⟨58, tab, [], [0, 1, 2, 6, 7, 8, 9, 20, 30, 31, 51], [], [], [(100010, R_word.c100010r), (10, R_word.c10r), (5, R_word.c5r), (208199, R_word.c208199r), (2, R_word.c2r)], [], tab_eqs⟩
theorem R_word.eq (x_ : dens [.str, .bool, .bool]) : den R_word.G Go.Proofs.Try.f52 [.str, .bool, .bool] [(.int .i64), .bool] x_ = R_word x_.1 x_.2.1 x_.2.2 := by kernel_rfl
theorem R_word.p0 : PieceOk R_word.G (pieceAt (pieces R_word.G.cks (bodyOf Go.Proofs.Try.f52)) 0).1 (pieceAt (pieces R_word.G.cks (bodyOf Go.Proofs.Try.f52)) 0).2 :=
  join_ok (s := R_word.c208199r) (by kernel_rfl) (by kernel_rfl) (sums_of (sh := R_word.c208199s) (fun ρ x_ k_ => (nat_bnd fun _ => (nat_br nat_leaf nat_leaf))) (fun ρ x_ t k => (by kernel_rfl)) (fun x_ => by kernel_rfl))
theorem R_word.p1 : PieceOk R_word.G (pieceAt (pieces R_word.G.cks (bodyOf Go.Proofs.Try.f52)) 1).1 (pieceAt (pieces R_word.G.cks (bodyOf Go.Proofs.Try.f52)) 1).2 :=
  region_ok (s := R_word.c2r) (by kernel_rfl) (by kernel_rfl) (sums_of (sh := R_word.c2s) (fun ρ x_ k_ => (nat_br (nat_br (nat_bnd fun _ => nat_leaf) nat_leaf) nat_leaf)) (fun ρ x_ t k => (by kernel_rfl)) (fun x_ => by kernel_rfl))
theorem R_word.p2 : PieceOk R_word.G (pieceAt (pieces R_word.G.cks (bodyOf Go.Proofs.Try.f52)) 2).1 (pieceAt (pieces R_word.G.cks (bodyOf Go.Proofs.Try.f52)) 2).2 :=
  region_ok (s := R_word.c5r) (by kernel_rfl) (by kernel_rfl) (sums_of (sh := R_word.c5s) (fun ρ x_ k_ => (nat_br (nat_bnd fun _ => nat_leaf) nat_leaf)) (fun ρ x_ t k => (by kernel_rfl)) (fun x_ => by kernel_rfl))
theorem R_word.p3 : PieceOk R_word.G (pieceAt (pieces R_word.G.cks (bodyOf Go.Proofs.Try.f52)) 3).1 (pieceAt (pieces R_word.G.cks (bodyOf Go.Proofs.Try.f52)) 3).2 :=
  loop_ok (s := R_word.c100010r) (by kernel_rfl) (by kernel_rfl) (loops_of (sh := R_word.c100010s) (I := fun x_ s_ => (x_.1, x_.2.1, x_.2.2.1, x_.2.2.2.1, x_.2.2.2.2.1, x_.2.2.2.2.2.1, s_, ())) (fun x_ => rfl) (fun ρ x_ s_ k_ => (nat_bnd fun _ => (nat_br nat_leaf nat_leaf))) (fun ρ x_ t k => (by kernel_rfl)) (fun x_ s => by kernel_rfl))
theorem R_word.p4 : PieceOk R_word.G (pieceAt (pieces R_word.G.cks (bodyOf Go.Proofs.Try.f52)) 4).1 (pieceAt (pieces R_word.G.cks (bodyOf Go.Proofs.Try.f52)) 4).2 :=
  region_ok (s := R_word.c10r) (by kernel_rfl) (by kernel_rfl) (sums_of (sh := R_word.c10s) (fun ρ x_ k_ => (nat_br (nat_bnd fun _ => (nat_br (nat_bnd fun _ => nat_leaf) nat_leaf)) nat_leaf)) (fun ρ x_ t k => (by kernel_rfl)) (fun x_ => by kernel_rfl))
theorem R_word.ok : CalleeOk Go.Proofs.Try.prog 52 R_word.ce := fn_ok (G := R_word.G) tab_ok mixed Go.Proofs.Try.func52 ⟨fns_nil, mfns_nil, tab_eqs_ok⟩ (m := 5) (by kernel_rfl) ⟨⟨⟨⟨⟨trivial, R_word.p0⟩, R_word.p1⟩, R_word.p2⟩, R_word.p3⟩, R_word.p4⟩ (by kernel_rfl) R_word.eq
def R_digitsOf.c1 {ρ : Type} (text : List UInt8) (k_ : Bool → Option ρ) : Option ρ :=
  br (decide ((↑(List.length text) : Int) > (0 : Int)))
   (bnd (idx text (0 : Int)) fun y =>
    k_ ((↑(UInt8.toNat y) : Int) == (45 : Int)))
   (k_ false)
def R_digitsOf.c1s : Shape := ⟨[(0, q0), (2, q2)], []⟩
def R_digitsOf.c1x0 : Shape := ⟨[(0, q0), (2, q2), (10, q1)], []⟩
def R_digitsOf.c1r : Ck := Ck.of (T := Bool) R_digitsOf.c1s (fun ρ x_ k_ => uP x_ fun text x_ => uP x_ fun t2 x_ => R_digitsOf.c1 text k_) (fun ρ x_ r_ k_ => uP x_ fun text x_ => uP x_ fun t2 x_ => k_ 0 (Shape.inj R_digitsOf.c1x0 (text, t2, r_, ())))
def R_digitsOf (text : List UInt8) : Option (Int) :=
  bnd (W.R_digitsOf.c1 text some) fun y =>
  br y
   (some (IntKind.wrap IntKind.i64 ((↑(List.length text) : Int) - (1 : Int))))
   (some (↑(List.length text) : Int))
def R_digitsOf.ce : Go.Ql.Callee := ⟨[.str], [(.int .i64)], fun x_ => R_digitsOf x_⟩
def R_digitsOf.G : Env := ⟨16, tab, [], [0, 2, 10], [], [], [(1, R_digitsOf.c1r)], [], tab_eqs⟩
theorem R_digitsOf.eq (x_ : dens [.str]) : den R_digitsOf.G Go.Proofs.Try.f53 [.str] [(.int .i64)] x_ = R_digitsOf x_ := by kernel_rfl
theorem R_digitsOf.p0 : PieceOk R_digitsOf.G (pieceAt (pieces R_digitsOf.G.cks (bodyOf Go.Proofs.Try.f53)) 0).1 (pieceAt (pieces R_digitsOf.G.cks (bodyOf Go.Proofs.Try.f53)) 0).2 :=
  region_ok (s := R_digitsOf.c1r) (by kernel_rfl) (by kernel_rfl) (sums_of (sh := R_digitsOf.c1s) (fun ρ x_ k_ => (nat_br (nat_bnd fun _ => nat_leaf) nat_leaf)) (fun ρ x_ t k => (by kernel_rfl)) (fun x_ => by kernel_rfl))
theorem R_digitsOf.ok : CalleeOk Go.Proofs.Try.prog 53 R_digitsOf.ce := fn_ok (G := R_digitsOf.G) tab_ok mixed Go.Proofs.Try.func53 ⟨fns_nil, mfns_nil, tab_eqs_ok⟩ (m := 1) (by kernel_rfl) ⟨trivial, R_digitsOf.p0⟩ (by kernel_rfl) R_digitsOf.eq
abbrev q13 : SD := .one (.val (.sl (.int .i64)))
abbrev q14 : SO := .box [.val .bool, .val (.sl (.int .i64))]
def R_zmade.c2 {ρ : Type} (d : List (Int)) (n : Int) (k_ : Bool → Option ρ) : Option ρ :=
  br (decide (n > (0 : Int)))
   (bnd (idx d (IntKind.wrap IntKind.i64 (n - (1 : Int)))) fun y =>
    k_ (y == (0 : Int)))
   (k_ false)
def R_zmade.c2s : Shape := ⟨[(0, q1), (1, q13), (4, q8), (5, q2)], [(4, q14)]⟩
def R_zmade.c2x0 : Shape := ⟨[(0, q1), (1, q13), (4, q8), (5, q2), (17, q1)], [(4, q14)]⟩
def R_zmade.c2r : Ck := Ck.of (T := Bool) R_zmade.c2s (fun ρ x_ k_ => uP x_ fun neg x_ => uP x_ fun d x_ => uP x_ fun n x_ => uP x_ fun t40 x_ => uP x_ fun t41 x_ => R_zmade.c2 d n k_) (fun ρ x_ r_ k_ => uP x_ fun neg x_ => uP x_ fun d x_ => uP x_ fun n x_ => uP x_ fun t40 x_ => uP x_ fun t41 x_ => k_ 0 (Shape.inj R_zmade.c2x0 (neg, d, n, r_, t40, t41, ())))
def R_zmade.c100002 {ρ : Type} (d : List (Int)) (n : Int) (k_ : (Int) ⊕ (Int) → Option ρ) : Option ρ :=
  bnd (W.R_zmade.c2 d n some) fun y =>
  br y
   (k_ (.inl (IntKind.wrap IntKind.i64 (n - (1 : Int)))))
   (k_ (.inr n))
def R_zmade.c100002s : Shape := ⟨[(0, q1), (1, q13), (4, q8), (5, q2)], [(4, q14)]⟩
def R_zmade.c100002x0 : Shape := ⟨[(0, q1), (1, q13), (4, q8), (5, q2)], [(4, q14)]⟩
def R_zmade.c100002r : Ck := Ck.ofLoop (S := Int) (T := Int) R_zmade.c100002s (fun x_ => uP x_ fun neg x_ => uP x_ fun d x_ => uP x_ fun n x_ => uP x_ fun t40 x_ => uP x_ fun t41 x_ => n) (fun ρ x_ s_ k_ => uP x_ fun neg x_ => uP x_ fun d x_ => uP x_ fun n x_ => uP x_ fun t40 x_ => uP x_ fun t41 x_ => R_zmade.c100002 d s_ k_) (fun ρ x_ r_ k_ => uP x_ fun neg x_ => uP x_ fun d x_ => uP x_ fun n x_ => uP x_ fun t40 x_ => uP x_ fun t41 x_ => k_ 2 (Shape.inj R_zmade.c100002x0 (neg, d, r_, t40, t41, ())))
def R_zmade (neg : Bool) (d : List (Int)) : Option ((Bool) × (List Int)) :=
  bnd (iter (fun s ↦ W.R_zmade.c100002 d s some) (↑(List.length d) : Int)) fun y =>
  br (y == (0 : Int))
   (some (false, []))
   (bnd (okIf (decide ((0 : Int) ≤ y) && decide (y ≤ (↑(List.length d) : Int)))) fun y_1 =>
    some (neg, List.take (Int.toNat y) d))
def R_zmade.ce : Go.Ql.Callee := ⟨[.bool, (.sl (.int .i64))], [(.st (.pair .bool (.sl (.int .i64))))], fun x_ => R_zmade x_.1 x_.2⟩
def R_zmade.G : Env := ⟨28, tab, [], [0, 1, 4, 5, 17, 21], [], [], [(100002, R_zmade.c100002r), (2, R_zmade.c2r)], [], tab_eqs⟩
theorem R_zmade.eq (x_ : dens [.bool, (.sl (.int .i64))]) : den R_zmade.G Go.Proofs.Try.f61 [.bool, (.sl (.int .i64))] [(.st (.pair .bool (.sl (.int .i64))))] x_ = R_zmade x_.1 x_.2 := by kernel_rfl
theorem R_zmade.p0 : PieceOk R_zmade.G (pieceAt (pieces R_zmade.G.cks (bodyOf Go.Proofs.Try.f61)) 0).1 (pieceAt (pieces R_zmade.G.cks (bodyOf Go.Proofs.Try.f61)) 0).2 :=
  loop_ok (s := R_zmade.c100002r) (by kernel_rfl) (by kernel_rfl) (loops_of (sh := R_zmade.c100002s) (I := fun x_ s_ => (x_.1, x_.2.1, s_, x_.2.2.2.1, x_.2.2.2.2.1, ())) (fun x_ => rfl) (fun ρ x_ s_ k_ => (nat_bnd fun _ => (nat_br nat_leaf nat_leaf))) (fun ρ x_ t k => (by kernel_rfl)) (fun x_ s => by kernel_rfl))
theorem R_zmade.p1 : PieceOk R_zmade.G (pieceAt (pieces R_zmade.G.cks (bodyOf Go.Proofs.Try.f61)) 1).1 (pieceAt (pieces R_zmade.G.cks (bodyOf Go.Proofs.Try.f61)) 1).2 :=
  region_ok (s := R_zmade.c2r) (by kernel_rfl) (by kernel_rfl) (sums_of (sh := R_zmade.c2s) (fun ρ x_ k_ => (nat_br (nat_bnd fun _ => nat_leaf) nat_leaf)) (fun ρ x_ t k => (by kernel_rfl)) (fun x_ => by kernel_rfl))
theorem R_zmade.ok : CalleeOk Go.Proofs.Try.prog 61 R_zmade.ce := fn_ok (G := R_zmade.G) tab_ok mixed Go.Proofs.Try.func61 ⟨fns_nil, mfns_nil, tab_eqs_ok⟩ (m := 2) (by kernel_rfl) ⟨⟨trivial, R_zmade.p0⟩, R_zmade.p1⟩ (by kernel_rfl) R_zmade.eq
abbrev q15 : SD := .one (.own 4 0)
abbrev q16 : SO := .arr 0 false 3 (.int .i64)
def R_zread.c1 {ρ : Type} (text : List UInt8) (k_ : Bool → Option ρ) : Option ρ :=
  br (decide ((↑(List.length text) : Int) > (0 : Int)))
   (bnd (idx text (0 : Int)) fun y =>
    k_ ((↑(UInt8.toNat y) : Int) == (45 : Int)))
   (k_ false)
def R_zread.c1s : Shape := ⟨[(0, q0), (2, q10)], [(2, q14)]⟩
def R_zread.c1x0 : Shape := ⟨[(0, q0), (2, q10), (3, q1)], [(2, q14)]⟩
def R_zread.c1r : Ck := Ck.of (T := Bool) R_zread.c1s (fun ρ x_ k_ => uP x_ fun text x_ => uP x_ fun t20 x_ => uP x_ fun t21 x_ => R_zread.c1 text k_) (fun ρ x_ r_ k_ => uP x_ fun text x_ => uP x_ fun t20 x_ => uP x_ fun t21 x_ => k_ 0 (Shape.inj R_zread.c1x0 (text, r_, t20, t21, ())))
def R_zread.c208197 {ρ : Type} (text : List UInt8) (neg : Bool) (k_ : List UInt8 → Option ρ) : Option ρ :=
  br neg
   (bnd (okIf (decide ((1 : Int) ≤ (↑(List.length text) : Int)) && decide ((↑(List.length text) : Int) ≤ (↑(List.length text) : Int)))) fun y =>
    k_ (List.drop (1 : Nat) (List.take (Int.toNat (↑(List.length text) : Int)) text)))
   (k_ text)
def R_zread.c208197s : Shape := ⟨[(0, q0), (2, q10), (3, q1)], [(2, q14)]⟩
def R_zread.c208197x0 : Shape := ⟨[(0, q0), (2, q10), (3, q1)], [(2, q14)]⟩
def R_zread.c208197r : Ck := Ck.of (T := List UInt8) R_zread.c208197s (fun ρ x_ k_ => uP x_ fun text x_ => uP x_ fun neg x_ => uP x_ fun t20 x_ => uP x_ fun t21 x_ => R_zread.c208197 text neg k_) (fun ρ x_ r_ k_ => uP x_ fun text x_ => uP x_ fun neg x_ => uP x_ fun t20 x_ => uP x_ fun t21 x_ => k_ 0 (Shape.inj R_zread.c208197x0 (r_, neg, t20, t21, ())))
def R_zread.c249158 {ρ : Type} (text : List UInt8) (n : Int) (j : Int) (k_ : Int → Option ρ) : Option ρ :=
  br (decide (j ≥ (0 : Int)))
   (bnd (idx text j) fun y =>
    k_ (IntKind.wrap IntKind.i64 (IntKind.wrap IntKind.i64 (n * (10 : Int)) + IntKind.wrap IntKind.i64 (IntKind.wrap IntKind.u8 ((↑(UInt8.toNat y) : Int) - (48 : Int))))))
   (k_ n)
def R_zread.c249158s : Shape := ⟨[(0, q0), (2, q10), (3, q1), (4, q15), (5, q2), (6, q2), (7, q2)], [(2, q14), (4, q16)]⟩
def R_zread.c249158x0 : Shape := ⟨[(0, q0), (2, q10), (3, q1), (4, q15), (5, q2), (6, q2), (7, q2)], [(2, q14), (4, q16)]⟩
def R_zread.c249158r : Ck := Ck.of (T := Int) R_zread.c249158s (fun ρ x_ k_ => uP x_ fun text x_ => uP x_ fun neg x_ => uP x_ fun i x_ => uP x_ fun n x_ => uP x_ fun j x_ => uP x_ fun t20 x_ => uP x_ fun t21 x_ => uP x_ fun d x_ => R_zread.c249158 text n j k_) (fun ρ x_ r_ k_ => uP x_ fun text x_ => uP x_ fun neg x_ => uP x_ fun i x_ => uP x_ fun n x_ => uP x_ fun j x_ => uP x_ fun t20 x_ => uP x_ fun t21 x_ => uP x_ fun d x_ => k_ 0 (Shape.inj R_zread.c249158x0 (text, neg, i, r_, j, t20, t21, d, ())))
def R_zread.c100010 {ρ : Type} (text : List UInt8) (i : Int) (n : Int) (j : Int) (k_ : ((Int) × (Int)) ⊕ ((Int) × (Int)) → Option ρ) : Option ρ :=
  br (decide (j < i))
   (bnd (W.R_zread.c249158 text n j some) fun y =>
    k_ (.inl (y, (IntKind.wrap IntKind.i64 (j + (1 : Int))))))
   (k_ (.inr (n, j)))
def R_zread.c100010s : Shape := ⟨[(0, q0), (2, q10), (3, q1), (4, q15), (5, q2), (6, q2), (7, q2)], [(2, q14), (4, q16)]⟩
def R_zread.c100010x0 : Shape := ⟨[(0, q0), (2, q10), (3, q1), (4, q15), (5, q2), (6, q2), (7, q2)], [(2, q14), (4, q16)]⟩
def R_zread.c100010r : Ck := Ck.ofLoop (S := (Int) × (Int)) (T := (Int) × (Int)) R_zread.c100010s (fun x_ => uP x_ fun text x_ => uP x_ fun neg x_ => uP x_ fun i x_ => uP x_ fun n x_ => uP x_ fun j x_ => uP x_ fun t20 x_ => uP x_ fun t21 x_ => uP x_ fun d x_ => (n, j)) (fun ρ x_ s_ k_ => uP x_ fun text x_ => uP x_ fun neg x_ => uP x_ fun i x_ => uP x_ fun n x_ => uP x_ fun j x_ => uP x_ fun t20 x_ => uP x_ fun t21 x_ => uP x_ fun d x_ => R_zread.c100010 text i s_.1 s_.2 k_) (fun ρ x_ r_ k_ => uP x_ fun text x_ => uP x_ fun neg x_ => uP x_ fun i x_ => uP x_ fun n x_ => uP x_ fun j x_ => uP x_ fun t20 x_ => uP x_ fun t21 x_ => uP x_ fun d x_ => k_ 4 (Shape.inj R_zread.c100010x0 (text, neg, i, r_.1, r_.2, t20, t21, d, ())))
def R_zread.c100006 {ρ : Type} (text : List UInt8) (i : Int) (d : List (Int)) (k_ : ((Int) × (List Int)) ⊕ ((Int) × (List Int)) → Option ρ) : Option ρ :=
  br (decide (i > (0 : Int)))
   (bnd (iter (fun s ↦ W.R_zread.c100010 text i (Prod.fst s) (Prod.snd s) some) ((0 : Int), IntKind.wrap IntKind.i64 (i - (4 : Int)))) fun y =>
    bnd (okIf (decide ((List.length d + List.length [Prod.fst y]) * (8 : Nat) ≤ (140737488355328 : Nat)) && decide (List.length d + List.length [Prod.fst y] ≤ (140737488355328 : Nat)))) fun y_1 =>
    k_ (.inl ((IntKind.wrap IntKind.i64 (i - (4 : Int))), (d ++ [Prod.fst y]))))
   (k_ (.inr (i, d)))
def R_zread.c100006s : Shape := ⟨[(0, q0), (2, q10), (3, q1), (4, q15), (5, q2)], [(2, q14), (4, q16)]⟩
def R_zread.c100006x0 : Shape := ⟨[(0, q0), (2, q10), (3, q1), (4, q15), (5, q2)], [(2, q14), (4, q16)]⟩
def R_zread.c100006r : Ck := Ck.ofLoop (S := (Int) × (List Int)) (T := (Int) × (List Int)) R_zread.c100006s (fun x_ => uP x_ fun text x_ => uP x_ fun neg x_ => uP x_ fun i x_ => uP x_ fun t20 x_ => uP x_ fun t21 x_ => uP x_ fun d x_ => (i, d)) (fun ρ x_ s_ k_ => uP x_ fun text x_ => uP x_ fun neg x_ => uP x_ fun i x_ => uP x_ fun t20 x_ => uP x_ fun t21 x_ => uP x_ fun d x_ => R_zread.c100006 text s_.1 s_.2 k_) (fun ρ x_ r_ k_ => uP x_ fun text x_ => uP x_ fun neg x_ => uP x_ fun i x_ => uP x_ fun t20 x_ => uP x_ fun t21 x_ => uP x_ fun d x_ => k_ 2 (Shape.inj R_zread.c100006x0 (text, neg, r_.1, t20, t21, r_.2, ())))
def R_zread (text : List UInt8) : Option ((Bool) × (List Int)) :=
  bnd (W.R_zread.c1 text some) fun y =>
  bnd (W.R_zread.c208197 text y some) fun y_1 =>
  bnd (iter (fun s ↦ W.R_zread.c100006 y_1 (Prod.fst s) (Prod.snd s) some) ((↑(List.length y_1) : Int), [])) fun y_2 =>
  bnd (W.R_zmade y (Prod.snd y_2)) fun y_3 =>
  some (Prod.fst y_3, Prod.snd y_3)
def R_zread.ce : Go.Ql.Callee := ⟨[.str], [(.st (.pair .bool (.sl (.int .i64))))], fun x_ => R_zread x_⟩
def R_zread.G : Env := ⟨49, tab, [(61, R_zmade.ce)], [0, 2, 3, 4, 5, 6, 7, 16, 22, 29, 33], [4], [], [(100006, R_zread.c100006r), (100010, R_zread.c100010r), (249158, R_zread.c249158r), (208197, R_zread.c208197r), (1, R_zread.c1r)], [], tab_eqs⟩
theorem R_zread.eq (x_ : dens [.str]) : den R_zread.G Go.Proofs.Try.f54 [.str] [(.st (.pair .bool (.sl (.int .i64))))] x_ = R_zread x_ := by kernel_rfl
theorem R_zread.p0 : PieceOk R_zread.G (pieceAt (pieces R_zread.G.cks (bodyOf Go.Proofs.Try.f54)) 0).1 (pieceAt (pieces R_zread.G.cks (bodyOf Go.Proofs.Try.f54)) 0).2 :=
  region_ok (s := R_zread.c1r) (by kernel_rfl) (by kernel_rfl) (sums_of (sh := R_zread.c1s) (fun ρ x_ k_ => (nat_br (nat_bnd fun _ => nat_leaf) nat_leaf)) (fun ρ x_ t k => (by kernel_rfl)) (fun x_ => by kernel_rfl))
theorem R_zread.p1 : PieceOk R_zread.G (pieceAt (pieces R_zread.G.cks (bodyOf Go.Proofs.Try.f54)) 1).1 (pieceAt (pieces R_zread.G.cks (bodyOf Go.Proofs.Try.f54)) 1).2 :=
  join_ok (s := R_zread.c208197r) (by kernel_rfl) (by kernel_rfl) (sums_of (sh := R_zread.c208197s) (fun ρ x_ k_ => (nat_br (nat_bnd fun _ => nat_leaf) nat_leaf)) (fun ρ x_ t k => (by kernel_rfl)) (fun x_ => by kernel_rfl))
theorem R_zread.p2 : PieceOk R_zread.G (pieceAt (pieces R_zread.G.cks (bodyOf Go.Proofs.Try.f54)) 2).1 (pieceAt (pieces R_zread.G.cks (bodyOf Go.Proofs.Try.f54)) 2).2 :=
  loop_ok (s := R_zread.c100006r) (by kernel_rfl) (by kernel_rfl) (loops_of (sh := R_zread.c100006s) (I := fun x_ s_ => (x_.1, x_.2.1, s_.1, x_.2.2.2.1, x_.2.2.2.2.1, s_.2, ())) (fun x_ => rfl) (fun ρ x_ s_ k_ => (nat_br (nat_bnd fun _ => (nat_bnd fun _ => nat_leaf)) nat_leaf)) (fun ρ x_ t k => (by kernel_rfl)) (fun x_ s => by kernel_rfl))
theorem R_zread.p3 : PieceOk R_zread.G (pieceAt (pieces R_zread.G.cks (bodyOf Go.Proofs.Try.f54)) 3).1 (pieceAt (pieces R_zread.G.cks (bodyOf Go.Proofs.Try.f54)) 3).2 :=
  loop_ok (s := R_zread.c100010r) (by kernel_rfl) (by kernel_rfl) (loops_of (sh := R_zread.c100010s) (I := fun x_ s_ => (x_.1, x_.2.1, x_.2.2.1, s_.1, s_.2, x_.2.2.2.2.2.1, x_.2.2.2.2.2.2.1, x_.2.2.2.2.2.2.2.1, ())) (fun x_ => rfl) (fun ρ x_ s_ k_ => (nat_br (nat_bnd fun _ => nat_leaf) nat_leaf)) (fun ρ x_ t k => (by kernel_rfl)) (fun x_ s => by kernel_rfl))
theorem R_zread.p4 : PieceOk R_zread.G (pieceAt (pieces R_zread.G.cks (bodyOf Go.Proofs.Try.f54)) 4).1 (pieceAt (pieces R_zread.G.cks (bodyOf Go.Proofs.Try.f54)) 4).2 :=
  join_ok (s := R_zread.c249158r) (by kernel_rfl) (by kernel_rfl) (sums_of (sh := R_zread.c249158s) (fun ρ x_ k_ => (nat_br (nat_bnd fun _ => nat_leaf) nat_leaf)) (fun ρ x_ t k => (by kernel_rfl)) (fun x_ => by kernel_rfl))
theorem R_zread.ok : CalleeOk Go.Proofs.Try.prog 54 R_zread.ce := fn_ok (G := R_zread.G) tab_ok mixed Go.Proofs.Try.func54 ⟨(fns_cons R_zmade.ok fns_nil), mfns_nil, tab_eqs_ok⟩ (m := 5) (by kernel_rfl) ⟨⟨⟨⟨⟨trivial, R_zread.p0⟩, R_zread.p1⟩, R_zread.p2⟩, R_zread.p3⟩, R_zread.p4⟩ (by kernel_rfl) R_zread.eq
def R_ZParse.c2 {ρ : Type} (text : List UInt8) (n : Int) (ok : Bool) (k_ : Bool → Option ρ) : Option ρ :=
  br (!ok)
   (k_ true)
   (k_ (decide (n < (↑(List.length text) : Int))))
def R_ZParse.c2s : Shape := ⟨[(0, q0), (2, q10), (3, q11), (4, q2), (5, q1)], [(2, q14), (3, q12)]⟩
def R_ZParse.c2x0 : Shape := ⟨[(0, q0), (2, q10), (3, q11), (4, q2), (5, q1), (18, q1)], [(2, q14), (3, q12)]⟩
def R_ZParse.c2r : Ck := Ck.of (T := Bool) R_ZParse.c2s (fun ρ x_ k_ => uP x_ fun text x_ => uP x_ fun n x_ => uP x_ fun ok x_ => uP x_ fun t20 x_ => uP x_ fun t21 x_ => uP x_ fun t30 x_ => uP x_ fun t31 x_ => R_ZParse.c2 text n ok k_) (fun ρ x_ r_ k_ => uP x_ fun text x_ => uP x_ fun n x_ => uP x_ fun ok x_ => uP x_ fun t20 x_ => uP x_ fun t21 x_ => uP x_ fun t30 x_ => uP x_ fun t31 x_ => k_ 0 (Shape.inj R_ZParse.c2x0 (text, n, ok, r_, t20, t21, t30, t31, ())))
def R_ZParse (text : List UInt8) : Option (((Bool) × (List Int)) × ((Int) × (Int))) :=
  bnd (W.R_word text true true) fun y =>
  bnd (W.R_ZParse.c2 text (Prod.fst y) (Prod.snd y) some) fun y_1 =>
  br y_1
   (some ((false, []), (1 : Int), Prod.fst y))
   (bnd (W.R_digitsOf text) fun y_2 =>
    br (decide (y_2 > (1000 : Int)))
     (some ((false, []), (2 : Int), (0 : Int)))
     (bnd (W.R_zread text) fun y_3 =>
      some ((Prod.fst y_3, Prod.snd y_3), (0 : Int), (0 : Int))))
def R_ZParse.ce : Go.Ql.Callee := ⟨[.str], [(.st (.pair .bool (.sl (.int .i64)))), (.st (.pair (.int .i64) (.int .i64)))], fun x_ => R_ZParse x_⟩
def R_ZParse.G : Env := ⟨30, tab, [(52, R_word.ce), (53, R_digitsOf.ce), (54, R_zread.ce)], [0, 2, 3, 4, 5, 18, 24], [], [], [(2, R_ZParse.c2r)], [], tab_eqs⟩
theorem R_ZParse.eq (x_ : dens [.str]) : den R_ZParse.G Go.Proofs.Try.f9 [.str] [(.st (.pair .bool (.sl (.int .i64)))), (.st (.pair (.int .i64) (.int .i64)))] x_ = R_ZParse x_ := by kernel_rfl
theorem R_ZParse.p0 : PieceOk R_ZParse.G (pieceAt (pieces R_ZParse.G.cks (bodyOf Go.Proofs.Try.f9)) 0).1 (pieceAt (pieces R_ZParse.G.cks (bodyOf Go.Proofs.Try.f9)) 0).2 :=
  region_ok (s := R_ZParse.c2r) (by kernel_rfl) (by kernel_rfl) (sums_of (sh := R_ZParse.c2s) (fun ρ x_ k_ => (nat_br nat_leaf nat_leaf)) (fun ρ x_ t k => (by kernel_rfl)) (fun x_ => by kernel_rfl))
theorem R_ZParse.ok : CalleeOk Go.Proofs.Try.prog 9 R_ZParse.ce := fn_ok (G := R_ZParse.G) tab_ok mixed Go.Proofs.Try.func9 ⟨(fns_cons R_word.ok (fns_cons R_digitsOf.ok (fns_cons R_zread.ok fns_nil))), mfns_nil, tab_eqs_ok⟩ (m := 1) (by kernel_rfl) ⟨trivial, R_ZParse.p0⟩ (by kernel_rfl) R_ZParse.eq
def whole_Of.c208197 {ρ : Type} (n : Int) (u : Int) (k_ : Int → Option ρ) : Option ρ :=
  br (decide (n < (0 : Int)))
   (k_ (IntKind.wrap IntKind.u64 ((0 : Int) - u)))
   (k_ u)
def whole_Of.c208197s : Shape := ⟨[(0, q2), (2, q10), (3, q5)], [(2, q9)]⟩
def whole_Of.c208197x0 : Shape := ⟨[(0, q2), (2, q10), (3, q5)], [(2, q9)]⟩
def whole_Of.c208197r : Ck := Ck.of (T := Int) whole_Of.c208197s (fun ρ x_ k_ => uP x_ fun n x_ => uP x_ fun u x_ => uP x_ fun t20 x_ => uP x_ fun t21 x_ => whole_Of.c208197 n u k_) (fun ρ x_ r_ k_ => uP x_ fun n x_ => uP x_ fun u x_ => uP x_ fun t20 x_ => uP x_ fun t21 x_ => k_ 0 (Shape.inj whole_Of.c208197x0 (n, r_, t20, t21, ())))
def whole_Of (n : Int) : Option ((Bool) × (List Int)) :=
  bnd (W.whole_Of.c208197 n (IntKind.wrap IntKind.u64 n) some) fun y =>
  bnd (W.whole_made (decide (n < (0 : Int))) [IntKind.wrap IntKind.u32 y, IntKind.wrap IntKind.u32 (Int.fdiv y ((2 : Int) ^ (32 : Nat)))]) fun y_1 =>
  some (Prod.fst y_1, Prod.snd y_1)
def whole_Of.ce : Go.Ql.Callee := ⟨[(.int .i64)], [(.st (.pair .bool (.sl (.int .u32))))], fun x_ => whole_Of x_⟩
def whole_Of.G : Env := ⟨19, tab, [(50, whole_made.ce)], [0, 2, 3, 7], [], [], [(208197, whole_Of.c208197r)], [], tab_eqs⟩
theorem whole_Of.eq (x_ : dens [(.int .i64)]) : den whole_Of.G Go.Proofs.Try.f55 [(.int .i64)] [(.st (.pair .bool (.sl (.int .u32))))] x_ = whole_Of x_ := by kernel_rfl
theorem whole_Of.p0 : PieceOk whole_Of.G (pieceAt (pieces whole_Of.G.cks (bodyOf Go.Proofs.Try.f55)) 0).1 (pieceAt (pieces whole_Of.G.cks (bodyOf Go.Proofs.Try.f55)) 0).2 :=
  join_ok (s := whole_Of.c208197r) (by kernel_rfl) (by kernel_rfl) (sums_of (sh := whole_Of.c208197s) (fun ρ x_ k_ => (nat_br nat_leaf nat_leaf)) (fun ρ x_ t k => (by kernel_rfl)) (fun x_ => by kernel_rfl))
theorem whole_Of.ok : CalleeOk Go.Proofs.Try.prog 55 whole_Of.ce := fn_ok (G := whole_Of.G) tab_ok mixed Go.Proofs.Try.func55 ⟨(fns_cons whole_made.ok fns_nil), mfns_nil, tab_eqs_ok⟩ (m := 1) (by kernel_rfl) ⟨trivial, whole_Of.p0⟩ (by kernel_rfl) whole_Of.eq
abbrev q17 : SD := .one (.own 0 0)
def slices_Clone_uint32.pre : Shape := ⟨[(0, q3)], []⟩
def slices_Clone_uint32.post : Shape := ⟨[(0, q17)], [(0, q7)]⟩
def slices_Clone_uint32 (s : List (Int)) : Option ((List Int) × Unit) :=
  br (List.isEmpty s)
   (both
     (some (uP ([], ()) fun u r ↦ (u, ())))
     (bnd (okIf (decide (((0 : Nat) + List.length s) * (4 : Nat) ≤ (140737488355328 : Nat)) && decide ((0 : Nat) + List.length s ≤ (140737488355328 : Nat)))) fun y =>
      some (uP (s, ()) fun u r ↦ (u, ()))))
   (bnd (okIf (decide (((0 : Nat) + List.length s) * (4 : Nat) ≤ (140737488355328 : Nat)) && decide ((0 : Nat) + List.length s ≤ (140737488355328 : Nat)))) fun y_1 =>
    some (uP (s, ()) fun u r ↦ (u, ())))
def slices_Clone_uint32.mc : MCallee := ⟨59, slices_Clone_uint32.pre, slices_Clone_uint32.post, fun x_ => slices_Clone_uint32 x_.1⟩
def slices_Clone_uint32.G : Env := ⟨8, tab, [], [0, 2, 4], [2, 5], [], [], [], tab_eqs⟩
theorem slices_Clone_uint32.eq (x_ : densU slices_Clone_uint32.mc.pre.tys) : denM slices_Clone_uint32.G Go.Proofs.Try.f59 slices_Clone_uint32.mc.pre slices_Clone_uint32.mc.post x_ = slices_Clone_uint32.mc.F x_ := by kernel_rfl
theorem slices_Clone_uint32.ok : MOk Go.Proofs.Try.prog 59 slices_Clone_uint32.mc := fnm_ok (G := slices_Clone_uint32.G) tab_ok mixed Go.Proofs.Try.func59 ⟨fns_nil, mfns_nil, tab_eqs_ok⟩ (m := 0) (by kernel_rfl) trivial (by kernel_rfl) slices_Clone_uint32.eq
abbrev q18 : SD := .one (.own 2000000 0)
abbrev q19 : SO := .arr 0 false 5 (.int .u8)
def slices_Reverse_byte.pre : Shape := ⟨[(0, q18)], [(2000000, q19)]⟩
def slices_Reverse_byte.post : Shape := ⟨[], [(2000000, q19)]⟩
def slices_Reverse_byte.c3 {ρ : Type} (i : Int) (j : Int) (t2000000 : List (Int)) (k_ : List (Int) → Option ρ) : Option ρ :=
  bnd (inR (List.length t2000000) j) fun y =>
  bnd (idx t2000000 j) fun y_1 =>
  bnd (inR (List.length t2000000) i) fun y_2 =>
  bnd (idx t2000000 i) fun y_3 =>
  bnd (inR (List.length t2000000) i) fun y_4 =>
  bnd (idx t2000000 i) fun y_5 =>
  bnd (inR (List.length (List.set t2000000 (Int.toNat i) y_1)) j) fun y_6 =>
  bnd (idx (List.set t2000000 (Int.toNat i) y_1) j) fun y_7 =>
  k_ (List.set (List.set t2000000 (Int.toNat i) y_1) (Int.toNat j) y_3)
def slices_Reverse_byte.c3s : Shape := ⟨[(0, q18), (2, q2), (3, q2)], [(2000000, q19)]⟩
def slices_Reverse_byte.c3x0 : Shape := ⟨[(0, q18), (2, q2), (3, q2)], [(2000000, q19)]⟩
def slices_Reverse_byte.c3r : Ck := Ck.of (T := List (Int)) slices_Reverse_byte.c3s (fun ρ x_ k_ => uP x_ fun i x_ => uP x_ fun j x_ => uP x_ fun t2000000 x_ => slices_Reverse_byte.c3 i j t2000000 k_) (fun ρ x_ r_ k_ => uP x_ fun i x_ => uP x_ fun j x_ => uP x_ fun t2000000 x_ => k_ 0 (Shape.inj slices_Reverse_byte.c3x0 (i, j, r_, ())))
def slices_Reverse_byte.c100001 {ρ : Type} (i : Int) (j : Int) (t2000000 : List (Int)) (k_ : ((Int) × (Int) × (List Int)) ⊕ ((Int) × (Int) × (List Int)) → Option ρ) : Option ρ :=
  br (decide (i < j))
   (bnd (W.slices_Reverse_byte.c3 i j t2000000 some) fun y =>
    k_ (.inl ((IntKind.wrap IntKind.i64 (i + (1 : Int))), (IntKind.wrap IntKind.i64 (j - (1 : Int))), y)))
   (k_ (.inr (i, j, t2000000)))
def slices_Reverse_byte.c100001s : Shape := ⟨[(0, q18), (2, q2), (3, q2)], [(2000000, q19)]⟩
def slices_Reverse_byte.c100001x0 : Shape := ⟨[(0, q18), (2, q2), (3, q2)], [(2000000, q19)]⟩
def slices_Reverse_byte.c100001r : Ck := Ck.ofLoop (S := (Int) × (Int) × (List Int)) (T := (Int) × (Int) × (List Int)) slices_Reverse_byte.c100001s (fun x_ => uP x_ fun i x_ => uP x_ fun j x_ => uP x_ fun t2000000 x_ => (i, j, t2000000)) (fun ρ x_ s_ k_ => uP x_ fun i x_ => uP x_ fun j x_ => uP x_ fun t2000000 x_ => slices_Reverse_byte.c100001 s_.1 s_.2.1 s_.2.2 k_) (fun ρ x_ r_ k_ => uP x_ fun i x_ => uP x_ fun j x_ => uP x_ fun t2000000 x_ => k_ 2 (Shape.inj slices_Reverse_byte.c100001x0 (r_.1, r_.2.1, r_.2.2, ())))
def slices_Reverse_byte (t2000000 : List (Int)) : Option ((List Int) × Unit) :=
  bnd (iter (fun s ↦ W.slices_Reverse_byte.c100001 (Prod.fst s) (Prod.fst (Prod.snd s)) (Prod.snd (Prod.snd s)) some) ((0 : Int), IntKind.wrap IntKind.i64 ((↑(List.length t2000000) : Int) - (1 : Int)), t2000000)) fun y =>
  some (uP (Prod.snd (Prod.snd y), ()) fun u r ↦ (u, ()))
def slices_Reverse_byte.mc : MCallee := ⟨60, slices_Reverse_byte.pre, slices_Reverse_byte.post, fun x_ => slices_Reverse_byte x_.1⟩
def slices_Reverse_byte.G : Env := ⟨28, tab, [], [0, 2, 3, 9], [2000000], [(3, [⟨[], [], [15, 16, 17, 18, 19, 20, 21, 22, 23, 24, 25], []⟩, ⟨[], [], [14, 16, 17, 18, 19, 20, 21, 22, 23, 24, 25], []⟩, ⟨[], [], [14, 15, 17, 18, 19, 20, 21, 22, 23, 24, 25, 26], [2000000]⟩, ⟨[], [], [14, 15, 16, 18, 19, 20, 21, 22, 23, 24, 25, 26], [2000000]⟩, ⟨[], [], [14, 15, 16, 17, 19, 22, 23, 24, 25], []⟩, ⟨[], [], [14, 15, 16, 17, 18, 22, 23, 24, 25], []⟩, ⟨[4, 5], [], [14, 15, 16, 17, 22, 23, 24, 25], []⟩, ⟨[6, 4, 5], [], [14, 15, 16, 17, 22, 23, 24, 25], []⟩, ⟨[], [], [14, 15, 16, 17, 18, 19, 20, 21, 23], []⟩, ⟨[], [], [14, 15, 16, 17, 18, 19, 20, 21, 22], []⟩, ⟨[8, 9], [], [14, 15, 16, 17, 18, 19, 20, 21], []⟩, ⟨[10, 8, 9], [], [14, 15, 16, 17, 18, 19, 20, 21], []⟩, ⟨[0, 1, 4, 5, 6, 7, 11, 10, 8, 9], [], [16, 17], []⟩, ⟨[12, 0, 1, 4, 5, 6, 7, 11, 10, 8, 9], [2000000], [16, 17], []⟩, ⟨[2, 3, 0, 1, 4, 5, 6, 7, 8, 9, 10, 11, 12, 13], [], [], []⟩, ⟨[14, 2, 3, 0, 1, 4, 5, 6, 7, 8, 9, 10, 11, 12, 13], [2000000], [], []⟩])], [(100001, slices_Reverse_byte.c100001r), (3, slices_Reverse_byte.c3r)], [], tab_eqs⟩
theorem slices_Reverse_byte.eq (x_ : densU slices_Reverse_byte.mc.pre.tys) : denM slices_Reverse_byte.G Go.Proofs.Try.f60 slices_Reverse_byte.mc.pre slices_Reverse_byte.mc.post x_ = slices_Reverse_byte.mc.F x_ := by kernel_rfl
theorem slices_Reverse_byte.p0 : PieceOk slices_Reverse_byte.G (pieceAt (pieces slices_Reverse_byte.G.cks (bodyOf Go.Proofs.Try.f60)) 0).1 (pieceAt (pieces slices_Reverse_byte.G.cks (bodyOf Go.Proofs.Try.f60)) 0).2 :=
  loop_ok (s := slices_Reverse_byte.c100001r) (by kernel_rfl) (by kernel_rfl) (loops_of (sh := slices_Reverse_byte.c100001s) (I := fun x_ s_ => (s_.1, s_.2.1, s_.2.2, ())) (fun x_ => rfl) (fun ρ x_ s_ k_ => (nat_br (nat_bnd fun _ => nat_leaf) nat_leaf)) (fun ρ x_ t k => (by kernel_rfl)) (fun x_ s => by kernel_rfl))
theorem slices_Reverse_byte.p1 : PieceOk slices_Reverse_byte.G (pieceAt (pieces slices_Reverse_byte.G.cks (bodyOf Go.Proofs.Try.f60)) 1).1 (pieceAt (pieces slices_Reverse_byte.G.cks (bodyOf Go.Proofs.Try.f60)) 1).2 :=
  region_ok (s := slices_Reverse_byte.c3r) (by kernel_rfl) (by kernel_rfl) (sums_of (sh := slices_Reverse_byte.c3s) (fun ρ x_ k_ => (nat_bnd fun _ => (nat_bnd fun _ => (nat_bnd fun _ => (nat_bnd fun _ => (nat_bnd fun _ => (nat_bnd fun _ => (nat_bnd fun _ => (nat_bnd fun _ => nat_leaf))))))))) (fun ρ x_ t k => (by kernel_rfl)) (fun x_ => by kernel_rfl))
theorem slices_Reverse_byte.ok : MOk Go.Proofs.Try.prog 60 slices_Reverse_byte.mc := fnm_ok (G := slices_Reverse_byte.G) tab_ok mixed Go.Proofs.Try.func60 ⟨fns_nil, mfns_nil, tab_eqs_ok⟩ (m := 2) (by kernel_rfl) ⟨⟨trivial, slices_Reverse_byte.p0⟩, slices_Reverse_byte.p1⟩ (by kernel_rfl) slices_Reverse_byte.eq
abbrev q20 : SD := .one (.val (.st (.pair .bool (.sl (.int .u32)))))
abbrev q21 : SD := .one (.ref 1 0)
abbrev q22 : SD := .one (.own 14 0)
def whole_Int_Text.c100008 {ρ : Type} (part : Int) (i : Int) (t14 : List (Int)) (k_ : ((Int) × (Int) × (List Int)) ⊕ ((Int) × (Int) × (List Int)) → Option ρ) : Option ρ :=
  br (decide (i ≥ (0 : Int)))
   (bnd (inR (List.length t14) i) fun y =>
    bnd (idx t14 i) fun y_1 =>
    bnd (inR (List.length t14) i) fun y_2 =>
    bnd (idx t14 i) fun y_3 =>
    k_ (.inl ((Int.tmod (ibits BinOp.or IntKind.u64 (IntKind.wrap IntKind.u64 (part * (2 : Int) ^ (32 : Nat))) (IntKind.wrap IntKind.u64 y_1)) (1000000000 : Int)), (IntKind.wrap IntKind.i64 (i - (1 : Int))), (List.set t14 (Int.toNat i) (IntKind.wrap IntKind.u32 (IntKind.wrap IntKind.u64 (Int.tdiv (ibits BinOp.or IntKind.u64 (IntKind.wrap IntKind.u64 (part * (2 : Int) ^ (32 : Nat))) (IntKind.wrap IntKind.u64 y_1)) (1000000000 : Int))))))))
   (k_ (.inr (part, i, t14)))
def whole_Int_Text.c100008s : Shape := ⟨[(0, q20), (1, q21), (2, q0), (3, q4), (4, q22), (5, q5), (6, q2)], [(1, q9), (3, q19), (14, q7)]⟩
def whole_Int_Text.c100008x0 : Shape := ⟨[(0, q20), (1, q21), (2, q0), (3, q4), (4, q22), (5, q5), (6, q2)], [(1, q9), (3, q19), (14, q7)]⟩
def whole_Int_Text.c100008r : Ck := Ck.ofLoop (S := (Int) × (Int) × (List Int)) (T := (Int) × (Int) × (List Int)) whole_Int_Text.c100008s (fun x_ => uP x_ fun a x_ => uP x_ fun t2 x_ => uP x_ fun part x_ => uP x_ fun i x_ => uP x_ fun a0 x_ => uP x_ fun a1 x_ => uP x_ fun out x_ => uP x_ fun t14 x_ => (part, i, t14)) (fun ρ x_ s_ k_ => uP x_ fun a x_ => uP x_ fun t2 x_ => uP x_ fun part x_ => uP x_ fun i x_ => uP x_ fun a0 x_ => uP x_ fun a1 x_ => uP x_ fun out x_ => uP x_ fun t14 x_ => whole_Int_Text.c100008 s_.1 s_.2.1 s_.2.2 k_) (fun ρ x_ r_ k_ => uP x_ fun a x_ => uP x_ fun t2 x_ => uP x_ fun part x_ => uP x_ fun i x_ => uP x_ fun a0 x_ => uP x_ fun a1 x_ => uP x_ fun out x_ => uP x_ fun t14 x_ => k_ 4 (Shape.inj whole_Int_Text.c100008x0 (a, t2, r_.1, r_.2.1, a0, a1, out, r_.2.2, ())))
def whole_Int_Text.c253253 {ρ : Type} (t14 : List (Int)) (k_ : List (Int) → Option ρ) : Option ρ :=
  bnd (inR (List.length t14) (IntKind.wrap IntKind.i64 ((↑(List.length t14) : Int) - (1 : Int)))) fun y =>
  bnd (idx t14 (IntKind.wrap IntKind.i64 ((↑(List.length t14) : Int) - (1 : Int)))) fun y_1 =>
  br (y_1 == (0 : Int))
   (bnd (okIf (decide ((0 : Int) ≤ IntKind.wrap IntKind.i64 ((↑(List.length t14) : Int) - (1 : Int))) && decide (IntKind.wrap IntKind.i64 ((↑(List.length t14) : Int) - (1 : Int)) ≤ (↑(List.length t14) : Int)))) fun y_2 =>
    k_ (List.take (Int.toNat (IntKind.wrap IntKind.i64 ((↑(List.length t14) : Int) - (1 : Int)))) t14))
   (k_ t14)
def whole_Int_Text.c253253s : Shape := ⟨[(0, q20), (1, q21), (2, q0), (3, q4), (4, q22), (5, q5), (6, q2)], [(1, q9), (3, q19), (14, q7)]⟩
def whole_Int_Text.c253253x0 : Shape := ⟨[(0, q20), (1, q21), (2, q0), (3, q4), (4, q22), (5, q5), (6, q2)], [(1, q9), (3, q19), (14, q7)]⟩
def whole_Int_Text.c253253r : Ck := Ck.of (T := List (Int)) whole_Int_Text.c253253s (fun ρ x_ k_ => uP x_ fun a x_ => uP x_ fun t2 x_ => uP x_ fun part x_ => uP x_ fun i x_ => uP x_ fun a0 x_ => uP x_ fun a1 x_ => uP x_ fun out x_ => uP x_ fun t14 x_ => whole_Int_Text.c253253 t14 k_) (fun ρ x_ r_ k_ => uP x_ fun a x_ => uP x_ fun t2 x_ => uP x_ fun part x_ => uP x_ fun i x_ => uP x_ fun a0 x_ => uP x_ fun a1 x_ => uP x_ fun out x_ => uP x_ fun t14 x_ => k_ 0 (Shape.inj whole_Int_Text.c253253x0 (a, t2, part, i, a0, a1, out, r_, ())))
def whole_Int_Text.c16 {ρ : Type} (part : Int) (t7 : Int) (t14 : List (Int)) (k_ : Bool → Option ρ) : Option ρ :=
  br (decide (t7 < (9 : Int)))
   (br (decide (part > (0 : Int)))
     (k_ true)
     (k_ (decide ((↑(List.length t14) : Int) > (0 : Int)))))
   (k_ false)
def whole_Int_Text.c16s : Shape := ⟨[(0, q20), (1, q21), (2, q0), (3, q4), (4, q22), (5, q5), (6, q2), (7, q2)], [(1, q9), (3, q19), (14, q7)]⟩
def whole_Int_Text.c16x0 : Shape := ⟨[(0, q20), (1, q21), (2, q0), (3, q4), (4, q22), (5, q5), (6, q2), (7, q2), (63, q1)], [(1, q9), (3, q19), (14, q7)]⟩
def whole_Int_Text.c16r : Ck := Ck.of (T := Bool) whole_Int_Text.c16s (fun ρ x_ k_ => uP x_ fun a x_ => uP x_ fun t2 x_ => uP x_ fun part x_ => uP x_ fun i x_ => uP x_ fun t7 x_ => uP x_ fun a0 x_ => uP x_ fun a1 x_ => uP x_ fun out x_ => uP x_ fun t14 x_ => whole_Int_Text.c16 part t7 t14 k_) (fun ρ x_ r_ k_ => uP x_ fun a x_ => uP x_ fun t2 x_ => uP x_ fun part x_ => uP x_ fun i x_ => uP x_ fun t7 x_ => uP x_ fun a0 x_ => uP x_ fun a1 x_ => uP x_ fun out x_ => uP x_ fun t14 x_ => k_ 0 (Shape.inj whole_Int_Text.c16x0 (a, t2, part, i, t7, r_, a0, a1, out, t14, ())))
def whole_Int_Text.c100016 {ρ : Type} (part : Int) (t7 : Int) (out : List (Int)) (t14 : List (Int)) (k_ : ((Int) × (Int) × (List Int)) ⊕ ((Int) × (Int) × (List Int)) → Option ρ) : Option ρ :=
  bnd (W.whole_Int_Text.c16 part t7 t14 some) fun y =>
  br y
   (bnd (okIf (decide ((List.length out + List.length [IntKind.wrap IntKind.u8 (IntKind.wrap IntKind.u64 ((48 : Int) + Int.tmod part (10 : Int)))]) * (1 : Nat) ≤ (140737488355328 : Nat)) && decide (List.length out + List.length [IntKind.wrap IntKind.u8 (IntKind.wrap IntKind.u64 ((48 : Int) + Int.tmod part (10 : Int)))] ≤ (140737488355328 : Nat)))) fun y_1 =>
    k_ (.inl ((IntKind.wrap IntKind.u64 (Int.tdiv part (10 : Int))), (IntKind.wrap IntKind.i64 (t7 + (1 : Int))), (out ++ [IntKind.wrap IntKind.u8 (IntKind.wrap IntKind.u64 ((48 : Int) + Int.tmod part (10 : Int)))]))))
   (k_ (.inr (part, t7, out)))
def whole_Int_Text.c100016s : Shape := ⟨[(0, q20), (1, q21), (2, q0), (3, q4), (4, q22), (5, q5), (6, q2), (7, q2)], [(1, q9), (3, q19), (14, q7)]⟩
def whole_Int_Text.c100016x0 : Shape := ⟨[(0, q20), (1, q21), (2, q0), (3, q4), (4, q22), (5, q5), (6, q2), (7, q2)], [(1, q9), (3, q19), (14, q7)]⟩
def whole_Int_Text.c100016r : Ck := Ck.ofLoop (S := (Int) × (Int) × (List Int)) (T := (Int) × (Int) × (List Int)) whole_Int_Text.c100016s (fun x_ => uP x_ fun a x_ => uP x_ fun t2 x_ => uP x_ fun part x_ => uP x_ fun i x_ => uP x_ fun t7 x_ => uP x_ fun a0 x_ => uP x_ fun a1 x_ => uP x_ fun out x_ => uP x_ fun t14 x_ => (part, t7, out)) (fun ρ x_ s_ k_ => uP x_ fun a x_ => uP x_ fun t2 x_ => uP x_ fun part x_ => uP x_ fun i x_ => uP x_ fun t7 x_ => uP x_ fun a0 x_ => uP x_ fun a1 x_ => uP x_ fun out x_ => uP x_ fun t14 x_ => whole_Int_Text.c100016 s_.1 s_.2.1 s_.2.2 t14 k_) (fun ρ x_ r_ k_ => uP x_ fun a x_ => uP x_ fun t2 x_ => uP x_ fun part x_ => uP x_ fun i x_ => uP x_ fun t7 x_ => uP x_ fun a0 x_ => uP x_ fun a1 x_ => uP x_ fun out x_ => uP x_ fun t14 x_ => k_ 6 (Shape.inj whole_Int_Text.c100016x0 (a, t2, r_.1, i, r_.2.1, a0, a1, r_.2.2, t14, ())))
def whole_Int_Text.c100005 {ρ : Type} (out : List (Int)) (t14 : List (Int)) (k_ : ((List Int) × (List Int)) ⊕ ((List Int) × (List Int)) → Option ρ) : Option ρ :=
  br (decide ((↑(List.length t14) : Int) > (0 : Int)))
   (bnd (iter (fun s ↦ W.whole_Int_Text.c100008 (Prod.fst s) (Prod.fst (Prod.snd s)) (Prod.snd (Prod.snd s)) some) ((0 : Int), IntKind.wrap IntKind.i64 ((↑(List.length t14) : Int) - (1 : Int)), t14)) fun y =>
    bnd (W.whole_Int_Text.c253253 (Prod.snd (Prod.snd y)) some) fun y_1 =>
    bnd (iter (fun s ↦ W.whole_Int_Text.c100016 (Prod.fst s) (Prod.fst (Prod.snd s)) (Prod.snd (Prod.snd s)) y_1 some) (Prod.fst y, (0 : Int), out)) fun y_2 =>
    k_ (.inl ((Prod.snd (Prod.snd y_2)), y_1)))
   (k_ (.inr (out, t14)))
def whole_Int_Text.c100005s : Shape := ⟨[(0, q20), (1, q21), (2, q0), (3, q4), (4, q22)], [(1, q9), (3, q19), (14, q7)]⟩
def whole_Int_Text.c100005x0 : Shape := ⟨[(0, q20), (1, q21), (2, q0), (3, q4), (4, q22)], [(1, q9), (3, q19), (14, q7)]⟩
def whole_Int_Text.c100005r : Ck := Ck.ofLoop (S := (List Int) × (List Int)) (T := (List Int) × (List Int)) whole_Int_Text.c100005s (fun x_ => uP x_ fun a x_ => uP x_ fun t2 x_ => uP x_ fun a0 x_ => uP x_ fun a1 x_ => uP x_ fun out x_ => uP x_ fun t14 x_ => (out, t14)) (fun ρ x_ s_ k_ => uP x_ fun a x_ => uP x_ fun t2 x_ => uP x_ fun a0 x_ => uP x_ fun a1 x_ => uP x_ fun out x_ => uP x_ fun t14 x_ => whole_Int_Text.c100005 s_.1 s_.2 k_) (fun ρ x_ r_ k_ => uP x_ fun a x_ => uP x_ fun t2 x_ => uP x_ fun a0 x_ => uP x_ fun a1 x_ => uP x_ fun out x_ => uP x_ fun t14 x_ => k_ 2 (Shape.inj whole_Int_Text.c100005x0 (a, t2, a0, a1, r_.1, r_.2, ())))
def whole_Int_Text.c281925 {ρ : Type} (a0 : Bool) (out : List (Int)) (k_ : List (Int) → Option ρ) : Option ρ :=
  br a0
   (bnd (okIf (decide ((List.length out + List.length [(45 : Int)]) * (1 : Nat) ≤ (140737488355328 : Nat)) && decide (List.length out + List.length [(45 : Int)] ≤ (140737488355328 : Nat)))) fun y =>
    k_ (out ++ [(45 : Int)]))
   (k_ out)
def whole_Int_Text.c281925s : Shape := ⟨[(0, q20), (1, q21), (2, q0), (3, q4), (4, q22)], [(1, q9), (3, q19), (14, q7)]⟩
def whole_Int_Text.c281925x0 : Shape := ⟨[(0, q20), (1, q21), (2, q0), (3, q4), (4, q22)], [(1, q9), (3, q19), (14, q7)]⟩
def whole_Int_Text.c281925r : Ck := Ck.of (T := List (Int)) whole_Int_Text.c281925s (fun ρ x_ k_ => uP x_ fun a x_ => uP x_ fun t2 x_ => uP x_ fun a0 x_ => uP x_ fun a1 x_ => uP x_ fun out x_ => uP x_ fun t14 x_ => whole_Int_Text.c281925 a0 out k_) (fun ρ x_ r_ k_ => uP x_ fun a x_ => uP x_ fun t2 x_ => uP x_ fun a0 x_ => uP x_ fun a1 x_ => uP x_ fun out x_ => uP x_ fun t14 x_ => k_ 0 (Shape.inj whole_Int_Text.c281925x0 (a, t2, a0, a1, r_, t14, ())))
def whole_Int_Text (a : (Bool) × (List Int)) : Option (List UInt8) :=
  br ((↑(List.length (Prod.snd a)) : Int) == (0 : Int))
   (some (Array.toList (ByteArray.data (ByteArray.mk #[(48 : UInt8)]))))
   (bnd (W.slices_Clone_uint32 (Prod.fst (uP (uP (Prod.snd a, ()) fun u r ↦ (u, ())) fun u r ↦ (u, ())))) fun y =>
    bnd (iter (fun s ↦ W.whole_Int_Text.c100005 (Prod.fst s) (Prod.snd s) some) ([], Prod.fst y)) fun y_1 =>
    bnd (W.whole_Int_Text.c281925 (Prod.fst a) (Prod.fst y_1) some) fun y_2 =>
    bnd (W.slices_Reverse_byte (Prod.fst (uP (y_2, ()) fun u r ↦ (u, ())))) fun y_3 =>
    some (List.map (fun n ↦ UInt8.ofNat (Int.toNat n)) (Prod.fst y_3)))
def whole_Int_Text.ce : Go.Ql.Callee := ⟨[(.st (.pair .bool (.sl (.int .u32))))], [.str], fun x_ => whole_Int_Text x_⟩
def whole_Int_Text.G : Env := ⟨84, tab, [], [0, 1, 2, 3, 4, 5, 6, 7, 11, 17, 22, 47, 63, 76], [3, 14], [], [(281925, whole_Int_Text.c281925r), (100005, whole_Int_Text.c100005r), (100016, whole_Int_Text.c100016r), (16, whole_Int_Text.c16r), (253253, whole_Int_Text.c253253r), (100008, whole_Int_Text.c100008r)], [(59, slices_Clone_uint32.mc), (60, slices_Reverse_byte.mc)], tab_eqs⟩
theorem whole_Int_Text.eq (x_ : dens [(.st (.pair .bool (.sl (.int .u32))))]) : den whole_Int_Text.G Go.Proofs.Try.f12 [(.st (.pair .bool (.sl (.int .u32))))] [.str] x_ = whole_Int_Text x_ := by kernel_rfl
theorem whole_Int_Text.p0 : PieceOk whole_Int_Text.G (pieceAt (pieces whole_Int_Text.G.cks (bodyOf Go.Proofs.Try.f12)) 0).1 (pieceAt (pieces whole_Int_Text.G.cks (bodyOf Go.Proofs.Try.f12)) 0).2 :=
  loop_ok (s := whole_Int_Text.c100005r) (by kernel_rfl) (by kernel_rfl) (loops_of (sh := whole_Int_Text.c100005s) (I := fun x_ s_ => (x_.1, x_.2.1, x_.2.2.1, x_.2.2.2.1, s_.1, s_.2, ())) (fun x_ => rfl) (fun ρ x_ s_ k_ => (nat_br (nat_bnd fun _ => (nat_bnd fun _ => (nat_bnd fun _ => nat_leaf))) nat_leaf)) (fun ρ x_ t k => (by kernel_rfl)) (fun x_ s => by kernel_rfl))
theorem whole_Int_Text.p1 : PieceOk whole_Int_Text.G (pieceAt (pieces whole_Int_Text.G.cks (bodyOf Go.Proofs.Try.f12)) 1).1 (pieceAt (pieces whole_Int_Text.G.cks (bodyOf Go.Proofs.Try.f12)) 1).2 :=
  loop_ok (s := whole_Int_Text.c100008r) (by kernel_rfl) (by kernel_rfl) (loops_of (sh := whole_Int_Text.c100008s) (I := fun x_ s_ => (x_.1, x_.2.1, s_.1, s_.2.1, x_.2.2.2.2.1, x_.2.2.2.2.2.1, x_.2.2.2.2.2.2.1, s_.2.2, ())) (fun x_ => rfl) (fun ρ x_ s_ k_ => (nat_br (nat_bnd fun _ => (nat_bnd fun _ => (nat_bnd fun _ => (nat_bnd fun _ => nat_leaf)))) nat_leaf)) (fun ρ x_ t k => (by kernel_rfl)) (fun x_ s => by kernel_rfl))
theorem whole_Int_Text.p2 : PieceOk whole_Int_Text.G (pieceAt (pieces whole_Int_Text.G.cks (bodyOf Go.Proofs.Try.f12)) 2).1 (pieceAt (pieces whole_Int_Text.G.cks (bodyOf Go.Proofs.Try.f12)) 2).2 :=
  join_ok (s := whole_Int_Text.c253253r) (by kernel_rfl) (by kernel_rfl) (sums_of (sh := whole_Int_Text.c253253s) (fun ρ x_ k_ => (nat_bnd fun _ => (nat_bnd fun _ => (nat_br (nat_bnd fun _ => nat_leaf) nat_leaf)))) (fun ρ x_ t k => (by kernel_rfl)) (fun x_ => by kernel_rfl))
theorem whole_Int_Text.p3 : PieceOk whole_Int_Text.G (pieceAt (pieces whole_Int_Text.G.cks (bodyOf Go.Proofs.Try.f12)) 3).1 (pieceAt (pieces whole_Int_Text.G.cks (bodyOf Go.Proofs.Try.f12)) 3).2 :=
  loop_ok (s := whole_Int_Text.c100016r) (by kernel_rfl) (by kernel_rfl) (loops_of (sh := whole_Int_Text.c100016s) (I := fun x_ s_ => (x_.1, x_.2.1, s_.1, x_.2.2.2.1, s_.2.1, x_.2.2.2.2.2.1, x_.2.2.2.2.2.2.1, s_.2.2, x_.2.2.2.2.2.2.2.2.1, ())) (fun x_ => rfl) (fun ρ x_ s_ k_ => (nat_bnd fun _ => (nat_br (nat_bnd fun _ => nat_leaf) nat_leaf))) (fun ρ x_ t k => (by kernel_rfl)) (fun x_ s => by kernel_rfl))
theorem whole_Int_Text.p4 : PieceOk whole_Int_Text.G (pieceAt (pieces whole_Int_Text.G.cks (bodyOf Go.Proofs.Try.f12)) 4).1 (pieceAt (pieces whole_Int_Text.G.cks (bodyOf Go.Proofs.Try.f12)) 4).2 :=
  region_ok (s := whole_Int_Text.c16r) (by kernel_rfl) (by kernel_rfl) (sums_of (sh := whole_Int_Text.c16s) (fun ρ x_ k_ => (nat_br (nat_br nat_leaf nat_leaf) nat_leaf)) (fun ρ x_ t k => (by kernel_rfl)) (fun x_ => by kernel_rfl))
theorem whole_Int_Text.p5 : PieceOk whole_Int_Text.G (pieceAt (pieces whole_Int_Text.G.cks (bodyOf Go.Proofs.Try.f12)) 5).1 (pieceAt (pieces whole_Int_Text.G.cks (bodyOf Go.Proofs.Try.f12)) 5).2 :=
  join_ok (s := whole_Int_Text.c281925r) (by kernel_rfl) (by kernel_rfl) (sums_of (sh := whole_Int_Text.c281925s) (fun ρ x_ k_ => (nat_br (nat_bnd fun _ => nat_leaf) nat_leaf)) (fun ρ x_ t k => (by kernel_rfl)) (fun x_ => by kernel_rfl))
theorem whole_Int_Text.ok : CalleeOk Go.Proofs.Try.prog 12 whole_Int_Text.ce := fn_ok (G := whole_Int_Text.G) tab_ok mixed Go.Proofs.Try.func12 ⟨fns_nil, (mfns_cons slices_Clone_uint32.ok (mfns_cons slices_Reverse_byte.ok mfns_nil)), tab_eqs_ok⟩ (m := 6) (by kernel_rfl) ⟨⟨⟨⟨⟨⟨trivial, whole_Int_Text.p0⟩, whole_Int_Text.p1⟩, whole_Int_Text.p2⟩, whole_Int_Text.p3⟩, whole_Int_Text.p4⟩, whole_Int_Text.p5⟩ (by kernel_rfl) whole_Int_Text.eq
def Law_wholeBegun  : Option (Bool) :=
  bnd (W.whole_Of (-70001 : Int)) fun y =>
  bnd (W.whole_Int_Text y) fun y_1 =>
  some (y_1 == Array.toList (ByteArray.data (ByteArray.mk #[(45 : UInt8), (55 : UInt8), (48 : UInt8), (48 : UInt8), (48 : UInt8), (49 : UInt8)])))
def Law_wholeBegun.ce : Go.Ql.Callee := ⟨[], [.bool], fun x_ => Law_wholeBegun⟩
def Law_wholeBegun.G : Env := ⟨4, tab, [(55, whole_Of.ce), (12, whole_Int_Text.ce)], [0], [], [], [], [], tab_eqs⟩
theorem Law_wholeBegun.eq (x_ : dens []) : den Law_wholeBegun.G Go.Proofs.Try.f10 [] [.bool] x_ = Law_wholeBegun := by kernel_rfl
theorem Law_wholeBegun.ok : CalleeOk Go.Proofs.Try.prog 10 Law_wholeBegun.ce := fn_ok (G := Law_wholeBegun.G) tab_ok mixed Go.Proofs.Try.func10 ⟨(fns_cons whole_Of.ok (fns_cons whole_Int_Text.ok fns_nil)), mfns_nil, tab_eqs_ok⟩ (m := 0) (by kernel_rfl) trivial (by kernel_rfl) Law_wholeBegun.eq
def bits_Add32 (x : Int) (y : Int) (carry : Int) : Option ((Int) × (Int)) :=
  some (IntKind.wrap IntKind.u32 (IntKind.wrap IntKind.u64 (IntKind.wrap IntKind.u64 (IntKind.wrap IntKind.u64 x + IntKind.wrap IntKind.u64 y) + IntKind.wrap IntKind.u64 carry)), IntKind.wrap IntKind.u32 (Int.fdiv (IntKind.wrap IntKind.u64 (IntKind.wrap IntKind.u64 (IntKind.wrap IntKind.u64 x + IntKind.wrap IntKind.u64 y) + IntKind.wrap IntKind.u64 carry)) ((2 : Int) ^ (32 : Nat))))
def bits_Add32.ce : Go.Ql.Callee := ⟨[(.int .u32), (.int .u32), (.int .u32)], [(.int .u32), (.int .u32)], fun x_ => bits_Add32 x_.1 x_.2.1 x_.2.2⟩
def bits_Add32.G : Env := ⟨22, tab, [], [0, 1, 2, 6, 7, 8], [], [], [], [], tab_eqs⟩
theorem bits_Add32.eq (x_ : dens [(.int .u32), (.int .u32), (.int .u32)]) : den bits_Add32.G Go.Proofs.Try.f79 [(.int .u32), (.int .u32), (.int .u32)] [(.int .u32), (.int .u32)] x_ = bits_Add32 x_.1 x_.2.1 x_.2.2 := by kernel_rfl
theorem bits_Add32.ok : CalleeOk Go.Proofs.Try.prog 79 bits_Add32.ce := fn_ok (G := bits_Add32.G) tab_ok mixed Go.Proofs.Try.func79 ⟨fns_nil, mfns_nil, tab_eqs_ok⟩ (m := 0) (by kernel_rfl) trivial (by kernel_rfl) bits_Add32.eq
abbrev q23 : SD := .one (.own 20 0)
abbrev q24 : SD := .one (.val (.int .u32))
def whole_sum.c204101 {ρ : Type} (a : List (Int)) (b : List (Int)) (k_ : (List Int) × (List Int) → Option ρ) : Option ρ :=
  br (decide ((↑(List.length a) : Int) < (↑(List.length b) : Int)))
   (k_ (b, a))
   (k_ (a, b))
def whole_sum.c204101s : Shape := ⟨[(0, q3), (1, q3), (4, q3)], []⟩
def whole_sum.c204101x0 : Shape := ⟨[(0, q3), (1, q3), (4, q3)], []⟩
def whole_sum.c204101r : Ck := Ck.of (T := (List Int) × (List Int)) whole_sum.c204101s (fun ρ x_ k_ => uP x_ fun a x_ => uP x_ fun b x_ => uP x_ fun t4 x_ => whole_sum.c204101 a b k_) (fun ρ x_ r_ k_ => uP x_ fun a x_ => uP x_ fun b x_ => uP x_ fun t4 x_ => k_ 0 (Shape.inj whole_sum.c204101x0 (r_.1, r_.2, t4, ())))
def whole_sum.c236869 {ρ : Type} (b : List (Int)) (i : Int) (y : Int) (k_ : Int → Option ρ) : Option ρ :=
  br (decide (i < (↑(List.length b) : Int)))
   (bnd (idx b i) fun y_1 =>
    k_ y_1)
   (k_ y)
def whole_sum.c236869s : Shape := ⟨[(0, q3), (1, q3), (4, q3), (5, q23), (6, q24), (7, q2), (8, q24), (9, q24), (21, q3), (22, q2), (23, q2)], [(20, q7)]⟩
def whole_sum.c236869x0 : Shape := ⟨[(0, q3), (1, q3), (4, q3), (5, q23), (6, q24), (7, q2), (8, q24), (9, q24), (21, q3), (22, q2), (23, q2)], [(20, q7)]⟩
def whole_sum.c236869r : Ck := Ck.of (T := Int) whole_sum.c236869s (fun ρ x_ k_ => uP x_ fun a x_ => uP x_ fun b x_ => uP x_ fun t4 x_ => uP x_ fun c x_ => uP x_ fun i x_ => uP x_ fun x x_ => uP x_ fun y x_ => uP x_ fun t21 x_ => uP x_ fun t22 x_ => uP x_ fun t23 x_ => uP x_ fun t20 x_ => whole_sum.c236869 b i y k_) (fun ρ x_ r_ k_ => uP x_ fun a x_ => uP x_ fun b x_ => uP x_ fun t4 x_ => uP x_ fun c x_ => uP x_ fun i x_ => uP x_ fun x x_ => uP x_ fun y x_ => uP x_ fun t21 x_ => uP x_ fun t22 x_ => uP x_ fun t23 x_ => uP x_ fun t20 x_ => k_ 0 (Shape.inj whole_sum.c236869x0 (a, b, t4, c, i, x, r_, t21, t22, t23, t20, ())))
def whole_sum.c100006 {ρ : Type} (b : List (Int)) (c : Int) (t21 : List (Int)) (t22 : Int) (t23 : Int) (t20 : List (Int)) (k_ : ((Int) × (Int) × (List Int)) ⊕ ((Int) × (Int) × (List Int)) → Option ρ) : Option ρ :=
  br (decide (t23 < t22))
   (bnd (idx t21 t23) fun y =>
    bnd (W.whole_sum.c236869 b t23 (0 : Int) some) fun y_1 =>
    bnd (W.bits_Add32 y y_1 c) fun y_2 =>
    bnd (inR (List.length t20) t23) fun y_3 =>
    bnd (idx t20 t23) fun y_4 =>
    k_ (.inl ((Prod.snd y_2), (IntKind.wrap IntKind.i64 (t23 + (1 : Int))), (List.set t20 (Int.toNat t23) (Prod.fst y_2)))))
   (k_ (.inr (c, t23, t20)))
def whole_sum.c100006s : Shape := ⟨[(0, q3), (1, q3), (4, q3), (5, q23), (6, q24), (21, q3), (22, q2), (23, q2)], [(20, q7)]⟩
def whole_sum.c100006x0 : Shape := ⟨[(0, q3), (1, q3), (4, q3), (5, q23), (6, q24), (21, q3), (22, q2), (23, q2)], [(20, q7)]⟩
def whole_sum.c100006r : Ck := Ck.ofLoop (S := (Int) × (Int) × (List Int)) (T := (Int) × (Int) × (List Int)) whole_sum.c100006s (fun x_ => uP x_ fun a x_ => uP x_ fun b x_ => uP x_ fun t4 x_ => uP x_ fun c x_ => uP x_ fun t21 x_ => uP x_ fun t22 x_ => uP x_ fun t23 x_ => uP x_ fun t20 x_ => (c, t23, t20)) (fun ρ x_ s_ k_ => uP x_ fun a x_ => uP x_ fun b x_ => uP x_ fun t4 x_ => uP x_ fun c x_ => uP x_ fun t21 x_ => uP x_ fun t22 x_ => uP x_ fun t23 x_ => uP x_ fun t20 x_ => whole_sum.c100006 b s_.1 t21 t22 s_.2.1 s_.2.2 k_) (fun ρ x_ r_ k_ => uP x_ fun a x_ => uP x_ fun b x_ => uP x_ fun t4 x_ => uP x_ fun c x_ => uP x_ fun t21 x_ => uP x_ fun t22 x_ => uP x_ fun t23 x_ => uP x_ fun t20 x_ => k_ 2 (Shape.inj whole_sum.c100006x0 (a, b, t4, r_.1, t21, t22, r_.2.1, r_.2.2, ())))
def whole_sum (a : List (Int)) (b : List (Int)) : Option (List Int) :=
  bnd (W.whole_sum.c204101 a b some) fun y =>
  bnd (okIf (decide ((0 : Int) ≤ IntKind.wrap IntKind.i64 ((↑(List.length (Prod.fst y)) : Int) + (1 : Int))) && decide (IntKind.wrap IntKind.i64 ((↑(List.length (Prod.fst y)) : Int) + (1 : Int)) ≤ IntKind.wrap IntKind.i64 ((↑(List.length (Prod.fst y)) : Int) + (1 : Int))) && decide (IntKind.wrap IntKind.i64 ((↑(List.length (Prod.fst y)) : Int) + (1 : Int)) * (↑(4 : Nat) : Int) ≤ (140737488355328 : Int)) && decide (IntKind.wrap IntKind.i64 ((↑(List.length (Prod.fst y)) : Int) + (1 : Int)) ≤ (140737488355328 : Int)))) fun y_1 =>
  bnd (iter (fun s ↦ W.whole_sum.c100006 (Prod.snd y) (Prod.fst s) (Prod.fst y) (↑(List.length (Prod.fst y)) : Int) (Prod.fst (Prod.snd s)) (Prod.snd (Prod.snd s)) some) ((0 : Int), (0 : Int), List.replicate (Int.toNat (IntKind.wrap IntKind.i64 ((↑(List.length (Prod.fst y)) : Int) + (1 : Int)))) (0 : Int))) fun y_2 =>
  bnd (inR (List.length (Prod.snd (Prod.snd y_2))) (↑(List.length (Prod.fst y)) : Int)) fun y_3 =>
  bnd (idx (Prod.snd (Prod.snd y_2)) (↑(List.length (Prod.fst y)) : Int)) fun y_4 =>
  some (List.set (Prod.snd (Prod.snd y_2)) (Int.toNat (↑(List.length (Prod.fst y)) : Int)) (Prod.fst y_2))
def whole_sum.ce : Go.Ql.Callee := ⟨[(.sl (.int .u32)), (.sl (.int .u32))], [(.sl (.int .u32))], fun x_ => whole_sum x_.1 x_.2⟩
def whole_sum.G : Env := ⟨53, tab, [(79, bits_Add32.ce)], [0, 1, 4, 5, 6, 7, 8, 9, 14, 21, 22, 23, 24, 31], [20], [], [(100006, whole_sum.c100006r), (236869, whole_sum.c236869r), (204101, whole_sum.c204101r)], [], tab_eqs⟩
theorem whole_sum.eq (x_ : dens [(.sl (.int .u32)), (.sl (.int .u32))]) : den whole_sum.G Go.Proofs.Try.f56 [(.sl (.int .u32)), (.sl (.int .u32))] [(.sl (.int .u32))] x_ = whole_sum x_.1 x_.2 := by kernel_rfl
theorem whole_sum.p0 : PieceOk whole_sum.G (pieceAt (pieces whole_sum.G.cks (bodyOf Go.Proofs.Try.f56)) 0).1 (pieceAt (pieces whole_sum.G.cks (bodyOf Go.Proofs.Try.f56)) 0).2 :=
  join_ok (s := whole_sum.c204101r) (by kernel_rfl) (by kernel_rfl) (sums_of (sh := whole_sum.c204101s) (fun ρ x_ k_ => (nat_br nat_leaf nat_leaf)) (fun ρ x_ t k => (by kernel_rfl)) (fun x_ => by kernel_rfl))
theorem whole_sum.p1 : PieceOk whole_sum.G (pieceAt (pieces whole_sum.G.cks (bodyOf Go.Proofs.Try.f56)) 1).1 (pieceAt (pieces whole_sum.G.cks (bodyOf Go.Proofs.Try.f56)) 1).2 :=
  loop_ok (s := whole_sum.c100006r) (by kernel_rfl) (by kernel_rfl) (loops_of (sh := whole_sum.c100006s) (I := fun x_ s_ => (x_.1, x_.2.1, x_.2.2.1, s_.1, x_.2.2.2.2.1, x_.2.2.2.2.2.1, s_.2.1, s_.2.2, ())) (fun x_ => rfl) (fun ρ x_ s_ k_ => (nat_br (nat_bnd fun _ => (nat_bnd fun _ => (nat_bnd fun _ => (nat_bnd fun _ => (nat_bnd fun _ => nat_leaf))))) nat_leaf)) (fun ρ x_ t k => (by kernel_rfl)) (fun x_ s => by kernel_rfl))
theorem whole_sum.p2 : PieceOk whole_sum.G (pieceAt (pieces whole_sum.G.cks (bodyOf Go.Proofs.Try.f56)) 2).1 (pieceAt (pieces whole_sum.G.cks (bodyOf Go.Proofs.Try.f56)) 2).2 :=
  join_ok (s := whole_sum.c236869r) (by kernel_rfl) (by kernel_rfl) (sums_of (sh := whole_sum.c236869s) (fun ρ x_ k_ => (nat_br (nat_bnd fun _ => nat_leaf) nat_leaf)) (fun ρ x_ t k => (by kernel_rfl)) (fun x_ => by kernel_rfl))
theorem whole_sum.ok : CalleeOk Go.Proofs.Try.prog 56 whole_sum.ce := fn_ok (G := whole_sum.G) tab_ok mixed Go.Proofs.Try.func56 ⟨(fns_cons bits_Add32.ok fns_nil), mfns_nil, tab_eqs_ok⟩ (m := 3) (by kernel_rfl) ⟨⟨⟨trivial, whole_sum.p0⟩, whole_sum.p1⟩, whole_sum.p2⟩ (by kernel_rfl) whole_sum.eq
def cmp_isNaN_int (x : Int) : Option (Bool) :=
  some (x != x)
def cmp_isNaN_int.ce : Go.Ql.Callee := ⟨[(.int .i64)], [.bool], fun x_ => cmp_isNaN_int x_⟩
def cmp_isNaN_int.G : Env := ⟨6, tab, [], [0, 2], [], [], [], [], tab_eqs⟩
theorem cmp_isNaN_int.eq (x_ : dens [(.int .i64)]) : den cmp_isNaN_int.G Go.Proofs.Try.f82 [(.int .i64)] [.bool] x_ = cmp_isNaN_int x_ := by kernel_rfl
theorem cmp_isNaN_int.ok : CalleeOk Go.Proofs.Try.prog 82 cmp_isNaN_int.ce := fn_ok (G := cmp_isNaN_int.G) tab_ok mixed Go.Proofs.Try.func82 ⟨fns_nil, mfns_nil, tab_eqs_ok⟩ (m := 0) (by kernel_rfl) trivial (by kernel_rfl) cmp_isNaN_int.eq
def cmp_Compare_int (x : Int) (y : Int) : Option (Int) :=
  bnd (W.cmp_isNaN_int x) fun y_1 =>
  bnd (W.cmp_isNaN_int y) fun y_2 =>
  br y_1
   (br y_2
     (some (0 : Int))
     (some (-1 : Int)))
   (br y_2
     (some (1 : Int))
     (br (decide (x < y))
       (some (-1 : Int))
       (br (decide (x > y))
         (some (1 : Int))
         (some (0 : Int)))))
def cmp_Compare_int.ce : Go.Ql.Callee := ⟨[(.int .i64), (.int .i64)], [(.int .i64)], fun x_ => cmp_Compare_int x_.1 x_.2⟩
def cmp_Compare_int.G : Env := ⟨20, tab, [(82, cmp_isNaN_int.ce)], [0, 1, 4, 5, 6, 11, 12, 13, 16, 19], [], [], [], [], tab_eqs⟩
theorem cmp_Compare_int.eq (x_ : dens [(.int .i64), (.int .i64)]) : den cmp_Compare_int.G Go.Proofs.Try.f66 [(.int .i64), (.int .i64)] [(.int .i64)] x_ = cmp_Compare_int x_.1 x_.2 := by kernel_rfl
theorem cmp_Compare_int.ok : CalleeOk Go.Proofs.Try.prog 66 cmp_Compare_int.ce := fn_ok (G := cmp_Compare_int.G) tab_ok mixed Go.Proofs.Try.func66 ⟨(fns_cons cmp_isNaN_int.ok fns_nil), mfns_nil, tab_eqs_ok⟩ (m := 0) (by kernel_rfl) trivial (by kernel_rfl) cmp_Compare_int.eq
def cmp_isNaN_uint32 (x : Int) : Option (Bool) :=
  some (x != x)
def cmp_isNaN_uint32.ce : Go.Ql.Callee := ⟨[(.int .u32)], [.bool], fun x_ => cmp_isNaN_uint32 x_⟩
def cmp_isNaN_uint32.G : Env := ⟨6, tab, [], [0, 2], [], [], [], [], tab_eqs⟩
theorem cmp_isNaN_uint32.eq (x_ : dens [(.int .u32)]) : den cmp_isNaN_uint32.G Go.Proofs.Try.f88 [(.int .u32)] [.bool] x_ = cmp_isNaN_uint32 x_ := by kernel_rfl
theorem cmp_isNaN_uint32.ok : CalleeOk Go.Proofs.Try.prog 88 cmp_isNaN_uint32.ce := fn_ok (G := cmp_isNaN_uint32.G) tab_ok mixed Go.Proofs.Try.func88 ⟨fns_nil, mfns_nil, tab_eqs_ok⟩ (m := 0) (by kernel_rfl) trivial (by kernel_rfl) cmp_isNaN_uint32.eq
def cmp_Compare_uint32 (x : Int) (y : Int) : Option (Int) :=
  bnd (W.cmp_isNaN_uint32 x) fun y_1 =>
  bnd (W.cmp_isNaN_uint32 y) fun y_2 =>
  br y_1
   (br y_2
     (some (0 : Int))
     (some (-1 : Int)))
   (br y_2
     (some (1 : Int))
     (br (decide (x < y))
       (some (-1 : Int))
       (br (decide (x > y))
         (some (1 : Int))
         (some (0 : Int)))))
def cmp_Compare_uint32.ce : Go.Ql.Callee := ⟨[(.int .u32), (.int .u32)], [(.int .i64)], fun x_ => cmp_Compare_uint32 x_.1 x_.2⟩
def cmp_Compare_uint32.G : Env := ⟨20, tab, [(88, cmp_isNaN_uint32.ce)], [0, 1, 4, 5, 6, 11, 12, 13, 16, 19], [], [], [], [], tab_eqs⟩
theorem cmp_Compare_uint32.eq (x_ : dens [(.int .u32), (.int .u32)]) : den cmp_Compare_uint32.G Go.Proofs.Try.f80 [(.int .u32), (.int .u32)] [(.int .i64)] x_ = cmp_Compare_uint32 x_.1 x_.2 := by kernel_rfl
theorem cmp_Compare_uint32.ok : CalleeOk Go.Proofs.Try.prog 80 cmp_Compare_uint32.ce := fn_ok (G := cmp_Compare_uint32.G) tab_ok mixed Go.Proofs.Try.func80 ⟨(fns_cons cmp_isNaN_uint32.ok fns_nil), mfns_nil, tab_eqs_ok⟩ (m := 0) (by kernel_rfl) trivial (by kernel_rfl) cmp_Compare_uint32.eq
def whole_order.c7 {ρ : Type} (a : List (Int)) (b : List (Int)) (i : Int) (k_ : Int → Option ρ) : Option ρ :=
  bnd (idx a i) fun y =>
  bnd (idx b i) fun y_1 =>
  bnd (W.cmp_Compare_uint32 y y_1) fun y_2 =>
  k_ y_2
def whole_order.c7s : Shape := ⟨[(0, q3), (1, q3), (4, q2), (5, q2), (6, q2)], []⟩
def whole_order.c7x0 : Shape := ⟨[(0, q3), (1, q3), (4, q2), (5, q2), (6, q2), (7, q2)], []⟩
def whole_order.c7r : Ck := Ck.of (T := Int) whole_order.c7s (fun ρ x_ k_ => uP x_ fun a x_ => uP x_ fun b x_ => uP x_ fun t4 x_ => uP x_ fun c x_ => uP x_ fun i x_ => whole_order.c7 a b i k_) (fun ρ x_ r_ k_ => uP x_ fun a x_ => uP x_ fun b x_ => uP x_ fun t4 x_ => uP x_ fun c x_ => uP x_ fun i x_ => k_ 0 (Shape.inj whole_order.c7x0 (a, b, t4, c, i, r_, ())))
def whole_order.c100005 {ρ : Type} (a : List (Int)) (b : List (Int)) (i : Int) (k_ : (Int) ⊕ (((Int) × (Int)) ⊕ (Int)) → Option ρ) : Option ρ :=
  br (decide (i ≥ (0 : Int)))
   (bnd (W.whole_order.c7 a b i some) fun y =>
    br (y != (0 : Int))
     (k_ (.inr (.inl (y, i))))
     (k_ (.inl (IntKind.wrap IntKind.i64 (i - (1 : Int))))))
   (k_ (.inr (.inr i)))
def whole_order.c100005s : Shape := ⟨[(0, q3), (1, q3), (4, q2), (5, q2), (6, q2)], []⟩
def whole_order.c100005x0 : Shape := ⟨[(0, q3), (1, q3), (4, q2), (5, q2), (6, q2)], []⟩
def whole_order.c100005x1 : Shape := ⟨[(0, q3), (1, q3), (4, q2), (5, q2), (6, q2)], []⟩
def whole_order.c100005r : Ck := Ck.ofLoop (S := Int) (T := ((Int) × (Int)) ⊕ (Int)) whole_order.c100005s (fun x_ => uP x_ fun a x_ => uP x_ fun b x_ => uP x_ fun t4 x_ => uP x_ fun c x_ => uP x_ fun i x_ => i) (fun ρ x_ s_ k_ => uP x_ fun a x_ => uP x_ fun b x_ => uP x_ fun t4 x_ => uP x_ fun c x_ => uP x_ fun i x_ => whole_order.c100005 a b s_ k_) (fun ρ x_ r_ k_ => uP x_ fun a x_ => uP x_ fun b x_ => uP x_ fun t4 x_ => uP x_ fun c x_ => uP x_ fun i x_ => sel r_ (fun r_ => k_ 1 (Shape.inj whole_order.c100005x0 (a, b, r_.1, c, r_.2, ()))) (fun r_ => k_ 2 (Shape.inj whole_order.c100005x1 (a, b, t4, c, r_, ()))))
def whole_order (a : List (Int)) (b : List (Int)) : Option (Int) :=
  bnd (W.cmp_Compare_int (↑(List.length a) : Int) (↑(List.length b) : Int)) fun y =>
  br (y != (0 : Int))
   (some y)
   (bnd (iter (fun s ↦ W.whole_order.c100005 a b s some) (IntKind.wrap IntKind.i64 ((↑(List.length a) : Int) - (1 : Int)))) fun y_1 =>
    sel y_1
     (fun u => some (Prod.fst u))
     (fun v => some (0 : Int)))
def whole_order.ce : Go.Ql.Callee := ⟨[(.sl (.int .u32)), (.sl (.int .u32))], [(.int .i64)], fun x_ => whole_order x_.1 x_.2⟩
def whole_order.G : Env := ⟨35, tab, [(66, cmp_Compare_int.ce), (80, cmp_Compare_uint32.ce)], [0, 1, 4, 5, 6, 7, 14, 20, 33], [], [(7, [⟨[], [], [24, 27, 28, 29, 30], []⟩, ⟨[], [], [23, 27, 28, 29, 30], []⟩, ⟨[0, 1], [], [27, 28, 29, 30], []⟩, ⟨[2, 0, 1], [], [27, 28, 29, 30], []⟩, ⟨[], [], [23, 24, 25, 26, 28], []⟩, ⟨[], [], [23, 24, 25, 26, 27], []⟩, ⟨[4, 5], [], [23, 24, 25, 26], []⟩, ⟨[6, 4, 5], [], [23, 24, 25, 26], []⟩, ⟨[3, 2, 0, 1, 7, 6, 4, 5], [], [], []⟩, ⟨[8, 3, 2, 0, 1, 7, 6, 4, 5], [], [], []⟩])], [(100005, whole_order.c100005r), (7, whole_order.c7r)], [], tab_eqs⟩
theorem whole_order.eq (x_ : dens [(.sl (.int .u32)), (.sl (.int .u32))]) : den whole_order.G Go.Proofs.Try.f57 [(.sl (.int .u32)), (.sl (.int .u32))] [(.int .i64)] x_ = whole_order x_.1 x_.2 := by kernel_rfl
theorem whole_order.p0 : PieceOk whole_order.G (pieceAt (pieces whole_order.G.cks (bodyOf Go.Proofs.Try.f57)) 0).1 (pieceAt (pieces whole_order.G.cks (bodyOf Go.Proofs.Try.f57)) 0).2 :=
  loop_ok (s := whole_order.c100005r) (by kernel_rfl) (by kernel_rfl) (loops_of (sh := whole_order.c100005s) (I := fun x_ s_ => (x_.1, x_.2.1, x_.2.2.1, x_.2.2.2.1, s_, ())) (fun x_ => rfl) (fun ρ x_ s_ k_ => (nat_br (nat_bnd fun _ => (nat_br nat_leaf nat_leaf)) nat_leaf)) (fun ρ x_ t k => (nat_sel (fun _ => (by kernel_rfl)) (fun _ => (by kernel_rfl)))) (fun x_ s => by kernel_rfl))
theorem whole_order.p1 : PieceOk whole_order.G (pieceAt (pieces whole_order.G.cks (bodyOf Go.Proofs.Try.f57)) 1).1 (pieceAt (pieces whole_order.G.cks (bodyOf Go.Proofs.Try.f57)) 1).2 :=
  region_ok (s := whole_order.c7r) (by kernel_rfl) (by kernel_rfl) (sums_of (sh := whole_order.c7s) (fun ρ x_ k_ => (nat_bnd fun _ => (nat_bnd fun _ => (nat_bnd fun _ => nat_leaf)))) (fun ρ x_ t k => (by kernel_rfl)) (fun x_ => by kernel_rfl))
theorem whole_order.ok : CalleeOk Go.Proofs.Try.prog 57 whole_order.ce := fn_ok (G := whole_order.G) tab_ok mixed Go.Proofs.Try.func57 ⟨(fns_cons cmp_Compare_int.ok (fns_cons cmp_Compare_uint32.ok fns_nil)), mfns_nil, tab_eqs_ok⟩ (m := 2) (by kernel_rfl) ⟨⟨trivial, whole_order.p0⟩, whole_order.p1⟩ (by kernel_rfl) whole_order.eq
def bits_Sub32 (x : Int) (y : Int) (borrow : Int) : Option ((Int) × (Int)) :=
  some (IntKind.wrap IntKind.u32 (IntKind.wrap IntKind.u32 (x - y) - borrow), Int.fdiv (ibits BinOp.or IntKind.u32 (ibits BinOp.and IntKind.u32 (ibits BinOp.xor IntKind.u32 (Int.ofNat (nat_lit 2 ^ (32 : Nat) - Nat.succ (nat_lit 0))) x) y) (ibits BinOp.and IntKind.u32 (ibits BinOp.xor IntKind.u32 (Int.ofNat (nat_lit 2 ^ (32 : Nat) - Nat.succ (nat_lit 0))) (ibits BinOp.xor IntKind.u32 x y)) (IntKind.wrap IntKind.u32 (IntKind.wrap IntKind.u32 (x - y) - borrow)))) ((2 : Int) ^ (31 : Nat)))
def bits_Sub32.ce : Go.Ql.Callee := ⟨[(.int .u32), (.int .u32), (.int .u32)], [(.int .u32), (.int .u32)], fun x_ => bits_Sub32 x_.1 x_.2.1 x_.2.2⟩
def bits_Sub32.G : Env := ⟨25, tab, [], [0, 1, 2, 6, 7], [], [], [], [], tab_eqs⟩
theorem bits_Sub32.eq (x_ : dens [(.int .u32), (.int .u32), (.int .u32)]) : den bits_Sub32.G Go.Proofs.Try.f81 [(.int .u32), (.int .u32), (.int .u32)] [(.int .u32), (.int .u32)] x_ = bits_Sub32 x_.1 x_.2.1 x_.2.2 := by kernel_rfl
theorem bits_Sub32.ok : CalleeOk Go.Proofs.Try.prog 81 bits_Sub32.ce := fn_ok (G := bits_Sub32.G) tab_ok mixed Go.Proofs.Try.func81 ⟨fns_nil, mfns_nil, tab_eqs_ok⟩ (m := 0) (by kernel_rfl) trivial (by kernel_rfl) bits_Sub32.eq
abbrev q25 : SD := .one (.own 12 0)
def whole_less.c228677 {ρ : Type} (b : List (Int)) (i : Int) (y : Int) (k_ : Int → Option ρ) : Option ρ :=
  br (decide (i < (↑(List.length b) : Int)))
   (bnd (idx b i) fun y_1 =>
    k_ y_1)
   (k_ y)
def whole_less.c228677s : Shape := ⟨[(0, q3), (1, q3), (4, q3), (5, q25), (6, q24), (7, q2), (8, q24), (9, q24), (13, q3), (14, q2), (15, q2)], [(12, q7)]⟩
def whole_less.c228677x0 : Shape := ⟨[(0, q3), (1, q3), (4, q3), (5, q25), (6, q24), (7, q2), (8, q24), (9, q24), (13, q3), (14, q2), (15, q2)], [(12, q7)]⟩
def whole_less.c228677r : Ck := Ck.of (T := Int) whole_less.c228677s (fun ρ x_ k_ => uP x_ fun a x_ => uP x_ fun b x_ => uP x_ fun t4 x_ => uP x_ fun c x_ => uP x_ fun i x_ => uP x_ fun x x_ => uP x_ fun y x_ => uP x_ fun t13 x_ => uP x_ fun t14 x_ => uP x_ fun t15 x_ => uP x_ fun t12 x_ => whole_less.c228677 b i y k_) (fun ρ x_ r_ k_ => uP x_ fun a x_ => uP x_ fun b x_ => uP x_ fun t4 x_ => uP x_ fun c x_ => uP x_ fun i x_ => uP x_ fun x x_ => uP x_ fun y x_ => uP x_ fun t13 x_ => uP x_ fun t14 x_ => uP x_ fun t15 x_ => uP x_ fun t12 x_ => k_ 0 (Shape.inj whole_less.c228677x0 (a, b, t4, c, i, x, r_, t13, t14, t15, t12, ())))
def whole_less.c100004 {ρ : Type} (b : List (Int)) (c : Int) (t13 : List (Int)) (t14 : Int) (t15 : Int) (t12 : List (Int)) (k_ : ((Int) × (Int) × (List Int)) ⊕ ((Int) × (Int) × (List Int)) → Option ρ) : Option ρ :=
  br (decide (t15 < t14))
   (bnd (idx t13 t15) fun y =>
    bnd (W.whole_less.c228677 b t15 (0 : Int) some) fun y_1 =>
    bnd (W.bits_Sub32 y y_1 c) fun y_2 =>
    bnd (inR (List.length t12) t15) fun y_3 =>
    bnd (idx t12 t15) fun y_4 =>
    k_ (.inl ((Prod.snd y_2), (IntKind.wrap IntKind.i64 (t15 + (1 : Int))), (List.set t12 (Int.toNat t15) (Prod.fst y_2)))))
   (k_ (.inr (c, t15, t12)))
def whole_less.c100004s : Shape := ⟨[(0, q3), (1, q3), (4, q3), (5, q25), (6, q24), (13, q3), (14, q2), (15, q2)], [(12, q7)]⟩
def whole_less.c100004x0 : Shape := ⟨[(0, q3), (1, q3), (4, q3), (5, q25), (6, q24), (13, q3), (14, q2), (15, q2)], [(12, q7)]⟩
def whole_less.c100004r : Ck := Ck.ofLoop (S := (Int) × (Int) × (List Int)) (T := (Int) × (Int) × (List Int)) whole_less.c100004s (fun x_ => uP x_ fun a x_ => uP x_ fun b x_ => uP x_ fun t4 x_ => uP x_ fun c x_ => uP x_ fun t13 x_ => uP x_ fun t14 x_ => uP x_ fun t15 x_ => uP x_ fun t12 x_ => (c, t15, t12)) (fun ρ x_ s_ k_ => uP x_ fun a x_ => uP x_ fun b x_ => uP x_ fun t4 x_ => uP x_ fun c x_ => uP x_ fun t13 x_ => uP x_ fun t14 x_ => uP x_ fun t15 x_ => uP x_ fun t12 x_ => whole_less.c100004 b s_.1 t13 t14 s_.2.1 s_.2.2 k_) (fun ρ x_ r_ k_ => uP x_ fun a x_ => uP x_ fun b x_ => uP x_ fun t4 x_ => uP x_ fun c x_ => uP x_ fun t13 x_ => uP x_ fun t14 x_ => uP x_ fun t15 x_ => uP x_ fun t12 x_ => k_ 2 (Shape.inj whole_less.c100004x0 (a, b, t4, r_.1, t13, t14, r_.2.1, r_.2.2, ())))
def whole_less (a : List (Int)) (b : List (Int)) : Option (List Int) :=
  bnd (okIf (decide ((0 : Int) ≤ (↑(List.length a) : Int)) && decide ((↑(List.length a) : Int) ≤ (↑(List.length a) : Int)) && decide ((↑(List.length a) : Int) * (↑(4 : Nat) : Int) ≤ (140737488355328 : Int)) && decide ((↑(List.length a) : Int) ≤ (140737488355328 : Int)))) fun y =>
  bnd (iter (fun s ↦ W.whole_less.c100004 b (Prod.fst s) a (↑(List.length a) : Int) (Prod.fst (Prod.snd s)) (Prod.snd (Prod.snd s)) some) ((0 : Int), (0 : Int), List.replicate (Int.toNat (↑(List.length a) : Int)) (0 : Int))) fun y_1 =>
  some (Prod.snd (Prod.snd y_1))
def whole_less.ce : Go.Ql.Callee := ⟨[(.sl (.int .u32)), (.sl (.int .u32))], [(.sl (.int .u32))], fun x_ => whole_less x_.1 x_.2⟩
def whole_less.G : Env := ⟨40, tab, [(81, bits_Sub32.ce)], [0, 1, 4, 5, 6, 7, 8, 9, 13, 14, 15, 16, 23], [12], [], [(100004, whole_less.c100004r), (228677, whole_less.c228677r)], [], tab_eqs⟩
theorem whole_less.eq (x_ : dens [(.sl (.int .u32)), (.sl (.int .u32))]) : den whole_less.G Go.Proofs.Try.f58 [(.sl (.int .u32)), (.sl (.int .u32))] [(.sl (.int .u32))] x_ = whole_less x_.1 x_.2 := by kernel_rfl
theorem whole_less.p0 : PieceOk whole_less.G (pieceAt (pieces whole_less.G.cks (bodyOf Go.Proofs.Try.f58)) 0).1 (pieceAt (pieces whole_less.G.cks (bodyOf Go.Proofs.Try.f58)) 0).2 :=
  loop_ok (s := whole_less.c100004r) (by kernel_rfl) (by kernel_rfl) (loops_of (sh := whole_less.c100004s) (I := fun x_ s_ => (x_.1, x_.2.1, x_.2.2.1, s_.1, x_.2.2.2.2.1, x_.2.2.2.2.2.1, s_.2.1, s_.2.2, ())) (fun x_ => rfl) (fun ρ x_ s_ k_ => (nat_br (nat_bnd fun _ => (nat_bnd fun _ => (nat_bnd fun _ => (nat_bnd fun _ => (nat_bnd fun _ => nat_leaf))))) nat_leaf)) (fun ρ x_ t k => (by kernel_rfl)) (fun x_ s => by kernel_rfl))
theorem whole_less.p1 : PieceOk whole_less.G (pieceAt (pieces whole_less.G.cks (bodyOf Go.Proofs.Try.f58)) 1).1 (pieceAt (pieces whole_less.G.cks (bodyOf Go.Proofs.Try.f58)) 1).2 :=
  join_ok (s := whole_less.c228677r) (by kernel_rfl) (by kernel_rfl) (sums_of (sh := whole_less.c228677s) (fun ρ x_ k_ => (nat_br (nat_bnd fun _ => nat_leaf) nat_leaf)) (fun ρ x_ t k => (by kernel_rfl)) (fun x_ => by kernel_rfl))
theorem whole_less.ok : CalleeOk Go.Proofs.Try.prog 58 whole_less.ce := fn_ok (G := whole_less.G) tab_ok mixed Go.Proofs.Try.func58 ⟨(fns_cons bits_Sub32.ok fns_nil), mfns_nil, tab_eqs_ok⟩ (m := 2) (by kernel_rfl) ⟨⟨trivial, whole_less.p0⟩, whole_less.p1⟩ (by kernel_rfl) whole_less.eq
def whole_Int_Add.c2 {ρ : Type} (a0 : Bool) (a1 : List (Int)) (b1 : List (Int)) (k_ : (Bool) × (List Int) → Option ρ) : Option ρ :=
  bnd (W.whole_sum a1 b1) fun y =>
  bnd (W.whole_made a0 y) fun y_1 =>
  k_ ((Prod.fst y_1), (Prod.snd y_1))
def whole_Int_Add.c2s : Shape := ⟨[(0, q20), (1, q20), (2, q10), (3, q11), (4, q8)], [(2, q9), (3, q9), (4, q9)]⟩
def whole_Int_Add.c2x0 : Shape := ⟨[(0, q20), (1, q20), (2, q10), (3, q11), (4, q8)], [(2, q9), (3, q9), (4, q9)]⟩
def whole_Int_Add.c2r : Ck := Ck.of (T := (Bool) × (List Int)) whole_Int_Add.c2s (fun ρ x_ k_ => uP x_ fun a x_ => uP x_ fun b x_ => uP x_ fun a0 x_ => uP x_ fun a1 x_ => uP x_ fun b0 x_ => uP x_ fun b1 x_ => uP x_ fun t40 x_ => uP x_ fun t41 x_ => whole_Int_Add.c2 a0 a1 b1 k_) (fun ρ x_ r_ k_ => uP x_ fun a x_ => uP x_ fun b x_ => uP x_ fun a0 x_ => uP x_ fun a1 x_ => uP x_ fun b0 x_ => uP x_ fun b1 x_ => uP x_ fun t40 x_ => uP x_ fun t41 x_ => k_ 0 (Shape.inj whole_Int_Add.c2x0 (a, b, a0, a1, b0, b1, r_.1, r_.2, ())))
def whole_Int_Add.c4 {ρ : Type} (a0 : Bool) (a1 : List (Int)) (b1 : List (Int)) (k_ : (Bool) × (List Int) → Option ρ) : Option ρ :=
  bnd (W.whole_less a1 b1) fun y =>
  bnd (W.whole_made a0 y) fun y_1 =>
  k_ ((Prod.fst y_1), (Prod.snd y_1))
def whole_Int_Add.c4s : Shape := ⟨[(0, q20), (1, q20), (2, q10), (3, q11), (4, q8)], [(2, q9), (3, q9), (4, q9)]⟩
def whole_Int_Add.c4x0 : Shape := ⟨[(0, q20), (1, q20), (2, q10), (3, q11), (4, q8)], [(2, q9), (3, q9), (4, q9)]⟩
def whole_Int_Add.c4r : Ck := Ck.of (T := (Bool) × (List Int)) whole_Int_Add.c4s (fun ρ x_ k_ => uP x_ fun a x_ => uP x_ fun b x_ => uP x_ fun a0 x_ => uP x_ fun a1 x_ => uP x_ fun b0 x_ => uP x_ fun b1 x_ => uP x_ fun t40 x_ => uP x_ fun t41 x_ => whole_Int_Add.c4 a0 a1 b1 k_) (fun ρ x_ r_ k_ => uP x_ fun a x_ => uP x_ fun b x_ => uP x_ fun a0 x_ => uP x_ fun a1 x_ => uP x_ fun b0 x_ => uP x_ fun b1 x_ => uP x_ fun t40 x_ => uP x_ fun t41 x_ => k_ 0 (Shape.inj whole_Int_Add.c4x0 (a, b, a0, a1, b0, b1, r_.1, r_.2, ())))
def whole_Int_Add.c5 {ρ : Type} (a1 : List (Int)) (b0 : Bool) (b1 : List (Int)) (k_ : (Bool) × (List Int) → Option ρ) : Option ρ :=
  bnd (W.whole_less b1 a1) fun y =>
  bnd (W.whole_made b0 y) fun y_1 =>
  k_ ((Prod.fst y_1), (Prod.snd y_1))
def whole_Int_Add.c5s : Shape := ⟨[(0, q20), (1, q20), (2, q10), (3, q11), (4, q8)], [(2, q9), (3, q9), (4, q9)]⟩
def whole_Int_Add.c5x0 : Shape := ⟨[(0, q20), (1, q20), (2, q10), (3, q11), (4, q8)], [(2, q9), (3, q9), (4, q9)]⟩
def whole_Int_Add.c5r : Ck := Ck.of (T := (Bool) × (List Int)) whole_Int_Add.c5s (fun ρ x_ k_ => uP x_ fun a x_ => uP x_ fun b x_ => uP x_ fun a0 x_ => uP x_ fun a1 x_ => uP x_ fun b0 x_ => uP x_ fun b1 x_ => uP x_ fun t40 x_ => uP x_ fun t41 x_ => whole_Int_Add.c5 a1 b0 b1 k_) (fun ρ x_ r_ k_ => uP x_ fun a x_ => uP x_ fun b x_ => uP x_ fun a0 x_ => uP x_ fun a1 x_ => uP x_ fun b0 x_ => uP x_ fun b1 x_ => uP x_ fun t40 x_ => uP x_ fun t41 x_ => k_ 0 (Shape.inj whole_Int_Add.c5x0 (a, b, a0, a1, b0, b1, r_.1, r_.2, ())))
def whole_Int_Add (a : (Bool) × (List Int)) (b : (Bool) × (List Int)) : Option ((Bool) × (List Int)) :=
  br (Prod.fst a == Prod.fst b)
   (bnd (W.whole_Int_Add.c2 (Prod.fst a) (Prod.snd a) (Prod.snd b) some) fun y =>
    some (Prod.fst y, Prod.snd y))
   (bnd (W.whole_order (Prod.snd a) (Prod.snd b)) fun y_1 =>
    br (decide (y_1 ≥ (0 : Int)))
     (bnd (W.whole_Int_Add.c4 (Prod.fst a) (Prod.snd a) (Prod.snd b) some) fun y_2 =>
      some (Prod.fst y_2, Prod.snd y_2))
     (bnd (W.whole_Int_Add.c5 (Prod.snd a) (Prod.fst b) (Prod.snd b) some) fun y_3 =>
      some (Prod.fst y_3, Prod.snd y_3)))
def whole_Int_Add.ce : Go.Ql.Callee := ⟨[(.st (.pair .bool (.sl (.int .u32)))), (.st (.pair .bool (.sl (.int .u32))))], [(.st (.pair .bool (.sl (.int .u32))))], fun x_ => whole_Int_Add x_.1 x_.2⟩
def whole_Int_Add.G : Env := ⟨40, tab, [(56, whole_sum.ce), (50, whole_made.ce), (57, whole_order.ce), (58, whole_less.ce)], [0, 1, 2, 3, 4, 9, 23], [], [(5, [⟨[], [], [34, 35, 36, 37, 38], []⟩, ⟨[0], [], [34, 35, 36, 37, 38], []⟩, ⟨[], [], [32, 33, 36, 37], []⟩, ⟨[2], [], [32, 33, 36, 37], []⟩, ⟨[], [], [32, 33, 34, 35], []⟩, ⟨[4], [], [32, 33, 34, 35], []⟩, ⟨[3, 2, 5, 4], [], [32, 33], []⟩, ⟨[1, 0, 6, 3, 2, 5, 4], [], [], []⟩, ⟨[7, 1, 0, 6, 3, 2, 5, 4], [4], [], []⟩]),
  (4, [⟨[], [], [26, 27, 28, 29, 30], []⟩, ⟨[0], [], [26, 27, 28, 29, 30], []⟩, ⟨[], [], [24, 25, 28, 29], []⟩, ⟨[2], [], [24, 25, 28, 29], []⟩, ⟨[], [], [24, 25, 26, 27], []⟩, ⟨[4], [], [24, 25, 26, 27], []⟩, ⟨[3, 2, 5, 4], [], [24, 25], []⟩, ⟨[1, 0, 6, 3, 2, 5, 4], [], [], []⟩, ⟨[7, 1, 0, 6, 3, 2, 5, 4], [4], [], []⟩]),
  (2, [⟨[], [], [12, 13, 14, 15, 16], []⟩, ⟨[0], [], [12, 13, 14, 15, 16], []⟩, ⟨[], [], [10, 11, 14, 15], []⟩, ⟨[2], [], [10, 11, 14, 15], []⟩, ⟨[], [], [10, 11, 12, 13], []⟩, ⟨[4], [], [10, 11, 12, 13], []⟩, ⟨[3, 2, 5, 4], [], [10, 11], []⟩, ⟨[1, 0, 6, 3, 2, 5, 4], [], [], []⟩, ⟨[7, 1, 0, 6, 3, 2, 5, 4], [4], [], []⟩])], [(5, whole_Int_Add.c5r), (4, whole_Int_Add.c4r), (2, whole_Int_Add.c2r)], [], tab_eqs⟩
theorem whole_Int_Add.eq (x_ : dens [(.st (.pair .bool (.sl (.int .u32)))), (.st (.pair .bool (.sl (.int .u32))))]) : den whole_Int_Add.G Go.Proofs.Try.f11 [(.st (.pair .bool (.sl (.int .u32)))), (.st (.pair .bool (.sl (.int .u32))))] [(.st (.pair .bool (.sl (.int .u32))))] x_ = whole_Int_Add x_.1 x_.2 := by kernel_rfl
theorem whole_Int_Add.p0 : PieceOk whole_Int_Add.G (pieceAt (pieces whole_Int_Add.G.cks (bodyOf Go.Proofs.Try.f11)) 0).1 (pieceAt (pieces whole_Int_Add.G.cks (bodyOf Go.Proofs.Try.f11)) 0).2 :=
  region_ok (s := whole_Int_Add.c2r) (by kernel_rfl) (by kernel_rfl) (sums_of (sh := whole_Int_Add.c2s) (fun ρ x_ k_ => (nat_bnd fun _ => (nat_bnd fun _ => nat_leaf))) (fun ρ x_ t k => (by kernel_rfl)) (fun x_ => by kernel_rfl))
theorem whole_Int_Add.p1 : PieceOk whole_Int_Add.G (pieceAt (pieces whole_Int_Add.G.cks (bodyOf Go.Proofs.Try.f11)) 1).1 (pieceAt (pieces whole_Int_Add.G.cks (bodyOf Go.Proofs.Try.f11)) 1).2 :=
  region_ok (s := whole_Int_Add.c4r) (by kernel_rfl) (by kernel_rfl) (sums_of (sh := whole_Int_Add.c4s) (fun ρ x_ k_ => (nat_bnd fun _ => (nat_bnd fun _ => nat_leaf))) (fun ρ x_ t k => (by kernel_rfl)) (fun x_ => by kernel_rfl))
theorem whole_Int_Add.p2 : PieceOk whole_Int_Add.G (pieceAt (pieces whole_Int_Add.G.cks (bodyOf Go.Proofs.Try.f11)) 2).1 (pieceAt (pieces whole_Int_Add.G.cks (bodyOf Go.Proofs.Try.f11)) 2).2 :=
  region_ok (s := whole_Int_Add.c5r) (by kernel_rfl) (by kernel_rfl) (sums_of (sh := whole_Int_Add.c5s) (fun ρ x_ k_ => (nat_bnd fun _ => (nat_bnd fun _ => nat_leaf))) (fun ρ x_ t k => (by kernel_rfl)) (fun x_ => by kernel_rfl))
theorem whole_Int_Add.ok : CalleeOk Go.Proofs.Try.prog 11 whole_Int_Add.ce := fn_ok (G := whole_Int_Add.G) tab_ok mixed Go.Proofs.Try.func11 ⟨(fns_cons whole_sum.ok (fns_cons whole_made.ok (fns_cons whole_order.ok (fns_cons whole_less.ok fns_nil)))), mfns_nil, tab_eqs_ok⟩ (m := 3) (by kernel_rfl) ⟨⟨⟨trivial, whole_Int_Add.p0⟩, whole_Int_Add.p1⟩, whole_Int_Add.p2⟩ (by kernel_rfl) whole_Int_Add.eq
abbrev q26 : SD := .one (.own 5 0)
def R_dadd.c4 {ρ : Type} (a : List (Int)) (b : List (Int)) (c : Int) (i : Int) (k_ : Bool → Option ρ) : Option ρ :=
  br (decide (i < (↑(List.length a) : Int)))
   (k_ true)
   (br (decide (i < (↑(List.length b) : Int)))
     (k_ true)
     (k_ (decide (c > (0 : Int)))))
def R_dadd.c4s : Shape := ⟨[(0, q13), (1, q13), (4, q13), (5, q26), (6, q2), (7, q2)], [(5, q16)]⟩
def R_dadd.c4x0 : Shape := ⟨[(0, q13), (1, q13), (4, q13), (5, q26), (6, q2), (7, q2), (21, q1)], [(5, q16)]⟩
def R_dadd.c4r : Ck := Ck.of (T := Bool) R_dadd.c4s (fun ρ x_ k_ => uP x_ fun a x_ => uP x_ fun b x_ => uP x_ fun t4 x_ => uP x_ fun c x_ => uP x_ fun i x_ => uP x_ fun out x_ => R_dadd.c4 a b c i k_) (fun ρ x_ r_ k_ => uP x_ fun a x_ => uP x_ fun b x_ => uP x_ fun t4 x_ => uP x_ fun c x_ => uP x_ fun i x_ => uP x_ fun out x_ => k_ 0 (Shape.inj R_dadd.c4x0 (a, b, t4, c, i, r_, out, ())))
def R_dadd.c224581 {ρ : Type} (a : List (Int)) (c : Int) (i : Int) (k_ : Int → Option ρ) : Option ρ :=
  br (decide (i < (↑(List.length a) : Int)))
   (bnd (idx a i) fun y =>
    k_ (IntKind.wrap IntKind.i64 (c + y)))
   (k_ c)
def R_dadd.c224581s : Shape := ⟨[(0, q13), (1, q13), (4, q13), (5, q26), (6, q2), (7, q2)], [(5, q16)]⟩
def R_dadd.c224581x0 : Shape := ⟨[(0, q13), (1, q13), (4, q13), (5, q26), (6, q2), (7, q2)], [(5, q16)]⟩
def R_dadd.c224581r : Ck := Ck.of (T := Int) R_dadd.c224581s (fun ρ x_ k_ => uP x_ fun a x_ => uP x_ fun b x_ => uP x_ fun t4 x_ => uP x_ fun c x_ => uP x_ fun i x_ => uP x_ fun out x_ => R_dadd.c224581 a c i k_) (fun ρ x_ r_ k_ => uP x_ fun a x_ => uP x_ fun b x_ => uP x_ fun t4 x_ => uP x_ fun c x_ => uP x_ fun i x_ => uP x_ fun out x_ => k_ 0 (Shape.inj R_dadd.c224581x0 (a, b, t4, r_, i, out, ())))
def R_dadd.c232773 {ρ : Type} (b : List (Int)) (c : Int) (i : Int) (k_ : Int → Option ρ) : Option ρ :=
  br (decide (i < (↑(List.length b) : Int)))
   (bnd (idx b i) fun y =>
    k_ (IntKind.wrap IntKind.i64 (c + y)))
   (k_ c)
def R_dadd.c232773s : Shape := ⟨[(0, q13), (1, q13), (4, q13), (5, q26), (6, q2), (7, q2)], [(5, q16)]⟩
def R_dadd.c232773x0 : Shape := ⟨[(0, q13), (1, q13), (4, q13), (5, q26), (6, q2), (7, q2)], [(5, q16)]⟩
def R_dadd.c232773r : Ck := Ck.of (T := Int) R_dadd.c232773s (fun ρ x_ k_ => uP x_ fun a x_ => uP x_ fun b x_ => uP x_ fun t4 x_ => uP x_ fun c x_ => uP x_ fun i x_ => uP x_ fun out x_ => R_dadd.c232773 b c i k_) (fun ρ x_ r_ k_ => uP x_ fun a x_ => uP x_ fun b x_ => uP x_ fun t4 x_ => uP x_ fun c x_ => uP x_ fun i x_ => uP x_ fun out x_ => k_ 0 (Shape.inj R_dadd.c232773x0 (a, b, t4, r_, i, out, ())))
def R_dadd.c100004 {ρ : Type} (a : List (Int)) (b : List (Int)) (c : Int) (i : Int) (out : List (Int)) (k_ : ((Int) × (Int) × (List Int)) ⊕ ((Int) × (Int) × (List Int)) → Option ρ) : Option ρ :=
  bnd (W.R_dadd.c4 a b c i some) fun y =>
  br y
   (bnd (W.R_dadd.c224581 a c i some) fun y_1 =>
    bnd (W.R_dadd.c232773 b y_1 i some) fun y_2 =>
    bnd (okIf (decide ((List.length out + List.length [Int.tmod y_2 (10000 : Int)]) * (8 : Nat) ≤ (140737488355328 : Nat)) && decide (List.length out + List.length [Int.tmod y_2 (10000 : Int)] ≤ (140737488355328 : Nat)))) fun y_3 =>
    k_ (.inl ((IntKind.wrap IntKind.i64 (Int.tdiv y_2 (10000 : Int))), (IntKind.wrap IntKind.i64 (i + (1 : Int))), (out ++ [Int.tmod y_2 (10000 : Int)]))))
   (k_ (.inr (c, i, out)))
def R_dadd.c100004s : Shape := ⟨[(0, q13), (1, q13), (4, q13), (5, q26), (6, q2), (7, q2)], [(5, q16)]⟩
def R_dadd.c100004x0 : Shape := ⟨[(0, q13), (1, q13), (4, q13), (5, q26), (6, q2), (7, q2)], [(5, q16)]⟩
def R_dadd.c100004r : Ck := Ck.ofLoop (S := (Int) × (Int) × (List Int)) (T := (Int) × (Int) × (List Int)) R_dadd.c100004s (fun x_ => uP x_ fun a x_ => uP x_ fun b x_ => uP x_ fun t4 x_ => uP x_ fun c x_ => uP x_ fun i x_ => uP x_ fun out x_ => (c, i, out)) (fun ρ x_ s_ k_ => uP x_ fun a x_ => uP x_ fun b x_ => uP x_ fun t4 x_ => uP x_ fun c x_ => uP x_ fun i x_ => uP x_ fun out x_ => R_dadd.c100004 a b s_.1 s_.2.1 s_.2.2 k_) (fun ρ x_ r_ k_ => uP x_ fun a x_ => uP x_ fun b x_ => uP x_ fun t4 x_ => uP x_ fun c x_ => uP x_ fun i x_ => uP x_ fun out x_ => k_ 2 (Shape.inj R_dadd.c100004x0 (a, b, t4, r_.1, r_.2.1, r_.2.2, ())))
def R_dadd (a : List (Int)) (b : List (Int)) : Option (List Int) :=
  bnd (iter (fun s ↦ W.R_dadd.c100004 a b (Prod.fst s) (Prod.fst (Prod.snd s)) (Prod.snd (Prod.snd s)) some) ((0 : Int), (0 : Int), [])) fun y =>
  some (Prod.snd (Prod.snd y))
def R_dadd.ce : Go.Ql.Callee := ⟨[(.sl (.int .i64)), (.sl (.int .i64))], [(.sl (.int .i64))], fun x_ => R_dadd x_.1 x_.2⟩
def R_dadd.G : Env := ⟨52, tab, [], [0, 1, 4, 5, 6, 7, 21, 27, 37], [5], [], [(100004, R_dadd.c100004r), (232773, R_dadd.c232773r), (224581, R_dadd.c224581r), (4, R_dadd.c4r)], [], tab_eqs⟩
theorem R_dadd.eq (x_ : dens [(.sl (.int .i64)), (.sl (.int .i64))]) : den R_dadd.G Go.Proofs.Try.f62 [(.sl (.int .i64)), (.sl (.int .i64))] [(.sl (.int .i64))] x_ = R_dadd x_.1 x_.2 := by kernel_rfl
theorem R_dadd.p0 : PieceOk R_dadd.G (pieceAt (pieces R_dadd.G.cks (bodyOf Go.Proofs.Try.f62)) 0).1 (pieceAt (pieces R_dadd.G.cks (bodyOf Go.Proofs.Try.f62)) 0).2 :=
  loop_ok (s := R_dadd.c100004r) (by kernel_rfl) (by kernel_rfl) (loops_of (sh := R_dadd.c100004s) (I := fun x_ s_ => (x_.1, x_.2.1, x_.2.2.1, s_.1, s_.2.1, s_.2.2, ())) (fun x_ => rfl) (fun ρ x_ s_ k_ => (nat_bnd fun _ => (nat_br (nat_bnd fun _ => (nat_bnd fun _ => (nat_bnd fun _ => nat_leaf))) nat_leaf))) (fun ρ x_ t k => (by kernel_rfl)) (fun x_ s => by kernel_rfl))
theorem R_dadd.p1 : PieceOk R_dadd.G (pieceAt (pieces R_dadd.G.cks (bodyOf Go.Proofs.Try.f62)) 1).1 (pieceAt (pieces R_dadd.G.cks (bodyOf Go.Proofs.Try.f62)) 1).2 :=
  region_ok (s := R_dadd.c4r) (by kernel_rfl) (by kernel_rfl) (sums_of (sh := R_dadd.c4s) (fun ρ x_ k_ => (nat_br nat_leaf (nat_br nat_leaf nat_leaf))) (fun ρ x_ t k => (by kernel_rfl)) (fun x_ => by kernel_rfl))
theorem R_dadd.p2 : PieceOk R_dadd.G (pieceAt (pieces R_dadd.G.cks (bodyOf Go.Proofs.Try.f62)) 2).1 (pieceAt (pieces R_dadd.G.cks (bodyOf Go.Proofs.Try.f62)) 2).2 :=
  join_ok (s := R_dadd.c224581r) (by kernel_rfl) (by kernel_rfl) (sums_of (sh := R_dadd.c224581s) (fun ρ x_ k_ => (nat_br (nat_bnd fun _ => nat_leaf) nat_leaf)) (fun ρ x_ t k => (by kernel_rfl)) (fun x_ => by kernel_rfl))
theorem R_dadd.p3 : PieceOk R_dadd.G (pieceAt (pieces R_dadd.G.cks (bodyOf Go.Proofs.Try.f62)) 3).1 (pieceAt (pieces R_dadd.G.cks (bodyOf Go.Proofs.Try.f62)) 3).2 :=
  join_ok (s := R_dadd.c232773r) (by kernel_rfl) (by kernel_rfl) (sums_of (sh := R_dadd.c232773s) (fun ρ x_ k_ => (nat_br (nat_bnd fun _ => nat_leaf) nat_leaf)) (fun ρ x_ t k => (by kernel_rfl)) (fun x_ => by kernel_rfl))
theorem R_dadd.ok : CalleeOk Go.Proofs.Try.prog 62 R_dadd.ce := fn_ok (G := R_dadd.G) tab_ok mixed Go.Proofs.Try.func62 ⟨fns_nil, mfns_nil, tab_eqs_ok⟩ (m := 4) (by kernel_rfl) ⟨⟨⟨⟨trivial, R_dadd.p0⟩, R_dadd.p1⟩, R_dadd.p2⟩, R_dadd.p3⟩ (by kernel_rfl) R_dadd.eq
def R_dcmp.c8 {ρ : Type} (a : List (Int)) (b : List (Int)) (i : Int) (k_ : Bool → Option ρ) : Option ρ :=
  bnd (idx a i) fun y =>
  bnd (idx b i) fun y_1 =>
  k_ (decide (y < y_1))
def R_dcmp.c8s : Shape := ⟨[(0, q13), (1, q13), (4, q2), (5, q2)], []⟩
def R_dcmp.c8x0 : Shape := ⟨[(0, q13), (1, q13), (4, q2), (5, q2), (31, q1)], []⟩
def R_dcmp.c8r : Ck := Ck.of (T := Bool) R_dcmp.c8s (fun ρ x_ k_ => uP x_ fun a x_ => uP x_ fun b x_ => uP x_ fun t4 x_ => uP x_ fun i x_ => R_dcmp.c8 a b i k_) (fun ρ x_ r_ k_ => uP x_ fun a x_ => uP x_ fun b x_ => uP x_ fun t4 x_ => uP x_ fun i x_ => k_ 0 (Shape.inj R_dcmp.c8x0 (a, b, t4, i, r_, ())))
def R_dcmp.c10 {ρ : Type} (a : List (Int)) (b : List (Int)) (i : Int) (k_ : Bool → Option ρ) : Option ρ :=
  bnd (idx a i) fun y =>
  bnd (idx b i) fun y_1 =>
  k_ (decide (y > y_1))
def R_dcmp.c10s : Shape := ⟨[(0, q13), (1, q13), (4, q2), (5, q2)], []⟩
def R_dcmp.c10x0 : Shape := ⟨[(0, q13), (1, q13), (4, q2), (5, q2), (40, q1)], []⟩
def R_dcmp.c10r : Ck := Ck.of (T := Bool) R_dcmp.c10s (fun ρ x_ k_ => uP x_ fun a x_ => uP x_ fun b x_ => uP x_ fun t4 x_ => uP x_ fun i x_ => R_dcmp.c10 a b i k_) (fun ρ x_ r_ k_ => uP x_ fun a x_ => uP x_ fun b x_ => uP x_ fun t4 x_ => uP x_ fun i x_ => k_ 0 (Shape.inj R_dcmp.c10x0 (a, b, t4, i, r_, ())))
def R_dcmp.c100006 {ρ : Type} (a : List (Int)) (b : List (Int)) (i : Int) (k_ : (Int) ⊕ (((Int) × (Int)) ⊕ (Int)) → Option ρ) : Option ρ :=
  br (decide (i ≥ (0 : Int)))
   (bnd (W.R_dcmp.c8 a b i some) fun y =>
    br y
     (k_ (.inr (.inl ((-1 : Int), i))))
     (bnd (W.R_dcmp.c10 a b i some) fun y_1 =>
      br y_1
       (k_ (.inr (.inl ((1 : Int), i))))
       (k_ (.inl (IntKind.wrap IntKind.i64 (i - (1 : Int)))))))
   (k_ (.inr (.inr i)))
def R_dcmp.c100006s : Shape := ⟨[(0, q13), (1, q13), (4, q2), (5, q2)], []⟩
def R_dcmp.c100006x0 : Shape := ⟨[(0, q13), (1, q13), (4, q2), (5, q2)], []⟩
def R_dcmp.c100006x1 : Shape := ⟨[(0, q13), (1, q13), (4, q2), (5, q2)], []⟩
def R_dcmp.c100006r : Ck := Ck.ofLoop (S := Int) (T := ((Int) × (Int)) ⊕ (Int)) R_dcmp.c100006s (fun x_ => uP x_ fun a x_ => uP x_ fun b x_ => uP x_ fun t4 x_ => uP x_ fun i x_ => i) (fun ρ x_ s_ k_ => uP x_ fun a x_ => uP x_ fun b x_ => uP x_ fun t4 x_ => uP x_ fun i x_ => R_dcmp.c100006 a b s_ k_) (fun ρ x_ r_ k_ => uP x_ fun a x_ => uP x_ fun b x_ => uP x_ fun t4 x_ => uP x_ fun i x_ => sel r_ (fun r_ => k_ 1 (Shape.inj R_dcmp.c100006x0 (a, b, r_.1, r_.2, ()))) (fun r_ => k_ 2 (Shape.inj R_dcmp.c100006x1 (a, b, t4, r_, ()))))
def R_dcmp (a : List (Int)) (b : List (Int)) : Option (Int) :=
  br ((↑(List.length a) : Int) != (↑(List.length b) : Int))
   (br (decide ((↑(List.length a) : Int) < (↑(List.length b) : Int)))
     (some (-1 : Int))
     (some (1 : Int)))
   (bnd (iter (fun s ↦ W.R_dcmp.c100006 a b s some) (IntKind.wrap IntKind.i64 ((↑(List.length a) : Int) - (1 : Int)))) fun y =>
    sel y
     (fun u => some (Prod.fst u))
     (fun v => some (0 : Int)))
def R_dcmp.ce : Go.Ql.Callee := ⟨[(.sl (.int .i64)), (.sl (.int .i64))], [(.int .i64)], fun x_ => R_dcmp x_.1 x_.2⟩
def R_dcmp.G : Env := ⟨41, tab, [], [0, 1, 4, 5, 10, 15, 20, 31, 40], [], [(10, [⟨[], [], [33, 36, 37, 38, 39], []⟩, ⟨[], [], [32, 36, 37, 38, 39], []⟩, ⟨[0, 1], [], [36, 37, 38, 39], []⟩, ⟨[2, 0, 1], [], [36, 37, 38, 39], []⟩, ⟨[], [], [32, 33, 34, 35, 37], []⟩, ⟨[], [], [32, 33, 34, 35, 36], []⟩, ⟨[4, 5], [], [32, 33, 34, 35], []⟩, ⟨[6, 4, 5], [], [32, 33, 34, 35], []⟩, ⟨[3, 2, 0, 1, 7, 6, 4, 5], [], [], []⟩]),
  (8, [⟨[], [], [24, 27, 28, 29, 30], []⟩, ⟨[], [], [23, 27, 28, 29, 30], []⟩, ⟨[0, 1], [], [27, 28, 29, 30], []⟩, ⟨[2, 0, 1], [], [27, 28, 29, 30], []⟩, ⟨[], [], [23, 24, 25, 26, 28], []⟩, ⟨[], [], [23, 24, 25, 26, 27], []⟩, ⟨[4, 5], [], [23, 24, 25, 26], []⟩, ⟨[6, 4, 5], [], [23, 24, 25, 26], []⟩, ⟨[3, 2, 0, 1, 7, 6, 4, 5], [], [], []⟩])], [(100006, R_dcmp.c100006r), (10, R_dcmp.c10r), (8, R_dcmp.c8r)], [], tab_eqs⟩
theorem R_dcmp.eq (x_ : dens [(.sl (.int .i64)), (.sl (.int .i64))]) : den R_dcmp.G Go.Proofs.Try.f63 [(.sl (.int .i64)), (.sl (.int .i64))] [(.int .i64)] x_ = R_dcmp x_.1 x_.2 := by kernel_rfl
theorem R_dcmp.p0 : PieceOk R_dcmp.G (pieceAt (pieces R_dcmp.G.cks (bodyOf Go.Proofs.Try.f63)) 0).1 (pieceAt (pieces R_dcmp.G.cks (bodyOf Go.Proofs.Try.f63)) 0).2 :=
  loop_ok (s := R_dcmp.c100006r) (by kernel_rfl) (by kernel_rfl) (loops_of (sh := R_dcmp.c100006s) (I := fun x_ s_ => (x_.1, x_.2.1, x_.2.2.1, s_, ())) (fun x_ => rfl) (fun ρ x_ s_ k_ => (nat_br (nat_bnd fun _ => (nat_br nat_leaf (nat_bnd fun _ => (nat_br nat_leaf nat_leaf)))) nat_leaf)) (fun ρ x_ t k => (nat_sel (fun _ => (by kernel_rfl)) (fun _ => (by kernel_rfl)))) (fun x_ s => by kernel_rfl))
theorem R_dcmp.p1 : PieceOk R_dcmp.G (pieceAt (pieces R_dcmp.G.cks (bodyOf Go.Proofs.Try.f63)) 1).1 (pieceAt (pieces R_dcmp.G.cks (bodyOf Go.Proofs.Try.f63)) 1).2 :=
  region_ok (s := R_dcmp.c8r) (by kernel_rfl) (by kernel_rfl) (sums_of (sh := R_dcmp.c8s) (fun ρ x_ k_ => (nat_bnd fun _ => (nat_bnd fun _ => nat_leaf))) (fun ρ x_ t k => (by kernel_rfl)) (fun x_ => by kernel_rfl))
theorem R_dcmp.p2 : PieceOk R_dcmp.G (pieceAt (pieces R_dcmp.G.cks (bodyOf Go.Proofs.Try.f63)) 2).1 (pieceAt (pieces R_dcmp.G.cks (bodyOf Go.Proofs.Try.f63)) 2).2 :=
  region_ok (s := R_dcmp.c10r) (by kernel_rfl) (by kernel_rfl) (sums_of (sh := R_dcmp.c10s) (fun ρ x_ k_ => (nat_bnd fun _ => (nat_bnd fun _ => nat_leaf))) (fun ρ x_ t k => (by kernel_rfl)) (fun x_ => by kernel_rfl))
theorem R_dcmp.ok : CalleeOk Go.Proofs.Try.prog 63 R_dcmp.ce := fn_ok (G := R_dcmp.G) tab_ok mixed Go.Proofs.Try.func63 ⟨fns_nil, mfns_nil, tab_eqs_ok⟩ (m := 3) (by kernel_rfl) ⟨⟨⟨trivial, R_dcmp.p0⟩, R_dcmp.p1⟩, R_dcmp.p2⟩ (by kernel_rfl) R_dcmp.eq
def R_dsub.c228677 {ρ : Type} (b : List (Int)) (i : Int) (x : Int) (k_ : Int → Option ρ) : Option ρ :=
  br (decide (i < (↑(List.length b) : Int)))
   (bnd (idx b i) fun y =>
    k_ (IntKind.wrap IntKind.i64 (x - y)))
   (k_ x)
def R_dsub.c228677s : Shape := ⟨[(0, q13), (1, q13), (4, q13), (5, q26), (6, q2), (7, q2), (8, q2)], [(5, q16)]⟩
def R_dsub.c228677x0 : Shape := ⟨[(0, q13), (1, q13), (4, q13), (5, q26), (6, q2), (7, q2), (8, q2)], [(5, q16)]⟩
def R_dsub.c228677r : Ck := Ck.of (T := Int) R_dsub.c228677s (fun ρ x_ k_ => uP x_ fun a x_ => uP x_ fun b x_ => uP x_ fun t4 x_ => uP x_ fun c x_ => uP x_ fun i x_ => uP x_ fun x x_ => uP x_ fun out x_ => R_dsub.c228677 b i x k_) (fun ρ x_ r_ k_ => uP x_ fun a x_ => uP x_ fun b x_ => uP x_ fun t4 x_ => uP x_ fun c x_ => uP x_ fun i x_ => uP x_ fun x x_ => uP x_ fun out x_ => k_ 0 (Shape.inj R_dsub.c228677x0 (a, b, t4, c, i, r_, out, ())))
def R_dsub.c240967 {ρ : Type} (c : Int) (x : Int) (k_ : (Int) × (Int) → Option ρ) : Option ρ :=
  br (decide (x < (0 : Int)))
   (k_ ((1 : Int), (IntKind.wrap IntKind.i64 (x + (10000 : Int)))))
   (k_ (c, x))
def R_dsub.c240967s : Shape := ⟨[(0, q13), (1, q13), (4, q13), (5, q26), (6, q2), (7, q2), (8, q2)], [(5, q16)]⟩
def R_dsub.c240967x0 : Shape := ⟨[(0, q13), (1, q13), (4, q13), (5, q26), (6, q2), (7, q2), (8, q2)], [(5, q16)]⟩
def R_dsub.c240967r : Ck := Ck.of (T := (Int) × (Int)) R_dsub.c240967s (fun ρ x_ k_ => uP x_ fun a x_ => uP x_ fun b x_ => uP x_ fun t4 x_ => uP x_ fun c x_ => uP x_ fun i x_ => uP x_ fun x x_ => uP x_ fun out x_ => R_dsub.c240967 c x k_) (fun ρ x_ r_ k_ => uP x_ fun a x_ => uP x_ fun b x_ => uP x_ fun t4 x_ => uP x_ fun c x_ => uP x_ fun i x_ => uP x_ fun x x_ => uP x_ fun out x_ => k_ 0 (Shape.inj R_dsub.c240967x0 (a, b, t4, r_.1, i, r_.2, out, ())))
def R_dsub.c100004 {ρ : Type} (a : List (Int)) (b : List (Int)) (c : Int) (i : Int) (out : List (Int)) (k_ : ((Int) × (Int) × (List Int)) ⊕ ((Int) × (Int) × (List Int)) → Option ρ) : Option ρ :=
  br (decide (i < (↑(List.length a) : Int)))
   (bnd (idx a i) fun y =>
    bnd (W.R_dsub.c228677 b i (IntKind.wrap IntKind.i64 (y - c)) some) fun y_1 =>
    bnd (W.R_dsub.c240967 (0 : Int) y_1 some) fun y_2 =>
    bnd (okIf (decide ((List.length out + List.length [Prod.snd y_2]) * (8 : Nat) ≤ (140737488355328 : Nat)) && decide (List.length out + List.length [Prod.snd y_2] ≤ (140737488355328 : Nat)))) fun y_3 =>
    k_ (.inl ((Prod.fst y_2), (IntKind.wrap IntKind.i64 (i + (1 : Int))), (out ++ [Prod.snd y_2]))))
   (k_ (.inr (c, i, out)))
def R_dsub.c100004s : Shape := ⟨[(0, q13), (1, q13), (4, q13), (5, q26), (6, q2), (7, q2)], [(5, q16)]⟩
def R_dsub.c100004x0 : Shape := ⟨[(0, q13), (1, q13), (4, q13), (5, q26), (6, q2), (7, q2)], [(5, q16)]⟩
def R_dsub.c100004r : Ck := Ck.ofLoop (S := (Int) × (Int) × (List Int)) (T := (Int) × (Int) × (List Int)) R_dsub.c100004s (fun x_ => uP x_ fun a x_ => uP x_ fun b x_ => uP x_ fun t4 x_ => uP x_ fun c x_ => uP x_ fun i x_ => uP x_ fun out x_ => (c, i, out)) (fun ρ x_ s_ k_ => uP x_ fun a x_ => uP x_ fun b x_ => uP x_ fun t4 x_ => uP x_ fun c x_ => uP x_ fun i x_ => uP x_ fun out x_ => R_dsub.c100004 a b s_.1 s_.2.1 s_.2.2 k_) (fun ρ x_ r_ k_ => uP x_ fun a x_ => uP x_ fun b x_ => uP x_ fun t4 x_ => uP x_ fun c x_ => uP x_ fun i x_ => uP x_ fun out x_ => k_ 2 (Shape.inj R_dsub.c100004x0 (a, b, t4, r_.1, r_.2.1, r_.2.2, ())))
def R_dsub (a : List (Int)) (b : List (Int)) : Option (List Int) :=
  bnd (iter (fun s ↦ W.R_dsub.c100004 a b (Prod.fst s) (Prod.fst (Prod.snd s)) (Prod.snd (Prod.snd s)) some) ((0 : Int), (0 : Int), [])) fun y =>
  some (Prod.snd (Prod.snd y))
def R_dsub.ce : Go.Ql.Callee := ⟨[(.sl (.int .i64)), (.sl (.int .i64))], [(.sl (.int .i64))], fun x_ => R_dsub x_.1 x_.2⟩
def R_dsub.G : Env := ⟨40, tab, [], [0, 1, 4, 5, 6, 7, 8, 12, 24, 32], [5], [], [(100004, R_dsub.c100004r), (240967, R_dsub.c240967r), (228677, R_dsub.c228677r)], [], tab_eqs⟩
theorem R_dsub.eq (x_ : dens [(.sl (.int .i64)), (.sl (.int .i64))]) : den R_dsub.G Go.Proofs.Try.f64 [(.sl (.int .i64)), (.sl (.int .i64))] [(.sl (.int .i64))] x_ = R_dsub x_.1 x_.2 := by kernel_rfl
theorem R_dsub.p0 : PieceOk R_dsub.G (pieceAt (pieces R_dsub.G.cks (bodyOf Go.Proofs.Try.f64)) 0).1 (pieceAt (pieces R_dsub.G.cks (bodyOf Go.Proofs.Try.f64)) 0).2 :=
  loop_ok (s := R_dsub.c100004r) (by kernel_rfl) (by kernel_rfl) (loops_of (sh := R_dsub.c100004s) (I := fun x_ s_ => (x_.1, x_.2.1, x_.2.2.1, s_.1, s_.2.1, s_.2.2, ())) (fun x_ => rfl) (fun ρ x_ s_ k_ => (nat_br (nat_bnd fun _ => (nat_bnd fun _ => (nat_bnd fun _ => (nat_bnd fun _ => nat_leaf)))) nat_leaf)) (fun ρ x_ t k => (by kernel_rfl)) (fun x_ s => by kernel_rfl))
theorem R_dsub.p1 : PieceOk R_dsub.G (pieceAt (pieces R_dsub.G.cks (bodyOf Go.Proofs.Try.f64)) 1).1 (pieceAt (pieces R_dsub.G.cks (bodyOf Go.Proofs.Try.f64)) 1).2 :=
  join_ok (s := R_dsub.c228677r) (by kernel_rfl) (by kernel_rfl) (sums_of (sh := R_dsub.c228677s) (fun ρ x_ k_ => (nat_br (nat_bnd fun _ => nat_leaf) nat_leaf)) (fun ρ x_ t k => (by kernel_rfl)) (fun x_ => by kernel_rfl))
theorem R_dsub.p2 : PieceOk R_dsub.G (pieceAt (pieces R_dsub.G.cks (bodyOf Go.Proofs.Try.f64)) 2).1 (pieceAt (pieces R_dsub.G.cks (bodyOf Go.Proofs.Try.f64)) 2).2 :=
  join_ok (s := R_dsub.c240967r) (by kernel_rfl) (by kernel_rfl) (sums_of (sh := R_dsub.c240967s) (fun ρ x_ k_ => (nat_br nat_leaf nat_leaf)) (fun ρ x_ t k => (by kernel_rfl)) (fun x_ => by kernel_rfl))
theorem R_dsub.ok : CalleeOk Go.Proofs.Try.prog 64 R_dsub.ce := fn_ok (G := R_dsub.G) tab_ok mixed Go.Proofs.Try.func64 ⟨fns_nil, mfns_nil, tab_eqs_ok⟩ (m := 3) (by kernel_rfl) ⟨⟨⟨trivial, R_dsub.p0⟩, R_dsub.p1⟩, R_dsub.p2⟩ (by kernel_rfl) R_dsub.eq
abbrev q27 : SD := .one (.val (.st (.pair .bool (.sl (.int .i64)))))
def R_ZAdd.c6 {ρ : Type} (a0 : Bool) (a1 : List (Int)) (b1 : List (Int)) (k_ : (Bool) × (List Int) → Option ρ) : Option ρ :=
  bnd (W.R_dadd a1 b1) fun y =>
  bnd (W.R_zmade a0 y) fun y_1 =>
  k_ ((Prod.fst y_1), (Prod.snd y_1))
def R_ZAdd.c6s : Shape := ⟨[(0, q27), (1, q27), (2, q10), (3, q11), (4, q8)], [(2, q14), (3, q14), (4, q14)]⟩
def R_ZAdd.c6x0 : Shape := ⟨[(0, q27), (1, q27), (2, q10), (3, q11), (4, q8)], [(2, q14), (3, q14), (4, q14)]⟩
def R_ZAdd.c6r : Ck := Ck.of (T := (Bool) × (List Int)) R_ZAdd.c6s (fun ρ x_ k_ => uP x_ fun a x_ => uP x_ fun b x_ => uP x_ fun a0 x_ => uP x_ fun a1 x_ => uP x_ fun b0 x_ => uP x_ fun b1 x_ => uP x_ fun t40 x_ => uP x_ fun t41 x_ => R_ZAdd.c6 a0 a1 b1 k_) (fun ρ x_ r_ k_ => uP x_ fun a x_ => uP x_ fun b x_ => uP x_ fun a0 x_ => uP x_ fun a1 x_ => uP x_ fun b0 x_ => uP x_ fun b1 x_ => uP x_ fun t40 x_ => uP x_ fun t41 x_ => k_ 0 (Shape.inj R_ZAdd.c6x0 (a, b, a0, a1, b0, b1, r_.1, r_.2, ())))
def R_ZAdd.c8 {ρ : Type} (a0 : Bool) (a1 : List (Int)) (b1 : List (Int)) (k_ : (Bool) × (List Int) → Option ρ) : Option ρ :=
  bnd (W.R_dsub a1 b1) fun y =>
  bnd (W.R_zmade a0 y) fun y_1 =>
  k_ ((Prod.fst y_1), (Prod.snd y_1))
def R_ZAdd.c8s : Shape := ⟨[(0, q27), (1, q27), (2, q10), (3, q11), (4, q8)], [(2, q14), (3, q14), (4, q14)]⟩
def R_ZAdd.c8x0 : Shape := ⟨[(0, q27), (1, q27), (2, q10), (3, q11), (4, q8)], [(2, q14), (3, q14), (4, q14)]⟩
def R_ZAdd.c8r : Ck := Ck.of (T := (Bool) × (List Int)) R_ZAdd.c8s (fun ρ x_ k_ => uP x_ fun a x_ => uP x_ fun b x_ => uP x_ fun a0 x_ => uP x_ fun a1 x_ => uP x_ fun b0 x_ => uP x_ fun b1 x_ => uP x_ fun t40 x_ => uP x_ fun t41 x_ => R_ZAdd.c8 a0 a1 b1 k_) (fun ρ x_ r_ k_ => uP x_ fun a x_ => uP x_ fun b x_ => uP x_ fun a0 x_ => uP x_ fun a1 x_ => uP x_ fun b0 x_ => uP x_ fun b1 x_ => uP x_ fun t40 x_ => uP x_ fun t41 x_ => k_ 0 (Shape.inj R_ZAdd.c8x0 (a, b, a0, a1, b0, b1, r_.1, r_.2, ())))
def R_ZAdd.c9 {ρ : Type} (a1 : List (Int)) (b0 : Bool) (b1 : List (Int)) (k_ : (Bool) × (List Int) → Option ρ) : Option ρ :=
  bnd (W.R_dsub b1 a1) fun y =>
  bnd (W.R_zmade b0 y) fun y_1 =>
  k_ ((Prod.fst y_1), (Prod.snd y_1))
def R_ZAdd.c9s : Shape := ⟨[(0, q27), (1, q27), (2, q10), (3, q11), (4, q8)], [(2, q14), (3, q14), (4, q14)]⟩
def R_ZAdd.c9x0 : Shape := ⟨[(0, q27), (1, q27), (2, q10), (3, q11), (4, q8)], [(2, q14), (3, q14), (4, q14)]⟩
def R_ZAdd.c9r : Ck := Ck.of (T := (Bool) × (List Int)) R_ZAdd.c9s (fun ρ x_ k_ => uP x_ fun a x_ => uP x_ fun b x_ => uP x_ fun a0 x_ => uP x_ fun a1 x_ => uP x_ fun b0 x_ => uP x_ fun b1 x_ => uP x_ fun t40 x_ => uP x_ fun t41 x_ => R_ZAdd.c9 a1 b0 b1 k_) (fun ρ x_ r_ k_ => uP x_ fun a x_ => uP x_ fun b x_ => uP x_ fun a0 x_ => uP x_ fun a1 x_ => uP x_ fun b0 x_ => uP x_ fun b1 x_ => uP x_ fun t40 x_ => uP x_ fun t41 x_ => k_ 0 (Shape.inj R_ZAdd.c9x0 (a, b, a0, a1, b0, b1, r_.1, r_.2, ())))
def R_ZAdd (a : (Bool) × (List Int)) (b : (Bool) × (List Int)) : Option ((Bool) × (List Int)) :=
  br ((↑(List.length (Prod.snd a)) : Int) == (0 : Int))
   (some (Prod.fst b, Prod.snd b))
   (br ((↑(List.length (Prod.snd b)) : Int) == (0 : Int))
     (some (Prod.fst a, Prod.snd a))
     (br (Prod.fst a == Prod.fst b)
       (bnd (W.R_ZAdd.c6 (Prod.fst a) (Prod.snd a) (Prod.snd b) some) fun y =>
        some (Prod.fst y, Prod.snd y))
       (bnd (W.R_dcmp (Prod.snd a) (Prod.snd b)) fun y_1 =>
        br (decide (y_1 ≥ (0 : Int)))
         (bnd (W.R_ZAdd.c8 (Prod.fst a) (Prod.snd a) (Prod.snd b) some) fun y_2 =>
          some (Prod.fst y_2, Prod.snd y_2))
         (bnd (W.R_ZAdd.c9 (Prod.snd a) (Prod.fst b) (Prod.snd b) some) fun y_3 =>
          some (Prod.fst y_3, Prod.snd y_3)))))
def R_ZAdd.ce : Go.Ql.Callee := ⟨[(.st (.pair .bool (.sl (.int .i64)))), (.st (.pair .bool (.sl (.int .i64))))], [(.st (.pair .bool (.sl (.int .i64))))], fun x_ => R_ZAdd x_.1 x_.2⟩
def R_ZAdd.G : Env := ⟨50, tab, [(62, R_dadd.ce), (61, R_zmade.ce), (63, R_dcmp.ce), (64, R_dsub.ce)], [0, 1, 2, 3, 4, 8, 13, 19, 33], [], [(9, [⟨[], [], [44, 45, 46, 47, 48], []⟩, ⟨[0], [], [44, 45, 46, 47, 48], []⟩, ⟨[], [], [42, 43, 46, 47], []⟩, ⟨[2], [], [42, 43, 46, 47], []⟩, ⟨[], [], [42, 43, 44, 45], []⟩, ⟨[4], [], [42, 43, 44, 45], []⟩, ⟨[3, 2, 5, 4], [], [42, 43], []⟩, ⟨[1, 0, 6, 3, 2, 5, 4], [], [], []⟩, ⟨[7, 1, 0, 6, 3, 2, 5, 4], [4], [], []⟩]),
  (8, [⟨[], [], [36, 37, 38, 39, 40], []⟩, ⟨[0], [], [36, 37, 38, 39, 40], []⟩, ⟨[], [], [34, 35, 38, 39], []⟩, ⟨[2], [], [34, 35, 38, 39], []⟩, ⟨[], [], [34, 35, 36, 37], []⟩, ⟨[4], [], [34, 35, 36, 37], []⟩, ⟨[3, 2, 5, 4], [], [34, 35], []⟩, ⟨[1, 0, 6, 3, 2, 5, 4], [], [], []⟩, ⟨[7, 1, 0, 6, 3, 2, 5, 4], [4], [], []⟩]),
  (6, [⟨[], [], [22, 23, 24, 25, 26], []⟩, ⟨[0], [], [22, 23, 24, 25, 26], []⟩, ⟨[], [], [20, 21, 24, 25], []⟩, ⟨[2], [], [20, 21, 24, 25], []⟩, ⟨[], [], [20, 21, 22, 23], []⟩, ⟨[4], [], [20, 21, 22, 23], []⟩, ⟨[3, 2, 5, 4], [], [20, 21], []⟩, ⟨[1, 0, 6, 3, 2, 5, 4], [], [], []⟩, ⟨[7, 1, 0, 6, 3, 2, 5, 4], [4], [], []⟩])], [(9, R_ZAdd.c9r), (8, R_ZAdd.c8r), (6, R_ZAdd.c6r)], [], tab_eqs⟩
theorem R_ZAdd.eq (x_ : dens [(.st (.pair .bool (.sl (.int .i64)))), (.st (.pair .bool (.sl (.int .i64))))]) : den R_ZAdd.G Go.Proofs.Try.f14 [(.st (.pair .bool (.sl (.int .i64)))), (.st (.pair .bool (.sl (.int .i64))))] [(.st (.pair .bool (.sl (.int .i64))))] x_ = R_ZAdd x_.1 x_.2 := by kernel_rfl
theorem R_ZAdd.p0 : PieceOk R_ZAdd.G (pieceAt (pieces R_ZAdd.G.cks (bodyOf Go.Proofs.Try.f14)) 0).1 (pieceAt (pieces R_ZAdd.G.cks (bodyOf Go.Proofs.Try.f14)) 0).2 :=
  region_ok (s := R_ZAdd.c6r) (by kernel_rfl) (by kernel_rfl) (sums_of (sh := R_ZAdd.c6s) (fun ρ x_ k_ => (nat_bnd fun _ => (nat_bnd fun _ => nat_leaf))) (fun ρ x_ t k => (by kernel_rfl)) (fun x_ => by kernel_rfl))
theorem R_ZAdd.p1 : PieceOk R_ZAdd.G (pieceAt (pieces R_ZAdd.G.cks (bodyOf Go.Proofs.Try.f14)) 1).1 (pieceAt (pieces R_ZAdd.G.cks (bodyOf Go.Proofs.Try.f14)) 1).2 :=
  region_ok (s := R_ZAdd.c8r) (by kernel_rfl) (by kernel_rfl) (sums_of (sh := R_ZAdd.c8s) (fun ρ x_ k_ => (nat_bnd fun _ => (nat_bnd fun _ => nat_leaf))) (fun ρ x_ t k => (by kernel_rfl)) (fun x_ => by kernel_rfl))
theorem R_ZAdd.p2 : PieceOk R_ZAdd.G (pieceAt (pieces R_ZAdd.G.cks (bodyOf Go.Proofs.Try.f14)) 2).1 (pieceAt (pieces R_ZAdd.G.cks (bodyOf Go.Proofs.Try.f14)) 2).2 :=
  region_ok (s := R_ZAdd.c9r) (by kernel_rfl) (by kernel_rfl) (sums_of (sh := R_ZAdd.c9s) (fun ρ x_ k_ => (nat_bnd fun _ => (nat_bnd fun _ => nat_leaf))) (fun ρ x_ t k => (by kernel_rfl)) (fun x_ => by kernel_rfl))
theorem R_ZAdd.ok : CalleeOk Go.Proofs.Try.prog 14 R_ZAdd.ce := fn_ok (G := R_ZAdd.G) tab_ok mixed Go.Proofs.Try.func14 ⟨(fns_cons R_dadd.ok (fns_cons R_zmade.ok (fns_cons R_dcmp.ok (fns_cons R_dsub.ok fns_nil)))), mfns_nil, tab_eqs_ok⟩ (m := 3) (by kernel_rfl) ⟨⟨⟨trivial, R_ZAdd.p0⟩, R_ZAdd.p1⟩, R_ZAdd.p2⟩ (by kernel_rfl) R_ZAdd.eq
def R_ZText.c216389 {ρ : Type} (text : List UInt8) (a0 : Bool) (k_ : List UInt8 → Option ρ) : Option ρ :=
  br a0
   (k_ (Array.toList (ByteArray.data (ByteArray.mk #[(45 : UInt8)]))))
   (k_ text)
def R_ZText.c216389s : Shape := ⟨[(0, q27), (1, q21), (2, q0), (3, q0)], [(1, q14)]⟩
def R_ZText.c216389x0 : Shape := ⟨[(0, q27), (1, q21), (2, q0), (3, q0)], [(1, q14)]⟩
def R_ZText.c216389r : Ck := Ck.of (T := List UInt8) R_ZText.c216389s (fun ρ x_ k_ => uP x_ fun a x_ => uP x_ fun t2 x_ => uP x_ fun text x_ => uP x_ fun a0 x_ => uP x_ fun a1 x_ => R_ZText.c216389 text a0 k_) (fun ρ x_ r_ k_ => uP x_ fun a x_ => uP x_ fun t2 x_ => uP x_ fun text x_ => uP x_ fun a0 x_ => uP x_ fun a1 x_ => k_ 0 (Shape.inj R_ZText.c216389x0 (a, t2, r_, a0, a1, ())))
def R_ZText.c9 {ρ : Type} (i : Int) (a1 : List (Int)) (k_ : List (Int) → Option ρ) : Option ρ :=
  bnd (idx a1 i) fun y =>
  bnd (idx a1 i) fun y_1 =>
  bnd (idx a1 i) fun y_2 =>
  bnd (idx a1 i) fun y_3 =>
  k_ ([IntKind.wrap IntKind.u8 (IntKind.wrap IntKind.i64 ((48 : Int) + IntKind.wrap IntKind.i64 (Int.tdiv y (1000 : Int)))), IntKind.wrap IntKind.u8 (IntKind.wrap IntKind.i64 ((48 : Int) + Int.tmod (IntKind.wrap IntKind.i64 (Int.tdiv y_1 (100 : Int))) (10 : Int))), IntKind.wrap IntKind.u8 (IntKind.wrap IntKind.i64 ((48 : Int) + Int.tmod (IntKind.wrap IntKind.i64 (Int.tdiv y_2 (10 : Int))) (10 : Int))), IntKind.wrap IntKind.u8 (IntKind.wrap IntKind.i64 ((48 : Int) + Int.tmod y_3 (10 : Int)))])
def R_ZText.c9s : Shape := ⟨[(0, q27), (1, q21), (2, q0), (3, q0), (4, q2)], [(1, q14)]⟩
def R_ZText.c9x0 : Shape := ⟨[(0, q27), (1, q21), (2, q0), (3, q0), (4, q2), (5, q6)], [(1, q14)]⟩
def R_ZText.c9r : Ck := Ck.of (T := List (Int)) R_ZText.c9s (fun ρ x_ k_ => uP x_ fun a x_ => uP x_ fun t2 x_ => uP x_ fun text x_ => uP x_ fun i x_ => uP x_ fun a0 x_ => uP x_ fun a1 x_ => R_ZText.c9 i a1 k_) (fun ρ x_ r_ k_ => uP x_ fun a x_ => uP x_ fun t2 x_ => uP x_ fun text x_ => uP x_ fun i x_ => uP x_ fun a0 x_ => uP x_ fun a1 x_ => k_ 0 (Shape.inj R_ZText.c9x0 (a, t2, text, i, r_, a0, a1, ())))
def R_ZText.c11 {ρ : Type} (i : Int) (four : List (Int)) (t6 : Int) (a1 : List (Int)) (k_ : Bool → Option ρ) : Option ρ :=
  br (i == IntKind.wrap IntKind.i64 ((↑(List.length a1) : Int) - (1 : Int)))
   (br (decide (t6 < (3 : Int)))
     (bnd (idx four t6) fun y =>
      k_ (y == (48 : Int)))
     (k_ false))
   (k_ false)
def R_ZText.c11s : Shape := ⟨[(0, q27), (1, q21), (2, q0), (3, q0), (4, q2), (5, q6), (6, q2)], [(1, q14)]⟩
def R_ZText.c11x0 : Shape := ⟨[(0, q27), (1, q21), (2, q0), (3, q0), (4, q2), (5, q6), (6, q2), (72, q1)], [(1, q14)]⟩
def R_ZText.c11r : Ck := Ck.of (T := Bool) R_ZText.c11s (fun ρ x_ k_ => uP x_ fun a x_ => uP x_ fun t2 x_ => uP x_ fun text x_ => uP x_ fun i x_ => uP x_ fun four x_ => uP x_ fun t6 x_ => uP x_ fun a0 x_ => uP x_ fun a1 x_ => R_ZText.c11 i four t6 a1 k_) (fun ρ x_ r_ k_ => uP x_ fun a x_ => uP x_ fun t2 x_ => uP x_ fun text x_ => uP x_ fun i x_ => uP x_ fun four x_ => uP x_ fun t6 x_ => uP x_ fun a0 x_ => uP x_ fun a1 x_ => k_ 0 (Shape.inj R_ZText.c11x0 (a, t2, text, i, four, t6, r_, a0, a1, ())))
def R_ZText.c100011 {ρ : Type} (i : Int) (four : List (Int)) (t6 : Int) (a1 : List (Int)) (k_ : (Int) ⊕ (Int) → Option ρ) : Option ρ :=
  bnd (W.R_ZText.c11 i four t6 a1 some) fun y =>
  br y
   (k_ (.inl (IntKind.wrap IntKind.i64 (t6 + (1 : Int)))))
   (k_ (.inr t6))
def R_ZText.c100011s : Shape := ⟨[(0, q27), (1, q21), (2, q0), (3, q0), (4, q2), (5, q6), (6, q2)], [(1, q14)]⟩
def R_ZText.c100011x0 : Shape := ⟨[(0, q27), (1, q21), (2, q0), (3, q0), (4, q2), (5, q6), (6, q2)], [(1, q14)]⟩
def R_ZText.c100011r : Ck := Ck.ofLoop (S := Int) (T := Int) R_ZText.c100011s (fun x_ => uP x_ fun a x_ => uP x_ fun t2 x_ => uP x_ fun text x_ => uP x_ fun i x_ => uP x_ fun four x_ => uP x_ fun t6 x_ => uP x_ fun a0 x_ => uP x_ fun a1 x_ => t6) (fun ρ x_ s_ k_ => uP x_ fun a x_ => uP x_ fun t2 x_ => uP x_ fun text x_ => uP x_ fun i x_ => uP x_ fun four x_ => uP x_ fun t6 x_ => uP x_ fun a0 x_ => uP x_ fun a1 x_ => R_ZText.c100011 i four s_ a1 k_) (fun ρ x_ r_ k_ => uP x_ fun a x_ => uP x_ fun t2 x_ => uP x_ fun text x_ => uP x_ fun i x_ => uP x_ fun four x_ => uP x_ fun t6 x_ => uP x_ fun a0 x_ => uP x_ fun a1 x_ => k_ 4 (Shape.inj R_ZText.c100011x0 (a, t2, text, i, four, r_, a0, a1, ())))
def R_ZText.c100007 {ρ : Type} (text : List UInt8) (i : Int) (a1 : List (Int)) (k_ : ((List UInt8) × (Int)) ⊕ ((List UInt8) × (Int)) → Option ρ) : Option ρ :=
  br (decide (i ≥ (0 : Int)))
   (bnd (W.R_ZText.c9 i a1 some) fun y =>
    bnd (iter (fun s ↦ W.R_ZText.c100011 i y s a1 some) (0 : Int)) fun y_1 =>
    bnd (okIf (decide ((0 : Int) ≤ y_1) && decide (y_1 ≤ (↑(List.length y) : Int)) && decide ((↑(List.length y) : Int) ≤ (↑(List.length y) : Int)))) fun y_2 =>
    bnd (okIf (decide (List.length text + List.length (List.map (fun n ↦ UInt8.ofNat (Int.toNat n)) (List.drop (Int.toNat y_1) (List.take (Int.toNat (↑(List.length y) : Int)) y))) ≤ (9223372036854775807 : Nat)))) fun y_3 =>
    k_ (.inl ((text ++ List.map (fun n ↦ UInt8.ofNat (Int.toNat n)) (List.drop (Int.toNat y_1) (List.take (Int.toNat (↑(List.length y) : Int)) y))), (IntKind.wrap IntKind.i64 (i - (1 : Int))))))
   (k_ (.inr (text, i)))
def R_ZText.c100007s : Shape := ⟨[(0, q27), (1, q21), (2, q0), (3, q0), (4, q2)], [(1, q14)]⟩
def R_ZText.c100007x0 : Shape := ⟨[(0, q27), (1, q21), (2, q0), (3, q0), (4, q2)], [(1, q14)]⟩
def R_ZText.c100007r : Ck := Ck.ofLoop (S := (List UInt8) × (Int)) (T := (List UInt8) × (Int)) R_ZText.c100007s (fun x_ => uP x_ fun a x_ => uP x_ fun t2 x_ => uP x_ fun text x_ => uP x_ fun i x_ => uP x_ fun a0 x_ => uP x_ fun a1 x_ => (text, i)) (fun ρ x_ s_ k_ => uP x_ fun a x_ => uP x_ fun t2 x_ => uP x_ fun text x_ => uP x_ fun i x_ => uP x_ fun a0 x_ => uP x_ fun a1 x_ => R_ZText.c100007 s_.1 s_.2 a1 k_) (fun ρ x_ r_ k_ => uP x_ fun a x_ => uP x_ fun t2 x_ => uP x_ fun text x_ => uP x_ fun i x_ => uP x_ fun a0 x_ => uP x_ fun a1 x_ => k_ 2 (Shape.inj R_ZText.c100007x0 (a, t2, r_.1, r_.2, a0, a1, ())))
def R_ZText (a : (Bool) × (List Int)) : Option (List UInt8) :=
  br ((↑(List.length (Prod.snd a)) : Int) == (0 : Int))
   (some (Array.toList (ByteArray.data (ByteArray.mk #[(48 : UInt8)]))))
   (bnd (W.R_ZText.c216389 (Array.toList (ByteArray.data (ByteArray.mk #[]))) (Prod.fst a) some) fun y =>
    bnd (iter (fun s ↦ W.R_ZText.c100007 (Prod.fst s) (Prod.snd s) (Prod.snd a) some) (y, IntKind.wrap IntKind.i64 ((↑(List.length (Prod.snd a)) : Int) - (1 : Int)))) fun y_1 =>
    some (Prod.fst y_1))
def R_ZText.ce : Go.Ql.Callee := ⟨[(.st (.pair .bool (.sl (.int .i64))))], [.str], fun x_ => R_ZText x_⟩
def R_ZText.G : Env := ⟨82, tab, [], [0, 1, 2, 3, 4, 5, 6, 10, 12, 18, 72], [], [(9, [⟨[], [], [23, 29, 30, 31, 32, 33, 34, 35, 36, 37, 38, 39, 40, 41, 42, 43, 44, 45, 46, 47, 48, 49, 50, 51, 52, 53, 54], []⟩, ⟨[0], [], [23, 29, 30, 31, 32, 33, 34, 35, 36, 37, 38, 39, 40, 41, 42, 43, 44, 45, 46, 47, 48, 49, 50, 51, 52, 53, 54], []⟩, ⟨[], [], [21, 22, 29, 30, 31, 32, 33, 34, 35, 36, 37, 38, 39, 40, 41, 42, 43, 44, 45, 46, 47, 48, 49, 50, 51, 52, 53, 54], []⟩, ⟨[1, 0, 2], [], [29, 30, 31, 32, 33, 34, 35, 36, 37, 38, 39, 40, 41, 42, 43, 44, 45, 46, 47, 48, 49, 50, 51, 52, 53, 54], []⟩, ⟨[3, 1, 0, 2], [], [29, 30, 31, 32, 33, 34, 35, 36, 37, 38, 39, 40, 41, 42, 43, 44, 45, 46, 47, 48, 49, 50, 51, 52, 53, 54], []⟩, ⟨[4, 3, 1, 0, 2], [], [29, 30, 31, 32, 33, 34, 35, 36, 37, 38, 39, 40, 41, 42, 43, 44, 45, 46, 47, 48, 49, 50, 51, 52, 53, 54], []⟩, ⟨[5, 4, 3, 1, 0, 2], [], [29, 30, 31, 32, 33, 34, 35, 36, 37, 38, 39, 40, 41, 42, 43, 44, 45, 46, 47, 48, 49, 50, 51, 52, 53, 54], []⟩, ⟨[6, 5, 4, 3, 1, 0, 2], [], [29, 30, 31, 32, 33, 34, 35, 36, 37, 38, 39, 40, 41, 42, 43, 44, 45, 46, 47, 48, 49, 50, 51, 52, 53, 54], []⟩, ⟨[], [], [21, 22, 23, 24, 25, 26, 27, 28, 31, 38, 39, 40, 41, 42, 43, 44, 45, 46, 47, 48, 49, 50, 51, 52, 53, 54], []⟩, ⟨[8], [], [21, 22, 23, 24, 25, 26, 27, 28, 31, 38, 39, 40, 41, 42, 43, 44, 45, 46, 47, 48, 49, 50, 51, 52, 53, 54], []⟩, ⟨[], [], [21, 22, 23, 24, 25, 26, 27, 28, 29, 30, 38, 39, 40, 41, 42, 43, 44, 45, 46, 47, 48, 49, 50, 51, 52, 53, 54], []⟩, ⟨[9, 8, 10], [], [21, 22, 23, 24, 25, 26, 27, 28, 38, 39, 40, 41, 42, 43, 44, 45, 46, 47, 48, 49, 50, 51, 52, 53, 54], []⟩, ⟨[11, 9, 8, 10], [], [21, 22, 23, 24, 25, 26, 27, 28, 38, 39, 40, 41, 42, 43, 44, 45, 46, 47, 48, 49, 50, 51, 52, 53, 54], []⟩, ⟨[12, 11, 9, 8, 10], [], [21, 22, 23, 24, 25, 26, 27, 28, 38, 39, 40, 41, 42, 43, 44, 45, 46, 47, 48, 49, 50, 51, 52, 53, 54], []⟩, ⟨[13, 12, 11, 9, 8, 10], [], [21, 22, 23, 24, 25, 26, 27, 28, 38, 39, 40, 41, 42, 43, 44, 45, 46, 47, 48, 49, 50, 51, 52, 53, 54], []⟩, ⟨[14, 13, 12, 11, 9, 8, 10], [], [21, 22, 23, 24, 25, 26, 27, 28, 38, 39, 40, 41, 42, 43, 44, 45, 46, 47, 48, 49, 50, 51, 52, 53, 54], []⟩, ⟨[15, 14, 13, 12, 11, 9, 8, 10], [], [21, 22, 23, 24, 25, 26, 27, 28, 38, 39, 40, 41, 42, 43, 44, 45, 46, 47, 48, 49, 50, 51, 52, 53, 54], []⟩, ⟨[], [], [21, 22, 23, 24, 25, 26, 27, 28, 29, 30, 31, 32, 33, 34, 35, 36, 37, 40, 47, 48, 49, 50, 51, 52, 53, 54], []⟩, ⟨[17], [], [21, 22, 23, 24, 25, 26, 27, 28, 29, 30, 31, 32, 33, 34, 35, 36, 37, 40, 47, 48, 49, 50, 51, 52, 53, 54], []⟩, ⟨[], [], [21, 22, 23, 24, 25, 26, 27, 28, 29, 30, 31, 32, 33, 34, 35, 36, 37, 38, 39, 47, 48, 49, 50, 51, 52, 53, 54], []⟩, ⟨[18, 17, 19], [], [21, 22, 23, 24, 25, 26, 27, 28, 29, 30, 31, 32, 33, 34, 35, 36, 37, 47, 48, 49, 50, 51, 52, 53, 54], []⟩, ⟨[20, 18, 17, 19], [], [21, 22, 23, 24, 25, 26, 27, 28, 29, 30, 31, 32, 33, 34, 35, 36, 37, 47, 48, 49, 50, 51, 52, 53, 54], []⟩, ⟨[21, 20, 18, 17, 19], [], [21, 22, 23, 24, 25, 26, 27, 28, 29, 30, 31, 32, 33, 34, 35, 36, 37, 47, 48, 49, 50, 51, 52, 53, 54], []⟩, ⟨[22, 21, 20, 18, 17, 19], [], [21, 22, 23, 24, 25, 26, 27, 28, 29, 30, 31, 32, 33, 34, 35, 36, 37, 47, 48, 49, 50, 51, 52, 53, 54], []⟩, ⟨[23, 22, 21, 20, 18, 17, 19], [], [21, 22, 23, 24, 25, 26, 27, 28, 29, 30, 31, 32, 33, 34, 35, 36, 37, 47, 48, 49, 50, 51, 52, 53, 54], []⟩, ⟨[24, 23, 22, 21, 20, 18, 17, 19], [], [21, 22, 23, 24, 25, 26, 27, 28, 29, 30, 31, 32, 33, 34, 35, 36, 37, 47, 48, 49, 50, 51, 52, 53, 54], []⟩, ⟨[], [], [21, 22, 23, 24, 25, 26, 27, 28, 29, 30, 31, 32, 33, 34, 35, 36, 37, 38, 39, 40, 41, 42, 43, 44, 45, 46, 49], []⟩, ⟨[26], [], [21, 22, 23, 24, 25, 26, 27, 28, 29, 30, 31, 32, 33, 34, 35, 36, 37, 38, 39, 40, 41, 42, 43, 44, 45, 46, 49], []⟩, ⟨[], [], [21, 22, 23, 24, 25, 26, 27, 28, 29, 30, 31, 32, 33, 34, 35, 36, 37, 38, 39, 40, 41, 42, 43, 44, 45, 46, 47, 48], []⟩, ⟨[27, 26, 28], [], [21, 22, 23, 24, 25, 26, 27, 28, 29, 30, 31, 32, 33, 34, 35, 36, 37, 38, 39, 40, 41, 42, 43, 44, 45, 46], []⟩, ⟨[29, 27, 26, 28], [], [21, 22, 23, 24, 25, 26, 27, 28, 29, 30, 31, 32, 33, 34, 35, 36, 37, 38, 39, 40, 41, 42, 43, 44, 45, 46], []⟩, ⟨[30, 29, 27, 26, 28], [], [21, 22, 23, 24, 25, 26, 27, 28, 29, 30, 31, 32, 33, 34, 35, 36, 37, 38, 39, 40, 41, 42, 43, 44, 45, 46], []⟩, ⟨[31, 30, 29, 27, 26, 28], [], [21, 22, 23, 24, 25, 26, 27, 28, 29, 30, 31, 32, 33, 34, 35, 36, 37, 38, 39, 40, 41, 42, 43, 44, 45, 46], []⟩, ⟨[32, 31, 30, 29, 27, 26, 28], [], [21, 22, 23, 24, 25, 26, 27, 28, 29, 30, 31, 32, 33, 34, 35, 36, 37, 38, 39, 40, 41, 42, 43, 44, 45, 46], []⟩, ⟨[7, 6, 5, 4, 3, 1, 0, 2, 16, 15, 14, 13, 12, 11, 9, 8, 10, 25, 24, 23, 22, 21, 20, 18, 17, 19, 33, 32, 31, 30, 29, 27, 26, 28], [55], [], []⟩, ⟨[34, 7, 6, 5, 4, 3, 1, 0, 2, 16, 15, 14, 13, 12, 11, 9, 8, 10, 25, 24, 23, 22, 21, 20, 18, 17, 19, 33, 32, 31, 30, 29, 27, 26, 28], [], [], []⟩])], [(100007, R_ZText.c100007r), (100011, R_ZText.c100011r), (11, R_ZText.c11r), (9, R_ZText.c9r), (216389, R_ZText.c216389r)], [], tab_eqs⟩
theorem R_ZText.eq (x_ : dens [(.st (.pair .bool (.sl (.int .i64))))]) : den R_ZText.G Go.Proofs.Try.f13 [(.st (.pair .bool (.sl (.int .i64))))] [.str] x_ = R_ZText x_ := by kernel_rfl
theorem R_ZText.p0 : PieceOk R_ZText.G (pieceAt (pieces R_ZText.G.cks (bodyOf Go.Proofs.Try.f13)) 0).1 (pieceAt (pieces R_ZText.G.cks (bodyOf Go.Proofs.Try.f13)) 0).2 :=
  join_ok (s := R_ZText.c216389r) (by kernel_rfl) (by kernel_rfl) (sums_of (sh := R_ZText.c216389s) (fun ρ x_ k_ => (nat_br nat_leaf nat_leaf)) (fun ρ x_ t k => (by kernel_rfl)) (fun x_ => by kernel_rfl))
theorem R_ZText.p1 : PieceOk R_ZText.G (pieceAt (pieces R_ZText.G.cks (bodyOf Go.Proofs.Try.f13)) 1).1 (pieceAt (pieces R_ZText.G.cks (bodyOf Go.Proofs.Try.f13)) 1).2 :=
  loop_ok (s := R_ZText.c100007r) (by kernel_rfl) (by kernel_rfl) (loops_of (sh := R_ZText.c100007s) (I := fun x_ s_ => (x_.1, x_.2.1, s_.1, s_.2, x_.2.2.2.2.1, x_.2.2.2.2.2.1, ())) (fun x_ => rfl) (fun ρ x_ s_ k_ => (nat_br (nat_bnd fun _ => (nat_bnd fun _ => (nat_bnd fun _ => (nat_bnd fun _ => nat_leaf)))) nat_leaf)) (fun ρ x_ t k => (by kernel_rfl)) (fun x_ s => by kernel_rfl))
theorem R_ZText.p2 : PieceOk R_ZText.G (pieceAt (pieces R_ZText.G.cks (bodyOf Go.Proofs.Try.f13)) 2).1 (pieceAt (pieces R_ZText.G.cks (bodyOf Go.Proofs.Try.f13)) 2).2 :=
  region_ok (s := R_ZText.c9r) (by kernel_rfl) (by kernel_rfl) (sums_of (sh := R_ZText.c9s) (fun ρ x_ k_ => (nat_bnd fun _ => (nat_bnd fun _ => (nat_bnd fun _ => (nat_bnd fun _ => nat_leaf))))) (fun ρ x_ t k => (by kernel_rfl)) (fun x_ => by kernel_rfl))
theorem R_ZText.p3 : PieceOk R_ZText.G (pieceAt (pieces R_ZText.G.cks (bodyOf Go.Proofs.Try.f13)) 3).1 (pieceAt (pieces R_ZText.G.cks (bodyOf Go.Proofs.Try.f13)) 3).2 :=
  loop_ok (s := R_ZText.c100011r) (by kernel_rfl) (by kernel_rfl) (loops_of (sh := R_ZText.c100011s) (I := fun x_ s_ => (x_.1, x_.2.1, x_.2.2.1, x_.2.2.2.1, x_.2.2.2.2.1, s_, x_.2.2.2.2.2.2.1, x_.2.2.2.2.2.2.2.1, ())) (fun x_ => rfl) (fun ρ x_ s_ k_ => (nat_bnd fun _ => (nat_br nat_leaf nat_leaf))) (fun ρ x_ t k => (by kernel_rfl)) (fun x_ s => by kernel_rfl))
theorem R_ZText.p4 : PieceOk R_ZText.G (pieceAt (pieces R_ZText.G.cks (bodyOf Go.Proofs.Try.f13)) 4).1 (pieceAt (pieces R_ZText.G.cks (bodyOf Go.Proofs.Try.f13)) 4).2 :=
  region_ok (s := R_ZText.c11r) (by kernel_rfl) (by kernel_rfl) (sums_of (sh := R_ZText.c11s) (fun ρ x_ k_ => (nat_br (nat_br (nat_bnd fun _ => nat_leaf) nat_leaf) nat_leaf)) (fun ρ x_ t k => (by kernel_rfl)) (fun x_ => by kernel_rfl))
theorem R_ZText.ok : CalleeOk Go.Proofs.Try.prog 13 R_ZText.ce := fn_ok (G := R_ZText.G) tab_ok mixed Go.Proofs.Try.func13 ⟨fns_nil, mfns_nil, tab_eqs_ok⟩ (m := 5) (by kernel_rfl) ⟨⟨⟨⟨⟨trivial, R_ZText.p0⟩, R_ZText.p1⟩, R_ZText.p2⟩, R_ZText.p3⟩, R_ZText.p4⟩ (by kernel_rfl) R_ZText.eq
def whole_Int_Neg (a : (Bool) × (List Int)) : Option ((Bool) × (List Int)) :=
  bnd (W.whole_made (!Prod.fst a) (Prod.snd a)) fun y =>
  some (Prod.fst y, Prod.snd y)
def whole_Int_Neg.ce : Go.Ql.Callee := ⟨[(.st (.pair .bool (.sl (.int .u32))))], [(.st (.pair .bool (.sl (.int .u32))))], fun x_ => whole_Int_Neg x_⟩
def whole_Int_Neg.G : Env := ⟨9, tab, [(50, whole_made.ce)], [0, 1, 2], [], [], [], [], tab_eqs⟩
theorem whole_Int_Neg.eq (x_ : dens [(.st (.pair .bool (.sl (.int .u32))))]) : den whole_Int_Neg.G Go.Proofs.Try.f28 [(.st (.pair .bool (.sl (.int .u32))))] [(.st (.pair .bool (.sl (.int .u32))))] x_ = whole_Int_Neg x_ := by kernel_rfl
theorem whole_Int_Neg.ok : CalleeOk Go.Proofs.Try.prog 28 whole_Int_Neg.ce := fn_ok (G := whole_Int_Neg.G) tab_ok mixed Go.Proofs.Try.func28 ⟨(fns_cons whole_made.ok fns_nil), mfns_nil, tab_eqs_ok⟩ (m := 0) (by kernel_rfl) trivial (by kernel_rfl) whole_Int_Neg.eq
def whole_Int_Sub.c1 {ρ : Type} (a0 : Bool) (a1 : List (Int)) (b0 : Bool) (b1 : List (Int)) (k_ : (Bool) × (List Int) → Option ρ) : Option ρ :=
  bnd (W.whole_Int_Neg (b0, b1)) fun y =>
  bnd (W.whole_Int_Add (a0, a1) y) fun y_1 =>
  k_ ((Prod.fst y_1), (Prod.snd y_1))
def whole_Int_Sub.c1s : Shape := ⟨[(0, q20), (1, q20), (2, q10), (3, q11), (4, q8)], [(2, q9), (3, q9), (4, q9)]⟩
def whole_Int_Sub.c1x0 : Shape := ⟨[(0, q20), (1, q20), (2, q10), (3, q11), (4, q8)], [(2, q9), (3, q9), (4, q9)]⟩
def whole_Int_Sub.c1r : Ck := Ck.of (T := (Bool) × (List Int)) whole_Int_Sub.c1s (fun ρ x_ k_ => uP x_ fun a x_ => uP x_ fun b x_ => uP x_ fun a0 x_ => uP x_ fun a1 x_ => uP x_ fun b0 x_ => uP x_ fun b1 x_ => uP x_ fun t40 x_ => uP x_ fun t41 x_ => whole_Int_Sub.c1 a0 a1 b0 b1 k_) (fun ρ x_ r_ k_ => uP x_ fun a x_ => uP x_ fun b x_ => uP x_ fun a0 x_ => uP x_ fun a1 x_ => uP x_ fun b0 x_ => uP x_ fun b1 x_ => uP x_ fun t40 x_ => uP x_ fun t41 x_ => k_ 0 (Shape.inj whole_Int_Sub.c1x0 (a, b, a0, a1, b0, b1, r_.1, r_.2, ())))
def whole_Int_Sub (a : (Bool) × (List Int)) (b : (Bool) × (List Int)) : Option ((Bool) × (List Int)) :=
  bnd (W.whole_Int_Sub.c1 (Prod.fst a) (Prod.snd a) (Prod.fst b) (Prod.snd b) some) fun y =>
  some (Prod.fst y, Prod.snd y)
def whole_Int_Sub.ce : Go.Ql.Callee := ⟨[(.st (.pair .bool (.sl (.int .u32)))), (.st (.pair .bool (.sl (.int .u32))))], [(.st (.pair .bool (.sl (.int .u32))))], fun x_ => whole_Int_Sub x_.1 x_.2⟩
def whole_Int_Sub.G : Env := ⟨9, tab, [(28, whole_Int_Neg.ce), (11, whole_Int_Add.ce)], [0, 1, 2, 3, 4], [], [(1, [⟨[], [], [6, 7], []⟩, ⟨[], [], [5], []⟩, ⟨[1], [], [5], []⟩, ⟨[0, 2, 1], [], [], []⟩, ⟨[3, 0, 2, 1], [4], [], []⟩])], [(1, whole_Int_Sub.c1r)], [], tab_eqs⟩
theorem whole_Int_Sub.eq (x_ : dens [(.st (.pair .bool (.sl (.int .u32)))), (.st (.pair .bool (.sl (.int .u32))))]) : den whole_Int_Sub.G Go.Proofs.Try.f15 [(.st (.pair .bool (.sl (.int .u32)))), (.st (.pair .bool (.sl (.int .u32))))] [(.st (.pair .bool (.sl (.int .u32))))] x_ = whole_Int_Sub x_.1 x_.2 := by kernel_rfl
theorem whole_Int_Sub.p0 : PieceOk whole_Int_Sub.G (pieceAt (pieces whole_Int_Sub.G.cks (bodyOf Go.Proofs.Try.f15)) 0).1 (pieceAt (pieces whole_Int_Sub.G.cks (bodyOf Go.Proofs.Try.f15)) 0).2 :=
  region_ok (s := whole_Int_Sub.c1r) (by kernel_rfl) (by kernel_rfl) (sums_of (sh := whole_Int_Sub.c1s) (fun ρ x_ k_ => (nat_bnd fun _ => (nat_bnd fun _ => nat_leaf))) (fun ρ x_ t k => (by kernel_rfl)) (fun x_ => by kernel_rfl))
theorem whole_Int_Sub.ok : CalleeOk Go.Proofs.Try.prog 15 whole_Int_Sub.ce := fn_ok (G := whole_Int_Sub.G) tab_ok mixed Go.Proofs.Try.func15 ⟨(fns_cons whole_Int_Neg.ok (fns_cons whole_Int_Add.ok fns_nil)), mfns_nil, tab_eqs_ok⟩ (m := 1) (by kernel_rfl) ⟨trivial, whole_Int_Sub.p0⟩ (by kernel_rfl) whole_Int_Sub.eq
def R_ZNeg (a : (Bool) × (List Int)) : Option ((Bool) × (List Int)) :=
  bnd (W.R_zmade (!Prod.fst a) (Prod.snd a)) fun y =>
  some (Prod.fst y, Prod.snd y)
def R_ZNeg.ce : Go.Ql.Callee := ⟨[(.st (.pair .bool (.sl (.int .i64))))], [(.st (.pair .bool (.sl (.int .i64))))], fun x_ => R_ZNeg x_⟩
def R_ZNeg.G : Env := ⟨9, tab, [(61, R_zmade.ce)], [0, 1, 2], [], [], [], [], tab_eqs⟩
theorem R_ZNeg.eq (x_ : dens [(.st (.pair .bool (.sl (.int .i64))))]) : den R_ZNeg.G Go.Proofs.Try.f65 [(.st (.pair .bool (.sl (.int .i64))))] [(.st (.pair .bool (.sl (.int .i64))))] x_ = R_ZNeg x_ := by kernel_rfl
theorem R_ZNeg.ok : CalleeOk Go.Proofs.Try.prog 65 R_ZNeg.ce := fn_ok (G := R_ZNeg.G) tab_ok mixed Go.Proofs.Try.func65 ⟨(fns_cons R_zmade.ok fns_nil), mfns_nil, tab_eqs_ok⟩ (m := 0) (by kernel_rfl) trivial (by kernel_rfl) R_ZNeg.eq
def R_ZSub.c1 {ρ : Type} (a0 : Bool) (a1 : List (Int)) (b0 : Bool) (b1 : List (Int)) (k_ : (Bool) × (List Int) → Option ρ) : Option ρ :=
  bnd (W.R_ZNeg (b0, b1)) fun y =>
  bnd (W.R_ZAdd (a0, a1) y) fun y_1 =>
  k_ ((Prod.fst y_1), (Prod.snd y_1))
def R_ZSub.c1s : Shape := ⟨[(0, q27), (1, q27), (2, q10), (3, q11), (4, q8)], [(2, q14), (3, q14), (4, q14)]⟩
def R_ZSub.c1x0 : Shape := ⟨[(0, q27), (1, q27), (2, q10), (3, q11), (4, q8)], [(2, q14), (3, q14), (4, q14)]⟩
def R_ZSub.c1r : Ck := Ck.of (T := (Bool) × (List Int)) R_ZSub.c1s (fun ρ x_ k_ => uP x_ fun a x_ => uP x_ fun b x_ => uP x_ fun a0 x_ => uP x_ fun a1 x_ => uP x_ fun b0 x_ => uP x_ fun b1 x_ => uP x_ fun t40 x_ => uP x_ fun t41 x_ => R_ZSub.c1 a0 a1 b0 b1 k_) (fun ρ x_ r_ k_ => uP x_ fun a x_ => uP x_ fun b x_ => uP x_ fun a0 x_ => uP x_ fun a1 x_ => uP x_ fun b0 x_ => uP x_ fun b1 x_ => uP x_ fun t40 x_ => uP x_ fun t41 x_ => k_ 0 (Shape.inj R_ZSub.c1x0 (a, b, a0, a1, b0, b1, r_.1, r_.2, ())))
def R_ZSub (a : (Bool) × (List Int)) (b : (Bool) × (List Int)) : Option ((Bool) × (List Int)) :=
  bnd (W.R_ZSub.c1 (Prod.fst a) (Prod.snd a) (Prod.fst b) (Prod.snd b) some) fun y =>
  some (Prod.fst y, Prod.snd y)
def R_ZSub.ce : Go.Ql.Callee := ⟨[(.st (.pair .bool (.sl (.int .i64)))), (.st (.pair .bool (.sl (.int .i64))))], [(.st (.pair .bool (.sl (.int .i64))))], fun x_ => R_ZSub x_.1 x_.2⟩
def R_ZSub.G : Env := ⟨9, tab, [(65, R_ZNeg.ce), (14, R_ZAdd.ce)], [0, 1, 2, 3, 4], [], [(1, [⟨[], [], [6, 7], []⟩, ⟨[], [], [5], []⟩, ⟨[1], [], [5], []⟩, ⟨[0, 2, 1], [], [], []⟩, ⟨[3, 0, 2, 1], [4], [], []⟩])], [(1, R_ZSub.c1r)], [], tab_eqs⟩
theorem R_ZSub.eq (x_ : dens [(.st (.pair .bool (.sl (.int .i64)))), (.st (.pair .bool (.sl (.int .i64))))]) : den R_ZSub.G Go.Proofs.Try.f16 [(.st (.pair .bool (.sl (.int .i64)))), (.st (.pair .bool (.sl (.int .i64))))] [(.st (.pair .bool (.sl (.int .i64))))] x_ = R_ZSub x_.1 x_.2 := by kernel_rfl
theorem R_ZSub.p0 : PieceOk R_ZSub.G (pieceAt (pieces R_ZSub.G.cks (bodyOf Go.Proofs.Try.f16)) 0).1 (pieceAt (pieces R_ZSub.G.cks (bodyOf Go.Proofs.Try.f16)) 0).2 :=
  region_ok (s := R_ZSub.c1r) (by kernel_rfl) (by kernel_rfl) (sums_of (sh := R_ZSub.c1s) (fun ρ x_ k_ => (nat_bnd fun _ => (nat_bnd fun _ => nat_leaf))) (fun ρ x_ t k => (by kernel_rfl)) (fun x_ => by kernel_rfl))
theorem R_ZSub.ok : CalleeOk Go.Proofs.Try.prog 16 R_ZSub.ce := fn_ok (G := R_ZSub.G) tab_ok mixed Go.Proofs.Try.func16 ⟨(fns_cons R_ZNeg.ok (fns_cons R_ZAdd.ok fns_nil)), mfns_nil, tab_eqs_ok⟩ (m := 1) (by kernel_rfl) ⟨trivial, R_ZSub.p0⟩ (by kernel_rfl) R_ZSub.eq
abbrev q28 : SD := .one (.own 18 0)
def whole_Int_Mul.c100007 {ρ : Type} (i : Int) (x : Int) (carry : Int) (t28 : List (Int)) (t29 : Int) (t30 : Int) (t18 : List (Int)) (k_ : ((Int) × (Int) × (List Int)) ⊕ ((Int) × (Int) × (List Int)) → Option ρ) : Option ρ :=
  br (decide (t30 < t29))
   (bnd (idx t28 t30) fun y =>
    bnd (inR (List.length t18) (IntKind.wrap IntKind.i64 (i + t30))) fun y_1 =>
    bnd (idx t18 (IntKind.wrap IntKind.i64 (i + t30))) fun y_2 =>
    bnd (inR (List.length t18) (IntKind.wrap IntKind.i64 (i + t30))) fun y_3 =>
    bnd (idx t18 (IntKind.wrap IntKind.i64 (i + t30))) fun y_4 =>
    k_ (.inl ((Int.fdiv (IntKind.wrap IntKind.u64 (carry + IntKind.wrap IntKind.u64 (IntKind.wrap IntKind.u64 (IntKind.wrap IntKind.u64 x * IntKind.wrap IntKind.u64 y) + IntKind.wrap IntKind.u64 y_2))) ((2 : Int) ^ (32 : Nat))), (IntKind.wrap IntKind.i64 (t30 + (1 : Int))), (List.set t18 (Int.toNat (IntKind.wrap IntKind.i64 (i + t30))) (IntKind.wrap IntKind.u32 (IntKind.wrap IntKind.u64 (carry + IntKind.wrap IntKind.u64 (IntKind.wrap IntKind.u64 (IntKind.wrap IntKind.u64 x * IntKind.wrap IntKind.u64 y) + IntKind.wrap IntKind.u64 y_2))))))))
   (k_ (.inr (carry, t30, t18)))
def whole_Int_Mul.c100007s : Shape := ⟨[(0, q20), (1, q20), (2, q10), (3, q11), (4, q8), (5, q28), (6, q2), (7, q24), (8, q5), (20, q3), (21, q2), (22, q2), (28, q3), (29, q2), (30, q2)], [(2, q9), (3, q9), (4, q9), (18, q7)]⟩
def whole_Int_Mul.c100007x0 : Shape := ⟨[(0, q20), (1, q20), (2, q10), (3, q11), (4, q8), (5, q28), (6, q2), (7, q24), (8, q5), (20, q3), (21, q2), (22, q2), (28, q3), (29, q2), (30, q2)], [(2, q9), (3, q9), (4, q9), (18, q7)]⟩
def whole_Int_Mul.c100007r : Ck := Ck.ofLoop (S := (Int) × (Int) × (List Int)) (T := (Int) × (Int) × (List Int)) whole_Int_Mul.c100007s (fun x_ => uP x_ fun a x_ => uP x_ fun b x_ => uP x_ fun i x_ => uP x_ fun x x_ => uP x_ fun carry x_ => uP x_ fun t20 x_ => uP x_ fun t21 x_ => uP x_ fun t22 x_ => uP x_ fun t28 x_ => uP x_ fun t29 x_ => uP x_ fun t30 x_ => uP x_ fun a0 x_ => uP x_ fun a1 x_ => uP x_ fun b0 x_ => uP x_ fun b1 x_ => uP x_ fun t40 x_ => uP x_ fun t41 x_ => uP x_ fun t18 x_ => (carry, t30, t18)) (fun ρ x_ s_ k_ => uP x_ fun a x_ => uP x_ fun b x_ => uP x_ fun i x_ => uP x_ fun x x_ => uP x_ fun carry x_ => uP x_ fun t20 x_ => uP x_ fun t21 x_ => uP x_ fun t22 x_ => uP x_ fun t28 x_ => uP x_ fun t29 x_ => uP x_ fun t30 x_ => uP x_ fun a0 x_ => uP x_ fun a1 x_ => uP x_ fun b0 x_ => uP x_ fun b1 x_ => uP x_ fun t40 x_ => uP x_ fun t41 x_ => uP x_ fun t18 x_ => whole_Int_Mul.c100007 i x s_.1 t28 t29 s_.2.1 s_.2.2 k_) (fun ρ x_ r_ k_ => uP x_ fun a x_ => uP x_ fun b x_ => uP x_ fun i x_ => uP x_ fun x x_ => uP x_ fun carry x_ => uP x_ fun t20 x_ => uP x_ fun t21 x_ => uP x_ fun t22 x_ => uP x_ fun t28 x_ => uP x_ fun t29 x_ => uP x_ fun t30 x_ => uP x_ fun a0 x_ => uP x_ fun a1 x_ => uP x_ fun b0 x_ => uP x_ fun b1 x_ => uP x_ fun t40 x_ => uP x_ fun t41 x_ => uP x_ fun t18 x_ => k_ 4 (Shape.inj whole_Int_Mul.c100007x0 (a, b, i, x, r_.1, t20, t21, t22, t28, t29, r_.2.1, a0, a1, b0, b1, t40, t41, r_.2.2, ())))
def whole_Int_Mul.c100003 {ρ : Type} (t20 : List (Int)) (t21 : Int) (t22 : Int) (b1 : List (Int)) (t18 : List (Int)) (k_ : ((Int) × (List Int)) ⊕ ((Int) × (List Int)) → Option ρ) : Option ρ :=
  br (decide (t22 < t21))
   (bnd (idx t20 t22) fun y =>
    bnd (iter (fun s ↦ W.whole_Int_Mul.c100007 t22 y (Prod.fst s) b1 (↑(List.length b1) : Int) (Prod.fst (Prod.snd s)) (Prod.snd (Prod.snd s)) some) ((0 : Int), (0 : Int), t18)) fun y_1 =>
    bnd (inR (List.length (Prod.snd (Prod.snd y_1))) (IntKind.wrap IntKind.i64 (t22 + (↑(List.length b1) : Int)))) fun y_2 =>
    bnd (idx (Prod.snd (Prod.snd y_1)) (IntKind.wrap IntKind.i64 (t22 + (↑(List.length b1) : Int)))) fun y_3 =>
    k_ (.inl ((IntKind.wrap IntKind.i64 (t22 + (1 : Int))), (List.set (Prod.snd (Prod.snd y_1)) (Int.toNat (IntKind.wrap IntKind.i64 (t22 + (↑(List.length b1) : Int)))) (IntKind.wrap IntKind.u32 (Prod.fst y_1))))))
   (k_ (.inr (t22, t18)))
def whole_Int_Mul.c100003s : Shape := ⟨[(0, q20), (1, q20), (2, q10), (3, q11), (4, q8), (5, q28), (20, q3), (21, q2), (22, q2)], [(2, q9), (3, q9), (4, q9), (18, q7)]⟩
def whole_Int_Mul.c100003x0 : Shape := ⟨[(0, q20), (1, q20), (2, q10), (3, q11), (4, q8), (5, q28), (20, q3), (21, q2), (22, q2)], [(2, q9), (3, q9), (4, q9), (18, q7)]⟩
def whole_Int_Mul.c100003r : Ck := Ck.ofLoop (S := (Int) × (List Int)) (T := (Int) × (List Int)) whole_Int_Mul.c100003s (fun x_ => uP x_ fun a x_ => uP x_ fun b x_ => uP x_ fun t20 x_ => uP x_ fun t21 x_ => uP x_ fun t22 x_ => uP x_ fun a0 x_ => uP x_ fun a1 x_ => uP x_ fun b0 x_ => uP x_ fun b1 x_ => uP x_ fun t40 x_ => uP x_ fun t41 x_ => uP x_ fun t18 x_ => (t22, t18)) (fun ρ x_ s_ k_ => uP x_ fun a x_ => uP x_ fun b x_ => uP x_ fun t20 x_ => uP x_ fun t21 x_ => uP x_ fun t22 x_ => uP x_ fun a0 x_ => uP x_ fun a1 x_ => uP x_ fun b0 x_ => uP x_ fun b1 x_ => uP x_ fun t40 x_ => uP x_ fun t41 x_ => uP x_ fun t18 x_ => whole_Int_Mul.c100003 t20 t21 s_.1 b1 s_.2 k_) (fun ρ x_ r_ k_ => uP x_ fun a x_ => uP x_ fun b x_ => uP x_ fun t20 x_ => uP x_ fun t21 x_ => uP x_ fun t22 x_ => uP x_ fun a0 x_ => uP x_ fun a1 x_ => uP x_ fun b0 x_ => uP x_ fun b1 x_ => uP x_ fun t40 x_ => uP x_ fun t41 x_ => uP x_ fun t18 x_ => k_ 2 (Shape.inj whole_Int_Mul.c100003x0 (a, b, t20, t21, r_.1, a0, a1, b0, b1, t40, t41, r_.2, ())))
def whole_Int_Mul (a : (Bool) × (List Int)) (b : (Bool) × (List Int)) : Option ((Bool) × (List Int)) :=
  bnd (okIf (decide ((0 : Int) ≤ IntKind.wrap IntKind.i64 ((↑(List.length (Prod.snd a)) : Int) + (↑(List.length (Prod.snd b)) : Int))) && decide (IntKind.wrap IntKind.i64 ((↑(List.length (Prod.snd a)) : Int) + (↑(List.length (Prod.snd b)) : Int)) ≤ IntKind.wrap IntKind.i64 ((↑(List.length (Prod.snd a)) : Int) + (↑(List.length (Prod.snd b)) : Int))) && decide (IntKind.wrap IntKind.i64 ((↑(List.length (Prod.snd a)) : Int) + (↑(List.length (Prod.snd b)) : Int)) * (↑(4 : Nat) : Int) ≤ (140737488355328 : Int)) && decide (IntKind.wrap IntKind.i64 ((↑(List.length (Prod.snd a)) : Int) + (↑(List.length (Prod.snd b)) : Int)) ≤ (140737488355328 : Int)))) fun y =>
  bnd (iter (fun s ↦ W.whole_Int_Mul.c100003 (Prod.snd a) (↑(List.length (Prod.snd a)) : Int) (Prod.fst s) (Prod.snd b) (Prod.snd s) some) ((0 : Int), List.replicate (Int.toNat (IntKind.wrap IntKind.i64 ((↑(List.length (Prod.snd a)) : Int) + (↑(List.length (Prod.snd b)) : Int)))) (0 : Int))) fun y_1 =>
  bnd (W.whole_made (!Prod.fst a == Prod.fst b) (Prod.snd y_1)) fun y_2 =>
  some (Prod.fst y_2, Prod.snd y_2)
def whole_Int_Mul.ce : Go.Ql.Callee := ⟨[(.st (.pair .bool (.sl (.int .u32)))), (.st (.pair .bool (.sl (.int .u32))))], [(.st (.pair .bool (.sl (.int .u32))))], fun x_ => whole_Int_Mul x_.1 x_.2⟩
def whole_Int_Mul.G : Env := ⟨77, tab, [(50, whole_made.ce)], [0, 1, 2, 3, 4, 5, 6, 7, 8, 9, 10, 20, 21, 22, 23, 28, 29, 30, 31], [18], [], [(100003, whole_Int_Mul.c100003r), (100007, whole_Int_Mul.c100007r)], [], tab_eqs⟩
theorem whole_Int_Mul.eq (x_ : dens [(.st (.pair .bool (.sl (.int .u32)))), (.st (.pair .bool (.sl (.int .u32))))]) : den whole_Int_Mul.G Go.Proofs.Try.f17 [(.st (.pair .bool (.sl (.int .u32)))), (.st (.pair .bool (.sl (.int .u32))))] [(.st (.pair .bool (.sl (.int .u32))))] x_ = whole_Int_Mul x_.1 x_.2 := by kernel_rfl
theorem whole_Int_Mul.p0 : PieceOk whole_Int_Mul.G (pieceAt (pieces whole_Int_Mul.G.cks (bodyOf Go.Proofs.Try.f17)) 0).1 (pieceAt (pieces whole_Int_Mul.G.cks (bodyOf Go.Proofs.Try.f17)) 0).2 :=
  loop_ok (s := whole_Int_Mul.c100003r) (by kernel_rfl) (by kernel_rfl) (loops_of (sh := whole_Int_Mul.c100003s) (I := fun x_ s_ => (x_.1, x_.2.1, x_.2.2.1, x_.2.2.2.1, s_.1, x_.2.2.2.2.2.1, x_.2.2.2.2.2.2.1, x_.2.2.2.2.2.2.2.1, x_.2.2.2.2.2.2.2.2.1, x_.2.2.2.2.2.2.2.2.2.1, x_.2.2.2.2.2.2.2.2.2.2.1, s_.2, ())) (fun x_ => rfl) (fun ρ x_ s_ k_ => (nat_br (nat_bnd fun _ => (nat_bnd fun _ => (nat_bnd fun _ => (nat_bnd fun _ => nat_leaf)))) nat_leaf)) (fun ρ x_ t k => (by kernel_rfl)) (fun x_ s => by kernel_rfl))
theorem whole_Int_Mul.p1 : PieceOk whole_Int_Mul.G (pieceAt (pieces whole_Int_Mul.G.cks (bodyOf Go.Proofs.Try.f17)) 1).1 (pieceAt (pieces whole_Int_Mul.G.cks (bodyOf Go.Proofs.Try.f17)) 1).2 :=
  loop_ok (s := whole_Int_Mul.c100007r) (by kernel_rfl) (by kernel_rfl) (loops_of (sh := whole_Int_Mul.c100007s) (I := fun x_ s_ => (x_.1, x_.2.1, x_.2.2.1, x_.2.2.2.1, s_.1, x_.2.2.2.2.2.1, x_.2.2.2.2.2.2.1, x_.2.2.2.2.2.2.2.1, x_.2.2.2.2.2.2.2.2.1, x_.2.2.2.2.2.2.2.2.2.1, s_.2.1, x_.2.2.2.2.2.2.2.2.2.2.2.1, x_.2.2.2.2.2.2.2.2.2.2.2.2.1, x_.2.2.2.2.2.2.2.2.2.2.2.2.2.1, x_.2.2.2.2.2.2.2.2.2.2.2.2.2.2.1, x_.2.2.2.2.2.2.2.2.2.2.2.2.2.2.2.1, x_.2.2.2.2.2.2.2.2.2.2.2.2.2.2.2.2.1, s_.2.2, ())) (fun x_ => rfl) (fun ρ x_ s_ k_ => (nat_br (nat_bnd fun _ => (nat_bnd fun _ => (nat_bnd fun _ => (nat_bnd fun _ => (nat_bnd fun _ => nat_leaf))))) nat_leaf)) (fun ρ x_ t k => (by kernel_rfl)) (fun x_ s => by kernel_rfl))
theorem whole_Int_Mul.ok : CalleeOk Go.Proofs.Try.prog 17 whole_Int_Mul.ce := fn_ok (G := whole_Int_Mul.G) tab_ok mixed Go.Proofs.Try.func17 ⟨(fns_cons whole_made.ok fns_nil), mfns_nil, tab_eqs_ok⟩ (m := 2) (by kernel_rfl) ⟨⟨trivial, whole_Int_Mul.p0⟩, whole_Int_Mul.p1⟩ (by kernel_rfl) whole_Int_Mul.eq
abbrev q29 : SD := .one (.own 17 0)
def R_ZMul.c7 {ρ : Type} (c : Int) (j : Int) (b1 : List (Int)) (k_ : Bool → Option ρ) : Option ρ :=
  br (decide (j < (↑(List.length b1) : Int)))
   (k_ true)
   (k_ (decide (c > (0 : Int))))
def R_ZMul.c7s : Shape := ⟨[(0, q27), (1, q27), (2, q10), (3, q11), (4, q8), (5, q29), (6, q2), (7, q2), (8, q2)], [(2, q14), (3, q14), (4, q14), (17, q16)]⟩
def R_ZMul.c7x0 : Shape := ⟨[(0, q27), (1, q27), (2, q10), (3, q11), (4, q8), (5, q29), (6, q2), (7, q2), (8, q2), (33, q1)], [(2, q14), (3, q14), (4, q14), (17, q16)]⟩
def R_ZMul.c7r : Ck := Ck.of (T := Bool) R_ZMul.c7s (fun ρ x_ k_ => uP x_ fun a x_ => uP x_ fun b x_ => uP x_ fun i x_ => uP x_ fun c x_ => uP x_ fun j x_ => uP x_ fun a0 x_ => uP x_ fun a1 x_ => uP x_ fun b0 x_ => uP x_ fun b1 x_ => uP x_ fun t40 x_ => uP x_ fun t41 x_ => uP x_ fun t17 x_ => R_ZMul.c7 c j b1 k_) (fun ρ x_ r_ k_ => uP x_ fun a x_ => uP x_ fun b x_ => uP x_ fun i x_ => uP x_ fun c x_ => uP x_ fun j x_ => uP x_ fun a0 x_ => uP x_ fun a1 x_ => uP x_ fun b0 x_ => uP x_ fun b1 x_ => uP x_ fun t40 x_ => uP x_ fun t41 x_ => uP x_ fun t17 x_ => k_ 0 (Shape.inj R_ZMul.c7x0 (a, b, i, c, j, r_, a0, a1, b0, b1, t40, t41, t17, ())))
def R_ZMul.c11 {ρ : Type} (i : Int) (c : Int) (j : Int) (a1 : List (Int)) (b1 : List (Int)) (k_ : Int → Option ρ) : Option ρ :=
  bnd (idx a1 i) fun y =>
  bnd (idx b1 j) fun y_1 =>
  k_ (IntKind.wrap IntKind.i64 (c + IntKind.wrap IntKind.i64 (y * y_1)))
def R_ZMul.c11s : Shape := ⟨[(0, q27), (1, q27), (2, q10), (3, q11), (4, q8), (5, q29), (6, q2), (7, q2), (8, q2)], [(2, q14), (3, q14), (4, q14), (17, q16)]⟩
def R_ZMul.c11x0 : Shape := ⟨[(0, q27), (1, q27), (2, q10), (3, q11), (4, q8), (5, q29), (6, q2), (7, q2), (8, q2)], [(2, q14), (3, q14), (4, q14), (17, q16)]⟩
def R_ZMul.c11r : Ck := Ck.of (T := Int) R_ZMul.c11s (fun ρ x_ k_ => uP x_ fun a x_ => uP x_ fun b x_ => uP x_ fun i x_ => uP x_ fun c x_ => uP x_ fun j x_ => uP x_ fun a0 x_ => uP x_ fun a1 x_ => uP x_ fun b0 x_ => uP x_ fun b1 x_ => uP x_ fun t40 x_ => uP x_ fun t41 x_ => uP x_ fun t17 x_ => R_ZMul.c11 i c j a1 b1 k_) (fun ρ x_ r_ k_ => uP x_ fun a x_ => uP x_ fun b x_ => uP x_ fun i x_ => uP x_ fun c x_ => uP x_ fun j x_ => uP x_ fun a0 x_ => uP x_ fun a1 x_ => uP x_ fun b0 x_ => uP x_ fun b1 x_ => uP x_ fun t40 x_ => uP x_ fun t41 x_ => uP x_ fun t17 x_ => k_ 0 (Shape.inj R_ZMul.c11x0 (a, b, i, r_, j, a0, a1, b0, b1, t40, t41, t17, ())))
def R_ZMul.c240965 {ρ : Type} (i : Int) (c : Int) (j : Int) (a1 : List (Int)) (b1 : List (Int)) (k_ : Int → Option ρ) : Option ρ :=
  br (decide (j < (↑(List.length b1) : Int)))
   (bnd (W.R_ZMul.c11 i c j a1 b1 some) fun y =>
    k_ y)
   (k_ c)
def R_ZMul.c240965s : Shape := ⟨[(0, q27), (1, q27), (2, q10), (3, q11), (4, q8), (5, q29), (6, q2), (7, q2), (8, q2)], [(2, q14), (3, q14), (4, q14), (17, q16)]⟩
def R_ZMul.c240965x0 : Shape := ⟨[(0, q27), (1, q27), (2, q10), (3, q11), (4, q8), (5, q29), (6, q2), (7, q2), (8, q2)], [(2, q14), (3, q14), (4, q14), (17, q16)]⟩
def R_ZMul.c240965r : Ck := Ck.of (T := Int) R_ZMul.c240965s (fun ρ x_ k_ => uP x_ fun a x_ => uP x_ fun b x_ => uP x_ fun i x_ => uP x_ fun c x_ => uP x_ fun j x_ => uP x_ fun a0 x_ => uP x_ fun a1 x_ => uP x_ fun b0 x_ => uP x_ fun b1 x_ => uP x_ fun t40 x_ => uP x_ fun t41 x_ => uP x_ fun t17 x_ => R_ZMul.c240965 i c j a1 b1 k_) (fun ρ x_ r_ k_ => uP x_ fun a x_ => uP x_ fun b x_ => uP x_ fun i x_ => uP x_ fun c x_ => uP x_ fun j x_ => uP x_ fun a0 x_ => uP x_ fun a1 x_ => uP x_ fun b0 x_ => uP x_ fun b1 x_ => uP x_ fun t40 x_ => uP x_ fun t41 x_ => uP x_ fun t17 x_ => k_ 0 (Shape.inj R_ZMul.c240965x0 (a, b, i, r_, j, a0, a1, b0, b1, t40, t41, t17, ())))
def R_ZMul.c100007 {ρ : Type} (i : Int) (c : Int) (j : Int) (a1 : List (Int)) (b1 : List (Int)) (t17 : List (Int)) (k_ : ((Int) × (Int) × (List Int)) ⊕ ((Int) × (Int) × (List Int)) → Option ρ) : Option ρ :=
  bnd (W.R_ZMul.c7 c j b1 some) fun y =>
  br y
   (bnd (inR (List.length t17) (IntKind.wrap IntKind.i64 (i + j))) fun y_1 =>
    bnd (idx t17 (IntKind.wrap IntKind.i64 (i + j))) fun y_2 =>
    bnd (W.R_ZMul.c240965 i (IntKind.wrap IntKind.i64 (c + y_2)) j a1 b1 some) fun y_3 =>
    bnd (inR (List.length t17) (IntKind.wrap IntKind.i64 (i + j))) fun y_4 =>
    bnd (idx t17 (IntKind.wrap IntKind.i64 (i + j))) fun y_5 =>
    k_ (.inl ((IntKind.wrap IntKind.i64 (Int.tdiv y_3 (10000 : Int))), (IntKind.wrap IntKind.i64 (j + (1 : Int))), (List.set t17 (Int.toNat (IntKind.wrap IntKind.i64 (i + j))) (Int.tmod y_3 (10000 : Int))))))
   (k_ (.inr (c, j, t17)))
def R_ZMul.c100007s : Shape := ⟨[(0, q27), (1, q27), (2, q10), (3, q11), (4, q8), (5, q29), (6, q2), (7, q2), (8, q2)], [(2, q14), (3, q14), (4, q14), (17, q16)]⟩
def R_ZMul.c100007x0 : Shape := ⟨[(0, q27), (1, q27), (2, q10), (3, q11), (4, q8), (5, q29), (6, q2), (7, q2), (8, q2)], [(2, q14), (3, q14), (4, q14), (17, q16)]⟩
def R_ZMul.c100007r : Ck := Ck.ofLoop (S := (Int) × (Int) × (List Int)) (T := (Int) × (Int) × (List Int)) R_ZMul.c100007s (fun x_ => uP x_ fun a x_ => uP x_ fun b x_ => uP x_ fun i x_ => uP x_ fun c x_ => uP x_ fun j x_ => uP x_ fun a0 x_ => uP x_ fun a1 x_ => uP x_ fun b0 x_ => uP x_ fun b1 x_ => uP x_ fun t40 x_ => uP x_ fun t41 x_ => uP x_ fun t17 x_ => (c, j, t17)) (fun ρ x_ s_ k_ => uP x_ fun a x_ => uP x_ fun b x_ => uP x_ fun i x_ => uP x_ fun c x_ => uP x_ fun j x_ => uP x_ fun a0 x_ => uP x_ fun a1 x_ => uP x_ fun b0 x_ => uP x_ fun b1 x_ => uP x_ fun t40 x_ => uP x_ fun t41 x_ => uP x_ fun t17 x_ => R_ZMul.c100007 i s_.1 s_.2.1 a1 b1 s_.2.2 k_) (fun ρ x_ r_ k_ => uP x_ fun a x_ => uP x_ fun b x_ => uP x_ fun i x_ => uP x_ fun c x_ => uP x_ fun j x_ => uP x_ fun a0 x_ => uP x_ fun a1 x_ => uP x_ fun b0 x_ => uP x_ fun b1 x_ => uP x_ fun t40 x_ => uP x_ fun t41 x_ => uP x_ fun t17 x_ => k_ 4 (Shape.inj R_ZMul.c100007x0 (a, b, i, r_.1, r_.2.1, a0, a1, b0, b1, t40, t41, r_.2.2, ())))
def R_ZMul.c100003 {ρ : Type} (i : Int) (a1 : List (Int)) (b1 : List (Int)) (t17 : List (Int)) (k_ : ((Int) × (List Int)) ⊕ ((Int) × (List Int)) → Option ρ) : Option ρ :=
  br (decide (i < (↑(List.length a1) : Int)))
   (bnd (iter (fun s ↦ W.R_ZMul.c100007 i (Prod.fst s) (Prod.fst (Prod.snd s)) a1 b1 (Prod.snd (Prod.snd s)) some) ((0 : Int), (0 : Int), t17)) fun y =>
    k_ (.inl ((IntKind.wrap IntKind.i64 (i + (1 : Int))), (Prod.snd (Prod.snd y)))))
   (k_ (.inr (i, t17)))
def R_ZMul.c100003s : Shape := ⟨[(0, q27), (1, q27), (2, q10), (3, q11), (4, q8), (5, q29), (6, q2)], [(2, q14), (3, q14), (4, q14), (17, q16)]⟩
def R_ZMul.c100003x0 : Shape := ⟨[(0, q27), (1, q27), (2, q10), (3, q11), (4, q8), (5, q29), (6, q2)], [(2, q14), (3, q14), (4, q14), (17, q16)]⟩
def R_ZMul.c100003r : Ck := Ck.ofLoop (S := (Int) × (List Int)) (T := (Int) × (List Int)) R_ZMul.c100003s (fun x_ => uP x_ fun a x_ => uP x_ fun b x_ => uP x_ fun i x_ => uP x_ fun a0 x_ => uP x_ fun a1 x_ => uP x_ fun b0 x_ => uP x_ fun b1 x_ => uP x_ fun t40 x_ => uP x_ fun t41 x_ => uP x_ fun t17 x_ => (i, t17)) (fun ρ x_ s_ k_ => uP x_ fun a x_ => uP x_ fun b x_ => uP x_ fun i x_ => uP x_ fun a0 x_ => uP x_ fun a1 x_ => uP x_ fun b0 x_ => uP x_ fun b1 x_ => uP x_ fun t40 x_ => uP x_ fun t41 x_ => uP x_ fun t17 x_ => R_ZMul.c100003 s_.1 a1 b1 s_.2 k_) (fun ρ x_ r_ k_ => uP x_ fun a x_ => uP x_ fun b x_ => uP x_ fun i x_ => uP x_ fun a0 x_ => uP x_ fun a1 x_ => uP x_ fun b0 x_ => uP x_ fun b1 x_ => uP x_ fun t40 x_ => uP x_ fun t41 x_ => uP x_ fun t17 x_ => k_ 2 (Shape.inj R_ZMul.c100003x0 (a, b, r_.1, a0, a1, b0, b1, t40, t41, r_.2, ())))
def R_ZMul (a : (Bool) × (List Int)) (b : (Bool) × (List Int)) : Option ((Bool) × (List Int)) :=
  bnd (okIf (decide ((0 : Int) ≤ IntKind.wrap IntKind.i64 (IntKind.wrap IntKind.i64 ((↑(List.length (Prod.snd a)) : Int) + (↑(List.length (Prod.snd b)) : Int)) + (1 : Int))) && decide (IntKind.wrap IntKind.i64 (IntKind.wrap IntKind.i64 ((↑(List.length (Prod.snd a)) : Int) + (↑(List.length (Prod.snd b)) : Int)) + (1 : Int)) ≤ IntKind.wrap IntKind.i64 (IntKind.wrap IntKind.i64 ((↑(List.length (Prod.snd a)) : Int) + (↑(List.length (Prod.snd b)) : Int)) + (1 : Int))) && decide (IntKind.wrap IntKind.i64 (IntKind.wrap IntKind.i64 ((↑(List.length (Prod.snd a)) : Int) + (↑(List.length (Prod.snd b)) : Int)) + (1 : Int)) * (↑(8 : Nat) : Int) ≤ (140737488355328 : Int)) && decide (IntKind.wrap IntKind.i64 (IntKind.wrap IntKind.i64 ((↑(List.length (Prod.snd a)) : Int) + (↑(List.length (Prod.snd b)) : Int)) + (1 : Int)) ≤ (140737488355328 : Int)))) fun y =>
  bnd (iter (fun s ↦ W.R_ZMul.c100003 (Prod.fst s) (Prod.snd a) (Prod.snd b) (Prod.snd s) some) ((0 : Int), List.replicate (Int.toNat (IntKind.wrap IntKind.i64 (IntKind.wrap IntKind.i64 ((↑(List.length (Prod.snd a)) : Int) + (↑(List.length (Prod.snd b)) : Int)) + (1 : Int)))) (0 : Int))) fun y_1 =>
  bnd (W.R_zmade (!Prod.fst a == Prod.fst b) (Prod.snd y_1)) fun y_2 =>
  some (Prod.fst y_2, Prod.snd y_2)
def R_ZMul.ce : Go.Ql.Callee := ⟨[(.st (.pair .bool (.sl (.int .i64)))), (.st (.pair .bool (.sl (.int .i64))))], [(.st (.pair .bool (.sl (.int .i64))))], fun x_ => R_ZMul x_.1 x_.2⟩
def R_ZMul.G : Env := ⟨78, tab, [(61, R_zmade.ce)], [0, 1, 2, 3, 4, 5, 6, 7, 8, 22, 33, 48], [17], [(11, [⟨[], [], [50, 51, 52, 53, 54, 55, 56, 57, 58, 59, 60], []⟩, ⟨[], [], [49, 52, 55, 56, 57, 58, 59], []⟩, ⟨[1], [], [49, 52, 55, 56, 57, 58, 59], []⟩, ⟨[], [], [49, 50, 51, 55, 56, 57, 58, 59], []⟩, ⟨[2, 1, 3], [], [49, 55, 56, 57, 58, 59], []⟩, ⟨[4, 2, 1, 3], [], [49, 55, 56, 57, 58, 59], []⟩, ⟨[], [], [49, 50, 51, 52, 53, 54, 57], []⟩, ⟨[6], [], [49, 50, 51, 52, 53, 54, 57], []⟩, ⟨[], [], [49, 50, 51, 52, 53, 54, 55, 56], []⟩, ⟨[7, 6, 8], [], [49, 50, 51, 52, 53, 54], []⟩, ⟨[9, 7, 6, 8], [], [49, 50, 51, 52, 53, 54], []⟩, ⟨[5, 4, 2, 1, 3, 10, 9, 7, 6, 8], [], [49], []⟩, ⟨[0, 11, 5, 4, 2, 1, 3, 10, 9, 7, 6, 8], [], [], []⟩, ⟨[12, 0, 11, 5, 4, 2, 1, 3, 10, 9, 7, 6, 8], [], [], []⟩])], [(100003, R_ZMul.c100003r), (100007, R_ZMul.c100007r), (240965, R_ZMul.c240965r), (11, R_ZMul.c11r), (7, R_ZMul.c7r)], [], tab_eqs⟩
theorem R_ZMul.eq (x_ : dens [(.st (.pair .bool (.sl (.int .i64)))), (.st (.pair .bool (.sl (.int .i64))))]) : den R_ZMul.G Go.Proofs.Try.f18 [(.st (.pair .bool (.sl (.int .i64)))), (.st (.pair .bool (.sl (.int .i64))))] [(.st (.pair .bool (.sl (.int .i64))))] x_ = R_ZMul x_.1 x_.2 := by kernel_rfl
theorem R_ZMul.p0 : PieceOk R_ZMul.G (pieceAt (pieces R_ZMul.G.cks (bodyOf Go.Proofs.Try.f18)) 0).1 (pieceAt (pieces R_ZMul.G.cks (bodyOf Go.Proofs.Try.f18)) 0).2 :=
  loop_ok (s := R_ZMul.c100003r) (by kernel_rfl) (by kernel_rfl) (loops_of (sh := R_ZMul.c100003s) (I := fun x_ s_ => (x_.1, x_.2.1, s_.1, x_.2.2.2.1, x_.2.2.2.2.1, x_.2.2.2.2.2.1, x_.2.2.2.2.2.2.1, x_.2.2.2.2.2.2.2.1, x_.2.2.2.2.2.2.2.2.1, s_.2, ())) (fun x_ => rfl) (fun ρ x_ s_ k_ => (nat_br (nat_bnd fun _ => nat_leaf) nat_leaf)) (fun ρ x_ t k => (by kernel_rfl)) (fun x_ s => by kernel_rfl))
theorem R_ZMul.p1 : PieceOk R_ZMul.G (pieceAt (pieces R_ZMul.G.cks (bodyOf Go.Proofs.Try.f18)) 1).1 (pieceAt (pieces R_ZMul.G.cks (bodyOf Go.Proofs.Try.f18)) 1).2 :=
  loop_ok (s := R_ZMul.c100007r) (by kernel_rfl) (by kernel_rfl) (loops_of (sh := R_ZMul.c100007s) (I := fun x_ s_ => (x_.1, x_.2.1, x_.2.2.1, s_.1, s_.2.1, x_.2.2.2.2.2.1, x_.2.2.2.2.2.2.1, x_.2.2.2.2.2.2.2.1, x_.2.2.2.2.2.2.2.2.1, x_.2.2.2.2.2.2.2.2.2.1, x_.2.2.2.2.2.2.2.2.2.2.1, s_.2.2, ())) (fun x_ => rfl) (fun ρ x_ s_ k_ => (nat_bnd fun _ => (nat_br (nat_bnd fun _ => (nat_bnd fun _ => (nat_bnd fun _ => (nat_bnd fun _ => (nat_bnd fun _ => nat_leaf))))) nat_leaf))) (fun ρ x_ t k => (by kernel_rfl)) (fun x_ s => by kernel_rfl))
theorem R_ZMul.p2 : PieceOk R_ZMul.G (pieceAt (pieces R_ZMul.G.cks (bodyOf Go.Proofs.Try.f18)) 2).1 (pieceAt (pieces R_ZMul.G.cks (bodyOf Go.Proofs.Try.f18)) 2).2 :=
  region_ok (s := R_ZMul.c7r) (by kernel_rfl) (by kernel_rfl) (sums_of (sh := R_ZMul.c7s) (fun ρ x_ k_ => (nat_br nat_leaf nat_leaf)) (fun ρ x_ t k => (by kernel_rfl)) (fun x_ => by kernel_rfl))
theorem R_ZMul.p3 : PieceOk R_ZMul.G (pieceAt (pieces R_ZMul.G.cks (bodyOf Go.Proofs.Try.f18)) 3).1 (pieceAt (pieces R_ZMul.G.cks (bodyOf Go.Proofs.Try.f18)) 3).2 :=
  join_ok (s := R_ZMul.c240965r) (by kernel_rfl) (by kernel_rfl) (sums_of (sh := R_ZMul.c240965s) (fun ρ x_ k_ => (nat_br (nat_bnd fun _ => nat_leaf) nat_leaf)) (fun ρ x_ t k => (by kernel_rfl)) (fun x_ => by kernel_rfl))
theorem R_ZMul.p4 : PieceOk R_ZMul.G (pieceAt (pieces R_ZMul.G.cks (bodyOf Go.Proofs.Try.f18)) 4).1 (pieceAt (pieces R_ZMul.G.cks (bodyOf Go.Proofs.Try.f18)) 4).2 :=
  region_ok (s := R_ZMul.c11r) (by kernel_rfl) (by kernel_rfl) (sums_of (sh := R_ZMul.c11s) (fun ρ x_ k_ => (nat_bnd fun _ => (nat_bnd fun _ => nat_leaf))) (fun ρ x_ t k => (by kernel_rfl)) (fun x_ => by kernel_rfl))
theorem R_ZMul.ok : CalleeOk Go.Proofs.Try.prog 18 R_ZMul.ce := fn_ok (G := R_ZMul.G) tab_ok mixed Go.Proofs.Try.func18 ⟨(fns_cons R_zmade.ok fns_nil), mfns_nil, tab_eqs_ok⟩ (m := 5) (by kernel_rfl) ⟨⟨⟨⟨⟨trivial, R_ZMul.p0⟩, R_ZMul.p1⟩, R_ZMul.p2⟩, R_ZMul.p3⟩, R_ZMul.p4⟩ (by kernel_rfl) R_ZMul.eq
def whole_Int_Sign (a : (Bool) × (List Int)) : Option (Int) :=
  br ((↑(List.length (Prod.snd a)) : Int) == (0 : Int))
   (some (0 : Int))
   (br (Prod.fst a)
     (some (-1 : Int))
     (some (1 : Int)))
def whole_Int_Sign.ce : Go.Ql.Callee := ⟨[(.st (.pair .bool (.sl (.int .u32))))], [(.int .i64)], fun x_ => whole_Int_Sign x_⟩
def whole_Int_Sign.G : Env := ⟨11, tab, [], [0, 1, 2, 3, 8], [], [], [], [], tab_eqs⟩
theorem whole_Int_Sign.eq (x_ : dens [(.st (.pair .bool (.sl (.int .u32))))]) : den whole_Int_Sign.G Go.Proofs.Try.f27 [(.st (.pair .bool (.sl (.int .u32))))] [(.int .i64)] x_ = whole_Int_Sign x_ := by kernel_rfl
theorem whole_Int_Sign.ok : CalleeOk Go.Proofs.Try.prog 27 whole_Int_Sign.ce := fn_ok (G := whole_Int_Sign.G) tab_ok mixed Go.Proofs.Try.func27 ⟨fns_nil, mfns_nil, tab_eqs_ok⟩ (m := 0) (by kernel_rfl) trivial (by kernel_rfl) whole_Int_Sign.eq
def whole_Int_Cmp.c1 {ρ : Type} (a0 : Bool) (a1 : List (Int)) (b0 : Bool) (b1 : List (Int)) (k_ : Int → Option ρ) : Option ρ :=
  bnd (W.whole_Int_Sign (a0, a1)) fun y =>
  bnd (W.whole_Int_Sign (b0, b1)) fun y_1 =>
  bnd (W.cmp_Compare_int y y_1) fun y_2 =>
  k_ y_2
def whole_Int_Cmp.c1s : Shape := ⟨[(0, q20), (1, q20), (2, q10), (3, q11), (4, q2)], [(2, q9), (3, q9)]⟩
def whole_Int_Cmp.c1x0 : Shape := ⟨[(0, q20), (1, q20), (2, q10), (3, q11), (4, q2), (5, q2)], [(2, q9), (3, q9)]⟩
def whole_Int_Cmp.c1r : Ck := Ck.of (T := Int) whole_Int_Cmp.c1s (fun ρ x_ k_ => uP x_ fun a x_ => uP x_ fun b x_ => uP x_ fun t4 x_ => uP x_ fun a0 x_ => uP x_ fun a1 x_ => uP x_ fun b0 x_ => uP x_ fun b1 x_ => whole_Int_Cmp.c1 a0 a1 b0 b1 k_) (fun ρ x_ r_ k_ => uP x_ fun a x_ => uP x_ fun b x_ => uP x_ fun t4 x_ => uP x_ fun a0 x_ => uP x_ fun a1 x_ => uP x_ fun b0 x_ => uP x_ fun b1 x_ => k_ 0 (Shape.inj whole_Int_Cmp.c1x0 (a, b, t4, r_, a0, a1, b0, b1, ())))
def whole_Int_Cmp.c2 {ρ : Type} (c : Int) (a0 : Bool) (a1 : List (Int)) (k_ : Bool → Option ρ) : Option ρ :=
  br (c != (0 : Int))
   (k_ true)
   (bnd (W.whole_Int_Sign (a0, a1)) fun y =>
    k_ (y == (0 : Int)))
def whole_Int_Cmp.c2s : Shape := ⟨[(0, q20), (1, q20), (2, q10), (3, q11), (4, q2), (5, q2)], [(2, q9), (3, q9)]⟩
def whole_Int_Cmp.c2x0 : Shape := ⟨[(0, q20), (1, q20), (2, q10), (3, q11), (4, q2), (5, q2), (17, q1)], [(2, q9), (3, q9)]⟩
def whole_Int_Cmp.c2r : Ck := Ck.of (T := Bool) whole_Int_Cmp.c2s (fun ρ x_ k_ => uP x_ fun a x_ => uP x_ fun b x_ => uP x_ fun t4 x_ => uP x_ fun c x_ => uP x_ fun a0 x_ => uP x_ fun a1 x_ => uP x_ fun b0 x_ => uP x_ fun b1 x_ => whole_Int_Cmp.c2 c a0 a1 k_) (fun ρ x_ r_ k_ => uP x_ fun a x_ => uP x_ fun b x_ => uP x_ fun t4 x_ => uP x_ fun c x_ => uP x_ fun a0 x_ => uP x_ fun a1 x_ => uP x_ fun b0 x_ => uP x_ fun b1 x_ => k_ 0 (Shape.inj whole_Int_Cmp.c2x0 (a, b, t4, c, r_, a0, a1, b0, b1, ())))
def whole_Int_Cmp.c4 {ρ : Type} (a0 : Bool) (a1 : List (Int)) (b1 : List (Int)) (k_ : Int → Option ρ) : Option ρ :=
  bnd (W.whole_Int_Sign (a0, a1)) fun y =>
  bnd (W.whole_order a1 b1) fun y_1 =>
  k_ (IntKind.wrap IntKind.i64 (y * y_1))
def whole_Int_Cmp.c4s : Shape := ⟨[(0, q20), (1, q20), (2, q10), (3, q11), (4, q2), (5, q2)], [(2, q9), (3, q9)]⟩
def whole_Int_Cmp.c4x0 : Shape := ⟨[(0, q20), (1, q20), (2, q10), (3, q11), (4, q2), (5, q2)], [(2, q9), (3, q9)]⟩
def whole_Int_Cmp.c4r : Ck := Ck.of (T := Int) whole_Int_Cmp.c4s (fun ρ x_ k_ => uP x_ fun a x_ => uP x_ fun b x_ => uP x_ fun t4 x_ => uP x_ fun c x_ => uP x_ fun a0 x_ => uP x_ fun a1 x_ => uP x_ fun b0 x_ => uP x_ fun b1 x_ => whole_Int_Cmp.c4 a0 a1 b1 k_) (fun ρ x_ r_ k_ => uP x_ fun a x_ => uP x_ fun b x_ => uP x_ fun t4 x_ => uP x_ fun c x_ => uP x_ fun a0 x_ => uP x_ fun a1 x_ => uP x_ fun b0 x_ => uP x_ fun b1 x_ => k_ 0 (Shape.inj whole_Int_Cmp.c4x0 (a, b, r_, c, a0, a1, b0, b1, ())))
def whole_Int_Cmp (a : (Bool) × (List Int)) (b : (Bool) × (List Int)) : Option (Int) :=
  bnd (W.whole_Int_Cmp.c1 (Prod.fst a) (Prod.snd a) (Prod.fst b) (Prod.snd b) some) fun y =>
  bnd (W.whole_Int_Cmp.c2 y (Prod.fst a) (Prod.snd a) some) fun y_1 =>
  br y_1
   (some y)
   (bnd (W.whole_Int_Cmp.c4 (Prod.fst a) (Prod.snd a) (Prod.snd b) some) fun y_2 =>
    some y_2)
def whole_Int_Cmp.ce : Go.Ql.Callee := ⟨[(.st (.pair .bool (.sl (.int .u32)))), (.st (.pair .bool (.sl (.int .u32))))], [(.int .i64)], fun x_ => whole_Int_Cmp x_.1 x_.2⟩
def whole_Int_Cmp.G : Env := ⟨27, tab, [(27, whole_Int_Sign.ce), (66, cmp_Compare_int.ce), (57, whole_order.ce)], [0, 1, 2, 3, 4, 5, 17], [], [(4, [⟨[], [], [21, 22, 23, 24], []⟩, ⟨[0], [], [21, 22, 23, 24], []⟩, ⟨[], [], [19, 20, 23, 24], []⟩, ⟨[2], [], [19, 20, 23, 24], []⟩, ⟨[], [], [19, 20, 21, 22], []⟩, ⟨[4], [], [19, 20, 21, 22], []⟩, ⟨[3, 2, 5, 4, 1, 0], [], [], []⟩, ⟨[1, 0, 6, 3, 2, 5, 4], [], [], []⟩, ⟨[7, 1, 0, 6, 3, 2, 5, 4], [], [], []⟩]),
  (1, [⟨[], [], [8], []⟩, ⟨[0], [], [8], []⟩, ⟨[], [], [6, 7], []⟩, ⟨[2, 1, 0], [], [], []⟩, ⟨[1, 0, 3, 2], [], [], []⟩, ⟨[4, 1, 0, 3, 2], [], [], []⟩])], [(4, whole_Int_Cmp.c4r), (2, whole_Int_Cmp.c2r), (1, whole_Int_Cmp.c1r)], [], tab_eqs⟩
theorem whole_Int_Cmp.eq (x_ : dens [(.st (.pair .bool (.sl (.int .u32)))), (.st (.pair .bool (.sl (.int .u32))))]) : den whole_Int_Cmp.G Go.Proofs.Try.f19 [(.st (.pair .bool (.sl (.int .u32)))), (.st (.pair .bool (.sl (.int .u32))))] [(.int .i64)] x_ = whole_Int_Cmp x_.1 x_.2 := by kernel_rfl
theorem whole_Int_Cmp.p0 : PieceOk whole_Int_Cmp.G (pieceAt (pieces whole_Int_Cmp.G.cks (bodyOf Go.Proofs.Try.f19)) 0).1 (pieceAt (pieces whole_Int_Cmp.G.cks (bodyOf Go.Proofs.Try.f19)) 0).2 :=
  region_ok (s := whole_Int_Cmp.c1r) (by kernel_rfl) (by kernel_rfl) (sums_of (sh := whole_Int_Cmp.c1s) (fun ρ x_ k_ => (nat_bnd fun _ => (nat_bnd fun _ => (nat_bnd fun _ => nat_leaf)))) (fun ρ x_ t k => (by kernel_rfl)) (fun x_ => by kernel_rfl))
theorem whole_Int_Cmp.p1 : PieceOk whole_Int_Cmp.G (pieceAt (pieces whole_Int_Cmp.G.cks (bodyOf Go.Proofs.Try.f19)) 1).1 (pieceAt (pieces whole_Int_Cmp.G.cks (bodyOf Go.Proofs.Try.f19)) 1).2 :=
  region_ok (s := whole_Int_Cmp.c2r) (by kernel_rfl) (by kernel_rfl) (sums_of (sh := whole_Int_Cmp.c2s) (fun ρ x_ k_ => (nat_br nat_leaf (nat_bnd fun _ => nat_leaf))) (fun ρ x_ t k => (by kernel_rfl)) (fun x_ => by kernel_rfl))
theorem whole_Int_Cmp.p2 : PieceOk whole_Int_Cmp.G (pieceAt (pieces whole_Int_Cmp.G.cks (bodyOf Go.Proofs.Try.f19)) 2).1 (pieceAt (pieces whole_Int_Cmp.G.cks (bodyOf Go.Proofs.Try.f19)) 2).2 :=
  region_ok (s := whole_Int_Cmp.c4r) (by kernel_rfl) (by kernel_rfl) (sums_of (sh := whole_Int_Cmp.c4s) (fun ρ x_ k_ => (nat_bnd fun _ => (nat_bnd fun _ => nat_leaf))) (fun ρ x_ t k => (by kernel_rfl)) (fun x_ => by kernel_rfl))
theorem whole_Int_Cmp.ok : CalleeOk Go.Proofs.Try.prog 19 whole_Int_Cmp.ce := fn_ok (G := whole_Int_Cmp.G) tab_ok mixed Go.Proofs.Try.func19 ⟨(fns_cons whole_Int_Sign.ok (fns_cons cmp_Compare_int.ok (fns_cons whole_order.ok fns_nil))), mfns_nil, tab_eqs_ok⟩ (m := 3) (by kernel_rfl) ⟨⟨⟨trivial, whole_Int_Cmp.p0⟩, whole_Int_Cmp.p1⟩, whole_Int_Cmp.p2⟩ (by kernel_rfl) whole_Int_Cmp.eq
def R_zsign (a : (Bool) × (List Int)) : Option (Int) :=
  br ((↑(List.length (Prod.snd a)) : Int) == (0 : Int))
   (some (0 : Int))
   (br (Prod.fst a)
     (some (-1 : Int))
     (some (1 : Int)))
def R_zsign.ce : Go.Ql.Callee := ⟨[(.st (.pair .bool (.sl (.int .i64))))], [(.int .i64)], fun x_ => R_zsign x_⟩
def R_zsign.G : Env := ⟨9, tab, [], [0, 1, 2, 6, 8], [], [], [], [], tab_eqs⟩
theorem R_zsign.eq (x_ : dens [(.st (.pair .bool (.sl (.int .i64))))]) : den R_zsign.G Go.Proofs.Try.f67 [(.st (.pair .bool (.sl (.int .i64))))] [(.int .i64)] x_ = R_zsign x_ := by kernel_rfl
theorem R_zsign.ok : CalleeOk Go.Proofs.Try.prog 67 R_zsign.ce := fn_ok (G := R_zsign.G) tab_ok mixed Go.Proofs.Try.func67 ⟨fns_nil, mfns_nil, tab_eqs_ok⟩ (m := 0) (by kernel_rfl) trivial (by kernel_rfl) R_zsign.eq
def R_ZCmp (a : (Bool) × (List Int)) (b : (Bool) × (List Int)) : Option (Int) :=
  bnd (W.R_ZSub (Prod.fst a, Prod.snd a) (Prod.fst b, Prod.snd b)) fun y =>
  bnd (W.R_zsign y) fun y_1 =>
  some y_1
def R_ZCmp.ce : Go.Ql.Callee := ⟨[(.st (.pair .bool (.sl (.int .i64)))), (.st (.pair .bool (.sl (.int .i64))))], [(.int .i64)], fun x_ => R_ZCmp x_.1 x_.2⟩
def R_ZCmp.G : Env := ⟨9, tab, [(16, R_ZSub.ce), (67, R_zsign.ce)], [0, 1, 2, 3, 4], [], [], [], [], tab_eqs⟩
theorem R_ZCmp.eq (x_ : dens [(.st (.pair .bool (.sl (.int .i64)))), (.st (.pair .bool (.sl (.int .i64))))]) : den R_ZCmp.G Go.Proofs.Try.f20 [(.st (.pair .bool (.sl (.int .i64)))), (.st (.pair .bool (.sl (.int .i64))))] [(.int .i64)] x_ = R_ZCmp x_.1 x_.2 := by kernel_rfl
theorem R_ZCmp.ok : CalleeOk Go.Proofs.Try.prog 20 R_ZCmp.ce := fn_ok (G := R_ZCmp.G) tab_ok mixed Go.Proofs.Try.func20 ⟨(fns_cons R_ZSub.ok (fns_cons R_zsign.ok fns_nil)), mfns_nil, tab_eqs_ok⟩ (m := 0) (by kernel_rfl) trivial (by kernel_rfl) R_ZCmp.eq
abbrev q30 : SD := .one (.ref 5 0)
abbrev q31 : SD := .one (.ref 6 0)
abbrev q32 : SD := .one (.ref 7 0)
abbrev q33 : SD := .one (.ref 8 0)
abbrev q34 : SD := .one (.ref 9 0)
abbrev q35 : SD := .one (.ref 10 0)
abbrev q36 : SD := .one (.ref 11 0)
abbrev q37 : SD := .one (.ref 12 0)
def Law_WholeReckons.c5 {ρ : Type} (f0 : Int) (f1 : Int) (g0 : Int) (g1 : Int) (rf0 : Int) (rf1 : Int) (rg0 : Int) (rg1 : Int) (k_ : Bool → Option ρ) : Option ρ :=
  bnd W.Law_wholeBegun fun y =>
  br (!y)
   (k_ true)
   (br (!Ty.eqT (Ty.pair (Ty.int IntKind.i64) (Ty.int IntKind.i64)) (f0, f1) (rf0, rf1))
     (k_ true)
     (k_ (!Ty.eqT (Ty.pair (Ty.int IntKind.i64) (Ty.int IntKind.i64)) (g0, g1) (rg0, rg1))))
def Law_WholeReckons.c5s : Shape := ⟨[(0, q0), (1, q0), (4, q1), (5, q30), (6, q31), (7, q32), (8, q33), (9, q34), (10, q35), (11, q36), (12, q37)], [(5, q9), (6, q12), (7, q9), (8, q12), (9, q14), (10, q12), (11, q14), (12, q12)]⟩
def Law_WholeReckons.c5x0 : Shape := ⟨[(0, q0), (1, q0), (4, q1), (5, q30), (6, q31), (7, q32), (8, q33), (9, q34), (10, q35), (11, q36), (12, q37), (44, q1)], [(5, q9), (6, q12), (7, q9), (8, q12), (9, q14), (10, q12), (11, q14), (12, q12)]⟩
def Law_WholeReckons.c5r : Ck := Ck.of (T := Bool) Law_WholeReckons.c5s (fun ρ x_ k_ => uP x_ fun text x_ => uP x_ fun other x_ => uP x_ fun t4 x_ => uP x_ fun a0 x_ => uP x_ fun a1 x_ => uP x_ fun f0 x_ => uP x_ fun f1 x_ => uP x_ fun b0 x_ => uP x_ fun b1 x_ => uP x_ fun g0 x_ => uP x_ fun g1 x_ => uP x_ fun y0 x_ => uP x_ fun y1 x_ => uP x_ fun rf0 x_ => uP x_ fun rf1 x_ => uP x_ fun z0 x_ => uP x_ fun z1 x_ => uP x_ fun rg0 x_ => uP x_ fun rg1 x_ => Law_WholeReckons.c5 f0 f1 g0 g1 rf0 rf1 rg0 rg1 k_) (fun ρ x_ r_ k_ => uP x_ fun text x_ => uP x_ fun other x_ => uP x_ fun t4 x_ => uP x_ fun a0 x_ => uP x_ fun a1 x_ => uP x_ fun f0 x_ => uP x_ fun f1 x_ => uP x_ fun b0 x_ => uP x_ fun b1 x_ => uP x_ fun g0 x_ => uP x_ fun g1 x_ => uP x_ fun y0 x_ => uP x_ fun y1 x_ => uP x_ fun rf0 x_ => uP x_ fun rf1 x_ => uP x_ fun z0 x_ => uP x_ fun z1 x_ => uP x_ fun rg0 x_ => uP x_ fun rg1 x_ => k_ 0 (Shape.inj Law_WholeReckons.c5x0 (text, other, t4, r_, a0, a1, f0, f1, b0, b1, g0, g1, y0, y1, rf0, rf1, z0, z1, rg0, rg1, ())))
def Law_WholeReckons.c7 {ρ : Type} (a0 : Bool) (a1 : List (Int)) (b0 : Bool) (b1 : List (Int)) (y0 : Bool) (y1 : List (Int)) (z0 : Bool) (z1 : List (Int)) (k_ : Bool → Option ρ) : Option ρ :=
  bnd (W.whole_Int_Add (a0, a1) (b0, b1)) fun y =>
  bnd (W.whole_Int_Text y) fun y_1 =>
  bnd (W.R_ZAdd (y0, y1) (z0, z1)) fun y_2 =>
  bnd (W.R_ZText y_2) fun y_3 =>
  br (!y_1 == y_3)
   (k_ true)
   (bnd (W.whole_Int_Sub (a0, a1) (b0, b1)) fun y_4 =>
    bnd (W.whole_Int_Text y_4) fun y_5 =>
    bnd (W.R_ZSub (y0, y1) (z0, z1)) fun y_6 =>
    bnd (W.R_ZText y_6) fun y_7 =>
    br (!y_5 == y_7)
     (k_ true)
     (bnd (W.whole_Int_Mul (a0, a1) (b0, b1)) fun y_8 =>
      bnd (W.whole_Int_Text y_8) fun y_9 =>
      bnd (W.R_ZMul (y0, y1) (z0, z1)) fun y_10 =>
      bnd (W.R_ZText y_10) fun y_11 =>
      k_ (!y_9 == y_11)))
def Law_WholeReckons.c7s : Shape := ⟨[(0, q0), (1, q0), (4, q1), (5, q30), (6, q31), (7, q32), (8, q33), (9, q34), (10, q35), (11, q36), (12, q37)], [(5, q9), (6, q12), (7, q9), (8, q12), (9, q14), (10, q12), (11, q14), (12, q12)]⟩
def Law_WholeReckons.c7x0 : Shape := ⟨[(0, q0), (1, q0), (4, q1), (5, q30), (6, q31), (7, q32), (8, q33), (9, q34), (10, q35), (11, q36), (12, q37), (75, q1)], [(5, q9), (6, q12), (7, q9), (8, q12), (9, q14), (10, q12), (11, q14), (12, q12)]⟩
def Law_WholeReckons.c7r : Ck := Ck.of (T := Bool) Law_WholeReckons.c7s (fun ρ x_ k_ => uP x_ fun text x_ => uP x_ fun other x_ => uP x_ fun t4 x_ => uP x_ fun a0 x_ => uP x_ fun a1 x_ => uP x_ fun f0 x_ => uP x_ fun f1 x_ => uP x_ fun b0 x_ => uP x_ fun b1 x_ => uP x_ fun g0 x_ => uP x_ fun g1 x_ => uP x_ fun y0 x_ => uP x_ fun y1 x_ => uP x_ fun rf0 x_ => uP x_ fun rf1 x_ => uP x_ fun z0 x_ => uP x_ fun z1 x_ => uP x_ fun rg0 x_ => uP x_ fun rg1 x_ => Law_WholeReckons.c7 a0 a1 b0 b1 y0 y1 z0 z1 k_) (fun ρ x_ r_ k_ => uP x_ fun text x_ => uP x_ fun other x_ => uP x_ fun t4 x_ => uP x_ fun a0 x_ => uP x_ fun a1 x_ => uP x_ fun f0 x_ => uP x_ fun f1 x_ => uP x_ fun b0 x_ => uP x_ fun b1 x_ => uP x_ fun g0 x_ => uP x_ fun g1 x_ => uP x_ fun y0 x_ => uP x_ fun y1 x_ => uP x_ fun rf0 x_ => uP x_ fun rf1 x_ => uP x_ fun z0 x_ => uP x_ fun z1 x_ => uP x_ fun rg0 x_ => uP x_ fun rg1 x_ => k_ 0 (Shape.inj Law_WholeReckons.c7x0 (text, other, t4, r_, a0, a1, f0, f1, b0, b1, g0, g1, y0, y1, rf0, rf1, z0, z1, rg0, rg1, ())))
def Law_WholeReckons.c9 {ρ : Type} (a0 : Bool) (a1 : List (Int)) (b0 : Bool) (b1 : List (Int)) (y0 : Bool) (y1 : List (Int)) (z0 : Bool) (z1 : List (Int)) (k_ : Bool → Option ρ) : Option ρ :=
  bnd (W.whole_Int_Cmp (a0, a1) (b0, b1)) fun y =>
  bnd (W.R_ZCmp (y0, y1) (z0, z1)) fun y_1 =>
  br (y == y_1)
   (bnd (W.whole_Int_Cmp (b0, b1) (a0, a1)) fun y_2 =>
    bnd (W.R_ZCmp (z0, z1) (y0, y1)) fun y_3 =>
    br (y_2 == y_3)
     (bnd (W.whole_Int_Text (a0, a1)) fun y_4 =>
      bnd (W.R_ZText (y0, y1)) fun y_5 =>
      br (y_4 == y_5)
       (bnd (W.whole_Int_Text (b0, b1)) fun y_6 =>
        bnd (W.R_ZText (z0, z1)) fun y_7 =>
        k_ (y_6 == y_7))
       (k_ false))
     (k_ false))
   (k_ false)
def Law_WholeReckons.c9s : Shape := ⟨[(0, q0), (1, q0), (4, q1), (5, q30), (6, q31), (7, q32), (8, q33), (9, q34), (10, q35), (11, q36), (12, q37)], [(5, q9), (6, q12), (7, q9), (8, q12), (9, q14), (10, q12), (11, q14), (12, q12)]⟩
def Law_WholeReckons.c9x0 : Shape := ⟨[(0, q0), (1, q0), (4, q1), (5, q30), (6, q31), (7, q32), (8, q33), (9, q34), (10, q35), (11, q36), (12, q37)], [(5, q9), (6, q12), (7, q9), (8, q12), (9, q14), (10, q12), (11, q14), (12, q12)]⟩
def Law_WholeReckons.c9r : Ck := Ck.of (T := Bool) Law_WholeReckons.c9s (fun ρ x_ k_ => uP x_ fun text x_ => uP x_ fun other x_ => uP x_ fun t4 x_ => uP x_ fun a0 x_ => uP x_ fun a1 x_ => uP x_ fun f0 x_ => uP x_ fun f1 x_ => uP x_ fun b0 x_ => uP x_ fun b1 x_ => uP x_ fun g0 x_ => uP x_ fun g1 x_ => uP x_ fun y0 x_ => uP x_ fun y1 x_ => uP x_ fun rf0 x_ => uP x_ fun rf1 x_ => uP x_ fun z0 x_ => uP x_ fun z1 x_ => uP x_ fun rg0 x_ => uP x_ fun rg1 x_ => Law_WholeReckons.c9 a0 a1 b0 b1 y0 y1 z0 z1 k_) (fun ρ x_ r_ k_ => uP x_ fun text x_ => uP x_ fun other x_ => uP x_ fun t4 x_ => uP x_ fun a0 x_ => uP x_ fun a1 x_ => uP x_ fun f0 x_ => uP x_ fun f1 x_ => uP x_ fun b0 x_ => uP x_ fun b1 x_ => uP x_ fun g0 x_ => uP x_ fun g1 x_ => uP x_ fun y0 x_ => uP x_ fun y1 x_ => uP x_ fun rf0 x_ => uP x_ fun rf1 x_ => uP x_ fun z0 x_ => uP x_ fun z1 x_ => uP x_ fun rg0 x_ => uP x_ fun rg1 x_ => k_ 0 (Shape.inj Law_WholeReckons.c9x0 (text, other, r_, a0, a1, f0, f1, b0, b1, g0, g1, y0, y1, rf0, rf1, z0, z1, rg0, rg1, ())))
def Law_WholeReckons (text : List UInt8) (other : List UInt8) : Option (Bool) :=
  bnd (W.whole_Parse text) fun y =>
  bnd (W.whole_Parse other) fun y_1 =>
  bnd (W.R_ZParse text) fun y_2 =>
  bnd (W.R_ZParse other) fun y_3 =>
  bnd (W.Law_WholeReckons.c5 (Prod.fst (Prod.snd y)) (Prod.snd (Prod.snd y)) (Prod.fst (Prod.snd y_1)) (Prod.snd (Prod.snd y_1)) (Prod.fst (Prod.snd y_2)) (Prod.snd (Prod.snd y_2)) (Prod.fst (Prod.snd y_3)) (Prod.snd (Prod.snd y_3)) some) fun y_4 =>
  br y_4
   (some false)
   (bnd (W.Law_WholeReckons.c7 (Prod.fst (Prod.fst y)) (Prod.snd (Prod.fst y)) (Prod.fst (Prod.fst y_1)) (Prod.snd (Prod.fst y_1)) (Prod.fst (Prod.fst y_2)) (Prod.snd (Prod.fst y_2)) (Prod.fst (Prod.fst y_3)) (Prod.snd (Prod.fst y_3)) some) fun y_5 =>
    br y_5
     (some false)
     (bnd (W.Law_WholeReckons.c9 (Prod.fst (Prod.fst y)) (Prod.snd (Prod.fst y)) (Prod.fst (Prod.fst y_1)) (Prod.snd (Prod.fst y_1)) (Prod.fst (Prod.fst y_2)) (Prod.snd (Prod.fst y_2)) (Prod.fst (Prod.fst y_3)) (Prod.snd (Prod.fst y_3)) some) fun y_6 =>
      some y_6))
def Law_WholeReckons.ce : Go.Ql.Callee := ⟨[.str, .str], [.bool], fun x_ => Law_WholeReckons x_.1 x_.2⟩
def Law_WholeReckons.G : Env := ⟨106, tab, [(8, whole_Parse.ce), (9, R_ZParse.ce), (10, Law_wholeBegun.ce), (11, whole_Int_Add.ce), (12, whole_Int_Text.ce), (14, R_ZAdd.ce), (13, R_ZText.ce), (15, whole_Int_Sub.ce), (16, R_ZSub.ce), (17, whole_Int_Mul.ce), (18, R_ZMul.ce), (19, whole_Int_Cmp.ce), (20, R_ZCmp.ce)], [0, 1, 4, 5, 6, 7, 8, 9, 10, 11, 12, 44, 75], [], [(9, [⟨[], [], [77, 79, 80], []⟩, ⟨[], [], [76, 79, 80], []⟩, ⟨[0, 1], [], [79, 80], []⟩, ⟨[], [], [76, 77, 78, 80], []⟩, ⟨[], [], [76, 77, 78, 79], []⟩, ⟨[3, 4, 2, 0, 1], [], [], []⟩, ⟨[2, 0, 1, 5, 3, 4], [], [], []⟩, ⟨[6, 2, 0, 1, 5, 3, 4], [], [], []⟩, ⟨[7, 6, 2, 0, 1, 5, 3, 4], [], [85, 87, 88], []⟩, ⟨[7, 6, 2, 0, 1, 5, 3, 4], [], [84, 87, 88], []⟩, ⟨[8, 7, 6, 2, 0, 1, 5, 3, 4, 9], [], [87, 88], []⟩, ⟨[7, 6, 2, 0, 1, 5, 3, 4], [], [84, 85, 86, 88], []⟩, ⟨[7, 6, 2, 0, 1, 5, 3, 4], [], [84, 85, 86, 87], []⟩, ⟨[11, 7, 6, 2, 0, 1, 5, 3, 4, 12, 10, 8, 9], [], [], []⟩, ⟨[10, 8, 7, 6, 2, 0, 1, 5, 3, 4, 9, 13, 11, 12], [], [], []⟩, ⟨[7, 6, 2, 0, 1, 5, 3, 4, 14, 10, 8, 9, 13, 11, 12], [], [], []⟩, ⟨[15, 7, 6, 2, 0, 1, 5, 3, 4, 14, 10, 8, 9, 13, 11, 12], [], [], []⟩, ⟨[16, 15, 7, 6, 2, 0, 1, 5, 3, 4, 14, 10, 8, 9, 13, 11, 12], [], [95], []⟩, ⟨[17, 16, 15, 7, 6, 2, 0, 1, 5, 3, 4, 14, 10, 8, 9, 13, 11, 12], [], [95], []⟩, ⟨[16, 15, 7, 6, 2, 0, 1, 5, 3, 4, 14, 10, 8, 9, 13, 11, 12], [], [93, 94], []⟩, ⟨[19, 16, 15, 7, 6, 2, 0, 1, 5, 3, 4, 14, 10, 8, 9, 13, 11, 12, 18, 17], [], [], []⟩, ⟨[18, 17, 16, 15, 7, 6, 2, 0, 1, 5, 3, 4, 14, 10, 8, 9, 13, 11, 12, 20, 19], [], [], []⟩, ⟨[16, 15, 7, 6, 2, 0, 1, 5, 3, 4, 14, 10, 8, 9, 13, 11, 12, 21, 18, 17, 20, 19], [], [], []⟩, ⟨[22, 16, 15, 7, 6, 2, 0, 1, 5, 3, 4, 14, 10, 8, 9, 13, 11, 12, 21, 18, 17, 20, 19], [], [], []⟩, ⟨[23, 22, 16, 15, 7, 6, 2, 0, 1, 5, 3, 4, 14, 10, 8, 9, 13, 11, 12, 21, 18, 17, 20, 19], [], [102], []⟩, ⟨[24, 23, 22, 16, 15, 7, 6, 2, 0, 1, 5, 3, 4, 14, 10, 8, 9, 13, 11, 12, 21, 18, 17, 20, 19], [], [102], []⟩, ⟨[23, 22, 16, 15, 7, 6, 2, 0, 1, 5, 3, 4, 14, 10, 8, 9, 13, 11, 12, 21, 18, 17, 20, 19], [], [100, 101], []⟩, ⟨[26, 23, 22, 16, 15, 7, 6, 2, 0, 1, 5, 3, 4, 14, 10, 8, 9, 13, 11, 12, 21, 18, 17, 20, 19, 25, 24], [], [], []⟩, ⟨[25, 24, 23, 22, 16, 15, 7, 6, 2, 0, 1, 5, 3, 4, 14, 10, 8, 9, 13, 11, 12, 21, 18, 17, 20, 19, 27, 26], [], [], []⟩, ⟨[23, 22, 16, 15, 7, 6, 2, 0, 1, 5, 3, 4, 14, 10, 8, 9, 13, 11, 12, 21, 18, 17, 20, 19, 28, 25, 24, 27, 26], [], [], []⟩, ⟨[29, 23, 22, 16, 15, 7, 6, 2, 0, 1, 5, 3, 4, 14, 10, 8, 9, 13, 11, 12, 21, 18, 17, 20, 19, 28, 25, 24, 27, 26], [], [], []⟩]),
  (7, [⟨[], [], [46, 49, 50], []⟩, ⟨[], [], [45, 49, 50], []⟩, ⟨[0, 1], [], [49, 50], []⟩, ⟨[2, 0, 1], [], [49, 50], []⟩, ⟨[], [], [45, 46, 47, 48, 50], []⟩, ⟨[], [], [45, 46, 47, 48, 49], []⟩, ⟨[4, 5, 3, 2, 0, 1], [], [], []⟩, ⟨[6, 4, 5, 3, 2, 0, 1], [], [], []⟩, ⟨[3, 2, 0, 1, 7, 6, 4, 5], [], [], []⟩, ⟨[8, 3, 2, 0, 1, 7, 6, 4, 5], [], [], []⟩, ⟨[9, 8, 3, 2, 0, 1, 7, 6, 4, 5], [], [56, 59, 60], []⟩, ⟨[9, 8, 3, 2, 0, 1, 7, 6, 4, 5], [], [55, 59, 60], []⟩, ⟨[10, 9, 8, 3, 2, 0, 1, 7, 6, 4, 5, 11], [], [59, 60], []⟩, ⟨[12, 10, 9, 8, 3, 2, 0, 1, 7, 6, 4, 5, 11], [], [59, 60], []⟩, ⟨[9, 8, 3, 2, 0, 1, 7, 6, 4, 5], [], [55, 56, 57, 58, 60], []⟩, ⟨[9, 8, 3, 2, 0, 1, 7, 6, 4, 5], [], [55, 56, 57, 58, 59], []⟩, ⟨[14, 9, 8, 3, 2, 0, 1, 7, 6, 4, 5, 15, 13, 12, 10, 11], [], [], []⟩, ⟨[16, 14, 9, 8, 3, 2, 0, 1, 7, 6, 4, 5, 15, 13, 12, 10, 11], [], [], []⟩, ⟨[13, 12, 10, 9, 8, 3, 2, 0, 1, 7, 6, 4, 5, 11, 17, 16, 14, 15], [], [], []⟩, ⟨[9, 8, 3, 2, 0, 1, 7, 6, 4, 5, 18, 13, 12, 10, 11, 17, 16, 14, 15], [], [], []⟩, ⟨[19, 9, 8, 3, 2, 0, 1, 7, 6, 4, 5, 18, 13, 12, 10, 11, 17, 16, 14, 15], [], [], []⟩, ⟨[20, 19, 9, 8, 3, 2, 0, 1, 7, 6, 4, 5, 18, 13, 12, 10, 11, 17, 16, 14, 15], [], [67, 70, 71], []⟩, ⟨[20, 19, 9, 8, 3, 2, 0, 1, 7, 6, 4, 5, 18, 13, 12, 10, 11, 17, 16, 14, 15], [], [66, 70, 71], []⟩, ⟨[21, 20, 19, 9, 8, 3, 2, 0, 1, 7, 6, 4, 5, 18, 13, 12, 10, 11, 17, 16, 14, 15, 22], [], [70, 71], []⟩, ⟨[23, 21, 20, 19, 9, 8, 3, 2, 0, 1, 7, 6, 4, 5, 18, 13, 12, 10, 11, 17, 16, 14, 15, 22], [], [70, 71], []⟩, ⟨[20, 19, 9, 8, 3, 2, 0, 1, 7, 6, 4, 5, 18, 13, 12, 10, 11, 17, 16, 14, 15], [], [66, 67, 68, 69, 71], []⟩, ⟨[20, 19, 9, 8, 3, 2, 0, 1, 7, 6, 4, 5, 18, 13, 12, 10, 11, 17, 16, 14, 15], [], [66, 67, 68, 69, 70], []⟩, ⟨[25, 20, 19, 9, 8, 3, 2, 0, 1, 7, 6, 4, 5, 18, 13, 12, 10, 11, 17, 16, 14, 15, 26, 24, 23, 21, 22], [], [], []⟩, ⟨[27, 25, 20, 19, 9, 8, 3, 2, 0, 1, 7, 6, 4, 5, 18, 13, 12, 10, 11, 17, 16, 14, 15, 26, 24, 23, 21, 22], [], [], []⟩, ⟨[24, 23, 21, 20, 19, 9, 8, 3, 2, 0, 1, 7, 6, 4, 5, 18, 13, 12, 10, 11, 17, 16, 14, 15, 22, 28, 27, 25, 26], [], [], []⟩, ⟨[20, 19, 9, 8, 3, 2, 0, 1, 7, 6, 4, 5, 18, 13, 12, 10, 11, 17, 16, 14, 15, 29, 24, 23, 21, 22, 28, 27, 25, 26], [], [], []⟩])], [(9, Law_WholeReckons.c9r), (7, Law_WholeReckons.c7r), (5, Law_WholeReckons.c5r)], [], tab_eqs⟩
theorem Law_WholeReckons.eq (x_ : dens [.str, .str]) : den Law_WholeReckons.G Go.Proofs.Try.f3 [.str, .str] [.bool] x_ = Law_WholeReckons x_.1 x_.2 := by kernel_rfl
theorem Law_WholeReckons.p0 : PieceOk Law_WholeReckons.G (pieceAt (pieces Law_WholeReckons.G.cks (bodyOf Go.Proofs.Try.f3)) 0).1 (pieceAt (pieces Law_WholeReckons.G.cks (bodyOf Go.Proofs.Try.f3)) 0).2 :=
  region_ok (s := Law_WholeReckons.c5r) (by kernel_rfl) (by kernel_rfl) (sums_of (sh := Law_WholeReckons.c5s) (fun ρ x_ k_ => (nat_bnd fun _ => (nat_br nat_leaf (nat_br nat_leaf nat_leaf)))) (fun ρ x_ t k => (by kernel_rfl)) (fun x_ => by kernel_rfl))
theorem Law_WholeReckons.p1 : PieceOk Law_WholeReckons.G (pieceAt (pieces Law_WholeReckons.G.cks (bodyOf Go.Proofs.Try.f3)) 1).1 (pieceAt (pieces Law_WholeReckons.G.cks (bodyOf Go.Proofs.Try.f3)) 1).2 :=
  region_ok (s := Law_WholeReckons.c7r) (by kernel_rfl) (by kernel_rfl) (sums_of (sh := Law_WholeReckons.c7s) (fun ρ x_ k_ => (nat_bnd fun _ => (nat_bnd fun _ => (nat_bnd fun _ => (nat_bnd fun _ => (nat_br nat_leaf (nat_bnd fun _ => (nat_bnd fun _ => (nat_bnd fun _ => (nat_bnd fun _ => (nat_br nat_leaf (nat_bnd fun _ => (nat_bnd fun _ => (nat_bnd fun _ => (nat_bnd fun _ => nat_leaf))))))))))))))) (fun ρ x_ t k => (by kernel_rfl)) (fun x_ => by kernel_rfl))
theorem Law_WholeReckons.p2 : PieceOk Law_WholeReckons.G (pieceAt (pieces Law_WholeReckons.G.cks (bodyOf Go.Proofs.Try.f3)) 2).1 (pieceAt (pieces Law_WholeReckons.G.cks (bodyOf Go.Proofs.Try.f3)) 2).2 :=
  region_ok (s := Law_WholeReckons.c9r) (by kernel_rfl) (by kernel_rfl) (sums_of (sh := Law_WholeReckons.c9s) (fun ρ x_ k_ => (nat_bnd fun _ => (nat_bnd fun _ => (nat_br (nat_bnd fun _ => (nat_bnd fun _ => (nat_br (nat_bnd fun _ => (nat_bnd fun _ => (nat_br (nat_bnd fun _ => (nat_bnd fun _ => nat_leaf)) nat_leaf))) nat_leaf))) nat_leaf)))) (fun ρ x_ t k => (by kernel_rfl)) (fun x_ => by kernel_rfl))
theorem Law_WholeReckons.ok : CalleeOk Go.Proofs.Try.prog 3 Law_WholeReckons.ce := fn_ok (G := Law_WholeReckons.G) tab_ok mixed Go.Proofs.Try.func3 ⟨(fns_cons whole_Parse.ok (fns_cons R_ZParse.ok (fns_cons Law_wholeBegun.ok (fns_cons whole_Int_Add.ok (fns_cons whole_Int_Text.ok (fns_cons R_ZAdd.ok (fns_cons R_ZText.ok (fns_cons whole_Int_Sub.ok (fns_cons R_ZSub.ok (fns_cons whole_Int_Mul.ok (fns_cons R_ZMul.ok (fns_cons whole_Int_Cmp.ok (fns_cons R_ZCmp.ok fns_nil))))))))))))), mfns_nil, tab_eqs_ok⟩ (m := 3) (by kernel_rfl) ⟨⟨⟨trivial, Law_WholeReckons.p0⟩, Law_WholeReckons.p1⟩, Law_WholeReckons.p2⟩ (by kernel_rfl) Law_WholeReckons.eq
def bits_Div32.c1 {ρ : Type} (hi : Int) (y : Int) (k_ : Bool → Option ρ) : Option ρ :=
  br (y != (0 : Int))
   (k_ (decide (y ≤ hi)))
   (k_ false)
def bits_Div32.c1s : Shape := ⟨[(0, q24), (1, q24), (2, q24), (6, q24), (7, q24)], []⟩
def bits_Div32.c1x0 : Shape := ⟨[(0, q24), (1, q24), (2, q24), (6, q24), (7, q24), (15, q1)], []⟩
def bits_Div32.c1r : Ck := Ck.of (T := Bool) bits_Div32.c1s (fun ρ x_ k_ => uP x_ fun hi x_ => uP x_ fun lo x_ => uP x_ fun y x_ => uP x_ fun quo x_ => uP x_ fun rem x_ => bits_Div32.c1 hi y k_) (fun ρ x_ r_ k_ => uP x_ fun hi x_ => uP x_ fun lo x_ => uP x_ fun y x_ => uP x_ fun quo x_ => uP x_ fun rem x_ => k_ 0 (Shape.inj bits_Div32.c1x0 (hi, lo, y, quo, rem, r_, ())))
def bits_Div32.c204101 {ρ : Type} (hi : Int) (y : Int) (k_ : Unit → Option ρ) : Option ρ :=
  bnd (W.bits_Div32.c1 hi y some) fun y_1 =>
  br y_1
   (none)
   (k_ ())
def bits_Div32.c204101s : Shape := ⟨[(0, q24), (1, q24), (2, q24), (6, q24), (7, q24)], []⟩
def bits_Div32.c204101x0 : Shape := ⟨[(0, q24), (1, q24), (2, q24), (6, q24), (7, q24)], []⟩
def bits_Div32.c204101r : Ck := Ck.of (T := Unit) bits_Div32.c204101s (fun ρ x_ k_ => uP x_ fun hi x_ => uP x_ fun lo x_ => uP x_ fun y x_ => uP x_ fun quo x_ => uP x_ fun rem x_ => bits_Div32.c204101 hi y k_) (fun ρ x_ r_ k_ => uP x_ fun hi x_ => uP x_ fun lo x_ => uP x_ fun y x_ => uP x_ fun quo x_ => uP x_ fun rem x_ => k_ 0 (Shape.inj bits_Div32.c204101x0 (hi, lo, y, quo, rem, ())))
def bits_Div32.c4 {ρ : Type} (y : Int) (k_ : Unit → Option ρ) : Option ρ :=
  bnd (okIf (IntKind.wrap IntKind.u64 y != (0 : Int))) fun y_1 =>
  bnd (okIf (IntKind.wrap IntKind.u64 y != (0 : Int))) fun y_2 =>
  k_ ()
def bits_Div32.c4s : Shape := ⟨[(0, q24), (1, q24), (2, q24), (6, q24), (7, q24), (8, q5)], []⟩
def bits_Div32.c4x0 : Shape := ⟨[(0, q24), (1, q24), (2, q24), (6, q24), (7, q24), (8, q5)], []⟩
def bits_Div32.c4r : Ck := Ck.of (T := Unit) bits_Div32.c4s (fun ρ x_ k_ => uP x_ fun hi x_ => uP x_ fun lo x_ => uP x_ fun y x_ => uP x_ fun quo x_ => uP x_ fun rem x_ => uP x_ fun z x_ => bits_Div32.c4 y k_) (fun ρ x_ r_ k_ => uP x_ fun hi x_ => uP x_ fun lo x_ => uP x_ fun y x_ => uP x_ fun quo x_ => uP x_ fun rem x_ => uP x_ fun z x_ => k_ 0 (Shape.inj bits_Div32.c4x0 (hi, lo, y, (IntKind.wrap IntKind.u32 (IntKind.wrap IntKind.u64 (Int.tdiv z (IntKind.wrap IntKind.u64 y)))), (IntKind.wrap IntKind.u32 (Int.tmod z (IntKind.wrap IntKind.u64 y))), z, ())))
def bits_Div32 (hi : Int) (lo : Int) (y : Int) : Option ((Int) × (Int)) :=
  bnd (W.bits_Div32.c204101 hi y some) fun y_1 =>
  bnd (W.bits_Div32.c4 y some) fun y_2 =>
  some (IntKind.wrap IntKind.u32 (IntKind.wrap IntKind.u64 (Int.tdiv (ibits BinOp.or IntKind.u64 (IntKind.wrap IntKind.u64 (IntKind.wrap IntKind.u64 hi * (2 : Int) ^ (32 : Nat))) (IntKind.wrap IntKind.u64 lo)) (IntKind.wrap IntKind.u64 y))), IntKind.wrap IntKind.u32 (Int.tmod (ibits BinOp.or IntKind.u64 (IntKind.wrap IntKind.u64 (IntKind.wrap IntKind.u64 hi * (2 : Int) ^ (32 : Nat))) (IntKind.wrap IntKind.u64 lo)) (IntKind.wrap IntKind.u64 y)))
def bits_Div32.ce : Go.Ql.Callee := ⟨[(.int .u32), (.int .u32), (.int .u32)], [(.int .u32), (.int .u32)], fun x_ => bits_Div32 x_.1 x_.2.1 x_.2.2⟩
def bits_Div32.G : Env := ⟨33, tab, [], [0, 1, 2, 6, 7, 8, 15], [], [(4, [⟨[], [], [24, 25, 28, 29, 30, 31, 32], []⟩, ⟨[], [], [23, 28, 29, 30, 31, 32], []⟩, ⟨[1], [], [23, 28, 29, 30, 31, 32], []⟩, ⟨[0, 2, 1], [], [28, 29, 30, 31, 32], []⟩, ⟨[3, 0, 2, 1], [], [28, 29, 30, 31, 32], []⟩, ⟨[], [], [23, 24, 25, 26, 27, 29, 30, 6], []⟩, ⟨[], [], [23, 24, 25, 26, 27, 28, 6], []⟩, ⟨[6], [], [23, 24, 25, 26, 27, 28, 6], []⟩, ⟨[5, 7, 6], [], [23, 24, 25, 26, 27, 6], []⟩, ⟨[8, 5, 7, 6], [], [23, 24, 25, 26, 27, 6], []⟩, ⟨[4, 3, 0, 2, 1], [], [28, 29, 30, 31, 32], []⟩, ⟨[9, 8, 5, 7, 6, 10, 4, 3, 0, 2, 1], [], [], []⟩])], [(4, bits_Div32.c4r), (204101, bits_Div32.c204101r), (1, bits_Div32.c1r)], [], tab_eqs⟩
theorem bits_Div32.eq (x_ : dens [(.int .u32), (.int .u32), (.int .u32)]) : den bits_Div32.G Go.Proofs.Try.f83 [(.int .u32), (.int .u32), (.int .u32)] [(.int .u32), (.int .u32)] x_ = bits_Div32 x_.1 x_.2.1 x_.2.2 := by kernel_rfl
theorem bits_Div32.p0 : PieceOk bits_Div32.G (pieceAt (pieces bits_Div32.G.cks (bodyOf Go.Proofs.Try.f83)) 0).1 (pieceAt (pieces bits_Div32.G.cks (bodyOf Go.Proofs.Try.f83)) 0).2 :=
  join_ok (s := bits_Div32.c204101r) (by kernel_rfl) (by kernel_rfl) (sums_of (sh := bits_Div32.c204101s) (fun ρ x_ k_ => (nat_bnd fun _ => (nat_br nat_none nat_leaf))) (fun ρ x_ t k => (by kernel_rfl)) (fun x_ => by kernel_rfl))
theorem bits_Div32.p1 : PieceOk bits_Div32.G (pieceAt (pieces bits_Div32.G.cks (bodyOf Go.Proofs.Try.f83)) 1).1 (pieceAt (pieces bits_Div32.G.cks (bodyOf Go.Proofs.Try.f83)) 1).2 :=
  region_ok (s := bits_Div32.c1r) (by kernel_rfl) (by kernel_rfl) (sums_of (sh := bits_Div32.c1s) (fun ρ x_ k_ => (nat_br nat_leaf nat_leaf)) (fun ρ x_ t k => (by kernel_rfl)) (fun x_ => by kernel_rfl))
theorem bits_Div32.p2 : PieceOk bits_Div32.G (pieceAt (pieces bits_Div32.G.cks (bodyOf Go.Proofs.Try.f83)) 2).1 (pieceAt (pieces bits_Div32.G.cks (bodyOf Go.Proofs.Try.f83)) 2).2 :=
  region_ok (s := bits_Div32.c4r) (by kernel_rfl) (by kernel_rfl) (sums_of (sh := bits_Div32.c4s) (fun ρ x_ k_ => (nat_bnd fun _ => (nat_bnd fun _ => nat_leaf))) (fun ρ x_ t k => (by kernel_rfl)) (fun x_ => by kernel_rfl))
theorem bits_Div32.ok : CalleeOk Go.Proofs.Try.prog 83 bits_Div32.ce := fn_ok (G := bits_Div32.G) tab_ok mixed Go.Proofs.Try.func83 ⟨fns_nil, mfns_nil, tab_eqs_ok⟩ (m := 3) (by kernel_rfl) ⟨⟨⟨trivial, bits_Div32.p0⟩, bits_Div32.p1⟩, bits_Div32.p2⟩ (by kernel_rfl) bits_Div32.eq
abbrev q38 : SD := .one (.own 11 0)
def whole_short.c100004 {ρ : Type} (a : List (Int)) (d : Int) (r : Int) (i : Int) (t11 : List (Int)) (k_ : ((Int) × (Int) × (List Int)) ⊕ ((Int) × (Int) × (List Int)) → Option ρ) : Option ρ :=
  br (decide (i ≥ (0 : Int)))
   (bnd (idx a i) fun y =>
    bnd (W.bits_Div32 r y d) fun y_1 =>
    bnd (inR (List.length t11) i) fun y_2 =>
    bnd (idx t11 i) fun y_3 =>
    k_ (.inl ((Prod.snd y_1), (IntKind.wrap IntKind.i64 (i - (1 : Int))), (List.set t11 (Int.toNat i) (Prod.fst y_1)))))
   (k_ (.inr (r, i, t11)))
def whole_short.c100004s : Shape := ⟨[(0, q3), (1, q24), (4, q3), (5, q24), (6, q38), (7, q24), (8, q2)], [(11, q7)]⟩
def whole_short.c100004x0 : Shape := ⟨[(0, q3), (1, q24), (4, q3), (5, q24), (6, q38), (7, q24), (8, q2)], [(11, q7)]⟩
def whole_short.c100004r : Ck := Ck.ofLoop (S := (Int) × (Int) × (List Int)) (T := (Int) × (Int) × (List Int)) whole_short.c100004s (fun x_ => uP x_ fun a x_ => uP x_ fun d x_ => uP x_ fun t4 x_ => uP x_ fun t5 x_ => uP x_ fun r x_ => uP x_ fun i x_ => uP x_ fun t11 x_ => (r, i, t11)) (fun ρ x_ s_ k_ => uP x_ fun a x_ => uP x_ fun d x_ => uP x_ fun t4 x_ => uP x_ fun t5 x_ => uP x_ fun r x_ => uP x_ fun i x_ => uP x_ fun t11 x_ => whole_short.c100004 a d s_.1 s_.2.1 s_.2.2 k_) (fun ρ x_ r_ k_ => uP x_ fun a x_ => uP x_ fun d x_ => uP x_ fun t4 x_ => uP x_ fun t5 x_ => uP x_ fun r x_ => uP x_ fun i x_ => uP x_ fun t11 x_ => k_ 2 (Shape.inj whole_short.c100004x0 (a, d, t4, t5, r_.1, r_.2.1, r_.2.2, ())))
def whole_short (a : List (Int)) (d : Int) : Option ((List Int) × (Int)) :=
  bnd (okIf (decide ((0 : Int) ≤ (↑(List.length a) : Int)) && decide ((↑(List.length a) : Int) ≤ (↑(List.length a) : Int)) && decide ((↑(List.length a) : Int) * (↑(4 : Nat) : Int) ≤ (140737488355328 : Int)) && decide ((↑(List.length a) : Int) ≤ (140737488355328 : Int)))) fun y =>
  bnd (iter (fun s ↦ W.whole_short.c100004 a d (Prod.fst s) (Prod.fst (Prod.snd s)) (Prod.snd (Prod.snd s)) some) ((0 : Int), IntKind.wrap IntKind.i64 ((↑(List.length a) : Int) - (1 : Int)), List.replicate (Int.toNat (↑(List.length a) : Int)) (0 : Int))) fun y_1 =>
  some (Prod.snd (Prod.snd y_1), Prod.fst y_1)
def whole_short.ce : Go.Ql.Callee := ⟨[(.sl (.int .u32)), (.int .u32)], [(.sl (.int .u32)), (.int .u32)], fun x_ => whole_short x_.1 x_.2⟩
def whole_short.G : Env := ⟨34, tab, [(83, bits_Div32.ce)], [0, 1, 4, 5, 6, 7, 8, 16], [11], [], [(100004, whole_short.c100004r)], [], tab_eqs⟩
theorem whole_short.eq (x_ : dens [(.sl (.int .u32)), (.int .u32)]) : den whole_short.G Go.Proofs.Try.f68 [(.sl (.int .u32)), (.int .u32)] [(.sl (.int .u32)), (.int .u32)] x_ = whole_short x_.1 x_.2 := by kernel_rfl
theorem whole_short.p0 : PieceOk whole_short.G (pieceAt (pieces whole_short.G.cks (bodyOf Go.Proofs.Try.f68)) 0).1 (pieceAt (pieces whole_short.G.cks (bodyOf Go.Proofs.Try.f68)) 0).2 :=
  loop_ok (s := whole_short.c100004r) (by kernel_rfl) (by kernel_rfl) (loops_of (sh := whole_short.c100004s) (I := fun x_ s_ => (x_.1, x_.2.1, x_.2.2.1, x_.2.2.2.1, s_.1, s_.2.1, s_.2.2, ())) (fun x_ => rfl) (fun ρ x_ s_ k_ => (nat_br (nat_bnd fun _ => (nat_bnd fun _ => (nat_bnd fun _ => (nat_bnd fun _ => nat_leaf)))) nat_leaf)) (fun ρ x_ t k => (by kernel_rfl)) (fun x_ s => by kernel_rfl))
theorem whole_short.ok : CalleeOk Go.Proofs.Try.prog 68 whole_short.ce := fn_ok (G := whole_short.G) tab_ok mixed Go.Proofs.Try.func68 ⟨(fns_cons bits_Div32.ok fns_nil), mfns_nil, tab_eqs_ok⟩ (m := 1) (by kernel_rfl) ⟨trivial, whole_short.p0⟩ (by kernel_rfl) whole_short.eq
def bits_Len32.c204103 {ρ : Type} (x : Int) (n : Int) (k_ : (Int) × (Int) → Option ρ) : Option ρ :=
  br (decide (x ≥ (65536 : Int)))
   (k_ ((Int.fdiv x ((2 : Int) ^ (16 : Nat))), (16 : Int)))
   (k_ (x, n))
def bits_Len32.c204103s : Shape := ⟨[(0, q24), (2, q2)], []⟩
def bits_Len32.c204103x0 : Shape := ⟨[(0, q24), (2, q2)], []⟩
def bits_Len32.c204103r : Ck := Ck.of (T := (Int) × (Int)) bits_Len32.c204103s (fun ρ x_ k_ => uP x_ fun x x_ => uP x_ fun n x_ => bits_Len32.c204103 x n k_) (fun ρ x_ r_ k_ => uP x_ fun x x_ => uP x_ fun n x_ => k_ 0 (Shape.inj bits_Len32.c204103x0 (r_.1, r_.2, ())))
def bits_Len32.c216391 {ρ : Type} (x : Int) (n : Int) (k_ : (Int) × (Int) → Option ρ) : Option ρ :=
  br (decide (x ≥ (256 : Int)))
   (k_ ((Int.fdiv x ((2 : Int) ^ (8 : Nat))), (IntKind.wrap IntKind.i64 (n + (8 : Int)))))
   (k_ (x, n))
def bits_Len32.c216391s : Shape := ⟨[(0, q24), (2, q2)], []⟩
def bits_Len32.c216391x0 : Shape := ⟨[(0, q24), (2, q2)], []⟩
def bits_Len32.c216391r : Ck := Ck.of (T := (Int) × (Int)) bits_Len32.c216391s (fun ρ x_ k_ => uP x_ fun x x_ => uP x_ fun n x_ => bits_Len32.c216391 x n k_) (fun ρ x_ r_ k_ => uP x_ fun x x_ => uP x_ fun n x_ => k_ 0 (Shape.inj bits_Len32.c216391x0 (r_.1, r_.2, ())))
def bits_Len32 (x : Int) : Option (Int) :=
  bnd (W.bits_Len32.c204103 x (0 : Int) some) fun y =>
  bnd (W.bits_Len32.c216391 (Prod.fst y) (Prod.snd y) some) fun y_1 =>
  bnd (idx (Array.toList (ByteArray.data (ByteArray.mk (List.toArray (List.append (List.append [(0 : UInt8), (1 : UInt8), (2 : UInt8), (2 : UInt8), (3 : UInt8), (3 : UInt8), (3 : UInt8), (3 : UInt8), (4 : UInt8), (4 : UInt8), (4 : UInt8), (4 : UInt8), (4 : UInt8), (4 : UInt8), (4 : UInt8), (4 : UInt8), (5 : UInt8), (5 : UInt8), (5 : UInt8), (5 : UInt8), (5 : UInt8), (5 : UInt8), (5 : UInt8), (5 : UInt8), (5 : UInt8), (5 : UInt8), (5 : UInt8), (5 : UInt8), (5 : UInt8), (5 : UInt8), (5 : UInt8), (5 : UInt8), (6 : UInt8), (6 : UInt8), (6 : UInt8), (6 : UInt8), (6 : UInt8), (6 : UInt8), (6 : UInt8), (6 : UInt8), (6 : UInt8), (6 : UInt8), (6 : UInt8), (6 : UInt8), (6 : UInt8), (6 : UInt8), (6 : UInt8), (6 : UInt8), (6 : UInt8), (6 : UInt8), (6 : UInt8), (6 : UInt8), (6 : UInt8), (6 : UInt8), (6 : UInt8), (6 : UInt8), (6 : UInt8), (6 : UInt8), (6 : UInt8), (6 : UInt8), (6 : UInt8), (6 : UInt8), (6 : UInt8), (6 : UInt8)] [(7 : UInt8), (7 : UInt8), (7 : UInt8), (7 : UInt8), (7 : UInt8), (7 : UInt8), (7 : UInt8), (7 : UInt8), (7 : UInt8), (7 : UInt8), (7 : UInt8), (7 : UInt8), (7 : UInt8), (7 : UInt8), (7 : UInt8), (7 : UInt8), (7 : UInt8), (7 : UInt8), (7 : UInt8), (7 : UInt8), (7 : UInt8), (7 : UInt8), (7 : UInt8), (7 : UInt8), (7 : UInt8), (7 : UInt8), (7 : UInt8), (7 : UInt8), (7 : UInt8), (7 : UInt8), (7 : UInt8), (7 : UInt8), (7 : UInt8), (7 : UInt8), (7 : UInt8), (7 : UInt8), (7 : UInt8), (7 : UInt8), (7 : UInt8), (7 : UInt8), (7 : UInt8), (7 : UInt8), (7 : UInt8), (7 : UInt8), (7 : UInt8), (7 : UInt8), (7 : UInt8), (7 : UInt8), (7 : UInt8), (7 : UInt8), (7 : UInt8), (7 : UInt8), (7 : UInt8), (7 : UInt8), (7 : UInt8), (7 : UInt8), (7 : UInt8), (7 : UInt8), (7 : UInt8), (7 : UInt8), (7 : UInt8), (7 : UInt8), (7 : UInt8), (7 : UInt8)]) (List.append [(8 : UInt8), (8 : UInt8), (8 : UInt8), (8 : UInt8), (8 : UInt8), (8 : UInt8), (8 : UInt8), (8 : UInt8), (8 : UInt8), (8 : UInt8), (8 : UInt8), (8 : UInt8), (8 : UInt8), (8 : UInt8), (8 : UInt8), (8 : UInt8), (8 : UInt8), (8 : UInt8), (8 : UInt8), (8 : UInt8), (8 : UInt8), (8 : UInt8), (8 : UInt8), (8 : UInt8), (8 : UInt8), (8 : UInt8), (8 : UInt8), (8 : UInt8), (8 : UInt8), (8 : UInt8), (8 : UInt8), (8 : UInt8), (8 : UInt8), (8 : UInt8), (8 : UInt8), (8 : UInt8), (8 : UInt8), (8 : UInt8), (8 : UInt8), (8 : UInt8), (8 : UInt8), (8 : UInt8), (8 : UInt8), (8 : UInt8), (8 : UInt8), (8 : UInt8), (8 : UInt8), (8 : UInt8), (8 : UInt8), (8 : UInt8), (8 : UInt8), (8 : UInt8), (8 : UInt8), (8 : UInt8), (8 : UInt8), (8 : UInt8), (8 : UInt8), (8 : UInt8), (8 : UInt8), (8 : UInt8), (8 : UInt8), (8 : UInt8), (8 : UInt8), (8 : UInt8)] [(8 : UInt8), (8 : UInt8), (8 : UInt8), (8 : UInt8), (8 : UInt8), (8 : UInt8), (8 : UInt8), (8 : UInt8), (8 : UInt8), (8 : UInt8), (8 : UInt8), (8 : UInt8), (8 : UInt8), (8 : UInt8), (8 : UInt8), (8 : UInt8), (8 : UInt8), (8 : UInt8), (8 : UInt8), (8 : UInt8), (8 : UInt8), (8 : UInt8), (8 : UInt8), (8 : UInt8), (8 : UInt8), (8 : UInt8), (8 : UInt8), (8 : UInt8), (8 : UInt8), (8 : UInt8), (8 : UInt8), (8 : UInt8), (8 : UInt8), (8 : UInt8), (8 : UInt8), (8 : UInt8), (8 : UInt8), (8 : UInt8), (8 : UInt8), (8 : UInt8), (8 : UInt8), (8 : UInt8), (8 : UInt8), (8 : UInt8), (8 : UInt8), (8 : UInt8), (8 : UInt8), (8 : UInt8), (8 : UInt8), (8 : UInt8), (8 : UInt8), (8 : UInt8), (8 : UInt8), (8 : UInt8), (8 : UInt8), (8 : UInt8), (8 : UInt8), (8 : UInt8), (8 : UInt8), (8 : UInt8), (8 : UInt8), (8 : UInt8), (8 : UInt8), (8 : UInt8)])))))) (IntKind.wrap IntKind.u8 (Prod.fst y_1))) fun y_2 =>
  some (IntKind.wrap IntKind.i64 (Prod.snd y_1 + IntKind.wrap IntKind.i64 (↑(UInt8.toNat y_2) : Int)))
def bits_Len32.ce : Go.Ql.Callee := ⟨[(.int .u32)], [(.int .i64)], fun x_ => bits_Len32 x_⟩
def bits_Len32.G : Env := ⟨19, tab, [], [0, 2, 4, 8], [], [], [(216391, bits_Len32.c216391r), (204103, bits_Len32.c204103r)], [], tab_eqs⟩
theorem bits_Len32.eq (x_ : dens [(.int .u32)]) : den bits_Len32.G Go.Proofs.Try.f89 [(.int .u32)] [(.int .i64)] x_ = bits_Len32 x_ := by kernel_rfl
theorem bits_Len32.p0 : PieceOk bits_Len32.G (pieceAt (pieces bits_Len32.G.cks (bodyOf Go.Proofs.Try.f89)) 0).1 (pieceAt (pieces bits_Len32.G.cks (bodyOf Go.Proofs.Try.f89)) 0).2 :=
  join_ok (s := bits_Len32.c204103r) (by kernel_rfl) (by kernel_rfl) (sums_of (sh := bits_Len32.c204103s) (fun ρ x_ k_ => (nat_br nat_leaf nat_leaf)) (fun ρ x_ t k => (by kernel_rfl)) (fun x_ => by kernel_rfl))
theorem bits_Len32.p1 : PieceOk bits_Len32.G (pieceAt (pieces bits_Len32.G.cks (bodyOf Go.Proofs.Try.f89)) 1).1 (pieceAt (pieces bits_Len32.G.cks (bodyOf Go.Proofs.Try.f89)) 1).2 :=
  join_ok (s := bits_Len32.c216391r) (by kernel_rfl) (by kernel_rfl) (sums_of (sh := bits_Len32.c216391s) (fun ρ x_ k_ => (nat_br nat_leaf nat_leaf)) (fun ρ x_ t k => (by kernel_rfl)) (fun x_ => by kernel_rfl))
theorem bits_Len32.ok : CalleeOk Go.Proofs.Try.prog 89 bits_Len32.ce := fn_ok (G := bits_Len32.G) tab_ok mixed Go.Proofs.Try.func89 ⟨fns_nil, mfns_nil, tab_eqs_ok⟩ (m := 2) (by kernel_rfl) ⟨⟨trivial, bits_Len32.p0⟩, bits_Len32.p1⟩ (by kernel_rfl) bits_Len32.eq
def bits_LeadingZeros32 (x : Int) : Option (Int) :=
  bnd (W.bits_Len32 x) fun y =>
  some (IntKind.wrap IntKind.i64 ((32 : Int) - y))
def bits_LeadingZeros32.ce : Go.Ql.Callee := ⟨[(.int .u32)], [(.int .i64)], fun x_ => bits_LeadingZeros32 x_⟩
def bits_LeadingZeros32.G : Env := ⟨6, tab, [(89, bits_Len32.ce)], [0, 2], [], [], [], [], tab_eqs⟩
theorem bits_LeadingZeros32.eq (x_ : dens [(.int .u32)]) : den bits_LeadingZeros32.G Go.Proofs.Try.f84 [(.int .u32)] [(.int .i64)] x_ = bits_LeadingZeros32 x_ := by kernel_rfl
theorem bits_LeadingZeros32.ok : CalleeOk Go.Proofs.Try.prog 84 bits_LeadingZeros32.ce := fn_ok (G := bits_LeadingZeros32.G) tab_ok mixed Go.Proofs.Try.func84 ⟨(fns_cons bits_Len32.ok fns_nil), mfns_nil, tab_eqs_ok⟩ (m := 0) (by kernel_rfl) trivial (by kernel_rfl) bits_LeadingZeros32.eq
abbrev q39 : SD := .one (.own 15 0)
def whole_left.pre : Shape := ⟨[(0, q3), (1, q2)], []⟩
def whole_left.post : Shape := ⟨[(0, q17)], [(0, q7)]⟩
def whole_left.c100003 {ρ : Type} (n : Int) (t16 : List (Int)) (t17 : Int) (t18 : Int) (t15 : List (Int)) (k_ : ((Int) × (List Int)) ⊕ ((Int) × (List Int)) → Option ρ) : Option ρ :=
  br (decide (t18 < t17))
   (bnd (idx t16 t18) fun y =>
    bnd (okIf (decide ((0 : Int) ≤ Int.tmod n (32 : Int)))) fun y_1 =>
    bnd (inR (List.length t15) (IntKind.wrap IntKind.i64 (t18 + IntKind.wrap IntKind.i64 (Int.tdiv n (32 : Int))))) fun y_2 =>
    bnd (idx t15 (IntKind.wrap IntKind.i64 (t18 + IntKind.wrap IntKind.i64 (Int.tdiv n (32 : Int))))) fun y_3 =>
    bnd (inR (List.length t15) (IntKind.wrap IntKind.i64 (t18 + IntKind.wrap IntKind.i64 (Int.tdiv n (32 : Int))))) fun y_4 =>
    bnd (idx t15 (IntKind.wrap IntKind.i64 (t18 + IntKind.wrap IntKind.i64 (Int.tdiv n (32 : Int))))) fun y_5 =>
    bnd (inR (List.length (List.set t15 (Int.toNat (IntKind.wrap IntKind.i64 (t18 + IntKind.wrap IntKind.i64 (Int.tdiv n (32 : Int))))) (ibits BinOp.or IntKind.u32 y_3 (IntKind.wrap IntKind.u32 (IntKind.wrap IntKind.u64 (IntKind.wrap IntKind.u64 y * (2 : Int) ^ Min.min (Int.toNat (Int.tmod n (32 : Int))) (64 : Nat))))))) (IntKind.wrap IntKind.i64 (IntKind.wrap IntKind.i64 (t18 + IntKind.wrap IntKind.i64 (Int.tdiv n (32 : Int))) + (1 : Int)))) fun y_6 =>
    bnd (idx (List.set t15 (Int.toNat (IntKind.wrap IntKind.i64 (t18 + IntKind.wrap IntKind.i64 (Int.tdiv n (32 : Int))))) (ibits BinOp.or IntKind.u32 y_3 (IntKind.wrap IntKind.u32 (IntKind.wrap IntKind.u64 (IntKind.wrap IntKind.u64 y * (2 : Int) ^ Min.min (Int.toNat (Int.tmod n (32 : Int))) (64 : Nat)))))) (IntKind.wrap IntKind.i64 (IntKind.wrap IntKind.i64 (t18 + IntKind.wrap IntKind.i64 (Int.tdiv n (32 : Int))) + (1 : Int)))) fun y_7 =>
    bnd (inR (List.length (List.set t15 (Int.toNat (IntKind.wrap IntKind.i64 (t18 + IntKind.wrap IntKind.i64 (Int.tdiv n (32 : Int))))) (ibits BinOp.or IntKind.u32 y_3 (IntKind.wrap IntKind.u32 (IntKind.wrap IntKind.u64 (IntKind.wrap IntKind.u64 y * (2 : Int) ^ Min.min (Int.toNat (Int.tmod n (32 : Int))) (64 : Nat))))))) (IntKind.wrap IntKind.i64 (IntKind.wrap IntKind.i64 (t18 + IntKind.wrap IntKind.i64 (Int.tdiv n (32 : Int))) + (1 : Int)))) fun y_8 =>
    bnd (idx (List.set t15 (Int.toNat (IntKind.wrap IntKind.i64 (t18 + IntKind.wrap IntKind.i64 (Int.tdiv n (32 : Int))))) (ibits BinOp.or IntKind.u32 y_3 (IntKind.wrap IntKind.u32 (IntKind.wrap IntKind.u64 (IntKind.wrap IntKind.u64 y * (2 : Int) ^ Min.min (Int.toNat (Int.tmod n (32 : Int))) (64 : Nat)))))) (IntKind.wrap IntKind.i64 (IntKind.wrap IntKind.i64 (t18 + IntKind.wrap IntKind.i64 (Int.tdiv n (32 : Int))) + (1 : Int)))) fun y_9 =>
    k_ (.inl ((IntKind.wrap IntKind.i64 (t18 + (1 : Int))), (List.set (List.set t15 (Int.toNat (IntKind.wrap IntKind.i64 (t18 + IntKind.wrap IntKind.i64 (Int.tdiv n (32 : Int))))) (ibits BinOp.or IntKind.u32 y_3 (IntKind.wrap IntKind.u32 (IntKind.wrap IntKind.u64 (IntKind.wrap IntKind.u64 y * (2 : Int) ^ Min.min (Int.toNat (Int.tmod n (32 : Int))) (64 : Nat)))))) (Int.toNat (IntKind.wrap IntKind.i64 (IntKind.wrap IntKind.i64 (t18 + IntKind.wrap IntKind.i64 (Int.tdiv n (32 : Int))) + (1 : Int)))) (ibits BinOp.or IntKind.u32 y_7 (IntKind.wrap IntKind.u32 (Int.fdiv (IntKind.wrap IntKind.u64 (IntKind.wrap IntKind.u64 y * (2 : Int) ^ Min.min (Int.toNat (Int.tmod n (32 : Int))) (64 : Nat))) ((2 : Int) ^ (32 : Nat)))))))))
   (k_ (.inr (t18, t15)))
def whole_left.c100003s : Shape := ⟨[(0, q3), (1, q2), (4, q15), (5, q39), (16, q3), (17, q2), (18, q2)], [(4, q7), (15, q7)]⟩
def whole_left.c100003x0 : Shape := ⟨[(0, q3), (1, q2), (4, q15), (5, q39), (16, q3), (17, q2), (18, q2)], [(4, q7), (15, q7)]⟩
def whole_left.c100003r : Ck := Ck.ofLoop (S := (Int) × (List Int)) (T := (Int) × (List Int)) whole_left.c100003s (fun x_ => uP x_ fun a x_ => uP x_ fun n x_ => uP x_ fun t16 x_ => uP x_ fun t17 x_ => uP x_ fun t18 x_ => uP x_ fun t4 x_ => uP x_ fun t15 x_ => (t18, t15)) (fun ρ x_ s_ k_ => uP x_ fun a x_ => uP x_ fun n x_ => uP x_ fun t16 x_ => uP x_ fun t17 x_ => uP x_ fun t18 x_ => uP x_ fun t4 x_ => uP x_ fun t15 x_ => whole_left.c100003 n t16 t17 s_.1 s_.2 k_) (fun ρ x_ r_ k_ => uP x_ fun a x_ => uP x_ fun n x_ => uP x_ fun t16 x_ => uP x_ fun t17 x_ => uP x_ fun t18 x_ => uP x_ fun t4 x_ => uP x_ fun t15 x_ => k_ 2 (Shape.inj whole_left.c100003x0 (a, n, t16, t17, r_.1, t4, r_.2, ())))
def whole_left (a : List (Int)) (n : Int) : Option ((List Int) × Unit) :=
  bnd (okIf (decide ((0 : Int) ≤ IntKind.wrap IntKind.i64 (IntKind.wrap IntKind.i64 ((↑(List.length a) : Int) + IntKind.wrap IntKind.i64 (Int.tdiv n (32 : Int))) + (1 : Int))) && decide (IntKind.wrap IntKind.i64 (IntKind.wrap IntKind.i64 ((↑(List.length a) : Int) + IntKind.wrap IntKind.i64 (Int.tdiv n (32 : Int))) + (1 : Int)) ≤ IntKind.wrap IntKind.i64 (IntKind.wrap IntKind.i64 ((↑(List.length a) : Int) + IntKind.wrap IntKind.i64 (Int.tdiv n (32 : Int))) + (1 : Int))) && decide (IntKind.wrap IntKind.i64 (IntKind.wrap IntKind.i64 ((↑(List.length a) : Int) + IntKind.wrap IntKind.i64 (Int.tdiv n (32 : Int))) + (1 : Int)) * (↑(4 : Nat) : Int) ≤ (140737488355328 : Int)) && decide (IntKind.wrap IntKind.i64 (IntKind.wrap IntKind.i64 ((↑(List.length a) : Int) + IntKind.wrap IntKind.i64 (Int.tdiv n (32 : Int))) + (1 : Int)) ≤ (140737488355328 : Int)))) fun y =>
  bnd (iter (fun s ↦ W.whole_left.c100003 n a (↑(List.length a) : Int) (Prod.fst s) (Prod.snd s) some) ((0 : Int), List.replicate (Int.toNat (IntKind.wrap IntKind.i64 (IntKind.wrap IntKind.i64 ((↑(List.length a) : Int) + IntKind.wrap IntKind.i64 (Int.tdiv n (32 : Int))) + (1 : Int)))) (0 : Int))) fun y_1 =>
  some (uP (Prod.snd y_1, ()) fun u r ↦ (u, ()))
def whole_left.mc : MCallee := ⟨71, whole_left.pre, whole_left.post, fun x_ => whole_left x_.1 x_.2.1⟩
def whole_left.G : Env := ⟨54, tab, [], [0, 1, 4, 5, 6, 7, 8, 16, 17, 18, 19], [4, 15], [], [(100003, whole_left.c100003r)], [], tab_eqs⟩
theorem whole_left.eq (x_ : densU whole_left.mc.pre.tys) : denM whole_left.G Go.Proofs.Try.f71 whole_left.mc.pre whole_left.mc.post x_ = whole_left.mc.F x_ := by kernel_rfl
theorem whole_left.p0 : PieceOk whole_left.G (pieceAt (pieces whole_left.G.cks (bodyOf Go.Proofs.Try.f71)) 0).1 (pieceAt (pieces whole_left.G.cks (bodyOf Go.Proofs.Try.f71)) 0).2 :=
  loop_ok (s := whole_left.c100003r) (by kernel_rfl) (by kernel_rfl) (loops_of (sh := whole_left.c100003s) (I := fun x_ s_ => (x_.1, x_.2.1, x_.2.2.1, x_.2.2.2.1, s_.1, x_.2.2.2.2.2.1, s_.2, ())) (fun x_ => rfl) (fun ρ x_ s_ k_ => (nat_br (nat_bnd fun _ => (nat_bnd fun _ => (nat_bnd fun _ => (nat_bnd fun _ => (nat_bnd fun _ => (nat_bnd fun _ => (nat_bnd fun _ => (nat_bnd fun _ => (nat_bnd fun _ => (nat_bnd fun _ => nat_leaf)))))))))) nat_leaf)) (fun ρ x_ t k => (by kernel_rfl)) (fun x_ s => by kernel_rfl))
theorem whole_left.ok : MOk Go.Proofs.Try.prog 71 whole_left.mc := fnm_ok (G := whole_left.G) tab_ok mixed Go.Proofs.Try.func71 ⟨fns_nil, mfns_nil, tab_eqs_ok⟩ (m := 1) (by kernel_rfl) ⟨trivial, whole_left.p0⟩ (by kernel_rfl) whole_left.eq
abbrev q40 : SD := .one (.win 2000000 0)
def whole_takeAway.pre : Shape := ⟨[(0, q40), (1, q3), (2, q24)], [(2000000, q7)]⟩
def whole_takeAway.post : Shape := ⟨[(0, q1)], [(2000000, q7)]⟩
def whole_takeAway.c100003 {ρ : Type} (ulo : Int) (un : Int) (g : Int) (borrow : Int) (carry : Int) (t13 : List (Int)) (t14 : Int) (t15 : Int) (t2000000 : List (Int)) (k_ : ((Int) × (Int) × (Int) × (List Int)) ⊕ ((Int) × (Int) × (Int) × (List Int)) → Option ρ) : Option ρ :=
  br (decide (t15 < t14))
   (bnd (idx t13 t15) fun y =>
    bnd (okIf (decide ((0 : Ty.den (Ty.int IntKind.i64)) ≤ t15) && decide (t15 < un))) fun y_1 =>
    bnd (idx t2000000 (ulo + t15)) fun y_2 =>
    bnd (okIf (decide ((0 : Ty.den (Ty.int IntKind.i64)) ≤ t15) && decide (t15 < un))) fun y_3 =>
    bnd (idx t2000000 (ulo + t15)) fun y_4 =>
    k_ (.inl ((Int.fdiv (IntKind.wrap IntKind.u64 (IntKind.wrap IntKind.u64 (IntKind.wrap IntKind.u64 y_2 - ibits BinOp.and IntKind.u64 (IntKind.wrap IntKind.u64 (carry + IntKind.wrap IntKind.u64 (IntKind.wrap IntKind.u64 y * IntKind.wrap IntKind.u64 g))) (4294967295 : Int)) - borrow)) ((2 : Int) ^ (63 : Nat))), (Int.fdiv (IntKind.wrap IntKind.u64 (carry + IntKind.wrap IntKind.u64 (IntKind.wrap IntKind.u64 y * IntKind.wrap IntKind.u64 g))) ((2 : Int) ^ (32 : Nat))), (IntKind.wrap IntKind.i64 (t15 + (1 : Int))), (List.set t2000000 (Int.toNat (ulo + t15)) (IntKind.wrap IntKind.u32 (IntKind.wrap IntKind.u64 (IntKind.wrap IntKind.u64 (IntKind.wrap IntKind.u64 y_2 - ibits BinOp.and IntKind.u64 (IntKind.wrap IntKind.u64 (carry + IntKind.wrap IntKind.u64 (IntKind.wrap IntKind.u64 y * IntKind.wrap IntKind.u64 g))) (4294967295 : Int)) - borrow)))))))
   (k_ (.inr (borrow, carry, t15, t2000000)))
def whole_takeAway.c100003s : Shape := ⟨[(0, q40), (1, q3), (2, q24), (6, q1), (7, q5), (8, q5), (13, q3), (14, q2), (15, q2)], [(2000000, q7)]⟩
def whole_takeAway.c100003x0 : Shape := ⟨[(0, q40), (1, q3), (2, q24), (6, q1), (7, q5), (8, q5), (13, q3), (14, q2), (15, q2)], [(2000000, q7)]⟩
def whole_takeAway.c100003r : Ck := Ck.ofLoop (S := (Int) × (Int) × (Int) × (List Int)) (T := (Int) × (Int) × (Int) × (List Int)) whole_takeAway.c100003s (fun x_ => uP x_ fun ulo x_ => uP x_ fun un x_ => uP x_ fun v x_ => uP x_ fun g x_ => uP x_ fun t6 x_ => uP x_ fun borrow x_ => uP x_ fun carry x_ => uP x_ fun t13 x_ => uP x_ fun t14 x_ => uP x_ fun t15 x_ => uP x_ fun t2000000 x_ => (borrow, carry, t15, t2000000)) (fun ρ x_ s_ k_ => uP x_ fun ulo x_ => uP x_ fun un x_ => uP x_ fun v x_ => uP x_ fun g x_ => uP x_ fun t6 x_ => uP x_ fun borrow x_ => uP x_ fun carry x_ => uP x_ fun t13 x_ => uP x_ fun t14 x_ => uP x_ fun t15 x_ => uP x_ fun t2000000 x_ => whole_takeAway.c100003 ulo un g s_.1 s_.2.1 t13 t14 s_.2.2.1 s_.2.2.2 k_) (fun ρ x_ r_ k_ => uP x_ fun ulo x_ => uP x_ fun un x_ => uP x_ fun v x_ => uP x_ fun g x_ => uP x_ fun t6 x_ => uP x_ fun borrow x_ => uP x_ fun carry x_ => uP x_ fun t13 x_ => uP x_ fun t14 x_ => uP x_ fun t15 x_ => uP x_ fun t2000000 x_ => k_ 2 (Shape.inj whole_takeAway.c100003x0 (ulo, un, v, g, t6, r_.1, r_.2.1, t13, t14, r_.2.2.1, r_.2.2.2, ())))
def whole_takeAway (ulo : Int) (un : Int) (v : List (Int)) (g : Int) (t2000000 : List (Int)) : Option ((Bool) × (List Int) × Unit) :=
  bnd (iter (fun s ↦ W.whole_takeAway.c100003 ulo un g (Prod.fst s) (Prod.fst (Prod.snd s)) v (↑(List.length v) : Int) (Prod.fst (Prod.snd (Prod.snd s))) (Prod.snd (Prod.snd (Prod.snd s))) some) ((0 : Int), (0 : Int), (0 : Int), t2000000)) fun y =>
  bnd (okIf (decide ((0 : Ty.den (Ty.int IntKind.i64)) ≤ (↑(List.length v) : Int)) && decide ((↑(List.length v) : Int) < un))) fun y_1 =>
  bnd (idx (Prod.snd (Prod.snd (Prod.snd y))) (ulo + (↑(List.length v) : Int))) fun y_2 =>
  bnd (okIf (decide ((0 : Ty.den (Ty.int IntKind.i64)) ≤ (↑(List.length v) : Int)) && decide ((↑(List.length v) : Int) < un))) fun y_3 =>
  bnd (idx (Prod.snd (Prod.snd (Prod.snd y))) (ulo + (↑(List.length v) : Int))) fun y_4 =>
  some (uP (uP (decide (Int.fdiv (IntKind.wrap IntKind.u64 (IntKind.wrap IntKind.u64 (IntKind.wrap IntKind.u64 y_2 - Prod.fst (Prod.snd y)) - Prod.fst y)) ((2 : Int) ^ (63 : Nat)) > (0 : Int)), ()) fun u r ↦ (u, ())) fun u r ↦ (u, uP (List.set (Prod.snd (Prod.snd (Prod.snd y))) (Int.toNat (ulo + (↑(List.length v) : Int))) (IntKind.wrap IntKind.u32 (IntKind.wrap IntKind.u64 (IntKind.wrap IntKind.u64 (IntKind.wrap IntKind.u64 y_2 - Prod.fst (Prod.snd y)) - Prod.fst y))), ()) fun u r ↦ (u, ())))
def whole_takeAway.mc : MCallee := ⟨85, whole_takeAway.pre, whole_takeAway.post, fun x_ => whole_takeAway x_.1 x_.2.1 x_.2.2.1 x_.2.2.2.1 x_.2.2.2.2.1⟩
def whole_takeAway.G : Env := ⟨66, tab, [], [0, 1, 2, 6, 7, 8, 9, 10, 11, 12, 13, 14, 15, 16], [2000000], [], [(100003, whole_takeAway.c100003r)], [], tab_eqs⟩
theorem whole_takeAway.eq (x_ : densU whole_takeAway.mc.pre.tys) : denM whole_takeAway.G Go.Proofs.Try.f85 whole_takeAway.mc.pre whole_takeAway.mc.post x_ = whole_takeAway.mc.F x_ := by kernel_rfl
theorem whole_takeAway.p0 : PieceOk whole_takeAway.G (pieceAt (pieces whole_takeAway.G.cks (bodyOf Go.Proofs.Try.f85)) 0).1 (pieceAt (pieces whole_takeAway.G.cks (bodyOf Go.Proofs.Try.f85)) 0).2 :=
  loop_ok (s := whole_takeAway.c100003r) (by kernel_rfl) (by kernel_rfl) (loops_of (sh := whole_takeAway.c100003s) (I := fun x_ s_ => (x_.1, x_.2.1, x_.2.2.1, x_.2.2.2.1, x_.2.2.2.2.1, s_.1, s_.2.1, x_.2.2.2.2.2.2.2.1, x_.2.2.2.2.2.2.2.2.1, s_.2.2.1, s_.2.2.2, ())) (fun x_ => rfl) (fun ρ x_ s_ k_ => (nat_br (nat_bnd fun _ => (nat_bnd fun _ => (nat_bnd fun _ => (nat_bnd fun _ => (nat_bnd fun _ => nat_leaf))))) nat_leaf)) (fun ρ x_ t k => (by kernel_rfl)) (fun x_ s => by kernel_rfl))
theorem whole_takeAway.ok : MOk Go.Proofs.Try.prog 85 whole_takeAway.mc := fnm_ok (G := whole_takeAway.G) tab_ok mixed Go.Proofs.Try.func85 ⟨fns_nil, mfns_nil, tab_eqs_ok⟩ (m := 1) (by kernel_rfl) ⟨trivial, whole_takeAway.p0⟩ (by kernel_rfl) whole_takeAway.eq
def whole_giveBack.pre : Shape := ⟨[(0, q40), (1, q3)], [(2000000, q7)]⟩
def whole_giveBack.post : Shape := ⟨[], [(2000000, q7)]⟩
def whole_giveBack.c100002 {ρ : Type} (ulo : Int) (un : Int) (c : Int) (t7 : List (Int)) (t8 : Int) (t9 : Int) (t2000000 : List (Int)) (k_ : ((Int) × (Int) × (List Int)) ⊕ ((Int) × (Int) × (List Int)) → Option ρ) : Option ρ :=
  br (decide (t9 < t8))
   (bnd (idx t7 t9) fun y =>
    bnd (okIf (decide ((0 : Ty.den (Ty.int IntKind.i64)) ≤ t9) && decide (t9 < un))) fun y_1 =>
    bnd (idx t2000000 (ulo + t9)) fun y_2 =>
    bnd (W.bits_Add32 y_2 y c) fun y_3 =>
    bnd (okIf (decide ((0 : Ty.den (Ty.int IntKind.i64)) ≤ t9) && decide (t9 < un))) fun y_4 =>
    bnd (idx t2000000 (ulo + t9)) fun y_5 =>
    k_ (.inl ((Prod.snd y_3), (IntKind.wrap IntKind.i64 (t9 + (1 : Int))), (List.set t2000000 (Int.toNat (ulo + t9)) (Prod.fst y_3)))))
   (k_ (.inr (c, t9, t2000000)))
def whole_giveBack.c100002s : Shape := ⟨[(0, q40), (1, q3), (4, q24), (7, q3), (8, q2), (9, q2)], [(2000000, q7)]⟩
def whole_giveBack.c100002x0 : Shape := ⟨[(0, q40), (1, q3), (4, q24), (7, q3), (8, q2), (9, q2)], [(2000000, q7)]⟩
def whole_giveBack.c100002r : Ck := Ck.ofLoop (S := (Int) × (Int) × (List Int)) (T := (Int) × (Int) × (List Int)) whole_giveBack.c100002s (fun x_ => uP x_ fun ulo x_ => uP x_ fun un x_ => uP x_ fun v x_ => uP x_ fun c x_ => uP x_ fun t7 x_ => uP x_ fun t8 x_ => uP x_ fun t9 x_ => uP x_ fun t2000000 x_ => (c, t9, t2000000)) (fun ρ x_ s_ k_ => uP x_ fun ulo x_ => uP x_ fun un x_ => uP x_ fun v x_ => uP x_ fun c x_ => uP x_ fun t7 x_ => uP x_ fun t8 x_ => uP x_ fun t9 x_ => uP x_ fun t2000000 x_ => whole_giveBack.c100002 ulo un s_.1 t7 t8 s_.2.1 s_.2.2 k_) (fun ρ x_ r_ k_ => uP x_ fun ulo x_ => uP x_ fun un x_ => uP x_ fun v x_ => uP x_ fun c x_ => uP x_ fun t7 x_ => uP x_ fun t8 x_ => uP x_ fun t9 x_ => uP x_ fun t2000000 x_ => k_ 2 (Shape.inj whole_giveBack.c100002x0 (ulo, un, v, r_.1, t7, t8, r_.2.1, r_.2.2, ())))
def whole_giveBack (ulo : Int) (un : Int) (v : List (Int)) (t2000000 : List (Int)) : Option ((List Int) × Unit) :=
  bnd (iter (fun s ↦ W.whole_giveBack.c100002 ulo un (Prod.fst s) v (↑(List.length v) : Int) (Prod.fst (Prod.snd s)) (Prod.snd (Prod.snd s)) some) ((0 : Int), (0 : Int), t2000000)) fun y =>
  bnd (okIf (decide ((0 : Ty.den (Ty.int IntKind.i64)) ≤ (↑(List.length v) : Int)) && decide ((↑(List.length v) : Int) < un))) fun y_1 =>
  bnd (idx (Prod.snd (Prod.snd y)) (ulo + (↑(List.length v) : Int))) fun y_2 =>
  bnd (okIf (decide ((0 : Ty.den (Ty.int IntKind.i64)) ≤ (↑(List.length v) : Int)) && decide ((↑(List.length v) : Int) < un))) fun y_3 =>
  bnd (idx (Prod.snd (Prod.snd y)) (ulo + (↑(List.length v) : Int))) fun y_4 =>
  some (uP (List.set (Prod.snd (Prod.snd y)) (Int.toNat (ulo + (↑(List.length v) : Int))) (IntKind.wrap IntKind.u32 (y_2 + Prod.fst y)), ()) fun u r ↦ (u, ()))
def whole_giveBack.mc : MCallee := ⟨86, whole_giveBack.pre, whole_giveBack.post, fun x_ => whole_giveBack x_.1 x_.2.1 x_.2.2.1 x_.2.2.2.1⟩
def whole_giveBack.G : Env := ⟨36, tab, [(79, bits_Add32.ce)], [0, 1, 4, 5, 6, 7, 8, 9, 10], [2000000], [], [(100002, whole_giveBack.c100002r)], [], tab_eqs⟩
theorem whole_giveBack.eq (x_ : densU whole_giveBack.mc.pre.tys) : denM whole_giveBack.G Go.Proofs.Try.f86 whole_giveBack.mc.pre whole_giveBack.mc.post x_ = whole_giveBack.mc.F x_ := by kernel_rfl
theorem whole_giveBack.p0 : PieceOk whole_giveBack.G (pieceAt (pieces whole_giveBack.G.cks (bodyOf Go.Proofs.Try.f86)) 0).1 (pieceAt (pieces whole_giveBack.G.cks (bodyOf Go.Proofs.Try.f86)) 0).2 :=
  loop_ok (s := whole_giveBack.c100002r) (by kernel_rfl) (by kernel_rfl) (loops_of (sh := whole_giveBack.c100002s) (I := fun x_ s_ => (x_.1, x_.2.1, x_.2.2.1, s_.1, x_.2.2.2.2.1, x_.2.2.2.2.2.1, s_.2.1, s_.2.2, ())) (fun x_ => rfl) (fun ρ x_ s_ k_ => (nat_br (nat_bnd fun _ => (nat_bnd fun _ => (nat_bnd fun _ => (nat_bnd fun _ => (nat_bnd fun _ => (nat_bnd fun _ => nat_leaf)))))) nat_leaf)) (fun ρ x_ t k => (by kernel_rfl)) (fun x_ s => by kernel_rfl))
theorem whole_giveBack.ok : MOk Go.Proofs.Try.prog 86 whole_giveBack.mc := fnm_ok (G := whole_giveBack.G) tab_ok mixed Go.Proofs.Try.func86 ⟨(fns_cons bits_Add32.ok fns_nil), mfns_nil, tab_eqs_ok⟩ (m := 1) (by kernel_rfl) ⟨trivial, whole_giveBack.p0⟩ (by kernel_rfl) whole_giveBack.eq
abbrev q41 : SD := .one (.own 54 0)
def whole_right.c3 {ρ : Type} (a : List (Int)) (n : Int) (k_ : Bool → Option ρ) : Option ρ :=
  bnd (idx a (IntKind.wrap IntKind.i64 (Int.tdiv n (32 : Int)))) fun y =>
  bnd (okIf (decide ((0 : Int) ≤ IntKind.wrap IntKind.i64 ((32 : Int) - Int.tmod n (32 : Int))))) fun y_1 =>
  br (IntKind.wrap IntKind.u32 (y * (2 : Int) ^ Min.min (Int.toNat (IntKind.wrap IntKind.i64 ((32 : Int) - Int.tmod n (32 : Int)))) (32 : Nat)) != (0 : Int))
   (k_ (decide (Int.tmod n (32 : Int) > (0 : Int))))
   (k_ false)
def whole_right.c3s : Shape := ⟨[(0, q3), (1, q2), (4, q3), (5, q1)], []⟩
def whole_right.c3x0 : Shape := ⟨[(0, q3), (1, q2), (4, q3), (5, q1), (6, q1)], []⟩
def whole_right.c3r : Ck := Ck.of (T := Bool) whole_right.c3s (fun ρ x_ k_ => uP x_ fun a x_ => uP x_ fun n x_ => uP x_ fun t4 x_ => uP x_ fun t5 x_ => whole_right.c3 a n k_) (fun ρ x_ r_ k_ => uP x_ fun a x_ => uP x_ fun n x_ => uP x_ fun t4 x_ => uP x_ fun t5 x_ => k_ 0 (Shape.inj whole_right.c3x0 (a, n, t4, t5, r_, ())))
def whole_right.c7 {ρ : Type} (lost : Bool) (x : Int) (k_ : Bool → Option ρ) : Option ρ :=
  br lost
   (k_ true)
   (k_ (x != (0 : Int)))
def whole_right.c7s : Shape := ⟨[(0, q3), (1, q2), (4, q3), (5, q1), (6, q1), (8, q24), (37, q3), (38, q2), (39, q2)], []⟩
def whole_right.c7x0 : Shape := ⟨[(0, q3), (1, q2), (4, q3), (5, q1), (6, q1), (8, q24), (37, q3), (38, q2), (39, q2)], []⟩
def whole_right.c7r : Ck := Ck.of (T := Bool) whole_right.c7s (fun ρ x_ k_ => uP x_ fun a x_ => uP x_ fun n x_ => uP x_ fun t4 x_ => uP x_ fun t5 x_ => uP x_ fun lost x_ => uP x_ fun x x_ => uP x_ fun t37 x_ => uP x_ fun t38 x_ => uP x_ fun t39 x_ => whole_right.c7 lost x k_) (fun ρ x_ r_ k_ => uP x_ fun a x_ => uP x_ fun n x_ => uP x_ fun t4 x_ => uP x_ fun t5 x_ => uP x_ fun lost x_ => uP x_ fun x x_ => uP x_ fun t37 x_ => uP x_ fun t38 x_ => uP x_ fun t39 x_ => k_ 0 (Shape.inj whole_right.c7x0 (a, n, t4, t5, r_, x, t37, t38, t39, ())))
def whole_right.c100005 {ρ : Type} (lost : Bool) (t37 : List (Int)) (t38 : Int) (t39 : Int) (k_ : ((Bool) × (Int)) ⊕ ((Bool) × (Int)) → Option ρ) : Option ρ :=
  br (decide (t39 < t38))
   (bnd (idx t37 t39) fun y =>
    bnd (W.whole_right.c7 lost y some) fun y_1 =>
    k_ (.inl (y_1, (IntKind.wrap IntKind.i64 (t39 + (1 : Int))))))
   (k_ (.inr (lost, t39)))
def whole_right.c100005s : Shape := ⟨[(0, q3), (1, q2), (4, q3), (5, q1), (6, q1), (37, q3), (38, q2), (39, q2)], []⟩
def whole_right.c100005x0 : Shape := ⟨[(0, q3), (1, q2), (4, q3), (5, q1), (6, q1), (37, q3), (38, q2), (39, q2)], []⟩
def whole_right.c100005r : Ck := Ck.ofLoop (S := (Bool) × (Int)) (T := (Bool) × (Int)) whole_right.c100005s (fun x_ => uP x_ fun a x_ => uP x_ fun n x_ => uP x_ fun t4 x_ => uP x_ fun t5 x_ => uP x_ fun lost x_ => uP x_ fun t37 x_ => uP x_ fun t38 x_ => uP x_ fun t39 x_ => (lost, t39)) (fun ρ x_ s_ k_ => uP x_ fun a x_ => uP x_ fun n x_ => uP x_ fun t4 x_ => uP x_ fun t5 x_ => uP x_ fun lost x_ => uP x_ fun t37 x_ => uP x_ fun t38 x_ => uP x_ fun t39 x_ => whole_right.c100005 s_.1 t37 t38 s_.2 k_) (fun ρ x_ r_ k_ => uP x_ fun a x_ => uP x_ fun n x_ => uP x_ fun t4 x_ => uP x_ fun t5 x_ => uP x_ fun lost x_ => uP x_ fun t37 x_ => uP x_ fun t38 x_ => uP x_ fun t39 x_ => k_ 2 (Shape.inj whole_right.c100005x0 (a, n, t4, t5, r_.1, t37, t38, r_.2, ())))
def whole_right.c14 {ρ : Type} (a : List (Int)) (n : Int) (i : Int) (k_ : Bool → Option ρ) : Option ρ :=
  br (decide (IntKind.wrap IntKind.i64 (IntKind.wrap IntKind.i64 (i + IntKind.wrap IntKind.i64 (Int.tdiv n (32 : Int))) + (1 : Int)) < (↑(List.length a) : Int)))
   (k_ (decide (Int.tmod n (32 : Int) > (0 : Int))))
   (k_ false)
def whole_right.c14s : Shape := ⟨[(0, q3), (1, q2), (4, q3), (5, q1), (6, q1), (9, q41), (10, q2), (37, q3), (38, q2), (39, q2), (56, q2), (57, q2)], [(54, q7)]⟩
def whole_right.c14x0 : Shape := ⟨[(0, q3), (1, q2), (4, q3), (5, q1), (6, q1), (9, q41), (10, q2), (37, q3), (38, q2), (39, q2), (56, q2), (57, q2), (85, q1)], [(54, q7)]⟩
def whole_right.c14r : Ck := Ck.of (T := Bool) whole_right.c14s (fun ρ x_ k_ => uP x_ fun a x_ => uP x_ fun n x_ => uP x_ fun t4 x_ => uP x_ fun t5 x_ => uP x_ fun lost x_ => uP x_ fun i x_ => uP x_ fun t37 x_ => uP x_ fun t38 x_ => uP x_ fun t39 x_ => uP x_ fun t56 x_ => uP x_ fun t57 x_ => uP x_ fun t54 x_ => whole_right.c14 a n i k_) (fun ρ x_ r_ k_ => uP x_ fun a x_ => uP x_ fun n x_ => uP x_ fun t4 x_ => uP x_ fun t5 x_ => uP x_ fun lost x_ => uP x_ fun i x_ => uP x_ fun t37 x_ => uP x_ fun t38 x_ => uP x_ fun t39 x_ => uP x_ fun t56 x_ => uP x_ fun t57 x_ => uP x_ fun t54 x_ => k_ 0 (Shape.inj whole_right.c14x0 (a, n, t4, t5, lost, i, t37, t38, t39, t56, t57, r_, t54, ())))
def whole_right.c15 {ρ : Type} (a : List (Int)) (n : Int) (i : Int) (t54 : List (Int)) (k_ : List (Int) → Option ρ) : Option ρ :=
  bnd (inR (List.length t54) i) fun y =>
  bnd (idx t54 i) fun y_1 =>
  bnd (idx a (IntKind.wrap IntKind.i64 (IntKind.wrap IntKind.i64 (i + IntKind.wrap IntKind.i64 (Int.tdiv n (32 : Int))) + (1 : Int)))) fun y_2 =>
  bnd (okIf (decide ((0 : Int) ≤ IntKind.wrap IntKind.i64 ((32 : Int) - Int.tmod n (32 : Int))))) fun y_3 =>
  bnd (inR (List.length t54) i) fun y_4 =>
  bnd (idx t54 i) fun y_5 =>
  k_ (List.set t54 (Int.toNat i) (ibits BinOp.or IntKind.u32 y_1 (IntKind.wrap IntKind.u32 (y_2 * (2 : Int) ^ Min.min (Int.toNat (IntKind.wrap IntKind.i64 ((32 : Int) - Int.tmod n (32 : Int)))) (32 : Nat)))))
def whole_right.c15s : Shape := ⟨[(0, q3), (1, q2), (4, q3), (5, q1), (6, q1), (9, q41), (10, q2), (37, q3), (38, q2), (39, q2), (56, q2), (57, q2)], [(54, q7)]⟩
def whole_right.c15x0 : Shape := ⟨[(0, q3), (1, q2), (4, q3), (5, q1), (6, q1), (9, q41), (10, q2), (37, q3), (38, q2), (39, q2), (56, q2), (57, q2)], [(54, q7)]⟩
def whole_right.c15r : Ck := Ck.of (T := List (Int)) whole_right.c15s (fun ρ x_ k_ => uP x_ fun a x_ => uP x_ fun n x_ => uP x_ fun t4 x_ => uP x_ fun t5 x_ => uP x_ fun lost x_ => uP x_ fun i x_ => uP x_ fun t37 x_ => uP x_ fun t38 x_ => uP x_ fun t39 x_ => uP x_ fun t56 x_ => uP x_ fun t57 x_ => uP x_ fun t54 x_ => whole_right.c15 a n i t54 k_) (fun ρ x_ r_ k_ => uP x_ fun a x_ => uP x_ fun n x_ => uP x_ fun t4 x_ => uP x_ fun t5 x_ => uP x_ fun lost x_ => uP x_ fun i x_ => uP x_ fun t37 x_ => uP x_ fun t38 x_ => uP x_ fun t39 x_ => uP x_ fun t56 x_ => uP x_ fun t57 x_ => uP x_ fun t54 x_ => k_ 0 (Shape.inj whole_right.c15x0 (a, n, t4, t5, lost, i, t37, t38, t39, t56, t57, r_, ())))
def whole_right.c249162 {ρ : Type} (a : List (Int)) (n : Int) (t57 : Int) (t54 : List (Int)) (k_ : List (Int) → Option ρ) : Option ρ :=
  bnd (idx a (IntKind.wrap IntKind.i64 (t57 + IntKind.wrap IntKind.i64 (Int.tdiv n (32 : Int))))) fun y =>
  bnd (okIf (decide ((0 : Int) ≤ Int.tmod n (32 : Int)))) fun y_1 =>
  bnd (inR (List.length t54) t57) fun y_2 =>
  bnd (idx t54 t57) fun y_3 =>
  bnd (W.whole_right.c14 a n t57 some) fun y_4 =>
  br y_4
   (bnd (W.whole_right.c15 a n t57 (List.set t54 (Int.toNat t57) (Int.fdiv y ((2 : Int) ^ Min.min (Int.toNat (Int.tmod n (32 : Int))) (32 : Nat)))) some) fun y_5 =>
    k_ y_5)
   (k_ (List.set t54 (Int.toNat t57) (Int.fdiv y ((2 : Int) ^ Min.min (Int.toNat (Int.tmod n (32 : Int))) (32 : Nat)))))
def whole_right.c249162s : Shape := ⟨[(0, q3), (1, q2), (4, q3), (5, q1), (6, q1), (9, q41), (37, q3), (38, q2), (39, q2), (56, q2), (57, q2)], [(54, q7)]⟩
def whole_right.c249162x0 : Shape := ⟨[(0, q3), (1, q2), (4, q3), (5, q1), (6, q1), (9, q41), (37, q3), (38, q2), (39, q2), (56, q2), (57, q2)], [(54, q7)]⟩
def whole_right.c249162r : Ck := Ck.of (T := List (Int)) whole_right.c249162s (fun ρ x_ k_ => uP x_ fun a x_ => uP x_ fun n x_ => uP x_ fun t4 x_ => uP x_ fun t5 x_ => uP x_ fun lost x_ => uP x_ fun t37 x_ => uP x_ fun t38 x_ => uP x_ fun t39 x_ => uP x_ fun t56 x_ => uP x_ fun t57 x_ => uP x_ fun t54 x_ => whole_right.c249162 a n t57 t54 k_) (fun ρ x_ r_ k_ => uP x_ fun a x_ => uP x_ fun n x_ => uP x_ fun t4 x_ => uP x_ fun t5 x_ => uP x_ fun lost x_ => uP x_ fun t37 x_ => uP x_ fun t38 x_ => uP x_ fun t39 x_ => uP x_ fun t56 x_ => uP x_ fun t57 x_ => uP x_ fun t54 x_ => k_ 0 (Shape.inj whole_right.c249162x0 (a, n, t4, t5, lost, t37, t38, t39, t56, t57, r_, ())))
def whole_right.c100011 {ρ : Type} (a : List (Int)) (n : Int) (t56 : Int) (t57 : Int) (t54 : List (Int)) (k_ : ((Int) × (List Int)) ⊕ ((Int) × (List Int)) → Option ρ) : Option ρ :=
  br (decide (t57 < t56))
   (bnd (W.whole_right.c249162 a n t57 t54 some) fun y =>
    k_ (.inl ((IntKind.wrap IntKind.i64 (t57 + (1 : Int))), y)))
   (k_ (.inr (t57, t54)))
def whole_right.c100011s : Shape := ⟨[(0, q3), (1, q2), (4, q3), (5, q1), (6, q1), (9, q41), (37, q3), (38, q2), (39, q2), (56, q2), (57, q2)], [(54, q7)]⟩
def whole_right.c100011x0 : Shape := ⟨[(0, q3), (1, q2), (4, q3), (5, q1), (6, q1), (9, q41), (37, q3), (38, q2), (39, q2), (56, q2), (57, q2)], [(54, q7)]⟩
def whole_right.c100011r : Ck := Ck.ofLoop (S := (Int) × (List Int)) (T := (Int) × (List Int)) whole_right.c100011s (fun x_ => uP x_ fun a x_ => uP x_ fun n x_ => uP x_ fun t4 x_ => uP x_ fun t5 x_ => uP x_ fun lost x_ => uP x_ fun t37 x_ => uP x_ fun t38 x_ => uP x_ fun t39 x_ => uP x_ fun t56 x_ => uP x_ fun t57 x_ => uP x_ fun t54 x_ => (t57, t54)) (fun ρ x_ s_ k_ => uP x_ fun a x_ => uP x_ fun n x_ => uP x_ fun t4 x_ => uP x_ fun t5 x_ => uP x_ fun lost x_ => uP x_ fun t37 x_ => uP x_ fun t38 x_ => uP x_ fun t39 x_ => uP x_ fun t56 x_ => uP x_ fun t57 x_ => uP x_ fun t54 x_ => whole_right.c100011 a n t56 s_.1 s_.2 k_) (fun ρ x_ r_ k_ => uP x_ fun a x_ => uP x_ fun n x_ => uP x_ fun t4 x_ => uP x_ fun t5 x_ => uP x_ fun lost x_ => uP x_ fun t37 x_ => uP x_ fun t38 x_ => uP x_ fun t39 x_ => uP x_ fun t56 x_ => uP x_ fun t57 x_ => uP x_ fun t54 x_ => k_ 4 (Shape.inj whole_right.c100011x0 (a, n, t4, t5, lost, t37, t38, t39, t56, r_.1, r_.2, ())))
def whole_right (a : List (Int)) (n : Int) : Option ((List Int) × (Bool)) :=
  br (decide (IntKind.wrap IntKind.i64 (Int.tdiv n (32 : Int)) ≥ (↑(List.length a) : Int)))
   (some ([], decide ((↑(List.length a) : Int) > (0 : Int))))
   (bnd (W.whole_right.c3 a n some) fun y =>
    bnd (okIf (decide ((0 : Int) ≤ IntKind.wrap IntKind.i64 (Int.tdiv n (32 : Int))) && decide (IntKind.wrap IntKind.i64 (Int.tdiv n (32 : Int)) ≤ (↑(List.length a) : Int)))) fun y_1 =>
    bnd (iter (fun s ↦ W.whole_right.c100005 (Prod.fst s) (List.take (Int.toNat (IntKind.wrap IntKind.i64 (Int.tdiv n (32 : Int)))) a) (↑(List.length (List.take (Int.toNat (IntKind.wrap IntKind.i64 (Int.tdiv n (32 : Int)))) a)) : Int) (Prod.snd s) some) (y, (0 : Int))) fun y_2 =>
    bnd (okIf (decide ((0 : Int) ≤ IntKind.wrap IntKind.i64 ((↑(List.length a) : Int) - IntKind.wrap IntKind.i64 (Int.tdiv n (32 : Int)))) && decide (IntKind.wrap IntKind.i64 ((↑(List.length a) : Int) - IntKind.wrap IntKind.i64 (Int.tdiv n (32 : Int))) ≤ IntKind.wrap IntKind.i64 ((↑(List.length a) : Int) - IntKind.wrap IntKind.i64 (Int.tdiv n (32 : Int)))) && decide (IntKind.wrap IntKind.i64 ((↑(List.length a) : Int) - IntKind.wrap IntKind.i64 (Int.tdiv n (32 : Int))) * (↑(4 : Nat) : Int) ≤ (140737488355328 : Int)) && decide (IntKind.wrap IntKind.i64 ((↑(List.length a) : Int) - IntKind.wrap IntKind.i64 (Int.tdiv n (32 : Int))) ≤ (140737488355328 : Int)))) fun y_3 =>
    bnd (iter (fun s ↦ W.whole_right.c100011 a n (↑(List.length (List.replicate (Int.toNat (IntKind.wrap IntKind.i64 ((↑(List.length a) : Int) - IntKind.wrap IntKind.i64 (Int.tdiv n (32 : Int))))) (0 : Int))) : Int) (Prod.fst s) (Prod.snd s) some) ((0 : Int), List.replicate (Int.toNat (IntKind.wrap IntKind.i64 ((↑(List.length a) : Int) - IntKind.wrap IntKind.i64 (Int.tdiv n (32 : Int))))) (0 : Int))) fun y_4 =>
    some (Prod.snd y_4, Prod.fst y_2))
def whole_right.ce : Go.Ql.Callee := ⟨[(.sl (.int .u32)), (.int .i64)], [(.sl (.int .u32)), .bool], fun x_ => whole_right x_.1 x_.2⟩
def whole_right.G : Env := ⟨107, tab, [], [0, 1, 4, 5, 6, 8, 9, 10, 15, 37, 38, 39, 40, 56, 57, 58, 85], [54], [(15, [⟨[], [], [87, 90, 91, 92, 93, 94, 95, 96, 97, 98, 99, 100, 101], []⟩, ⟨[], [], [86, 90, 91, 92, 93, 94, 95, 96, 97, 98, 99, 100, 101], []⟩, ⟨[0, 1], [], [90, 91, 92, 93, 94, 95, 96, 97, 98, 99, 100, 101], []⟩, ⟨[2, 0, 1], [], [90, 91, 92, 93, 94, 95, 96, 97, 98, 99, 100, 101], []⟩, ⟨[], [], [86, 87, 88, 89, 91, 92, 93, 94, 95, 98, 99, 100], []⟩, ⟨[], [], [86, 87, 88, 89, 90, 92, 93, 98, 99, 100], []⟩, ⟨[], [], [86, 87, 88, 89, 90, 91, 98, 99, 100], []⟩, ⟨[6], [], [86, 87, 88, 89, 90, 91, 98, 99, 100], []⟩, ⟨[5, 7, 6], [], [86, 87, 88, 89, 90, 98, 99, 100], []⟩, ⟨[8, 5, 7, 6], [], [86, 87, 88, 89, 90, 98, 99, 100], []⟩, ⟨[4, 9, 8, 5, 7, 6], [], [86, 87, 88, 89, 98, 99, 100], []⟩, ⟨[10, 4, 9, 8, 5, 7, 6], [], [86, 87, 88, 89, 98, 99, 100], []⟩, ⟨[], [], [86, 87, 88, 89, 90, 91, 92, 93, 94, 95, 96, 97], []⟩, ⟨[12], [], [86, 87, 88, 89, 90, 91, 92, 93, 94, 95, 96, 97], []⟩, ⟨[13, 12], [], [86, 87, 88, 89, 90, 91, 92, 93, 94, 95, 96, 97], []⟩, ⟨[11, 10, 4, 9, 8, 5, 7, 6, 14, 13, 12], [], [86, 87, 88, 89], []⟩, ⟨[3, 2, 0, 1, 15, 11, 10, 4, 9, 8, 5, 7, 6, 14, 13, 12], [], [], []⟩, ⟨[0, 1, 2, 3, 4, 5, 6, 7, 8, 9, 10, 11, 12, 13, 14, 15, 16], [], [], []⟩, ⟨[17, 0, 1, 2, 3, 4, 5, 6, 7, 8, 9, 10, 11, 12, 13, 14, 15, 16], [54], [], []⟩])], [(100011, whole_right.c100011r), (249162, whole_right.c249162r), (15, whole_right.c15r), (14, whole_right.c14r), (100005, whole_right.c100005r), (7, whole_right.c7r), (3, whole_right.c3r)], [], tab_eqs⟩
theorem whole_right.eq (x_ : dens [(.sl (.int .u32)), (.int .i64)]) : den whole_right.G Go.Proofs.Try.f72 [(.sl (.int .u32)), (.int .i64)] [(.sl (.int .u32)), .bool] x_ = whole_right x_.1 x_.2 := by kernel_rfl
theorem whole_right.p0 : PieceOk whole_right.G (pieceAt (pieces whole_right.G.cks (bodyOf Go.Proofs.Try.f72)) 0).1 (pieceAt (pieces whole_right.G.cks (bodyOf Go.Proofs.Try.f72)) 0).2 :=
  region_ok (s := whole_right.c3r) (by kernel_rfl) (by kernel_rfl) (sums_of (sh := whole_right.c3s) (fun ρ x_ k_ => (nat_bnd fun _ => (nat_bnd fun _ => (nat_br nat_leaf nat_leaf)))) (fun ρ x_ t k => (by kernel_rfl)) (fun x_ => by kernel_rfl))
theorem whole_right.p1 : PieceOk whole_right.G (pieceAt (pieces whole_right.G.cks (bodyOf Go.Proofs.Try.f72)) 1).1 (pieceAt (pieces whole_right.G.cks (bodyOf Go.Proofs.Try.f72)) 1).2 :=
  loop_ok (s := whole_right.c100005r) (by kernel_rfl) (by kernel_rfl) (loops_of (sh := whole_right.c100005s) (I := fun x_ s_ => (x_.1, x_.2.1, x_.2.2.1, x_.2.2.2.1, s_.1, x_.2.2.2.2.2.1, x_.2.2.2.2.2.2.1, s_.2, ())) (fun x_ => rfl) (fun ρ x_ s_ k_ => (nat_br (nat_bnd fun _ => (nat_bnd fun _ => nat_leaf)) nat_leaf)) (fun ρ x_ t k => (by kernel_rfl)) (fun x_ s => by kernel_rfl))
theorem whole_right.p2 : PieceOk whole_right.G (pieceAt (pieces whole_right.G.cks (bodyOf Go.Proofs.Try.f72)) 2).1 (pieceAt (pieces whole_right.G.cks (bodyOf Go.Proofs.Try.f72)) 2).2 :=
  region_ok (s := whole_right.c7r) (by kernel_rfl) (by kernel_rfl) (sums_of (sh := whole_right.c7s) (fun ρ x_ k_ => (nat_br nat_leaf nat_leaf)) (fun ρ x_ t k => (by kernel_rfl)) (fun x_ => by kernel_rfl))
theorem whole_right.p3 : PieceOk whole_right.G (pieceAt (pieces whole_right.G.cks (bodyOf Go.Proofs.Try.f72)) 3).1 (pieceAt (pieces whole_right.G.cks (bodyOf Go.Proofs.Try.f72)) 3).2 :=
  loop_ok (s := whole_right.c100011r) (by kernel_rfl) (by kernel_rfl) (loops_of (sh := whole_right.c100011s) (I := fun x_ s_ => (x_.1, x_.2.1, x_.2.2.1, x_.2.2.2.1, x_.2.2.2.2.1, x_.2.2.2.2.2.1, x_.2.2.2.2.2.2.1, x_.2.2.2.2.2.2.2.1, x_.2.2.2.2.2.2.2.2.1, s_.1, s_.2, ())) (fun x_ => rfl) (fun ρ x_ s_ k_ => (nat_br (nat_bnd fun _ => nat_leaf) nat_leaf)) (fun ρ x_ t k => (by kernel_rfl)) (fun x_ s => by kernel_rfl))
theorem whole_right.p4 : PieceOk whole_right.G (pieceAt (pieces whole_right.G.cks (bodyOf Go.Proofs.Try.f72)) 4).1 (pieceAt (pieces whole_right.G.cks (bodyOf Go.Proofs.Try.f72)) 4).2 :=
  join_ok (s := whole_right.c249162r) (by kernel_rfl) (by kernel_rfl) (sums_of (sh := whole_right.c249162s) (fun ρ x_ k_ => (nat_bnd fun _ => (nat_bnd fun _ => (nat_bnd fun _ => (nat_bnd fun _ => (nat_bnd fun _ => (nat_br (nat_bnd fun _ => nat_leaf) nat_leaf))))))) (fun ρ x_ t k => (by kernel_rfl)) (fun x_ => by kernel_rfl))
theorem whole_right.p5 : PieceOk whole_right.G (pieceAt (pieces whole_right.G.cks (bodyOf Go.Proofs.Try.f72)) 5).1 (pieceAt (pieces whole_right.G.cks (bodyOf Go.Proofs.Try.f72)) 5).2 :=
  region_ok (s := whole_right.c14r) (by kernel_rfl) (by kernel_rfl) (sums_of (sh := whole_right.c14s) (fun ρ x_ k_ => (nat_br nat_leaf nat_leaf)) (fun ρ x_ t k => (by kernel_rfl)) (fun x_ => by kernel_rfl))
theorem whole_right.p6 : PieceOk whole_right.G (pieceAt (pieces whole_right.G.cks (bodyOf Go.Proofs.Try.f72)) 6).1 (pieceAt (pieces whole_right.G.cks (bodyOf Go.Proofs.Try.f72)) 6).2 :=
  region_ok (s := whole_right.c15r) (by kernel_rfl) (by kernel_rfl) (sums_of (sh := whole_right.c15s) (fun ρ x_ k_ => (nat_bnd fun _ => (nat_bnd fun _ => (nat_bnd fun _ => (nat_bnd fun _ => (nat_bnd fun _ => (nat_bnd fun _ => nat_leaf))))))) (fun ρ x_ t k => (by kernel_rfl)) (fun x_ => by kernel_rfl))
theorem whole_right.ok : CalleeOk Go.Proofs.Try.prog 72 whole_right.ce := fn_ok (G := whole_right.G) tab_ok mixed Go.Proofs.Try.func72 ⟨fns_nil, mfns_nil, tab_eqs_ok⟩ (m := 7) (by kernel_rfl) ⟨⟨⟨⟨⟨⟨⟨trivial, whole_right.p0⟩, whole_right.p1⟩, whole_right.p2⟩, whole_right.p3⟩, whole_right.p4⟩, whole_right.p5⟩, whole_right.p6⟩ (by kernel_rfl) whole_right.eq
abbrev q42 : SD := .one (.own 27 0)
abbrev q43 : SD := .one (.own 52 0)
def whole_quotient.c2 {ρ : Type} (a : List (Int)) (b : List (Int)) (s : Int) (k_ : (List Int) × (List Int) → Option ρ) : Option ρ :=
  bnd (W.whole_left (Prod.fst (uP (uP (a, ()) fun u r ↦ (u, uP (s, ()) fun u r ↦ (u, ()))) fun u r ↦ (u, uP r fun u r ↦ (u, ())))) (Prod.fst (Prod.snd (uP (uP (a, ()) fun u r ↦ (u, uP (s, ()) fun u r ↦ (u, ()))) fun u r ↦ (u, uP r fun u r ↦ (u, ())))))) fun y =>
  bnd (W.whole_left (Prod.fst (uP (uP (b, ()) fun u r ↦ (u, uP (s, ()) fun u r ↦ (u, ()))) fun u r ↦ (u, uP r fun u r ↦ (u, ())))) (Prod.fst (Prod.snd (uP (uP (b, ()) fun u r ↦ (u, uP (s, ()) fun u r ↦ (u, ()))) fun u r ↦ (u, uP r fun u r ↦ (u, ())))))) fun y_1 =>
  bnd (okIf (decide ((0 : Int) ≤ (↑(List.length b) : Int)) && decide ((↑(List.length b) : Int) ≤ (↑(List.length (Prod.fst y_1)) : Int)))) fun y_2 =>
  k_ ((List.take (Int.toNat (↑(List.length b) : Int)) (Prod.fst y_1)), (Prod.fst y))
def whole_quotient.c2s : Shape := ⟨[(0, q3), (1, q3), (4, q3), (5, q3), (6, q2)], []⟩
def whole_quotient.c2x0 : Shape := ⟨[(0, q3), (1, q3), (4, q3), (5, q3), (6, q2), (7, q42), (8, q3)], [(27, q7)]⟩
def whole_quotient.c2r : Ck := Ck.of (T := (List Int) × (List Int)) whole_quotient.c2s (fun ρ x_ k_ => uP x_ fun a x_ => uP x_ fun b x_ => uP x_ fun t4 x_ => uP x_ fun t5 x_ => uP x_ fun s x_ => whole_quotient.c2 a b s k_) (fun ρ x_ r_ k_ => uP x_ fun a x_ => uP x_ fun b x_ => uP x_ fun t4 x_ => uP x_ fun t5 x_ => uP x_ fun s x_ => k_ 0 (Shape.inj whole_quotient.c2x0 (a, b, t4, t5, s, r_.1, r_.2, ())))
def whole_quotient.c3 {ρ : Type} (v : List (Int)) (k_ : Int → Option ρ) : Option ρ :=
  bnd (idx v (IntKind.wrap IntKind.i64 ((↑(List.length v) : Int) - (1 : Int)))) fun y =>
  k_ (IntKind.wrap IntKind.u64 y)
def whole_quotient.c3s : Shape := ⟨[(0, q3), (1, q3), (4, q3), (5, q3), (6, q2), (7, q42), (8, q3)], [(27, q7)]⟩
def whole_quotient.c3x0 : Shape := ⟨[(0, q3), (1, q3), (4, q3), (5, q3), (6, q2), (7, q42), (8, q3), (9, q2), (10, q5)], [(27, q7)]⟩
def whole_quotient.c3r : Ck := Ck.of (T := Int) whole_quotient.c3s (fun ρ x_ k_ => uP x_ fun a x_ => uP x_ fun b x_ => uP x_ fun t4 x_ => uP x_ fun t5 x_ => uP x_ fun s x_ => uP x_ fun v x_ => uP x_ fun t27 x_ => whole_quotient.c3 v k_) (fun ρ x_ r_ k_ => uP x_ fun a x_ => uP x_ fun b x_ => uP x_ fun t4 x_ => uP x_ fun t5 x_ => uP x_ fun s x_ => uP x_ fun v x_ => uP x_ fun t27 x_ => k_ 0 (Shape.inj whole_quotient.c3x0 (a, b, t4, t5, s, v, (↑(List.length v) : Int), r_, t27, ())))
def whole_quotient.c10 {ρ : Type} (n : Int) (j : Int) (t27 : List (Int)) (k_ : Int → Option ρ) : Option ρ :=
  bnd (inR (List.length t27) (IntKind.wrap IntKind.i64 (j + n))) fun y =>
  bnd (idx t27 (IntKind.wrap IntKind.i64 (j + n))) fun y_1 =>
  bnd (inR (List.length t27) (IntKind.wrap IntKind.i64 (IntKind.wrap IntKind.i64 (j + n) - (1 : Int)))) fun y_2 =>
  bnd (idx t27 (IntKind.wrap IntKind.i64 (IntKind.wrap IntKind.i64 (j + n) - (1 : Int)))) fun y_3 =>
  k_ (ibits BinOp.or IntKind.u64 (IntKind.wrap IntKind.u64 (IntKind.wrap IntKind.u64 y_1 * (2 : Int) ^ (32 : Nat))) (IntKind.wrap IntKind.u64 y_3))
def whole_quotient.c10s : Shape := ⟨[(0, q3), (1, q3), (4, q3), (5, q3), (6, q2), (7, q42), (8, q3), (9, q2), (10, q5), (11, q43), (12, q2)], [(27, q7), (52, q7)]⟩
def whole_quotient.c10x0 : Shape := ⟨[(0, q3), (1, q3), (4, q3), (5, q3), (6, q2), (7, q42), (8, q3), (9, q2), (10, q5), (11, q43), (12, q2), (13, q5)], [(27, q7), (52, q7)]⟩
def whole_quotient.c10r : Ck := Ck.of (T := Int) whole_quotient.c10s (fun ρ x_ k_ => uP x_ fun a x_ => uP x_ fun b x_ => uP x_ fun t4 x_ => uP x_ fun t5 x_ => uP x_ fun s x_ => uP x_ fun v x_ => uP x_ fun n x_ => uP x_ fun top x_ => uP x_ fun j x_ => uP x_ fun t27 x_ => uP x_ fun t52 x_ => whole_quotient.c10 n j t27 k_) (fun ρ x_ r_ k_ => uP x_ fun a x_ => uP x_ fun b x_ => uP x_ fun t4 x_ => uP x_ fun t5 x_ => uP x_ fun s x_ => uP x_ fun v x_ => uP x_ fun n x_ => uP x_ fun top x_ => uP x_ fun j x_ => uP x_ fun t27 x_ => uP x_ fun t52 x_ => k_ 0 (Shape.inj whole_quotient.c10x0 (a, b, t4, t5, s, v, n, top, j, r_, t27, t52, ())))
def whole_quotient.c11 {ρ : Type} (top : Int) (k_ : Unit → Option ρ) : Option ρ :=
  bnd (okIf (top != (0 : Int))) fun y =>
  bnd (okIf (top != (0 : Int))) fun y_1 =>
  k_ ()
def whole_quotient.c11s : Shape := ⟨[(0, q3), (1, q3), (4, q3), (5, q3), (6, q2), (7, q42), (8, q3), (9, q2), (10, q5), (11, q43), (12, q2), (13, q5)], [(27, q7), (52, q7)]⟩
def whole_quotient.c11x0 : Shape := ⟨[(0, q3), (1, q3), (4, q3), (5, q3), (6, q2), (7, q42), (8, q3), (9, q2), (10, q5), (11, q43), (12, q2), (13, q5), (14, q5), (15, q5)], [(27, q7), (52, q7)]⟩
def whole_quotient.c11r : Ck := Ck.of (T := Unit) whole_quotient.c11s (fun ρ x_ k_ => uP x_ fun a x_ => uP x_ fun b x_ => uP x_ fun t4 x_ => uP x_ fun t5 x_ => uP x_ fun s x_ => uP x_ fun v x_ => uP x_ fun n x_ => uP x_ fun top x_ => uP x_ fun j x_ => uP x_ fun head x_ => uP x_ fun t27 x_ => uP x_ fun t52 x_ => whole_quotient.c11 top k_) (fun ρ x_ r_ k_ => uP x_ fun a x_ => uP x_ fun b x_ => uP x_ fun t4 x_ => uP x_ fun t5 x_ => uP x_ fun s x_ => uP x_ fun v x_ => uP x_ fun n x_ => uP x_ fun top x_ => uP x_ fun j x_ => uP x_ fun head x_ => uP x_ fun t27 x_ => uP x_ fun t52 x_ => k_ 0 (Shape.inj whole_quotient.c11x0 (a, b, t4, t5, s, v, n, top, j, head, (IntKind.wrap IntKind.u64 (Int.tdiv head top)), (Int.tmod head top), t27, t52, ())))
def whole_quotient.c12 {ρ : Type} (v : List (Int)) (n : Int) (j : Int) (guess : Int) (rest : Int) (t27 : List (Int)) (k_ : Bool → Option ρ) : Option ρ :=
  br (decide (guess ≥ (4294967296 : Int)))
   (k_ true)
   (bnd (idx v (IntKind.wrap IntKind.i64 (n - (2 : Int)))) fun y =>
    bnd (inR (List.length t27) (IntKind.wrap IntKind.i64 (IntKind.wrap IntKind.i64 (j + n) - (2 : Int)))) fun y_1 =>
    bnd (idx t27 (IntKind.wrap IntKind.i64 (IntKind.wrap IntKind.i64 (j + n) - (2 : Int)))) fun y_2 =>
    k_ (decide (IntKind.wrap IntKind.u64 (guess * IntKind.wrap IntKind.u64 y) > ibits BinOp.or IntKind.u64 (IntKind.wrap IntKind.u64 (rest * (2 : Int) ^ (32 : Nat))) (IntKind.wrap IntKind.u64 y_2))))
def whole_quotient.c12s : Shape := ⟨[(0, q3), (1, q3), (4, q3), (5, q3), (6, q2), (7, q42), (8, q3), (9, q2), (10, q5), (11, q43), (12, q2), (13, q5), (14, q5), (15, q5)], [(27, q7), (52, q7)]⟩
def whole_quotient.c12x0 : Shape := ⟨[(0, q3), (1, q3), (4, q3), (5, q3), (6, q2), (7, q42), (8, q3), (9, q2), (10, q5), (11, q43), (12, q2), (13, q5), (14, q5), (15, q5), (108, q1)], [(27, q7), (52, q7)]⟩
def whole_quotient.c12r : Ck := Ck.of (T := Bool) whole_quotient.c12s (fun ρ x_ k_ => uP x_ fun a x_ => uP x_ fun b x_ => uP x_ fun t4 x_ => uP x_ fun t5 x_ => uP x_ fun s x_ => uP x_ fun v x_ => uP x_ fun n x_ => uP x_ fun top x_ => uP x_ fun j x_ => uP x_ fun head x_ => uP x_ fun guess x_ => uP x_ fun rest x_ => uP x_ fun t27 x_ => uP x_ fun t52 x_ => whole_quotient.c12 v n j guess rest t27 k_) (fun ρ x_ r_ k_ => uP x_ fun a x_ => uP x_ fun b x_ => uP x_ fun t4 x_ => uP x_ fun t5 x_ => uP x_ fun s x_ => uP x_ fun v x_ => uP x_ fun n x_ => uP x_ fun top x_ => uP x_ fun j x_ => uP x_ fun head x_ => uP x_ fun guess x_ => uP x_ fun rest x_ => uP x_ fun t27 x_ => uP x_ fun t52 x_ => k_ 0 (Shape.inj whole_quotient.c12x0 (a, b, t4, t5, s, v, n, top, j, head, guess, rest, r_, t27, t52, ())))
def whole_quotient.c100012 {ρ : Type} (v : List (Int)) (n : Int) (top : Int) (j : Int) (guess : Int) (rest : Int) (t27 : List (Int)) (k_ : ((Int) × (Int)) ⊕ ((Int) × (Int)) → Option ρ) : Option ρ :=
  bnd (W.whole_quotient.c12 v n j guess rest t27 some) fun y =>
  br y
   (br (decide (IntKind.wrap IntKind.u64 (rest + top) ≥ (4294967296 : Int)))
     (k_ (.inr ((IntKind.wrap IntKind.u64 (guess - (1 : Int))), (IntKind.wrap IntKind.u64 (rest + top)))))
     (k_ (.inl ((IntKind.wrap IntKind.u64 (guess - (1 : Int))), (IntKind.wrap IntKind.u64 (rest + top))))))
   (k_ (.inr (guess, rest)))
def whole_quotient.c100012s : Shape := ⟨[(0, q3), (1, q3), (4, q3), (5, q3), (6, q2), (7, q42), (8, q3), (9, q2), (10, q5), (11, q43), (12, q2), (13, q5), (14, q5), (15, q5)], [(27, q7), (52, q7)]⟩
def whole_quotient.c100012x0 : Shape := ⟨[(0, q3), (1, q3), (4, q3), (5, q3), (6, q2), (7, q42), (8, q3), (9, q2), (10, q5), (11, q43), (12, q2), (13, q5), (14, q5), (15, q5)], [(27, q7), (52, q7)]⟩
def whole_quotient.c100012r : Ck := Ck.ofLoop (S := (Int) × (Int)) (T := (Int) × (Int)) whole_quotient.c100012s (fun x_ => uP x_ fun a x_ => uP x_ fun b x_ => uP x_ fun t4 x_ => uP x_ fun t5 x_ => uP x_ fun s x_ => uP x_ fun v x_ => uP x_ fun n x_ => uP x_ fun top x_ => uP x_ fun j x_ => uP x_ fun head x_ => uP x_ fun guess x_ => uP x_ fun rest x_ => uP x_ fun t27 x_ => uP x_ fun t52 x_ => (guess, rest)) (fun ρ x_ s_ k_ => uP x_ fun a x_ => uP x_ fun b x_ => uP x_ fun t4 x_ => uP x_ fun t5 x_ => uP x_ fun s x_ => uP x_ fun v x_ => uP x_ fun n x_ => uP x_ fun top x_ => uP x_ fun j x_ => uP x_ fun head x_ => uP x_ fun guess x_ => uP x_ fun rest x_ => uP x_ fun t27 x_ => uP x_ fun t52 x_ => whole_quotient.c100012 v n top j s_.1 s_.2 t27 k_) (fun ρ x_ r_ k_ => uP x_ fun a x_ => uP x_ fun b x_ => uP x_ fun t4 x_ => uP x_ fun t5 x_ => uP x_ fun s x_ => uP x_ fun v x_ => uP x_ fun n x_ => uP x_ fun top x_ => uP x_ fun j x_ => uP x_ fun head x_ => uP x_ fun guess x_ => uP x_ fun rest x_ => uP x_ fun t27 x_ => uP x_ fun t52 x_ => k_ 4 (Shape.inj whole_quotient.c100012x0 (a, b, t4, t5, s, v, n, top, j, head, r_.1, r_.2, t27, t52, ())))
def whole_quotient.c265543 {ρ : Type} (v : List (Int)) (n : Int) (j : Int) (guess : Int) (t27 : List (Int)) (k_ : (Int) × (List Int) → Option ρ) : Option ρ :=
  bnd (okIf (decide ((0 : Int) ≤ j) && decide (j ≤ IntKind.wrap IntKind.i64 (IntKind.wrap IntKind.i64 (j + n) + (1 : Int))) && decide (IntKind.wrap IntKind.i64 (IntKind.wrap IntKind.i64 (j + n) + (1 : Int)) ≤ (↑(List.length t27) : Int)))) fun y =>
  bnd (W.whole_takeAway (Prod.fst (uP (uP (j, IntKind.wrap IntKind.i64 (IntKind.wrap IntKind.i64 (j + n) + (1 : Int)) - j, ()) fun u r ↦ (u, uP r fun u r ↦ (u, uP (v, ()) fun u r ↦ (u, uP (IntKind.wrap IntKind.u32 guess, ()) fun u r ↦ (u, ()))))) fun u r ↦ (u, uP r fun u r ↦ (u, uP r fun u r ↦ (u, uP r fun u r ↦ (u, uP (t27, ()) fun u r ↦ (u, ()))))))) (Prod.fst (Prod.snd (uP (uP (j, IntKind.wrap IntKind.i64 (IntKind.wrap IntKind.i64 (j + n) + (1 : Int)) - j, ()) fun u r ↦ (u, uP r fun u r ↦ (u, uP (v, ()) fun u r ↦ (u, uP (IntKind.wrap IntKind.u32 guess, ()) fun u r ↦ (u, ()))))) fun u r ↦ (u, uP r fun u r ↦ (u, uP r fun u r ↦ (u, uP r fun u r ↦ (u, uP (t27, ()) fun u r ↦ (u, ())))))))) (Prod.fst (Prod.snd (Prod.snd (uP (uP (j, IntKind.wrap IntKind.i64 (IntKind.wrap IntKind.i64 (j + n) + (1 : Int)) - j, ()) fun u r ↦ (u, uP r fun u r ↦ (u, uP (v, ()) fun u r ↦ (u, uP (IntKind.wrap IntKind.u32 guess, ()) fun u r ↦ (u, ()))))) fun u r ↦ (u, uP r fun u r ↦ (u, uP r fun u r ↦ (u, uP r fun u r ↦ (u, uP (t27, ()) fun u r ↦ (u, ()))))))))) (Prod.fst (Prod.snd (Prod.snd (Prod.snd (uP (uP (j, IntKind.wrap IntKind.i64 (IntKind.wrap IntKind.i64 (j + n) + (1 : Int)) - j, ()) fun u r ↦ (u, uP r fun u r ↦ (u, uP (v, ()) fun u r ↦ (u, uP (IntKind.wrap IntKind.u32 guess, ()) fun u r ↦ (u, ()))))) fun u r ↦ (u, uP r fun u r ↦ (u, uP r fun u r ↦ (u, uP r fun u r ↦ (u, uP (t27, ()) fun u r ↦ (u, ())))))))))) (Prod.fst (Prod.snd (Prod.snd (Prod.snd (Prod.snd (uP (uP (j, IntKind.wrap IntKind.i64 (IntKind.wrap IntKind.i64 (j + n) + (1 : Int)) - j, ()) fun u r ↦ (u, uP r fun u r ↦ (u, uP (v, ()) fun u r ↦ (u, uP (IntKind.wrap IntKind.u32 guess, ()) fun u r ↦ (u, ()))))) fun u r ↦ (u, uP r fun u r ↦ (u, uP r fun u r ↦ (u, uP r fun u r ↦ (u, uP (t27, ()) fun u r ↦ (u, ())))))))))))) fun y_1 =>
  br (Prod.fst y_1)
   (bnd (okIf (decide ((0 : Int) ≤ j) && decide (j ≤ IntKind.wrap IntKind.i64 (IntKind.wrap IntKind.i64 (j + n) + (1 : Int))) && decide (IntKind.wrap IntKind.i64 (IntKind.wrap IntKind.i64 (j + n) + (1 : Int)) ≤ (↑(List.length (Prod.fst y_1.2)) : Int)))) fun y_2 =>
    bnd (W.whole_giveBack (Prod.fst (uP (uP (j, IntKind.wrap IntKind.i64 (IntKind.wrap IntKind.i64 (j + n) + (1 : Int)) - j, ()) fun u r ↦ (u, uP r fun u r ↦ (u, uP (v, ()) fun u r ↦ (u, ())))) fun u r ↦ (u, uP r fun u r ↦ (u, uP r fun u r ↦ (u, uP (Prod.fst y_1.2, ()) fun u r ↦ (u, ())))))) (Prod.fst (Prod.snd (uP (uP (j, IntKind.wrap IntKind.i64 (IntKind.wrap IntKind.i64 (j + n) + (1 : Int)) - j, ()) fun u r ↦ (u, uP r fun u r ↦ (u, uP (v, ()) fun u r ↦ (u, ())))) fun u r ↦ (u, uP r fun u r ↦ (u, uP r fun u r ↦ (u, uP (Prod.fst y_1.2, ()) fun u r ↦ (u, ()))))))) (Prod.fst (Prod.snd (Prod.snd (uP (uP (j, IntKind.wrap IntKind.i64 (IntKind.wrap IntKind.i64 (j + n) + (1 : Int)) - j, ()) fun u r ↦ (u, uP r fun u r ↦ (u, uP (v, ()) fun u r ↦ (u, ())))) fun u r ↦ (u, uP r fun u r ↦ (u, uP r fun u r ↦ (u, uP (Prod.fst y_1.2, ()) fun u r ↦ (u, ())))))))) (Prod.fst (Prod.snd (Prod.snd (Prod.snd (uP (uP (j, IntKind.wrap IntKind.i64 (IntKind.wrap IntKind.i64 (j + n) + (1 : Int)) - j, ()) fun u r ↦ (u, uP r fun u r ↦ (u, uP (v, ()) fun u r ↦ (u, ())))) fun u r ↦ (u, uP r fun u r ↦ (u, uP r fun u r ↦ (u, uP (Prod.fst y_1.2, ()) fun u r ↦ (u, ())))))))))) fun y_3 =>
    k_ ((IntKind.wrap IntKind.u64 (guess - (1 : Int))), (Prod.fst y_3)))
   (k_ (guess, (Prod.fst y_1.2)))
def whole_quotient.c265543s : Shape := ⟨[(0, q3), (1, q3), (4, q3), (5, q3), (6, q2), (7, q42), (8, q3), (9, q2), (10, q5), (11, q43), (12, q2), (13, q5), (14, q5), (15, q5)], [(27, q7), (52, q7)]⟩
def whole_quotient.c265543x0 : Shape := ⟨[(0, q3), (1, q3), (4, q3), (5, q3), (6, q2), (7, q42), (8, q3), (9, q2), (10, q5), (11, q43), (12, q2), (13, q5), (14, q5), (15, q5)], [(27, q7), (52, q7)]⟩
def whole_quotient.c265543r : Ck := Ck.of (T := (Int) × (List Int)) whole_quotient.c265543s (fun ρ x_ k_ => uP x_ fun a x_ => uP x_ fun b x_ => uP x_ fun t4 x_ => uP x_ fun t5 x_ => uP x_ fun s x_ => uP x_ fun v x_ => uP x_ fun n x_ => uP x_ fun top x_ => uP x_ fun j x_ => uP x_ fun head x_ => uP x_ fun guess x_ => uP x_ fun rest x_ => uP x_ fun t27 x_ => uP x_ fun t52 x_ => whole_quotient.c265543 v n j guess t27 k_) (fun ρ x_ r_ k_ => uP x_ fun a x_ => uP x_ fun b x_ => uP x_ fun t4 x_ => uP x_ fun t5 x_ => uP x_ fun s x_ => uP x_ fun v x_ => uP x_ fun n x_ => uP x_ fun top x_ => uP x_ fun j x_ => uP x_ fun head x_ => uP x_ fun guess x_ => uP x_ fun rest x_ => uP x_ fun t27 x_ => uP x_ fun t52 x_ => k_ 0 (Shape.inj whole_quotient.c265543x0 (a, b, t4, t5, s, v, n, top, j, head, r_.1, rest, r_.2, t52, ())))
def whole_quotient.c100008 {ρ : Type} (v : List (Int)) (n : Int) (top : Int) (j : Int) (t27 : List (Int)) (t52 : List (Int)) (k_ : ((Int) × (List Int) × (List Int)) ⊕ ((Int) × (List Int) × (List Int)) → Option ρ) : Option ρ :=
  br (decide (j ≥ (0 : Int)))
   (bnd (W.whole_quotient.c10 n j t27 some) fun y =>
    bnd (W.whole_quotient.c11 top some) fun y_1 =>
    bnd (iter (fun s ↦ W.whole_quotient.c100012 v n top j (Prod.fst s) (Prod.snd s) t27 some) (IntKind.wrap IntKind.u64 (Int.tdiv y top), Int.tmod y top)) fun y_2 =>
    bnd (W.whole_quotient.c265543 v n j (Prod.fst y_2) t27 some) fun y_3 =>
    bnd (inR (List.length t52) j) fun y_4 =>
    bnd (idx t52 j) fun y_5 =>
    k_ (.inl ((IntKind.wrap IntKind.i64 (j - (1 : Int))), (Prod.snd y_3), (List.set t52 (Int.toNat j) (IntKind.wrap IntKind.u32 (Prod.fst y_3))))))
   (k_ (.inr (j, t27, t52)))
def whole_quotient.c100008s : Shape := ⟨[(0, q3), (1, q3), (4, q3), (5, q3), (6, q2), (7, q42), (8, q3), (9, q2), (10, q5), (11, q43), (12, q2)], [(27, q7), (52, q7)]⟩
def whole_quotient.c100008x0 : Shape := ⟨[(0, q3), (1, q3), (4, q3), (5, q3), (6, q2), (7, q42), (8, q3), (9, q2), (10, q5), (11, q43), (12, q2)], [(27, q7), (52, q7)]⟩
def whole_quotient.c100008r : Ck := Ck.ofLoop (S := (Int) × (List Int) × (List Int)) (T := (Int) × (List Int) × (List Int)) whole_quotient.c100008s (fun x_ => uP x_ fun a x_ => uP x_ fun b x_ => uP x_ fun t4 x_ => uP x_ fun t5 x_ => uP x_ fun s x_ => uP x_ fun v x_ => uP x_ fun n x_ => uP x_ fun top x_ => uP x_ fun j x_ => uP x_ fun t27 x_ => uP x_ fun t52 x_ => (j, t27, t52)) (fun ρ x_ s_ k_ => uP x_ fun a x_ => uP x_ fun b x_ => uP x_ fun t4 x_ => uP x_ fun t5 x_ => uP x_ fun s x_ => uP x_ fun v x_ => uP x_ fun n x_ => uP x_ fun top x_ => uP x_ fun j x_ => uP x_ fun t27 x_ => uP x_ fun t52 x_ => whole_quotient.c100008 v n top s_.1 s_.2.1 s_.2.2 k_) (fun ρ x_ r_ k_ => uP x_ fun a x_ => uP x_ fun b x_ => uP x_ fun t4 x_ => uP x_ fun t5 x_ => uP x_ fun s x_ => uP x_ fun v x_ => uP x_ fun n x_ => uP x_ fun top x_ => uP x_ fun j x_ => uP x_ fun t27 x_ => uP x_ fun t52 x_ => k_ 2 (Shape.inj whole_quotient.c100008x0 (a, b, t4, t5, s, v, n, top, r_.1, r_.2.1, r_.2.2, ())))
def whole_quotient (a : List (Int)) (b : List (Int)) : Option ((List Int) × (List Int)) :=
  bnd (idx b (IntKind.wrap IntKind.i64 ((↑(List.length b) : Int) - (1 : Int)))) fun y =>
  bnd (W.bits_LeadingZeros32 y) fun y_1 =>
  bnd (W.whole_quotient.c2 a b y_1 some) fun y_2 =>
  bnd (W.whole_quotient.c3 (Prod.fst y_2) some) fun y_3 =>
  br (decide ((↑(List.length (Prod.snd y_2)) : Int) ≤ (↑(List.length (Prod.fst y_2)) : Int)))
   (some ([], a))
   (bnd (okIf (decide ((0 : Int) ≤ IntKind.wrap IntKind.i64 ((↑(List.length (Prod.snd y_2)) : Int) - (↑(List.length (Prod.fst y_2)) : Int))) && decide (IntKind.wrap IntKind.i64 ((↑(List.length (Prod.snd y_2)) : Int) - (↑(List.length (Prod.fst y_2)) : Int)) ≤ IntKind.wrap IntKind.i64 ((↑(List.length (Prod.snd y_2)) : Int) - (↑(List.length (Prod.fst y_2)) : Int))) && decide (IntKind.wrap IntKind.i64 ((↑(List.length (Prod.snd y_2)) : Int) - (↑(List.length (Prod.fst y_2)) : Int)) * (↑(4 : Nat) : Int) ≤ (140737488355328 : Int)) && decide (IntKind.wrap IntKind.i64 ((↑(List.length (Prod.snd y_2)) : Int) - (↑(List.length (Prod.fst y_2)) : Int)) ≤ (140737488355328 : Int)))) fun y_4 =>
    bnd (iter (fun s ↦ W.whole_quotient.c100008 (Prod.fst y_2) (↑(List.length (Prod.fst y_2)) : Int) y_3 (Prod.fst s) (Prod.fst (Prod.snd s)) (Prod.snd (Prod.snd s)) some) (IntKind.wrap IntKind.i64 (IntKind.wrap IntKind.i64 ((↑(List.length (Prod.snd y_2)) : Int) - (↑(List.length (Prod.fst y_2)) : Int)) - (1 : Int)), Prod.snd y_2, List.replicate (Int.toNat (IntKind.wrap IntKind.i64 ((↑(List.length (Prod.snd y_2)) : Int) - (↑(List.length (Prod.fst y_2)) : Int)))) (0 : Int))) fun y_5 =>
    bnd (W.whole_right (Prod.fst (Prod.snd y_5)) y_1) fun y_6 =>
    some (Prod.snd (Prod.snd y_5), Prod.fst y_6))
def whole_quotient.ce : Go.Ql.Callee := ⟨[(.sl (.int .u32)), (.sl (.int .u32))], [(.sl (.int .u32)), (.sl (.int .u32))], fun x_ => whole_quotient x_.1 x_.2⟩
def whole_quotient.G : Env := ⟨151, tab, [(84, bits_LeadingZeros32.ce), (72, whole_right.ce)], [0, 1, 4, 5, 6, 7, 8, 9, 10, 11, 12, 13, 14, 15, 16, 46, 59, 108, 115, 126], [27, 52], [(12, [⟨[], [], [], []⟩, ⟨[0], [], [], []⟩, ⟨[1, 0], [], [], []⟩, ⟨[2, 1, 0], [], [89, 90, 91, 92, 93, 94, 96, 97, 98, 99, 100, 101, 102, 103, 104, 105, 106], []⟩, ⟨[2, 1, 0], [], [88, 90, 91, 96, 97, 98, 99, 100, 101, 102, 103, 104, 105, 106], []⟩, ⟨[2, 1, 0], [], [88, 89, 96, 97, 98, 99, 100, 101, 102, 103, 104, 105, 106], []⟩, ⟨[5, 2, 1, 0], [], [88, 89, 96, 97, 98, 99, 100, 101, 102, 103, 104, 105, 106], []⟩, ⟨[4, 2, 1, 0, 6, 5], [], [88, 96, 97, 98, 99, 100, 101, 102, 103, 104, 105, 106], []⟩, ⟨[7, 4, 2, 1, 0, 6, 5], [], [88, 96, 97, 98, 99, 100, 101, 102, 103, 104, 105, 106], []⟩, ⟨[8, 7, 4, 2, 1, 0, 6, 5], [], [88, 96, 97, 98, 99, 100, 101, 102, 103, 104, 105, 106], []⟩, ⟨[3, 2, 1, 0, 9, 8, 7, 4, 6, 5], [], [96, 97, 98, 99, 100, 101, 102, 103, 104, 105, 106], []⟩, ⟨[2, 1, 0], [], [88, 89, 90, 91, 92, 93, 94, 95, 98, 99, 100, 101, 102, 103, 104, 105], []⟩, ⟨[11, 2, 1, 0], [], [88, 89, 90, 91, 92, 93, 94, 95, 98, 99, 100, 101, 102, 103, 104, 105], []⟩, ⟨[2, 1, 0], [], [88, 89, 90, 91, 92, 93, 94, 95, 96, 97, 99, 100, 101, 102], []⟩, ⟨[2, 1, 0], [], [88, 89, 90, 91, 92, 93, 94, 95, 96, 97, 98, 100], []⟩, ⟨[2, 1, 0], [], [88, 89, 90, 91, 92, 93, 94, 95, 96, 97, 98, 99], []⟩, ⟨[14, 2, 1, 0, 15], [], [88, 89, 90, 91, 92, 93, 94, 95, 96, 97, 98], []⟩, ⟨[16, 14, 2, 1, 0, 15], [], [88, 89, 90, 91, 92, 93, 94, 95, 96, 97, 98], []⟩, ⟨[13, 2, 1, 0, 17, 16, 14, 15], [], [88, 89, 90, 91, 92, 93, 94, 95, 96, 97], []⟩, ⟨[18, 13, 2, 1, 0, 17, 16, 14, 15], [], [88, 89, 90, 91, 92, 93, 94, 95, 96, 97], []⟩, ⟨[19, 18, 13, 2, 1, 0, 17, 16, 14, 15], [], [88, 89, 90, 91, 92, 93, 94, 95, 96, 97], []⟩, ⟨[12, 11, 2, 1, 0, 20, 19, 18, 13, 17, 16, 14, 15], [], [88, 89, 90, 91, 92, 93, 94, 95], []⟩, ⟨[10, 3, 2, 1, 0, 9, 8, 7, 4, 6, 5, 21, 12, 11, 20, 19, 18, 13, 17, 16, 14, 15], [], [], []⟩, ⟨[2, 1, 0, 22, 10, 3, 9, 8, 7, 4, 6, 5, 21, 12, 11, 20, 19, 18, 13, 17, 16, 14, 15], [], [], []⟩]),
  (11, [⟨[], [], [80, 82, 83, 84], []⟩, ⟨[], [], [79, 82, 83, 84], []⟩, ⟨[0, 1], [], [82, 83, 84], []⟩, ⟨[], [], [79, 80, 81, 83, 14], []⟩, ⟨[], [], [79, 80, 81, 82, 14], []⟩, ⟨[3, 4], [], [79, 80, 81, 14], []⟩, ⟨[2, 0, 1], [], [82, 83, 84], []⟩, ⟨[5, 3, 4, 6, 2, 0, 1], [], [], []⟩]),
  (10, [⟨[], [], [63, 64, 65, 70, 71, 72, 73, 74, 75, 76, 77], []⟩, ⟨[], [], [62, 64, 70, 71, 72, 73, 74, 75, 76, 77], []⟩, ⟨[], [], [62, 63, 70, 71, 72, 73, 74, 75, 76, 77], []⟩, ⟨[1, 2], [], [62, 70, 71, 72, 73, 74, 75, 76, 77], []⟩, ⟨[0, 3, 1, 2], [], [70, 71, 72, 73, 74, 75, 76, 77], []⟩, ⟨[4, 0, 3, 1, 2], [], [70, 71, 72, 73, 74, 75, 76, 77], []⟩, ⟨[5, 4, 0, 3, 1, 2], [], [70, 71, 72, 73, 74, 75, 76, 77], []⟩, ⟨[6, 5, 4, 0, 3, 1, 2], [], [70, 71, 72, 73, 74, 75, 76, 77], []⟩, ⟨[], [], [62, 63, 64, 65, 66, 67, 68, 69, 71, 72, 73, 74], []⟩, ⟨[], [], [62, 63, 64, 65, 66, 67, 68, 69, 70, 72], []⟩, ⟨[], [], [62, 63, 64, 65, 66, 67, 68, 69, 70, 71], []⟩, ⟨[9, 10], [], [62, 63, 64, 65, 66, 67, 68, 69, 70], []⟩, ⟨[11, 9, 10], [], [62, 63, 64, 65, 66, 67, 68, 69, 70], []⟩, ⟨[8, 12, 11, 9, 10], [], [62, 63, 64, 65, 66, 67, 68, 69], []⟩, ⟨[13, 8, 12, 11, 9, 10], [], [62, 63, 64, 65, 66, 67, 68, 69], []⟩, ⟨[14, 13, 8, 12, 11, 9, 10], [], [62, 63, 64, 65, 66, 67, 68, 69], []⟩, ⟨[7, 6, 5, 4, 0, 3, 1, 2, 15, 14, 13, 8, 12, 11, 9, 10], [], [], []⟩, ⟨[16, 7, 6, 5, 4, 0, 3, 1, 2, 15, 14, 13, 8, 12, 11, 9, 10], [], [], []⟩]),
  (3, [⟨[], [], [36, 37, 38, 39, 40, 41, 42], []⟩, ⟨[0], [], [36, 37, 38, 39, 40, 41, 42], []⟩, ⟨[], [], [34, 35, 37, 38, 39, 9], []⟩, ⟨[], [], [34, 35, 36, 9], []⟩, ⟨[3], [], [34, 35, 36, 9], []⟩, ⟨[4, 3], [], [34, 35, 36, 9], []⟩, ⟨[2, 5, 4, 3], [], [34, 35, 9], []⟩, ⟨[6, 2, 5, 4, 3], [], [34, 35, 9], []⟩, ⟨[7, 6, 2, 5, 4, 3], [], [34, 35, 9], []⟩, ⟨[1, 0], [], [36, 37, 38, 39, 40, 41, 42], []⟩, ⟨[8, 7, 6, 2, 5, 4, 3, 9, 1, 0], [], [], []⟩]),
  (2, [⟨[], [], [26, 28, 29, 31, 32], []⟩, ⟨[], [], [25, 28, 29, 31, 32], []⟩, ⟨[0, 1], [27], [28, 29, 31, 32], []⟩, ⟨[], [], [25, 26, 27, 29, 31, 32], [27]⟩, ⟨[], [], [25, 26, 27, 28, 31, 32], [27]⟩, ⟨[3, 4, 2, 0, 1], [30], [31, 32], []⟩, ⟨[], [], [25, 26, 27, 28, 29, 30, 7], [27, 30]⟩, ⟨[6], [], [25, 26, 27, 28, 29, 30, 7], [27, 30]⟩, ⟨[5, 3, 4, 2, 0, 1, 7, 6], [30], [7], []⟩, ⟨[2, 0, 1, 5, 3, 4], [], [31, 32, 33], [30]⟩, ⟨[8, 5, 3, 4, 2, 0, 1, 7, 6, 9], [], [], []⟩])], [(100008, whole_quotient.c100008r), (265543, whole_quotient.c265543r), (100012, whole_quotient.c100012r), (12, whole_quotient.c12r), (11, whole_quotient.c11r), (10, whole_quotient.c10r), (3, whole_quotient.c3r), (2, whole_quotient.c2r)], [(71, whole_left.mc), (85, whole_takeAway.mc), (86, whole_giveBack.mc)], tab_eqs⟩
theorem whole_quotient.eq (x_ : dens [(.sl (.int .u32)), (.sl (.int .u32))]) : den whole_quotient.G Go.Proofs.Try.f69 [(.sl (.int .u32)), (.sl (.int .u32))] [(.sl (.int .u32)), (.sl (.int .u32))] x_ = whole_quotient x_.1 x_.2 := by kernel_rfl
theorem whole_quotient.p0 : PieceOk whole_quotient.G (pieceAt (pieces whole_quotient.G.cks (bodyOf Go.Proofs.Try.f69)) 0).1 (pieceAt (pieces whole_quotient.G.cks (bodyOf Go.Proofs.Try.f69)) 0).2 :=
  region_ok (s := whole_quotient.c2r) (by kernel_rfl) (by kernel_rfl) (sums_of (sh := whole_quotient.c2s) (fun ρ x_ k_ => (nat_bnd fun _ => (nat_bnd fun _ => (nat_bnd fun _ => nat_leaf)))) (fun ρ x_ t k => (by kernel_rfl)) (fun x_ => by kernel_rfl))
theorem whole_quotient.p1 : PieceOk whole_quotient.G (pieceAt (pieces whole_quotient.G.cks (bodyOf Go.Proofs.Try.f69)) 1).1 (pieceAt (pieces whole_quotient.G.cks (bodyOf Go.Proofs.Try.f69)) 1).2 :=
  region_ok (s := whole_quotient.c3r) (by kernel_rfl) (by kernel_rfl) (sums_of (sh := whole_quotient.c3s) (fun ρ x_ k_ => (nat_bnd fun _ => nat_leaf)) (fun ρ x_ t k => (by kernel_rfl)) (fun x_ => by kernel_rfl))
theorem whole_quotient.p2 : PieceOk whole_quotient.G (pieceAt (pieces whole_quotient.G.cks (bodyOf Go.Proofs.Try.f69)) 2).1 (pieceAt (pieces whole_quotient.G.cks (bodyOf Go.Proofs.Try.f69)) 2).2 :=
  loop_ok (s := whole_quotient.c100008r) (by kernel_rfl) (by kernel_rfl) (loops_of (sh := whole_quotient.c100008s) (I := fun x_ s_ => (x_.1, x_.2.1, x_.2.2.1, x_.2.2.2.1, x_.2.2.2.2.1, x_.2.2.2.2.2.1, x_.2.2.2.2.2.2.1, x_.2.2.2.2.2.2.2.1, s_.1, s_.2.1, s_.2.2, ())) (fun x_ => rfl) (fun ρ x_ s_ k_ => (nat_br (nat_bnd fun _ => (nat_bnd fun _ => (nat_bnd fun _ => (nat_bnd fun _ => (nat_bnd fun _ => (nat_bnd fun _ => nat_leaf)))))) nat_leaf)) (fun ρ x_ t k => (by kernel_rfl)) (fun x_ s => by kernel_rfl))
theorem whole_quotient.p3 : PieceOk whole_quotient.G (pieceAt (pieces whole_quotient.G.cks (bodyOf Go.Proofs.Try.f69)) 3).1 (pieceAt (pieces whole_quotient.G.cks (bodyOf Go.Proofs.Try.f69)) 3).2 :=
  region_ok (s := whole_quotient.c10r) (by kernel_rfl) (by kernel_rfl) (sums_of (sh := whole_quotient.c10s) (fun ρ x_ k_ => (nat_bnd fun _ => (nat_bnd fun _ => (nat_bnd fun _ => (nat_bnd fun _ => nat_leaf))))) (fun ρ x_ t k => (by kernel_rfl)) (fun x_ => by kernel_rfl))
theorem whole_quotient.p4 : PieceOk whole_quotient.G (pieceAt (pieces whole_quotient.G.cks (bodyOf Go.Proofs.Try.f69)) 4).1 (pieceAt (pieces whole_quotient.G.cks (bodyOf Go.Proofs.Try.f69)) 4).2 :=
  region_ok (s := whole_quotient.c11r) (by kernel_rfl) (by kernel_rfl) (sums_of (sh := whole_quotient.c11s) (fun ρ x_ k_ => (nat_bnd fun _ => (nat_bnd fun _ => nat_leaf))) (fun ρ x_ t k => (by kernel_rfl)) (fun x_ => by kernel_rfl))
theorem whole_quotient.p5 : PieceOk whole_quotient.G (pieceAt (pieces whole_quotient.G.cks (bodyOf Go.Proofs.Try.f69)) 5).1 (pieceAt (pieces whole_quotient.G.cks (bodyOf Go.Proofs.Try.f69)) 5).2 :=
  loop_ok (s := whole_quotient.c100012r) (by kernel_rfl) (by kernel_rfl) (loops_of (sh := whole_quotient.c100012s) (I := fun x_ s_ => (x_.1, x_.2.1, x_.2.2.1, x_.2.2.2.1, x_.2.2.2.2.1, x_.2.2.2.2.2.1, x_.2.2.2.2.2.2.1, x_.2.2.2.2.2.2.2.1, x_.2.2.2.2.2.2.2.2.1, x_.2.2.2.2.2.2.2.2.2.1, s_.1, s_.2, x_.2.2.2.2.2.2.2.2.2.2.2.2.1, x_.2.2.2.2.2.2.2.2.2.2.2.2.2.1, ())) (fun x_ => rfl) (fun ρ x_ s_ k_ => (nat_bnd fun _ => (nat_br (nat_br nat_leaf nat_leaf) nat_leaf))) (fun ρ x_ t k => (by kernel_rfl)) (fun x_ s => by kernel_rfl))
theorem whole_quotient.p6 : PieceOk whole_quotient.G (pieceAt (pieces whole_quotient.G.cks (bodyOf Go.Proofs.Try.f69)) 6).1 (pieceAt (pieces whole_quotient.G.cks (bodyOf Go.Proofs.Try.f69)) 6).2 :=
  region_ok (s := whole_quotient.c12r) (by kernel_rfl) (by kernel_rfl) (sums_of (sh := whole_quotient.c12s) (fun ρ x_ k_ => (nat_br nat_leaf (nat_bnd fun _ => (nat_bnd fun _ => (nat_bnd fun _ => nat_leaf))))) (fun ρ x_ t k => (by kernel_rfl)) (fun x_ => by kernel_rfl))
theorem whole_quotient.p7 : PieceOk whole_quotient.G (pieceAt (pieces whole_quotient.G.cks (bodyOf Go.Proofs.Try.f69)) 7).1 (pieceAt (pieces whole_quotient.G.cks (bodyOf Go.Proofs.Try.f69)) 7).2 :=
  join_ok (s := whole_quotient.c265543r) (by kernel_rfl) (by kernel_rfl) (sums_of (sh := whole_quotient.c265543s) (fun ρ x_ k_ => (nat_bnd fun _ => (nat_bnd fun _ => (nat_br (nat_bnd fun _ => (nat_bnd fun _ => nat_leaf)) nat_leaf)))) (fun ρ x_ t k => (by kernel_rfl)) (fun x_ => by kernel_rfl))
theorem whole_quotient.ok : CalleeOk Go.Proofs.Try.prog 69 whole_quotient.ce := fn_ok (G := whole_quotient.G) tab_ok mixed Go.Proofs.Try.func69 ⟨(fns_cons bits_LeadingZeros32.ok (fns_cons whole_right.ok fns_nil)), (mfns_cons whole_left.ok (mfns_cons whole_takeAway.ok (mfns_cons whole_giveBack.ok mfns_nil))), tab_eqs_ok⟩ (m := 8) (by kernel_rfl) ⟨⟨⟨⟨⟨⟨⟨⟨trivial, whole_quotient.p0⟩, whole_quotient.p1⟩, whole_quotient.p2⟩, whole_quotient.p3⟩, whole_quotient.p4⟩, whole_quotient.p5⟩, whole_quotient.p6⟩, whole_quotient.p7⟩ (by kernel_rfl) whole_quotient.eq
end
end W
end
