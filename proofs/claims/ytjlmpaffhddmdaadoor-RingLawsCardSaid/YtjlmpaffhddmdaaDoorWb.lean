/- Lifted functions, part 2: each with its contract. -/
import Derived.Test.YtjlmpaffhddmdaaDoorWa
import Derived.Test.YtjlmpaffhddmdaaDoorProg
import Derived.Test.YtjlmpaffhddmdaaDoorLf
import Derived.WalkKit
import Derived.Recover
set_option linter.all false
section
set_option maxHeartbeats 4000000
set_option maxRecDepth 100000
set_option linter.unusedVariables false
namespace W
open Go Go.Ql Go.Proofs
noncomputable section
abbrev nb51 : SD := .one (.val (.sl (.int .u8)))
def whole_digits.c100006 {ρ : Type} (part : Int) (t6 : Int) (t21 : List (Int)) (t22 : Int) (t23 : Int) (k_ : ((Int) × (Int) × (Int)) ⊕ ((Int) × (Int) × (Int)) → Option ρ) : Option ρ :=
  br (decide (t23 < t22))
   (bnd (idx t21 t23) fun y =>
    k_ (.inl ((IntKind.wrap IntKind.u64 (IntKind.wrap IntKind.u64 (part * (10 : Int)) + IntKind.wrap IntKind.u64 (IntKind.wrap IntKind.u8 (y - (48 : Int))))), (IntKind.wrap IntKind.u64 (t6 * (10 : Int))), (IntKind.wrap IntKind.i64 (t23 + (1 : Int))))))
   (k_ (.inr (part, t6, t23)))
def whole_digits.c100006s : Shape := ⟨[(0, nb39), (2, nb1), (3, nb40), (4, nb3), (5, nb6), (6, nb6), (21, nb51), (22, nb3), (23, nb3)], [(3, nb9)]⟩
def whole_digits.c100006x0 : Shape := whole_digits.c100006s
def whole_digits.c100006r : Ck := Ck.ofLoop (S := (Int) × (Int) × (Int)) (T := (Int) × (Int) × (Int)) whole_digits.c100006s (fun x_ => (x_.2.2.2.1, x_.2.2.2.2.1, x_.2.2.2.2.2.2.2.1)) (fun ρ x_ s_ k_ => whole_digits.c100006 s_.1 s_.2.1 x_.2.2.2.2.2.1 x_.2.2.2.2.2.2.1 s_.2.2 k_) (fun ρ x_ r_ k_ => k_ 4 (Shape.inj whole_digits.c100006x0 (x_.1, x_.2.1, x_.2.2.1, r_.1, r_.2.1, x_.2.2.2.2.2.1, x_.2.2.2.2.2.2.1, r_.2.2, x_.2.2.2.2.2.2.2.2)))
def whole_digits.c100012 {ρ : Type} (part : Int) (t6 : Int) (t40 : Int) (t41 : Int) (mag : List (Int)) (k_ : ((Int) × (Int) × (List Int)) ⊕ ((Int) × (Int) × (List Int)) → Option ρ) : Option ρ :=
  br (decide (t41 < t40))
   (bnd (inR (List.length mag) t41) fun y =>
    bnd (idx mag t41) fun y_1 =>
    bnd (inR (List.length mag) t41) fun y_2 =>
    bnd (idx mag t41) fun y_3 =>
    k_ (.inl ((Int.fdiv (IntKind.wrap IntKind.u64 (part + IntKind.wrap IntKind.u64 (IntKind.wrap IntKind.u64 y_1 * t6))) ((2 : Int) ^ (32 : Nat))), (IntKind.wrap IntKind.i64 (t41 + (1 : Int))), (List.set mag (Int.toNat t41) (IntKind.wrap IntKind.u32 (IntKind.wrap IntKind.u64 (part + IntKind.wrap IntKind.u64 (IntKind.wrap IntKind.u64 y_1 * t6))))))))
   (k_ (.inr (part, t41, mag)))
def whole_digits.c100012s : Shape := ⟨[(0, nb39), (2, nb1), (3, nb40), (4, nb3), (5, nb6), (6, nb6), (21, nb51), (22, nb3), (23, nb3), (40, nb3), (41, nb3)], [(3, nb9)]⟩
def whole_digits.c100012x0 : Shape := whole_digits.c100012s
def whole_digits.c100012r : Ck := Ck.ofLoop (S := (Int) × (Int) × (List Int)) (T := (Int) × (Int) × (List Int)) whole_digits.c100012s (fun x_ => (x_.2.2.2.1, x_.2.2.2.2.2.2.2.2.2.1, x_.2.2.2.2.2.2.2.2.2.2.1)) (fun ρ x_ s_ k_ => whole_digits.c100012 s_.1 x_.2.2.2.2.1 x_.2.2.2.2.2.2.2.2.1 s_.2.1 s_.2.2 k_) (fun ρ x_ r_ k_ => k_ 6 (Shape.inj whole_digits.c100012x0 (x_.1, x_.2.1, x_.2.2.1, r_.1, x_.2.2.2.2.1, x_.2.2.2.2.2.1, x_.2.2.2.2.2.2.1, x_.2.2.2.2.2.2.2.1, x_.2.2.2.2.2.2.2.2.1, r_.2.1, r_.2.2, ())))
def whole_digits.c100002 {ρ : Type} (text : List UInt8) (mag : List (Int)) (k_ : ((List UInt8) × (List Int)) ⊕ ((List UInt8) × (List Int)) → Option ρ) : Option ρ :=
  br (decide ((↑(List.length text) : Int) > (0 : Int)))
   (bnd (okIf (decide ((0 : Int) ≤ IntKind.wrap IntKind.i64 (Int.tmod (IntKind.wrap IntKind.i64 ((↑(List.length text) : Int) - (1 : Int))) (9 : Int) + (1 : Int))) && decide (IntKind.wrap IntKind.i64 (Int.tmod (IntKind.wrap IntKind.i64 ((↑(List.length text) : Int) - (1 : Int))) (9 : Int) + (1 : Int)) ≤ (↑(List.length text) : Int)))) fun y =>
    bnd (okIf (decide (List.length (List.take (Int.toNat (IntKind.wrap IntKind.i64 (Int.tmod (IntKind.wrap IntKind.i64 ((↑(List.length text) : Int) - (1 : Int))) (9 : Int) + (1 : Int)))) text) ≤ (140737488355328 : Nat)))) fun y_1 =>
    bnd (iter (fun s ↦ W.whole_digits.c100006 (Prod.fst s) (Prod.fst (Prod.snd s)) (List.map (fun b ↦ (↑(UInt8.toNat b) : Int)) (List.take (Int.toNat (IntKind.wrap IntKind.i64 (Int.tmod (IntKind.wrap IntKind.i64 ((↑(List.length text) : Int) - (1 : Int))) (9 : Int) + (1 : Int)))) text)) (↑(List.length (List.map (fun b ↦ (↑(UInt8.toNat b) : Int)) (List.take (Int.toNat (IntKind.wrap IntKind.i64 (Int.tmod (IntKind.wrap IntKind.i64 ((↑(List.length text) : Int) - (1 : Int))) (9 : Int) + (1 : Int)))) text))) : Int) (Prod.snd (Prod.snd s)) some) ((0 : Int), (1 : Int), (0 : Int))) fun y_2 =>
    bnd (okIf (decide ((0 : Int) ≤ IntKind.wrap IntKind.i64 (Int.tmod (IntKind.wrap IntKind.i64 ((↑(List.length text) : Int) - (1 : Int))) (9 : Int) + (1 : Int))) && decide (IntKind.wrap IntKind.i64 (Int.tmod (IntKind.wrap IntKind.i64 ((↑(List.length text) : Int) - (1 : Int))) (9 : Int) + (1 : Int)) ≤ (↑(List.length text) : Int)) && decide ((↑(List.length text) : Int) ≤ (↑(List.length text) : Int)))) fun y_3 =>
    bnd (iter (fun s ↦ W.whole_digits.c100012 (Prod.fst s) (Prod.fst (Prod.snd y_2)) (↑(List.length mag) : Int) (Prod.fst (Prod.snd s)) (Prod.snd (Prod.snd s)) some) (Prod.fst y_2, (0 : Int), mag)) fun y_4 =>
    br (decide (Prod.fst y_4 > (0 : Int)))
     (bnd (okIf (decide ((List.length (Prod.snd (Prod.snd y_4)) + (1 : Nat)) * (4 : Nat) ≤ (140737488355328 : Nat)) && decide (List.length (Prod.snd (Prod.snd y_4)) + (1 : Nat) ≤ (140737488355328 : Nat)))) fun y_5 =>
      k_ (.inl ((List.drop (Int.toNat (IntKind.wrap IntKind.i64 (Int.tmod (IntKind.wrap IntKind.i64 ((↑(List.length text) : Int) - (1 : Int))) (9 : Int) + (1 : Int)))) (List.take (Int.toNat (↑(List.length text) : Int)) text)), (Prod.snd (Prod.snd y_4) ++ [IntKind.wrap IntKind.u32 (Prod.fst y_4)]))))
     (k_ (.inl ((List.drop (Int.toNat (IntKind.wrap IntKind.i64 (Int.tmod (IntKind.wrap IntKind.i64 ((↑(List.length text) : Int) - (1 : Int))) (9 : Int) + (1 : Int)))) (List.take (Int.toNat (↑(List.length text) : Int)) text)), (Prod.snd (Prod.snd y_4))))))
   (k_ (.inr (text, mag)))
def whole_digits.c100002s : Shape := ⟨[(0, nb39), (2, nb1), (3, nb40)], [(3, nb9)]⟩
def whole_digits.c100002x0 : Shape := whole_digits.c100002s
def whole_digits.c100002r : Ck := Ck.ofLoop (S := (List UInt8) × (List Int)) (T := (List UInt8) × (List Int)) whole_digits.c100002s (fun x_ => (x_.1, x_.2.2.1)) (fun ρ x_ s_ k_ => whole_digits.c100002 s_.1 s_.2 k_) (fun ρ x_ r_ k_ => k_ 2 (Shape.inj whole_digits.c100002x0 (r_.1, x_.2.1, r_.2, ())))
def whole_digits (text : List UInt8) : Option (List Int) :=
  bnd (iter (fun s ↦ W.whole_digits.c100002 (Prod.fst s) (Prod.snd s) some) (text, [])) fun y =>
  some (Prod.snd y)
def whole_digits.ce : Go.Ql.Callee := ⟨[.str], [(.sl (.int .u32))], fun x_ => whole_digits x_⟩
def whole_digits.G : Env := ⟨69, tab, [], [0, 2, 3, 4, 5, 6, 8, 9, 12, 21, 22, 23, 24, 40, 41, 42, 62], [3], [], [(100002, whole_digits.c100002r), (100012, whole_digits.c100012r), (100006, whole_digits.c100006r)], [], tab_eqs, []⟩
theorem whole_digits.eq (x_ : dens whole_digits.ce.params) : den whole_digits.G Tryd.f53 whole_digits.ce.params whole_digits.ce.res x_ = whole_digits.ce.F x_ := by kernel_rfl
theorem whole_digits.p0 : PcA whole_digits.G Tryd.f53 0 :=
  loop_ok (s := whole_digits.c100002r) (by kernel_rfl) (by kernel_rfl) (loops_of (sh := whole_digits.c100002s) (I := fun x_ s_ => (s_.1, x_.2.1, s_.2, ())) (fun x_ => rfl) (fun ρ x_ s_ k_ => (nat_br (nat_bnd fun _ => (nat_bnd fun _ => (nat_bnd fun _ => (nat_bnd fun _ => (nat_bnd fun _ => (nat_br (nat_bnd fun _ => nat_leaf) nat_leaf)))))) nat_leaf)) (fun ρ x_ t k => (by kernel_rfl)) (fun x_ s => by kernel_rfl))
theorem whole_digits.p1 : PcA whole_digits.G Tryd.f53 1 :=
  loop_ok (s := whole_digits.c100006r) (by kernel_rfl) (by kernel_rfl) (loops_of (sh := whole_digits.c100006s) (I := fun x_ s_ => (x_.1, x_.2.1, x_.2.2.1, s_.1, s_.2.1, x_.2.2.2.2.2.1, x_.2.2.2.2.2.2.1, s_.2.2, x_.2.2.2.2.2.2.2.2)) (fun x_ => rfl) (fun ρ x_ s_ k_ => (nat_br (nat_bnd fun _ => nat_leaf) nat_leaf)) (fun ρ x_ t k => (by kernel_rfl)) (fun x_ s => by kernel_rfl))
theorem whole_digits.p2 : PcA whole_digits.G Tryd.f53 2 :=
  loop_ok (s := whole_digits.c100012r) (by kernel_rfl) (by kernel_rfl) (loops_of (sh := whole_digits.c100012s) (I := fun x_ s_ => (x_.1, x_.2.1, x_.2.2.1, s_.1, x_.2.2.2.2.1, x_.2.2.2.2.2.1, x_.2.2.2.2.2.2.1, x_.2.2.2.2.2.2.2.1, x_.2.2.2.2.2.2.2.2.1, s_.2.1, s_.2.2, ())) (fun x_ => rfl) (fun ρ x_ s_ k_ => (nat_br (nat_bnd fun _ => (nat_bnd fun _ => (nat_bnd fun _ => (nat_bnd fun _ => nat_leaf)))) nat_leaf)) (fun ρ x_ t k => (by kernel_rfl)) (fun x_ s => by kernel_rfl))
theorem whole_digits.ok : CalleeOk Tryd.prog 53 whole_digits.ce := fn_ok (G := whole_digits.G) tab_ok mixed Tryd.func53 ⟨fns_nil, mfns_nil, tab_eqs_ok, alts_nil⟩ (m := 3) (by kernel_rfl) ⟨⟨⟨trivial, whole_digits.p0⟩, whole_digits.p1⟩, whole_digits.p2⟩ (by kernel_rfl) whole_digits.eq
def whole_Parse.c2 {ρ : Type} (text : List UInt8) (n : Int) (ok : Bool) (k_ : Bool → Option ρ) : Option ρ :=
  br (!ok)
   (k_ true)
   (k_ (decide (n < (↑(List.length text) : Int))))
def whole_Parse.c2s : Shape := ⟨[(0, nb39), (2, nb5), (3, nb12), (4, nb3), (5, nb0)], [(2, nb4), (3, nb19)]⟩
def whole_Parse.c2x0 : Shape := ⟨[(0, nb39), (2, nb5), (3, nb12), (4, nb3), (5, nb0), (19, nb0)], [(2, nb4), (3, nb19)]⟩
def whole_Parse.c2r : Ck := Ck.of (T := Bool) whole_Parse.c2s (fun ρ x_ k_ => whole_Parse.c2 x_.1 x_.2.1 x_.2.2.1 k_) (fun ρ x_ r_ k_ => k_ 0 (Shape.inj whole_Parse.c2x0 (x_.1, x_.2.1, x_.2.2.1, r_, x_.2.2.2)))
def whole_Parse (text : List UInt8) : Option (((Bool) × (List Int)) × ((Int) × (Int))) :=
  bnd (W.whole_number text true) fun y =>
  bnd (W.whole_Parse.c2 text (Prod.fst y) (Prod.snd y) some) fun y_1 =>
  br y_1
   (some ((false, []), (1 : Int), Prod.fst y))
   (bnd (W.strings_TrimPrefix text (Array.toList (ByteArray.data (ByteArray.mk #[(45 : UInt8)])))) fun y_2 =>
    br (decide ((↑(List.length y_2) : Int) > (1000 : Int)))
     (some ((false, []), (2 : Int), (0 : Int)))
     (bnd (W.whole_digits y_2) fun y_3 =>
      bnd (W.whole_made (decide ((↑(List.length y_2) : Int) < (↑(List.length text) : Int))) y_3) fun y_4 =>
      some ((Prod.fst y_4, Prod.snd y_4), (0 : Int), (0 : Int))))
def whole_Parse.ce : Go.Ql.Callee := ⟨[.str], [(.st (.pair .bool (.sl (.int .u32)))), (.st (.pair (.int .i64) (.int .i64)))], fun x_ => whole_Parse x_⟩
def whole_Parse.G : Env := ⟨39, tab, [(51, whole_number.ce), (52, strings_TrimPrefix.ce), (53, whole_digits.ce), (36, whole_made.ce)], [0, 2, 3, 4, 5, 6, 19, 27], [], [], [(2, whole_Parse.c2r)], [], tab_eqs, []⟩
theorem whole_Parse.eq (x_ : dens whole_Parse.ce.params) : den whole_Parse.G Tryd.f34 whole_Parse.ce.params whole_Parse.ce.res x_ = whole_Parse.ce.F x_ := by kernel_rfl
theorem whole_Parse.p0 : PcA whole_Parse.G Tryd.f34 0 :=
  region_ok (s := whole_Parse.c2r) (by kernel_rfl) (by kernel_rfl) (sums_of (sh := whole_Parse.c2s) (fun ρ x_ k_ => (nat_br nat_leaf nat_leaf)) (fun ρ x_ t k => (by kernel_rfl)) (fun x_ => by kernel_rfl))
theorem whole_Parse.ok : CalleeOk Tryd.prog 34 whole_Parse.ce := fn_ok (G := whole_Parse.G) tab_ok mixed Tryd.func34 ⟨(fns_cons whole_number.ok (fns_cons strings_TrimPrefix.ok (fns_cons whole_digits.ok (fns_cons whole_made.ok fns_nil)))), mfns_nil, tab_eqs_ok, alts_nil⟩ (m := 1) (by kernel_rfl) ⟨trivial, whole_Parse.p0⟩ (by kernel_rfl) whole_Parse.eq
abbrev nb52 : SD := .one (.ref 1000800 0)
abbrev nb53 : SD := .one (.ref 1000900 0)
def ring_Parse_1B.pre : Shape := ⟨[(0, nb21), (1, nb52), (2, nb53), (9, nb0)], [(1000800, nb19), (1000900, nb19), (2000700, nb26)]⟩
def ring_Parse_1B.chk : St → Bool := fun _ => true
def ring_Parse_1B.c2 {ρ : Type} (t2000700 : List ((List ((Bool) × (List Int))) × (Int))) (k_ : Unit → Option ρ) : Option ρ :=
  bnd (idx t2000700 (0 : Int)) fun y =>
  k_ ()
def ring_Parse_1B.c2s : Shape := ⟨[(0, nb21), (1, nb52), (2, nb53)], [(1000800, nb19), (1000900, nb19), (2000700, nb26)]⟩
def ring_Parse_1B.c2x0 : Shape := ring_Parse_1B.c2s
def ring_Parse_1B.c2r : Ck := Ck.of (T := Unit) ring_Parse_1B.c2s (fun ρ x_ k_ => ring_Parse_1B.c2 x_.2.2.2.2.1 k_) (fun ρ x_ r_ k_ => k_ 0 (Shape.inj ring_Parse_1B.c2x0 (x_.2.2.1, x_.2.2.2.1, x_.2.2.1, x_.2.2.2.1, (List.set x_.2.2.2.2.1 (0 : Nat) (List.replicate (8 : Nat) (false, []), (0 : Int))), ())))
def ring_Parse_1B (t9 : Bool) (t10008000 : Int) (t10008001 : Int) (t10009000 : Int) (t10009001 : Int) (t2000700 : List ((List ((Bool) × (List Int))) × (Int))) : Option ((Unit) ⊕ ((Int) × (Int))) :=
  br t9
   (bnd (W.ring_Parse_1B.c2 t2000700 some) fun y =>
    some (Sum.inl ()))
   (some (Sum.inl ()))
def ring_Parse_1B.F (x_ : densU ring_Parse_1B.pre.tys) : Option (dens [] ⊕ ((.st (.pair (.int .i64) (.int .i64))) : Ty).den) := ring_Parse_1B x_.1 x_.2.1 x_.2.2.1 x_.2.2.2.1 x_.2.2.2.2.1 x_.2.2.2.2.2.1
def ring_Parse_1B.G : Env := ⟨13, tab, [], [0, 1, 2, 3, 9], [2000700], [(2, [⟨[], [], [11, 12], []⟩, ⟨[], [], [10], [2000700]⟩, ⟨[1], [], [10], [2000700]⟩, ⟨[0], [2000700], [11, 12], []⟩, ⟨[2, 1, 3, 0], [1000800], [], []⟩])], [(2, ring_Parse_1B.c2r)], [], tab_eqs, []⟩
theorem ring_Parse_1B.eq (x_ : densU ring_Parse_1B.pre.tys) : execK ring_Parse_1B.G (bodyOf (segF Tryd.f32)) (dens [] ⊕ ((.st (.pair (.int .i64) (.int .i64))) : Ty).den) (ring_Parse_1B.pre.inj x_) (finishB ring_Parse_1B.G (segF Tryd.f32).results.toList [] 30 (.st (.pair (.int .i64) (.int .i64))) ring_Parse_1B.chk) = ring_Parse_1B.F x_ := by kernel_rfl
theorem ring_Parse_1B.p0 : PieceOk ring_Parse_1B.G (pieceAt (pieces ring_Parse_1B.G.cks (bodyOf (segF Tryd.f32))) 0).1 (pieceAt (pieces ring_Parse_1B.G.cks (bodyOf (segF Tryd.f32))) 0).2 :=
  region_ok (s := ring_Parse_1B.c2r) (by kernel_rfl) (by kernel_rfl) (sums_of (sh := ring_Parse_1B.c2s) (fun ρ x_ k_ => (nat_bnd fun _ => nat_leaf)) (fun ρ x_ t k => (by kernel_rfl)) (fun x_ => by kernel_rfl))
theorem ring_Parse_1B.ok : SegOk ring_Parse_1B.G (segF Tryd.f32) ring_Parse_1B.pre ring_Parse_1B.chk [] 30 (.st (.pair (.int .i64) (.int .i64))) ring_Parse_1B.F := segOk (m := 1) ⟨trivial, ring_Parse_1B.p0⟩ (by kernel_rfl)
abbrev nb54 : SD := .one (.val .nn)
def ring_ParseB.pre : Shape := ⟨[(0, nb39), (2, nb21), (3, nb52)], [(1000800, nb19), (2000700, nb26)]⟩
def ring_ParseB.chk : St → Bool := fun st => match look st.slots 2, look st.slots 3, look st.objs 2000700, look st.objs 1000800 with | some (.one (.aptr 2000700 0)), some (.one (.ref 1000800 0)), some (.arr 0 false 28 (.st (.pair (.ar 8 (.st (.pair .bool (.sl (.int .u32))))) (.int .i64))) _), some (.box [.val (.int .i64) _, .val (.int .i64) _]) => true | _, _, _, _ => false
def ring_ParseB.c232773 {ρ : Type} (g0 : Int) (k_ : (Unit) ⊕ (Unit) → Option ρ) : Option ρ :=
  br (g0 != (0 : Int))
   (k_ (.inl ()))
   (k_ (.inr ()))
def ring_ParseB.c232773s : Shape := ⟨[(0, nb39), (2, nb21), (3, nb52), (4, nb50), (5, nb39), (6, nb28), (7, nb3), (8, nb39), (9, nb29), (10, nb36), (22, nb50), (23, nb3), (24, nb3)], [(6, nb22), (9, nb4), (10, nb19), (18, nb47), (1000800, nb19), (2000700, nb26)]⟩
def ring_ParseB.c232773x0 : Shape := ⟨[(0, nb39), (2, nb21), (3, nb52), (4, nb50), (5, nb39), (6, nb28), (7, nb3), (8, nb39), (9, nb29), (10, nb36), (22, nb50), (23, nb3), (24, nb3)], [(6, nb22), (9, nb4), (10, nb19), (18, nb47), (900001, nb49), (1000800, nb19), (2000700, nb26)]⟩
def ring_ParseB.c232773x1 : Shape := ring_ParseB.c232773s
def ring_ParseB.c232773r : Ck := Ck.of (T := (Unit) ⊕ (Unit)) ring_ParseB.c232773s (fun ρ x_ k_ => ring_ParseB.c232773 x_.2.2.2.2.2.2.2.2.2.2.2.1 k_) (fun ρ x_ r_ k_ => sel r_ (fun r_ => k_ 1000000 (Shape.inj ring_ParseB.c232773x0 (x_.1, x_.2.1, x_.2.2.1, x_.2.2.2.1, x_.2.2.2.2.1, x_.2.2.2.2.2.1, x_.2.2.2.2.2.2.1, x_.2.2.2.2.2.2.2.1, x_.2.2.2.2.2.2.2.2.1, x_.2.2.2.2.2.2.2.2.2.1, x_.2.2.2.2.2.2.2.2.2.2.1, x_.2.2.2.2.2.2.2.2.2.2.2.1, x_.2.2.2.2.2.2.2.2.2.2.2.2.1, x_.2.2.2.2.2.2.2.2.2.2.2.2.2.1, x_.2.2.2.2.2.2.2.2.2.2.2.2.2.2.1, (x_.2.2.2.2.2.2.2.2.2.2.2.1, x_.2.2.2.2.2.2.2.2.2.2.2.2.1), x_.2.2.2.2.2.2.2.2.2.2.2.2.2.2.2))) (fun r_ => k_ 0 (Shape.inj ring_ParseB.c232773x1 x_)))
def ring_ParseB.c100005 {ρ : Type} (t22 : List (List UInt8)) (t23 : Int) (t24 : Int) (c : List ((Bool) × (List Int))) (k_ : ((Int) × (List ((Bool) × (List Int)))) ⊕ (((Int) × (List ((Bool) × (List Int))) × ((Int) × (Int))) ⊕ ((Int) × (List ((Bool) × (List Int))))) → Option ρ) : Option ρ :=
  br (decide (t24 < t23))
   (bnd (idx t22 t24) fun y =>
    bnd (W.whole_Parse y) fun y_1 =>
    bnd (W.ring_ParseB.c232773 (Prod.fst (Prod.snd y_1)) some) fun y_2 =>
    sel y_2
     (fun u => k_ (.inr (.inl (t24, c, (Prod.fst (Prod.snd y_1), Prod.snd (Prod.snd y_1))))))
     (fun v => bnd (okIf (decide ((0 : Ty.den (Ty.int IntKind.i64)) ≤ t24) && decide (t24 < (↑(8 : Nat) : Int)))) fun y_3 =>
      bnd (inR (List.length c) t24) fun y_4 =>
      bnd (idx c t24) fun y_5 =>
      k_ (.inl ((IntKind.wrap IntKind.i64 (t24 + (1 : Int))), (List.set c (Int.toNat t24) (Prod.fst (Prod.fst y_1), Prod.snd (Prod.fst y_1)))))))
   (k_ (.inr (.inr (t24, c))))
def ring_ParseB.c100005s : Shape := ⟨[(0, nb39), (2, nb21), (3, nb52), (4, nb50), (5, nb39), (6, nb28), (22, nb50), (23, nb3), (24, nb3)], [(6, nb22), (18, nb47), (1000800, nb19), (2000700, nb26)]⟩
def ring_ParseB.c100005x0 : Shape := ⟨[(0, nb39), (2, nb21), (3, nb52), (4, nb50), (5, nb39), (6, nb28), (22, nb50), (23, nb3), (24, nb3)], [(6, nb22), (18, nb47), (900001, nb49), (1000800, nb19), (2000700, nb26)]⟩
def ring_ParseB.c100005x1 : Shape := ring_ParseB.c100005s
def ring_ParseB.c100005r : Ck := Ck.ofLoop (S := (Int) × (List ((Bool) × (List Int)))) (T := ((Int) × (List ((Bool) × (List Int))) × ((Int) × (Int))) ⊕ ((Int) × (List ((Bool) × (List Int))))) ring_ParseB.c100005s (fun x_ => (x_.2.2.2.2.2.1, x_.2.2.2.2.2.2.1)) (fun ρ x_ s_ k_ => ring_ParseB.c100005 x_.2.2.2.1 x_.2.2.2.2.1 s_.1 s_.2 k_) (fun ρ x_ r_ k_ => sel r_ (fun r_ => k_ 1000000 (Shape.inj ring_ParseB.c100005x0 (x_.1, x_.2.1, x_.2.2.1, x_.2.2.2.1, x_.2.2.2.2.1, r_.1, r_.2.1, x_.2.2.2.2.2.2.2.1, x_.2.2.2.2.2.2.2.2.1, r_.2.2, x_.2.2.2.2.2.2.2.2.2))) (fun r_ => k_ 2 (Shape.inj ring_ParseB.c100005x1 (x_.1, x_.2.1, x_.2.2.1, x_.2.2.2.1, x_.2.2.2.2.1, r_.1, r_.2, x_.2.2.2.2.2.2.2))))
def ring_ParseB.c15 {ρ : Type} (n : Int) (err : Bool) (k_ : Bool → Option ρ) : Option ρ :=
  br (!!err)
   (k_ true)
   (k_ (decide (n > (10000 : Int))))
def ring_ParseB.c15s : Shape := ⟨[(0, nb39), (2, nb21), (3, nb52), (4, nb50), (5, nb39), (6, nb28), (11, nb3), (12, nb3), (13, nb54), (22, nb50), (23, nb3), (24, nb3)], [(6, nb22), (18, nb47), (1000800, nb19), (2000700, nb26)]⟩
def ring_ParseB.c15x0 : Shape := ⟨[(0, nb39), (2, nb21), (3, nb52), (4, nb50), (5, nb39), (6, nb28), (11, nb3), (12, nb3), (13, nb54), (22, nb50), (23, nb3), (24, nb3), (56, nb0)], [(6, nb22), (18, nb47), (1000800, nb19), (2000700, nb26)]⟩
def ring_ParseB.c15r : Ck := Ck.of (T := Bool) ring_ParseB.c15s (fun ρ x_ k_ => ring_ParseB.c15 x_.2.2.2.2.1 x_.2.2.2.2.2.1 k_) (fun ρ x_ r_ k_ => k_ 0 (Shape.inj ring_ParseB.c15x0 (x_.1, x_.2.1, x_.2.2.1, x_.2.2.2.1, x_.2.2.2.2.1, x_.2.2.2.2.2.1, x_.2.2.2.2.2.2.1, x_.2.2.2.2.2.2.2.1, x_.2.2.2.2.2.2.2.2.1, r_, x_.2.2.2.2.2.2.2.2.2)))
def ring_ParseB.c261445 {ρ : Type} (n : Int) (err : Bool) (k_ : (Unit) ⊕ (Unit) → Option ρ) : Option ρ :=
  bnd (W.ring_ParseB.c15 n err some) fun y =>
  br y
   (k_ (.inl ()))
   (k_ (.inr ()))
def ring_ParseB.c261445s : Shape := ring_ParseB.c15s
def ring_ParseB.c261445x0 : Shape := ⟨[(0, nb39), (2, nb21), (3, nb52), (4, nb50), (5, nb39), (6, nb28), (11, nb3), (12, nb3), (13, nb54), (22, nb50), (23, nb3), (24, nb3)], [(6, nb22), (18, nb47), (900001, nb49), (1000800, nb19), (2000700, nb26)]⟩
def ring_ParseB.c261445x1 : Shape := ring_ParseB.c15s
def ring_ParseB.c261445r : Ck := Ck.of (T := (Unit) ⊕ (Unit)) ring_ParseB.c261445s (fun ρ x_ k_ => ring_ParseB.c261445 x_.2.2.2.2.1 x_.2.2.2.2.2.1 k_) (fun ρ x_ r_ k_ => sel r_ (fun r_ => k_ 1000000 (Shape.inj ring_ParseB.c261445x0 (x_.1, x_.2.1, x_.2.2.1, x_.2.2.2.1, x_.2.2.2.2.1, x_.2.2.2.2.2.1, x_.2.2.2.2.2.2.1, x_.2.2.2.2.2.2.2.1, x_.2.2.2.2.2.2.2.2.1, x_.2.2.2.2.2.2.2.2.2.1, x_.2.2.2.2.2.2.2.2.2.2.1, x_.2.2.2.2.2.2.2.2.2.2.2.1, ((2 : Int), (0 : Int)), x_.2.2.2.2.2.2.2.2.2.2.2.2))) (fun r_ => k_ 0 (Shape.inj ring_ParseB.c261445x1 x_)))
def ring_ParseB.c253261 {ρ : Type} (low : List UInt8) (e : Int) (k_ : (Unit) ⊕ (Int) → Option ρ) : Option ρ :=
  br (!low == Array.toList (ByteArray.data (ByteArray.mk #[])))
   (bnd (W.strconv_Atoi low) fun y =>
    bnd (W.ring_ParseB.c261445 (Prod.fst y) (Prod.snd y) some) fun y_1 =>
    sel y_1
     (fun u => k_ (.inl ()))
     (fun v => k_ (.inr (Prod.fst y))))
   (k_ (.inr e))
def ring_ParseB.c253261s : Shape := ⟨[(0, nb39), (2, nb21), (3, nb52), (4, nb50), (5, nb39), (6, nb28), (11, nb3), (22, nb50), (23, nb3), (24, nb3)], [(6, nb22), (18, nb47), (1000800, nb19), (2000700, nb26)]⟩
def ring_ParseB.c253261x0 : Shape := ⟨[(0, nb39), (2, nb21), (3, nb52), (4, nb50), (5, nb39), (6, nb28), (11, nb3), (22, nb50), (23, nb3), (24, nb3)], [(6, nb22), (18, nb47), (900001, nb49), (1000800, nb19), (2000700, nb26)]⟩
def ring_ParseB.c253261x1 : Shape := ring_ParseB.c253261s
def ring_ParseB.c253261r : Ck := Ck.of (T := (Unit) ⊕ (Int)) ring_ParseB.c253261s (fun ρ x_ k_ => ring_ParseB.c253261 x_.2.2.1 x_.2.2.2.1 k_) (fun ρ x_ r_ k_ => sel r_ (fun r_ => k_ 1000000 (Shape.inj ring_ParseB.c253261x0 (x_.1, x_.2.1, x_.2.2.1, x_.2.2.2.1, x_.2.2.2.2.1, x_.2.2.2.2.2.1, x_.2.2.2.2.2.2.1, x_.2.2.2.2.2.2.2.1, x_.2.2.2.2.2.2.2.2.1, x_.2.2.2.2.2.2.2.2.2.1, ((2 : Int), (0 : Int)), x_.2.2.2.2.2.2.2.2.2.2))) (fun r_ => k_ 0 (Shape.inj ring_ParseB.c253261x1 (x_.1, x_.2.1, x_.2.2.1, r_, x_.2.2.2.2))))
def ring_ParseB.c273735 {ρ : Type} (text : List UInt8) (e : Int) (c : List ((Bool) × (List Int))) (t2000700 : List ((List ((Bool) × (List Int))) × (Int))) (k_ : (List ((List ((Bool) × (List Int))) × (Int))) ⊕ (List ((List ((Bool) × (List Int))) × (Int))) → Option ρ) : Option ρ :=
  bnd (okIf (decide (List.length c = (8 : Nat)))) fun y =>
  bnd (W.ring_least c e) fun y_1 =>
  bnd (idx t2000700 (0 : Int)) fun y_2 =>
  bnd (idx (List.set t2000700 (0 : Nat) y_1) (0 : Int)) fun y_3 =>
  bnd (W.ring_Num_Text y_3) fun y_4 =>
  br (!y_4 == text)
   (k_ (.inl (List.set t2000700 (0 : Nat) y_1)))
   (k_ (.inr (List.set t2000700 (0 : Nat) y_1)))
def ring_ParseB.c273735s : Shape := ring_ParseB.c253261s
def ring_ParseB.c273735x0 : Shape := ring_ParseB.c253261x0
def ring_ParseB.c273735x1 : Shape := ring_ParseB.c253261s
def ring_ParseB.c273735r : Ck := Ck.of (T := (List ((List ((Bool) × (List Int))) × (Int))) ⊕ (List ((List ((Bool) × (List Int))) × (Int)))) ring_ParseB.c273735s (fun ρ x_ k_ => ring_ParseB.c273735 x_.1 x_.2.2.2.1 x_.2.2.2.2.2.2.2.1 x_.2.2.2.2.2.2.2.2.2.2.2.2.1 k_) (fun ρ x_ r_ k_ => sel r_ (fun r_ => k_ 1000000 (Shape.inj ring_ParseB.c273735x0 (x_.1, x_.2.1, x_.2.2.1, x_.2.2.2.1, x_.2.2.2.2.1, x_.2.2.2.2.2.1, x_.2.2.2.2.2.2.1, x_.2.2.2.2.2.2.2.1, x_.2.2.2.2.2.2.2.2.1, x_.2.2.2.2.2.2.2.2.2.1, ((3 : Int), (0 : Int)), x_.2.2.2.2.2.2.2.2.2.2.1, x_.2.2.2.2.2.2.2.2.2.2.2.1, r_, ()))) (fun r_ => k_ 0 (Shape.inj ring_ParseB.c273735x1 (x_.1, x_.2.1, x_.2.2.1, x_.2.2.2.1, x_.2.2.2.2.1, x_.2.2.2.2.2.1, x_.2.2.2.2.2.2.1, x_.2.2.2.2.2.2.2.1, x_.2.2.2.2.2.2.2.2.1, x_.2.2.2.2.2.2.2.2.2.1, x_.2.2.2.2.2.2.2.2.2.2.1, x_.2.2.2.2.2.2.2.2.2.2.2.1, r_, ()))))
def ring_ParseB.c21 {ρ : Type} (t2000700 : List ((List ((Bool) × (List Int))) × (Int))) (k_ : List ((List ((Bool) × (List Int))) × (Int)) → Option ρ) : Option ρ :=
  bnd (idx t2000700 (0 : Int)) fun y =>
  bnd (idx t2000700 (0 : Int)) fun y_1 =>
  k_ (List.set t2000700 (0 : Nat) y)
def ring_ParseB.c21s : Shape := ring_ParseB.c253261s
def ring_ParseB.c21x0 : Shape := ring_ParseB.c253261s
def ring_ParseB.c21r : Ck := Ck.of (T := List ((List ((Bool) × (List Int))) × (Int))) ring_ParseB.c21s (fun ρ x_ k_ => ring_ParseB.c21 x_.2.2.2.2.2.2.2.2.2.2.2.2.1 k_) (fun ρ x_ r_ k_ => k_ 0 (Shape.inj ring_ParseB.c21x0 (x_.1, x_.2.1, x_.2.2.1, x_.2.2.2.1, x_.2.2.2.2.1, x_.2.2.2.2.2.1, x_.2.2.2.2.2.2.1, x_.2.2.2.2.2.2.2.1, x_.2.2.2.2.2.2.2.2.1, x_.2.2.2.2.2.2.2.2.2.1, x_.2.2.2.2.2.2.2.2.2.2.1, x_.2.2.2.2.2.2.2.2.2.2.2.1, r_, ())))
def ring_ParseB (text : List UInt8) (t10008000 : Int) (t10008001 : Int) (t2000700 : List ((List ((Bool) × (List Int))) × (Int))) : Option ((((List ((Bool) × (List Int))) × (Int)) × ((Int) × (Int))) ⊕ ((Int) × (Int))) :=
  bnd (W.ring_reader_all text (0 : Int)) fun y =>
  sel y
   (fun u => bnd (iter (fun s ↦ W.ring_ParseB.c100005 (Prod.fst u) (↑(List.length (Prod.fst u)) : Int) (Prod.fst s) (Prod.snd s) some) ((0 : Int), List.replicate (8 : Nat) (false, []))) fun y_1 =>
    sel y_1
     (fun u_1 => some (Sum.inr (Prod.snd (Prod.snd u_1))))
     (fun v_1 => bnd (W.ring_ParseB.c253261 (Prod.fst u.2) (0 : Int) some) fun y_2 =>
      sel y_2
       (fun u_2 => some (Sum.inr ((2 : Int), (0 : Int))))
       (fun v_2 => bnd (W.ring_ParseB.c273735 text v_2 (Prod.snd v_1) t2000700 some) fun y_3 =>
        sel y_3
         (fun u_3 => some (Sum.inr ((3 : Int), (0 : Int))))
         (fun v_3 => bnd (W.ring_ParseB.c21 v_3 some) fun y_4 =>
          bnd (idx y_4 (0 : Int)) fun y_5 =>
          some (Sum.inl (y_5, t10008000, t10008001))))))
   (fun v => some (Sum.inr (Prod.fst v)))
def ring_ParseB.F (x_ : densU ring_ParseB.pre.tys) : Option (dens [(.st (.pair (.ar 8 (.st (.pair .bool (.sl (.int .u32))))) (.int .i64))), (.st (.pair (.int .i64) (.int .i64)))] ⊕ ((.st (.st (.pair (.int .i64) (.int .i64)))) : Ty).den) := ring_ParseB x_.1 x_.2.1 x_.2.2.1 x_.2.2.2.1
def ring_ParseB.G : Env := ⟨73, tab, [(34, whole_Parse.ce), (35, strconv_Atoi.ce), (22, ring_least.ce), (17, ring_Num_Text.ce)], [0, 2, 3, 4, 5, 6, 7, 8, 9, 10, 11, 12, 13, 22, 23, 24, 25, 36, 45, 56, 67], [2, 6, 2000700], [(21, [⟨[], [], [72], []⟩, ⟨[], [], [71], [2000700]⟩, ⟨[0], [2000700], [72], []⟩, ⟨[1, 2, 0], [1000800], [], []⟩])], [(21, ring_ParseB.c21r), (273735, ring_ParseB.c273735r), (253261, ring_ParseB.c253261r), (261445, ring_ParseB.c261445r), (15, ring_ParseB.c15r), (100005, ring_ParseB.c100005r), (232773, ring_ParseB.c232773r)], [], tab_eqs, [(33, ring_reader_all.ma)]⟩
theorem ring_ParseB.eq (x_ : densU ring_ParseB.pre.tys) : execK ring_ParseB.G (bodyOf (segF Tryd.f18)) (dens [(.st (.pair (.ar 8 (.st (.pair .bool (.sl (.int .u32))))) (.int .i64))), (.st (.pair (.int .i64) (.int .i64)))] ⊕ ((.st (.st (.pair (.int .i64) (.int .i64)))) : Ty).den) (ring_ParseB.pre.inj x_) (finishB ring_ParseB.G (segF Tryd.f18).results.toList [(.st (.pair (.ar 8 (.st (.pair .bool (.sl (.int .u32))))) (.int .i64))), (.st (.pair (.int .i64) (.int .i64)))] 54 (.st (.st (.pair (.int .i64) (.int .i64)))) ring_ParseB.chk) = ring_ParseB.F x_ := by kernel_rfl
theorem ring_ParseB.p0 : PieceOk ring_ParseB.G (pieceAt (pieces ring_ParseB.G.cks (bodyOf (segF Tryd.f18))) 0).1 (pieceAt (pieces ring_ParseB.G.cks (bodyOf (segF Tryd.f18))) 0).2 :=
  loop_ok (s := ring_ParseB.c100005r) (by kernel_rfl) (by kernel_rfl) (loops_of (sh := ring_ParseB.c100005s) (I := fun x_ s_ => (x_.1, x_.2.1, x_.2.2.1, x_.2.2.2.1, x_.2.2.2.2.1, s_.1, s_.2, x_.2.2.2.2.2.2.2)) (fun x_ => rfl) (fun ρ x_ s_ k_ => (nat_br (nat_bnd fun _ => (nat_bnd fun _ => (nat_bnd fun _ => (nat_sel (fun _ => nat_leaf) (fun _ => (nat_bnd fun _ => (nat_bnd fun _ => (nat_bnd fun _ => nat_leaf)))))))) nat_leaf)) (fun ρ x_ t k => (nat_sel (fun _ => (by kernel_rfl)) (fun _ => (by kernel_rfl)))) (fun x_ s => by kernel_rfl))
theorem ring_ParseB.p1 : PieceOk ring_ParseB.G (pieceAt (pieces ring_ParseB.G.cks (bodyOf (segF Tryd.f18))) 1).1 (pieceAt (pieces ring_ParseB.G.cks (bodyOf (segF Tryd.f18))) 1).2 :=
  join_ok (s := ring_ParseB.c232773r) (by kernel_rfl) (by kernel_rfl) (sums_of (sh := ring_ParseB.c232773s) (fun ρ x_ k_ => (nat_br nat_leaf nat_leaf)) (fun ρ x_ t k => (nat_sel (fun _ => (by kernel_rfl)) (fun _ => (by kernel_rfl)))) (fun x_ => by kernel_rfl))
theorem ring_ParseB.p2 : PieceOk ring_ParseB.G (pieceAt (pieces ring_ParseB.G.cks (bodyOf (segF Tryd.f18))) 2).1 (pieceAt (pieces ring_ParseB.G.cks (bodyOf (segF Tryd.f18))) 2).2 :=
  join_ok (s := ring_ParseB.c253261r) (by kernel_rfl) (by kernel_rfl) (sums_of (sh := ring_ParseB.c253261s) (fun ρ x_ k_ => (nat_br (nat_bnd fun _ => (nat_bnd fun _ => (nat_sel (fun _ => nat_leaf) (fun _ => nat_leaf)))) nat_leaf)) (fun ρ x_ t k => (nat_sel (fun _ => (by kernel_rfl)) (fun _ => (by kernel_rfl)))) (fun x_ => by kernel_rfl))
theorem ring_ParseB.p3 : PieceOk ring_ParseB.G (pieceAt (pieces ring_ParseB.G.cks (bodyOf (segF Tryd.f18))) 3).1 (pieceAt (pieces ring_ParseB.G.cks (bodyOf (segF Tryd.f18))) 3).2 :=
  join_ok (s := ring_ParseB.c261445r) (by kernel_rfl) (by kernel_rfl) (sums_of (sh := ring_ParseB.c261445s) (fun ρ x_ k_ => (nat_bnd fun _ => (nat_br nat_leaf nat_leaf))) (fun ρ x_ t k => (nat_sel (fun _ => (by kernel_rfl)) (fun _ => (by kernel_rfl)))) (fun x_ => by kernel_rfl))
theorem ring_ParseB.p4 : PieceOk ring_ParseB.G (pieceAt (pieces ring_ParseB.G.cks (bodyOf (segF Tryd.f18))) 4).1 (pieceAt (pieces ring_ParseB.G.cks (bodyOf (segF Tryd.f18))) 4).2 :=
  region_ok (s := ring_ParseB.c15r) (by kernel_rfl) (by kernel_rfl) (sums_of (sh := ring_ParseB.c15s) (fun ρ x_ k_ => (nat_br nat_leaf nat_leaf)) (fun ρ x_ t k => (by kernel_rfl)) (fun x_ => by kernel_rfl))
theorem ring_ParseB.p5 : PieceOk ring_ParseB.G (pieceAt (pieces ring_ParseB.G.cks (bodyOf (segF Tryd.f18))) 5).1 (pieceAt (pieces ring_ParseB.G.cks (bodyOf (segF Tryd.f18))) 5).2 :=
  join_ok (s := ring_ParseB.c273735r) (by kernel_rfl) (by kernel_rfl) (sums_of (sh := ring_ParseB.c273735s) (fun ρ x_ k_ => (nat_bnd fun _ => (nat_bnd fun _ => (nat_bnd fun _ => (nat_bnd fun _ => (nat_bnd fun _ => (nat_br nat_leaf nat_leaf))))))) (fun ρ x_ t k => (nat_sel (fun _ => (by kernel_rfl)) (fun _ => (by kernel_rfl)))) (fun x_ => by kernel_rfl))
theorem ring_ParseB.p6 : PieceOk ring_ParseB.G (pieceAt (pieces ring_ParseB.G.cks (bodyOf (segF Tryd.f18))) 6).1 (pieceAt (pieces ring_ParseB.G.cks (bodyOf (segF Tryd.f18))) 6).2 :=
  region_ok (s := ring_ParseB.c21r) (by kernel_rfl) (by kernel_rfl) (sums_of (sh := ring_ParseB.c21s) (fun ρ x_ k_ => (nat_bnd fun _ => (nat_bnd fun _ => nat_leaf))) (fun ρ x_ t k => (by kernel_rfl)) (fun x_ => by kernel_rfl))
theorem ring_ParseB.ok : SegOk ring_ParseB.G (segF Tryd.f18) ring_ParseB.pre ring_ParseB.chk [(.st (.pair (.ar 8 (.st (.pair .bool (.sl (.int .u32))))) (.int .i64))), (.st (.pair (.int .i64) (.int .i64)))] 54 (.st (.st (.pair (.int .i64) (.int .i64)))) ring_ParseB.F := segOk (m := 7) ⟨⟨⟨⟨⟨⟨⟨trivial, ring_ParseB.p0⟩, ring_ParseB.p1⟩, ring_ParseB.p2⟩, ring_ParseB.p3⟩, ring_ParseB.p4⟩, ring_ParseB.p5⟩, ring_ParseB.p6⟩ (by kernel_rfl)
end
end W
end

section
set_option maxHeartbeats 800000
set_option maxRecDepth 100000
set_option linter.unusedVariables false
namespace W
open Go Go.Ql Go.Proofs
theorem as_nil (w : World) : (Instr.typeAssert .nilIface 20 54 true).run Tryd.prog w = .ok (.tuple #[.agg #[.int .i64 0, .int .i64 0], .bool false]) w := by kernel_rfl
theorem as_yes (v : Value) (w : World) : (Instr.typeAssert (.iface 54 v) 20 54 true).run Tryd.prog w = .ok (.tuple #[v, .bool true]) w := by kernel_rfl
theorem catch_idle (p q : Value) (w : World) : CallsD Tryd.prog 32 #[p, q] .returning w fun e u' w' => e = .returned (.tuple #[]) ∧ u' = .returning ∧ Same w w' := by
  refine callsD_of_wpS Tryd.func32 rfl fun c₀ cs hu => ?_
  apply wpS_seq
  apply wpS_region
  simp [wpOpsS, go_sem, recoverD, hu, Tryd.ntmps32, Exit.thenS, as_nil]
  apply wpS_seq
  apply wpS_region
  simp [wpOpsS, go_sem, Exit.thenS]
  refine wpS_cond (t := false) (by simp [Act.eval, Array.replicate]) ?_
  simp only [Bool.false_eq_true, if_false]
  refine wpS_of_wp (wp_skip ?_)
  cases c₀
  simp_all [bodyPostS, results, Tryd.results32]
  exact Same.alloc _ _
abbrev numT : Ty := .st (.pair (.ar 8 (.st (.pair .bool (.sl (.int .u32))))) (.int .i64))
abbrev fauT : Ty := .st (.pair (.int .i64) (.int .i64))
noncomputable def kfin (e : Ex) (st : St) : Option (dens [numT, fauT]) := bif Nat.blt e 2 then resK ring_ParseB.G ⟨[(2, .one (.aptr 2000700 0)), (3, .one (.ref 1000800 0))], st.objs⟩ Tryd.f18.results.toList (finK (Ql.look st.objs) [numT, fauT] fun x => x) else none
theorem tail_eq (x : numT.den) (f0 f1 c at_ : Int) : execK ring_Parse_1B.G (bodyOf (segF Tryd.f32)) _ (ring_Parse_1B.pre.inj (true, f0, f1, c, at_, [x], ())) kfin = some ((List.replicate 8 (false, []), (0 : Int)), ((c, at_) : Int × Int)) := by kernel_rfl
theorem look_two {A B : Ob} {id : Nat} {ob : Ob} (h : look [(1000800, A), (2000700, B)] id = some ob) : (id = 1000800 ∧ ob = A) ∨ (id = 2000700 ∧ ob = B) := by
  simp only [Ql.look] at h
  cases h1 : Nat.beq 1000800 id with
  | true => rw [h1] at h; exact .inl ⟨(beqN.1 h1).symm, (Option.some.inj h).symm⟩
  | false =>
    rw [h1] at h
    cases h2 : Nat.beq 2000700 id with
    | true => rw [h2] at h; exact .inr ⟨(beqN.1 h2).symm, (Option.some.inj h).symm⟩
    | false => rw [h2] at h; cases h
theorem clo_all : AllOk Tryd.prog ring_Parse_1B.G := ⟨fns_nil, mfns_nil, tab_eqs_ok, alts_nil⟩
theorem rd_ints {w : World} {c d : Int} (Z : Nat → Prop) (nm : Names) (objs : List (Nat × Ob)) : rdAs w Z nm objs [.val (.int .i64) c, .val (.int .i64) d] [.int .i64 c, .int .i64 d] :=
  ⟨rfl, fun i a v h1 h2 => by
    match i, h1, h2 with
    | 0, h1, h2 => cases h1; cases h2; rfl
    | 1, h1, h2 => cases h1; cases h2; rfl
    | i + 2, h1, _ => cases h1⟩
theorem ints_cells {c d : Int} : ∀ x ∈ [At.val (.int .i64) c, At.val (.int .i64) d], ∃ t d, x = At.val t d := by
  intro x hx
  simp only [List.mem_cons, List.not_mem_nil, or_false] at hx
  rcases hx with rfl | rfl <;> exact ⟨_, _, rfl⟩
theorem catch_thrown {n : Nat} {w0 w : World} {Z : Nat → Prop} {nm0 : Names} {df : List Deferred} {st : St} {a : Act} {nm : Names} (hR : Rel n w0 ⟨Z, fun _ => False, nm0, df⟩ st a w nm) {x : numT.den} {f0 f1 : Int}
    (h2 : look st.objs 2000700 = some (.arr 0 false 28 numT [x])) (h3 : look st.objs 1000800 = some (.box [.val (.int .i64) f0, .val (.int .i64) f1])) {b2 b3 m c : Nat}
    (e2 : nm 2000700 = .slice (some ⟨b2, 0, none⟩) m c) (e3 : nm 1000800 = .pointer (some ⟨b3, 0, none⟩)) (code at_ : Int) (older : List PanicEntry)
    {a2 : Act} (s2 : a2.tmps.size = 73) (t2 : a2.tmps[2]? = some (.pointer (some ⟨b2, 0, none⟩))) (t3 : a2.tmps[3]? = some (.pointer (some ⟨b3, 0, none⟩))) :
    CallsD Tryd.prog 32 #[.pointer (some ⟨b2, 0, none⟩), .pointer (some ⟨b3, 0, none⟩)] (.panicking ({ v := .iface 54 (.agg #[.int .i64 code, .int .i64 at_]), recovered := false } :: older)) w
    fun e u' w' => e = .returned (.tuple #[]) ∧ u' = .panicking ({ v := .iface 54 (.agg #[.int .i64 code, .int .i64 at_]), recovered := true } :: older) ∧
      ∃ v, (results Tryd.f18 a2.tmps).run Tryd.prog w' = .ok v w' ∧ Same w0 w' ∧ rdRes w' (withNew w0 w' Z) [numT, fauT] ((List.replicate 8 (false, []), (0 : Int)), ((code, at_) : Int × Int)) v := by
  refine callsD_of_wpS Tryd.func32 rfl fun c₀ cs hu => ?_
  apply wpS_seq
  apply wpS_region
  simp [wpOpsS, go_sem, recoverD, hu, Tryd.ntmps32, Exit.thenS, as_yes]
  apply wpS_seq
  apply wpS_region
  simp [wpOpsS, go_sem, Exit.thenS]
  refine wpS_of_wp ?_
  have r1 : Rel n w0 ⟨Z, fun _ => False, nm0, df⟩ ⟨[], [(1000800, .box [.val (.int .i64) f0, .val (.int .i64) f1]), (2000700, .arr 0 false 28 numT [x])]⟩ a w nm := hR.only (by
    intro id ob hl
    rcases look_two hl with ⟨rfl, rfl⟩ | ⟨rfl, rfl⟩
    · exact ⟨h3, ints_cells⟩
    · exact ⟨h2, trivial⟩)
  have r2 := r1.newBox (w1 := w.alloc (.cells #[.int .i64 code, .int .i64 at_] 54)) (id := 1000900) (b := w.heap.size) (cs := [.val (.int .i64) code, .val (.int .i64) at_]) (vs := #[.int .i64 code, .int .i64 at_]) (T := 54)
    (by intro id ob hl; rcases look_two hl with ⟨rfl, rfl⟩ | ⟨rfl, rfl⟩; exact ints_cells; trivial) (Same.alloc _ _) rfl ⟨Nat.le_refl _, by simp⟩ (heap_alloc_new _ _) rd_ints (by intro u hu; simp at hu; rcases hu with rfl | rfl <;> rfl) ints_cells
  refine execK_sound tab_ok clo_all mixed (bodyOf (segF Tryd.f32)) ring_Parse_1B.ok.draws ring_Parse_1B.ok.ps (w0 := w0) (Z0 := ⟨Z, fun _ => False, setN nm 1000900 (.pointer (some ⟨w.heap.size, 0, none⟩)), []⟩) (st := ring_Parse_1B.pre.inj (true, f0, f1, code, at_, [x], ())) (nm := setN nm 1000900 (.pointer (some ⟨w.heap.size, 0, none⟩))) (r := ((List.replicate 8 (false, []), (0 : Int)), ((code, at_) : Int × Int))) (k := kfin) ?_ (tail_eq x f0 f1 code at_) ?_
  · refine r2.frame rfl (by simp; rfl) ?_
    intro t d hl
    have hl := look_mem hl
    replace hl : (t, d) ∈ [(0, Dv.one (.aptr 2000700 0)), (1, .one (.ref 1000800 0)), (2, .one (.ref 1000900 0)), (9, .one (.val .bool true))] := hl
    simp only [List.mem_cons, Prod.mk.injEq, List.not_mem_nil, or_false] at hl
    rcases hl with ⟨rfl, rfl⟩ | ⟨rfl, rfl⟩ | ⟨rfl, rfl⟩ | ⟨rfl, rfl⟩
    · exact ⟨.pointer (some ⟨b2, 0, none⟩), by simp, rfl, fun fz e t xs hl => ⟨b2, m, c, e2, rfl⟩⟩
    · exact ⟨.pointer (some ⟨b3, 0, none⟩), by simp, rfl, fun cs hl => ⟨b3, e3, rfl⟩⟩
    · exact ⟨.pointer (some ⟨w.heap.size, 0, none⟩), by simp, rfl, fun cs hl => ⟨w.heap.size, rfl, rfl⟩⟩
    · exact ⟨.bool true, by simp, rfl⟩
  · intro e st' a' w' nm' h' hk
    unfold kfin at hk
    cases hlt : Nat.blt e 2 with
    | false => rw [hlt] at hk; cases hk
    | true =>
      rw [hlt] at hk
      simp only [cond_true] at hk
      have hF := h'.frame (n' := 73) (a' := a2) (df := a2.defers) (sl := [(2, .one (.aptr 2000700 0)), (3, .one (.ref 1000800 0))]) rfl s2 (by
        intro t d hl
        have hl := look_mem hl
        simp only [List.mem_cons, Prod.mk.injEq, List.not_mem_nil, or_false] at hl
        rcases hl with ⟨rfl, rfl⟩ | ⟨rfl, rfl⟩
        · refine ⟨_, t2, rfl, fun fz e t xs hl => ?_⟩
          have hg := h'.given 2000700 _ (by decide) hl ⟨by decide, rfl⟩
          exact ⟨b2, m, c, hg.trans e2, rfl⟩
        · refine ⟨_, t3, rfl, fun cs hl => ?_⟩
          have hg := h'.given 1000800 _ (by decide) hl trivial
          exact ⟨b3, hg.trans e3, rfl⟩)
      obtain ⟨x', v, hx, hv, hs, hr⟩ := res_fin (G := ring_ParseB.G) (fn := Tryd.f18) (rs := [numT, fauT]) (f := fun x => x) tab_ok hF hk
      subst hx
      match e, hlt with
      | 0, _ => exact ⟨h'.defers, _, rfl, _, by simp [results, Tryd.results32], rfl, rfl, v, hv, hs, hr⟩
      | 1, _ => exact ⟨h'.defers, _, rfl, _, by simp [results, Tryd.results32], rfl, rfl, v, hv, hs, hr⟩
      | n + 2, h => rw [Nat.blt_eq] at h; omega
abbrev zeroN : numT.den := (List.replicate 8 (false, []), (0 : Int))
noncomputable def ring_Parse (text : List UInt8) : Option ((List (Bool × List Int) × Int) × (Int × Int)) :=
  bnd (ring_ParseB text 0 0 [zeroN]) fun y => sel y (fun u => some u) (fun v => some (zeroN, v))
noncomputable def ring_Parse.ce : Go.Ql.Callee := ⟨[.str], [numT, fauT], fun x_ => ring_Parse x_⟩
noncomputable def r0 : Code := match Tryd.f18.body with
  | some (.seq a _) => a
  | _ => .skip
noncomputable def r1 : Code := match Tryd.f18.body with
  | some (.seq _ (.seq a _)) => a
  | _ => .skip
theorem body_eq : Tryd.f18.body = some (.seq r0 (.seq r1 (bodyOf (segF Tryd.f18)))) := by kernel_rfl
noncomputable def ring_Parse.st0 (s : List UInt8) : St := ⟨[(0, .one (.val .str s)), (2, .one (.aptr 2 0)), (3, .one (.ref 3 0))], [(2, .arr 0 false 28 numT [zeroN]), (3, .box [.val (.int .i64) 0, .val (.int .i64) 0])]⟩
theorem r0_eq (s : List UInt8) : execK ring_ParseB.G r0 (Ex × St) ⟨[(0, .one (.val .str s))], []⟩ (fun e st => some (e, st)) = some (0, ring_Parse.st0 s) := by kernel_rfl
theorem parse_all : AllOk Tryd.prog ring_ParseB.G := ⟨fns_cons whole_Parse.ok (fns_cons strconv_Atoi.ok (fns_cons ring_least.ok (fns_cons ring_Num_Text.ok fns_nil))), mfns_nil, tab_eqs_ok, alts_cons ring_reader_all.ok alts_nil⟩
theorem r0_draws : drawsOk ring_ParseB.G r0 = true := by kernel_rfl
theorem r0_pieces : pieces ring_ParseB.G.cks r0 = [] := by kernel_rfl
theorem mkf (fn : Fn) (first cap : Array Value) (w : World) : (Instr.makeFunc fn first cap).run Tryd.prog w = .ok (.func fn first cap) w := rfl
def dfd (p q : Addr) : Deferred := ⟨.fn (.func 32) #[.pointer (some p), .pointer (some q)], #[]⟩
theorem r1_wp {Q : Exit → Act → World → Prop} {a : Act} {w : World} {p q : Addr} (hsz : a.tmps.size = 73) (h2 : a.tmps[2]? = some (.pointer (some p))) (h3 : a.tmps[3]? = some (.pointer (some q))) (hd : a.defers = [])
    (h : Q .normal ⟨a.tmps.setIfInBounds 14 (.func (.func 32) #[] #[.pointer (some p), .pointer (some q)]), [dfd p q]⟩ w) : r1.wp Tryd.prog Q a w := by
  unfold r1 Tryd.f18
  apply wp_region
  have e2 : a.tmps.getD 2 undef = .pointer (some p) := by simp [h2]
  have e3 : a.tmps.getD 3 undef = .pointer (some q) := by simp [h3]
  simp [wpOps, go_sem, mkf, h2, h3, hd, hsz]
  rw [(Array.getElem?_eq_some_iff.1 h2).2, (Array.getElem?_eq_some_iff.1 h3).2]
  exact .inl (.inl h)
theorem ins_args (w : World) (p q : Addr) : (invoke (.fn (.func 32) #[.pointer (some p), .pointer (some q)]) #[]).run Tryd.prog w = .ok (.enter 32 #[.pointer (some p), .pointer (some q)]) w := by
  simp [go_sem]
theorem frame_slots {s : List UInt8} {w : World} {Z0 : Bs} {nm : Names} {objs : List (Nat × Ob)} {w0 : World} {a : Act} {b2 b3 m c : Nat} (h0 : a.tmps[0]? = some (.string ⟨s.toArray⟩)) (h2 : a.tmps[2]? = some (.pointer (some ⟨b2, 0, none⟩))) (h3 : a.tmps[3]? = some (.pointer (some ⟨b3, 0, none⟩)))
    (e2 : nm 2000700 = .slice (some ⟨b2, 0, none⟩) m c) (e3 : nm 1000800 = .pointer (some ⟨b3, 0, none⟩)) :
    ∀ t d, Ql.look [(0, Dv.one (.val .str s)), (2, .one (.aptr 2000700 0)), (3, .one (.ref 1000800 0))] t = some d → ∃ v, a.tmps[t]? = some v ∧ rdD w (Zc w0 Z0 nm objs w) nm objs d v := by
  intro t d hl
  have hl := look_mem hl
  simp only [List.mem_cons, Prod.mk.injEq, List.not_mem_nil, or_false] at hl
  rcases hl with ⟨rfl, rfl⟩ | ⟨rfl, rfl⟩ | ⟨rfl, rfl⟩
  · exact ⟨_, h0, rfl⟩
  · exact ⟨_, h2, rfl, fun fz e t xs hl => ⟨b2, m, c, e2, rfl⟩⟩
  · exact ⟨_, h3, rfl, fun cs hl => ⟨b3, e3, rfl⟩⟩
def oldN (i : Nat) : Nat := if i = 2000700 then 2 else 3
theorem row_one {w : World} {Z : Nat → Prop} {v : Value} {xs : List numT.den} (h : rdArr w Z v 28 numT xs) (hne : xs ≠ []) : ∃ b c, v = .slice (some ⟨b, 0, none⟩) xs.length c := by
  obtain ⟨cells, ⟨_, hc⟩, _⟩ := h.sl rfl
  rcases hc with ⟨_, h0⟩ | ⟨g, cap, cur, e, _⟩
  · exact absurd (List.length_eq_zero_iff.1 h0) hne
  · exact ⟨g, cap, e⟩
theorem row_len {w : World} {Z : Nat → Prop} {b m c : Nat} {xs : List numT.den} (h : rdArr w Z (.slice (some ⟨b, 0, none⟩) m c) 28 numT xs) : xs.length = m := by
  obtain ⟨cells, ⟨_, hc⟩, _⟩ := h.sl rfl
  rcases hc with ⟨e, _⟩ | ⟨g, cap, cur, e, _⟩
  · cases e
  · cases e; rfl
theorem chk_inv {st : St} (h : ring_ParseB.chk st = true) : Ql.look st.slots 2 = some (.one (.aptr 2000700 0)) ∧ Ql.look st.slots 3 = some (.one (.ref 1000800 0)) ∧
    (∃ xs, Ql.look st.objs 2000700 = some (.arr 0 false 28 numT xs)) ∧ ∃ f0 f1, Ql.look st.objs 1000800 = some (.box [.val (.int .i64) f0, .val (.int .i64) f1]) := by
  unfold ring_ParseB.chk at h
  split at h
  · rename_i h1 h2 h3 h4
    exact ⟨h1, h2, ⟨_, h3⟩, _, _, h4⟩
  · cases h
theorem ring_Parse.ok : CalleeOk Tryd.prog 18 ring_Parse.ce := by
  refine ⟨⟨Tryd.f18, Tryd.func18, by kernel_rfl, by kernel_rfl⟩, fun w Z vs s r hg hZ ha hr => ?_⟩
  obtain ⟨v, rfl, hv⟩ := ha
  change [v] = [Value.string ⟨List.toArray s⟩] at hv
  obtain rfl := List.cons.inj hv |>.1
  have hr : ring_Parse s = some r := hr
  unfold ring_Parse at hr
  obtain ⟨y, hy, hr⟩ := bnd_some hr
  refine calls_of_wp_defers Tryd.func18 body_eq ?_
  apply wp_seq
  have hrel : Rel 73 w ⟨Z, fun _ => False, fun _ => undef, []⟩ ⟨[(0, .one (.val .str s))], []⟩ { tmps := [Value.string ⟨List.toArray s⟩].toArray ++ Array.replicate (Tryd.f18.ntmps - [Value.string ⟨List.toArray s⟩].toArray.size) undef, defers := [] } w (fun _ => undef) := by
    refine ⟨rfl, by simp, fun t d hl => ?_, fun id ob hl => by simp [Ql.look] at hl, fun id ob b hl => by simp [Ql.look] at hl, fun id id' ob ob' b hl => by simp [Ql.look] at hl, SameBut.refl _ w, fun id ob _ hl => by simp [Ql.look] at hl, hg, fun b hb => hb.elim⟩
    have hl := look_mem hl
    simp only [List.mem_cons, Prod.mk.injEq, List.not_mem_nil, or_false] at hl
    obtain ⟨rfl, rfl⟩ := hl
    exact ⟨.string ⟨List.toArray s⟩, by simp, rfl⟩
  refine execK_sound tab_ok parse_all mixed r0 r0_draws (by rw [r0_pieces]; intro p hp; cases hp) hrel (r0_eq s) ?_
  intro e st1 a1 w1 nm1 h1 hk1
  cases hk1
  show Code.wp Tryd.prog _ _ a1 w1
  apply wp_seq
  obtain ⟨v0, t0, d0⟩ := h1.slots 0 _ rfl
  obtain ⟨v2, t2, d2⟩ := h1.slots 2 _ rfl
  obtain ⟨v3, t3, d3⟩ := h1.slots 3 _ rfl
  have d0 : [v0] = [Value.string ⟨List.toArray s⟩] := d0
  obtain rfl := (List.cons.inj d0).1
  obtain ⟨b2, _, _, n2, rfl⟩ := d2.2 _ _ _ _ rfl
  obtain ⟨b3, n3, rfl⟩ := d3.2 _ rfl
  obtain ⟨b2', c2, n2'⟩ := row_one (h1.objs 2 _ rfl) (by simp)
  have hn2 := n2.symm.trans n2'
  obtain ⟨rfl, -, -⟩ : b2 = b2' ∧ True ∧ True := by cases hn2; exact ⟨rfl, trivial, trivial⟩
  refine r1_wp h1.size t2 t3 h1.defers ?_
  have q1 := h1.renum (objs := [(1000800, .box [.val (.int .i64) 0, .val (.int .i64) 0]), (2000700, .arr 0 false 28 numT [zeroN])]) (nm' := fun i => nm1 (oldN i)) (old := oldN) (by
      intro i j hij hi hj
      obtain ⟨o, ho⟩ := Option.isSome_iff_exists.1 hi
      obtain ⟨o', ho'⟩ := Option.isSome_iff_exists.1 hj
      rcases look_two ho with ⟨rfl, _⟩ | ⟨rfl, _⟩ <;> rcases look_two ho' with ⟨rfl, _⟩ | ⟨rfl, _⟩ <;> first | rfl | (exact absurd hij (by decide))) (by
      intro id ob hl
      rcases look_two hl with ⟨rfl, rfl⟩ | ⟨rfl, rfl⟩
      · exact ⟨rfl, ints_cells, rfl⟩
      · exact ⟨rfl, trivial, rfl⟩)
  have m2 : (fun i => nm1 (oldN i)) 2000700 = .slice (some ⟨b2, 0, none⟩) 1 c2 := n2'
  have m3 : (fun i => nm1 (oldN i)) 1000800 = .pointer (some ⟨b3, 0, none⟩) := n3
  have q2 := q1.frame (n' := 73) (a' := ⟨a1.tmps.setIfInBounds 14 (.func (.func 32) #[] #[.pointer (some ⟨b2, 0, none⟩), .pointer (some ⟨b3, 0, none⟩)]), [dfd ⟨b2, 0, none⟩ ⟨b3, 0, none⟩]⟩) (df := [dfd ⟨b2, 0, none⟩ ⟨b3, 0, none⟩]) rfl (by rw [Array.size_setIfInBounds]; exact h1.size)
    (frame_slots (s := s) (by simpa using t0) (by simpa using t2) (by simpa using t3) m2 m3)
  have key : execK ring_ParseB.G (bodyOf (segF Tryd.f18)) _ (ring_ParseB.pre.inj (s, (0 : Int), (0 : Int), [zeroN], ())) (finishB ring_ParseB.G (segF Tryd.f18).results.toList [numT, fauT] 54 (.st fauT) ring_ParseB.chk) = some y := (ring_ParseB.eq (s, (0 : Int), (0 : Int), [zeroN], ())).trans hy
  refine execK_sound tab_ok parse_all mixed (bodyOf (segF Tryd.f18)) ring_ParseB.ok.draws ring_ParseB.ok.ps (st := ring_ParseB.pre.inj (s, (0 : Int), (0 : Int), [zeroN], ())) q2 key ?_
  intro e st a w2 nm h hk
  unfold finishB at hk
  cases hlt : Nat.blt e 2 with
  | true =>
    rw [hlt] at hk
    simp only [cond_true] at hk
    have fin : Leaves Tryd.prog Tryd.f18 a.tmps (fun e w' => ∃ v, e = .returned v ∧ Same w w' ∧ rdRes w' (withNew w w' Z) [numT, fauT] r v) a.defers .returning w2 := by
      rw [h.defers]
      refine leaves_cons (by simp) (ins_args _ _ _) ?_
      refine (catch_idle _ _ w2).mono ?_
      rintro e u' w3 ⟨rfl, rfl, hs⟩
      obtain ⟨x', v, hx, hv, hsm, hrd⟩ := res_fin (G := ring_ParseB.G) (fn := Tryd.f18) (rs := [numT, fauT]) (ρ := dens [numT, fauT] ⊕ (Ty.st fauT).den) (f := Sum.inl) tab_ok (h.grow hs) hk
      subst hx
      cases hr
      exact ⟨v, hv, v, rfl, hsm, hrd⟩
    match e, hlt with
    | 0, _ => exact fin
    | 1, _ => exact fin
    | n + 2, h => rw [Nat.blt_eq] at h; omega
  | false =>
    rw [hlt] at hk
    simp only [cond_false] at hk
    cases hp : Nat.beq e pEx && ring_ParseB.chk st with
    | false => rw [hp] at hk; cases hk
    | true =>
      rw [hp] at hk
      simp only [cond_true] at hk
      rw [Bool.and_eq_true] at hp
      obtain ⟨hpe, hch⟩ := hp
      have := beqN.1 hpe
      subst this
      split at hk
      · rename_i s' d' ho
        split at hk
        · rename_i hs'
          subst hs'
          cases hk
          obtain ⟨vx, vy, g1, g2, g3⟩ := h.objs payId _ ho
          have e1 : vx = #[] := by
            have := g2.1
            simp at this
            exact this
          obtain ⟨v, e2⟩ : ∃ v, vy = #[v] := by
            have := g3.1
            match hv : vy.toList, this with
            | [v], _ => exact ⟨v, by rw [← Array.toArray_toList (xs := vy), hv]⟩
          subst e1; subst e2
          have hv := g3.2 0 _ _ rfl rfl
          obtain ⟨u, us, eu, hu, hc⟩ := hv
          have eu := (List.cons.inj eu).1
          obtain rfl : v = .iface 54 u := eu
          have hu : u = .agg us := by
            rcases hu with ⟨_, e⟩ | ⟨hu, _⟩
            · exact e
            · cases hu
          subst hu
          obtain ⟨c1, c3, ec, ec1, ec3⟩ := hc
          have ec1 : c1 = [.int .i64 d'.1] := ec1
          have ec3 : c3 = [.int .i64 d'.2] := ec3
          have eus : us = #[.int .i64 d'.1, .int .i64 d'.2] := by rw [← Array.toArray_toList (xs := us), ec, ec1, ec3]; rfl
          subst eus
          obtain ⟨s2, s3, ⟨xs, o2⟩, f0, f1, o3⟩ := chk_inv hch
          have k2 : nm 2000700 = _ := h.given 2000700 _ (by decide) o2 ⟨by decide, rfl⟩
          have k3 : nm 1000800 = _ := h.given 1000800 _ (by decide) o3 trivial
          have k2 := k2.trans m2
          have k3 := k3.trans m3
          have hxs := h.objs 2000700 _ o2
          have hxs : rdArr w2 _ (nm 2000700) 28 numT xs := hxs
          rw [k2] at hxs
          obtain ⟨x, rfl⟩ := List.length_eq_one_iff.1 (row_len hxs)
          obtain ⟨u2, t2', d2'⟩ := h.slots 2 _ s2
          obtain ⟨u3, t3', d3'⟩ := h.slots 3 _ s3
          obtain ⟨b4, _, _, j2, rfl⟩ := d2'.2 _ _ _ _ o2
          obtain ⟨b5, j3, rfl⟩ := d3'.2 _ o3
          rw [k2] at j2
          rw [k3] at j3
          cases j2
          cases j3
          show qEx _ nm pBad a w2
          unfold qEx
          rw [if_pos rfl]
          refine ⟨_, g1, ?_⟩
          show Leaves Tryd.prog Tryd.f18 a.tmps _ a.defers (.panicking [_]) w2
          rw [h.defers]
          refine leaves_cons (by simp) (ins_args _ _ _) ?_
          refine (catch_thrown h o2 o3 k2 k3 d'.1 d'.2 [] (a2 := a) h.size t2' t3').mono ?_
          rintro e u' w3 ⟨rfl, rfl, v', hv', hs, hr'⟩
          cases hr
          exact ⟨v', hv', v', rfl, hs, hr'⟩
        · cases hk
      · cases hk
end W
end

section
set_option maxHeartbeats 4000000
set_option maxRecDepth 100000
set_option linter.unusedVariables false
namespace W
open Go Go.Ql Go.Proofs
noncomputable section
abbrev nc0 : SD := .one (.val (.sl (.int .i64)))
abbrev nc1 : SD := .one (.val (.int .i64))
abbrev nc2 : SD := .one (.val .bool)
abbrev nc3 : SD := .one (.aptr 13 0)
abbrev nc4 : SD := .one (.aptr 15 0)
abbrev nc5 : SD := .one (.aptr 17 0)
abbrev nc6 : SO := .arr 0 false 28 (.st (.pair (.ar 8 (.st (.pair .bool (.sl (.int .u32))))) (.int .i64)))
abbrev nc7 : SO := .box [.val (.int .i64), .val (.int .i64)]
abbrev nc8 : SD := .one (.aptr 19 0)
abbrev nc9 : SD := .one (.ref 20 0)
def Law_RingLaws.c4 {ρ : Type} (a : List ((List ((Bool) × (List Int))) × (Int))) (b : List ((List ((Bool) × (List Int))) × (Int))) (c : List ((List ((Bool) × (List Int))) × (Int))) (k_ : Bool → Option ρ) : Option ρ :=
  bnd W.Law_ringBegun fun y =>
  br (!y)
   (k_ true)
   (bnd (idx a (0 : Int)) fun y_1 =>
    bnd (idx b (0 : Int)) fun y_2 =>
    bnd (W.ring_Num_Add y_1 y_2) fun y_3 =>
    bnd (idx c (0 : Int)) fun y_4 =>
    bnd (W.ring_Num_Mul y_3 y_4) fun y_5 =>
    bnd (idx a (0 : Int)) fun y_6 =>
    bnd (idx c (0 : Int)) fun y_7 =>
    bnd (W.ring_Num_Mul y_6 y_7) fun y_8 =>
    bnd (idx b (0 : Int)) fun y_9 =>
    bnd (idx c (0 : Int)) fun y_10 =>
    bnd (W.ring_Num_Mul y_9 y_10) fun y_11 =>
    bnd (W.ring_Num_Add y_8 y_11) fun y_12 =>
    bnd (W.ring_Num_Same y_5 y_12) fun y_13 =>
    br (!y_13)
     (k_ true)
     (bnd (idx a (0 : Int)) fun y_14 =>
      bnd (idx b (0 : Int)) fun y_15 =>
      bnd (W.ring_Num_Mul y_14 y_15) fun y_16 =>
      bnd (idx b (0 : Int)) fun y_17 =>
      bnd (idx a (0 : Int)) fun y_18 =>
      bnd (W.ring_Num_Mul y_17 y_18) fun y_19 =>
      bnd (W.ring_Num_Same y_16 y_19) fun y_20 =>
      br (!y_20)
       (k_ true)
       (bnd (idx a (0 : Int)) fun y_21 =>
        bnd (idx b (0 : Int)) fun y_22 =>
        bnd (idx c (0 : Int)) fun y_23 =>
        bnd (W.ring_Num_Mul y_22 y_23) fun y_24 =>
        bnd (W.ring_Num_Mul y_21 y_24) fun y_25 =>
        bnd (idx a (0 : Int)) fun y_26 =>
        bnd (idx b (0 : Int)) fun y_27 =>
        bnd (W.ring_Num_Mul y_26 y_27) fun y_28 =>
        bnd (idx c (0 : Int)) fun y_29 =>
        bnd (W.ring_Num_Mul y_28 y_29) fun y_30 =>
        bnd (W.ring_Num_Same y_25 y_30) fun y_31 =>
        br (!y_31)
         (k_ true)
         (bnd (idx a (0 : Int)) fun y_32 =>
          bnd (idx b (0 : Int)) fun y_33 =>
          bnd (W.ring_Num_Sub y_32 y_33) fun y_34 =>
          bnd (idx b (0 : Int)) fun y_35 =>
          bnd (W.ring_Num_Add y_34 y_35) fun y_36 =>
          bnd (idx a (0 : Int)) fun y_37 =>
          bnd (W.ring_Num_Same y_36 y_37) fun y_38 =>
          k_ (!y_38)))))
def Law_RingLaws.c4s : Shape := ⟨[(0, nc0), (1, nc0), (2, nc0), (3, nc1), (4, nc1), (5, nc1), (12, nc2), (13, nc3), (15, nc4), (17, nc5)], [(13, nc6), (14, nc7), (15, nc6), (16, nc7), (17, nc6), (18, nc7)]⟩
def Law_RingLaws.c4x0 : Shape := ⟨[(0, nc0), (1, nc0), (2, nc0), (3, nc1), (4, nc1), (5, nc1), (12, nc2), (13, nc3), (15, nc4), (17, nc5), (89, nc2)], [(13, nc6), (14, nc7), (15, nc6), (16, nc7), (17, nc6), (18, nc7)]⟩
def Law_RingLaws.c4r : Ck := Ck.of (T := Bool) Law_RingLaws.c4s (fun ρ x_ k_ => Law_RingLaws.c4 x_.2.2.2.2.2.2.2.1 x_.2.2.2.2.2.2.2.2.2.2.1 x_.2.2.2.2.2.2.2.2.2.2.2.2.2.1 k_) (fun ρ x_ r_ k_ => k_ 0 (Shape.inj Law_RingLaws.c4x0 (x_.1, x_.2.1, x_.2.2.1, x_.2.2.2.1, x_.2.2.2.2.1, x_.2.2.2.2.2.1, x_.2.2.2.2.2.2.1, r_, x_.2.2.2.2.2.2.2)))
def Law_RingLaws.c6 {ρ : Type} (t5 : Int) (a : List ((List ((Bool) × (List Int))) × (Int))) (b : List ((List ((Bool) × (List Int))) × (Int))) (k_ : Bool → Option ρ) : Option ρ :=
  bnd (idx a (0 : Int)) fun y =>
  bnd (idx b (0 : Int)) fun y_1 =>
  bnd (W.ring_Num_Mul y y_1) fun y_2 =>
  bnd (W.ring_Num_Conj y_2) fun y_3 =>
  bnd (idx a (0 : Int)) fun y_4 =>
  bnd (W.ring_Num_Conj y_4) fun y_5 =>
  bnd (idx b (0 : Int)) fun y_6 =>
  bnd (W.ring_Num_Conj y_6) fun y_7 =>
  bnd (W.ring_Num_Mul y_5 y_7) fun y_8 =>
  bnd (W.ring_Num_Same y_3 y_8) fun y_9 =>
  br (!y_9)
   (k_ true)
   (bnd (idx a (0 : Int)) fun y_10 =>
    bnd (W.ring_Num_Norm y_10) fun y_11 =>
    bnd (W.ring_Num_Conj y_11) fun y_12 =>
    bnd (idx a (0 : Int)) fun y_13 =>
    bnd (W.ring_Num_Norm y_13) fun y_14 =>
    bnd (W.ring_Num_Same y_12 y_14) fun y_15 =>
    br (!y_15)
     (k_ true)
     (bnd (idx a (0 : Int)) fun y_16 =>
      bnd (W.ring_Num_Norm y_16) fun y_17 =>
      bnd (W.ring_Num_Zero y_17) fun y_18 =>
      bnd (idx a (0 : Int)) fun y_19 =>
      bnd (W.ring_Num_Zero y_19) fun y_20 =>
      br (!y_18 == y_20)
       (k_ true)
       (bnd (idx a (0 : Int)) fun y_21 =>
        bnd (W.ring_Num_Turn y_21 t5) fun y_22 =>
        bnd (W.ring_Num_Norm y_22) fun y_23 =>
        bnd (idx a (0 : Int)) fun y_24 =>
        bnd (W.ring_Num_Norm y_24) fun y_25 =>
        bnd (W.ring_Num_Same y_23 y_25) fun y_26 =>
        k_ (!y_26))))
def Law_RingLaws.c6s : Shape := Law_RingLaws.c4s
def Law_RingLaws.c6x0 : Shape := ⟨[(0, nc0), (1, nc0), (2, nc0), (3, nc1), (4, nc1), (5, nc1), (12, nc2), (13, nc3), (15, nc4), (17, nc5), (127, nc2)], [(13, nc6), (14, nc7), (15, nc6), (16, nc7), (17, nc6), (18, nc7)]⟩
def Law_RingLaws.c6r : Ck := Ck.of (T := Bool) Law_RingLaws.c6s (fun ρ x_ k_ => Law_RingLaws.c6 x_.2.2.2.2.2.1 x_.2.2.2.2.2.2.2.1 x_.2.2.2.2.2.2.2.2.2.2.1 k_) (fun ρ x_ r_ k_ => k_ 0 (Shape.inj Law_RingLaws.c6x0 (x_.1, x_.2.1, x_.2.2.1, x_.2.2.2.1, x_.2.2.2.2.1, x_.2.2.2.2.2.1, x_.2.2.2.2.2.2.1, r_, x_.2.2.2.2.2.2.2)))
def Law_RingLaws.c8 {ρ : Type} (t5 : Int) (a : List ((List ((Bool) × (List Int))) × (Int))) (k_ : Bool → Option ρ) : Option ρ :=
  bnd (idx a (0 : Int)) fun y =>
  bnd (W.ring_Num_Turn y t5) fun y_1 =>
  bnd (idx a (0 : Int)) fun y_2 =>
  bnd (W.ring_Root t5) fun y_3 =>
  bnd (W.ring_Num_Mul y_2 y_3) fun y_4 =>
  bnd (W.ring_Num_Same y_1 y_4) fun y_5 =>
  br (!y_5)
   (k_ true)
   (bnd (W.ring_Root (8 : Int)) fun y_6 =>
    bnd (W.ring_Root (0 : Int)) fun y_7 =>
    bnd (W.ring_Num_Add y_6 y_7) fun y_8 =>
    bnd (W.ring_Num_Zero y_8) fun y_9 =>
    br (!y_9)
     (k_ true)
     (bnd (idx a (0 : Int)) fun y_10 =>
      bnd (W.ring_Num_Half y_10) fun y_11 =>
      bnd (idx a (0 : Int)) fun y_12 =>
      bnd W.ring_Rt fun y_13 =>
      bnd (W.ring_Num_Mul y_12 y_13) fun y_14 =>
      bnd (W.ring_Num_Same y_11 y_14) fun y_15 =>
      br (!y_15)
       (k_ true)
       (bnd W.ring_Rt fun y_16 =>
        bnd (W.ring_Num_Norm y_16) fun y_17 =>
        bnd (W.ring_Num_Text y_17) fun y_18 =>
        k_ (!y_18 == Array.toList (ByteArray.data (ByteArray.mk #[(49 : UInt8), (47 : UInt8), (49 : UInt8)]))))))
def Law_RingLaws.c8s : Shape := Law_RingLaws.c4s
def Law_RingLaws.c8x0 : Shape := ⟨[(0, nc0), (1, nc0), (2, nc0), (3, nc1), (4, nc1), (5, nc1), (12, nc2), (13, nc3), (15, nc4), (17, nc5), (158, nc2)], [(13, nc6), (14, nc7), (15, nc6), (16, nc7), (17, nc6), (18, nc7)]⟩
def Law_RingLaws.c8r : Ck := Ck.of (T := Bool) Law_RingLaws.c8s (fun ρ x_ k_ => Law_RingLaws.c8 x_.2.2.2.2.2.1 x_.2.2.2.2.2.2.2.1 k_) (fun ρ x_ r_ k_ => k_ 0 (Shape.inj Law_RingLaws.c8x0 (x_.1, x_.2.1, x_.2.2.1, x_.2.2.2.1, x_.2.2.2.2.1, x_.2.2.2.2.2.1, x_.2.2.2.2.2.2.1, r_, x_.2.2.2.2.2.2.2)))
def Law_RingLaws.c11 {ρ : Type} (a : List ((List ((Bool) × (List Int))) × (Int))) (back : List ((List ((Bool) × (List Int))) × (Int))) (f0 : Int) (k_ : Bool → Option ρ) : Option ρ :=
  br (f0 != (0 : Int))
   (k_ true)
   (bnd (idx back (0 : Int)) fun y =>
    bnd (idx a (0 : Int)) fun y_1 =>
    bnd (W.ring_Num_Same y y_1) fun y_2 =>
    k_ y_2)
def Law_RingLaws.c11s : Shape := ⟨[(0, nc0), (1, nc0), (2, nc0), (3, nc1), (4, nc1), (5, nc1), (12, nc2), (13, nc3), (15, nc4), (17, nc5), (19, nc8), (20, nc9)], [(13, nc6), (14, nc7), (15, nc6), (16, nc7), (17, nc6), (18, nc7), (19, nc6), (20, nc7)]⟩
def Law_RingLaws.c11x0 : Shape := Law_RingLaws.c11s
def Law_RingLaws.c11r : Ck := Ck.of (T := Bool) Law_RingLaws.c11s (fun ρ x_ k_ => Law_RingLaws.c11 x_.2.2.2.2.2.2.2.1 x_.2.2.2.2.2.2.2.2.2.2.2.2.2.2.2.2.1 x_.2.2.2.2.2.2.2.2.2.2.2.2.2.2.2.2.2.1 k_) (fun ρ x_ r_ k_ => k_ 0 (Shape.inj Law_RingLaws.c11x0 (x_.1, x_.2.1, x_.2.2.1, x_.2.2.2.1, x_.2.2.2.2.1, x_.2.2.2.2.2.1, r_, x_.2.2.2.2.2.2.2)))
def Law_RingLaws (cs : List (Int)) (ds : List (Int)) (es : List (Int)) (e : Int) (d : Int) (t5 : Int) : Option (Bool) :=
  bnd (W.ring_Make cs e) fun y =>
  bnd (W.ring_Make ds d) fun y_1 =>
  bnd (W.ring_Make es (0 : Int)) fun y_2 =>
  bnd (W.Law_RingLaws.c4 [Prod.fst y] [Prod.fst y_1] [Prod.fst y_2] some) fun y_3 =>
  br y_3
   (some false)
   (bnd (W.Law_RingLaws.c6 t5 [Prod.fst y] [Prod.fst y_1] some) fun y_4 =>
    br y_4
     (some false)
     (bnd (W.Law_RingLaws.c8 t5 [Prod.fst y] some) fun y_5 =>
      br y_5
       (some false)
       (bnd (W.ring_Num_Text (Prod.fst y)) fun y_6 =>
        bnd (W.ring_Parse y_6) fun y_7 =>
        bnd (W.Law_RingLaws.c11 [Prod.fst y] [Prod.fst y_7] (Prod.fst (Prod.snd y_7)) some) fun y_8 =>
        some y_8)))
def Law_RingLaws.ce : Go.Ql.Callee := ⟨[(.sl (.int .i64)), (.sl (.int .i64)), (.sl (.int .i64)), (.int .i64), (.int .i64), (.int .i64)], [.bool], fun x_ => Law_RingLaws x_.1 x_.2.1 x_.2.2.1 x_.2.2.2.1 x_.2.2.2.2.1 x_.2.2.2.2.2⟩
def Law_RingLaws.G : Env := ⟨173, tab, [(4, ring_Make.ce), (5, Law_ringBegun.ce), (6, ring_Num_Add.ce), (7, ring_Num_Mul.ce), (8, ring_Num_Same.ce), (9, ring_Num_Sub.ce), (10, ring_Num_Conj.ce), (11, ring_Num_Norm.ce), (12, ring_Num_Zero.ce), (13, ring_Num_Turn.ce), (14, ring_Root.ce), (15, ring_Num_Half.ce), (16, ring_Rt.ce), (17, ring_Num_Text.ce), (18, ring_Parse.ce)], [0, 1, 2, 3, 4, 5, 12, 13, 15, 17, 19, 20, 89, 127, 158], [13, 15, 17, 19], [(8, [⟨[], [], [129, 131, 132], []⟩, ⟨[], [], [128, 131, 132], []⟩, ⟨[0, 1], [], [131, 132], []⟩, ⟨[], [], [128, 129, 130, 132, 133], []⟩, ⟨[], [], [128, 129, 130, 131], []⟩, ⟨[4, 2, 0, 1], [], [131], []⟩, ⟨[3, 5, 4, 2, 0, 1], [], [], []⟩, ⟨[2, 0, 1, 6, 3, 5, 4], [], [], []⟩, ⟨[7, 2, 0, 1, 6, 3, 5, 4], [], [], []⟩, ⟨[8, 7, 2, 0, 1, 6, 3, 5, 4], [], [], []⟩, ⟨[9, 8, 7, 2, 0, 1, 6, 3, 5, 4], [], [], []⟩, ⟨[10, 9, 8, 7, 2, 0, 1, 6, 3, 5, 4], [], [], []⟩, ⟨[10, 9, 8, 7, 2, 0, 1, 6, 3, 5, 4, 11], [], [], []⟩, ⟨[12, 10, 9, 8, 7, 2, 0, 1, 6, 3, 5, 4, 11], [], [], []⟩, ⟨[13, 12, 10, 9, 8, 7, 2, 0, 1, 6, 3, 5, 4, 11], [], [], []⟩, ⟨[9, 8, 7, 2, 0, 1, 6, 3, 5, 4, 14, 13, 12, 10, 11], [], [], []⟩, ⟨[15, 9, 8, 7, 2, 0, 1, 6, 3, 5, 4, 14, 13, 12, 10, 11], [], [], []⟩, ⟨[16, 15, 9, 8, 7, 2, 0, 1, 6, 3, 5, 4, 14, 13, 12, 10, 11], [], [147], []⟩, ⟨[17, 16, 15, 9, 8, 7, 2, 0, 1, 6, 3, 5, 4, 14, 13, 12, 10, 11], [], [147], []⟩, ⟨[16, 15, 9, 8, 7, 2, 0, 1, 6, 3, 5, 4, 14, 13, 12, 10, 11], [], [145, 146, 148], []⟩, ⟨[18, 17, 16, 15, 9, 8, 7, 2, 0, 1, 6, 3, 5, 4, 14, 13, 12, 10, 11], [], [147], []⟩, ⟨[19, 16, 15, 9, 8, 7, 2, 0, 1, 6, 3, 5, 4, 14, 13, 12, 10, 11, 20, 18, 17], [], [], []⟩, ⟨[18, 17, 16, 15, 9, 8, 7, 2, 0, 1, 6, 3, 5, 4, 14, 13, 12, 10, 11, 21, 19, 20], [], [], []⟩, ⟨[22, 18, 17, 16, 15, 9, 8, 7, 2, 0, 1, 6, 3, 5, 4, 14, 13, 12, 10, 11, 21, 19, 20], [], [], []⟩, ⟨[16, 15, 9, 8, 7, 2, 0, 1, 6, 3, 5, 4, 14, 13, 12, 10, 11, 23, 22, 18, 17, 21, 19, 20], [], [], []⟩, ⟨[24, 16, 15, 9, 8, 7, 2, 0, 1, 6, 3, 5, 4, 14, 13, 12, 10, 11, 23, 22, 18, 17, 21, 19, 20], [], [], []⟩, ⟨[25, 24, 16, 15, 9, 8, 7, 2, 0, 1, 6, 3, 5, 4, 14, 13, 12, 10, 11, 23, 22, 18, 17, 21, 19, 20], [], [], []⟩, ⟨[26, 25, 24, 16, 15, 9, 8, 7, 2, 0, 1, 6, 3, 5, 4, 14, 13, 12, 10, 11, 23, 22, 18, 17, 21, 19, 20], [], [], []⟩, ⟨[27, 26, 25, 24, 16, 15, 9, 8, 7, 2, 0, 1, 6, 3, 5, 4, 14, 13, 12, 10, 11, 23, 22, 18, 17, 21, 19, 20], [], [], []⟩, ⟨[28, 27, 26, 25, 24, 16, 15, 9, 8, 7, 2, 0, 1, 6, 3, 5, 4, 14, 13, 12, 10, 11, 23, 22, 18, 17, 21, 19, 20], [], [], []⟩, ⟨[25, 24, 16, 15, 9, 8, 7, 2, 0, 1, 6, 3, 5, 4, 14, 13, 12, 10, 11, 23, 22, 18, 17, 21, 19, 20, 29, 28, 27, 26], [], [], []⟩]),
  (6, [⟨[], [], [91, 94, 96], []⟩, ⟨[], [], [90, 94, 96], []⟩, ⟨[0, 1], [], [94, 96], []⟩, ⟨[2, 0, 1], [], [94, 96], []⟩, ⟨[], [], [90, 91, 92, 93, 96], []⟩, ⟨[4, 3, 2, 0, 1], [], [96], []⟩, ⟨[], [], [90, 91, 92, 93, 94, 95], []⟩, ⟨[6, 5, 4, 3, 2, 0, 1], [], [], []⟩, ⟨[5, 4, 3, 2, 0, 1, 7, 6], [], [], []⟩, ⟨[3, 2, 0, 1, 8, 5, 4, 7, 6], [], [], []⟩, ⟨[9, 3, 2, 0, 1, 8, 5, 4, 7, 6], [], [], []⟩, ⟨[10, 9, 3, 2, 0, 1, 8, 5, 4, 7, 6], [], [], []⟩, ⟨[11, 10, 9, 3, 2, 0, 1, 8, 5, 4, 7, 6], [], [105], []⟩, ⟨[12, 11, 10, 9, 3, 2, 0, 1, 8, 5, 4, 7, 6], [], [105], []⟩, ⟨[13, 12, 11, 10, 9, 3, 2, 0, 1, 8, 5, 4, 7, 6], [], [105], []⟩, ⟨[11, 10, 9, 3, 2, 0, 1, 8, 5, 4, 7, 6], [], [102, 103, 104], []⟩, ⟨[15, 11, 10, 9, 3, 2, 0, 1, 8, 5, 4, 7, 6, 14, 13, 12], [], [], []⟩, ⟨[14, 13, 12, 11, 10, 9, 3, 2, 0, 1, 8, 5, 4, 7, 6, 16, 15], [], [], []⟩, ⟨[17, 14, 13, 12, 11, 10, 9, 3, 2, 0, 1, 8, 5, 4, 7, 6, 16, 15], [], [], []⟩, ⟨[11, 10, 9, 3, 2, 0, 1, 8, 5, 4, 7, 6, 18, 17, 14, 13, 12, 16, 15], [], [], []⟩, ⟨[19, 11, 10, 9, 3, 2, 0, 1, 8, 5, 4, 7, 6, 18, 17, 14, 13, 12, 16, 15], [], [], []⟩, ⟨[20, 19, 11, 10, 9, 3, 2, 0, 1, 8, 5, 4, 7, 6, 18, 17, 14, 13, 12, 16, 15], [], [114], []⟩, ⟨[21, 20, 19, 11, 10, 9, 3, 2, 0, 1, 8, 5, 4, 7, 6, 18, 17, 14, 13, 12, 16, 15], [], [114], []⟩, ⟨[22, 21, 20, 19, 11, 10, 9, 3, 2, 0, 1, 8, 5, 4, 7, 6, 18, 17, 14, 13, 12, 16, 15], [], [114], []⟩, ⟨[20, 19, 11, 10, 9, 3, 2, 0, 1, 8, 5, 4, 7, 6, 18, 17, 14, 13, 12, 16, 15], [], [111, 112, 113], []⟩, ⟨[24, 20, 19, 11, 10, 9, 3, 2, 0, 1, 8, 5, 4, 7, 6, 18, 17, 14, 13, 12, 16, 15, 23, 22, 21], [], [], []⟩, ⟨[23, 22, 21, 20, 19, 11, 10, 9, 3, 2, 0, 1, 8, 5, 4, 7, 6, 18, 17, 14, 13, 12, 16, 15, 25, 24], [], [], []⟩, ⟨[20, 19, 11, 10, 9, 3, 2, 0, 1, 8, 5, 4, 7, 6, 18, 17, 14, 13, 12, 16, 15, 26, 23, 22, 21, 25, 24], [], [], []⟩, ⟨[27, 20, 19, 11, 10, 9, 3, 2, 0, 1, 8, 5, 4, 7, 6, 18, 17, 14, 13, 12, 16, 15, 26, 23, 22, 21, 25, 24], [], [], []⟩, ⟨[28, 27, 20, 19, 11, 10, 9, 3, 2, 0, 1, 8, 5, 4, 7, 6, 18, 17, 14, 13, 12, 16, 15, 26, 23, 22, 21, 25, 24], [], [120, 123], []⟩, ⟨[28, 27, 20, 19, 11, 10, 9, 3, 2, 0, 1, 8, 5, 4, 7, 6, 18, 17, 14, 13, 12, 16, 15, 26, 23, 22, 21, 25, 24], [], [119, 123], []⟩, ⟨[29, 28, 27, 20, 19, 11, 10, 9, 3, 2, 0, 1, 8, 5, 4, 7, 6, 18, 17, 14, 13, 12, 16, 15, 26, 23, 22, 21, 25, 24, 30], [], [123], []⟩, ⟨[31, 29, 28, 27, 20, 19, 11, 10, 9, 3, 2, 0, 1, 8, 5, 4, 7, 6, 18, 17, 14, 13, 12, 16, 15, 26, 23, 22, 21, 25, 24, 30], [], [123], []⟩, ⟨[28, 27, 20, 19, 11, 10, 9, 3, 2, 0, 1, 8, 5, 4, 7, 6, 18, 17, 14, 13, 12, 16, 15, 26, 23, 22, 21, 25, 24], [], [119, 120, 121, 122], []⟩, ⟨[33, 28, 27, 20, 19, 11, 10, 9, 3, 2, 0, 1, 8, 5, 4, 7, 6, 18, 17, 14, 13, 12, 16, 15, 26, 23, 22, 21, 25, 24, 32, 31, 29, 30], [], [], []⟩, ⟨[32, 31, 29, 28, 27, 20, 19, 11, 10, 9, 3, 2, 0, 1, 8, 5, 4, 7, 6, 18, 17, 14, 13, 12, 16, 15, 26, 23, 22, 21, 25, 24, 30, 34, 33], [], [], []⟩, ⟨[35, 32, 31, 29, 28, 27, 20, 19, 11, 10, 9, 3, 2, 0, 1, 8, 5, 4, 7, 6, 18, 17, 14, 13, 12, 16, 15, 26, 23, 22, 21, 25, 24, 30, 34, 33], [], [], []⟩, ⟨[28, 27, 20, 19, 11, 10, 9, 3, 2, 0, 1, 8, 5, 4, 7, 6, 18, 17, 14, 13, 12, 16, 15, 26, 23, 22, 21, 25, 24, 36, 35, 32, 31, 29, 30, 34, 33], [], [], []⟩]),
  (4, [⟨[], [], [], []⟩, ⟨[0], [], [], []⟩, ⟨[1, 0], [], [], []⟩, ⟨[2, 1, 0], [], [42, 44, 46, 47, 49, 50], []⟩, ⟨[2, 1, 0], [], [41, 44, 46, 47, 49, 50], []⟩, ⟨[3, 2, 1, 0, 4], [], [44, 46, 47, 49, 50], []⟩, ⟨[2, 1, 0], [], [41, 42, 43, 46, 47, 49, 50], []⟩, ⟨[5, 3, 2, 1, 0, 4, 6], [], [46, 47, 49, 50], []⟩, ⟨[2, 1, 0], [], [41, 42, 43, 44, 45, 47, 49, 50], []⟩, ⟨[2, 1, 0], [], [41, 42, 43, 44, 45, 46, 49, 50], []⟩, ⟨[8, 2, 1, 0, 9, 7, 5, 3, 4, 6], [], [49, 50], []⟩, ⟨[2, 1, 0], [], [41, 42, 43, 44, 45, 46, 47, 48, 50], []⟩, ⟨[2, 1, 0], [], [41, 42, 43, 44, 45, 46, 47, 48, 49], []⟩, ⟨[11, 2, 1, 0, 12, 10, 8, 9, 7, 5, 3, 4, 6], [], [], []⟩, ⟨[10, 8, 2, 1, 0, 9, 7, 5, 3, 4, 6, 13, 11, 12], [], [], []⟩, ⟨[7, 5, 3, 2, 1, 0, 4, 6, 14, 10, 8, 9, 13, 11, 12], [], [], []⟩, ⟨[15, 7, 5, 3, 2, 1, 0, 4, 6, 14, 10, 8, 9, 13, 11, 12], [], [], []⟩, ⟨[2, 1, 0, 16, 15, 7, 5, 3, 4, 6, 14, 10, 8, 9, 13, 11, 12], [], [], []⟩, ⟨[17, 2, 1, 0, 16, 15, 7, 5, 3, 4, 6, 14, 10, 8, 9, 13, 11, 12], [], [], []⟩, ⟨[18, 17, 2, 1, 0, 16, 15, 7, 5, 3, 4, 6, 14, 10, 8, 9, 13, 11, 12], [], [58, 60, 61], []⟩, ⟨[18, 17, 2, 1, 0, 16, 15, 7, 5, 3, 4, 6, 14, 10, 8, 9, 13, 11, 12], [], [57, 60, 61], []⟩, ⟨[19, 18, 17, 2, 1, 0, 16, 15, 7, 5, 3, 4, 6, 14, 10, 8, 9, 13, 11, 12, 20], [], [60, 61], []⟩, ⟨[18, 17, 2, 1, 0, 16, 15, 7, 5, 3, 4, 6, 14, 10, 8, 9, 13, 11, 12], [], [57, 58, 59, 61], []⟩, ⟨[18, 17, 2, 1, 0, 16, 15, 7, 5, 3, 4, 6, 14, 10, 8, 9, 13, 11, 12], [], [57, 58, 59, 60], []⟩, ⟨[22, 18, 17, 2, 1, 0, 16, 15, 7, 5, 3, 4, 6, 14, 10, 8, 9, 13, 11, 12, 23, 21, 19, 20], [], [], []⟩, ⟨[21, 19, 18, 17, 2, 1, 0, 16, 15, 7, 5, 3, 4, 6, 14, 10, 8, 9, 13, 11, 12, 20, 24, 22, 23], [], [], []⟩, ⟨[25, 21, 19, 18, 17, 2, 1, 0, 16, 15, 7, 5, 3, 4, 6, 14, 10, 8, 9, 13, 11, 12, 20, 24, 22, 23], [], [], []⟩, ⟨[18, 17, 2, 1, 0, 16, 15, 7, 5, 3, 4, 6, 14, 10, 8, 9, 13, 11, 12, 26, 25, 21, 19, 20, 24, 22, 23], [], [], []⟩, ⟨[27, 18, 17, 2, 1, 0, 16, 15, 7, 5, 3, 4, 6, 14, 10, 8, 9, 13, 11, 12, 26, 25, 21, 19, 20, 24, 22, 23], [], [], []⟩, ⟨[28, 27, 18, 17, 2, 1, 0, 16, 15, 7, 5, 3, 4, 6, 14, 10, 8, 9, 13, 11, 12, 26, 25, 21, 19, 20, 24, 22, 23], [], [68, 69, 70, 72, 73, 75], []⟩, ⟨[28, 27, 18, 17, 2, 1, 0, 16, 15, 7, 5, 3, 4, 6, 14, 10, 8, 9, 13, 11, 12, 26, 25, 21, 19, 20, 24, 22, 23], [], [67, 69, 72, 73, 75], []⟩, ⟨[28, 27, 18, 17, 2, 1, 0, 16, 15, 7, 5, 3, 4, 6, 14, 10, 8, 9, 13, 11, 12, 26, 25, 21, 19, 20, 24, 22, 23], [], [67, 68, 72, 73, 75], []⟩, ⟨[30, 28, 27, 18, 17, 2, 1, 0, 16, 15, 7, 5, 3, 4, 6, 14, 10, 8, 9, 13, 11, 12, 26, 25, 21, 19, 20, 24, 22, 23, 31], [], [67, 72, 73, 75], []⟩, ⟨[29, 28, 27, 18, 17, 2, 1, 0, 16, 15, 7, 5, 3, 4, 6, 14, 10, 8, 9, 13, 11, 12, 26, 25, 21, 19, 20, 24, 22, 23, 32, 30, 31], [], [72, 73, 75], []⟩, ⟨[28, 27, 18, 17, 2, 1, 0, 16, 15, 7, 5, 3, 4, 6, 14, 10, 8, 9, 13, 11, 12, 26, 25, 21, 19, 20, 24, 22, 23], [], [67, 68, 69, 70, 71, 73, 75], []⟩, ⟨[28, 27, 18, 17, 2, 1, 0, 16, 15, 7, 5, 3, 4, 6, 14, 10, 8, 9, 13, 11, 12, 26, 25, 21, 19, 20, 24, 22, 23], [], [67, 68, 69, 70, 71, 72, 75], []⟩, ⟨[34, 28, 27, 18, 17, 2, 1, 0, 16, 15, 7, 5, 3, 4, 6, 14, 10, 8, 9, 13, 11, 12, 26, 25, 21, 19, 20, 24, 22, 23, 35, 33, 29, 32, 30, 31], [], [75], []⟩, ⟨[28, 27, 18, 17, 2, 1, 0, 16, 15, 7, 5, 3, 4, 6, 14, 10, 8, 9, 13, 11, 12, 26, 25, 21, 19, 20, 24, 22, 23], [], [67, 68, 69, 70, 71, 72, 73, 74], []⟩, ⟨[36, 34, 28, 27, 18, 17, 2, 1, 0, 16, 15, 7, 5, 3, 4, 6, 14, 10, 8, 9, 13, 11, 12, 26, 25, 21, 19, 20, 24, 22, 23, 35, 33, 29, 32, 30, 31, 37], [], [], []⟩, ⟨[33, 29, 28, 27, 18, 17, 2, 1, 0, 16, 15, 7, 5, 3, 4, 6, 14, 10, 8, 9, 13, 11, 12, 26, 25, 21, 19, 20, 24, 22, 23, 32, 30, 31, 38, 36, 34, 35, 37], [], [], []⟩, ⟨[39, 33, 29, 28, 27, 18, 17, 2, 1, 0, 16, 15, 7, 5, 3, 4, 6, 14, 10, 8, 9, 13, 11, 12, 26, 25, 21, 19, 20, 24, 22, 23, 32, 30, 31, 38, 36, 34, 35, 37], [], [], []⟩, ⟨[28, 27, 18, 17, 2, 1, 0, 16, 15, 7, 5, 3, 4, 6, 14, 10, 8, 9, 13, 11, 12, 26, 25, 21, 19, 20, 24, 22, 23, 40, 39, 33, 29, 32, 30, 31, 38, 36, 34, 35, 37], [], [], []⟩, ⟨[41, 28, 27, 18, 17, 2, 1, 0, 16, 15, 7, 5, 3, 4, 6, 14, 10, 8, 9, 13, 11, 12, 26, 25, 21, 19, 20, 24, 22, 23, 40, 39, 33, 29, 32, 30, 31, 38, 36, 34, 35, 37], [], [], []⟩, ⟨[42, 41, 28, 27, 18, 17, 2, 1, 0, 16, 15, 7, 5, 3, 4, 6, 14, 10, 8, 9, 13, 11, 12, 26, 25, 21, 19, 20, 24, 22, 23, 40, 39, 33, 29, 32, 30, 31, 38, 36, 34, 35, 37], [], [82, 84, 86], []⟩, ⟨[42, 41, 28, 27, 18, 17, 2, 1, 0, 16, 15, 7, 5, 3, 4, 6, 14, 10, 8, 9, 13, 11, 12, 26, 25, 21, 19, 20, 24, 22, 23, 40, 39, 33, 29, 32, 30, 31, 38, 36, 34, 35, 37], [], [81, 84, 86], []⟩, ⟨[43, 42, 41, 28, 27, 18, 17, 2, 1, 0, 16, 15, 7, 5, 3, 4, 6, 14, 10, 8, 9, 13, 11, 12, 26, 25, 21, 19, 20, 24, 22, 23, 40, 39, 33, 29, 32, 30, 31, 38, 36, 34, 35, 37, 44], [], [84, 86], []⟩, ⟨[42, 41, 28, 27, 18, 17, 2, 1, 0, 16, 15, 7, 5, 3, 4, 6, 14, 10, 8, 9, 13, 11, 12, 26, 25, 21, 19, 20, 24, 22, 23, 40, 39, 33, 29, 32, 30, 31, 38, 36, 34, 35, 37], [], [81, 82, 83, 86], []⟩, ⟨[45, 43, 42, 41, 28, 27, 18, 17, 2, 1, 0, 16, 15, 7, 5, 3, 4, 6, 14, 10, 8, 9, 13, 11, 12, 26, 25, 21, 19, 20, 24, 22, 23, 40, 39, 33, 29, 32, 30, 31, 38, 36, 34, 35, 37, 44, 46], [], [86], []⟩, ⟨[42, 41, 28, 27, 18, 17, 2, 1, 0, 16, 15, 7, 5, 3, 4, 6, 14, 10, 8, 9, 13, 11, 12, 26, 25, 21, 19, 20, 24, 22, 23, 40, 39, 33, 29, 32, 30, 31, 38, 36, 34, 35, 37], [], [81, 82, 83, 84, 85], []⟩, ⟨[47, 45, 43, 42, 41, 28, 27, 18, 17, 2, 1, 0, 16, 15, 7, 5, 3, 4, 6, 14, 10, 8, 9, 13, 11, 12, 26, 25, 21, 19, 20, 24, 22, 23, 40, 39, 33, 29, 32, 30, 31, 38, 36, 34, 35, 37, 44, 46, 48], [], [], []⟩, ⟨[49, 47, 45, 43, 42, 41, 28, 27, 18, 17, 2, 1, 0, 16, 15, 7, 5, 3, 4, 6, 14, 10, 8, 9, 13, 11, 12, 26, 25, 21, 19, 20, 24, 22, 23, 40, 39, 33, 29, 32, 30, 31, 38, 36, 34, 35, 37, 44, 46, 48], [], [], []⟩, ⟨[42, 41, 28, 27, 18, 17, 2, 1, 0, 16, 15, 7, 5, 3, 4, 6, 14, 10, 8, 9, 13, 11, 12, 26, 25, 21, 19, 20, 24, 22, 23, 40, 39, 33, 29, 32, 30, 31, 38, 36, 34, 35, 37, 50, 49, 47, 45, 43, 44, 46, 48], [], [], []⟩])], [(11, Law_RingLaws.c11r), (8, Law_RingLaws.c8r), (6, Law_RingLaws.c6r), (4, Law_RingLaws.c4r)], [], tab_eqs, []⟩
theorem Law_RingLaws.eq (x_ : dens Law_RingLaws.ce.params) : den Law_RingLaws.G Tryd.f3 Law_RingLaws.ce.params Law_RingLaws.ce.res x_ = Law_RingLaws.ce.F x_ := by kernel_rfl
theorem Law_RingLaws.p0 : PcA Law_RingLaws.G Tryd.f3 0 :=
  region_ok (s := Law_RingLaws.c4r) (by kernel_rfl) (by kernel_rfl) (sums_of (sh := Law_RingLaws.c4s) (fun ρ x_ k_ => (nat_bnd fun _ => (nat_br nat_leaf (nat_bnd fun _ => (nat_bnd fun _ => (nat_bnd fun _ => (nat_bnd fun _ => (nat_bnd fun _ => (nat_bnd fun _ => (nat_bnd fun _ => (nat_bnd fun _ => (nat_bnd fun _ => (nat_bnd fun _ => (nat_bnd fun _ => (nat_bnd fun _ => (nat_bnd fun _ => (nat_br nat_leaf (nat_bnd fun _ => (nat_bnd fun _ => (nat_bnd fun _ => (nat_bnd fun _ => (nat_bnd fun _ => (nat_bnd fun _ => (nat_bnd fun _ => (nat_br nat_leaf (nat_bnd fun _ => (nat_bnd fun _ => (nat_bnd fun _ => (nat_bnd fun _ => (nat_bnd fun _ => (nat_bnd fun _ => (nat_bnd fun _ => (nat_bnd fun _ => (nat_bnd fun _ => (nat_bnd fun _ => (nat_bnd fun _ => (nat_br nat_leaf (nat_bnd fun _ => (nat_bnd fun _ => (nat_bnd fun _ => (nat_bnd fun _ => (nat_bnd fun _ => (nat_bnd fun _ => (nat_bnd fun _ => nat_leaf)))))))))))))))))))))))))))))))))))))))))))) (fun ρ x_ t k => (by kernel_rfl)) (fun x_ => by kernel_rfl))
theorem Law_RingLaws.p1 : PcA Law_RingLaws.G Tryd.f3 1 :=
  region_ok (s := Law_RingLaws.c6r) (by kernel_rfl) (by kernel_rfl) (sums_of (sh := Law_RingLaws.c6s) (fun ρ x_ k_ => (nat_bnd fun _ => (nat_bnd fun _ => (nat_bnd fun _ => (nat_bnd fun _ => (nat_bnd fun _ => (nat_bnd fun _ => (nat_bnd fun _ => (nat_bnd fun _ => (nat_bnd fun _ => (nat_bnd fun _ => (nat_br nat_leaf (nat_bnd fun _ => (nat_bnd fun _ => (nat_bnd fun _ => (nat_bnd fun _ => (nat_bnd fun _ => (nat_bnd fun _ => (nat_br nat_leaf (nat_bnd fun _ => (nat_bnd fun _ => (nat_bnd fun _ => (nat_bnd fun _ => (nat_bnd fun _ => (nat_br nat_leaf (nat_bnd fun _ => (nat_bnd fun _ => (nat_bnd fun _ => (nat_bnd fun _ => (nat_bnd fun _ => (nat_bnd fun _ => nat_leaf))))))))))))))))))))))))))))))) (fun ρ x_ t k => (by kernel_rfl)) (fun x_ => by kernel_rfl))
theorem Law_RingLaws.p2 : PcA Law_RingLaws.G Tryd.f3 2 :=
  region_ok (s := Law_RingLaws.c8r) (by kernel_rfl) (by kernel_rfl) (sums_of (sh := Law_RingLaws.c8s) (fun ρ x_ k_ => (nat_bnd fun _ => (nat_bnd fun _ => (nat_bnd fun _ => (nat_bnd fun _ => (nat_bnd fun _ => (nat_bnd fun _ => (nat_br nat_leaf (nat_bnd fun _ => (nat_bnd fun _ => (nat_bnd fun _ => (nat_bnd fun _ => (nat_br nat_leaf (nat_bnd fun _ => (nat_bnd fun _ => (nat_bnd fun _ => (nat_bnd fun _ => (nat_bnd fun _ => (nat_bnd fun _ => (nat_br nat_leaf (nat_bnd fun _ => (nat_bnd fun _ => (nat_bnd fun _ => nat_leaf))))))))))))))))))))))) (fun ρ x_ t k => (by kernel_rfl)) (fun x_ => by kernel_rfl))
theorem Law_RingLaws.p3 : PcA Law_RingLaws.G Tryd.f3 3 :=
  region_ok (s := Law_RingLaws.c11r) (by kernel_rfl) (by kernel_rfl) (sums_of (sh := Law_RingLaws.c11s) (fun ρ x_ k_ => (nat_br nat_leaf (nat_bnd fun _ => (nat_bnd fun _ => (nat_bnd fun _ => nat_leaf))))) (fun ρ x_ t k => (by kernel_rfl)) (fun x_ => by kernel_rfl))
theorem Law_RingLaws.ok : CalleeOk Tryd.prog 3 Law_RingLaws.ce := fn_ok (G := Law_RingLaws.G) tab_ok mixed Tryd.func3 ⟨(fns_cons ring_Make.ok (fns_cons Law_ringBegun.ok (fns_cons ring_Num_Add.ok (fns_cons ring_Num_Mul.ok (fns_cons ring_Num_Same.ok (fns_cons ring_Num_Sub.ok (fns_cons ring_Num_Conj.ok (fns_cons ring_Num_Norm.ok (fns_cons ring_Num_Zero.ok (fns_cons ring_Num_Turn.ok (fns_cons ring_Root.ok (fns_cons ring_Num_Half.ok (fns_cons ring_Rt.ok (fns_cons ring_Num_Text.ok (fns_cons ring_Parse.ok fns_nil))))))))))))))), mfns_nil, tab_eqs_ok, alts_nil⟩ (m := 4) (by kernel_rfl) ⟨⟨⟨⟨trivial, Law_RingLaws.p0⟩, Law_RingLaws.p1⟩, Law_RingLaws.p2⟩, Law_RingLaws.p3⟩ (by kernel_rfl) Law_RingLaws.eq
end
end W
end
