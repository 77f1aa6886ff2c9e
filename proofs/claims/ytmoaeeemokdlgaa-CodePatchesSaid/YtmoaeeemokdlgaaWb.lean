/- Lifted functions, part 2: each with its contract. -/
import Derived.Test.YtmoaeeemokdlgaaWa
import Derived.Test.YtmoaeeemokdlgaaProg
section
/- Functions of the program as typed functions, printed by a program of mine, with their proofs. -/
set_option maxHeartbeats 4000000
set_option maxRecDepth 100000
set_option linter.unusedVariables false
namespace W
open Go Go.Ql
noncomputable section
abbrev qk63 : SO := .box [.own 22 0]
abbrev qk64 : SO := .clo 35 [] [.ref 7 0, .ref 4 0, .ref 6 0]
def code_Distance.c3 {ρ : Type}  (k_ : Unit → Option ρ) : Option ρ :=
  k_ ()
def code_Distance.c3s : Shape := ⟨[(0, qk0), (1, qk1), (2, qk5), (3, qk12), (4, qk6), (5, qk32)], [(1, qk3), (3, qk19), (4, qk38), (5, qk19)]⟩
def code_Distance.c3x0 : Shape := ⟨[(0, qk0), (1, qk1), (2, qk5), (3, qk12), (4, qk6), (5, qk32)], [(1, qk3), (3, qk19), (4, qk38), (5, qk19)]⟩
def code_Distance.c3r : Ck := Ck.of (T := Unit) code_Distance.c3s (fun ρ x_ k_ => uP x_ fun c x_ => uP x_ fun t2 x_ => uP x_ fun c0 x_ => uP x_ fun c1 x_ => uP x_ fun t30 x_ => uP x_ fun t31 x_ => uP x_ fun l0 x_ => uP x_ fun f0 x_ => uP x_ fun f1 x_ => code_Distance.c3  k_) (fun ρ x_ r_ k_ => uP x_ fun c x_ => uP x_ fun t2 x_ => uP x_ fun c0 x_ => uP x_ fun c1 x_ => uP x_ fun t30 x_ => uP x_ fun t31 x_ => uP x_ fun l0 x_ => uP x_ fun f0 x_ => uP x_ fun f1 x_ => k_ 0 (Shape.inj code_Distance.c3x0 (c, (0 : Int), c0, c1, f0, f1, l0, f0, f1, ())))
def code_Distance.c8 {ρ : Type}  (k_ : Unit → Option ρ) : Option ρ :=
  k_ ()
def code_Distance.c8s : Shape := ⟨[(0, qk0), (1, qk1), (2, qk5), (3, qk12), (4, qk6), (5, qk32), (6, qk8), (7, qk33)], [(1, qk3), (3, qk19), (4, qk38), (5, qk19), (6, qk63), (7, qk45), (22, qk15), (25, qk64)]⟩
def code_Distance.c8x0 : Shape := ⟨[(0, qk0), (1, qk1), (2, qk5), (3, qk12), (4, qk6), (5, qk32), (6, qk8), (7, qk33)], [(1, qk3), (3, qk19), (4, qk38), (5, qk19), (6, qk63), (7, qk45), (22, qk15), (25, qk64)]⟩
def code_Distance.c8r : Ck := Ck.of (T := Unit) code_Distance.c8s (fun ρ x_ k_ => uP x_ fun c x_ => uP x_ fun t2 x_ => uP x_ fun c0 x_ => uP x_ fun c1 x_ => uP x_ fun t30 x_ => uP x_ fun t31 x_ => uP x_ fun l0 x_ => uP x_ fun f0 x_ => uP x_ fun f1 x_ => uP x_ fun best0 x_ => uP x_ fun t22 x_ => code_Distance.c8  k_) (fun ρ x_ r_ k_ => uP x_ fun c x_ => uP x_ fun t2 x_ => uP x_ fun c0 x_ => uP x_ fun c1 x_ => uP x_ fun t30 x_ => uP x_ fun t31 x_ => uP x_ fun l0 x_ => uP x_ fun f0 x_ => uP x_ fun f1 x_ => uP x_ fun best0 x_ => uP x_ fun t22 x_ => k_ 0 (Shape.inj code_Distance.c8x0 (c, best0, c0, c1, f0, f1, l0, f0, f1, best0, t22, ())))
def code_Distance (c : (Int) × (List (List UInt8))) : Option ((Int) × ((Int) × (Int))) :=
  bnd (W.code_read (Prod.fst c, Prod.snd c)) fun y =>
  br (Prod.fst (Prod.snd y) != (0 : Int))
   (bnd (W.code_Distance.c3 some) fun y_1 =>
    some ((0 : Int), Prod.fst (Prod.snd y), Prod.snd (Prod.snd y)))
   (br (decide (Prod.fst c > (9 : Int)))
     (some ((0 : Int), (21 : Int), (0 : Int)))
     (bnd (W.code_span (Prod.fst (uP (uP (Prod.fst y, ()) fun u r ↦ (u, ())) fun u r ↦ (u, ())))) fun y_2 =>
      bnd (W.code_errors__dist (Prod.fst (uP (uP (Prod.fst c, ()) fun u r ↦ (u, ())) fun u r ↦ (u, uP (uP ((0 : Int), ()) fun u r ↦ (u, ())) fun u r ↦ (u, uP (uP (Prod.fst y, ()) fun u r ↦ (u, ())) fun u r ↦ (u, uP (Prod.fst y_2, ()) fun u r ↦ (u, ())))))) (Prod.fst (Prod.snd (uP (uP (Prod.fst c, ()) fun u r ↦ (u, ())) fun u r ↦ (u, uP (uP ((0 : Int), ()) fun u r ↦ (u, ())) fun u r ↦ (u, uP (uP (Prod.fst y, ()) fun u r ↦ (u, ())) fun u r ↦ (u, uP (Prod.fst y_2, ()) fun u r ↦ (u, ()))))))) (Prod.fst (Prod.snd (Prod.snd (uP (uP (Prod.fst c, ()) fun u r ↦ (u, ())) fun u r ↦ (u, uP (uP ((0 : Int), ()) fun u r ↦ (u, ())) fun u r ↦ (u, uP (uP (Prod.fst y, ()) fun u r ↦ (u, ())) fun u r ↦ (u, uP (Prod.fst y_2, ()) fun u r ↦ (u, ())))))))) (Prod.fst (Prod.snd (Prod.snd (Prod.snd (uP (uP (Prod.fst c, ()) fun u r ↦ (u, ())) fun u r ↦ (u, uP (uP ((0 : Int), ()) fun u r ↦ (u, ())) fun u r ↦ (u, uP (uP (Prod.fst y, ()) fun u r ↦ (u, ())) fun u r ↦ (u, uP (Prod.fst y_2, ()) fun u r ↦ (u, ())))))))))) fun y_3 =>
      bnd (W.code_Distance.c8 some) fun y_4 =>
      some (Prod.fst y_3, Prod.fst (Prod.snd y), Prod.snd (Prod.snd y))))
def code_Distance.ce : Go.Ql.Callee := ⟨[(.st (.pair (.int .i64) (.sl .str)))], [(.int .i64), (.st (.pair (.int .i64) (.int .i64)))], fun x_ => code_Distance x_⟩
def code_Distance.G : Env := ⟨29, tab, [(24, code_read.ce)], [0, 1, 2, 3, 4, 5, 6, 7, 15, 19], [6, 22], [(8, [⟨[], [], [28], []⟩, ⟨[], [], [27, 2], []⟩, ⟨[0], [], [28], []⟩, ⟨[1, 2, 0], [3], [], []⟩]),
  (3, [⟨[], [], [2], []⟩, ⟨[], [], [16], []⟩, ⟨[0, 1], [3], [], []⟩])], [(8, code_Distance.c8r), (3, code_Distance.c3r)], [(33, code_span.mc), (34, code_errors__dist.mc)], tab_eqs⟩
theorem code_Distance.eq (x_ : dens [(.st (.pair (.int .i64) (.sl .str)))]) : den code_Distance.G Go.Proofs.Try.f16 [(.st (.pair (.int .i64) (.sl .str)))] [(.int .i64), (.st (.pair (.int .i64) (.int .i64)))] x_ = code_Distance x_ := by kernel_rfl
theorem code_Distance.p0 : PieceOk code_Distance.G (pieceAt (pieces code_Distance.G.cks (bodyOf Go.Proofs.Try.f16)) 0).1 (pieceAt (pieces code_Distance.G.cks (bodyOf Go.Proofs.Try.f16)) 0).2 :=
  region_ok (s := code_Distance.c3r) (by kernel_rfl) (by kernel_rfl) (sums_of (sh := code_Distance.c3s) (fun ρ x_ k_ => nat_leaf) (fun ρ x_ t k => (by kernel_rfl)) (fun x_ => by kernel_rfl))
theorem code_Distance.p1 : PieceOk code_Distance.G (pieceAt (pieces code_Distance.G.cks (bodyOf Go.Proofs.Try.f16)) 1).1 (pieceAt (pieces code_Distance.G.cks (bodyOf Go.Proofs.Try.f16)) 1).2 :=
  region_ok (s := code_Distance.c8r) (by kernel_rfl) (by kernel_rfl) (sums_of (sh := code_Distance.c8s) (fun ρ x_ k_ => nat_leaf) (fun ρ x_ t k => (by kernel_rfl)) (fun x_ => by kernel_rfl))
theorem code_Distance.ok : CalleeOk Go.Proofs.Try.prog 16 code_Distance.ce := fn_ok (G := code_Distance.G) tab_ok mixed Go.Proofs.Try.func16 ⟨(fns_cons code_read.ok fns_nil), (mfns_cons code_span.ok (mfns_cons code_errors__dist.ok mfns_nil)), tab_eqs_ok⟩ (m := 2) (by kernel_rfl) ⟨⟨trivial, code_Distance.p0⟩, code_Distance.p1⟩ (by kernel_rfl) code_Distance.eq
def R_Errors.c12 {ρ : Type} (out : List (List UInt8)) (t6 : Int) (j : Int) (more : List (List UInt8)) (k_ : List (List UInt8) → Option ρ) : Option ρ :=
  bnd (idx out t6) fun y =>
  bnd (okIf (decide ((0 : Int) ≤ j) && decide (j ≤ IntKind.wrap IntKind.i64 (j + (1 : Int))) && decide (IntKind.wrap IntKind.i64 (j + (1 : Int)) ≤ (↑(List.length (Array.toList (ByteArray.data (ByteArray.mk #[(73 : UInt8), (88 : UInt8), (89 : UInt8), (90 : UInt8)])))) : Int)))) fun y_1 =>
  bnd (okIf (decide (List.length y + List.length (List.drop (Int.toNat j) (List.take (Int.toNat (IntKind.wrap IntKind.i64 (j + (1 : Int)))) (Array.toList (ByteArray.data (ByteArray.mk #[(73 : UInt8), (88 : UInt8), (89 : UInt8), (90 : UInt8)]))))) ≤ (9223372036854775807 : Nat)))) fun y_2 =>
  bnd (okIf (decide ((List.length more + (1 : Nat)) * (16 : Nat) ≤ (140737488355328 : Nat)) && decide (List.length more + (1 : Nat) ≤ (140737488355328 : Nat)))) fun y_3 =>
  k_ (more ++ [y ++ List.drop (Int.toNat j) (List.take (Int.toNat (IntKind.wrap IntKind.i64 (j + (1 : Int)))) (Array.toList (ByteArray.data (ByteArray.mk #[(73 : UInt8), (88 : UInt8), (89 : UInt8), (90 : UInt8)]))))])
def R_Errors.c12s : Shape := ⟨[(0, qk5), (2, qk21), (3, qk21), (4, qk5), (5, qk20), (6, qk5), (7, qk5)], [(5, qk27)]⟩
def R_Errors.c12x0 : Shape := ⟨[(0, qk5), (2, qk21), (3, qk21), (4, qk5), (5, qk20), (6, qk5), (7, qk5)], [(5, qk27)]⟩
def R_Errors.c12r : Ck := Ck.of (T := List (List UInt8)) R_Errors.c12s (fun ρ x_ k_ => uP x_ fun n x_ => uP x_ fun t2 x_ => uP x_ fun out x_ => uP x_ fun i x_ => uP x_ fun t6 x_ => uP x_ fun j x_ => uP x_ fun more x_ => R_Errors.c12 out t6 j more k_) (fun ρ x_ r_ k_ => uP x_ fun n x_ => uP x_ fun t2 x_ => uP x_ fun out x_ => uP x_ fun i x_ => uP x_ fun t6 x_ => uP x_ fun j x_ => uP x_ fun more x_ => k_ 0 (Shape.inj R_Errors.c12x0 (n, t2, out, i, t6, j, r_, ())))
def R_Errors.c100010 {ρ : Type} (out : List (List UInt8)) (t6 : Int) (j : Int) (more : List (List UInt8)) (k_ : ((Int) × (List (List UInt8))) ⊕ ((Int) × (List (List UInt8))) → Option ρ) : Option ρ :=
  br (decide (j < (4 : Int)))
   (bnd (W.R_Errors.c12 out t6 j more some) fun y =>
    k_ (.inl ((IntKind.wrap IntKind.i64 (j + (1 : Int))), y)))
   (k_ (.inr (j, more)))
def R_Errors.c100010s : Shape := ⟨[(0, qk5), (2, qk21), (3, qk21), (4, qk5), (5, qk20), (6, qk5), (7, qk5)], [(5, qk27)]⟩
def R_Errors.c100010x0 : Shape := ⟨[(0, qk5), (2, qk21), (3, qk21), (4, qk5), (5, qk20), (6, qk5), (7, qk5)], [(5, qk27)]⟩
def R_Errors.c100010r : Ck := Ck.ofLoop (S := (Int) × (List (List UInt8))) (T := (Int) × (List (List UInt8))) R_Errors.c100010s (fun x_ => uP x_ fun n x_ => uP x_ fun t2 x_ => uP x_ fun out x_ => uP x_ fun i x_ => uP x_ fun t6 x_ => uP x_ fun j x_ => uP x_ fun more x_ => (j, more)) (fun ρ x_ s_ k_ => uP x_ fun n x_ => uP x_ fun t2 x_ => uP x_ fun out x_ => uP x_ fun i x_ => uP x_ fun t6 x_ => uP x_ fun j x_ => uP x_ fun more x_ => R_Errors.c100010 out t6 s_.1 s_.2 k_) (fun ρ x_ r_ k_ => uP x_ fun n x_ => uP x_ fun t2 x_ => uP x_ fun out x_ => uP x_ fun i x_ => uP x_ fun t6 x_ => uP x_ fun j x_ => uP x_ fun more x_ => k_ 6 (Shape.inj R_Errors.c100010x0 (n, t2, out, i, t6, r_.1, r_.2, ())))
def R_Errors.c100007 {ρ : Type} (out : List (List UInt8)) (t6 : Int) (more : List (List UInt8)) (k_ : ((Int) × (List (List UInt8))) ⊕ ((Int) × (List (List UInt8))) → Option ρ) : Option ρ :=
  br (decide (t6 < (↑(List.length out) : Int)))
   (bnd (iter (fun s ↦ W.R_Errors.c100010 out t6 (Prod.fst s) (Prod.snd s) some) ((0 : Int), more)) fun y =>
    k_ (.inl ((IntKind.wrap IntKind.i64 (t6 + (1 : Int))), (Prod.snd y))))
   (k_ (.inr (t6, more)))
def R_Errors.c100007s : Shape := ⟨[(0, qk5), (2, qk21), (3, qk21), (4, qk5), (5, qk20), (6, qk5)], [(5, qk27)]⟩
def R_Errors.c100007x0 : Shape := ⟨[(0, qk5), (2, qk21), (3, qk21), (4, qk5), (5, qk20), (6, qk5)], [(5, qk27)]⟩
def R_Errors.c100007r : Ck := Ck.ofLoop (S := (Int) × (List (List UInt8))) (T := (Int) × (List (List UInt8))) R_Errors.c100007s (fun x_ => uP x_ fun n x_ => uP x_ fun t2 x_ => uP x_ fun out x_ => uP x_ fun i x_ => uP x_ fun t6 x_ => uP x_ fun more x_ => (t6, more)) (fun ρ x_ s_ k_ => uP x_ fun n x_ => uP x_ fun t2 x_ => uP x_ fun out x_ => uP x_ fun i x_ => uP x_ fun t6 x_ => uP x_ fun more x_ => R_Errors.c100007 out s_.1 s_.2 k_) (fun ρ x_ r_ k_ => uP x_ fun n x_ => uP x_ fun t2 x_ => uP x_ fun out x_ => uP x_ fun i x_ => uP x_ fun t6 x_ => uP x_ fun more x_ => k_ 4 (Shape.inj R_Errors.c100007x0 (n, t2, out, i, r_.1, r_.2, ())))
def R_Errors.c100003 {ρ : Type} (n : Int) (out : List (List UInt8)) (i : Int) (k_ : ((List (List UInt8)) × (Int)) ⊕ ((List (List UInt8)) × (Int)) → Option ρ) : Option ρ :=
  br (decide (i < n))
   (bnd (iter (fun s ↦ W.R_Errors.c100007 out (Prod.fst s) (Prod.snd s) some) ((0 : Int), [])) fun y =>
    k_ (.inl ((Prod.snd y), (IntKind.wrap IntKind.i64 (i + (1 : Int))))))
   (k_ (.inr (out, i)))
def R_Errors.c100003s : Shape := ⟨[(0, qk5), (2, qk21), (3, qk21), (4, qk5)], []⟩
def R_Errors.c100003x0 : Shape := ⟨[(0, qk5), (2, qk21), (3, qk21), (4, qk5)], []⟩
def R_Errors.c100003r : Ck := Ck.ofLoop (S := (List (List UInt8)) × (Int)) (T := (List (List UInt8)) × (Int)) R_Errors.c100003s (fun x_ => uP x_ fun n x_ => uP x_ fun t2 x_ => uP x_ fun out x_ => uP x_ fun i x_ => (out, i)) (fun ρ x_ s_ k_ => uP x_ fun n x_ => uP x_ fun t2 x_ => uP x_ fun out x_ => uP x_ fun i x_ => R_Errors.c100003 n s_.1 s_.2 k_) (fun ρ x_ r_ k_ => uP x_ fun n x_ => uP x_ fun t2 x_ => uP x_ fun out x_ => uP x_ fun i x_ => k_ 2 (Shape.inj R_Errors.c100003x0 (n, t2, r_.1, r_.2, ())))
def R_Errors (n : Int) : Option (List (List UInt8)) :=
  bnd (iter (fun s ↦ W.R_Errors.c100003 n (Prod.fst s) (Prod.snd s) some) ([Array.toList (ByteArray.data (ByteArray.mk #[]))], (0 : Int))) fun y =>
  some (Prod.fst y)
def R_Errors.ce : Go.Ql.Callee := ⟨[(.int .i64)], [(.sl .str)], fun x_ => R_Errors x_⟩
def R_Errors.G : Env := ⟨38, tab, [], [0, 2, 3, 4, 5, 6, 7, 11, 17, 21], [5, 5000036], [(12, [⟨[], [], [25, 26, 27, 28, 29, 30, 31, 32, 33, 34], [34]⟩, ⟨[], [], [24, 26, 29, 30, 31, 32], []⟩, ⟨[], [], [24, 25, 29, 30, 31, 32], []⟩, ⟨[1, 2], [], [24, 29, 30, 31, 32], []⟩, ⟨[3, 1, 2], [], [24, 29, 30, 31, 32], []⟩, ⟨[], [], [24, 25, 26, 27, 28, 30, 31], []⟩, ⟨[], [], [24, 25, 26, 27, 28, 29], []⟩, ⟨[6], [], [24, 25, 26, 27, 28, 29], []⟩, ⟨[5, 7, 6], [], [24, 25, 26, 27, 28], []⟩, ⟨[4, 3, 1, 2, 8, 5, 7, 6], [], [24], []⟩, ⟨[9, 4, 3, 1, 2, 8, 5, 7, 6], [34], [24], []⟩, ⟨[0, 10, 9, 4, 3, 1, 2, 8, 5, 7, 6], [5], [], []⟩, ⟨[11, 0, 10, 9, 4, 3, 1, 2, 8, 5, 7, 6], [], [], []⟩])], [(100003, R_Errors.c100003r), (100007, R_Errors.c100007r), (100010, R_Errors.c100010r), (12, R_Errors.c12r)], [], tab_eqs⟩
theorem R_Errors.eq (x_ : dens [(.int .i64)]) : den R_Errors.G Go.Proofs.Try.f20 [(.int .i64)] [(.sl .str)] x_ = R_Errors x_ := by kernel_rfl
theorem R_Errors.p0 : PieceOk R_Errors.G (pieceAt (pieces R_Errors.G.cks (bodyOf Go.Proofs.Try.f20)) 0).1 (pieceAt (pieces R_Errors.G.cks (bodyOf Go.Proofs.Try.f20)) 0).2 :=
  loop_ok (s := R_Errors.c100003r) (by kernel_rfl) (by kernel_rfl) (loops_of (sh := R_Errors.c100003s) (I := fun x_ s_ => (x_.1, x_.2.1, s_.1, s_.2, ())) (fun x_ => rfl) (fun ρ x_ s_ k_ => (nat_br (nat_bnd fun _ => nat_leaf) nat_leaf)) (fun ρ x_ t k => (by kernel_rfl)) (fun x_ s => by kernel_rfl))
theorem R_Errors.p1 : PieceOk R_Errors.G (pieceAt (pieces R_Errors.G.cks (bodyOf Go.Proofs.Try.f20)) 1).1 (pieceAt (pieces R_Errors.G.cks (bodyOf Go.Proofs.Try.f20)) 1).2 :=
  loop_ok (s := R_Errors.c100007r) (by kernel_rfl) (by kernel_rfl) (loops_of (sh := R_Errors.c100007s) (I := fun x_ s_ => (x_.1, x_.2.1, x_.2.2.1, x_.2.2.2.1, s_.1, s_.2, ())) (fun x_ => rfl) (fun ρ x_ s_ k_ => (nat_br (nat_bnd fun _ => nat_leaf) nat_leaf)) (fun ρ x_ t k => (by kernel_rfl)) (fun x_ s => by kernel_rfl))
theorem R_Errors.p2 : PieceOk R_Errors.G (pieceAt (pieces R_Errors.G.cks (bodyOf Go.Proofs.Try.f20)) 2).1 (pieceAt (pieces R_Errors.G.cks (bodyOf Go.Proofs.Try.f20)) 2).2 :=
  loop_ok (s := R_Errors.c100010r) (by kernel_rfl) (by kernel_rfl) (loops_of (sh := R_Errors.c100010s) (I := fun x_ s_ => (x_.1, x_.2.1, x_.2.2.1, x_.2.2.2.1, x_.2.2.2.2.1, s_.1, s_.2, ())) (fun x_ => rfl) (fun ρ x_ s_ k_ => (nat_br (nat_bnd fun _ => nat_leaf) nat_leaf)) (fun ρ x_ t k => (by kernel_rfl)) (fun x_ s => by kernel_rfl))
theorem R_Errors.p3 : PieceOk R_Errors.G (pieceAt (pieces R_Errors.G.cks (bodyOf Go.Proofs.Try.f20)) 3).1 (pieceAt (pieces R_Errors.G.cks (bodyOf Go.Proofs.Try.f20)) 3).2 :=
  region_ok (s := R_Errors.c12r) (by kernel_rfl) (by kernel_rfl) (sums_of (sh := R_Errors.c12s) (fun ρ x_ k_ => (nat_bnd fun _ => (nat_bnd fun _ => (nat_bnd fun _ => (nat_bnd fun _ => nat_leaf))))) (fun ρ x_ t k => (by kernel_rfl)) (fun x_ => by kernel_rfl))
theorem R_Errors.ok : CalleeOk Go.Proofs.Try.prog 20 R_Errors.ce := fn_ok (G := R_Errors.G) tab_ok mixed Go.Proofs.Try.func20 ⟨fns_nil, mfns_nil, tab_eqs_ok⟩ (m := 4) (by kernel_rfl) ⟨⟨⟨⟨trivial, R_Errors.p0⟩, R_Errors.p1⟩, R_Errors.p2⟩, R_Errors.p3⟩ (by kernel_rfl) R_Errors.eq
def R_Weight.c220486 {ρ : Type} (e : List UInt8) (n : Int) (i : Int) (k_ : Int → Option ρ) : Option ρ :=
  bnd (idx e i) fun y =>
  br ((↑(UInt8.toNat y) : Int) != (73 : Int))
   (k_ (IntKind.wrap IntKind.i64 (n + (1 : Int))))
   (k_ n)
def R_Weight.c220486s : Shape := ⟨[(0, qk4), (2, qk5), (3, qk5), (4, qk5)], []⟩
def R_Weight.c220486x0 : Shape := ⟨[(0, qk4), (2, qk5), (3, qk5), (4, qk5)], []⟩
def R_Weight.c220486r : Ck := Ck.of (T := Int) R_Weight.c220486s (fun ρ x_ k_ => uP x_ fun e x_ => uP x_ fun t2 x_ => uP x_ fun n x_ => uP x_ fun i x_ => R_Weight.c220486 e n i k_) (fun ρ x_ r_ k_ => uP x_ fun e x_ => uP x_ fun t2 x_ => uP x_ fun n x_ => uP x_ fun i x_ => k_ 0 (Shape.inj R_Weight.c220486x0 (e, t2, r_, i, ())))
def R_Weight.c100003 {ρ : Type} (e : List UInt8) (n : Int) (i : Int) (k_ : ((Int) × (Int)) ⊕ ((Int) × (Int)) → Option ρ) : Option ρ :=
  br (decide (i < (↑(List.length e) : Int)))
   (bnd (W.R_Weight.c220486 e n i some) fun y =>
    k_ (.inl (y, (IntKind.wrap IntKind.i64 (i + (1 : Int))))))
   (k_ (.inr (n, i)))
def R_Weight.c100003s : Shape := ⟨[(0, qk4), (2, qk5), (3, qk5), (4, qk5)], []⟩
def R_Weight.c100003x0 : Shape := ⟨[(0, qk4), (2, qk5), (3, qk5), (4, qk5)], []⟩
def R_Weight.c100003r : Ck := Ck.ofLoop (S := (Int) × (Int)) (T := (Int) × (Int)) R_Weight.c100003s (fun x_ => uP x_ fun e x_ => uP x_ fun t2 x_ => uP x_ fun n x_ => uP x_ fun i x_ => (n, i)) (fun ρ x_ s_ k_ => uP x_ fun e x_ => uP x_ fun t2 x_ => uP x_ fun n x_ => uP x_ fun i x_ => R_Weight.c100003 e s_.1 s_.2 k_) (fun ρ x_ r_ k_ => uP x_ fun e x_ => uP x_ fun t2 x_ => uP x_ fun n x_ => uP x_ fun i x_ => k_ 2 (Shape.inj R_Weight.c100003x0 (e, t2, r_.1, r_.2, ())))
def R_Weight (e : List UInt8) : Option (Int) :=
  bnd (iter (fun s ↦ W.R_Weight.c100003 e (Prod.fst s) (Prod.snd s) some) ((0 : Int), (0 : Int))) fun y =>
  some (Prod.fst y)
def R_Weight.ce : Go.Ql.Callee := ⟨[.str], [(.int .i64)], fun x_ => R_Weight x_⟩
def R_Weight.G : Env := ⟨18, tab, [], [0, 2, 3, 4, 8, 14], [], [], [(100003, R_Weight.c100003r), (220486, R_Weight.c220486r)], [], tab_eqs⟩
theorem R_Weight.eq (x_ : dens [.str]) : den R_Weight.G Go.Proofs.Try.f21 [.str] [(.int .i64)] x_ = R_Weight x_ := by kernel_rfl
theorem R_Weight.p0 : PieceOk R_Weight.G (pieceAt (pieces R_Weight.G.cks (bodyOf Go.Proofs.Try.f21)) 0).1 (pieceAt (pieces R_Weight.G.cks (bodyOf Go.Proofs.Try.f21)) 0).2 :=
  loop_ok (s := R_Weight.c100003r) (by kernel_rfl) (by kernel_rfl) (loops_of (sh := R_Weight.c100003s) (I := fun x_ s_ => (x_.1, x_.2.1, s_.1, s_.2, ())) (fun x_ => rfl) (fun ρ x_ s_ k_ => (nat_br (nat_bnd fun _ => nat_leaf) nat_leaf)) (fun ρ x_ t k => (by kernel_rfl)) (fun x_ s => by kernel_rfl))
theorem R_Weight.p1 : PieceOk R_Weight.G (pieceAt (pieces R_Weight.G.cks (bodyOf Go.Proofs.Try.f21)) 1).1 (pieceAt (pieces R_Weight.G.cks (bodyOf Go.Proofs.Try.f21)) 1).2 :=
  join_ok (s := R_Weight.c220486r) (by kernel_rfl) (by kernel_rfl) (sums_of (sh := R_Weight.c220486s) (fun ρ x_ k_ => (nat_bnd fun _ => (nat_br nat_leaf nat_leaf))) (fun ρ x_ t k => (by kernel_rfl)) (fun x_ => by kernel_rfl))
theorem R_Weight.ok : CalleeOk Go.Proofs.Try.prog 21 R_Weight.ce := fn_ok (G := R_Weight.G) tab_ok mixed Go.Proofs.Try.func21 ⟨fns_nil, mfns_nil, tab_eqs_ok⟩ (m := 2) (by kernel_rfl) ⟨⟨trivial, R_Weight.p0⟩, R_Weight.p1⟩ (by kernel_rfl) R_Weight.eq
def R_quiet.c100002 {ρ : Type} (s : List (Int)) (i : Int) (k_ : (Int) ⊕ ((Int) ⊕ (Int)) → Option ρ) : Option ρ :=
  br (decide (i < (↑(List.length s) : Int)))
   (bnd (idx s i) fun y =>
    br (y != (0 : Int))
     (k_ (.inr (.inl i)))
     (k_ (.inl (IntKind.wrap IntKind.i64 (i + (1 : Int))))))
   (k_ (.inr (.inr i)))
def R_quiet.c100002s : Shape := ⟨[(0, qk29), (2, qk7), (3, qk5)], []⟩
def R_quiet.c100002x0 : Shape := ⟨[(0, qk29), (2, qk7), (3, qk5)], []⟩
def R_quiet.c100002x1 : Shape := ⟨[(0, qk29), (2, qk7), (3, qk5)], []⟩
def R_quiet.c100002r : Ck := Ck.ofLoop (S := Int) (T := (Int) ⊕ (Int)) R_quiet.c100002s (fun x_ => uP x_ fun s x_ => uP x_ fun t2 x_ => uP x_ fun i x_ => i) (fun ρ x_ s_ k_ => uP x_ fun s x_ => uP x_ fun t2 x_ => uP x_ fun i x_ => R_quiet.c100002 s s_ k_) (fun ρ x_ r_ k_ => uP x_ fun s x_ => uP x_ fun t2 x_ => uP x_ fun i x_ => sel r_ (fun r_ => k_ 1 (Shape.inj R_quiet.c100002x0 (s, false, r_, ()))) (fun r_ => k_ 2 (Shape.inj R_quiet.c100002x1 (s, t2, r_, ()))))
def R_quiet (s : List (Int)) : Option (Bool) :=
  bnd (iter (fun s_1 ↦ W.R_quiet.c100002 s s_1 some) (0 : Int)) fun y =>
  sel y
   (fun u => some false)
   (fun v => some true)
def R_quiet.ce : Go.Ql.Callee := ⟨[(.sl (.int .i64))], [.bool], fun x_ => R_quiet x_⟩
def R_quiet.G : Env := ⟨15, tab, [], [0, 2, 3, 7, 14], [], [], [(100002, R_quiet.c100002r)], [], tab_eqs⟩
theorem R_quiet.eq (x_ : dens [(.sl (.int .i64))]) : den R_quiet.G Go.Proofs.Try.f40 [(.sl (.int .i64))] [.bool] x_ = R_quiet x_ := by kernel_rfl
theorem R_quiet.p0 : PieceOk R_quiet.G (pieceAt (pieces R_quiet.G.cks (bodyOf Go.Proofs.Try.f40)) 0).1 (pieceAt (pieces R_quiet.G.cks (bodyOf Go.Proofs.Try.f40)) 0).2 :=
  loop_ok (s := R_quiet.c100002r) (by kernel_rfl) (by kernel_rfl) (loops_of (sh := R_quiet.c100002s) (I := fun x_ s_ => (x_.1, x_.2.1, s_, ())) (fun x_ => rfl) (fun ρ x_ s_ k_ => (nat_br (nat_bnd fun _ => (nat_br nat_leaf nat_leaf)) nat_leaf)) (fun ρ x_ t k => (nat_sel (fun _ => (by kernel_rfl)) (fun _ => (by kernel_rfl)))) (fun x_ s => by kernel_rfl))
theorem R_quiet.ok : CalleeOk Go.Proofs.Try.prog 40 R_quiet.ce := fn_ok (G := R_quiet.G) tab_ok mixed Go.Proofs.Try.func40 ⟨fns_nil, mfns_nil, tab_eqs_ok⟩ (m := 1) (by kernel_rfl) ⟨trivial, R_quiet.p0⟩ (by kernel_rfl) R_quiet.eq
def R_InGroup.c100002 {ρ : Type} (group : List (List UInt8)) (e : List UInt8) (i : Int) (k_ : (Int) ⊕ ((Int) ⊕ (Int)) → Option ρ) : Option ρ :=
  br (decide (i < (↑(List.length group) : Int)))
   (bnd (idx group i) fun y =>
    br (y == e)
     (k_ (.inr (.inl i)))
     (k_ (.inl (IntKind.wrap IntKind.i64 (i + (1 : Int))))))
   (k_ (.inr (.inr i)))
def R_InGroup.c100002s : Shape := ⟨[(0, qk21), (1, qk4), (4, qk7), (5, qk5)], []⟩
def R_InGroup.c100002x0 : Shape := ⟨[(0, qk21), (1, qk4), (4, qk7), (5, qk5)], []⟩
def R_InGroup.c100002x1 : Shape := ⟨[(0, qk21), (1, qk4), (4, qk7), (5, qk5)], []⟩
def R_InGroup.c100002r : Ck := Ck.ofLoop (S := Int) (T := (Int) ⊕ (Int)) R_InGroup.c100002s (fun x_ => uP x_ fun group x_ => uP x_ fun e x_ => uP x_ fun t4 x_ => uP x_ fun i x_ => i) (fun ρ x_ s_ k_ => uP x_ fun group x_ => uP x_ fun e x_ => uP x_ fun t4 x_ => uP x_ fun i x_ => R_InGroup.c100002 group e s_ k_) (fun ρ x_ r_ k_ => uP x_ fun group x_ => uP x_ fun e x_ => uP x_ fun t4 x_ => uP x_ fun i x_ => sel r_ (fun r_ => k_ 1 (Shape.inj R_InGroup.c100002x0 (group, e, true, r_, ()))) (fun r_ => k_ 2 (Shape.inj R_InGroup.c100002x1 (group, e, t4, r_, ()))))
def R_InGroup.c6 {ρ : Type} (group : List (List UInt8)) (e : List UInt8) (k_ : Bool → Option ρ) : Option ρ :=
  br ((↑(List.length group) : Int) == (0 : Int))
   (bnd (W.R_Weight e) fun y =>
    k_ (y == (0 : Int)))
   (k_ false)
def R_InGroup.c6s : Shape := ⟨[(0, qk21), (1, qk4), (4, qk7), (5, qk5)], []⟩
def R_InGroup.c6x0 : Shape := ⟨[(0, qk21), (1, qk4), (4, qk7), (5, qk5)], []⟩
def R_InGroup.c6r : Ck := Ck.of (T := Bool) R_InGroup.c6s (fun ρ x_ k_ => uP x_ fun group x_ => uP x_ fun e x_ => uP x_ fun t4 x_ => uP x_ fun i x_ => R_InGroup.c6 group e k_) (fun ρ x_ r_ k_ => uP x_ fun group x_ => uP x_ fun e x_ => uP x_ fun t4 x_ => uP x_ fun i x_ => k_ 0 (Shape.inj R_InGroup.c6x0 (group, e, r_, i, ())))
def R_InGroup (group : List (List UInt8)) (e : List UInt8) : Option (Bool) :=
  bnd (iter (fun s ↦ W.R_InGroup.c100002 group e s some) (0 : Int)) fun y =>
  sel y
   (fun u => some true)
   (fun v => bnd (W.R_InGroup.c6 group e some) fun y_1 =>
    some y_1)
def R_InGroup.ce : Go.Ql.Callee := ⟨[(.sl .str), .str], [.bool], fun x_ => R_InGroup x_.1 x_.2⟩
def R_InGroup.G : Env := ⟨26, tab, [(21, R_Weight.ce)], [0, 1, 4, 5, 9, 17], [], [], [(6, R_InGroup.c6r), (100002, R_InGroup.c100002r)], [], tab_eqs⟩
theorem R_InGroup.eq (x_ : dens [(.sl .str), .str]) : den R_InGroup.G Go.Proofs.Try.f41 [(.sl .str), .str] [.bool] x_ = R_InGroup x_.1 x_.2 := by kernel_rfl
theorem R_InGroup.p0 : PieceOk R_InGroup.G (pieceAt (pieces R_InGroup.G.cks (bodyOf Go.Proofs.Try.f41)) 0).1 (pieceAt (pieces R_InGroup.G.cks (bodyOf Go.Proofs.Try.f41)) 0).2 :=
  loop_ok (s := R_InGroup.c100002r) (by kernel_rfl) (by kernel_rfl) (loops_of (sh := R_InGroup.c100002s) (I := fun x_ s_ => (x_.1, x_.2.1, x_.2.2.1, s_, ())) (fun x_ => rfl) (fun ρ x_ s_ k_ => (nat_br (nat_bnd fun _ => (nat_br nat_leaf nat_leaf)) nat_leaf)) (fun ρ x_ t k => (nat_sel (fun _ => (by kernel_rfl)) (fun _ => (by kernel_rfl)))) (fun x_ s => by kernel_rfl))
theorem R_InGroup.p1 : PieceOk R_InGroup.G (pieceAt (pieces R_InGroup.G.cks (bodyOf Go.Proofs.Try.f41)) 1).1 (pieceAt (pieces R_InGroup.G.cks (bodyOf Go.Proofs.Try.f41)) 1).2 :=
  region_ok (s := R_InGroup.c6r) (by kernel_rfl) (by kernel_rfl) (sums_of (sh := R_InGroup.c6s) (fun ρ x_ k_ => (nat_br (nat_bnd fun _ => nat_leaf) nat_leaf)) (fun ρ x_ t k => (by kernel_rfl)) (fun x_ => by kernel_rfl))
theorem R_InGroup.ok : CalleeOk Go.Proofs.Try.prog 41 R_InGroup.ce := fn_ok (G := R_InGroup.G) tab_ok mixed Go.Proofs.Try.func41 ⟨(fns_cons R_Weight.ok fns_nil), mfns_nil, tab_eqs_ok⟩ (m := 2) (by kernel_rfl) ⟨⟨trivial, R_InGroup.p0⟩, R_InGroup.p1⟩ (by kernel_rfl) R_InGroup.eq
def R_DistanceOf.c8 {ρ : Type} (g : List (List UInt8)) (es : List (List UInt8)) (best : Int) (i : Int) (w : Int) (c0 : Int) (c1 : List (List UInt8)) (k_ : Bool → Option ρ) : Option ρ :=
  br (best == (0 : Int))
   (br (decide (w > (0 : Int)))
     (bnd (idx es i) fun y =>
      bnd (W.R_SyndromeOf (c0, c1) y) fun y_1 =>
      bnd (W.R_quiet y_1) fun y_2 =>
      br y_2
       (bnd (idx es i) fun y_3 =>
        bnd (W.R_InGroup g y_3) fun y_4 =>
        k_ (!y_4))
       (k_ false))
     (k_ false))
   (br (decide (w < best))
     (br (decide (w > (0 : Int)))
       (bnd (idx es i) fun y_5 =>
        bnd (W.R_SyndromeOf (c0, c1) y_5) fun y_6 =>
        bnd (W.R_quiet y_6) fun y_7 =>
        br y_7
         (bnd (idx es i) fun y_8 =>
          bnd (W.R_InGroup g y_8) fun y_9 =>
          k_ (!y_9))
         (k_ false))
       (k_ false))
     (k_ false))
def R_DistanceOf.c8s : Shape := ⟨[(0, qk0), (1, qk1), (2, qk5), (3, qk21), (4, qk21), (5, qk5), (6, qk5), (7, qk5)], [(1, qk3)]⟩
def R_DistanceOf.c8x0 : Shape := ⟨[(0, qk0), (1, qk1), (2, qk5), (3, qk21), (4, qk21), (5, qk5), (6, qk5), (7, qk5), (54, qk7)], [(1, qk3)]⟩
def R_DistanceOf.c8r : Ck := Ck.of (T := Bool) R_DistanceOf.c8s (fun ρ x_ k_ => uP x_ fun c x_ => uP x_ fun t2 x_ => uP x_ fun g x_ => uP x_ fun es x_ => uP x_ fun best x_ => uP x_ fun i x_ => uP x_ fun w x_ => uP x_ fun c0 x_ => uP x_ fun c1 x_ => R_DistanceOf.c8 g es best i w c0 c1 k_) (fun ρ x_ r_ k_ => uP x_ fun c x_ => uP x_ fun t2 x_ => uP x_ fun g x_ => uP x_ fun es x_ => uP x_ fun best x_ => uP x_ fun i x_ => uP x_ fun w x_ => uP x_ fun c0 x_ => uP x_ fun c1 x_ => k_ 0 (Shape.inj R_DistanceOf.c8x0 (c, t2, g, es, best, i, w, r_, c0, c1, ())))
def R_DistanceOf.c228680 {ρ : Type} (g : List (List UInt8)) (es : List (List UInt8)) (best : Int) (i : Int) (c0 : Int) (c1 : List (List UInt8)) (k_ : Int → Option ρ) : Option ρ :=
  bnd (idx es i) fun y =>
  bnd (W.R_Weight y) fun y_1 =>
  bnd (W.R_DistanceOf.c8 g es best i y_1 c0 c1 some) fun y_2 =>
  br y_2
   (k_ y_1)
   (k_ best)
def R_DistanceOf.c228680s : Shape := ⟨[(0, qk0), (1, qk1), (2, qk5), (3, qk21), (4, qk21), (5, qk5), (6, qk5)], [(1, qk3)]⟩
def R_DistanceOf.c228680x0 : Shape := ⟨[(0, qk0), (1, qk1), (2, qk5), (3, qk21), (4, qk21), (5, qk5), (6, qk5)], [(1, qk3)]⟩
def R_DistanceOf.c228680r : Ck := Ck.of (T := Int) R_DistanceOf.c228680s (fun ρ x_ k_ => uP x_ fun c x_ => uP x_ fun t2 x_ => uP x_ fun g x_ => uP x_ fun es x_ => uP x_ fun best x_ => uP x_ fun i x_ => uP x_ fun c0 x_ => uP x_ fun c1 x_ => R_DistanceOf.c228680 g es best i c0 c1 k_) (fun ρ x_ r_ k_ => uP x_ fun c x_ => uP x_ fun t2 x_ => uP x_ fun g x_ => uP x_ fun es x_ => uP x_ fun best x_ => uP x_ fun i x_ => uP x_ fun c0 x_ => uP x_ fun c1 x_ => k_ 0 (Shape.inj R_DistanceOf.c228680x0 (c, t2, g, es, r_, i, c0, c1, ())))
def R_DistanceOf.c100005 {ρ : Type} (g : List (List UInt8)) (es : List (List UInt8)) (best : Int) (i : Int) (c0 : Int) (c1 : List (List UInt8)) (k_ : ((Int) × (Int)) ⊕ ((Int) × (Int)) → Option ρ) : Option ρ :=
  br (decide (i < (↑(List.length es) : Int)))
   (bnd (W.R_DistanceOf.c228680 g es best i c0 c1 some) fun y =>
    k_ (.inl (y, (IntKind.wrap IntKind.i64 (i + (1 : Int))))))
   (k_ (.inr (best, i)))
def R_DistanceOf.c100005s : Shape := ⟨[(0, qk0), (1, qk1), (2, qk5), (3, qk21), (4, qk21), (5, qk5), (6, qk5)], [(1, qk3)]⟩
def R_DistanceOf.c100005x0 : Shape := ⟨[(0, qk0), (1, qk1), (2, qk5), (3, qk21), (4, qk21), (5, qk5), (6, qk5)], [(1, qk3)]⟩
def R_DistanceOf.c100005r : Ck := Ck.ofLoop (S := (Int) × (Int)) (T := (Int) × (Int)) R_DistanceOf.c100005s (fun x_ => uP x_ fun c x_ => uP x_ fun t2 x_ => uP x_ fun g x_ => uP x_ fun es x_ => uP x_ fun best x_ => uP x_ fun i x_ => uP x_ fun c0 x_ => uP x_ fun c1 x_ => (best, i)) (fun ρ x_ s_ k_ => uP x_ fun c x_ => uP x_ fun t2 x_ => uP x_ fun g x_ => uP x_ fun es x_ => uP x_ fun best x_ => uP x_ fun i x_ => uP x_ fun c0 x_ => uP x_ fun c1 x_ => R_DistanceOf.c100005 g es s_.1 s_.2 c0 c1 k_) (fun ρ x_ r_ k_ => uP x_ fun c x_ => uP x_ fun t2 x_ => uP x_ fun g x_ => uP x_ fun es x_ => uP x_ fun best x_ => uP x_ fun i x_ => uP x_ fun c0 x_ => uP x_ fun c1 x_ => k_ 2 (Shape.inj R_DistanceOf.c100005x0 (c, t2, g, es, r_.1, r_.2, c0, c1, ())))
def R_DistanceOf (c : (Int) × (List (List UInt8))) : Option (Int) :=
  bnd (W.R_bare (Prod.snd c)) fun y =>
  bnd (W.R_Group y) fun y_1 =>
  bnd (W.R_Errors (Prod.fst c)) fun y_2 =>
  bnd (iter (fun s ↦ W.R_DistanceOf.c100005 y_1 y_2 (Prod.fst s) (Prod.snd s) (Prod.fst c) (Prod.snd c) some) ((0 : Int), (0 : Int))) fun y_3 =>
  some (Prod.fst y_3)
def R_DistanceOf.ce : Go.Ql.Callee := ⟨[(.st (.pair (.int .i64) (.sl .str)))], [(.int .i64)], fun x_ => R_DistanceOf x_⟩
def R_DistanceOf.G : Env := ⟨57, tab, [(26, R_bare.ce), (28, R_Group.ce), (20, R_Errors.ce), (21, R_Weight.ce), (15, R_SyndromeOf.ce), (40, R_quiet.ce), (41, R_InGroup.ce)], [0, 1, 2, 3, 4, 5, 6, 7, 18, 54], [], [(8, [⟨[], [], [], []⟩, ⟨[0], [], [], []⟩, ⟨[1, 0], [], [], []⟩, ⟨[2, 1, 0], [], [30], []⟩, ⟨[2, 1, 0], [], [29], []⟩, ⟨[3, 2, 1, 0, 4], [], [], []⟩, ⟨[2, 1, 0, 5, 3, 4], [], [], []⟩, ⟨[6, 2, 1, 0, 5, 3, 4], [], [], []⟩, ⟨[7, 6, 2, 1, 0, 5, 3, 4], [], [], []⟩, ⟨[8, 7, 6, 2, 1, 0, 5, 3, 4], [], [], []⟩, ⟨[7, 6, 2, 1, 0, 5, 3, 4, 9, 8], [], [], []⟩, ⟨[10, 7, 6, 2, 1, 0, 5, 3, 4, 9, 8], [], [], []⟩, ⟨[11, 10, 7, 6, 2, 1, 0, 5, 3, 4, 9, 8], [], [39, 40, 41, 42], []⟩, ⟨[11, 10, 7, 6, 2, 1, 0, 5, 3, 4, 9, 8], [], [38, 40], []⟩, ⟨[11, 10, 7, 6, 2, 1, 0, 5, 3, 4, 9, 8], [], [38, 39], []⟩, ⟨[13, 11, 10, 7, 6, 2, 1, 0, 5, 3, 4, 9, 8, 14], [], [38], []⟩, ⟨[15, 13, 11, 10, 7, 6, 2, 1, 0, 5, 3, 4, 9, 8, 14], [], [38], []⟩, ⟨[12, 11, 10, 7, 6, 2, 1, 0, 5, 3, 4, 9, 8, 16, 15, 13, 14], [], [], []⟩, ⟨[17, 12, 11, 10, 7, 6, 2, 1, 0, 5, 3, 4, 9, 8, 16, 15, 13, 14], [], [], []⟩, ⟨[11, 10, 7, 6, 2, 1, 0, 5, 3, 4, 9, 8, 18, 17, 12, 16, 15, 13, 14], [], [], []⟩, ⟨[19, 11, 10, 7, 6, 2, 1, 0, 5, 3, 4, 9, 8, 18, 17, 12, 16, 15, 13, 14], [], [], []⟩, ⟨[20, 19, 11, 10, 7, 6, 2, 1, 0, 5, 3, 4, 9, 8, 18, 17, 12, 16, 15, 13, 14], [], [48, 49, 50, 51], []⟩, ⟨[20, 19, 11, 10, 7, 6, 2, 1, 0, 5, 3, 4, 9, 8, 18, 17, 12, 16, 15, 13, 14], [], [47, 49], []⟩, ⟨[20, 19, 11, 10, 7, 6, 2, 1, 0, 5, 3, 4, 9, 8, 18, 17, 12, 16, 15, 13, 14], [], [47, 48], []⟩, ⟨[22, 20, 19, 11, 10, 7, 6, 2, 1, 0, 5, 3, 4, 9, 8, 18, 17, 12, 16, 15, 13, 14, 23], [], [47], []⟩, ⟨[24, 22, 20, 19, 11, 10, 7, 6, 2, 1, 0, 5, 3, 4, 9, 8, 18, 17, 12, 16, 15, 13, 14, 23], [], [47], []⟩, ⟨[21, 20, 19, 11, 10, 7, 6, 2, 1, 0, 5, 3, 4, 9, 8, 18, 17, 12, 16, 15, 13, 14, 25, 24, 22, 23], [], [], []⟩, ⟨[26, 21, 20, 19, 11, 10, 7, 6, 2, 1, 0, 5, 3, 4, 9, 8, 18, 17, 12, 16, 15, 13, 14, 25, 24, 22, 23], [], [], []⟩, ⟨[20, 19, 11, 10, 7, 6, 2, 1, 0, 5, 3, 4, 9, 8, 18, 17, 12, 16, 15, 13, 14, 27, 26, 21, 25, 24, 22, 23], [], [], []⟩])], [(100005, R_DistanceOf.c100005r), (228680, R_DistanceOf.c228680r), (8, R_DistanceOf.c8r)], [], tab_eqs⟩
theorem R_DistanceOf.eq (x_ : dens [(.st (.pair (.int .i64) (.sl .str)))]) : den R_DistanceOf.G Go.Proofs.Try.f17 [(.st (.pair (.int .i64) (.sl .str)))] [(.int .i64)] x_ = R_DistanceOf x_ := by kernel_rfl
theorem R_DistanceOf.p0 : PieceOk R_DistanceOf.G (pieceAt (pieces R_DistanceOf.G.cks (bodyOf Go.Proofs.Try.f17)) 0).1 (pieceAt (pieces R_DistanceOf.G.cks (bodyOf Go.Proofs.Try.f17)) 0).2 :=
  loop_ok (s := R_DistanceOf.c100005r) (by kernel_rfl) (by kernel_rfl) (loops_of (sh := R_DistanceOf.c100005s) (I := fun x_ s_ => (x_.1, x_.2.1, x_.2.2.1, x_.2.2.2.1, s_.1, s_.2, x_.2.2.2.2.2.2.1, x_.2.2.2.2.2.2.2.1, ())) (fun x_ => rfl) (fun ρ x_ s_ k_ => (nat_br (nat_bnd fun _ => nat_leaf) nat_leaf)) (fun ρ x_ t k => (by kernel_rfl)) (fun x_ s => by kernel_rfl))
theorem R_DistanceOf.p1 : PieceOk R_DistanceOf.G (pieceAt (pieces R_DistanceOf.G.cks (bodyOf Go.Proofs.Try.f17)) 1).1 (pieceAt (pieces R_DistanceOf.G.cks (bodyOf Go.Proofs.Try.f17)) 1).2 :=
  join_ok (s := R_DistanceOf.c228680r) (by kernel_rfl) (by kernel_rfl) (sums_of (sh := R_DistanceOf.c228680s) (fun ρ x_ k_ => (nat_bnd fun _ => (nat_bnd fun _ => (nat_bnd fun _ => (nat_br nat_leaf nat_leaf))))) (fun ρ x_ t k => (by kernel_rfl)) (fun x_ => by kernel_rfl))
theorem R_DistanceOf.p2 : PieceOk R_DistanceOf.G (pieceAt (pieces R_DistanceOf.G.cks (bodyOf Go.Proofs.Try.f17)) 2).1 (pieceAt (pieces R_DistanceOf.G.cks (bodyOf Go.Proofs.Try.f17)) 2).2 :=
  region_ok (s := R_DistanceOf.c8r) (by kernel_rfl) (by kernel_rfl) (sums_of (sh := R_DistanceOf.c8s) (fun ρ x_ k_ => (nat_br (nat_br (nat_bnd fun _ => (nat_bnd fun _ => (nat_bnd fun _ => (nat_br (nat_bnd fun _ => (nat_bnd fun _ => nat_leaf)) nat_leaf)))) nat_leaf) (nat_br (nat_br (nat_bnd fun _ => (nat_bnd fun _ => (nat_bnd fun _ => (nat_br (nat_bnd fun _ => (nat_bnd fun _ => nat_leaf)) nat_leaf)))) nat_leaf) nat_leaf))) (fun ρ x_ t k => (by kernel_rfl)) (fun x_ => by kernel_rfl))
theorem R_DistanceOf.ok : CalleeOk Go.Proofs.Try.prog 17 R_DistanceOf.ce := fn_ok (G := R_DistanceOf.G) tab_ok mixed Go.Proofs.Try.func17 ⟨(fns_cons R_bare.ok (fns_cons R_Group.ok (fns_cons R_Errors.ok (fns_cons R_Weight.ok (fns_cons R_SyndromeOf.ok (fns_cons R_quiet.ok (fns_cons R_InGroup.ok fns_nil))))))), mfns_nil, tab_eqs_ok⟩ (m := 3) (by kernel_rfl) ⟨⟨⟨trivial, R_DistanceOf.p0⟩, R_DistanceOf.p1⟩, R_DistanceOf.p2⟩ (by kernel_rfl) R_DistanceOf.eq
def R_DecodeOf.c5 {ρ : Type} (s : List (Int)) (es : List (List UInt8)) (best : List UInt8) (i : Int) (c0 : Int) (c1 : List (List UInt8)) (k_ : Bool → Option ρ) : Option ρ :=
  br (best == Array.toList (ByteArray.data (ByteArray.mk #[])))
   (bnd (idx es i) fun y =>
    bnd (W.R_SyndromeOf (c0, c1) y) fun y_1 =>
    bnd (W.R_SameInts y_1 s) fun y_2 =>
    k_ y_2)
   (bnd (idx es i) fun y_3 =>
    bnd (W.R_Weight y_3) fun y_4 =>
    bnd (W.R_Weight best) fun y_5 =>
    br (decide (y_4 < y_5))
     (bnd (idx es i) fun y_6 =>
      bnd (W.R_SyndromeOf (c0, c1) y_6) fun y_7 =>
      bnd (W.R_SameInts y_7 s) fun y_8 =>
      k_ y_8)
     (k_ false))
def R_DecodeOf.c5s : Shape := ⟨[(0, qk0), (1, qk29), (2, qk21), (3, qk12), (6, qk4), (7, qk4), (8, qk5)], [(3, qk3)]⟩
def R_DecodeOf.c5x0 : Shape := ⟨[(0, qk0), (1, qk29), (2, qk21), (3, qk12), (6, qk4), (7, qk4), (8, qk5), (36, qk7)], [(3, qk3)]⟩
def R_DecodeOf.c5r : Ck := Ck.of (T := Bool) R_DecodeOf.c5s (fun ρ x_ k_ => uP x_ fun c x_ => uP x_ fun s x_ => uP x_ fun es x_ => uP x_ fun t6 x_ => uP x_ fun best x_ => uP x_ fun i x_ => uP x_ fun c0 x_ => uP x_ fun c1 x_ => R_DecodeOf.c5 s es best i c0 c1 k_) (fun ρ x_ r_ k_ => uP x_ fun c x_ => uP x_ fun s x_ => uP x_ fun es x_ => uP x_ fun t6 x_ => uP x_ fun best x_ => uP x_ fun i x_ => uP x_ fun c0 x_ => uP x_ fun c1 x_ => k_ 0 (Shape.inj R_DecodeOf.c5x0 (c, s, es, t6, best, i, r_, c0, c1, ())))
def R_DecodeOf.c220486 {ρ : Type} (s : List (Int)) (es : List (List UInt8)) (best : List UInt8) (i : Int) (c0 : Int) (c1 : List (List UInt8)) (k_ : List UInt8 → Option ρ) : Option ρ :=
  bnd (W.R_DecodeOf.c5 s es best i c0 c1 some) fun y =>
  br y
   (bnd (idx es i) fun y_1 =>
    k_ y_1)
   (k_ best)
def R_DecodeOf.c220486s : Shape := ⟨[(0, qk0), (1, qk29), (2, qk21), (3, qk12), (6, qk4), (7, qk4), (8, qk5)], [(3, qk3)]⟩
def R_DecodeOf.c220486x0 : Shape := ⟨[(0, qk0), (1, qk29), (2, qk21), (3, qk12), (6, qk4), (7, qk4), (8, qk5)], [(3, qk3)]⟩
def R_DecodeOf.c220486r : Ck := Ck.of (T := List UInt8) R_DecodeOf.c220486s (fun ρ x_ k_ => uP x_ fun c x_ => uP x_ fun s x_ => uP x_ fun es x_ => uP x_ fun t6 x_ => uP x_ fun best x_ => uP x_ fun i x_ => uP x_ fun c0 x_ => uP x_ fun c1 x_ => R_DecodeOf.c220486 s es best i c0 c1 k_) (fun ρ x_ r_ k_ => uP x_ fun c x_ => uP x_ fun s x_ => uP x_ fun es x_ => uP x_ fun t6 x_ => uP x_ fun best x_ => uP x_ fun i x_ => uP x_ fun c0 x_ => uP x_ fun c1 x_ => k_ 0 (Shape.inj R_DecodeOf.c220486x0 (c, s, es, t6, r_, i, c0, c1, ())))
def R_DecodeOf.c100003 {ρ : Type} (s : List (Int)) (es : List (List UInt8)) (best : List UInt8) (i : Int) (c0 : Int) (c1 : List (List UInt8)) (k_ : ((List UInt8) × (Int)) ⊕ ((List UInt8) × (Int)) → Option ρ) : Option ρ :=
  br (decide (i < (↑(List.length es) : Int)))
   (bnd (W.R_DecodeOf.c220486 s es best i c0 c1 some) fun y =>
    k_ (.inl (y, (IntKind.wrap IntKind.i64 (i + (1 : Int))))))
   (k_ (.inr (best, i)))
def R_DecodeOf.c100003s : Shape := ⟨[(0, qk0), (1, qk29), (2, qk21), (3, qk12), (6, qk4), (7, qk4), (8, qk5)], [(3, qk3)]⟩
def R_DecodeOf.c100003x0 : Shape := ⟨[(0, qk0), (1, qk29), (2, qk21), (3, qk12), (6, qk4), (7, qk4), (8, qk5)], [(3, qk3)]⟩
def R_DecodeOf.c100003r : Ck := Ck.ofLoop (S := (List UInt8) × (Int)) (T := (List UInt8) × (Int)) R_DecodeOf.c100003s (fun x_ => uP x_ fun c x_ => uP x_ fun s x_ => uP x_ fun es x_ => uP x_ fun t6 x_ => uP x_ fun best x_ => uP x_ fun i x_ => uP x_ fun c0 x_ => uP x_ fun c1 x_ => (best, i)) (fun ρ x_ s_ k_ => uP x_ fun c x_ => uP x_ fun s x_ => uP x_ fun es x_ => uP x_ fun t6 x_ => uP x_ fun best x_ => uP x_ fun i x_ => uP x_ fun c0 x_ => uP x_ fun c1 x_ => R_DecodeOf.c100003 s es s_.1 s_.2 c0 c1 k_) (fun ρ x_ r_ k_ => uP x_ fun c x_ => uP x_ fun s x_ => uP x_ fun es x_ => uP x_ fun t6 x_ => uP x_ fun best x_ => uP x_ fun i x_ => uP x_ fun c0 x_ => uP x_ fun c1 x_ => k_ 2 (Shape.inj R_DecodeOf.c100003x0 (c, s, es, t6, r_.1, r_.2, c0, c1, ())))
def R_DecodeOf (c : (Int) × (List (List UInt8))) (s : List (Int)) (es : List (List UInt8)) : Option (List UInt8) :=
  bnd (iter (fun s_1 ↦ W.R_DecodeOf.c100003 s es (Prod.fst s_1) (Prod.snd s_1) (Prod.fst c) (Prod.snd c) some) (Array.toList (ByteArray.data (ByteArray.mk #[])), (0 : Int))) fun y =>
  some (Prod.fst y)
def R_DecodeOf.ce : Go.Ql.Callee := ⟨[(.st (.pair (.int .i64) (.sl .str))), (.sl (.int .i64)), (.sl .str)], [.str], fun x_ => R_DecodeOf x_.1 x_.2.1 x_.2.2⟩
def R_DecodeOf.G : Env := ⟨42, tab, [(21, R_Weight.ce), (15, R_SyndromeOf.ce), (14, R_SameInts.ce)], [0, 1, 2, 3, 6, 7, 8, 12, 36], [], [(5, [⟨[], [], [], []⟩, ⟨[0], [], [], []⟩, ⟨[1, 0], [], [], []⟩, ⟨[2, 1, 0], [], [19, 23], []⟩, ⟨[2, 1, 0], [], [18, 23], []⟩, ⟨[3, 2, 1, 0, 4], [], [23], []⟩, ⟨[5, 3, 2, 1, 0, 4], [], [23], []⟩, ⟨[6, 5, 3, 2, 1, 0, 4], [], [23], []⟩, ⟨[2, 1, 0], [], [18, 19, 20, 21, 22], []⟩, ⟨[8, 2, 1, 0, 7, 6, 5, 3, 4], [], [], []⟩, ⟨[7, 6, 5, 3, 2, 1, 0, 4, 9, 8], [], [], []⟩, ⟨[2, 1, 0, 10, 7, 6, 5, 3, 4, 9, 8], [], [], []⟩, ⟨[11, 2, 1, 0, 10, 7, 6, 5, 3, 4, 9, 8], [], [], []⟩, ⟨[12, 11, 2, 1, 0, 10, 7, 6, 5, 3, 4, 9, 8], [], [29, 30, 31, 32, 34], []⟩, ⟨[12, 11, 2, 1, 0, 10, 7, 6, 5, 3, 4, 9, 8], [], [28, 30, 34], []⟩, ⟨[12, 11, 2, 1, 0, 10, 7, 6, 5, 3, 4, 9, 8], [], [28, 29, 34], []⟩, ⟨[14, 12, 11, 2, 1, 0, 10, 7, 6, 5, 3, 4, 9, 8, 15], [], [28, 34], []⟩, ⟨[16, 14, 12, 11, 2, 1, 0, 10, 7, 6, 5, 3, 4, 9, 8, 15], [], [28, 34], []⟩, ⟨[13, 12, 11, 2, 1, 0, 10, 7, 6, 5, 3, 4, 9, 8, 17, 16, 14, 15], [], [34], []⟩, ⟨[12, 11, 2, 1, 0, 10, 7, 6, 5, 3, 4, 9, 8], [], [28, 29, 30, 31, 32, 33], []⟩, ⟨[18, 13, 12, 11, 2, 1, 0, 10, 7, 6, 5, 3, 4, 9, 8, 17, 16, 14, 15, 19], [], [], []⟩, ⟨[12, 11, 2, 1, 0, 10, 7, 6, 5, 3, 4, 9, 8, 20, 18, 13, 17, 16, 14, 15, 19], [], [], []⟩])], [(100003, R_DecodeOf.c100003r), (220486, R_DecodeOf.c220486r), (5, R_DecodeOf.c5r)], [], tab_eqs⟩
theorem R_DecodeOf.eq (x_ : dens [(.st (.pair (.int .i64) (.sl .str))), (.sl (.int .i64)), (.sl .str)]) : den R_DecodeOf.G Go.Proofs.Try.f19 [(.st (.pair (.int .i64) (.sl .str))), (.sl (.int .i64)), (.sl .str)] [.str] x_ = R_DecodeOf x_.1 x_.2.1 x_.2.2 := by kernel_rfl
theorem R_DecodeOf.p0 : PieceOk R_DecodeOf.G (pieceAt (pieces R_DecodeOf.G.cks (bodyOf Go.Proofs.Try.f19)) 0).1 (pieceAt (pieces R_DecodeOf.G.cks (bodyOf Go.Proofs.Try.f19)) 0).2 :=
  loop_ok (s := R_DecodeOf.c100003r) (by kernel_rfl) (by kernel_rfl) (loops_of (sh := R_DecodeOf.c100003s) (I := fun x_ s_ => (x_.1, x_.2.1, x_.2.2.1, x_.2.2.2.1, s_.1, s_.2, x_.2.2.2.2.2.2.1, x_.2.2.2.2.2.2.2.1, ())) (fun x_ => rfl) (fun ρ x_ s_ k_ => (nat_br (nat_bnd fun _ => nat_leaf) nat_leaf)) (fun ρ x_ t k => (by kernel_rfl)) (fun x_ s => by kernel_rfl))
theorem R_DecodeOf.p1 : PieceOk R_DecodeOf.G (pieceAt (pieces R_DecodeOf.G.cks (bodyOf Go.Proofs.Try.f19)) 1).1 (pieceAt (pieces R_DecodeOf.G.cks (bodyOf Go.Proofs.Try.f19)) 1).2 :=
  join_ok (s := R_DecodeOf.c220486r) (by kernel_rfl) (by kernel_rfl) (sums_of (sh := R_DecodeOf.c220486s) (fun ρ x_ k_ => (nat_bnd fun _ => (nat_br (nat_bnd fun _ => nat_leaf) nat_leaf))) (fun ρ x_ t k => (by kernel_rfl)) (fun x_ => by kernel_rfl))
theorem R_DecodeOf.p2 : PieceOk R_DecodeOf.G (pieceAt (pieces R_DecodeOf.G.cks (bodyOf Go.Proofs.Try.f19)) 2).1 (pieceAt (pieces R_DecodeOf.G.cks (bodyOf Go.Proofs.Try.f19)) 2).2 :=
  region_ok (s := R_DecodeOf.c5r) (by kernel_rfl) (by kernel_rfl) (sums_of (sh := R_DecodeOf.c5s) (fun ρ x_ k_ => (nat_br (nat_bnd fun _ => (nat_bnd fun _ => (nat_bnd fun _ => nat_leaf))) (nat_bnd fun _ => (nat_bnd fun _ => (nat_bnd fun _ => (nat_br (nat_bnd fun _ => (nat_bnd fun _ => (nat_bnd fun _ => nat_leaf))) nat_leaf)))))) (fun ρ x_ t k => (by kernel_rfl)) (fun x_ => by kernel_rfl))
theorem R_DecodeOf.ok : CalleeOk Go.Proofs.Try.prog 19 R_DecodeOf.ce := fn_ok (G := R_DecodeOf.G) tab_ok mixed Go.Proofs.Try.func19 ⟨(fns_cons R_Weight.ok (fns_cons R_SyndromeOf.ok (fns_cons R_SameInts.ok fns_nil))), mfns_nil, tab_eqs_ok⟩ (m := 3) (by kernel_rfl) ⟨⟨⟨trivial, R_DecodeOf.p0⟩, R_DecodeOf.p1⟩, R_DecodeOf.p2⟩ (by kernel_rfl) R_DecodeOf.eq
abbrev qk65 : SD := .one (.ref 9 0)
def Law_CodeDistances.c4 {ρ : Type} (c0 : Int) (g0 : Int) (k_ : Bool → Option ρ) : Option ρ :=
  br (g0 == (0 : Int))
   (br (decide (c0 > (5 : Int)))
     (k_ (decide (c0 < (10 : Int))))
     (k_ false))
   (k_ false)
def Law_CodeDistances.c4s : Shape := ⟨[(0, qk0), (1, qk29), (2, qk2), (4, qk7), (5, qk32), (6, qk29), (7, qk33)], [(2, qk3), (5, qk3), (7, qk19)]⟩
def Law_CodeDistances.c4x0 : Shape := ⟨[(0, qk0), (1, qk29), (2, qk2), (4, qk7), (5, qk32), (6, qk29), (7, qk33), (30, qk7)], [(2, qk3), (5, qk3), (7, qk19)]⟩
def Law_CodeDistances.c4r : Ck := Ck.of (T := Bool) Law_CodeDistances.c4s (fun ρ x_ k_ => uP x_ fun c x_ => uP x_ fun syndrome x_ => uP x_ fun t4 x_ => uP x_ fun list x_ => uP x_ fun c0 x_ => uP x_ fun c1 x_ => uP x_ fun given0 x_ => uP x_ fun given1 x_ => uP x_ fun g0 x_ => uP x_ fun g1 x_ => Law_CodeDistances.c4 c0 g0 k_) (fun ρ x_ r_ k_ => uP x_ fun c x_ => uP x_ fun syndrome x_ => uP x_ fun t4 x_ => uP x_ fun list x_ => uP x_ fun c0 x_ => uP x_ fun c1 x_ => uP x_ fun given0 x_ => uP x_ fun given1 x_ => uP x_ fun g0 x_ => uP x_ fun g1 x_ => k_ 0 (Shape.inj Law_CodeDistances.c4x0 (c, syndrome, t4, list, r_, c0, c1, given0, given1, g0, g1, ())))
def Law_CodeDistances.c7 {ρ : Type} (c0 : Int) (g0 : Int) (k_ : Bool → Option ρ) : Option ρ :=
  br (g0 == (0 : Int))
   (k_ (decide (c0 > (9 : Int))))
   (k_ false)
def Law_CodeDistances.c7s : Shape := ⟨[(0, qk0), (1, qk29), (2, qk2), (4, qk7), (5, qk32), (6, qk29), (7, qk33), (8, qk5), (9, qk65)], [(2, qk3), (5, qk3), (7, qk19), (9, qk19)]⟩
def Law_CodeDistances.c7x0 : Shape := ⟨[(0, qk0), (1, qk29), (2, qk2), (4, qk7), (5, qk32), (6, qk29), (7, qk33), (8, qk5), (9, qk65), (44, qk7)], [(2, qk3), (5, qk3), (7, qk19), (9, qk19)]⟩
def Law_CodeDistances.c7r : Ck := Ck.of (T := Bool) Law_CodeDistances.c7s (fun ρ x_ k_ => uP x_ fun c x_ => uP x_ fun syndrome x_ => uP x_ fun t4 x_ => uP x_ fun list x_ => uP x_ fun d x_ => uP x_ fun c0 x_ => uP x_ fun c1 x_ => uP x_ fun given0 x_ => uP x_ fun given1 x_ => uP x_ fun g0 x_ => uP x_ fun g1 x_ => uP x_ fun f0 x_ => uP x_ fun f1 x_ => Law_CodeDistances.c7 c0 g0 k_) (fun ρ x_ r_ k_ => uP x_ fun c x_ => uP x_ fun syndrome x_ => uP x_ fun t4 x_ => uP x_ fun list x_ => uP x_ fun d x_ => uP x_ fun c0 x_ => uP x_ fun c1 x_ => uP x_ fun given0 x_ => uP x_ fun given1 x_ => uP x_ fun g0 x_ => uP x_ fun g1 x_ => uP x_ fun f0 x_ => uP x_ fun f1 x_ => k_ 0 (Shape.inj Law_CodeDistances.c7x0 (c, syndrome, t4, list, d, r_, c0, c1, given0, given1, g0, g1, f0, f1, ())))
def Law_CodeDistances.c228677 {ρ : Type} (c0 : Int) (g0 : Int) (g1 : Int) (k_ : (Int) × (Int) → Option ρ) : Option ρ :=
  bnd (W.Law_CodeDistances.c7 c0 g0 some) fun y =>
  br y
   (k_ ((21 : Int), (0 : Int)))
   (k_ (g0, g1))
def Law_CodeDistances.c228677s : Shape := ⟨[(0, qk0), (1, qk29), (2, qk2), (4, qk7), (5, qk32), (6, qk29), (7, qk33), (8, qk5), (9, qk65)], [(2, qk3), (5, qk3), (7, qk19), (9, qk19)]⟩
def Law_CodeDistances.c228677x0 : Shape := ⟨[(0, qk0), (1, qk29), (2, qk2), (4, qk7), (5, qk32), (6, qk29), (7, qk33), (8, qk5), (9, qk65)], [(2, qk3), (5, qk3), (7, qk19), (9, qk19)]⟩
def Law_CodeDistances.c228677r : Ck := Ck.of (T := (Int) × (Int)) Law_CodeDistances.c228677s (fun ρ x_ k_ => uP x_ fun c x_ => uP x_ fun syndrome x_ => uP x_ fun t4 x_ => uP x_ fun list x_ => uP x_ fun d x_ => uP x_ fun c0 x_ => uP x_ fun c1 x_ => uP x_ fun given0 x_ => uP x_ fun given1 x_ => uP x_ fun g0 x_ => uP x_ fun g1 x_ => uP x_ fun f0 x_ => uP x_ fun f1 x_ => Law_CodeDistances.c228677 c0 g0 g1 k_) (fun ρ x_ r_ k_ => uP x_ fun c x_ => uP x_ fun syndrome x_ => uP x_ fun t4 x_ => uP x_ fun list x_ => uP x_ fun d x_ => uP x_ fun c0 x_ => uP x_ fun c1 x_ => uP x_ fun given0 x_ => uP x_ fun given1 x_ => uP x_ fun g0 x_ => uP x_ fun g1 x_ => uP x_ fun f0 x_ => uP x_ fun f1 x_ => k_ 0 (Shape.inj Law_CodeDistances.c228677x0 (c, syndrome, t4, list, d, c0, c1, given0, given1, r_.1, r_.2, f0, f1, ())))
def Law_CodeDistances.c9 {ρ : Type} (d : Int) (c0 : Int) (c1 : List (List UInt8)) (g0 : Int) (g1 : Int) (f0 : Int) (f1 : Int) (k_ : Bool → Option ρ) : Option ρ :=
  bnd W.Law_codeBegun fun y =>
  br (!y)
   (k_ true)
   (br (!Ty.eqT (Ty.pair (Ty.int IntKind.i64) (Ty.int IntKind.i64)) (f0, f1) (g0, g1))
     (k_ true)
     (br (g0 != (0 : Int))
       (br (d != (0 : Int))
         (k_ true)
         (br (g0 == (0 : Int))
           (bnd (W.R_DistanceOf (c0, c1)) fun y_1 =>
            k_ (d != y_1))
           (k_ false)))
       (br (g0 == (0 : Int))
         (bnd (W.R_DistanceOf (c0, c1)) fun y_2 =>
          k_ (d != y_2))
         (k_ false))))
def Law_CodeDistances.c9s : Shape := ⟨[(0, qk0), (1, qk29), (2, qk2), (4, qk7), (5, qk32), (6, qk29), (7, qk33), (8, qk5), (9, qk65)], [(2, qk3), (5, qk3), (7, qk19), (9, qk19)]⟩
def Law_CodeDistances.c9x0 : Shape := ⟨[(0, qk0), (1, qk29), (2, qk2), (4, qk7), (5, qk32), (6, qk29), (7, qk33), (8, qk5), (9, qk65), (72, qk7)], [(2, qk3), (5, qk3), (7, qk19), (9, qk19)]⟩
def Law_CodeDistances.c9r : Ck := Ck.of (T := Bool) Law_CodeDistances.c9s (fun ρ x_ k_ => uP x_ fun c x_ => uP x_ fun syndrome x_ => uP x_ fun t4 x_ => uP x_ fun list x_ => uP x_ fun d x_ => uP x_ fun c0 x_ => uP x_ fun c1 x_ => uP x_ fun given0 x_ => uP x_ fun given1 x_ => uP x_ fun g0 x_ => uP x_ fun g1 x_ => uP x_ fun f0 x_ => uP x_ fun f1 x_ => Law_CodeDistances.c9 d c0 c1 g0 g1 f0 f1 k_) (fun ρ x_ r_ k_ => uP x_ fun c x_ => uP x_ fun syndrome x_ => uP x_ fun t4 x_ => uP x_ fun list x_ => uP x_ fun d x_ => uP x_ fun c0 x_ => uP x_ fun c1 x_ => uP x_ fun given0 x_ => uP x_ fun given1 x_ => uP x_ fun g0 x_ => uP x_ fun g1 x_ => uP x_ fun f0 x_ => uP x_ fun f1 x_ => k_ 0 (Shape.inj Law_CodeDistances.c9x0 (c, syndrome, t4, list, d, r_, c0, c1, given0, given1, g0, g1, f0, f1, ())))
def Law_CodeDistances.c12 {ρ : Type} (syndrome : List (Int)) (c1 : List (List UInt8)) (g0 : Int) (k_ : Bool → Option ρ) : Option ρ :=
  br (g0 == (0 : Int))
   (k_ ((↑(List.length syndrome) : Int) != (↑(List.length c1) : Int)))
   (k_ false)
def Law_CodeDistances.c12s : Shape := ⟨[(0, qk0), (1, qk29), (2, qk2), (4, qk7), (5, qk32), (6, qk29), (7, qk33), (8, qk5), (9, qk65), (10, qk4)], [(2, qk3), (5, qk3), (7, qk19), (9, qk19)]⟩
def Law_CodeDistances.c12x0 : Shape := ⟨[(0, qk0), (1, qk29), (2, qk2), (4, qk7), (5, qk32), (6, qk29), (7, qk33), (8, qk5), (9, qk65), (10, qk4), (89, qk7)], [(2, qk3), (5, qk3), (7, qk19), (9, qk19)]⟩
def Law_CodeDistances.c12r : Ck := Ck.of (T := Bool) Law_CodeDistances.c12s (fun ρ x_ k_ => uP x_ fun c x_ => uP x_ fun syndrome x_ => uP x_ fun t4 x_ => uP x_ fun list x_ => uP x_ fun d x_ => uP x_ fun e x_ => uP x_ fun c0 x_ => uP x_ fun c1 x_ => uP x_ fun given0 x_ => uP x_ fun given1 x_ => uP x_ fun g0 x_ => uP x_ fun g1 x_ => uP x_ fun f0 x_ => uP x_ fun f1 x_ => Law_CodeDistances.c12 syndrome c1 g0 k_) (fun ρ x_ r_ k_ => uP x_ fun c x_ => uP x_ fun syndrome x_ => uP x_ fun t4 x_ => uP x_ fun list x_ => uP x_ fun d x_ => uP x_ fun e x_ => uP x_ fun c0 x_ => uP x_ fun c1 x_ => uP x_ fun given0 x_ => uP x_ fun given1 x_ => uP x_ fun g0 x_ => uP x_ fun g1 x_ => uP x_ fun f0 x_ => uP x_ fun f1 x_ => k_ 0 (Shape.inj Law_CodeDistances.c12x0 (c, syndrome, t4, list, d, e, r_, c0, c1, given0, given1, g0, g1, f0, f1, ())))
def Law_CodeDistances.c249157 {ρ : Type} (syndrome : List (Int)) (c1 : List (List UInt8)) (g0 : Int) (g1 : Int) (k_ : (Int) × (Int) → Option ρ) : Option ρ :=
  bnd (W.Law_CodeDistances.c12 syndrome c1 g0 some) fun y =>
  br y
   (k_ ((25 : Int), (0 : Int)))
   (k_ (g0, g1))
def Law_CodeDistances.c249157s : Shape := ⟨[(0, qk0), (1, qk29), (2, qk2), (4, qk7), (5, qk32), (6, qk29), (7, qk33), (8, qk5), (9, qk65), (10, qk4)], [(2, qk3), (5, qk3), (7, qk19), (9, qk19)]⟩
def Law_CodeDistances.c249157x0 : Shape := ⟨[(0, qk0), (1, qk29), (2, qk2), (4, qk7), (5, qk32), (6, qk29), (7, qk33), (8, qk5), (9, qk65), (10, qk4)], [(2, qk3), (5, qk3), (7, qk19), (9, qk19)]⟩
def Law_CodeDistances.c249157r : Ck := Ck.of (T := (Int) × (Int)) Law_CodeDistances.c249157s (fun ρ x_ k_ => uP x_ fun c x_ => uP x_ fun syndrome x_ => uP x_ fun t4 x_ => uP x_ fun list x_ => uP x_ fun d x_ => uP x_ fun e x_ => uP x_ fun c0 x_ => uP x_ fun c1 x_ => uP x_ fun given0 x_ => uP x_ fun given1 x_ => uP x_ fun g0 x_ => uP x_ fun g1 x_ => uP x_ fun f0 x_ => uP x_ fun f1 x_ => Law_CodeDistances.c249157 syndrome c1 g0 g1 k_) (fun ρ x_ r_ k_ => uP x_ fun c x_ => uP x_ fun syndrome x_ => uP x_ fun t4 x_ => uP x_ fun list x_ => uP x_ fun d x_ => uP x_ fun e x_ => uP x_ fun c0 x_ => uP x_ fun c1 x_ => uP x_ fun given0 x_ => uP x_ fun given1 x_ => uP x_ fun g0 x_ => uP x_ fun g1 x_ => uP x_ fun f0 x_ => uP x_ fun f1 x_ => k_ 0 (Shape.inj Law_CodeDistances.c249157x0 (c, syndrome, t4, list, d, e, c0, c1, given0, given1, r_.1, r_.2, f0, f1, ())))
def Law_CodeDistances.c15 {ρ : Type} (syndrome : List (Int)) (i : Int) (g0 : Int) (k_ : Bool → Option ρ) : Option ρ :=
  br (decide (i < (↑(List.length syndrome) : Int)))
   (k_ (g0 == (0 : Int)))
   (k_ false)
def Law_CodeDistances.c15s : Shape := ⟨[(0, qk0), (1, qk29), (2, qk2), (4, qk7), (5, qk32), (6, qk29), (7, qk33), (8, qk5), (9, qk65), (10, qk4), (11, qk5)], [(2, qk3), (5, qk3), (7, qk19), (9, qk19)]⟩
def Law_CodeDistances.c15x0 : Shape := ⟨[(0, qk0), (1, qk29), (2, qk2), (4, qk7), (5, qk32), (6, qk29), (7, qk33), (8, qk5), (9, qk65), (10, qk4), (11, qk5), (99, qk7)], [(2, qk3), (5, qk3), (7, qk19), (9, qk19)]⟩
def Law_CodeDistances.c15r : Ck := Ck.of (T := Bool) Law_CodeDistances.c15s (fun ρ x_ k_ => uP x_ fun c x_ => uP x_ fun syndrome x_ => uP x_ fun t4 x_ => uP x_ fun list x_ => uP x_ fun d x_ => uP x_ fun e x_ => uP x_ fun i x_ => uP x_ fun c0 x_ => uP x_ fun c1 x_ => uP x_ fun given0 x_ => uP x_ fun given1 x_ => uP x_ fun g0 x_ => uP x_ fun g1 x_ => uP x_ fun f0 x_ => uP x_ fun f1 x_ => Law_CodeDistances.c15 syndrome i g0 k_) (fun ρ x_ r_ k_ => uP x_ fun c x_ => uP x_ fun syndrome x_ => uP x_ fun t4 x_ => uP x_ fun list x_ => uP x_ fun d x_ => uP x_ fun e x_ => uP x_ fun i x_ => uP x_ fun c0 x_ => uP x_ fun c1 x_ => uP x_ fun given0 x_ => uP x_ fun given1 x_ => uP x_ fun g0 x_ => uP x_ fun g1 x_ => uP x_ fun f0 x_ => uP x_ fun f1 x_ => k_ 0 (Shape.inj Law_CodeDistances.c15x0 (c, syndrome, t4, list, d, e, i, r_, c0, c1, given0, given1, g0, g1, f0, f1, ())))
def Law_CodeDistances.c17 {ρ : Type} (syndrome : List (Int)) (i : Int) (k_ : Bool → Option ρ) : Option ρ :=
  bnd (idx syndrome i) fun y =>
  br (y != (0 : Int))
   (bnd (idx syndrome i) fun y_1 =>
    k_ (y_1 != (1 : Int)))
   (k_ false)
def Law_CodeDistances.c17s : Shape := ⟨[(0, qk0), (1, qk29), (2, qk2), (4, qk7), (5, qk32), (6, qk29), (7, qk33), (8, qk5), (9, qk65), (10, qk4), (11, qk5)], [(2, qk3), (5, qk3), (7, qk19), (9, qk19)]⟩
def Law_CodeDistances.c17x0 : Shape := ⟨[(0, qk0), (1, qk29), (2, qk2), (4, qk7), (5, qk32), (6, qk29), (7, qk33), (8, qk5), (9, qk65), (10, qk4), (11, qk5), (113, qk7)], [(2, qk3), (5, qk3), (7, qk19), (9, qk19)]⟩
def Law_CodeDistances.c17r : Ck := Ck.of (T := Bool) Law_CodeDistances.c17s (fun ρ x_ k_ => uP x_ fun c x_ => uP x_ fun syndrome x_ => uP x_ fun t4 x_ => uP x_ fun list x_ => uP x_ fun d x_ => uP x_ fun e x_ => uP x_ fun i x_ => uP x_ fun c0 x_ => uP x_ fun c1 x_ => uP x_ fun given0 x_ => uP x_ fun given1 x_ => uP x_ fun g0 x_ => uP x_ fun g1 x_ => uP x_ fun f0 x_ => uP x_ fun f1 x_ => Law_CodeDistances.c17 syndrome i k_) (fun ρ x_ r_ k_ => uP x_ fun c x_ => uP x_ fun syndrome x_ => uP x_ fun t4 x_ => uP x_ fun list x_ => uP x_ fun d x_ => uP x_ fun e x_ => uP x_ fun i x_ => uP x_ fun c0 x_ => uP x_ fun c1 x_ => uP x_ fun given0 x_ => uP x_ fun given1 x_ => uP x_ fun g0 x_ => uP x_ fun g1 x_ => uP x_ fun f0 x_ => uP x_ fun f1 x_ => k_ 0 (Shape.inj Law_CodeDistances.c17x0 (c, syndrome, t4, list, d, e, i, r_, c0, c1, given0, given1, g0, g1, f0, f1, ())))
def Law_CodeDistances.c269638 {ρ : Type} (syndrome : List (Int)) (i : Int) (g0 : Int) (g1 : Int) (k_ : (Int) × (Int) → Option ρ) : Option ρ :=
  bnd (W.Law_CodeDistances.c17 syndrome i some) fun y =>
  br y
   (k_ ((20 : Int), i))
   (k_ (g0, g1))
def Law_CodeDistances.c269638s : Shape := ⟨[(0, qk0), (1, qk29), (2, qk2), (4, qk7), (5, qk32), (6, qk29), (7, qk33), (8, qk5), (9, qk65), (10, qk4), (11, qk5)], [(2, qk3), (5, qk3), (7, qk19), (9, qk19)]⟩
def Law_CodeDistances.c269638x0 : Shape := ⟨[(0, qk0), (1, qk29), (2, qk2), (4, qk7), (5, qk32), (6, qk29), (7, qk33), (8, qk5), (9, qk65), (10, qk4), (11, qk5)], [(2, qk3), (5, qk3), (7, qk19), (9, qk19)]⟩
def Law_CodeDistances.c269638r : Ck := Ck.of (T := (Int) × (Int)) Law_CodeDistances.c269638s (fun ρ x_ k_ => uP x_ fun c x_ => uP x_ fun syndrome x_ => uP x_ fun t4 x_ => uP x_ fun list x_ => uP x_ fun d x_ => uP x_ fun e x_ => uP x_ fun i x_ => uP x_ fun c0 x_ => uP x_ fun c1 x_ => uP x_ fun given0 x_ => uP x_ fun given1 x_ => uP x_ fun g0 x_ => uP x_ fun g1 x_ => uP x_ fun f0 x_ => uP x_ fun f1 x_ => Law_CodeDistances.c269638 syndrome i g0 g1 k_) (fun ρ x_ r_ k_ => uP x_ fun c x_ => uP x_ fun syndrome x_ => uP x_ fun t4 x_ => uP x_ fun list x_ => uP x_ fun d x_ => uP x_ fun e x_ => uP x_ fun i x_ => uP x_ fun c0 x_ => uP x_ fun c1 x_ => uP x_ fun given0 x_ => uP x_ fun given1 x_ => uP x_ fun g0 x_ => uP x_ fun g1 x_ => uP x_ fun f0 x_ => uP x_ fun f1 x_ => k_ 0 (Shape.inj Law_CodeDistances.c269638x0 (c, syndrome, t4, list, d, e, i, c0, c1, given0, given1, r_.1, r_.2, f0, f1, ())))
def Law_CodeDistances.c100015 {ρ : Type} (syndrome : List (Int)) (i : Int) (g0 : Int) (g1 : Int) (k_ : ((Int) × (Int) × (Int)) ⊕ ((Int) × (Int) × (Int)) → Option ρ) : Option ρ :=
  bnd (W.Law_CodeDistances.c15 syndrome i g0 some) fun y =>
  br y
   (bnd (W.Law_CodeDistances.c269638 syndrome i g0 g1 some) fun y_1 =>
    k_ (.inl ((IntKind.wrap IntKind.i64 (i + (1 : Int))), (Prod.fst y_1), (Prod.snd y_1))))
   (k_ (.inr (i, g0, g1)))
def Law_CodeDistances.c100015s : Shape := ⟨[(0, qk0), (1, qk29), (2, qk2), (4, qk7), (5, qk32), (6, qk29), (7, qk33), (8, qk5), (9, qk65), (10, qk4), (11, qk5)], [(2, qk3), (5, qk3), (7, qk19), (9, qk19)]⟩
def Law_CodeDistances.c100015x0 : Shape := ⟨[(0, qk0), (1, qk29), (2, qk2), (4, qk7), (5, qk32), (6, qk29), (7, qk33), (8, qk5), (9, qk65), (10, qk4), (11, qk5)], [(2, qk3), (5, qk3), (7, qk19), (9, qk19)]⟩
def Law_CodeDistances.c100015r : Ck := Ck.ofLoop (S := (Int) × (Int) × (Int)) (T := (Int) × (Int) × (Int)) Law_CodeDistances.c100015s (fun x_ => uP x_ fun c x_ => uP x_ fun syndrome x_ => uP x_ fun t4 x_ => uP x_ fun list x_ => uP x_ fun d x_ => uP x_ fun e x_ => uP x_ fun i x_ => uP x_ fun c0 x_ => uP x_ fun c1 x_ => uP x_ fun given0 x_ => uP x_ fun given1 x_ => uP x_ fun g0 x_ => uP x_ fun g1 x_ => uP x_ fun f0 x_ => uP x_ fun f1 x_ => (i, g0, g1)) (fun ρ x_ s_ k_ => uP x_ fun c x_ => uP x_ fun syndrome x_ => uP x_ fun t4 x_ => uP x_ fun list x_ => uP x_ fun d x_ => uP x_ fun e x_ => uP x_ fun i x_ => uP x_ fun c0 x_ => uP x_ fun c1 x_ => uP x_ fun given0 x_ => uP x_ fun given1 x_ => uP x_ fun g0 x_ => uP x_ fun g1 x_ => uP x_ fun f0 x_ => uP x_ fun f1 x_ => Law_CodeDistances.c100015 syndrome s_.1 s_.2.1 s_.2.2 k_) (fun ρ x_ r_ k_ => uP x_ fun c x_ => uP x_ fun syndrome x_ => uP x_ fun t4 x_ => uP x_ fun list x_ => uP x_ fun d x_ => uP x_ fun e x_ => uP x_ fun i x_ => uP x_ fun c0 x_ => uP x_ fun c1 x_ => uP x_ fun given0 x_ => uP x_ fun given1 x_ => uP x_ fun g0 x_ => uP x_ fun g1 x_ => uP x_ fun f0 x_ => uP x_ fun f1 x_ => k_ 2 (Shape.inj Law_CodeDistances.c100015x0 (c, syndrome, t4, list, d, e, r_.1, c0, c1, given0, given1, r_.2.1, r_.2.2, f0, f1, ())))
def Law_CodeDistances.c19 {ρ : Type} (syndrome : List (Int)) (list : List (Int)) (c0 : Int) (c1 : List (List UInt8)) (given0 : Int) (given1 : List (List UInt8)) (g0 : Int) (g1 : Int) (f0 : Int) (f1 : Int) (k_ : Bool → Option ρ) : Option ρ :=
  br (!Ty.eqT (Ty.pair (Ty.int IntKind.i64) (Ty.int IntKind.i64)) (f0, f1) (g0, g1))
   (k_ true)
   (bnd (W.Law_sameCode (given0, given1) (c0, c1)) fun y =>
    br (!y)
     (k_ true)
     (bnd (W.R_SameInts list syndrome) fun y_1 =>
      k_ (!y_1)))
def Law_CodeDistances.c19s : Shape := ⟨[(0, qk0), (1, qk29), (2, qk2), (4, qk7), (5, qk32), (6, qk29), (7, qk33), (8, qk5), (9, qk65), (10, qk4), (11, qk5)], [(2, qk3), (5, qk3), (7, qk19), (9, qk19)]⟩
def Law_CodeDistances.c19x0 : Shape := ⟨[(0, qk0), (1, qk29), (2, qk2), (4, qk7), (5, qk32), (6, qk29), (7, qk33), (8, qk5), (9, qk65), (10, qk4), (11, qk5), (130, qk7)], [(2, qk3), (5, qk3), (7, qk19), (9, qk19)]⟩
def Law_CodeDistances.c19r : Ck := Ck.of (T := Bool) Law_CodeDistances.c19s (fun ρ x_ k_ => uP x_ fun c x_ => uP x_ fun syndrome x_ => uP x_ fun t4 x_ => uP x_ fun list x_ => uP x_ fun d x_ => uP x_ fun e x_ => uP x_ fun i x_ => uP x_ fun c0 x_ => uP x_ fun c1 x_ => uP x_ fun given0 x_ => uP x_ fun given1 x_ => uP x_ fun g0 x_ => uP x_ fun g1 x_ => uP x_ fun f0 x_ => uP x_ fun f1 x_ => Law_CodeDistances.c19 syndrome list c0 c1 given0 given1 g0 g1 f0 f1 k_) (fun ρ x_ r_ k_ => uP x_ fun c x_ => uP x_ fun syndrome x_ => uP x_ fun t4 x_ => uP x_ fun list x_ => uP x_ fun d x_ => uP x_ fun e x_ => uP x_ fun i x_ => uP x_ fun c0 x_ => uP x_ fun c1 x_ => uP x_ fun given0 x_ => uP x_ fun given1 x_ => uP x_ fun g0 x_ => uP x_ fun g1 x_ => uP x_ fun f0 x_ => uP x_ fun f1 x_ => k_ 0 (Shape.inj Law_CodeDistances.c19x0 (c, syndrome, t4, list, d, e, i, r_, c0, c1, given0, given1, g0, g1, f0, f1, ())))
def Law_CodeDistances.c23 {ρ : Type} (syndrome : List (Int)) (e : List UInt8) (c0 : Int) (c1 : List (List UInt8)) (k_ : Bool → Option ρ) : Option ρ :=
  bnd (W.R_Errors c0) fun y =>
  bnd (W.R_DecodeOf (c0, c1) syndrome y) fun y_1 =>
  bnd (okIf (decide (List.length (Array.toList (ByteArray.data (ByteArray.mk #[(43 : UInt8)]))) + List.length y_1 ≤ (9223372036854775807 : Nat)))) fun y_2 =>
  k_ (e == Array.toList (ByteArray.data (ByteArray.mk #[(43 : UInt8)])) ++ y_1)
def Law_CodeDistances.c23s : Shape := ⟨[(0, qk0), (1, qk29), (2, qk2), (4, qk7), (5, qk32), (6, qk29), (7, qk33), (8, qk5), (9, qk65), (10, qk4), (11, qk5)], [(2, qk3), (5, qk3), (7, qk19), (9, qk19)]⟩
def Law_CodeDistances.c23x0 : Shape := ⟨[(0, qk0), (1, qk29), (2, qk2), (4, qk7), (5, qk32), (6, qk29), (7, qk33), (8, qk5), (9, qk65), (10, qk4), (11, qk5)], [(2, qk3), (5, qk3), (7, qk19), (9, qk19)]⟩
def Law_CodeDistances.c23r : Ck := Ck.of (T := Bool) Law_CodeDistances.c23s (fun ρ x_ k_ => uP x_ fun c x_ => uP x_ fun syndrome x_ => uP x_ fun t4 x_ => uP x_ fun list x_ => uP x_ fun d x_ => uP x_ fun e x_ => uP x_ fun i x_ => uP x_ fun c0 x_ => uP x_ fun c1 x_ => uP x_ fun given0 x_ => uP x_ fun given1 x_ => uP x_ fun g0 x_ => uP x_ fun g1 x_ => uP x_ fun f0 x_ => uP x_ fun f1 x_ => Law_CodeDistances.c23 syndrome e c0 c1 k_) (fun ρ x_ r_ k_ => uP x_ fun c x_ => uP x_ fun syndrome x_ => uP x_ fun t4 x_ => uP x_ fun list x_ => uP x_ fun d x_ => uP x_ fun e x_ => uP x_ fun i x_ => uP x_ fun c0 x_ => uP x_ fun c1 x_ => uP x_ fun given0 x_ => uP x_ fun given1 x_ => uP x_ fun g0 x_ => uP x_ fun g1 x_ => uP x_ fun f0 x_ => uP x_ fun f1 x_ => k_ 0 (Shape.inj Law_CodeDistances.c23x0 (c, syndrome, r_, list, d, e, i, c0, c1, given0, given1, g0, g1, f0, f1, ())))
def Law_CodeDistances (c : (Int) × (List (List UInt8))) (syndrome : List (Int)) : Option (Bool) :=
  bnd (W.Law_copyCode (Prod.fst c, Prod.snd c)) fun y =>
  bnd (okIf (decide (((0 : Nat) + List.length syndrome) * (8 : Nat) ≤ (140737488355328 : Nat)) && decide ((0 : Nat) + List.length syndrome ≤ (140737488355328 : Nat)))) fun y_1 =>
  bnd (W.R_CheckCode (Prod.fst c, Prod.snd c)) fun y_2 =>
  bnd (W.Law_CodeDistances.c4 (Prod.fst c) (Prod.fst y_2) some) fun y_3 =>
  br y_3
   (bnd W.Law_codeBegun fun y_4 =>
    some y_4)
   (bnd (W.code_Distance (Prod.fst y, Prod.snd y)) fun y_5 =>
    bnd (W.Law_CodeDistances.c228677 (Prod.fst c) (Prod.fst y_2) (Prod.snd y_2) some) fun y_6 =>
    bnd (W.Law_CodeDistances.c9 (Prod.fst y_5) (Prod.fst c) (Prod.snd c) (Prod.fst y_6) (Prod.snd y_6) (Prod.fst (Prod.snd y_5)) (Prod.snd (Prod.snd y_5)) some) fun y_7 =>
    br y_7
     (some false)
     (bnd (W.code_Decode (Prod.fst y, Prod.snd y) syndrome) fun y_8 =>
      bnd (W.Law_CodeDistances.c249157 syndrome (Prod.snd c) (Prod.fst y_6) (Prod.snd y_6) some) fun y_9 =>
      bnd (iter (fun s ↦ W.Law_CodeDistances.c100015 syndrome (Prod.fst s) (Prod.fst (Prod.snd s)) (Prod.snd (Prod.snd s)) some) ((0 : Int), Prod.fst y_9, Prod.snd y_9)) fun y_10 =>
      bnd (W.Law_CodeDistances.c19 syndrome syndrome (Prod.fst c) (Prod.snd c) (Prod.fst y) (Prod.snd y) (Prod.fst (Prod.snd y_10)) (Prod.snd (Prod.snd y_10)) (Prod.fst (Prod.snd y_8)) (Prod.snd (Prod.snd y_8)) some) fun y_11 =>
      br y_11
       (some false)
       (br (Prod.fst (Prod.snd y_10) != (0 : Int))
         (some (Prod.fst y_8 == Array.toList (ByteArray.data (ByteArray.mk #[]))))
         (bnd (W.Law_CodeDistances.c23 syndrome (Prod.fst y_8) (Prod.fst c) (Prod.snd c) some) fun y_12 =>
          some y_12))))
def Law_CodeDistances.ce : Go.Ql.Callee := ⟨[(.st (.pair (.int .i64) (.sl .str))), (.sl (.int .i64))], [.bool], fun x_ => Law_CodeDistances x_.1 x_.2⟩
def Law_CodeDistances.G : Env := ⟨145, tab, [(7, Law_copyCode.ce), (9, R_CheckCode.ce), (10, Law_codeBegun.ce), (16, code_Distance.ce), (17, R_DistanceOf.ce), (18, code_Decode.ce), (11, Law_sameCode.ce), (14, R_SameInts.ce), (20, R_Errors.ce), (19, R_DecodeOf.ce)], [0, 1, 2, 4, 5, 6, 7, 8, 9, 10, 11, 30, 44, 72, 89, 99, 113, 130, 133], [], [(23, [⟨[], [], [137, 138, 139, 140, 141, 142, 143], []⟩, ⟨[], [], [136, 138, 139, 140, 141], []⟩, ⟨[], [], [136, 137, 139, 140, 141], []⟩, ⟨[], [], [136, 137, 138], []⟩, ⟨[3], [], [136, 137, 138], []⟩, ⟨[4, 3], [], [136, 137, 138], []⟩, ⟨[1, 2, 5, 4, 3], [], [136], []⟩, ⟨[6, 1, 2, 5, 4, 3], [], [136], []⟩, ⟨[0, 7, 6, 1, 2, 5, 4, 3], [], [], []⟩, ⟨[8, 0, 7, 6, 1, 2, 5, 4, 3], [], [], []⟩])], [(23, Law_CodeDistances.c23r), (19, Law_CodeDistances.c19r), (100015, Law_CodeDistances.c100015r), (269638, Law_CodeDistances.c269638r), (17, Law_CodeDistances.c17r), (15, Law_CodeDistances.c15r), (249157, Law_CodeDistances.c249157r), (12, Law_CodeDistances.c12r), (9, Law_CodeDistances.c9r), (228677, Law_CodeDistances.c228677r), (7, Law_CodeDistances.c7r), (4, Law_CodeDistances.c4r)], [], tab_eqs⟩
theorem Law_CodeDistances.eq (x_ : dens [(.st (.pair (.int .i64) (.sl .str))), (.sl (.int .i64))]) : den Law_CodeDistances.G Go.Proofs.Try.f4 [(.st (.pair (.int .i64) (.sl .str))), (.sl (.int .i64))] [.bool] x_ = Law_CodeDistances x_.1 x_.2 := by kernel_rfl
theorem Law_CodeDistances.p0 : PieceOk Law_CodeDistances.G (pieceAt (pieces Law_CodeDistances.G.cks (bodyOf Go.Proofs.Try.f4)) 0).1 (pieceAt (pieces Law_CodeDistances.G.cks (bodyOf Go.Proofs.Try.f4)) 0).2 :=
  region_ok (s := Law_CodeDistances.c4r) (by kernel_rfl) (by kernel_rfl) (sums_of (sh := Law_CodeDistances.c4s) (fun ρ x_ k_ => (nat_br (nat_br nat_leaf nat_leaf) nat_leaf)) (fun ρ x_ t k => (by kernel_rfl)) (fun x_ => by kernel_rfl))
theorem Law_CodeDistances.p1 : PieceOk Law_CodeDistances.G (pieceAt (pieces Law_CodeDistances.G.cks (bodyOf Go.Proofs.Try.f4)) 1).1 (pieceAt (pieces Law_CodeDistances.G.cks (bodyOf Go.Proofs.Try.f4)) 1).2 :=
  join_ok (s := Law_CodeDistances.c228677r) (by kernel_rfl) (by kernel_rfl) (sums_of (sh := Law_CodeDistances.c228677s) (fun ρ x_ k_ => (nat_bnd fun _ => (nat_br nat_leaf nat_leaf))) (fun ρ x_ t k => (by kernel_rfl)) (fun x_ => by kernel_rfl))
theorem Law_CodeDistances.p2 : PieceOk Law_CodeDistances.G (pieceAt (pieces Law_CodeDistances.G.cks (bodyOf Go.Proofs.Try.f4)) 2).1 (pieceAt (pieces Law_CodeDistances.G.cks (bodyOf Go.Proofs.Try.f4)) 2).2 :=
  region_ok (s := Law_CodeDistances.c7r) (by kernel_rfl) (by kernel_rfl) (sums_of (sh := Law_CodeDistances.c7s) (fun ρ x_ k_ => (nat_br nat_leaf nat_leaf)) (fun ρ x_ t k => (by kernel_rfl)) (fun x_ => by kernel_rfl))
theorem Law_CodeDistances.p3 : PieceOk Law_CodeDistances.G (pieceAt (pieces Law_CodeDistances.G.cks (bodyOf Go.Proofs.Try.f4)) 3).1 (pieceAt (pieces Law_CodeDistances.G.cks (bodyOf Go.Proofs.Try.f4)) 3).2 :=
  region_ok (s := Law_CodeDistances.c9r) (by kernel_rfl) (by kernel_rfl) (sums_of (sh := Law_CodeDistances.c9s) (fun ρ x_ k_ => (nat_bnd fun _ => (nat_br nat_leaf (nat_br nat_leaf (nat_br (nat_br nat_leaf (nat_br (nat_bnd fun _ => nat_leaf) nat_leaf)) (nat_br (nat_bnd fun _ => nat_leaf) nat_leaf)))))) (fun ρ x_ t k => (by kernel_rfl)) (fun x_ => by kernel_rfl))
theorem Law_CodeDistances.p4 : PieceOk Law_CodeDistances.G (pieceAt (pieces Law_CodeDistances.G.cks (bodyOf Go.Proofs.Try.f4)) 4).1 (pieceAt (pieces Law_CodeDistances.G.cks (bodyOf Go.Proofs.Try.f4)) 4).2 :=
  join_ok (s := Law_CodeDistances.c249157r) (by kernel_rfl) (by kernel_rfl) (sums_of (sh := Law_CodeDistances.c249157s) (fun ρ x_ k_ => (nat_bnd fun _ => (nat_br nat_leaf nat_leaf))) (fun ρ x_ t k => (by kernel_rfl)) (fun x_ => by kernel_rfl))
theorem Law_CodeDistances.p5 : PieceOk Law_CodeDistances.G (pieceAt (pieces Law_CodeDistances.G.cks (bodyOf Go.Proofs.Try.f4)) 5).1 (pieceAt (pieces Law_CodeDistances.G.cks (bodyOf Go.Proofs.Try.f4)) 5).2 :=
  region_ok (s := Law_CodeDistances.c12r) (by kernel_rfl) (by kernel_rfl) (sums_of (sh := Law_CodeDistances.c12s) (fun ρ x_ k_ => (nat_br nat_leaf nat_leaf)) (fun ρ x_ t k => (by kernel_rfl)) (fun x_ => by kernel_rfl))
theorem Law_CodeDistances.p6 : PieceOk Law_CodeDistances.G (pieceAt (pieces Law_CodeDistances.G.cks (bodyOf Go.Proofs.Try.f4)) 6).1 (pieceAt (pieces Law_CodeDistances.G.cks (bodyOf Go.Proofs.Try.f4)) 6).2 :=
  loop_ok (s := Law_CodeDistances.c100015r) (by kernel_rfl) (by kernel_rfl) (loops_of (sh := Law_CodeDistances.c100015s) (I := fun x_ s_ => (x_.1, x_.2.1, x_.2.2.1, x_.2.2.2.1, x_.2.2.2.2.1, x_.2.2.2.2.2.1, s_.1, x_.2.2.2.2.2.2.2.1, x_.2.2.2.2.2.2.2.2.1, x_.2.2.2.2.2.2.2.2.2.1, x_.2.2.2.2.2.2.2.2.2.2.1, s_.2.1, s_.2.2, x_.2.2.2.2.2.2.2.2.2.2.2.2.2.1, x_.2.2.2.2.2.2.2.2.2.2.2.2.2.2.1, ())) (fun x_ => rfl) (fun ρ x_ s_ k_ => (nat_bnd fun _ => (nat_br (nat_bnd fun _ => nat_leaf) nat_leaf))) (fun ρ x_ t k => (by kernel_rfl)) (fun x_ s => by kernel_rfl))
theorem Law_CodeDistances.p7 : PieceOk Law_CodeDistances.G (pieceAt (pieces Law_CodeDistances.G.cks (bodyOf Go.Proofs.Try.f4)) 7).1 (pieceAt (pieces Law_CodeDistances.G.cks (bodyOf Go.Proofs.Try.f4)) 7).2 :=
  region_ok (s := Law_CodeDistances.c15r) (by kernel_rfl) (by kernel_rfl) (sums_of (sh := Law_CodeDistances.c15s) (fun ρ x_ k_ => (nat_br nat_leaf nat_leaf)) (fun ρ x_ t k => (by kernel_rfl)) (fun x_ => by kernel_rfl))
theorem Law_CodeDistances.p8 : PieceOk Law_CodeDistances.G (pieceAt (pieces Law_CodeDistances.G.cks (bodyOf Go.Proofs.Try.f4)) 8).1 (pieceAt (pieces Law_CodeDistances.G.cks (bodyOf Go.Proofs.Try.f4)) 8).2 :=
  join_ok (s := Law_CodeDistances.c269638r) (by kernel_rfl) (by kernel_rfl) (sums_of (sh := Law_CodeDistances.c269638s) (fun ρ x_ k_ => (nat_bnd fun _ => (nat_br nat_leaf nat_leaf))) (fun ρ x_ t k => (by kernel_rfl)) (fun x_ => by kernel_rfl))
theorem Law_CodeDistances.p9 : PieceOk Law_CodeDistances.G (pieceAt (pieces Law_CodeDistances.G.cks (bodyOf Go.Proofs.Try.f4)) 9).1 (pieceAt (pieces Law_CodeDistances.G.cks (bodyOf Go.Proofs.Try.f4)) 9).2 :=
  region_ok (s := Law_CodeDistances.c17r) (by kernel_rfl) (by kernel_rfl) (sums_of (sh := Law_CodeDistances.c17s) (fun ρ x_ k_ => (nat_bnd fun _ => (nat_br (nat_bnd fun _ => nat_leaf) nat_leaf))) (fun ρ x_ t k => (by kernel_rfl)) (fun x_ => by kernel_rfl))
theorem Law_CodeDistances.p10 : PieceOk Law_CodeDistances.G (pieceAt (pieces Law_CodeDistances.G.cks (bodyOf Go.Proofs.Try.f4)) 10).1 (pieceAt (pieces Law_CodeDistances.G.cks (bodyOf Go.Proofs.Try.f4)) 10).2 :=
  region_ok (s := Law_CodeDistances.c19r) (by kernel_rfl) (by kernel_rfl) (sums_of (sh := Law_CodeDistances.c19s) (fun ρ x_ k_ => (nat_br nat_leaf (nat_bnd fun _ => (nat_br nat_leaf (nat_bnd fun _ => nat_leaf))))) (fun ρ x_ t k => (by kernel_rfl)) (fun x_ => by kernel_rfl))
theorem Law_CodeDistances.p11 : PieceOk Law_CodeDistances.G (pieceAt (pieces Law_CodeDistances.G.cks (bodyOf Go.Proofs.Try.f4)) 11).1 (pieceAt (pieces Law_CodeDistances.G.cks (bodyOf Go.Proofs.Try.f4)) 11).2 :=
  region_ok (s := Law_CodeDistances.c23r) (by kernel_rfl) (by kernel_rfl) (sums_of (sh := Law_CodeDistances.c23s) (fun ρ x_ k_ => (nat_bnd fun _ => (nat_bnd fun _ => (nat_bnd fun _ => nat_leaf)))) (fun ρ x_ t k => (by kernel_rfl)) (fun x_ => by kernel_rfl))
theorem Law_CodeDistances.ok : CalleeOk Go.Proofs.Try.prog 4 Law_CodeDistances.ce := fn_ok (G := Law_CodeDistances.G) tab_ok mixed Go.Proofs.Try.func4 ⟨(fns_cons Law_copyCode.ok (fns_cons R_CheckCode.ok (fns_cons Law_codeBegun.ok (fns_cons code_Distance.ok (fns_cons R_DistanceOf.ok (fns_cons code_Decode.ok (fns_cons Law_sameCode.ok (fns_cons R_SameInts.ok (fns_cons R_Errors.ok (fns_cons R_DecodeOf.ok fns_nil)))))))))), mfns_nil, tab_eqs_ok⟩ (m := 12) (by kernel_rfl) ⟨⟨⟨⟨⟨⟨⟨⟨⟨⟨⟨⟨trivial, Law_CodeDistances.p0⟩, Law_CodeDistances.p1⟩, Law_CodeDistances.p2⟩, Law_CodeDistances.p3⟩, Law_CodeDistances.p4⟩, Law_CodeDistances.p5⟩, Law_CodeDistances.p6⟩, Law_CodeDistances.p7⟩, Law_CodeDistances.p8⟩, Law_CodeDistances.p9⟩, Law_CodeDistances.p10⟩, Law_CodeDistances.p11⟩ (by kernel_rfl) Law_CodeDistances.eq
def R_Mended (c : (Int) × (List (List UInt8))) (a : List UInt8) (b : List UInt8) : Option (Bool) :=
  bnd (W.R_bare (Prod.snd c)) fun y =>
  bnd (W.R_Group y) fun y_1 =>
  bnd (W.R_lettersTimes a b) fun y_2 =>
  bnd (W.R_InGroup y_1 y_2) fun y_3 =>
  some y_3
def R_Mended.ce : Go.Ql.Callee := ⟨[(.st (.pair (.int .i64) (.sl .str))), .str, .str], [.bool], fun x_ => R_Mended x_.1 x_.2.1 x_.2.2⟩
def R_Mended.G : Env := ⟨15, tab, [(26, R_bare.ce), (28, R_Group.ce), (45, R_lettersTimes.ce), (41, R_InGroup.ce)], [0, 1, 2, 3, 6], [], [], [], [], tab_eqs⟩
theorem R_Mended.eq (x_ : dens [(.st (.pair (.int .i64) (.sl .str))), .str, .str]) : den R_Mended.G Go.Proofs.Try.f22 [(.st (.pair (.int .i64) (.sl .str))), .str, .str] [.bool] x_ = R_Mended x_.1 x_.2.1 x_.2.2 := by kernel_rfl
theorem R_Mended.ok : CalleeOk Go.Proofs.Try.prog 22 R_Mended.ce := fn_ok (G := R_Mended.G) tab_ok mixed Go.Proofs.Try.func22 ⟨(fns_cons R_bare.ok (fns_cons R_Group.ok (fns_cons R_lettersTimes.ok (fns_cons R_InGroup.ok fns_nil)))), mfns_nil, tab_eqs_ok⟩ (m := 0) (by kernel_rfl) trivial (by kernel_rfl) R_Mended.eq
def Law_CodeCorrects.c5 {ρ : Type} (is : Bool) (c0 : Int) (f0 : Int) (k_ : Bool → Option ρ) : Option ρ :=
  br (f0 != (0 : Int))
   (k_ true)
   (br (!is)
     (k_ true)
     (k_ (decide (c0 > (7 : Int)))))
def Law_CodeCorrects.c5s : Shape := ⟨[(0, qk0), (1, qk4), (2, qk2), (4, qk7), (5, qk32), (7, qk7)], [(2, qk3), (5, qk19), (6, qk25)]⟩
def Law_CodeCorrects.c5x0 : Shape := ⟨[(0, qk0), (1, qk4), (2, qk2), (4, qk7), (5, qk32), (7, qk7), (35, qk7)], [(2, qk3), (5, qk19), (6, qk25)]⟩
def Law_CodeCorrects.c5r : Ck := Ck.of (T := Bool) Law_CodeCorrects.c5s (fun ρ x_ k_ => uP x_ fun c x_ => uP x_ fun error x_ => uP x_ fun t4 x_ => uP x_ fun is x_ => uP x_ fun c0 x_ => uP x_ fun c1 x_ => uP x_ fun f0 x_ => uP x_ fun f1 x_ => uP x_ fun t60 x_ => uP x_ fun t61 x_ => Law_CodeCorrects.c5 is c0 f0 k_) (fun ρ x_ r_ k_ => uP x_ fun c x_ => uP x_ fun error x_ => uP x_ fun t4 x_ => uP x_ fun is x_ => uP x_ fun c0 x_ => uP x_ fun c1 x_ => uP x_ fun f0 x_ => uP x_ fun f1 x_ => uP x_ fun t60 x_ => uP x_ fun t61 x_ => k_ 0 (Shape.inj Law_CodeCorrects.c5x0 (c, error, t4, is, r_, c0, c1, f0, f1, t60, t61, ())))
def Law_CodeCorrects.c15 {ρ : Type} (error : List UInt8) (is : Bool) (s : List (Int)) (c0 : Int) (c1 : List (List UInt8)) (f0 : Int) (o0 : Bool) (o1 : List UInt8) (k_ : Bool → Option ρ) : Option ρ :=
  br (f0 != (0 : Int))
   (k_ true)
   (br (!is)
     (k_ true)
     (br o0
       (k_ true)
       (bnd (W.R_Weight o1) fun y =>
        bnd (okIf (decide ((1 : Int) ≤ (↑(List.length error) : Int)) && decide ((↑(List.length error) : Int) ≤ (↑(List.length error) : Int)))) fun y_1 =>
        bnd (W.R_Weight (List.drop (1 : Nat) (List.take (Int.toNat (↑(List.length error) : Int)) error))) fun y_2 =>
        br (decide (y > y_2))
         (k_ true)
         (bnd (W.R_SyndromeOf (c0, c1) o1) fun y_3 =>
          bnd (W.R_SameInts y_3 s) fun y_4 =>
          k_ (!y_4)))))
def Law_CodeCorrects.c15s : Shape := ⟨[(0, qk0), (1, qk4), (2, qk2), (4, qk7), (5, qk32), (7, qk7), (8, qk5), (9, qk29), (10, qk4), (11, qk23)], [(2, qk3), (5, qk19), (6, qk25), (11, qk25)]⟩
def Law_CodeCorrects.c15x0 : Shape := ⟨[(0, qk0), (1, qk4), (2, qk2), (4, qk7), (5, qk32), (7, qk7), (8, qk5), (9, qk29), (10, qk4), (11, qk23), (97, qk7)], [(2, qk3), (5, qk19), (6, qk25), (11, qk25)]⟩
def Law_CodeCorrects.c15r : Ck := Ck.of (T := Bool) Law_CodeCorrects.c15s (fun ρ x_ k_ => uP x_ fun c x_ => uP x_ fun error x_ => uP x_ fun t4 x_ => uP x_ fun is x_ => uP x_ fun d x_ => uP x_ fun s x_ => uP x_ fun e x_ => uP x_ fun c0 x_ => uP x_ fun c1 x_ => uP x_ fun f0 x_ => uP x_ fun f1 x_ => uP x_ fun t60 x_ => uP x_ fun t61 x_ => uP x_ fun o0 x_ => uP x_ fun o1 x_ => Law_CodeCorrects.c15 error is s c0 c1 f0 o0 o1 k_) (fun ρ x_ r_ k_ => uP x_ fun c x_ => uP x_ fun error x_ => uP x_ fun t4 x_ => uP x_ fun is x_ => uP x_ fun d x_ => uP x_ fun s x_ => uP x_ fun e x_ => uP x_ fun c0 x_ => uP x_ fun c1 x_ => uP x_ fun f0 x_ => uP x_ fun f1 x_ => uP x_ fun t60 x_ => uP x_ fun t61 x_ => uP x_ fun o0 x_ => uP x_ fun o1 x_ => k_ 0 (Shape.inj Law_CodeCorrects.c15x0 (c, error, t4, is, d, s, e, r_, c0, c1, f0, f1, t60, t61, o0, o1, ())))
def Law_CodeCorrects.c17 {ρ : Type} (error : List UInt8) (d : Int) (k_ : Bool → Option ρ) : Option ρ :=
  br (decide (d > (0 : Int)))
   (bnd (okIf (decide ((1 : Int) ≤ (↑(List.length error) : Int)) && decide ((↑(List.length error) : Int) ≤ (↑(List.length error) : Int)))) fun y =>
    bnd (W.R_Weight (List.drop (1 : Nat) (List.take (Int.toNat (↑(List.length error) : Int)) error))) fun y_1 =>
    k_ (decide (IntKind.wrap IntKind.i64 ((2 : Int) * y_1) ≥ d)))
   (k_ false)
def Law_CodeCorrects.c17s : Shape := ⟨[(0, qk0), (1, qk4), (2, qk2), (4, qk7), (5, qk32), (7, qk7), (8, qk5), (9, qk29), (10, qk4), (11, qk23)], [(2, qk3), (5, qk19), (6, qk25), (11, qk25)]⟩
def Law_CodeCorrects.c17x0 : Shape := ⟨[(0, qk0), (1, qk4), (2, qk2), (4, qk7), (5, qk32), (7, qk7), (8, qk5), (9, qk29), (10, qk4), (11, qk23), (107, qk7)], [(2, qk3), (5, qk19), (6, qk25), (11, qk25)]⟩
def Law_CodeCorrects.c17r : Ck := Ck.of (T := Bool) Law_CodeCorrects.c17s (fun ρ x_ k_ => uP x_ fun c x_ => uP x_ fun error x_ => uP x_ fun t4 x_ => uP x_ fun is x_ => uP x_ fun d x_ => uP x_ fun s x_ => uP x_ fun e x_ => uP x_ fun c0 x_ => uP x_ fun c1 x_ => uP x_ fun f0 x_ => uP x_ fun f1 x_ => uP x_ fun t60 x_ => uP x_ fun t61 x_ => uP x_ fun o0 x_ => uP x_ fun o1 x_ => Law_CodeCorrects.c17 error d k_) (fun ρ x_ r_ k_ => uP x_ fun c x_ => uP x_ fun error x_ => uP x_ fun t4 x_ => uP x_ fun is x_ => uP x_ fun d x_ => uP x_ fun s x_ => uP x_ fun e x_ => uP x_ fun c0 x_ => uP x_ fun c1 x_ => uP x_ fun f0 x_ => uP x_ fun f1 x_ => uP x_ fun t60 x_ => uP x_ fun t61 x_ => uP x_ fun o0 x_ => uP x_ fun o1 x_ => k_ 0 (Shape.inj Law_CodeCorrects.c17x0 (c, error, t4, is, d, s, e, r_, c0, c1, f0, f1, t60, t61, o0, o1, ())))
def Law_CodeCorrects.c19 {ρ : Type} (error : List UInt8) (d : Int) (c0 : Int) (c1 : List (List UInt8)) (o1 : List UInt8) (k_ : Bool → Option ρ) : Option ρ :=
  br (d == (0 : Int))
   (k_ true)
   (bnd (okIf (decide ((1 : Int) ≤ (↑(List.length error) : Int)) && decide ((↑(List.length error) : Int) ≤ (↑(List.length error) : Int)))) fun y =>
    bnd (W.R_Mended (c0, c1) o1 (List.drop (1 : Nat) (List.take (Int.toNat (↑(List.length error) : Int)) error))) fun y_1 =>
    k_ y_1)
def Law_CodeCorrects.c19s : Shape := ⟨[(0, qk0), (1, qk4), (2, qk2), (4, qk7), (5, qk32), (7, qk7), (8, qk5), (9, qk29), (10, qk4), (11, qk23)], [(2, qk3), (5, qk19), (6, qk25), (11, qk25)]⟩
def Law_CodeCorrects.c19x0 : Shape := ⟨[(0, qk0), (1, qk4), (2, qk2), (4, qk7), (5, qk32), (7, qk7), (8, qk5), (9, qk29), (10, qk4), (11, qk23)], [(2, qk3), (5, qk19), (6, qk25), (11, qk25)]⟩
def Law_CodeCorrects.c19r : Ck := Ck.of (T := Bool) Law_CodeCorrects.c19s (fun ρ x_ k_ => uP x_ fun c x_ => uP x_ fun error x_ => uP x_ fun t4 x_ => uP x_ fun is x_ => uP x_ fun d x_ => uP x_ fun s x_ => uP x_ fun e x_ => uP x_ fun c0 x_ => uP x_ fun c1 x_ => uP x_ fun f0 x_ => uP x_ fun f1 x_ => uP x_ fun t60 x_ => uP x_ fun t61 x_ => uP x_ fun o0 x_ => uP x_ fun o1 x_ => Law_CodeCorrects.c19 error d c0 c1 o1 k_) (fun ρ x_ r_ k_ => uP x_ fun c x_ => uP x_ fun error x_ => uP x_ fun t4 x_ => uP x_ fun is x_ => uP x_ fun d x_ => uP x_ fun s x_ => uP x_ fun e x_ => uP x_ fun c0 x_ => uP x_ fun c1 x_ => uP x_ fun f0 x_ => uP x_ fun f1 x_ => uP x_ fun t60 x_ => uP x_ fun t61 x_ => uP x_ fun o0 x_ => uP x_ fun o1 x_ => k_ 0 (Shape.inj Law_CodeCorrects.c19x0 (c, error, r_, is, d, s, e, c0, c1, f0, f1, t60, t61, o0, o1, ())))
def Law_CodeCorrects (c : (Int) × (List (List UInt8))) (error : List UInt8) : Option (Bool) :=
  bnd W.Law_codeBegun fun y =>
  br (!y)
   (some false)
   (bnd (W.Law_copyCode (Prod.fst c, Prod.snd c)) fun y_1 =>
    bnd (W.code_Check y_1) fun y_2 =>
    bnd (W.R_IsPauli error (Prod.fst c)) fun y_3 =>
    bnd (W.Law_CodeCorrects.c5 (Prod.snd y_3) (Prod.fst c) (Prod.fst y_2) some) fun y_4 =>
    br y_4
     (some true)
     (bnd (W.Law_copyCode (Prod.fst c, Prod.snd c)) fun y_5 =>
      bnd (W.code_Distance y_5) fun y_6 =>
      br (Prod.fst (Prod.snd y_6) != (0 : Int))
       (some false)
       (bnd (W.Law_copyCode (Prod.fst c, Prod.snd c)) fun y_7 =>
        bnd (W.code_Syndrome y_7 error) fun y_8 =>
        br (Prod.fst (Prod.snd y_8) != (0 : Int))
         (some false)
         (bnd (W.Law_copyCode (Prod.fst c, Prod.snd c)) fun y_9 =>
          bnd (W.code_Decode y_9 (Prod.fst y_8)) fun y_10 =>
          bnd (W.R_IsPauli (Prod.fst y_10) (Prod.fst c)) fun y_11 =>
          bnd (W.Law_CodeCorrects.c15 error (Prod.snd y_11) (Prod.fst y_8) (Prod.fst c) (Prod.snd c) (Prod.fst (Prod.snd y_10)) (Prod.fst (Prod.fst y_11)) (Prod.snd (Prod.fst y_11)) some) fun y_12 =>
          br y_12
           (some false)
           (bnd (W.Law_CodeCorrects.c17 error (Prod.fst y_6) some) fun y_13 =>
            br y_13
             (some true)
             (bnd (W.Law_CodeCorrects.c19 error (Prod.fst y_6) (Prod.fst c) (Prod.snd c) (Prod.snd (Prod.fst y_11)) some) fun y_14 =>
              some y_14))))))
def Law_CodeCorrects.ce : Go.Ql.Callee := ⟨[(.st (.pair (.int .i64) (.sl .str))), .str], [.bool], fun x_ => Law_CodeCorrects x_.1 x_.2⟩
def Law_CodeCorrects.G : Env := ⟨118, tab, [(10, Law_codeBegun.ce), (7, Law_copyCode.ce), (8, code_Check.ce), (13, R_IsPauli.ce), (16, code_Distance.ce), (12, code_Syndrome.ce), (18, code_Decode.ce), (21, R_Weight.ce), (15, R_SyndromeOf.ce), (14, R_SameInts.ce), (22, R_Mended.ce)], [0, 1, 2, 4, 5, 7, 8, 9, 10, 11, 13, 35, 44, 54, 97, 107], [], [(19, [⟨[], [], [], []⟩, ⟨[0], [], [], []⟩, ⟨[1, 0], [], [], []⟩, ⟨[2, 1, 0], [], [112, 113, 114, 115], []⟩, ⟨[2, 1, 0], [], [111, 114, 115], []⟩, ⟨[4, 2, 1, 0], [], [111, 114, 115], []⟩, ⟨[2, 1, 0], [], [111, 112, 113], []⟩, ⟨[6, 2, 1, 0], [], [111, 112, 113], []⟩, ⟨[3, 2, 1, 0, 5, 4, 7, 6], [], [], []⟩, ⟨[2, 1, 0, 8, 3, 5, 4, 7, 6], [], [], []⟩, ⟨[9, 2, 1, 0, 8, 3, 5, 4, 7, 6], [], [], []⟩]),
  (15, [⟨[], [], [], []⟩, ⟨[0], [], [], []⟩, ⟨[1, 0], [], [], []⟩, ⟨[2, 1, 0], [], [], []⟩, ⟨[3, 2, 1, 0], [], [], []⟩, ⟨[4, 3, 2, 1, 0], [], [], []⟩, ⟨[3, 2, 1, 0, 5, 4], [], [], []⟩, ⟨[6, 3, 2, 1, 0, 5, 4], [], [], []⟩, ⟨[7, 6, 3, 2, 1, 0, 5, 4], [], [], []⟩, ⟨[8, 7, 6, 3, 2, 1, 0, 5, 4], [], [], []⟩, ⟨[7, 6, 3, 2, 1, 0, 5, 4, 9, 8], [], [], []⟩, ⟨[10, 7, 6, 3, 2, 1, 0, 5, 4, 9, 8], [], [], []⟩, ⟨[11, 10, 7, 6, 3, 2, 1, 0, 5, 4, 9, 8], [], [84, 85], []⟩, ⟨[12, 11, 10, 7, 6, 3, 2, 1, 0, 5, 4, 9, 8], [], [84, 85], []⟩, ⟨[13, 12, 11, 10, 7, 6, 3, 2, 1, 0, 5, 4, 9, 8], [], [84, 85], []⟩, ⟨[11, 10, 7, 6, 3, 2, 1, 0, 5, 4, 9, 8], [], [81, 82, 83], []⟩, ⟨[15, 11, 10, 7, 6, 3, 2, 1, 0, 5, 4, 9, 8], [], [81, 82, 83], []⟩, ⟨[16, 15, 11, 10, 7, 6, 3, 2, 1, 0, 5, 4, 9, 8, 14, 13, 12], [], [], []⟩, ⟨[14, 13, 12, 11, 10, 7, 6, 3, 2, 1, 0, 5, 4, 9, 8, 17, 16, 15], [], [], []⟩, ⟨[11, 10, 7, 6, 3, 2, 1, 0, 5, 4, 9, 8, 18, 14, 13, 12, 17, 16, 15], [], [], []⟩, ⟨[19, 11, 10, 7, 6, 3, 2, 1, 0, 5, 4, 9, 8, 18, 14, 13, 12, 17, 16, 15], [], [], []⟩, ⟨[20, 19, 11, 10, 7, 6, 3, 2, 1, 0, 5, 4, 9, 8, 18, 14, 13, 12, 17, 16, 15], [], [91, 92, 94], []⟩, ⟨[20, 19, 11, 10, 7, 6, 3, 2, 1, 0, 5, 4, 9, 8, 18, 14, 13, 12, 17, 16, 15], [], [90, 94], []⟩, ⟨[22, 20, 19, 11, 10, 7, 6, 3, 2, 1, 0, 5, 4, 9, 8, 18, 14, 13, 12, 17, 16, 15], [], [90, 94], []⟩, ⟨[21, 20, 19, 11, 10, 7, 6, 3, 2, 1, 0, 5, 4, 9, 8, 18, 14, 13, 12, 17, 16, 15, 23, 22], [], [94], []⟩, ⟨[20, 19, 11, 10, 7, 6, 3, 2, 1, 0, 5, 4, 9, 8, 18, 14, 13, 12, 17, 16, 15], [], [90, 91, 92, 93], []⟩, ⟨[24, 21, 20, 19, 11, 10, 7, 6, 3, 2, 1, 0, 5, 4, 9, 8, 18, 14, 13, 12, 17, 16, 15, 23, 22, 25], [], [], []⟩, ⟨[26, 24, 21, 20, 19, 11, 10, 7, 6, 3, 2, 1, 0, 5, 4, 9, 8, 18, 14, 13, 12, 17, 16, 15, 23, 22, 25], [], [], []⟩, ⟨[20, 19, 11, 10, 7, 6, 3, 2, 1, 0, 5, 4, 9, 8, 18, 14, 13, 12, 17, 16, 15, 27, 26, 24, 21, 23, 22, 25], [], [], []⟩])], [(19, Law_CodeCorrects.c19r), (17, Law_CodeCorrects.c17r), (15, Law_CodeCorrects.c15r), (5, Law_CodeCorrects.c5r)], [], tab_eqs⟩
theorem Law_CodeCorrects.eq (x_ : dens [(.st (.pair (.int .i64) (.sl .str))), .str]) : den Law_CodeCorrects.G Go.Proofs.Try.f5 [(.st (.pair (.int .i64) (.sl .str))), .str] [.bool] x_ = Law_CodeCorrects x_.1 x_.2 := by kernel_rfl
theorem Law_CodeCorrects.p0 : PieceOk Law_CodeCorrects.G (pieceAt (pieces Law_CodeCorrects.G.cks (bodyOf Go.Proofs.Try.f5)) 0).1 (pieceAt (pieces Law_CodeCorrects.G.cks (bodyOf Go.Proofs.Try.f5)) 0).2 :=
  region_ok (s := Law_CodeCorrects.c5r) (by kernel_rfl) (by kernel_rfl) (sums_of (sh := Law_CodeCorrects.c5s) (fun ρ x_ k_ => (nat_br nat_leaf (nat_br nat_leaf nat_leaf))) (fun ρ x_ t k => (by kernel_rfl)) (fun x_ => by kernel_rfl))
theorem Law_CodeCorrects.p1 : PieceOk Law_CodeCorrects.G (pieceAt (pieces Law_CodeCorrects.G.cks (bodyOf Go.Proofs.Try.f5)) 1).1 (pieceAt (pieces Law_CodeCorrects.G.cks (bodyOf Go.Proofs.Try.f5)) 1).2 :=
  region_ok (s := Law_CodeCorrects.c15r) (by kernel_rfl) (by kernel_rfl) (sums_of (sh := Law_CodeCorrects.c15s) (fun ρ x_ k_ => (nat_br nat_leaf (nat_br nat_leaf (nat_br nat_leaf (nat_bnd fun _ => (nat_bnd fun _ => (nat_bnd fun _ => (nat_br nat_leaf (nat_bnd fun _ => (nat_bnd fun _ => nat_leaf)))))))))) (fun ρ x_ t k => (by kernel_rfl)) (fun x_ => by kernel_rfl))
theorem Law_CodeCorrects.p2 : PieceOk Law_CodeCorrects.G (pieceAt (pieces Law_CodeCorrects.G.cks (bodyOf Go.Proofs.Try.f5)) 2).1 (pieceAt (pieces Law_CodeCorrects.G.cks (bodyOf Go.Proofs.Try.f5)) 2).2 :=
  region_ok (s := Law_CodeCorrects.c17r) (by kernel_rfl) (by kernel_rfl) (sums_of (sh := Law_CodeCorrects.c17s) (fun ρ x_ k_ => (nat_br (nat_bnd fun _ => (nat_bnd fun _ => nat_leaf)) nat_leaf)) (fun ρ x_ t k => (by kernel_rfl)) (fun x_ => by kernel_rfl))
theorem Law_CodeCorrects.p3 : PieceOk Law_CodeCorrects.G (pieceAt (pieces Law_CodeCorrects.G.cks (bodyOf Go.Proofs.Try.f5)) 3).1 (pieceAt (pieces Law_CodeCorrects.G.cks (bodyOf Go.Proofs.Try.f5)) 3).2 :=
  region_ok (s := Law_CodeCorrects.c19r) (by kernel_rfl) (by kernel_rfl) (sums_of (sh := Law_CodeCorrects.c19s) (fun ρ x_ k_ => (nat_br nat_leaf (nat_bnd fun _ => (nat_bnd fun _ => nat_leaf)))) (fun ρ x_ t k => (by kernel_rfl)) (fun x_ => by kernel_rfl))
theorem Law_CodeCorrects.ok : CalleeOk Go.Proofs.Try.prog 5 Law_CodeCorrects.ce := fn_ok (G := Law_CodeCorrects.G) tab_ok mixed Go.Proofs.Try.func5 ⟨(fns_cons Law_codeBegun.ok (fns_cons Law_copyCode.ok (fns_cons code_Check.ok (fns_cons R_IsPauli.ok (fns_cons code_Distance.ok (fns_cons code_Syndrome.ok (fns_cons code_Decode.ok (fns_cons R_Weight.ok (fns_cons R_SyndromeOf.ok (fns_cons R_SameInts.ok (fns_cons R_Mended.ok fns_nil))))))))))), mfns_nil, tab_eqs_ok⟩ (m := 4) (by kernel_rfl) ⟨⟨⟨⟨trivial, Law_CodeCorrects.p0⟩, Law_CodeCorrects.p1⟩, Law_CodeCorrects.p2⟩, Law_CodeCorrects.p3⟩ (by kernel_rfl) Law_CodeCorrects.eq
end
end W
end
