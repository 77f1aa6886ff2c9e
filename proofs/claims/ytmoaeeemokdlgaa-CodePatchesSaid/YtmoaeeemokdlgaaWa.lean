/- Lifted functions, part 1: each with its contract. -/
import Derived.Test.YtmoaeeemokdlgaaCa
import Derived.Test.YtmoaeeemokdlgaaProg
section
/- Functions of the program as typed functions, printed by a program of mine, with their proofs. -/
set_option maxHeartbeats 4000000
set_option maxRecDepth 100000
set_option linter.unusedVariables false
namespace W
open Go Go.Ql
noncomputable section
abbrev qk0 : SD := .one (.val (.st (.pair (.int .i64) (.sl .str))))
abbrev qk1 : SD := .one (.ref 1 0)
abbrev qk2 : SD := .one (.ref 2 0)
abbrev qk3 : SO := .box [.val (.int .i64), .val (.sl .str)]
def Law_copyCode.c1 {ρ : Type} (c1 : List (List UInt8)) (k_ : Unit → Option ρ) : Option ρ :=
  bnd (okIf (decide (((0 : Nat) + List.length c1) * (16 : Nat) ≤ (140737488355328 : Nat)) && decide ((0 : Nat) + List.length c1 ≤ (140737488355328 : Nat)))) fun y =>
  k_ ()
def Law_copyCode.c1s : Shape := ⟨[(0, qk0), (1, qk1), (2, qk2)], [(1, qk3), (2, qk3)]⟩
def Law_copyCode.c1x0 : Shape := ⟨[(0, qk0), (1, qk1), (2, qk2)], [(1, qk3), (2, qk3)]⟩
def Law_copyCode.c1r : Ck := Ck.of (T := Unit) Law_copyCode.c1s (fun ρ x_ k_ => uP x_ fun c x_ => uP x_ fun c0 x_ => uP x_ fun c1 x_ => uP x_ fun t20 x_ => uP x_ fun t21 x_ => Law_copyCode.c1 c1 k_) (fun ρ x_ r_ k_ => uP x_ fun c x_ => uP x_ fun c0 x_ => uP x_ fun c1 x_ => uP x_ fun t20 x_ => uP x_ fun t21 x_ => k_ 0 (Shape.inj Law_copyCode.c1x0 (c, c0, c1, c0, c1, ())))
def Law_copyCode (c : (Int) × (List (List UInt8))) : Option ((Int) × (List (List UInt8))) :=
  bnd (W.Law_copyCode.c1 (Prod.snd c) some) fun y =>
  some (Prod.fst c, Prod.snd c)
def Law_copyCode.ce : Go.Ql.Callee := ⟨[(.st (.pair (.int .i64) (.sl .str)))], [(.st (.pair (.int .i64) (.sl .str)))], fun x_ => Law_copyCode x_⟩
def Law_copyCode.G : Env := ⟨9, tab, [], [0, 1, 2], [], [(1, [⟨[], [], [5, 6, 7], [7]⟩, ⟨[0], [], [5, 6, 7], [7]⟩, ⟨[], [], [3, 4], []⟩, ⟨[2], [], [3, 4], []⟩, ⟨[3, 2], [7], [3, 4], []⟩, ⟨[1, 0, 4, 3, 2], [], [], []⟩, ⟨[5, 1, 0, 4, 3, 2], [2], [], []⟩])], [(1, Law_copyCode.c1r)], [], tab_eqs⟩
theorem Law_copyCode.eq (x_ : dens [(.st (.pair (.int .i64) (.sl .str)))]) : den Law_copyCode.G Go.Proofs.Try.f7 [(.st (.pair (.int .i64) (.sl .str)))] [(.st (.pair (.int .i64) (.sl .str)))] x_ = Law_copyCode x_ := by kernel_rfl
theorem Law_copyCode.p0 : PieceOk Law_copyCode.G (pieceAt (pieces Law_copyCode.G.cks (bodyOf Go.Proofs.Try.f7)) 0).1 (pieceAt (pieces Law_copyCode.G.cks (bodyOf Go.Proofs.Try.f7)) 0).2 :=
  region_ok (s := Law_copyCode.c1r) (by kernel_rfl) (by kernel_rfl) (sums_of (sh := Law_copyCode.c1s) (fun ρ x_ k_ => (nat_bnd fun _ => nat_leaf)) (fun ρ x_ t k => (by kernel_rfl)) (fun x_ => by kernel_rfl))
theorem Law_copyCode.ok : CalleeOk Go.Proofs.Try.prog 7 Law_copyCode.ce := fn_ok (G := Law_copyCode.G) tab_ok mixed Go.Proofs.Try.func7 ⟨fns_nil, mfns_nil, tab_eqs_ok⟩ (m := 1) (by kernel_rfl) ⟨trivial, Law_copyCode.p0⟩ (by kernel_rfl) Law_copyCode.eq
abbrev qk4 : SD := .one (.val .str)
abbrev qk5 : SD := .one (.val (.int .i64))
abbrev qk6 : SD := .one (.ref 4 0)
abbrev qk7 : SD := .one (.val .bool)
abbrev qk8 : SD := .one (.ref 6 0)
abbrev qk9 : SO := .box [.val (.int .u64), .val (.int .u64), .val .bool]
def tableau_read.c2 {ρ : Type} (s : List UInt8) (n : Int) (k_ : Bool → Option ρ) : Option ρ :=
  br ((↑(List.length s) : Int) != IntKind.wrap IntKind.i64 (n + (1 : Int)))
   (k_ true)
   (bnd (idx s (0 : Int)) fun y =>
    br ((↑(UInt8.toNat y) : Int) != (43 : Int))
     (bnd (idx s (0 : Int)) fun y_1 =>
      k_ ((↑(UInt8.toNat y_1) : Int) != (45 : Int)))
     (k_ false))
def tableau_read.c2s : Shape := ⟨[(0, qk4), (1, qk5), (4, qk6), (5, qk7), (6, qk8)], [(4, qk9), (6, qk9)]⟩
def tableau_read.c2x0 : Shape := ⟨[(0, qk4), (1, qk5), (4, qk6), (5, qk7), (6, qk8), (23, qk7)], [(4, qk9), (6, qk9)]⟩
def tableau_read.c2r : Ck := Ck.of (T := Bool) tableau_read.c2s (fun ρ x_ k_ => uP x_ fun s x_ => uP x_ fun n x_ => uP x_ fun t5 x_ => uP x_ fun t40 x_ => uP x_ fun t41 x_ => uP x_ fun t42 x_ => uP x_ fun p0 x_ => uP x_ fun p1 x_ => uP x_ fun p2 x_ => tableau_read.c2 s n k_) (fun ρ x_ r_ k_ => uP x_ fun s x_ => uP x_ fun n x_ => uP x_ fun t5 x_ => uP x_ fun t40 x_ => uP x_ fun t41 x_ => uP x_ fun t42 x_ => uP x_ fun p0 x_ => uP x_ fun p1 x_ => uP x_ fun p2 x_ => k_ 0 (Shape.inj tableau_read.c2x0 (s, n, t5, r_, t40, t41, t42, p0, p1, p2, ())))
def tableau_read.c11 {ρ : Type} (q : Int) (k_ : Unit → Option ρ) : Option ρ :=
  bnd (okIf (decide ((0 : Int) ≤ q))) fun y =>
  k_ ()
def tableau_read.c11s : Shape := ⟨[(0, qk4), (1, qk5), (4, qk6), (5, qk7), (6, qk8), (7, qk5), (8, qk5), (29, qk5), (30, qk5)], [(4, qk9), (6, qk9)]⟩
def tableau_read.c11x0 : Shape := ⟨[(0, qk4), (1, qk5), (4, qk6), (5, qk7), (6, qk8), (7, qk5), (8, qk5), (29, qk5), (30, qk5)], [(4, qk9), (6, qk9)]⟩
def tableau_read.c11r : Ck := Ck.of (T := Unit) tableau_read.c11s (fun ρ x_ k_ => uP x_ fun s x_ => uP x_ fun n x_ => uP x_ fun t5 x_ => uP x_ fun q x_ => uP x_ fun i x_ => uP x_ fun t29 x_ => uP x_ fun t30 x_ => uP x_ fun t40 x_ => uP x_ fun t41 x_ => uP x_ fun t42 x_ => uP x_ fun p0 x_ => uP x_ fun p1 x_ => uP x_ fun p2 x_ => tableau_read.c11 q k_) (fun ρ x_ r_ k_ => uP x_ fun s x_ => uP x_ fun n x_ => uP x_ fun t5 x_ => uP x_ fun q x_ => uP x_ fun i x_ => uP x_ fun t29 x_ => uP x_ fun t30 x_ => uP x_ fun t40 x_ => uP x_ fun t41 x_ => uP x_ fun t42 x_ => uP x_ fun p0 x_ => uP x_ fun p1 x_ => uP x_ fun p2 x_ => k_ 0 (Shape.inj tableau_read.c11x0 (s, n, t5, q, i, t29, t30, t40, t41, t42, (ibits BinOp.or IntKind.u64 p0 (IntKind.wrap IntKind.u64 (IntKind.wrap IntKind.u64 (ibits BinOp.and IntKind.i64 i (1 : Int)) * (2 : Int) ^ Min.min (Int.toNat q) (64 : Nat)))), p1, p2, ())))
def tableau_read.c12 {ρ : Type} (q : Int) (k_ : Unit → Option ρ) : Option ρ :=
  bnd (okIf (decide ((0 : Int) ≤ q))) fun y =>
  k_ ()
def tableau_read.c12s : Shape := ⟨[(0, qk4), (1, qk5), (4, qk6), (5, qk7), (6, qk8), (7, qk5), (8, qk5), (29, qk5), (30, qk5)], [(4, qk9), (6, qk9)]⟩
def tableau_read.c12x0 : Shape := ⟨[(0, qk4), (1, qk5), (4, qk6), (5, qk7), (6, qk8), (7, qk5), (8, qk5), (29, qk5), (30, qk5)], [(4, qk9), (6, qk9)]⟩
def tableau_read.c12r : Ck := Ck.of (T := Unit) tableau_read.c12s (fun ρ x_ k_ => uP x_ fun s x_ => uP x_ fun n x_ => uP x_ fun t5 x_ => uP x_ fun q x_ => uP x_ fun i x_ => uP x_ fun t29 x_ => uP x_ fun t30 x_ => uP x_ fun t40 x_ => uP x_ fun t41 x_ => uP x_ fun t42 x_ => uP x_ fun p0 x_ => uP x_ fun p1 x_ => uP x_ fun p2 x_ => tableau_read.c12 q k_) (fun ρ x_ r_ k_ => uP x_ fun s x_ => uP x_ fun n x_ => uP x_ fun t5 x_ => uP x_ fun q x_ => uP x_ fun i x_ => uP x_ fun t29 x_ => uP x_ fun t30 x_ => uP x_ fun t40 x_ => uP x_ fun t41 x_ => uP x_ fun t42 x_ => uP x_ fun p0 x_ => uP x_ fun p1 x_ => uP x_ fun p2 x_ => k_ 0 (Shape.inj tableau_read.c12x0 (s, n, t5, q, i, t29, t30, t40, t41, t42, p0, (ibits BinOp.or IntKind.u64 p1 (IntKind.wrap IntKind.u64 (IntKind.wrap IntKind.u64 (Int.fdiv i ((2 : Int) ^ (1 : Nat))) * (2 : Int) ^ Min.min (Int.toNat q) (64 : Nat)))), p2, ())))
def tableau_read.c100006 {ρ : Type} (s : List UInt8) (t29 : Int) (t30 : Int) (p0 : Int) (p1 : Int) (k_ : ((Int) × (Int) × (Int)) ⊕ (((Int) × (Int) × (Int) × (Int) × (Int)) ⊕ ((Int) × (Int) × (Int))) → Option ρ) : Option ρ :=
  br (decide (t30 < t29))
   (bnd (idx s (IntKind.wrap IntKind.i64 (t30 + (1 : Int)))) fun y =>
    bnd (W.strings_IndexByte (Array.toList (ByteArray.data (ByteArray.mk #[(73 : UInt8), (88 : UInt8), (90 : UInt8), (89 : UInt8)]))) (↑(UInt8.toNat y) : Int)) fun y_1 =>
    br (decide (y_1 < (0 : Int)))
     (k_ (.inr (.inl (t30, p0, p1, p0, p1))))
     (bnd (W.tableau_read.c11 t30 some) fun y_2 =>
      bnd (W.tableau_read.c12 t30 some) fun y_3 =>
      k_ (.inl ((IntKind.wrap IntKind.i64 (t30 + (1 : Int))), (ibits BinOp.or IntKind.u64 p0 (IntKind.wrap IntKind.u64 (IntKind.wrap IntKind.u64 (ibits BinOp.and IntKind.i64 y_1 (1 : Int)) * (2 : Int) ^ Min.min (Int.toNat t30) (64 : Nat)))), (ibits BinOp.or IntKind.u64 p1 (IntKind.wrap IntKind.u64 (IntKind.wrap IntKind.u64 (Int.fdiv y_1 ((2 : Int) ^ (1 : Nat))) * (2 : Int) ^ Min.min (Int.toNat t30) (64 : Nat))))))))
   (k_ (.inr (.inr (t30, p0, p1))))
def tableau_read.c100006s : Shape := ⟨[(0, qk4), (1, qk5), (4, qk6), (5, qk7), (6, qk8), (29, qk5), (30, qk5)], [(4, qk9), (6, qk9)]⟩
def tableau_read.c100006x0 : Shape := ⟨[(0, qk4), (1, qk5), (4, qk6), (5, qk7), (6, qk8), (29, qk5), (30, qk5)], [(4, qk9), (6, qk9)]⟩
def tableau_read.c100006x1 : Shape := ⟨[(0, qk4), (1, qk5), (4, qk6), (5, qk7), (6, qk8), (29, qk5), (30, qk5)], [(4, qk9), (6, qk9)]⟩
def tableau_read.c100006r : Ck := Ck.ofLoop (S := (Int) × (Int) × (Int)) (T := ((Int) × (Int) × (Int) × (Int) × (Int)) ⊕ ((Int) × (Int) × (Int))) tableau_read.c100006s (fun x_ => uP x_ fun s x_ => uP x_ fun n x_ => uP x_ fun t5 x_ => uP x_ fun t29 x_ => uP x_ fun t30 x_ => uP x_ fun t40 x_ => uP x_ fun t41 x_ => uP x_ fun t42 x_ => uP x_ fun p0 x_ => uP x_ fun p1 x_ => uP x_ fun p2 x_ => (t30, p0, p1)) (fun ρ x_ s_ k_ => uP x_ fun s x_ => uP x_ fun n x_ => uP x_ fun t5 x_ => uP x_ fun t29 x_ => uP x_ fun t30 x_ => uP x_ fun t40 x_ => uP x_ fun t41 x_ => uP x_ fun t42 x_ => uP x_ fun p0 x_ => uP x_ fun p1 x_ => uP x_ fun p2 x_ => tableau_read.c100006 s t29 s_.1 s_.2.1 s_.2.2 k_) (fun ρ x_ r_ k_ => uP x_ fun s x_ => uP x_ fun n x_ => uP x_ fun t5 x_ => uP x_ fun t29 x_ => uP x_ fun t30 x_ => uP x_ fun t40 x_ => uP x_ fun t41 x_ => uP x_ fun t42 x_ => uP x_ fun p0 x_ => uP x_ fun p1 x_ => uP x_ fun p2 x_ => sel r_ (fun r_ => k_ 1 (Shape.inj tableau_read.c100006x0 (s, n, false, t29, r_.1, r_.2.1, r_.2.2.1, p2, r_.2.2.2.1, r_.2.2.2.2, p2, ()))) (fun r_ => k_ 2 (Shape.inj tableau_read.c100006x1 (s, n, t5, t29, r_.1, t40, t41, t42, r_.2.1, r_.2.2, p2, ()))))
def tableau_read (s : List UInt8) (n : Int) : Option (((Int) × ((Int) × (Bool))) × (Bool)) :=
  bnd (W.tableau_read.c2 s n some) fun y =>
  br y
   (some (((0 : Int), (0 : Int), false), false))
   (bnd (idx s (0 : Int)) fun y_1 =>
    bnd (iter (fun s_1 ↦ W.tableau_read.c100006 s n (Prod.fst s_1) (Prod.fst (Prod.snd s_1)) (Prod.snd (Prod.snd s_1)) some) ((0 : Int), (0 : Int), (0 : Int))) fun y_2 =>
    sel y_2
     (fun u => some ((Prod.fst (Prod.snd u), Prod.fst (Prod.snd (Prod.snd u)), (↑(UInt8.toNat y_1) : Int) == (45 : Int)), false))
     (fun v => some ((Prod.fst (Prod.snd v), Prod.snd (Prod.snd v), (↑(UInt8.toNat y_1) : Int) == (45 : Int)), true)))
def tableau_read.ce : Go.Ql.Callee := ⟨[.str, (.int .i64)], [(.st (.pair (.int .u64) (.pair (.int .u64) .bool))), .bool], fun x_ => tableau_read x_.1 x_.2⟩
def tableau_read.G : Env := ⟨61, tab, [(58, strings_IndexByte.ce)], [0, 1, 4, 5, 6, 7, 8, 23, 29, 30, 31, 39], [], [(12, [⟨[], [], [52, 53, 54, 55, 56], []⟩, ⟨[0], [], [52, 53, 54, 55, 56], []⟩, ⟨[], [], [50, 51, 55], []⟩, ⟨[2], [], [50, 51, 55], []⟩, ⟨[3, 2], [], [50, 51, 55], []⟩, ⟨[], [], [50, 51, 52, 53, 54], []⟩, ⟨[4, 3, 2, 5], [], [50, 51], []⟩, ⟨[1, 0, 6, 4, 3, 2, 5], [], [], []⟩, ⟨[0, 1, 2, 3, 4, 5, 6, 7], [], [], []⟩, ⟨[8, 0, 1, 2, 3, 4, 5, 6, 7], [6], [], []⟩]),
  (11, [⟨[], [], [43, 44, 45, 46, 47], []⟩, ⟨[0], [], [43, 44, 45, 46, 47], []⟩, ⟨[], [], [41, 42, 46], []⟩, ⟨[2], [], [41, 42, 46], []⟩, ⟨[3, 2], [], [41, 42, 46], []⟩, ⟨[], [], [41, 42, 43, 44, 45], []⟩, ⟨[4, 3, 2, 5], [], [41, 42], []⟩, ⟨[1, 0, 6, 4, 3, 2, 5], [], [], []⟩, ⟨[0, 1, 2, 3, 4, 5, 6, 7], [], [], []⟩, ⟨[8, 0, 1, 2, 3, 4, 5, 6, 7], [6], [], []⟩])], [(100006, tableau_read.c100006r), (12, tableau_read.c12r), (11, tableau_read.c11r), (2, tableau_read.c2r)], [], tab_eqs⟩
theorem tableau_read.eq (x_ : dens [.str, (.int .i64)]) : den tableau_read.G Go.Proofs.Try.f52 [.str, (.int .i64)] [(.st (.pair (.int .u64) (.pair (.int .u64) .bool))), .bool] x_ = tableau_read x_.1 x_.2 := by kernel_rfl
theorem tableau_read.p0 : PieceOk tableau_read.G (pieceAt (pieces tableau_read.G.cks (bodyOf Go.Proofs.Try.f52)) 0).1 (pieceAt (pieces tableau_read.G.cks (bodyOf Go.Proofs.Try.f52)) 0).2 :=
  region_ok (s := tableau_read.c2r) (by kernel_rfl) (by kernel_rfl) (sums_of (sh := tableau_read.c2s) (fun ρ x_ k_ => (nat_br nat_leaf (nat_bnd fun _ => (nat_br (nat_bnd fun _ => nat_leaf) nat_leaf)))) (fun ρ x_ t k => (by kernel_rfl)) (fun x_ => by kernel_rfl))
theorem tableau_read.p1 : PieceOk tableau_read.G (pieceAt (pieces tableau_read.G.cks (bodyOf Go.Proofs.Try.f52)) 1).1 (pieceAt (pieces tableau_read.G.cks (bodyOf Go.Proofs.Try.f52)) 1).2 :=
  loop_ok (s := tableau_read.c100006r) (by kernel_rfl) (by kernel_rfl) (loops_of (sh := tableau_read.c100006s) (I := fun x_ s_ => (x_.1, x_.2.1, x_.2.2.1, x_.2.2.2.1, s_.1, x_.2.2.2.2.2.1, x_.2.2.2.2.2.2.1, x_.2.2.2.2.2.2.2.1, s_.2.1, s_.2.2, x_.2.2.2.2.2.2.2.2.2.2.1, ())) (fun x_ => rfl) (fun ρ x_ s_ k_ => (nat_br (nat_bnd fun _ => (nat_bnd fun _ => (nat_br nat_leaf (nat_bnd fun _ => (nat_bnd fun _ => nat_leaf))))) nat_leaf)) (fun ρ x_ t k => (nat_sel (fun _ => (by kernel_rfl)) (fun _ => (by kernel_rfl)))) (fun x_ s => by kernel_rfl))
theorem tableau_read.p2 : PieceOk tableau_read.G (pieceAt (pieces tableau_read.G.cks (bodyOf Go.Proofs.Try.f52)) 2).1 (pieceAt (pieces tableau_read.G.cks (bodyOf Go.Proofs.Try.f52)) 2).2 :=
  region_ok (s := tableau_read.c11r) (by kernel_rfl) (by kernel_rfl) (sums_of (sh := tableau_read.c11s) (fun ρ x_ k_ => (nat_bnd fun _ => nat_leaf)) (fun ρ x_ t k => (by kernel_rfl)) (fun x_ => by kernel_rfl))
theorem tableau_read.p3 : PieceOk tableau_read.G (pieceAt (pieces tableau_read.G.cks (bodyOf Go.Proofs.Try.f52)) 3).1 (pieceAt (pieces tableau_read.G.cks (bodyOf Go.Proofs.Try.f52)) 3).2 :=
  region_ok (s := tableau_read.c12r) (by kernel_rfl) (by kernel_rfl) (sums_of (sh := tableau_read.c12s) (fun ρ x_ k_ => (nat_bnd fun _ => nat_leaf)) (fun ρ x_ t k => (by kernel_rfl)) (fun x_ => by kernel_rfl))
theorem tableau_read.ok : CalleeOk Go.Proofs.Try.prog 52 tableau_read.ce := fn_ok (G := tableau_read.G) tab_ok mixed Go.Proofs.Try.func52 ⟨(fns_cons strings_IndexByte.ok fns_nil), mfns_nil, tab_eqs_ok⟩ (m := 4) (by kernel_rfl) ⟨⟨⟨⟨trivial, tableau_read.p0⟩, tableau_read.p1⟩, tableau_read.p2⟩, tableau_read.p3⟩ (by kernel_rfl) tableau_read.eq
def tableau_Read (s : List UInt8) (n : Int) : Option (((Int) × ((Int) × (Bool))) × (Bool)) :=
  bnd (W.tableau_read s n) fun y =>
  some ((Prod.fst (Prod.fst y), Prod.fst (Prod.snd (Prod.fst y)), Prod.snd (Prod.snd (Prod.fst y))), Prod.snd y)
def tableau_Read.ce : Go.Ql.Callee := ⟨[.str, (.int .i64)], [(.st (.pair (.int .u64) (.pair (.int .u64) .bool))), .bool], fun x_ => tableau_Read x_.1 x_.2⟩
def tableau_Read.G : Env := ⟨11, tab, [(52, tableau_read.ce)], [0, 1, 4, 5], [], [], [], [], tab_eqs⟩
theorem tableau_Read.eq (x_ : dens [.str, (.int .i64)]) : den tableau_Read.G Go.Proofs.Try.f30 [.str, (.int .i64)] [(.st (.pair (.int .u64) (.pair (.int .u64) .bool))), .bool] x_ = tableau_Read x_.1 x_.2 := by kernel_rfl
theorem tableau_Read.ok : CalleeOk Go.Proofs.Try.prog 30 tableau_Read.ce := fn_ok (G := tableau_Read.G) tab_ok mixed Go.Proofs.Try.func30 ⟨(fns_cons tableau_read.ok fns_nil), mfns_nil, tab_eqs_ok⟩ (m := 0) (by kernel_rfl) trivial (by kernel_rfl) tableau_Read.eq
abbrev qk10 : SD := .one (.val (.int .u32))
def bits_OnesCount32.c1 {ρ : Type} (x : Int) (k_ : Int → Option ρ) : Option ρ :=
  bnd (idx (Array.toList (ByteArray.data (ByteArray.mk (List.toArray (List.append (List.append [(0 : UInt8), (1 : UInt8), (1 : UInt8), (2 : UInt8), (1 : UInt8), (2 : UInt8), (2 : UInt8), (3 : UInt8), (1 : UInt8), (2 : UInt8), (2 : UInt8), (3 : UInt8), (2 : UInt8), (3 : UInt8), (3 : UInt8), (4 : UInt8), (1 : UInt8), (2 : UInt8), (2 : UInt8), (3 : UInt8), (2 : UInt8), (3 : UInt8), (3 : UInt8), (4 : UInt8), (2 : UInt8), (3 : UInt8), (3 : UInt8), (4 : UInt8), (3 : UInt8), (4 : UInt8), (4 : UInt8), (5 : UInt8), (1 : UInt8), (2 : UInt8), (2 : UInt8), (3 : UInt8), (2 : UInt8), (3 : UInt8), (3 : UInt8), (4 : UInt8), (2 : UInt8), (3 : UInt8), (3 : UInt8), (4 : UInt8), (3 : UInt8), (4 : UInt8), (4 : UInt8), (5 : UInt8), (2 : UInt8), (3 : UInt8), (3 : UInt8), (4 : UInt8), (3 : UInt8), (4 : UInt8), (4 : UInt8), (5 : UInt8), (3 : UInt8), (4 : UInt8), (4 : UInt8), (5 : UInt8), (4 : UInt8), (5 : UInt8), (5 : UInt8), (6 : UInt8)] [(1 : UInt8), (2 : UInt8), (2 : UInt8), (3 : UInt8), (2 : UInt8), (3 : UInt8), (3 : UInt8), (4 : UInt8), (2 : UInt8), (3 : UInt8), (3 : UInt8), (4 : UInt8), (3 : UInt8), (4 : UInt8), (4 : UInt8), (5 : UInt8), (2 : UInt8), (3 : UInt8), (3 : UInt8), (4 : UInt8), (3 : UInt8), (4 : UInt8), (4 : UInt8), (5 : UInt8), (3 : UInt8), (4 : UInt8), (4 : UInt8), (5 : UInt8), (4 : UInt8), (5 : UInt8), (5 : UInt8), (6 : UInt8), (2 : UInt8), (3 : UInt8), (3 : UInt8), (4 : UInt8), (3 : UInt8), (4 : UInt8), (4 : UInt8), (5 : UInt8), (3 : UInt8), (4 : UInt8), (4 : UInt8), (5 : UInt8), (4 : UInt8), (5 : UInt8), (5 : UInt8), (6 : UInt8), (3 : UInt8), (4 : UInt8), (4 : UInt8), (5 : UInt8), (4 : UInt8), (5 : UInt8), (5 : UInt8), (6 : UInt8), (4 : UInt8), (5 : UInt8), (5 : UInt8), (6 : UInt8), (5 : UInt8), (6 : UInt8), (6 : UInt8), (7 : UInt8)]) (List.append [(1 : UInt8), (2 : UInt8), (2 : UInt8), (3 : UInt8), (2 : UInt8), (3 : UInt8), (3 : UInt8), (4 : UInt8), (2 : UInt8), (3 : UInt8), (3 : UInt8), (4 : UInt8), (3 : UInt8), (4 : UInt8), (4 : UInt8), (5 : UInt8), (2 : UInt8), (3 : UInt8), (3 : UInt8), (4 : UInt8), (3 : UInt8), (4 : UInt8), (4 : UInt8), (5 : UInt8), (3 : UInt8), (4 : UInt8), (4 : UInt8), (5 : UInt8), (4 : UInt8), (5 : UInt8), (5 : UInt8), (6 : UInt8), (2 : UInt8), (3 : UInt8), (3 : UInt8), (4 : UInt8), (3 : UInt8), (4 : UInt8), (4 : UInt8), (5 : UInt8), (3 : UInt8), (4 : UInt8), (4 : UInt8), (5 : UInt8), (4 : UInt8), (5 : UInt8), (5 : UInt8), (6 : UInt8), (3 : UInt8), (4 : UInt8), (4 : UInt8), (5 : UInt8), (4 : UInt8), (5 : UInt8), (5 : UInt8), (6 : UInt8), (4 : UInt8), (5 : UInt8), (5 : UInt8), (6 : UInt8), (5 : UInt8), (6 : UInt8), (6 : UInt8), (7 : UInt8)] [(2 : UInt8), (3 : UInt8), (3 : UInt8), (4 : UInt8), (3 : UInt8), (4 : UInt8), (4 : UInt8), (5 : UInt8), (3 : UInt8), (4 : UInt8), (4 : UInt8), (5 : UInt8), (4 : UInt8), (5 : UInt8), (5 : UInt8), (6 : UInt8), (3 : UInt8), (4 : UInt8), (4 : UInt8), (5 : UInt8), (4 : UInt8), (5 : UInt8), (5 : UInt8), (6 : UInt8), (4 : UInt8), (5 : UInt8), (5 : UInt8), (6 : UInt8), (5 : UInt8), (6 : UInt8), (6 : UInt8), (7 : UInt8), (3 : UInt8), (4 : UInt8), (4 : UInt8), (5 : UInt8), (4 : UInt8), (5 : UInt8), (5 : UInt8), (6 : UInt8), (4 : UInt8), (5 : UInt8), (5 : UInt8), (6 : UInt8), (5 : UInt8), (6 : UInt8), (6 : UInt8), (7 : UInt8), (4 : UInt8), (5 : UInt8), (5 : UInt8), (6 : UInt8), (5 : UInt8), (6 : UInt8), (6 : UInt8), (7 : UInt8), (5 : UInt8), (6 : UInt8), (6 : UInt8), (7 : UInt8), (6 : UInt8), (7 : UInt8), (7 : UInt8), (8 : UInt8)])))))) (Int.fdiv x ((2 : Int) ^ (24 : Nat)))) fun y =>
  bnd (idx (Array.toList (ByteArray.data (ByteArray.mk (List.toArray (List.append (List.append [(0 : UInt8), (1 : UInt8), (1 : UInt8), (2 : UInt8), (1 : UInt8), (2 : UInt8), (2 : UInt8), (3 : UInt8), (1 : UInt8), (2 : UInt8), (2 : UInt8), (3 : UInt8), (2 : UInt8), (3 : UInt8), (3 : UInt8), (4 : UInt8), (1 : UInt8), (2 : UInt8), (2 : UInt8), (3 : UInt8), (2 : UInt8), (3 : UInt8), (3 : UInt8), (4 : UInt8), (2 : UInt8), (3 : UInt8), (3 : UInt8), (4 : UInt8), (3 : UInt8), (4 : UInt8), (4 : UInt8), (5 : UInt8), (1 : UInt8), (2 : UInt8), (2 : UInt8), (3 : UInt8), (2 : UInt8), (3 : UInt8), (3 : UInt8), (4 : UInt8), (2 : UInt8), (3 : UInt8), (3 : UInt8), (4 : UInt8), (3 : UInt8), (4 : UInt8), (4 : UInt8), (5 : UInt8), (2 : UInt8), (3 : UInt8), (3 : UInt8), (4 : UInt8), (3 : UInt8), (4 : UInt8), (4 : UInt8), (5 : UInt8), (3 : UInt8), (4 : UInt8), (4 : UInt8), (5 : UInt8), (4 : UInt8), (5 : UInt8), (5 : UInt8), (6 : UInt8)] [(1 : UInt8), (2 : UInt8), (2 : UInt8), (3 : UInt8), (2 : UInt8), (3 : UInt8), (3 : UInt8), (4 : UInt8), (2 : UInt8), (3 : UInt8), (3 : UInt8), (4 : UInt8), (3 : UInt8), (4 : UInt8), (4 : UInt8), (5 : UInt8), (2 : UInt8), (3 : UInt8), (3 : UInt8), (4 : UInt8), (3 : UInt8), (4 : UInt8), (4 : UInt8), (5 : UInt8), (3 : UInt8), (4 : UInt8), (4 : UInt8), (5 : UInt8), (4 : UInt8), (5 : UInt8), (5 : UInt8), (6 : UInt8), (2 : UInt8), (3 : UInt8), (3 : UInt8), (4 : UInt8), (3 : UInt8), (4 : UInt8), (4 : UInt8), (5 : UInt8), (3 : UInt8), (4 : UInt8), (4 : UInt8), (5 : UInt8), (4 : UInt8), (5 : UInt8), (5 : UInt8), (6 : UInt8), (3 : UInt8), (4 : UInt8), (4 : UInt8), (5 : UInt8), (4 : UInt8), (5 : UInt8), (5 : UInt8), (6 : UInt8), (4 : UInt8), (5 : UInt8), (5 : UInt8), (6 : UInt8), (5 : UInt8), (6 : UInt8), (6 : UInt8), (7 : UInt8)]) (List.append [(1 : UInt8), (2 : UInt8), (2 : UInt8), (3 : UInt8), (2 : UInt8), (3 : UInt8), (3 : UInt8), (4 : UInt8), (2 : UInt8), (3 : UInt8), (3 : UInt8), (4 : UInt8), (3 : UInt8), (4 : UInt8), (4 : UInt8), (5 : UInt8), (2 : UInt8), (3 : UInt8), (3 : UInt8), (4 : UInt8), (3 : UInt8), (4 : UInt8), (4 : UInt8), (5 : UInt8), (3 : UInt8), (4 : UInt8), (4 : UInt8), (5 : UInt8), (4 : UInt8), (5 : UInt8), (5 : UInt8), (6 : UInt8), (2 : UInt8), (3 : UInt8), (3 : UInt8), (4 : UInt8), (3 : UInt8), (4 : UInt8), (4 : UInt8), (5 : UInt8), (3 : UInt8), (4 : UInt8), (4 : UInt8), (5 : UInt8), (4 : UInt8), (5 : UInt8), (5 : UInt8), (6 : UInt8), (3 : UInt8), (4 : UInt8), (4 : UInt8), (5 : UInt8), (4 : UInt8), (5 : UInt8), (5 : UInt8), (6 : UInt8), (4 : UInt8), (5 : UInt8), (5 : UInt8), (6 : UInt8), (5 : UInt8), (6 : UInt8), (6 : UInt8), (7 : UInt8)] [(2 : UInt8), (3 : UInt8), (3 : UInt8), (4 : UInt8), (3 : UInt8), (4 : UInt8), (4 : UInt8), (5 : UInt8), (3 : UInt8), (4 : UInt8), (4 : UInt8), (5 : UInt8), (4 : UInt8), (5 : UInt8), (5 : UInt8), (6 : UInt8), (3 : UInt8), (4 : UInt8), (4 : UInt8), (5 : UInt8), (4 : UInt8), (5 : UInt8), (5 : UInt8), (6 : UInt8), (4 : UInt8), (5 : UInt8), (5 : UInt8), (6 : UInt8), (5 : UInt8), (6 : UInt8), (6 : UInt8), (7 : UInt8), (3 : UInt8), (4 : UInt8), (4 : UInt8), (5 : UInt8), (4 : UInt8), (5 : UInt8), (5 : UInt8), (6 : UInt8), (4 : UInt8), (5 : UInt8), (5 : UInt8), (6 : UInt8), (5 : UInt8), (6 : UInt8), (6 : UInt8), (7 : UInt8), (4 : UInt8), (5 : UInt8), (5 : UInt8), (6 : UInt8), (5 : UInt8), (6 : UInt8), (6 : UInt8), (7 : UInt8), (5 : UInt8), (6 : UInt8), (6 : UInt8), (7 : UInt8), (6 : UInt8), (7 : UInt8), (7 : UInt8), (8 : UInt8)])))))) (ibits BinOp.and IntKind.u32 (Int.fdiv x ((2 : Int) ^ (16 : Nat))) (255 : Int))) fun y_1 =>
  bnd (idx (Array.toList (ByteArray.data (ByteArray.mk (List.toArray (List.append (List.append [(0 : UInt8), (1 : UInt8), (1 : UInt8), (2 : UInt8), (1 : UInt8), (2 : UInt8), (2 : UInt8), (3 : UInt8), (1 : UInt8), (2 : UInt8), (2 : UInt8), (3 : UInt8), (2 : UInt8), (3 : UInt8), (3 : UInt8), (4 : UInt8), (1 : UInt8), (2 : UInt8), (2 : UInt8), (3 : UInt8), (2 : UInt8), (3 : UInt8), (3 : UInt8), (4 : UInt8), (2 : UInt8), (3 : UInt8), (3 : UInt8), (4 : UInt8), (3 : UInt8), (4 : UInt8), (4 : UInt8), (5 : UInt8), (1 : UInt8), (2 : UInt8), (2 : UInt8), (3 : UInt8), (2 : UInt8), (3 : UInt8), (3 : UInt8), (4 : UInt8), (2 : UInt8), (3 : UInt8), (3 : UInt8), (4 : UInt8), (3 : UInt8), (4 : UInt8), (4 : UInt8), (5 : UInt8), (2 : UInt8), (3 : UInt8), (3 : UInt8), (4 : UInt8), (3 : UInt8), (4 : UInt8), (4 : UInt8), (5 : UInt8), (3 : UInt8), (4 : UInt8), (4 : UInt8), (5 : UInt8), (4 : UInt8), (5 : UInt8), (5 : UInt8), (6 : UInt8)] [(1 : UInt8), (2 : UInt8), (2 : UInt8), (3 : UInt8), (2 : UInt8), (3 : UInt8), (3 : UInt8), (4 : UInt8), (2 : UInt8), (3 : UInt8), (3 : UInt8), (4 : UInt8), (3 : UInt8), (4 : UInt8), (4 : UInt8), (5 : UInt8), (2 : UInt8), (3 : UInt8), (3 : UInt8), (4 : UInt8), (3 : UInt8), (4 : UInt8), (4 : UInt8), (5 : UInt8), (3 : UInt8), (4 : UInt8), (4 : UInt8), (5 : UInt8), (4 : UInt8), (5 : UInt8), (5 : UInt8), (6 : UInt8), (2 : UInt8), (3 : UInt8), (3 : UInt8), (4 : UInt8), (3 : UInt8), (4 : UInt8), (4 : UInt8), (5 : UInt8), (3 : UInt8), (4 : UInt8), (4 : UInt8), (5 : UInt8), (4 : UInt8), (5 : UInt8), (5 : UInt8), (6 : UInt8), (3 : UInt8), (4 : UInt8), (4 : UInt8), (5 : UInt8), (4 : UInt8), (5 : UInt8), (5 : UInt8), (6 : UInt8), (4 : UInt8), (5 : UInt8), (5 : UInt8), (6 : UInt8), (5 : UInt8), (6 : UInt8), (6 : UInt8), (7 : UInt8)]) (List.append [(1 : UInt8), (2 : UInt8), (2 : UInt8), (3 : UInt8), (2 : UInt8), (3 : UInt8), (3 : UInt8), (4 : UInt8), (2 : UInt8), (3 : UInt8), (3 : UInt8), (4 : UInt8), (3 : UInt8), (4 : UInt8), (4 : UInt8), (5 : UInt8), (2 : UInt8), (3 : UInt8), (3 : UInt8), (4 : UInt8), (3 : UInt8), (4 : UInt8), (4 : UInt8), (5 : UInt8), (3 : UInt8), (4 : UInt8), (4 : UInt8), (5 : UInt8), (4 : UInt8), (5 : UInt8), (5 : UInt8), (6 : UInt8), (2 : UInt8), (3 : UInt8), (3 : UInt8), (4 : UInt8), (3 : UInt8), (4 : UInt8), (4 : UInt8), (5 : UInt8), (3 : UInt8), (4 : UInt8), (4 : UInt8), (5 : UInt8), (4 : UInt8), (5 : UInt8), (5 : UInt8), (6 : UInt8), (3 : UInt8), (4 : UInt8), (4 : UInt8), (5 : UInt8), (4 : UInt8), (5 : UInt8), (5 : UInt8), (6 : UInt8), (4 : UInt8), (5 : UInt8), (5 : UInt8), (6 : UInt8), (5 : UInt8), (6 : UInt8), (6 : UInt8), (7 : UInt8)] [(2 : UInt8), (3 : UInt8), (3 : UInt8), (4 : UInt8), (3 : UInt8), (4 : UInt8), (4 : UInt8), (5 : UInt8), (3 : UInt8), (4 : UInt8), (4 : UInt8), (5 : UInt8), (4 : UInt8), (5 : UInt8), (5 : UInt8), (6 : UInt8), (3 : UInt8), (4 : UInt8), (4 : UInt8), (5 : UInt8), (4 : UInt8), (5 : UInt8), (5 : UInt8), (6 : UInt8), (4 : UInt8), (5 : UInt8), (5 : UInt8), (6 : UInt8), (5 : UInt8), (6 : UInt8), (6 : UInt8), (7 : UInt8), (3 : UInt8), (4 : UInt8), (4 : UInt8), (5 : UInt8), (4 : UInt8), (5 : UInt8), (5 : UInt8), (6 : UInt8), (4 : UInt8), (5 : UInt8), (5 : UInt8), (6 : UInt8), (5 : UInt8), (6 : UInt8), (6 : UInt8), (7 : UInt8), (4 : UInt8), (5 : UInt8), (5 : UInt8), (6 : UInt8), (5 : UInt8), (6 : UInt8), (6 : UInt8), (7 : UInt8), (5 : UInt8), (6 : UInt8), (6 : UInt8), (7 : UInt8), (6 : UInt8), (7 : UInt8), (7 : UInt8), (8 : UInt8)])))))) (ibits BinOp.and IntKind.u32 (Int.fdiv x ((2 : Int) ^ (8 : Nat))) (255 : Int))) fun y_2 =>
  bnd (idx (Array.toList (ByteArray.data (ByteArray.mk (List.toArray (List.append (List.append [(0 : UInt8), (1 : UInt8), (1 : UInt8), (2 : UInt8), (1 : UInt8), (2 : UInt8), (2 : UInt8), (3 : UInt8), (1 : UInt8), (2 : UInt8), (2 : UInt8), (3 : UInt8), (2 : UInt8), (3 : UInt8), (3 : UInt8), (4 : UInt8), (1 : UInt8), (2 : UInt8), (2 : UInt8), (3 : UInt8), (2 : UInt8), (3 : UInt8), (3 : UInt8), (4 : UInt8), (2 : UInt8), (3 : UInt8), (3 : UInt8), (4 : UInt8), (3 : UInt8), (4 : UInt8), (4 : UInt8), (5 : UInt8), (1 : UInt8), (2 : UInt8), (2 : UInt8), (3 : UInt8), (2 : UInt8), (3 : UInt8), (3 : UInt8), (4 : UInt8), (2 : UInt8), (3 : UInt8), (3 : UInt8), (4 : UInt8), (3 : UInt8), (4 : UInt8), (4 : UInt8), (5 : UInt8), (2 : UInt8), (3 : UInt8), (3 : UInt8), (4 : UInt8), (3 : UInt8), (4 : UInt8), (4 : UInt8), (5 : UInt8), (3 : UInt8), (4 : UInt8), (4 : UInt8), (5 : UInt8), (4 : UInt8), (5 : UInt8), (5 : UInt8), (6 : UInt8)] [(1 : UInt8), (2 : UInt8), (2 : UInt8), (3 : UInt8), (2 : UInt8), (3 : UInt8), (3 : UInt8), (4 : UInt8), (2 : UInt8), (3 : UInt8), (3 : UInt8), (4 : UInt8), (3 : UInt8), (4 : UInt8), (4 : UInt8), (5 : UInt8), (2 : UInt8), (3 : UInt8), (3 : UInt8), (4 : UInt8), (3 : UInt8), (4 : UInt8), (4 : UInt8), (5 : UInt8), (3 : UInt8), (4 : UInt8), (4 : UInt8), (5 : UInt8), (4 : UInt8), (5 : UInt8), (5 : UInt8), (6 : UInt8), (2 : UInt8), (3 : UInt8), (3 : UInt8), (4 : UInt8), (3 : UInt8), (4 : UInt8), (4 : UInt8), (5 : UInt8), (3 : UInt8), (4 : UInt8), (4 : UInt8), (5 : UInt8), (4 : UInt8), (5 : UInt8), (5 : UInt8), (6 : UInt8), (3 : UInt8), (4 : UInt8), (4 : UInt8), (5 : UInt8), (4 : UInt8), (5 : UInt8), (5 : UInt8), (6 : UInt8), (4 : UInt8), (5 : UInt8), (5 : UInt8), (6 : UInt8), (5 : UInt8), (6 : UInt8), (6 : UInt8), (7 : UInt8)]) (List.append [(1 : UInt8), (2 : UInt8), (2 : UInt8), (3 : UInt8), (2 : UInt8), (3 : UInt8), (3 : UInt8), (4 : UInt8), (2 : UInt8), (3 : UInt8), (3 : UInt8), (4 : UInt8), (3 : UInt8), (4 : UInt8), (4 : UInt8), (5 : UInt8), (2 : UInt8), (3 : UInt8), (3 : UInt8), (4 : UInt8), (3 : UInt8), (4 : UInt8), (4 : UInt8), (5 : UInt8), (3 : UInt8), (4 : UInt8), (4 : UInt8), (5 : UInt8), (4 : UInt8), (5 : UInt8), (5 : UInt8), (6 : UInt8), (2 : UInt8), (3 : UInt8), (3 : UInt8), (4 : UInt8), (3 : UInt8), (4 : UInt8), (4 : UInt8), (5 : UInt8), (3 : UInt8), (4 : UInt8), (4 : UInt8), (5 : UInt8), (4 : UInt8), (5 : UInt8), (5 : UInt8), (6 : UInt8), (3 : UInt8), (4 : UInt8), (4 : UInt8), (5 : UInt8), (4 : UInt8), (5 : UInt8), (5 : UInt8), (6 : UInt8), (4 : UInt8), (5 : UInt8), (5 : UInt8), (6 : UInt8), (5 : UInt8), (6 : UInt8), (6 : UInt8), (7 : UInt8)] [(2 : UInt8), (3 : UInt8), (3 : UInt8), (4 : UInt8), (3 : UInt8), (4 : UInt8), (4 : UInt8), (5 : UInt8), (3 : UInt8), (4 : UInt8), (4 : UInt8), (5 : UInt8), (4 : UInt8), (5 : UInt8), (5 : UInt8), (6 : UInt8), (3 : UInt8), (4 : UInt8), (4 : UInt8), (5 : UInt8), (4 : UInt8), (5 : UInt8), (5 : UInt8), (6 : UInt8), (4 : UInt8), (5 : UInt8), (5 : UInt8), (6 : UInt8), (5 : UInt8), (6 : UInt8), (6 : UInt8), (7 : UInt8), (3 : UInt8), (4 : UInt8), (4 : UInt8), (5 : UInt8), (4 : UInt8), (5 : UInt8), (5 : UInt8), (6 : UInt8), (4 : UInt8), (5 : UInt8), (5 : UInt8), (6 : UInt8), (5 : UInt8), (6 : UInt8), (6 : UInt8), (7 : UInt8), (4 : UInt8), (5 : UInt8), (5 : UInt8), (6 : UInt8), (5 : UInt8), (6 : UInt8), (6 : UInt8), (7 : UInt8), (5 : UInt8), (6 : UInt8), (6 : UInt8), (7 : UInt8), (6 : UInt8), (7 : UInt8), (7 : UInt8), (8 : UInt8)])))))) (ibits BinOp.and IntKind.u32 x (255 : Int))) fun y_3 =>
  k_ (IntKind.wrap IntKind.i64 (IntKind.wrap IntKind.u8 (IntKind.wrap IntKind.u8 (IntKind.wrap IntKind.u8 ((↑(UInt8.toNat y) : Int) + (↑(UInt8.toNat y_1) : Int)) + (↑(UInt8.toNat y_2) : Int)) + (↑(UInt8.toNat y_3) : Int))))
def bits_OnesCount32.c1s : Shape := ⟨[(0, qk10), (2, qk5)], []⟩
def bits_OnesCount32.c1x0 : Shape := ⟨[(0, qk10), (2, qk5)], []⟩
def bits_OnesCount32.c1r : Ck := Ck.of (T := Int) bits_OnesCount32.c1s (fun ρ x_ k_ => uP x_ fun x x_ => uP x_ fun t2 x_ => bits_OnesCount32.c1 x k_) (fun ρ x_ r_ k_ => uP x_ fun x x_ => uP x_ fun t2 x_ => k_ 0 (Shape.inj bits_OnesCount32.c1x0 (x, r_, ())))
def bits_OnesCount32 (x : Int) : Option (Int) :=
  bnd (W.bits_OnesCount32.c1 x some) fun y =>
  some y
def bits_OnesCount32.ce : Go.Ql.Callee := ⟨[(.int .u32)], [(.int .i64)], fun x_ => bits_OnesCount32 x_⟩
def bits_OnesCount32.G : Env := ⟨21, tab, [], [0, 2], [], [(1, [⟨[], [], [6, 7, 8, 9, 11, 12, 13, 14, 16, 17, 18], []⟩, ⟨[0], [], [6, 7, 8, 9, 11, 12, 13, 14, 16, 17, 18], []⟩, ⟨[1, 0], [], [6, 7, 8, 9, 11, 12, 13, 14, 16, 17, 18], []⟩, ⟨[], [], [3, 4, 5, 11, 12, 13, 14, 16, 17, 18], []⟩, ⟨[3], [], [3, 4, 5, 11, 12, 13, 14, 16, 17, 18], []⟩, ⟨[4, 3], [], [3, 4, 5, 11, 12, 13, 14, 16, 17, 18], []⟩, ⟨[5, 4, 3], [], [3, 4, 5, 11, 12, 13, 14, 16, 17, 18], []⟩, ⟨[2, 1, 0, 6, 5, 4, 3], [], [11, 12, 13, 14, 16, 17, 18], []⟩, ⟨[], [], [3, 4, 5, 6, 7, 8, 9, 10, 16, 17, 18], []⟩, ⟨[8], [], [3, 4, 5, 6, 7, 8, 9, 10, 16, 17, 18], []⟩, ⟨[9, 8], [], [3, 4, 5, 6, 7, 8, 9, 10, 16, 17, 18], []⟩, ⟨[10, 9, 8], [], [3, 4, 5, 6, 7, 8, 9, 10, 16, 17, 18], []⟩, ⟨[7, 2, 1, 0, 6, 5, 4, 3, 11, 10, 9, 8], [], [16, 17, 18], []⟩, ⟨[], [], [3, 4, 5, 6, 7, 8, 9, 10, 11, 12, 13, 14, 15], []⟩, ⟨[13], [], [3, 4, 5, 6, 7, 8, 9, 10, 11, 12, 13, 14, 15], []⟩, ⟨[14, 13], [], [3, 4, 5, 6, 7, 8, 9, 10, 11, 12, 13, 14, 15], []⟩, ⟨[12, 7, 2, 1, 0, 6, 5, 4, 3, 11, 10, 9, 8, 15, 14, 13], [], [], []⟩, ⟨[16, 12, 7, 2, 1, 0, 6, 5, 4, 3, 11, 10, 9, 8, 15, 14, 13], [], [], []⟩, ⟨[17, 16, 12, 7, 2, 1, 0, 6, 5, 4, 3, 11, 10, 9, 8, 15, 14, 13], [], [], []⟩])], [(1, bits_OnesCount32.c1r)], [], tab_eqs⟩
theorem bits_OnesCount32.eq (x_ : dens [(.int .u32)]) : den bits_OnesCount32.G Go.Proofs.Try.f61 [(.int .u32)] [(.int .i64)] x_ = bits_OnesCount32 x_ := by kernel_rfl
theorem bits_OnesCount32.p0 : PieceOk bits_OnesCount32.G (pieceAt (pieces bits_OnesCount32.G.cks (bodyOf Go.Proofs.Try.f61)) 0).1 (pieceAt (pieces bits_OnesCount32.G.cks (bodyOf Go.Proofs.Try.f61)) 0).2 :=
  region_ok (s := bits_OnesCount32.c1r) (by kernel_rfl) (by kernel_rfl) (sums_of (sh := bits_OnesCount32.c1s) (fun ρ x_ k_ => (nat_bnd fun _ => (nat_bnd fun _ => (nat_bnd fun _ => (nat_bnd fun _ => nat_leaf))))) (fun ρ x_ t k => (by kernel_rfl)) (fun x_ => by kernel_rfl))
theorem bits_OnesCount32.ok : CalleeOk Go.Proofs.Try.prog 61 bits_OnesCount32.ce := fn_ok (G := bits_OnesCount32.G) tab_ok mixed Go.Proofs.Try.func61 ⟨fns_nil, mfns_nil, tab_eqs_ok⟩ (m := 1) (by kernel_rfl) ⟨trivial, bits_OnesCount32.p0⟩ (by kernel_rfl) bits_OnesCount32.eq
def bits_OnesCount64 (x : Int) : Option (Int) :=
  some (ibits BinOp.and IntKind.i64 (IntKind.wrap IntKind.i64 (IntKind.wrap IntKind.u64 (IntKind.wrap IntKind.u64 (IntKind.wrap IntKind.u64 (ibits BinOp.and IntKind.u64 (IntKind.wrap IntKind.u64 (Int.fdiv (IntKind.wrap IntKind.u64 (ibits BinOp.and IntKind.u64 (Int.fdiv (IntKind.wrap IntKind.u64 (ibits BinOp.and IntKind.u64 (Int.fdiv x ((2 : Int) ^ (1 : Nat))) (6148914691236517205 : Int) + ibits BinOp.and IntKind.u64 x (6148914691236517205 : Int))) ((2 : Int) ^ (2 : Nat))) (3689348814741910323 : Int) + ibits BinOp.and IntKind.u64 (IntKind.wrap IntKind.u64 (ibits BinOp.and IntKind.u64 (Int.fdiv x ((2 : Int) ^ (1 : Nat))) (6148914691236517205 : Int) + ibits BinOp.and IntKind.u64 x (6148914691236517205 : Int))) (3689348814741910323 : Int))) ((2 : Int) ^ (4 : Nat)) + IntKind.wrap IntKind.u64 (ibits BinOp.and IntKind.u64 (Int.fdiv (IntKind.wrap IntKind.u64 (ibits BinOp.and IntKind.u64 (Int.fdiv x ((2 : Int) ^ (1 : Nat))) (6148914691236517205 : Int) + ibits BinOp.and IntKind.u64 x (6148914691236517205 : Int))) ((2 : Int) ^ (2 : Nat))) (3689348814741910323 : Int) + ibits BinOp.and IntKind.u64 (IntKind.wrap IntKind.u64 (ibits BinOp.and IntKind.u64 (Int.fdiv x ((2 : Int) ^ (1 : Nat))) (6148914691236517205 : Int) + ibits BinOp.and IntKind.u64 x (6148914691236517205 : Int))) (3689348814741910323 : Int)))) (1085102592571150095 : Int) + Int.fdiv (ibits BinOp.and IntKind.u64 (IntKind.wrap IntKind.u64 (Int.fdiv (IntKind.wrap IntKind.u64 (ibits BinOp.and IntKind.u64 (Int.fdiv (IntKind.wrap IntKind.u64 (ibits BinOp.and IntKind.u64 (Int.fdiv x ((2 : Int) ^ (1 : Nat))) (6148914691236517205 : Int) + ibits BinOp.and IntKind.u64 x (6148914691236517205 : Int))) ((2 : Int) ^ (2 : Nat))) (3689348814741910323 : Int) + ibits BinOp.and IntKind.u64 (IntKind.wrap IntKind.u64 (ibits BinOp.and IntKind.u64 (Int.fdiv x ((2 : Int) ^ (1 : Nat))) (6148914691236517205 : Int) + ibits BinOp.and IntKind.u64 x (6148914691236517205 : Int))) (3689348814741910323 : Int))) ((2 : Int) ^ (4 : Nat)) + IntKind.wrap IntKind.u64 (ibits BinOp.and IntKind.u64 (Int.fdiv (IntKind.wrap IntKind.u64 (ibits BinOp.and IntKind.u64 (Int.fdiv x ((2 : Int) ^ (1 : Nat))) (6148914691236517205 : Int) + ibits BinOp.and IntKind.u64 x (6148914691236517205 : Int))) ((2 : Int) ^ (2 : Nat))) (3689348814741910323 : Int) + ibits BinOp.and IntKind.u64 (IntKind.wrap IntKind.u64 (ibits BinOp.and IntKind.u64 (Int.fdiv x ((2 : Int) ^ (1 : Nat))) (6148914691236517205 : Int) + ibits BinOp.and IntKind.u64 x (6148914691236517205 : Int))) (3689348814741910323 : Int)))) (1085102592571150095 : Int)) ((2 : Int) ^ (8 : Nat))) + Int.fdiv (IntKind.wrap IntKind.u64 (ibits BinOp.and IntKind.u64 (IntKind.wrap IntKind.u64 (Int.fdiv (IntKind.wrap IntKind.u64 (ibits BinOp.and IntKind.u64 (Int.fdiv (IntKind.wrap IntKind.u64 (ibits BinOp.and IntKind.u64 (Int.fdiv x ((2 : Int) ^ (1 : Nat))) (6148914691236517205 : Int) + ibits BinOp.and IntKind.u64 x (6148914691236517205 : Int))) ((2 : Int) ^ (2 : Nat))) (3689348814741910323 : Int) + ibits BinOp.and IntKind.u64 (IntKind.wrap IntKind.u64 (ibits BinOp.and IntKind.u64 (Int.fdiv x ((2 : Int) ^ (1 : Nat))) (6148914691236517205 : Int) + ibits BinOp.and IntKind.u64 x (6148914691236517205 : Int))) (3689348814741910323 : Int))) ((2 : Int) ^ (4 : Nat)) + IntKind.wrap IntKind.u64 (ibits BinOp.and IntKind.u64 (Int.fdiv (IntKind.wrap IntKind.u64 (ibits BinOp.and IntKind.u64 (Int.fdiv x ((2 : Int) ^ (1 : Nat))) (6148914691236517205 : Int) + ibits BinOp.and IntKind.u64 x (6148914691236517205 : Int))) ((2 : Int) ^ (2 : Nat))) (3689348814741910323 : Int) + ibits BinOp.and IntKind.u64 (IntKind.wrap IntKind.u64 (ibits BinOp.and IntKind.u64 (Int.fdiv x ((2 : Int) ^ (1 : Nat))) (6148914691236517205 : Int) + ibits BinOp.and IntKind.u64 x (6148914691236517205 : Int))) (3689348814741910323 : Int)))) (1085102592571150095 : Int) + Int.fdiv (ibits BinOp.and IntKind.u64 (IntKind.wrap IntKind.u64 (Int.fdiv (IntKind.wrap IntKind.u64 (ibits BinOp.and IntKind.u64 (Int.fdiv (IntKind.wrap IntKind.u64 (ibits BinOp.and IntKind.u64 (Int.fdiv x ((2 : Int) ^ (1 : Nat))) (6148914691236517205 : Int) + ibits BinOp.and IntKind.u64 x (6148914691236517205 : Int))) ((2 : Int) ^ (2 : Nat))) (3689348814741910323 : Int) + ibits BinOp.and IntKind.u64 (IntKind.wrap IntKind.u64 (ibits BinOp.and IntKind.u64 (Int.fdiv x ((2 : Int) ^ (1 : Nat))) (6148914691236517205 : Int) + ibits BinOp.and IntKind.u64 x (6148914691236517205 : Int))) (3689348814741910323 : Int))) ((2 : Int) ^ (4 : Nat)) + IntKind.wrap IntKind.u64 (ibits BinOp.and IntKind.u64 (Int.fdiv (IntKind.wrap IntKind.u64 (ibits BinOp.and IntKind.u64 (Int.fdiv x ((2 : Int) ^ (1 : Nat))) (6148914691236517205 : Int) + ibits BinOp.and IntKind.u64 x (6148914691236517205 : Int))) ((2 : Int) ^ (2 : Nat))) (3689348814741910323 : Int) + ibits BinOp.and IntKind.u64 (IntKind.wrap IntKind.u64 (ibits BinOp.and IntKind.u64 (Int.fdiv x ((2 : Int) ^ (1 : Nat))) (6148914691236517205 : Int) + ibits BinOp.and IntKind.u64 x (6148914691236517205 : Int))) (3689348814741910323 : Int)))) (1085102592571150095 : Int)) ((2 : Int) ^ (8 : Nat)))) ((2 : Int) ^ (16 : Nat))) + Int.fdiv (IntKind.wrap IntKind.u64 (IntKind.wrap IntKind.u64 (ibits BinOp.and IntKind.u64 (IntKind.wrap IntKind.u64 (Int.fdiv (IntKind.wrap IntKind.u64 (ibits BinOp.and IntKind.u64 (Int.fdiv (IntKind.wrap IntKind.u64 (ibits BinOp.and IntKind.u64 (Int.fdiv x ((2 : Int) ^ (1 : Nat))) (6148914691236517205 : Int) + ibits BinOp.and IntKind.u64 x (6148914691236517205 : Int))) ((2 : Int) ^ (2 : Nat))) (3689348814741910323 : Int) + ibits BinOp.and IntKind.u64 (IntKind.wrap IntKind.u64 (ibits BinOp.and IntKind.u64 (Int.fdiv x ((2 : Int) ^ (1 : Nat))) (6148914691236517205 : Int) + ibits BinOp.and IntKind.u64 x (6148914691236517205 : Int))) (3689348814741910323 : Int))) ((2 : Int) ^ (4 : Nat)) + IntKind.wrap IntKind.u64 (ibits BinOp.and IntKind.u64 (Int.fdiv (IntKind.wrap IntKind.u64 (ibits BinOp.and IntKind.u64 (Int.fdiv x ((2 : Int) ^ (1 : Nat))) (6148914691236517205 : Int) + ibits BinOp.and IntKind.u64 x (6148914691236517205 : Int))) ((2 : Int) ^ (2 : Nat))) (3689348814741910323 : Int) + ibits BinOp.and IntKind.u64 (IntKind.wrap IntKind.u64 (ibits BinOp.and IntKind.u64 (Int.fdiv x ((2 : Int) ^ (1 : Nat))) (6148914691236517205 : Int) + ibits BinOp.and IntKind.u64 x (6148914691236517205 : Int))) (3689348814741910323 : Int)))) (1085102592571150095 : Int) + Int.fdiv (ibits BinOp.and IntKind.u64 (IntKind.wrap IntKind.u64 (Int.fdiv (IntKind.wrap IntKind.u64 (ibits BinOp.and IntKind.u64 (Int.fdiv (IntKind.wrap IntKind.u64 (ibits BinOp.and IntKind.u64 (Int.fdiv x ((2 : Int) ^ (1 : Nat))) (6148914691236517205 : Int) + ibits BinOp.and IntKind.u64 x (6148914691236517205 : Int))) ((2 : Int) ^ (2 : Nat))) (3689348814741910323 : Int) + ibits BinOp.and IntKind.u64 (IntKind.wrap IntKind.u64 (ibits BinOp.and IntKind.u64 (Int.fdiv x ((2 : Int) ^ (1 : Nat))) (6148914691236517205 : Int) + ibits BinOp.and IntKind.u64 x (6148914691236517205 : Int))) (3689348814741910323 : Int))) ((2 : Int) ^ (4 : Nat)) + IntKind.wrap IntKind.u64 (ibits BinOp.and IntKind.u64 (Int.fdiv (IntKind.wrap IntKind.u64 (ibits BinOp.and IntKind.u64 (Int.fdiv x ((2 : Int) ^ (1 : Nat))) (6148914691236517205 : Int) + ibits BinOp.and IntKind.u64 x (6148914691236517205 : Int))) ((2 : Int) ^ (2 : Nat))) (3689348814741910323 : Int) + ibits BinOp.and IntKind.u64 (IntKind.wrap IntKind.u64 (ibits BinOp.and IntKind.u64 (Int.fdiv x ((2 : Int) ^ (1 : Nat))) (6148914691236517205 : Int) + ibits BinOp.and IntKind.u64 x (6148914691236517205 : Int))) (3689348814741910323 : Int)))) (1085102592571150095 : Int)) ((2 : Int) ^ (8 : Nat))) + Int.fdiv (IntKind.wrap IntKind.u64 (ibits BinOp.and IntKind.u64 (IntKind.wrap IntKind.u64 (Int.fdiv (IntKind.wrap IntKind.u64 (ibits BinOp.and IntKind.u64 (Int.fdiv (IntKind.wrap IntKind.u64 (ibits BinOp.and IntKind.u64 (Int.fdiv x ((2 : Int) ^ (1 : Nat))) (6148914691236517205 : Int) + ibits BinOp.and IntKind.u64 x (6148914691236517205 : Int))) ((2 : Int) ^ (2 : Nat))) (3689348814741910323 : Int) + ibits BinOp.and IntKind.u64 (IntKind.wrap IntKind.u64 (ibits BinOp.and IntKind.u64 (Int.fdiv x ((2 : Int) ^ (1 : Nat))) (6148914691236517205 : Int) + ibits BinOp.and IntKind.u64 x (6148914691236517205 : Int))) (3689348814741910323 : Int))) ((2 : Int) ^ (4 : Nat)) + IntKind.wrap IntKind.u64 (ibits BinOp.and IntKind.u64 (Int.fdiv (IntKind.wrap IntKind.u64 (ibits BinOp.and IntKind.u64 (Int.fdiv x ((2 : Int) ^ (1 : Nat))) (6148914691236517205 : Int) + ibits BinOp.and IntKind.u64 x (6148914691236517205 : Int))) ((2 : Int) ^ (2 : Nat))) (3689348814741910323 : Int) + ibits BinOp.and IntKind.u64 (IntKind.wrap IntKind.u64 (ibits BinOp.and IntKind.u64 (Int.fdiv x ((2 : Int) ^ (1 : Nat))) (6148914691236517205 : Int) + ibits BinOp.and IntKind.u64 x (6148914691236517205 : Int))) (3689348814741910323 : Int)))) (1085102592571150095 : Int) + Int.fdiv (ibits BinOp.and IntKind.u64 (IntKind.wrap IntKind.u64 (Int.fdiv (IntKind.wrap IntKind.u64 (ibits BinOp.and IntKind.u64 (Int.fdiv (IntKind.wrap IntKind.u64 (ibits BinOp.and IntKind.u64 (Int.fdiv x ((2 : Int) ^ (1 : Nat))) (6148914691236517205 : Int) + ibits BinOp.and IntKind.u64 x (6148914691236517205 : Int))) ((2 : Int) ^ (2 : Nat))) (3689348814741910323 : Int) + ibits BinOp.and IntKind.u64 (IntKind.wrap IntKind.u64 (ibits BinOp.and IntKind.u64 (Int.fdiv x ((2 : Int) ^ (1 : Nat))) (6148914691236517205 : Int) + ibits BinOp.and IntKind.u64 x (6148914691236517205 : Int))) (3689348814741910323 : Int))) ((2 : Int) ^ (4 : Nat)) + IntKind.wrap IntKind.u64 (ibits BinOp.and IntKind.u64 (Int.fdiv (IntKind.wrap IntKind.u64 (ibits BinOp.and IntKind.u64 (Int.fdiv x ((2 : Int) ^ (1 : Nat))) (6148914691236517205 : Int) + ibits BinOp.and IntKind.u64 x (6148914691236517205 : Int))) ((2 : Int) ^ (2 : Nat))) (3689348814741910323 : Int) + ibits BinOp.and IntKind.u64 (IntKind.wrap IntKind.u64 (ibits BinOp.and IntKind.u64 (Int.fdiv x ((2 : Int) ^ (1 : Nat))) (6148914691236517205 : Int) + ibits BinOp.and IntKind.u64 x (6148914691236517205 : Int))) (3689348814741910323 : Int)))) (1085102592571150095 : Int)) ((2 : Int) ^ (8 : Nat)))) ((2 : Int) ^ (16 : Nat)))) ((2 : Int) ^ (32 : Nat))))) (127 : Int))
def bits_OnesCount64.ce : Go.Ql.Callee := ⟨[(.int .u64)], [(.int .i64)], fun x_ => bits_OnesCount64 x_⟩
def bits_OnesCount64.G : Env := ⟨35, tab, [], [0, 2], [], [], [], [], tab_eqs⟩
theorem bits_OnesCount64.eq (x_ : dens [(.int .u64)]) : den bits_OnesCount64.G Go.Proofs.Try.f62 [(.int .u64)] [(.int .i64)] x_ = bits_OnesCount64 x_ := by kernel_rfl
theorem bits_OnesCount64.ok : CalleeOk Go.Proofs.Try.prog 62 bits_OnesCount64.ce := fn_ok (G := bits_OnesCount64.G) tab_ok mixed Go.Proofs.Try.func62 ⟨fns_nil, mfns_nil, tab_eqs_ok⟩ (m := 0) (by kernel_rfl) trivial (by kernel_rfl) bits_OnesCount64.eq
def bits_OnesCount (x : Int) : Option (Int) :=
  bnd (W.bits_OnesCount64 x) fun y =>
  some y
def bits_OnesCount.ce : Go.Ql.Callee := ⟨[(.int .u64)], [(.int .i64)], fun x_ => bits_OnesCount x_⟩
def bits_OnesCount.G : Env := ⟨8, tab, [(61, bits_OnesCount32.ce), (62, bits_OnesCount64.ce)], [0, 2], [], [], [], [], tab_eqs⟩
theorem bits_OnesCount.eq (x_ : dens [(.int .u64)]) : den bits_OnesCount.G Go.Proofs.Try.f59 [(.int .u64)] [(.int .i64)] x_ = bits_OnesCount x_ := by kernel_rfl
theorem bits_OnesCount.ok : CalleeOk Go.Proofs.Try.prog 59 bits_OnesCount.ce := fn_ok (G := bits_OnesCount.G) tab_ok mixed Go.Proofs.Try.func59 ⟨(fns_cons bits_OnesCount32.ok (fns_cons bits_OnesCount64.ok fns_nil)), mfns_nil, tab_eqs_ok⟩ (m := 0) (by kernel_rfl) trivial (by kernel_rfl) bits_OnesCount.eq
abbrev qk11 : SD := .one (.val (.st (.pair (.int .u64) (.pair (.int .u64) .bool))))
abbrev qk12 : SD := .one (.ref 3 0)
def tableau_pauli_meets.c1 {ρ : Type} (p0 : Int) (p1 : Int) (o0 : Int) (o1 : Int) (k_ : Bool → Option ρ) : Option ρ :=
  bnd (W.bits_OnesCount (ibits BinOp.and IntKind.u64 p0 o1)) fun y =>
  bnd (W.bits_OnesCount (ibits BinOp.and IntKind.u64 p1 o0)) fun y_1 =>
  k_ (ibits BinOp.and IntKind.i64 y (1 : Int) != ibits BinOp.and IntKind.i64 y_1 (1 : Int))
def tableau_pauli_meets.c1s : Shape := ⟨[(0, qk11), (1, qk11), (2, qk2), (3, qk12), (4, qk7)], [(2, qk9), (3, qk9)]⟩
def tableau_pauli_meets.c1x0 : Shape := ⟨[(0, qk11), (1, qk11), (2, qk2), (3, qk12), (4, qk7)], [(2, qk9), (3, qk9)]⟩
def tableau_pauli_meets.c1r : Ck := Ck.of (T := Bool) tableau_pauli_meets.c1s (fun ρ x_ k_ => uP x_ fun p x_ => uP x_ fun o x_ => uP x_ fun t4 x_ => uP x_ fun p0 x_ => uP x_ fun p1 x_ => uP x_ fun p2 x_ => uP x_ fun o0 x_ => uP x_ fun o1 x_ => uP x_ fun o2 x_ => tableau_pauli_meets.c1 p0 p1 o0 o1 k_) (fun ρ x_ r_ k_ => uP x_ fun p x_ => uP x_ fun o x_ => uP x_ fun t4 x_ => uP x_ fun p0 x_ => uP x_ fun p1 x_ => uP x_ fun p2 x_ => uP x_ fun o0 x_ => uP x_ fun o1 x_ => uP x_ fun o2 x_ => k_ 0 (Shape.inj tableau_pauli_meets.c1x0 (p, o, r_, p0, p1, p2, o0, o1, o2, ())))
def tableau_pauli_meets (p : (Int) × ((Int) × (Bool))) (o : (Int) × ((Int) × (Bool))) : Option (Bool) :=
  bnd (W.tableau_pauli_meets.c1 (Prod.fst p) (Prod.fst (Prod.snd p)) (Prod.fst o) (Prod.fst (Prod.snd o)) some) fun y =>
  some y
def tableau_pauli_meets.ce : Go.Ql.Callee := ⟨[(.st (.pair (.int .u64) (.pair (.int .u64) .bool))), (.st (.pair (.int .u64) (.pair (.int .u64) .bool)))], [.bool], fun x_ => tableau_pauli_meets x_.1 x_.2⟩
def tableau_pauli_meets.G : Env := ⟨20, tab, [(59, bits_OnesCount.ce)], [0, 1, 2, 3, 4], [], [(1, [⟨[], [], [7, 8, 12, 13, 14, 15, 16], []⟩, ⟨[0], [], [7, 8, 12, 13, 14, 15, 16], []⟩, ⟨[], [], [5, 6, 12, 13, 14, 15, 16], []⟩, ⟨[2], [], [5, 6, 12, 13, 14, 15, 16], []⟩, ⟨[1, 0, 3, 2], [], [12, 13, 14, 15, 16], []⟩, ⟨[4, 1, 0, 3, 2], [], [12, 13, 14, 15, 16], []⟩, ⟨[5, 4, 1, 0, 3, 2], [], [12, 13, 14, 15, 16, 17, 18], []⟩, ⟨[], [], [5, 6, 7, 8, 9, 10, 11, 14, 15], []⟩, ⟨[7], [], [5, 6, 7, 8, 9, 10, 11, 14, 15], []⟩, ⟨[], [], [5, 6, 7, 8, 9, 10, 11, 12, 13], []⟩, ⟨[9], [], [5, 6, 7, 8, 9, 10, 11, 12, 13], []⟩, ⟨[8, 7, 10, 9], [], [5, 6, 7, 8, 9, 10, 11], []⟩, ⟨[11, 8, 7, 10, 9, 5, 4, 1, 0, 3, 2], [], [11], []⟩, ⟨[12, 11, 8, 7, 10, 9, 5, 4, 1, 0, 3, 2], [], [11], []⟩, ⟨[6, 5, 4, 1, 0, 3, 2, 13, 12, 11, 8, 7, 10, 9], [], [], []⟩, ⟨[14, 6, 5, 4, 1, 0, 3, 2, 13, 12, 11, 8, 7, 10, 9], [], [], []⟩])], [(1, tableau_pauli_meets.c1r)], [], tab_eqs⟩
theorem tableau_pauli_meets.eq (x_ : dens [(.st (.pair (.int .u64) (.pair (.int .u64) .bool))), (.st (.pair (.int .u64) (.pair (.int .u64) .bool)))]) : den tableau_pauli_meets.G Go.Proofs.Try.f57 [(.st (.pair (.int .u64) (.pair (.int .u64) .bool))), (.st (.pair (.int .u64) (.pair (.int .u64) .bool)))] [.bool] x_ = tableau_pauli_meets x_.1 x_.2 := by kernel_rfl
theorem tableau_pauli_meets.p0 : PieceOk tableau_pauli_meets.G (pieceAt (pieces tableau_pauli_meets.G.cks (bodyOf Go.Proofs.Try.f57)) 0).1 (pieceAt (pieces tableau_pauli_meets.G.cks (bodyOf Go.Proofs.Try.f57)) 0).2 :=
  region_ok (s := tableau_pauli_meets.c1r) (by kernel_rfl) (by kernel_rfl) (sums_of (sh := tableau_pauli_meets.c1s) (fun ρ x_ k_ => (nat_bnd fun _ => (nat_bnd fun _ => nat_leaf))) (fun ρ x_ t k => (by kernel_rfl)) (fun x_ => by kernel_rfl))
theorem tableau_pauli_meets.ok : CalleeOk Go.Proofs.Try.prog 57 tableau_pauli_meets.ce := fn_ok (G := tableau_pauli_meets.G) tab_ok mixed Go.Proofs.Try.func57 ⟨(fns_cons bits_OnesCount.ok fns_nil), mfns_nil, tab_eqs_ok⟩ (m := 1) (by kernel_rfl) ⟨trivial, tableau_pauli_meets.p0⟩ (by kernel_rfl) tableau_pauli_meets.eq
def tableau_pauli_Meets (p : (Int) × ((Int) × (Bool))) (o : (Int) × ((Int) × (Bool))) : Option (Bool) :=
  bnd (W.tableau_pauli_meets (Prod.fst p, Prod.fst (Prod.snd p), Prod.snd (Prod.snd p)) (Prod.fst o, Prod.fst (Prod.snd o), Prod.snd (Prod.snd o))) fun y =>
  some y
def tableau_pauli_Meets.ce : Go.Ql.Callee := ⟨[(.st (.pair (.int .u64) (.pair (.int .u64) .bool))), (.st (.pair (.int .u64) (.pair (.int .u64) .bool)))], [.bool], fun x_ => tableau_pauli_Meets x_.1 x_.2⟩
def tableau_pauli_Meets.G : Env := ⟨8, tab, [(57, tableau_pauli_meets.ce)], [0, 1, 2, 3, 4], [], [], [], [], tab_eqs⟩
theorem tableau_pauli_Meets.eq (x_ : dens [(.st (.pair (.int .u64) (.pair (.int .u64) .bool))), (.st (.pair (.int .u64) (.pair (.int .u64) .bool)))]) : den tableau_pauli_Meets.G Go.Proofs.Try.f50 [(.st (.pair (.int .u64) (.pair (.int .u64) .bool))), (.st (.pair (.int .u64) (.pair (.int .u64) .bool)))] [.bool] x_ = tableau_pauli_Meets x_.1 x_.2 := by kernel_rfl
theorem tableau_pauli_Meets.ok : CalleeOk Go.Proofs.Try.prog 50 tableau_pauli_Meets.ce := fn_ok (G := tableau_pauli_Meets.G) tab_ok mixed Go.Proofs.Try.func50 ⟨(fns_cons tableau_pauli_meets.ok fns_nil), mfns_nil, tab_eqs_ok⟩ (m := 0) (by kernel_rfl) trivial (by kernel_rfl) tableau_pauli_Meets.eq
def tableau_pauli_Bare (p : (Int) × ((Int) × (Bool))) : Option (List Int) :=
  bnd (okIf (decide (List.length (List.set (List.set (List.replicate (2 : Nat) (0 : Int)) (0 : Nat) (Prod.fst p)) (1 : Nat) (Prod.fst (Prod.snd p))) = List.length (List.replicate (2 : Nat) (0 : Int))))) fun y =>
  bnd (okIf (decide (List.length (List.set (List.set (List.replicate (2 : Nat) (0 : Int)) (0 : Nat) (Prod.fst p)) (1 : Nat) (Prod.fst (Prod.snd p))) = (2 : Nat)))) fun y_1 =>
  some (List.set (List.set (List.replicate (2 : Nat) (0 : Int)) (0 : Nat) (Prod.fst p)) (1 : Nat) (Prod.fst (Prod.snd p)))
def tableau_pauli_Bare.ce : Go.Ql.Callee := ⟨[(.st (.pair (.int .u64) (.pair (.int .u64) .bool)))], [(.ar 2 (.int .u64))], fun x_ => tableau_pauli_Bare x_⟩
def tableau_pauli_Bare.G : Env := ⟨8, tab, [], [0, 1, 2], [2, 7], [], [], [], tab_eqs⟩
theorem tableau_pauli_Bare.eq (x_ : dens [(.st (.pair (.int .u64) (.pair (.int .u64) .bool)))]) : den tableau_pauli_Bare.G Go.Proofs.Try.f39 [(.st (.pair (.int .u64) (.pair (.int .u64) .bool)))] [(.ar 2 (.int .u64))] x_ = tableau_pauli_Bare x_ := by kernel_rfl
theorem tableau_pauli_Bare.ok : CalleeOk Go.Proofs.Try.prog 39 tableau_pauli_Bare.ce := fn_ok (G := tableau_pauli_Bare.G) tab_ok mixed Go.Proofs.Try.func39 ⟨fns_nil, mfns_nil, tab_eqs_ok⟩ (m := 0) (by kernel_rfl) trivial (by kernel_rfl) tableau_pauli_Bare.eq
def code_vector (p : List (Int)) : Option (Int) :=
  bnd (inR (List.length p) (0 : Int)) fun y =>
  bnd (idx p (0 : Int)) fun y_1 =>
  bnd (inR (List.length p) (1 : Int)) fun y_2 =>
  bnd (idx p (1 : Int)) fun y_3 =>
  some (ibits BinOp.or IntKind.u64 (IntKind.wrap IntKind.u64 (y_1 * (2 : Int) ^ (16 : Nat))) y_3)
def code_vector.ce : Go.Ql.Callee := ⟨[(.ar 2 (.int .u64))], [(.int .u64)], fun x_ => code_vector x_⟩
def code_vector.G : Env := ⟨9, tab, [], [0, 1, 2], [1], [], [], [], tab_eqs⟩
theorem code_vector.eq (x_ : dens [(.ar 2 (.int .u64))]) : den code_vector.G Go.Proofs.Try.f38 [(.ar 2 (.int .u64))] [(.int .u64)] x_ = code_vector x_ := by kernel_rfl
theorem code_vector.ok : CalleeOk Go.Proofs.Try.prog 38 code_vector.ce := fn_ok (G := code_vector.G) tab_ok mixed Go.Proofs.Try.func38 ⟨fns_nil, mfns_nil, tab_eqs_ok⟩ (m := 0) (by kernel_rfl) trivial (by kernel_rfl) code_vector.eq
abbrev qk13 : SD := .one (.val (.int .u64))
def bits_Len64.c204103 {ρ : Type} (x : Int) (n : Int) (k_ : (Int) × (Int) → Option ρ) : Option ρ :=
  br (decide (x ≥ (4294967296 : Int)))
   (k_ ((Int.fdiv x ((2 : Int) ^ (32 : Nat))), (32 : Int)))
   (k_ (x, n))
def bits_Len64.c204103s : Shape := ⟨[(0, qk13), (2, qk5)], []⟩
def bits_Len64.c204103x0 : Shape := ⟨[(0, qk13), (2, qk5)], []⟩
def bits_Len64.c204103r : Ck := Ck.of (T := (Int) × (Int)) bits_Len64.c204103s (fun ρ x_ k_ => uP x_ fun x x_ => uP x_ fun n x_ => bits_Len64.c204103 x n k_) (fun ρ x_ r_ k_ => uP x_ fun x x_ => uP x_ fun n x_ => k_ 0 (Shape.inj bits_Len64.c204103x0 (r_.1, r_.2, ())))
def bits_Len64.c216391 {ρ : Type} (x : Int) (n : Int) (k_ : (Int) × (Int) → Option ρ) : Option ρ :=
  br (decide (x ≥ (65536 : Int)))
   (k_ ((Int.fdiv x ((2 : Int) ^ (16 : Nat))), (IntKind.wrap IntKind.i64 (n + (16 : Int)))))
   (k_ (x, n))
def bits_Len64.c216391s : Shape := ⟨[(0, qk13), (2, qk5)], []⟩
def bits_Len64.c216391x0 : Shape := ⟨[(0, qk13), (2, qk5)], []⟩
def bits_Len64.c216391r : Ck := Ck.of (T := (Int) × (Int)) bits_Len64.c216391s (fun ρ x_ k_ => uP x_ fun x x_ => uP x_ fun n x_ => bits_Len64.c216391 x n k_) (fun ρ x_ r_ k_ => uP x_ fun x x_ => uP x_ fun n x_ => k_ 0 (Shape.inj bits_Len64.c216391x0 (r_.1, r_.2, ())))
def bits_Len64.c228679 {ρ : Type} (x : Int) (n : Int) (k_ : (Int) × (Int) → Option ρ) : Option ρ :=
  br (decide (x ≥ (256 : Int)))
   (k_ ((Int.fdiv x ((2 : Int) ^ (8 : Nat))), (IntKind.wrap IntKind.i64 (n + (8 : Int)))))
   (k_ (x, n))
def bits_Len64.c228679s : Shape := ⟨[(0, qk13), (2, qk5)], []⟩
def bits_Len64.c228679x0 : Shape := ⟨[(0, qk13), (2, qk5)], []⟩
def bits_Len64.c228679r : Ck := Ck.of (T := (Int) × (Int)) bits_Len64.c228679s (fun ρ x_ k_ => uP x_ fun x x_ => uP x_ fun n x_ => bits_Len64.c228679 x n k_) (fun ρ x_ r_ k_ => uP x_ fun x x_ => uP x_ fun n x_ => k_ 0 (Shape.inj bits_Len64.c228679x0 (r_.1, r_.2, ())))
def bits_Len64 (x : Int) : Option (Int) :=
  bnd (W.bits_Len64.c204103 x (0 : Int) some) fun y =>
  bnd (W.bits_Len64.c216391 (Prod.fst y) (Prod.snd y) some) fun y_1 =>
  bnd (W.bits_Len64.c228679 (Prod.fst y_1) (Prod.snd y_1) some) fun y_2 =>
  bnd (idx (Array.toList (ByteArray.data (ByteArray.mk (List.toArray (List.append (List.append [(0 : UInt8), (1 : UInt8), (2 : UInt8), (2 : UInt8), (3 : UInt8), (3 : UInt8), (3 : UInt8), (3 : UInt8), (4 : UInt8), (4 : UInt8), (4 : UInt8), (4 : UInt8), (4 : UInt8), (4 : UInt8), (4 : UInt8), (4 : UInt8), (5 : UInt8), (5 : UInt8), (5 : UInt8), (5 : UInt8), (5 : UInt8), (5 : UInt8), (5 : UInt8), (5 : UInt8), (5 : UInt8), (5 : UInt8), (5 : UInt8), (5 : UInt8), (5 : UInt8), (5 : UInt8), (5 : UInt8), (5 : UInt8), (6 : UInt8), (6 : UInt8), (6 : UInt8), (6 : UInt8), (6 : UInt8), (6 : UInt8), (6 : UInt8), (6 : UInt8), (6 : UInt8), (6 : UInt8), (6 : UInt8), (6 : UInt8), (6 : UInt8), (6 : UInt8), (6 : UInt8), (6 : UInt8), (6 : UInt8), (6 : UInt8), (6 : UInt8), (6 : UInt8), (6 : UInt8), (6 : UInt8), (6 : UInt8), (6 : UInt8), (6 : UInt8), (6 : UInt8), (6 : UInt8), (6 : UInt8), (6 : UInt8), (6 : UInt8), (6 : UInt8), (6 : UInt8)] [(7 : UInt8), (7 : UInt8), (7 : UInt8), (7 : UInt8), (7 : UInt8), (7 : UInt8), (7 : UInt8), (7 : UInt8), (7 : UInt8), (7 : UInt8), (7 : UInt8), (7 : UInt8), (7 : UInt8), (7 : UInt8), (7 : UInt8), (7 : UInt8), (7 : UInt8), (7 : UInt8), (7 : UInt8), (7 : UInt8), (7 : UInt8), (7 : UInt8), (7 : UInt8), (7 : UInt8), (7 : UInt8), (7 : UInt8), (7 : UInt8), (7 : UInt8), (7 : UInt8), (7 : UInt8), (7 : UInt8), (7 : UInt8), (7 : UInt8), (7 : UInt8), (7 : UInt8), (7 : UInt8), (7 : UInt8), (7 : UInt8), (7 : UInt8), (7 : UInt8), (7 : UInt8), (7 : UInt8), (7 : UInt8), (7 : UInt8), (7 : UInt8), (7 : UInt8), (7 : UInt8), (7 : UInt8), (7 : UInt8), (7 : UInt8), (7 : UInt8), (7 : UInt8), (7 : UInt8), (7 : UInt8), (7 : UInt8), (7 : UInt8), (7 : UInt8), (7 : UInt8), (7 : UInt8), (7 : UInt8), (7 : UInt8), (7 : UInt8), (7 : UInt8), (7 : UInt8)]) (List.append [(8 : UInt8), (8 : UInt8), (8 : UInt8), (8 : UInt8), (8 : UInt8), (8 : UInt8), (8 : UInt8), (8 : UInt8), (8 : UInt8), (8 : UInt8), (8 : UInt8), (8 : UInt8), (8 : UInt8), (8 : UInt8), (8 : UInt8), (8 : UInt8), (8 : UInt8), (8 : UInt8), (8 : UInt8), (8 : UInt8), (8 : UInt8), (8 : UInt8), (8 : UInt8), (8 : UInt8), (8 : UInt8), (8 : UInt8), (8 : UInt8), (8 : UInt8), (8 : UInt8), (8 : UInt8), (8 : UInt8), (8 : UInt8), (8 : UInt8), (8 : UInt8), (8 : UInt8), (8 : UInt8), (8 : UInt8), (8 : UInt8), (8 : UInt8), (8 : UInt8), (8 : UInt8), (8 : UInt8), (8 : UInt8), (8 : UInt8), (8 : UInt8), (8 : UInt8), (8 : UInt8), (8 : UInt8), (8 : UInt8), (8 : UInt8), (8 : UInt8), (8 : UInt8), (8 : UInt8), (8 : UInt8), (8 : UInt8), (8 : UInt8), (8 : UInt8), (8 : UInt8), (8 : UInt8), (8 : UInt8), (8 : UInt8), (8 : UInt8), (8 : UInt8), (8 : UInt8)] [(8 : UInt8), (8 : UInt8), (8 : UInt8), (8 : UInt8), (8 : UInt8), (8 : UInt8), (8 : UInt8), (8 : UInt8), (8 : UInt8), (8 : UInt8), (8 : UInt8), (8 : UInt8), (8 : UInt8), (8 : UInt8), (8 : UInt8), (8 : UInt8), (8 : UInt8), (8 : UInt8), (8 : UInt8), (8 : UInt8), (8 : UInt8), (8 : UInt8), (8 : UInt8), (8 : UInt8), (8 : UInt8), (8 : UInt8), (8 : UInt8), (8 : UInt8), (8 : UInt8), (8 : UInt8), (8 : UInt8), (8 : UInt8), (8 : UInt8), (8 : UInt8), (8 : UInt8), (8 : UInt8), (8 : UInt8), (8 : UInt8), (8 : UInt8), (8 : UInt8), (8 : UInt8), (8 : UInt8), (8 : UInt8), (8 : UInt8), (8 : UInt8), (8 : UInt8), (8 : UInt8), (8 : UInt8), (8 : UInt8), (8 : UInt8), (8 : UInt8), (8 : UInt8), (8 : UInt8), (8 : UInt8), (8 : UInt8), (8 : UInt8), (8 : UInt8), (8 : UInt8), (8 : UInt8), (8 : UInt8), (8 : UInt8), (8 : UInt8), (8 : UInt8), (8 : UInt8)])))))) (IntKind.wrap IntKind.u8 (Prod.fst y_2))) fun y_3 =>
  some (IntKind.wrap IntKind.i64 (Prod.snd y_2 + IntKind.wrap IntKind.i64 (↑(UInt8.toNat y_3) : Int)))
def bits_Len64.ce : Go.Ql.Callee := ⟨[(.int .u64)], [(.int .i64)], fun x_ => bits_Len64 x_⟩
def bits_Len64.G : Env := ⟨25, tab, [], [0, 2, 4, 8, 14], [], [], [(228679, bits_Len64.c228679r), (216391, bits_Len64.c216391r), (204103, bits_Len64.c204103r)], [], tab_eqs⟩
theorem bits_Len64.eq (x_ : dens [(.int .u64)]) : den bits_Len64.G Go.Proofs.Try.f54 [(.int .u64)] [(.int .i64)] x_ = bits_Len64 x_ := by kernel_rfl
theorem bits_Len64.p0 : PieceOk bits_Len64.G (pieceAt (pieces bits_Len64.G.cks (bodyOf Go.Proofs.Try.f54)) 0).1 (pieceAt (pieces bits_Len64.G.cks (bodyOf Go.Proofs.Try.f54)) 0).2 :=
  join_ok (s := bits_Len64.c204103r) (by kernel_rfl) (by kernel_rfl) (sums_of (sh := bits_Len64.c204103s) (fun ρ x_ k_ => (nat_br nat_leaf nat_leaf)) (fun ρ x_ t k => (by kernel_rfl)) (fun x_ => by kernel_rfl))
theorem bits_Len64.p1 : PieceOk bits_Len64.G (pieceAt (pieces bits_Len64.G.cks (bodyOf Go.Proofs.Try.f54)) 1).1 (pieceAt (pieces bits_Len64.G.cks (bodyOf Go.Proofs.Try.f54)) 1).2 :=
  join_ok (s := bits_Len64.c216391r) (by kernel_rfl) (by kernel_rfl) (sums_of (sh := bits_Len64.c216391s) (fun ρ x_ k_ => (nat_br nat_leaf nat_leaf)) (fun ρ x_ t k => (by kernel_rfl)) (fun x_ => by kernel_rfl))
theorem bits_Len64.p2 : PieceOk bits_Len64.G (pieceAt (pieces bits_Len64.G.cks (bodyOf Go.Proofs.Try.f54)) 2).1 (pieceAt (pieces bits_Len64.G.cks (bodyOf Go.Proofs.Try.f54)) 2).2 :=
  join_ok (s := bits_Len64.c228679r) (by kernel_rfl) (by kernel_rfl) (sums_of (sh := bits_Len64.c228679s) (fun ρ x_ k_ => (nat_br nat_leaf nat_leaf)) (fun ρ x_ t k => (by kernel_rfl)) (fun x_ => by kernel_rfl))
theorem bits_Len64.ok : CalleeOk Go.Proofs.Try.prog 54 bits_Len64.ce := fn_ok (G := bits_Len64.G) tab_ok mixed Go.Proofs.Try.func54 ⟨fns_nil, mfns_nil, tab_eqs_ok⟩ (m := 3) (by kernel_rfl) ⟨⟨⟨trivial, bits_Len64.p0⟩, bits_Len64.p1⟩, bits_Len64.p2⟩ (by kernel_rfl) bits_Len64.eq
abbrev qk14 : SD := .one (.own 2000000 0)
abbrev qk15 : SO := .arr 0 false 69 (.sl (.pair (.int .i64) (.int .u64)))
def code_basis_rest.pre : Shape := ⟨[(0, qk14), (1, qk13)], [(2000000, qk15)]⟩
def code_basis_rest.post : Shape := ⟨[(0, qk13)], [(2000000, qk15)]⟩
def code_basis_rest.c100001 {ρ : Type} (v : Int) (t2000000 : List (List ((Int) × (Int)))) (k_ : (Int) ⊕ (((Int) × (Int)) ⊕ (Int)) → Option ρ) : Option ρ :=
  br (v != (0 : Int))
   (bnd (W.bits_Len64 v) fun y =>
    br (!Option.isSome (mget t2000000 y))
     (k_ (.inr (.inl (v, v))))
     (k_ (.inl (ibits BinOp.xor IntKind.u64 v (mzero (mget t2000000 y))))))
   (k_ (.inr (.inr v)))
def code_basis_rest.c100001s : Shape := ⟨[(0, qk14), (1, qk13), (4, qk13)], [(2000000, qk15)]⟩
def code_basis_rest.c100001x0 : Shape := ⟨[(0, qk14), (1, qk13), (4, qk13)], [(2000000, qk15)]⟩
def code_basis_rest.c100001x1 : Shape := ⟨[(0, qk14), (1, qk13), (4, qk13)], [(2000000, qk15)]⟩
def code_basis_rest.c100001r : Ck := Ck.ofLoop (S := Int) (T := ((Int) × (Int)) ⊕ (Int)) code_basis_rest.c100001s (fun x_ => uP x_ fun v x_ => uP x_ fun t4 x_ => uP x_ fun t2000000 x_ => v) (fun ρ x_ s_ k_ => uP x_ fun v x_ => uP x_ fun t4 x_ => uP x_ fun t2000000 x_ => code_basis_rest.c100001 s_ t2000000 k_) (fun ρ x_ r_ k_ => uP x_ fun v x_ => uP x_ fun t4 x_ => uP x_ fun t2000000 x_ => sel r_ (fun r_ => k_ 1 (Shape.inj code_basis_rest.c100001x0 (r_.1, r_.2, t2000000, ()))) (fun r_ => k_ 2 (Shape.inj code_basis_rest.c100001x1 (r_, t4, t2000000, ()))))
def code_basis_rest (v : Int) (t2000000 : List (List ((Int) × (Int)))) : Option ((Int) × (List (List ((Int) × (Int)))) × Unit) :=
  bnd (iter (fun s ↦ W.code_basis_rest.c100001 s t2000000 some) v) fun y =>
  sel y
   (fun u => some (uP (uP (Prod.snd u, ()) fun u r ↦ (u, ())) fun u r ↦ (u, uP (t2000000, ()) fun u r ↦ (u, ()))))
   (fun v_1 => some (uP (uP ((0 : Int), ()) fun u r ↦ (u, ())) fun u r ↦ (u, uP (t2000000, ()) fun u r ↦ (u, ()))))
def code_basis_rest.mc : MCallee := ⟨37, code_basis_rest.pre, code_basis_rest.post, fun x_ => code_basis_rest x_.1 x_.2.1⟩
def code_basis_rest.G : Env := ⟨22, tab, [(54, bits_Len64.ce)], [0, 1, 4, 5, 6, 8, 17], [2000000], [], [(100001, code_basis_rest.c100001r)], [], tab_eqs⟩
theorem code_basis_rest.eq (x_ : densU code_basis_rest.mc.pre.tys) : denM code_basis_rest.G Go.Proofs.Try.f37 code_basis_rest.mc.pre code_basis_rest.mc.post x_ = code_basis_rest.mc.F x_ := by kernel_rfl
theorem code_basis_rest.p0 : PieceOk code_basis_rest.G (pieceAt (pieces code_basis_rest.G.cks (bodyOf Go.Proofs.Try.f37)) 0).1 (pieceAt (pieces code_basis_rest.G.cks (bodyOf Go.Proofs.Try.f37)) 0).2 :=
  loop_ok (s := code_basis_rest.c100001r) (by kernel_rfl) (by kernel_rfl) (loops_of (sh := code_basis_rest.c100001s) (I := fun x_ s_ => (s_, x_.2.1, x_.2.2.1, ())) (fun x_ => rfl) (fun ρ x_ s_ k_ => (nat_br (nat_bnd fun _ => (nat_br nat_leaf nat_leaf)) nat_leaf)) (fun ρ x_ t k => (nat_sel (fun _ => (by kernel_rfl)) (fun _ => (by kernel_rfl)))) (fun x_ s => by kernel_rfl))
theorem code_basis_rest.ok : MOk Go.Proofs.Try.prog 37 code_basis_rest.mc := fnm_ok (G := code_basis_rest.G) tab_ok mixed Go.Proofs.Try.func37 ⟨(fns_cons bits_Len64.ok fns_nil), mfns_nil, tab_eqs_ok⟩ (m := 1) (by kernel_rfl) ⟨trivial, code_basis_rest.p0⟩ (by kernel_rfl) code_basis_rest.eq
abbrev qk16 : SD := .one (.val (.ar 2 (.int .u64)))
def code_basis_add.pre : Shape := ⟨[(0, qk14), (1, qk16)], [(2000000, qk15)]⟩
def code_basis_add.post : Shape := ⟨[(0, qk7)], [(2000000, qk15)]⟩
def code_basis_add (p : List (Int)) (t2000000 : List (List ((Int) × (Int)))) : Option ((Bool) × (List (List ((Int) × (Int)))) × Unit) :=
  bnd (okIf (decide (List.length p = (2 : Nat)))) fun y =>
  bnd (W.code_vector p) fun y_1 =>
  bnd (W.code_basis_rest (Prod.fst (uP (uP (y_1, ()) fun u r ↦ (u, ())) fun u r ↦ (u, uP (t2000000, ()) fun u r ↦ (u, ())))) (Prod.fst (Prod.snd (uP (uP (y_1, ()) fun u r ↦ (u, ())) fun u r ↦ (u, uP (t2000000, ()) fun u r ↦ (u, ())))))) fun y_2 =>
  br (Prod.fst y_2 == (0 : Int))
   (some (uP (uP (false, ()) fun u r ↦ (u, ())) fun u r ↦ (u, uP (Prod.fst y_2.2, ()) fun u r ↦ (u, ()))))
   (bnd (W.bits_Len64 (Prod.fst y_2)) fun y_3 =>
    some (uP (uP (true, ()) fun u r ↦ (u, ())) fun u r ↦ (u, uP (mput (Prod.fst y_2.2) y_3 (Prod.fst y_2), ()) fun u r ↦ (u, ()))))
def code_basis_add.mc : MCallee := ⟨51, code_basis_add.pre, code_basis_add.post, fun x_ => code_basis_add x_.1 x_.2.1⟩
def code_basis_add.G : Env := ⟨16, tab, [(38, code_vector.ce), (54, bits_Len64.ce)], [0, 1, 3, 4, 5, 11], [3, 2000000], [], [], [(37, code_basis_rest.mc)], tab_eqs⟩
theorem code_basis_add.eq (x_ : densU code_basis_add.mc.pre.tys) : denM code_basis_add.G Go.Proofs.Try.f51 code_basis_add.mc.pre code_basis_add.mc.post x_ = code_basis_add.mc.F x_ := by kernel_rfl
theorem code_basis_add.ok : MOk Go.Proofs.Try.prog 51 code_basis_add.mc := fnm_ok (G := code_basis_add.G) tab_ok mixed Go.Proofs.Try.func51 ⟨(fns_cons code_vector.ok (fns_cons bits_Len64.ok fns_nil)), (mfns_cons code_basis_rest.ok mfns_nil), tab_eqs_ok⟩ (m := 0) (by kernel_rfl) trivial (by kernel_rfl) code_basis_add.eq
def code_read_1 (t0 : Int) (t1 : Int) : Option ((List ((Int) × ((Int) × (Bool)))) × ((Int) × (Int))) :=
  some ([], t0, t1)
def code_read_1.ce : Go.Ql.Callee := ⟨[(.int .i64), (.int .i64)], [(.sl (.st (.pair (.int .u64) (.pair (.int .u64) .bool)))), (.st (.pair (.int .i64) (.int .i64)))], fun x_ => code_read_1 x_.1 x_.2⟩
def code_read_1.G : Env := ⟨9, tab, [], [0, 1, 4, 5], [], [], [], [], tab_eqs⟩
theorem code_read_1.eq (x_ : dens [(.int .i64), (.int .i64)]) : den code_read_1.G Go.Proofs.Try.f49 [(.int .i64), (.int .i64)] [(.sl (.st (.pair (.int .u64) (.pair (.int .u64) .bool)))), (.st (.pair (.int .i64) (.int .i64)))] x_ = code_read_1 x_.1 x_.2 := by kernel_rfl
theorem code_read_1.ok : CalleeOk Go.Proofs.Try.prog 49 code_read_1.ce := fn_ok (G := code_read_1.G) tab_ok mixed Go.Proofs.Try.func49 ⟨fns_nil, mfns_nil, tab_eqs_ok⟩ (m := 0) (by kernel_rfl) trivial (by kernel_rfl) code_read_1.eq
abbrev qk17 : SD := .one (.val (.sl (.st (.pair (.int .u64) (.pair (.int .u64) .bool)))))
abbrev qk18 : SD := .one (.fn 49)
abbrev qk19 : SO := .box [.val (.int .i64), .val (.int .i64)]
abbrev qk20 : SD := .one (.own 5 0)
abbrev qk21 : SD := .one (.val (.sl .str))
abbrev qk22 : SO := .arr 0 false 63 (.st (.pair (.int .u64) (.pair (.int .u64) .bool)))
abbrev qk23 : SD := .one (.ref 11 0)
abbrev qk24 : SD := .one (.own 91 0)
def code_read.c2 {ρ : Type} (c0 : Int) (k_ : Bool → Option ρ) : Option ρ :=
  br (decide (c0 < (1 : Int)))
   (k_ true)
   (k_ (decide (c0 > (12 : Int))))
def code_read.c2s : Shape := ⟨[(0, qk0), (1, qk1), (2, qk17), (3, qk12), (4, qk18)], [(1, qk3), (3, qk19)]⟩
def code_read.c2x0 : Shape := ⟨[(0, qk0), (1, qk1), (2, qk17), (3, qk12), (4, qk18), (24, qk7)], [(1, qk3), (3, qk19)]⟩
def code_read.c2r : Ck := Ck.of (T := Bool) code_read.c2s (fun ρ x_ k_ => uP x_ fun c x_ => uP x_ fun t2 x_ => uP x_ fun c0 x_ => uP x_ fun c1 x_ => uP x_ fun t30 x_ => uP x_ fun t31 x_ => code_read.c2 c0 k_) (fun ρ x_ r_ k_ => uP x_ fun c x_ => uP x_ fun t2 x_ => uP x_ fun c0 x_ => uP x_ fun c1 x_ => uP x_ fun t30 x_ => uP x_ fun t31 x_ => k_ 0 (Shape.inj code_read.c2x0 (c, t2, r_, c0, c1, t30, t31, ())))
def code_read.c100008 {ρ : Type} (t40 : List (List UInt8)) (t41 : Int) (t42 : Int) (c0 : Int) (l : List ((Int) × ((Int) × (Bool)))) (k_ : ((Int) × (List ((Int) × ((Int) × (Bool))))) ⊕ (((List ((Int) × ((Int) × (Bool)))) × (Int) × (Int) × (Int) × (List ((Int) × ((Int) × (Bool))))) ⊕ ((Int) × (List ((Int) × ((Int) × (Bool)))))) → Option ρ) : Option ρ :=
  br (decide (t42 < t41))
   (bnd (idx t40 t42) fun y =>
    bnd (W.tableau_Read y c0) fun y_1 =>
    br (!Prod.snd y_1)
     (bnd (W.code_read_1 (33 : Int) t42) fun y_2 =>
      k_ (.inr (.inl ((Prod.fst y_2), t42, (Prod.fst (Prod.snd y_2)), (Prod.snd (Prod.snd y_2)), l))))
     (bnd (okIf (decide ((List.length l + (1 : Nat)) * (24 : Nat) ≤ (140737488355328 : Nat)) && decide (List.length l + (1 : Nat) ≤ (140737488355328 : Nat)))) fun y_3 =>
      k_ (.inl ((IntKind.wrap IntKind.i64 (t42 + (1 : Int))), (l ++ [(Prod.fst (Prod.fst y_1), Prod.fst (Prod.snd (Prod.fst y_1)), Prod.snd (Prod.snd (Prod.fst y_1)))])))))
   (k_ (.inr (.inr (t42, l))))
def code_read.c100008s : Shape := ⟨[(0, qk0), (1, qk1), (2, qk17), (3, qk12), (4, qk18), (5, qk20), (40, qk21), (41, qk5), (42, qk5)], [(1, qk3), (3, qk19), (5, qk22)]⟩
def code_read.c100008x0 : Shape := ⟨[(0, qk0), (1, qk1), (2, qk17), (3, qk12), (4, qk18), (5, qk20), (40, qk21), (41, qk5), (42, qk5)], [(1, qk3), (3, qk19), (5, qk22)]⟩
def code_read.c100008x1 : Shape := ⟨[(0, qk0), (1, qk1), (2, qk17), (3, qk12), (4, qk18), (5, qk20), (40, qk21), (41, qk5), (42, qk5)], [(1, qk3), (3, qk19), (5, qk22)]⟩
def code_read.c100008r : Ck := Ck.ofLoop (S := (Int) × (List ((Int) × ((Int) × (Bool))))) (T := ((List ((Int) × ((Int) × (Bool)))) × (Int) × (Int) × (Int) × (List ((Int) × ((Int) × (Bool))))) ⊕ ((Int) × (List ((Int) × ((Int) × (Bool)))))) code_read.c100008s (fun x_ => uP x_ fun c x_ => uP x_ fun t2 x_ => uP x_ fun t40 x_ => uP x_ fun t41 x_ => uP x_ fun t42 x_ => uP x_ fun c0 x_ => uP x_ fun c1 x_ => uP x_ fun t30 x_ => uP x_ fun t31 x_ => uP x_ fun l x_ => (t42, l)) (fun ρ x_ s_ k_ => uP x_ fun c x_ => uP x_ fun t2 x_ => uP x_ fun t40 x_ => uP x_ fun t41 x_ => uP x_ fun t42 x_ => uP x_ fun c0 x_ => uP x_ fun c1 x_ => uP x_ fun t30 x_ => uP x_ fun t31 x_ => uP x_ fun l x_ => code_read.c100008 t40 t41 s_.1 c0 s_.2 k_) (fun ρ x_ r_ k_ => uP x_ fun c x_ => uP x_ fun t2 x_ => uP x_ fun t40 x_ => uP x_ fun t41 x_ => uP x_ fun t42 x_ => uP x_ fun c0 x_ => uP x_ fun c1 x_ => uP x_ fun t30 x_ => uP x_ fun t31 x_ => uP x_ fun l x_ => sel r_ (fun r_ => k_ 1 (Shape.inj code_read.c100008x0 (c, r_.1, t40, t41, r_.2.1, c0, c1, r_.2.2.1, r_.2.2.2.1, r_.2.2.2.2, ()))) (fun r_ => k_ 2 (Shape.inj code_read.c100008x1 (c, t2, t40, t41, r_.1, c0, c1, t30, t31, r_.2, ()))))
def code_read.c100019 {ρ : Type} (i : Int) (t75 : List ((Int) × ((Int) × (Bool)))) (t76 : Int) (t77 : Int) (p0 : Int) (p1 : Int) (p2 : Bool) (k_ : (Int) ⊕ (((List ((Int) × ((Int) × (Bool)))) × (Int) × (Int) × (Int)) ⊕ (Int)) → Option ρ) : Option ρ :=
  br (decide (t77 < t76))
   (bnd (idx t75 t77) fun y =>
    bnd (W.tableau_pauli_Meets (p0, p1, p2) (Prod.fst y, Prod.fst (Prod.snd y), Prod.snd (Prod.snd y))) fun y_1 =>
    br y_1
     (bnd (W.code_read_1 (34 : Int) i) fun y_2 =>
      k_ (.inr (.inl ((Prod.fst y_2), t77, (Prod.fst (Prod.snd y_2)), (Prod.snd (Prod.snd y_2))))))
     (k_ (.inl (IntKind.wrap IntKind.i64 (t77 + (1 : Int))))))
   (k_ (.inr (.inr t77)))
def code_read.c100019s : Shape := ⟨[(0, qk0), (1, qk1), (2, qk17), (3, qk12), (4, qk18), (5, qk17), (10, qk5), (11, qk23), (40, qk21), (41, qk5), (42, qk5), (66, qk17), (67, qk5), (68, qk5), (75, qk17), (76, qk5), (77, qk5)], [(1, qk3), (3, qk19), (11, qk9)]⟩
def code_read.c100019x0 : Shape := ⟨[(0, qk0), (1, qk1), (2, qk17), (3, qk12), (4, qk18), (5, qk17), (10, qk5), (11, qk23), (40, qk21), (41, qk5), (42, qk5), (66, qk17), (67, qk5), (68, qk5), (75, qk17), (76, qk5), (77, qk5)], [(1, qk3), (3, qk19), (11, qk9)]⟩
def code_read.c100019x1 : Shape := ⟨[(0, qk0), (1, qk1), (2, qk17), (3, qk12), (4, qk18), (5, qk17), (10, qk5), (11, qk23), (40, qk21), (41, qk5), (42, qk5), (66, qk17), (67, qk5), (68, qk5), (75, qk17), (76, qk5), (77, qk5)], [(1, qk3), (3, qk19), (11, qk9)]⟩
def code_read.c100019r : Ck := Ck.ofLoop (S := Int) (T := ((List ((Int) × ((Int) × (Bool)))) × (Int) × (Int) × (Int)) ⊕ (Int)) code_read.c100019s (fun x_ => uP x_ fun c x_ => uP x_ fun t2 x_ => uP x_ fun l x_ => uP x_ fun i x_ => uP x_ fun t40 x_ => uP x_ fun t41 x_ => uP x_ fun t42 x_ => uP x_ fun t66 x_ => uP x_ fun t67 x_ => uP x_ fun t68 x_ => uP x_ fun t75 x_ => uP x_ fun t76 x_ => uP x_ fun t77 x_ => uP x_ fun c0 x_ => uP x_ fun c1 x_ => uP x_ fun t30 x_ => uP x_ fun t31 x_ => uP x_ fun p0 x_ => uP x_ fun p1 x_ => uP x_ fun p2 x_ => t77) (fun ρ x_ s_ k_ => uP x_ fun c x_ => uP x_ fun t2 x_ => uP x_ fun l x_ => uP x_ fun i x_ => uP x_ fun t40 x_ => uP x_ fun t41 x_ => uP x_ fun t42 x_ => uP x_ fun t66 x_ => uP x_ fun t67 x_ => uP x_ fun t68 x_ => uP x_ fun t75 x_ => uP x_ fun t76 x_ => uP x_ fun t77 x_ => uP x_ fun c0 x_ => uP x_ fun c1 x_ => uP x_ fun t30 x_ => uP x_ fun t31 x_ => uP x_ fun p0 x_ => uP x_ fun p1 x_ => uP x_ fun p2 x_ => code_read.c100019 i t75 t76 s_ p0 p1 p2 k_) (fun ρ x_ r_ k_ => uP x_ fun c x_ => uP x_ fun t2 x_ => uP x_ fun l x_ => uP x_ fun i x_ => uP x_ fun t40 x_ => uP x_ fun t41 x_ => uP x_ fun t42 x_ => uP x_ fun t66 x_ => uP x_ fun t67 x_ => uP x_ fun t68 x_ => uP x_ fun t75 x_ => uP x_ fun t76 x_ => uP x_ fun t77 x_ => uP x_ fun c0 x_ => uP x_ fun c1 x_ => uP x_ fun t30 x_ => uP x_ fun t31 x_ => uP x_ fun p0 x_ => uP x_ fun p1 x_ => uP x_ fun p2 x_ => sel r_ (fun r_ => k_ 1 (Shape.inj code_read.c100019x0 (c, r_.1, l, i, t40, t41, t42, t66, t67, t68, t75, t76, r_.2.1, c0, c1, r_.2.2.1, r_.2.2.2, p0, p1, p2, ()))) (fun r_ => k_ 6 (Shape.inj code_read.c100019x1 (c, t2, l, i, t40, t41, t42, t66, t67, t68, t75, t76, r_, c0, c1, t30, t31, p0, p1, p2, ()))))
def code_read.c100016 {ρ : Type} (l : List ((Int) × ((Int) × (Bool)))) (t66 : List ((Int) × ((Int) × (Bool)))) (t67 : Int) (t68 : Int) (k_ : (Int) ⊕ (((List ((Int) × ((Int) × (Bool)))) × (Int) × (Int) × (Int)) ⊕ (Int)) → Option ρ) : Option ρ :=
  br (decide (t68 < t67))
   (bnd (idx t66 t68) fun y =>
    bnd (okIf (decide ((0 : Int) ≤ t68) && decide (t68 ≤ (↑(List.length l) : Int)))) fun y_1 =>
    bnd (iter (fun s ↦ W.code_read.c100019 t68 (List.take (Int.toNat t68) l) (↑(List.length (List.take (Int.toNat t68) l)) : Int) s (Prod.fst y) (Prod.fst (Prod.snd y)) (Prod.snd (Prod.snd y)) some) (0 : Int)) fun y_2 =>
    sel y_2
     (fun u => k_ (.inr (.inl ((Prod.fst u), t68, (Prod.fst (Prod.snd (Prod.snd u))), (Prod.snd (Prod.snd (Prod.snd u)))))))
     (fun v => k_ (.inl (IntKind.wrap IntKind.i64 (t68 + (1 : Int))))))
   (k_ (.inr (.inr t68)))
def code_read.c100016s : Shape := ⟨[(0, qk0), (1, qk1), (2, qk17), (3, qk12), (4, qk18), (5, qk17), (40, qk21), (41, qk5), (42, qk5), (66, qk17), (67, qk5), (68, qk5)], [(1, qk3), (3, qk19)]⟩
def code_read.c100016x0 : Shape := ⟨[(0, qk0), (1, qk1), (2, qk17), (3, qk12), (4, qk18), (5, qk17), (40, qk21), (41, qk5), (42, qk5), (66, qk17), (67, qk5), (68, qk5)], [(1, qk3), (3, qk19)]⟩
def code_read.c100016x1 : Shape := ⟨[(0, qk0), (1, qk1), (2, qk17), (3, qk12), (4, qk18), (5, qk17), (40, qk21), (41, qk5), (42, qk5), (66, qk17), (67, qk5), (68, qk5)], [(1, qk3), (3, qk19)]⟩
def code_read.c100016r : Ck := Ck.ofLoop (S := Int) (T := ((List ((Int) × ((Int) × (Bool)))) × (Int) × (Int) × (Int)) ⊕ (Int)) code_read.c100016s (fun x_ => uP x_ fun c x_ => uP x_ fun t2 x_ => uP x_ fun l x_ => uP x_ fun t40 x_ => uP x_ fun t41 x_ => uP x_ fun t42 x_ => uP x_ fun t66 x_ => uP x_ fun t67 x_ => uP x_ fun t68 x_ => uP x_ fun c0 x_ => uP x_ fun c1 x_ => uP x_ fun t30 x_ => uP x_ fun t31 x_ => t68) (fun ρ x_ s_ k_ => uP x_ fun c x_ => uP x_ fun t2 x_ => uP x_ fun l x_ => uP x_ fun t40 x_ => uP x_ fun t41 x_ => uP x_ fun t42 x_ => uP x_ fun t66 x_ => uP x_ fun t67 x_ => uP x_ fun t68 x_ => uP x_ fun c0 x_ => uP x_ fun c1 x_ => uP x_ fun t30 x_ => uP x_ fun t31 x_ => code_read.c100016 l t66 t67 s_ k_) (fun ρ x_ r_ k_ => uP x_ fun c x_ => uP x_ fun t2 x_ => uP x_ fun l x_ => uP x_ fun t40 x_ => uP x_ fun t41 x_ => uP x_ fun t42 x_ => uP x_ fun t66 x_ => uP x_ fun t67 x_ => uP x_ fun t68 x_ => uP x_ fun c0 x_ => uP x_ fun c1 x_ => uP x_ fun t30 x_ => uP x_ fun t31 x_ => sel r_ (fun r_ => k_ 1 (Shape.inj code_read.c100016x0 (c, r_.1, l, t40, t41, t42, t66, t67, r_.2.1, c0, c1, r_.2.2.1, r_.2.2.2, ()))) (fun r_ => k_ 4 (Shape.inj code_read.c100016x1 (c, t2, l, t40, t41, t42, t66, t67, r_, c0, c1, t30, t31, ()))))
def code_read.c100027 {ρ : Type} (t92 : List ((Int) × ((Int) × (Bool)))) (t93 : Int) (t94 : Int) (t91 : List (List ((Int) × (Int)))) (k_ : ((Int) × (List (List ((Int) × (Int))))) ⊕ (((List ((Int) × ((Int) × (Bool)))) × (Int) × (Int) × (Int) × (List (List ((Int) × (Int))))) ⊕ ((Int) × (List (List ((Int) × (Int)))))) → Option ρ) : Option ρ :=
  br (decide (t94 < t93))
   (bnd (idx t92 t94) fun y =>
    bnd (W.tableau_pauli_Bare (Prod.fst y, Prod.fst (Prod.snd y), Prod.snd (Prod.snd y))) fun y_1 =>
    bnd (W.code_basis_add (Prod.fst (uP (uP (y_1, ()) fun u r ↦ (u, ())) fun u r ↦ (u, uP (t91, ()) fun u r ↦ (u, ())))) (Prod.fst (Prod.snd (uP (uP (y_1, ()) fun u r ↦ (u, ())) fun u r ↦ (u, uP (t91, ()) fun u r ↦ (u, ())))))) fun y_2 =>
    br (!Prod.fst y_2)
     (bnd (W.code_read_1 (35 : Int) t94) fun y_3 =>
      k_ (.inr (.inl ((Prod.fst y_3), t94, (Prod.fst (Prod.snd y_3)), (Prod.snd (Prod.snd y_3)), (Prod.fst y_2.2)))))
     (k_ (.inl ((IntKind.wrap IntKind.i64 (t94 + (1 : Int))), (Prod.fst y_2.2)))))
   (k_ (.inr (.inr (t94, t91))))
def code_read.c100027s : Shape := ⟨[(0, qk0), (1, qk1), (2, qk17), (3, qk12), (4, qk18), (5, qk17), (14, qk24), (40, qk21), (41, qk5), (42, qk5), (66, qk17), (67, qk5), (68, qk5), (92, qk17), (93, qk5), (94, qk5)], [(1, qk3), (3, qk19), (91, qk15)]⟩
def code_read.c100027x0 : Shape := ⟨[(0, qk0), (1, qk1), (2, qk17), (3, qk12), (4, qk18), (5, qk17), (14, qk24), (40, qk21), (41, qk5), (42, qk5), (66, qk17), (67, qk5), (68, qk5), (92, qk17), (93, qk5), (94, qk5)], [(1, qk3), (3, qk19), (91, qk15)]⟩
def code_read.c100027x1 : Shape := ⟨[(0, qk0), (1, qk1), (2, qk17), (3, qk12), (4, qk18), (5, qk17), (14, qk24), (40, qk21), (41, qk5), (42, qk5), (66, qk17), (67, qk5), (68, qk5), (92, qk17), (93, qk5), (94, qk5)], [(1, qk3), (3, qk19), (91, qk15)]⟩
def code_read.c100027r : Ck := Ck.ofLoop (S := (Int) × (List (List ((Int) × (Int))))) (T := ((List ((Int) × ((Int) × (Bool)))) × (Int) × (Int) × (Int) × (List (List ((Int) × (Int))))) ⊕ ((Int) × (List (List ((Int) × (Int)))))) code_read.c100027s (fun x_ => uP x_ fun c x_ => uP x_ fun t2 x_ => uP x_ fun l x_ => uP x_ fun t40 x_ => uP x_ fun t41 x_ => uP x_ fun t42 x_ => uP x_ fun t66 x_ => uP x_ fun t67 x_ => uP x_ fun t68 x_ => uP x_ fun t92 x_ => uP x_ fun t93 x_ => uP x_ fun t94 x_ => uP x_ fun c0 x_ => uP x_ fun c1 x_ => uP x_ fun t30 x_ => uP x_ fun t31 x_ => uP x_ fun t91 x_ => (t94, t91)) (fun ρ x_ s_ k_ => uP x_ fun c x_ => uP x_ fun t2 x_ => uP x_ fun l x_ => uP x_ fun t40 x_ => uP x_ fun t41 x_ => uP x_ fun t42 x_ => uP x_ fun t66 x_ => uP x_ fun t67 x_ => uP x_ fun t68 x_ => uP x_ fun t92 x_ => uP x_ fun t93 x_ => uP x_ fun t94 x_ => uP x_ fun c0 x_ => uP x_ fun c1 x_ => uP x_ fun t30 x_ => uP x_ fun t31 x_ => uP x_ fun t91 x_ => code_read.c100027 t92 t93 s_.1 s_.2 k_) (fun ρ x_ r_ k_ => uP x_ fun c x_ => uP x_ fun t2 x_ => uP x_ fun l x_ => uP x_ fun t40 x_ => uP x_ fun t41 x_ => uP x_ fun t42 x_ => uP x_ fun t66 x_ => uP x_ fun t67 x_ => uP x_ fun t68 x_ => uP x_ fun t92 x_ => uP x_ fun t93 x_ => uP x_ fun t94 x_ => uP x_ fun c0 x_ => uP x_ fun c1 x_ => uP x_ fun t30 x_ => uP x_ fun t31 x_ => uP x_ fun t91 x_ => sel r_ (fun r_ => k_ 1 (Shape.inj code_read.c100027x0 (c, r_.1, l, t40, t41, t42, t66, t67, t68, t92, t93, r_.2.1, c0, c1, r_.2.2.1, r_.2.2.2.1, r_.2.2.2.2, ()))) (fun r_ => k_ 8 (Shape.inj code_read.c100027x1 (c, t2, l, t40, t41, t42, t66, t67, t68, t92, t93, r_.1, c0, c1, t30, t31, r_.2, ()))))
def code_read (c : (Int) × (List (List UInt8))) : Option ((List ((Int) × ((Int) × (Bool)))) × ((Int) × (Int))) :=
  bnd (W.code_read.c2 (Prod.fst c) some) fun y =>
  br y
   (bnd (W.code_read_1 (6 : Int) (0 : Int)) fun y_1 =>
    some (Prod.fst y_1, Prod.fst (Prod.snd y_1), Prod.snd (Prod.snd y_1)))
   (br (decide ((↑(List.length (Prod.snd c)) : Int) > Prod.fst c))
     (bnd (W.code_read_1 (21 : Int) (0 : Int)) fun y_2 =>
      some (Prod.fst y_2, Prod.fst (Prod.snd y_2), Prod.snd (Prod.snd y_2)))
     (bnd (iter (fun s ↦ W.code_read.c100008 (Prod.snd c) (↑(List.length (Prod.snd c)) : Int) (Prod.fst s) (Prod.fst c) (Prod.snd s) some) ((0 : Int), [])) fun y_3 =>
      sel y_3
       (fun u => some (Prod.fst u, Prod.fst (Prod.snd (Prod.snd u)), Prod.fst (Prod.snd (Prod.snd (Prod.snd u)))))
       (fun v => bnd (iter (fun s ↦ W.code_read.c100016 (Prod.snd v) (Prod.snd v) (↑(List.length (Prod.snd v)) : Int) s some) (0 : Int)) fun y_4 =>
        sel y_4
         (fun u_1 => some (Prod.fst u_1, Prod.fst (Prod.snd (Prod.snd u_1)), Prod.snd (Prod.snd (Prod.snd u_1))))
         (fun v_1 => bnd (iter (fun s ↦ W.code_read.c100027 (Prod.snd v) (↑(List.length (Prod.snd v)) : Int) (Prod.fst s) (Prod.snd s) some) ((0 : Int), mempty)) fun y_5 =>
          sel y_5
           (fun u_2 => some (Prod.fst u_2, Prod.fst (Prod.snd (Prod.snd u_2)), Prod.fst (Prod.snd (Prod.snd (Prod.snd u_2)))))
           (fun v_2 => some (Prod.snd v, (0 : Int), (0 : Int)))))))
def code_read.ce : Go.Ql.Callee := ⟨[(.st (.pair (.int .i64) (.sl .str)))], [(.sl (.st (.pair (.int .u64) (.pair (.int .u64) .bool)))), (.st (.pair (.int .i64) (.int .i64)))], fun x_ => code_read x_⟩
def code_read.G : Env := ⟨112, tab, [(30, tableau_Read.ce), (50, tableau_pauli_Meets.ce), (39, tableau_pauli_Bare.ce), (49, code_read_1.ce)], [0, 1, 2, 3, 4, 5, 6, 7, 8, 9, 10, 11, 13, 14, 15, 16, 24, 34, 40, 41, 42, 43, 55, 66, 67, 68, 69, 75, 76, 77, 78, 83, 92, 93, 94, 95, 103], [5, 91, 5000066], [], [(100027, code_read.c100027r), (100016, code_read.c100016r), (100019, code_read.c100019r), (100008, code_read.c100008r), (2, code_read.c2r)], [(51, code_basis_add.mc)], tab_eqs⟩
theorem code_read.eq (x_ : dens [(.st (.pair (.int .i64) (.sl .str)))]) : den code_read.G Go.Proofs.Try.f24 [(.st (.pair (.int .i64) (.sl .str)))] [(.sl (.st (.pair (.int .u64) (.pair (.int .u64) .bool)))), (.st (.pair (.int .i64) (.int .i64)))] x_ = code_read x_ := by kernel_rfl
theorem code_read.p0 : PieceOk code_read.G (pieceAt (pieces code_read.G.cks (bodyOf Go.Proofs.Try.f24)) 0).1 (pieceAt (pieces code_read.G.cks (bodyOf Go.Proofs.Try.f24)) 0).2 :=
  region_ok (s := code_read.c2r) (by kernel_rfl) (by kernel_rfl) (sums_of (sh := code_read.c2s) (fun ρ x_ k_ => (nat_br nat_leaf nat_leaf)) (fun ρ x_ t k => (by kernel_rfl)) (fun x_ => by kernel_rfl))
theorem code_read.p1 : PieceOk code_read.G (pieceAt (pieces code_read.G.cks (bodyOf Go.Proofs.Try.f24)) 1).1 (pieceAt (pieces code_read.G.cks (bodyOf Go.Proofs.Try.f24)) 1).2 :=
  loop_ok (s := code_read.c100008r) (by kernel_rfl) (by kernel_rfl) (loops_of (sh := code_read.c100008s) (I := fun x_ s_ => (x_.1, x_.2.1, x_.2.2.1, x_.2.2.2.1, s_.1, x_.2.2.2.2.2.1, x_.2.2.2.2.2.2.1, x_.2.2.2.2.2.2.2.1, x_.2.2.2.2.2.2.2.2.1, s_.2, ())) (fun x_ => rfl) (fun ρ x_ s_ k_ => (nat_br (nat_bnd fun _ => (nat_bnd fun _ => (nat_br (nat_bnd fun _ => nat_leaf) (nat_bnd fun _ => nat_leaf)))) nat_leaf)) (fun ρ x_ t k => (nat_sel (fun _ => (by kernel_rfl)) (fun _ => (by kernel_rfl)))) (fun x_ s => by kernel_rfl))
theorem code_read.p2 : PieceOk code_read.G (pieceAt (pieces code_read.G.cks (bodyOf Go.Proofs.Try.f24)) 2).1 (pieceAt (pieces code_read.G.cks (bodyOf Go.Proofs.Try.f24)) 2).2 :=
  loop_ok (s := code_read.c100016r) (by kernel_rfl) (by kernel_rfl) (loops_of (sh := code_read.c100016s) (I := fun x_ s_ => (x_.1, x_.2.1, x_.2.2.1, x_.2.2.2.1, x_.2.2.2.2.1, x_.2.2.2.2.2.1, x_.2.2.2.2.2.2.1, x_.2.2.2.2.2.2.2.1, s_, x_.2.2.2.2.2.2.2.2.2.1, x_.2.2.2.2.2.2.2.2.2.2.1, x_.2.2.2.2.2.2.2.2.2.2.2.1, x_.2.2.2.2.2.2.2.2.2.2.2.2.1, ())) (fun x_ => rfl) (fun ρ x_ s_ k_ => (nat_br (nat_bnd fun _ => (nat_bnd fun _ => (nat_bnd fun _ => (nat_sel (fun _ => nat_leaf) (fun _ => nat_leaf))))) nat_leaf)) (fun ρ x_ t k => (nat_sel (fun _ => (by kernel_rfl)) (fun _ => (by kernel_rfl)))) (fun x_ s => by kernel_rfl))
theorem code_read.p3 : PieceOk code_read.G (pieceAt (pieces code_read.G.cks (bodyOf Go.Proofs.Try.f24)) 3).1 (pieceAt (pieces code_read.G.cks (bodyOf Go.Proofs.Try.f24)) 3).2 :=
  loop_ok (s := code_read.c100019r) (by kernel_rfl) (by kernel_rfl) (loops_of (sh := code_read.c100019s) (I := fun x_ s_ => (x_.1, x_.2.1, x_.2.2.1, x_.2.2.2.1, x_.2.2.2.2.1, x_.2.2.2.2.2.1, x_.2.2.2.2.2.2.1, x_.2.2.2.2.2.2.2.1, x_.2.2.2.2.2.2.2.2.1, x_.2.2.2.2.2.2.2.2.2.1, x_.2.2.2.2.2.2.2.2.2.2.1, x_.2.2.2.2.2.2.2.2.2.2.2.1, s_, x_.2.2.2.2.2.2.2.2.2.2.2.2.2.1, x_.2.2.2.2.2.2.2.2.2.2.2.2.2.2.1, x_.2.2.2.2.2.2.2.2.2.2.2.2.2.2.2.1, x_.2.2.2.2.2.2.2.2.2.2.2.2.2.2.2.2.1, x_.2.2.2.2.2.2.2.2.2.2.2.2.2.2.2.2.2.1, x_.2.2.2.2.2.2.2.2.2.2.2.2.2.2.2.2.2.2.1, x_.2.2.2.2.2.2.2.2.2.2.2.2.2.2.2.2.2.2.2.1, ())) (fun x_ => rfl) (fun ρ x_ s_ k_ => (nat_br (nat_bnd fun _ => (nat_bnd fun _ => (nat_br (nat_bnd fun _ => nat_leaf) nat_leaf))) nat_leaf)) (fun ρ x_ t k => (nat_sel (fun _ => (by kernel_rfl)) (fun _ => (by kernel_rfl)))) (fun x_ s => by kernel_rfl))
theorem code_read.p4 : PieceOk code_read.G (pieceAt (pieces code_read.G.cks (bodyOf Go.Proofs.Try.f24)) 4).1 (pieceAt (pieces code_read.G.cks (bodyOf Go.Proofs.Try.f24)) 4).2 :=
  loop_ok (s := code_read.c100027r) (by kernel_rfl) (by kernel_rfl) (loops_of (sh := code_read.c100027s) (I := fun x_ s_ => (x_.1, x_.2.1, x_.2.2.1, x_.2.2.2.1, x_.2.2.2.2.1, x_.2.2.2.2.2.1, x_.2.2.2.2.2.2.1, x_.2.2.2.2.2.2.2.1, x_.2.2.2.2.2.2.2.2.1, x_.2.2.2.2.2.2.2.2.2.1, x_.2.2.2.2.2.2.2.2.2.2.1, s_.1, x_.2.2.2.2.2.2.2.2.2.2.2.2.1, x_.2.2.2.2.2.2.2.2.2.2.2.2.2.1, x_.2.2.2.2.2.2.2.2.2.2.2.2.2.2.1, x_.2.2.2.2.2.2.2.2.2.2.2.2.2.2.2.1, s_.2, ())) (fun x_ => rfl) (fun ρ x_ s_ k_ => (nat_br (nat_bnd fun _ => (nat_bnd fun _ => (nat_bnd fun _ => (nat_br (nat_bnd fun _ => nat_leaf) nat_leaf)))) nat_leaf)) (fun ρ x_ t k => (nat_sel (fun _ => (by kernel_rfl)) (fun _ => (by kernel_rfl)))) (fun x_ s => by kernel_rfl))
theorem code_read.ok : CalleeOk Go.Proofs.Try.prog 24 code_read.ce := fn_ok (G := code_read.G) tab_ok mixed Go.Proofs.Try.func24 ⟨(fns_cons tableau_Read.ok (fns_cons tableau_pauli_Meets.ok (fns_cons tableau_pauli_Bare.ok (fns_cons code_read_1.ok fns_nil)))), (mfns_cons code_basis_add.ok mfns_nil), tab_eqs_ok⟩ (m := 5) (by kernel_rfl) ⟨⟨⟨⟨⟨trivial, code_read.p0⟩, code_read.p1⟩, code_read.p2⟩, code_read.p3⟩, code_read.p4⟩ (by kernel_rfl) code_read.eq
def code_Check (c : (Int) × (List (List UInt8))) : Option ((Int) × (Int)) :=
  bnd (W.code_read (Prod.fst c, Prod.snd c)) fun y =>
  some (Prod.fst (Prod.snd y), Prod.snd (Prod.snd y))
def code_Check.ce : Go.Ql.Callee := ⟨[(.st (.pair (.int .i64) (.sl .str)))], [(.st (.pair (.int .i64) (.int .i64)))], fun x_ => code_Check x_⟩
def code_Check.G : Env := ⟨11, tab, [(24, code_read.ce)], [0, 1, 2, 4], [], [], [], [], tab_eqs⟩
theorem code_Check.eq (x_ : dens [(.st (.pair (.int .i64) (.sl .str)))]) : den code_Check.G Go.Proofs.Try.f8 [(.st (.pair (.int .i64) (.sl .str)))] [(.st (.pair (.int .i64) (.int .i64)))] x_ = code_Check x_ := by kernel_rfl
theorem code_Check.ok : CalleeOk Go.Proofs.Try.prog 8 code_Check.ce := fn_ok (G := code_Check.G) tab_ok mixed Go.Proofs.Try.func8 ⟨(fns_cons code_read.ok fns_nil), mfns_nil, tab_eqs_ok⟩ (m := 0) (by kernel_rfl) trivial (by kernel_rfl) code_Check.eq
def R_rfault (code : Int) (t1 : Int) : Option ((Int) × (Int)) :=
  some (code, t1)
def R_rfault.ce : Go.Ql.Callee := ⟨[(.int .i64), (.int .i64)], [(.st (.pair (.int .i64) (.int .i64)))], fun x_ => R_rfault x_.1 x_.2⟩
def R_rfault.G : Env := ⟨8, tab, [], [0, 1, 4], [], [], [], [], tab_eqs⟩
theorem R_rfault.eq (x_ : dens [(.int .i64), (.int .i64)]) : den R_rfault.G Go.Proofs.Try.f25 [(.int .i64), (.int .i64)] [(.st (.pair (.int .i64) (.int .i64)))] x_ = R_rfault x_.1 x_.2 := by kernel_rfl
theorem R_rfault.ok : CalleeOk Go.Proofs.Try.prog 25 R_rfault.ce := fn_ok (G := R_rfault.G) tab_ok mixed Go.Proofs.Try.func25 ⟨fns_nil, mfns_nil, tab_eqs_ok⟩ (m := 0) (by kernel_rfl) trivial (by kernel_rfl) R_rfault.eq
abbrev qk25 : SO := .box [.val .bool, .val .str]
def R_IsPauli.c1 {ρ : Type} (text : List UInt8) (n : Int) (k_ : Bool → Option ρ) : Option ρ :=
  br (decide (n < (1 : Int)))
   (k_ true)
   (br ((↑(List.length text) : Int) != IntKind.wrap IntKind.i64 (n + (1 : Int)))
     (k_ true)
     (bnd (idx text (0 : Int)) fun y =>
      br ((↑(UInt8.toNat y) : Int) != (43 : Int))
       (bnd (idx text (0 : Int)) fun y_1 =>
        k_ ((↑(UInt8.toNat y_1) : Int) != (45 : Int)))
       (k_ false)))
def R_IsPauli.c1s : Shape := ⟨[(0, qk4), (1, qk5), (4, qk6), (5, qk7)], [(4, qk25)]⟩
def R_IsPauli.c1x0 : Shape := ⟨[(0, qk4), (1, qk5), (4, qk6), (5, qk7), (25, qk7)], [(4, qk25)]⟩
def R_IsPauli.c1r : Ck := Ck.of (T := Bool) R_IsPauli.c1s (fun ρ x_ k_ => uP x_ fun text x_ => uP x_ fun n x_ => uP x_ fun t5 x_ => uP x_ fun t40 x_ => uP x_ fun t41 x_ => R_IsPauli.c1 text n k_) (fun ρ x_ r_ k_ => uP x_ fun text x_ => uP x_ fun n x_ => uP x_ fun t5 x_ => uP x_ fun t40 x_ => uP x_ fun t41 x_ => k_ 0 (Shape.inj R_IsPauli.c1x0 (text, n, t5, r_, t40, t41, ())))
def R_IsPauli.c6 {ρ : Type} (text : List UInt8) (i : Int) (k_ : Bool → Option ρ) : Option ρ :=
  bnd (idx text i) fun y =>
  br ((↑(UInt8.toNat y) : Int) != (73 : Int))
   (bnd (idx text i) fun y_1 =>
    br ((↑(UInt8.toNat y_1) : Int) != (88 : Int))
     (bnd (idx text i) fun y_2 =>
      br ((↑(UInt8.toNat y_2) : Int) != (89 : Int))
       (bnd (idx text i) fun y_3 =>
        k_ ((↑(UInt8.toNat y_3) : Int) != (90 : Int)))
       (k_ false))
     (k_ false))
   (k_ false)
def R_IsPauli.c6s : Shape := ⟨[(0, qk4), (1, qk5), (4, qk6), (5, qk7), (6, qk5)], [(4, qk25)]⟩
def R_IsPauli.c6x0 : Shape := ⟨[(0, qk4), (1, qk5), (4, qk6), (5, qk7), (6, qk5), (53, qk7)], [(4, qk25)]⟩
def R_IsPauli.c6r : Ck := Ck.of (T := Bool) R_IsPauli.c6s (fun ρ x_ k_ => uP x_ fun text x_ => uP x_ fun n x_ => uP x_ fun t5 x_ => uP x_ fun i x_ => uP x_ fun t40 x_ => uP x_ fun t41 x_ => R_IsPauli.c6 text i k_) (fun ρ x_ r_ k_ => uP x_ fun text x_ => uP x_ fun n x_ => uP x_ fun t5 x_ => uP x_ fun i x_ => uP x_ fun t40 x_ => uP x_ fun t41 x_ => k_ 0 (Shape.inj R_IsPauli.c6x0 (text, n, t5, i, r_, t40, t41, ())))
def R_IsPauli.c100004 {ρ : Type} (text : List UInt8) (n : Int) (i : Int) (k_ : (Int) ⊕ ((Int) ⊕ (Int)) → Option ρ) : Option ρ :=
  br (decide (i ≤ n))
   (bnd (W.R_IsPauli.c6 text i some) fun y =>
    br y
     (k_ (.inr (.inl i)))
     (k_ (.inl (IntKind.wrap IntKind.i64 (i + (1 : Int))))))
   (k_ (.inr (.inr i)))
def R_IsPauli.c100004s : Shape := ⟨[(0, qk4), (1, qk5), (4, qk6), (5, qk7), (6, qk5)], [(4, qk25)]⟩
def R_IsPauli.c100004x0 : Shape := ⟨[(0, qk4), (1, qk5), (4, qk6), (5, qk7), (6, qk5)], [(4, qk25)]⟩
def R_IsPauli.c100004x1 : Shape := ⟨[(0, qk4), (1, qk5), (4, qk6), (5, qk7), (6, qk5)], [(4, qk25)]⟩
def R_IsPauli.c100004r : Ck := Ck.ofLoop (S := Int) (T := (Int) ⊕ (Int)) R_IsPauli.c100004s (fun x_ => uP x_ fun text x_ => uP x_ fun n x_ => uP x_ fun t5 x_ => uP x_ fun i x_ => uP x_ fun t40 x_ => uP x_ fun t41 x_ => i) (fun ρ x_ s_ k_ => uP x_ fun text x_ => uP x_ fun n x_ => uP x_ fun t5 x_ => uP x_ fun i x_ => uP x_ fun t40 x_ => uP x_ fun t41 x_ => R_IsPauli.c100004 text n s_ k_) (fun ρ x_ r_ k_ => uP x_ fun text x_ => uP x_ fun n x_ => uP x_ fun t5 x_ => uP x_ fun i x_ => uP x_ fun t40 x_ => uP x_ fun t41 x_ => sel r_ (fun r_ => k_ 1 (Shape.inj R_IsPauli.c100004x0 (text, n, false, r_, false, [], ()))) (fun r_ => k_ 2 (Shape.inj R_IsPauli.c100004x1 (text, n, t5, r_, t40, t41, ()))))
def R_IsPauli.c8 {ρ : Type} (text : List UInt8) (k_ : Bool → Option ρ) : Option ρ :=
  bnd (idx text (0 : Int)) fun y =>
  bnd (okIf (decide ((1 : Int) ≤ (↑(List.length text) : Int)) && decide ((↑(List.length text) : Int) ≤ (↑(List.length text) : Int)))) fun y_1 =>
  k_ ((↑(UInt8.toNat y) : Int) == (45 : Int))
def R_IsPauli.c8s : Shape := ⟨[(0, qk4), (1, qk5), (4, qk6), (5, qk7), (6, qk5)], [(4, qk25)]⟩
def R_IsPauli.c8x0 : Shape := ⟨[(0, qk4), (1, qk5), (4, qk6), (5, qk7), (6, qk5)], [(4, qk25)]⟩
def R_IsPauli.c8r : Ck := Ck.of (T := Bool) R_IsPauli.c8s (fun ρ x_ k_ => uP x_ fun text x_ => uP x_ fun n x_ => uP x_ fun t5 x_ => uP x_ fun i x_ => uP x_ fun t40 x_ => uP x_ fun t41 x_ => R_IsPauli.c8 text k_) (fun ρ x_ r_ k_ => uP x_ fun text x_ => uP x_ fun n x_ => uP x_ fun t5 x_ => uP x_ fun i x_ => uP x_ fun t40 x_ => uP x_ fun t41 x_ => k_ 0 (Shape.inj R_IsPauli.c8x0 (text, n, true, i, r_, (List.drop (1 : Nat) (List.take (Int.toNat (↑(List.length text) : Int)) text)), ())))
def R_IsPauli (text : List UInt8) (n : Int) : Option (((Bool) × (List UInt8)) × (Bool)) :=
  bnd (W.R_IsPauli.c1 text n some) fun y =>
  br y
   (some ((false, []), false))
   (bnd (iter (fun s ↦ W.R_IsPauli.c100004 text n s some) (1 : Int)) fun y_1 =>
    sel y_1
     (fun u => some ((false, []), false))
     (fun v => bnd (W.R_IsPauli.c8 text some) fun y_2 =>
      some ((y_2, List.drop (1 : Nat) (List.take (Int.toNat (↑(List.length text) : Int)) text)), true)))
def R_IsPauli.ce : Go.Ql.Callee := ⟨[.str, (.int .i64)], [(.st (.pair .bool .str)), .bool], fun x_ => R_IsPauli x_.1 x_.2⟩
def R_IsPauli.G : Env := ⟨61, tab, [], [0, 1, 4, 5, 6, 25, 29, 53], [], [(8, [⟨[], [], [58, 59], []⟩, ⟨[0], [], [58, 59], []⟩, ⟨[1, 0], [], [58, 59], []⟩, ⟨[], [], [55, 56, 57], []⟩, ⟨[3], [], [55, 56, 57], []⟩, ⟨[2, 1, 0, 4, 3], [], [], []⟩, ⟨[5, 2, 1, 0, 4, 3], [4], [], []⟩, ⟨[6, 5, 2, 1, 0, 4, 3], [], [], []⟩])], [(8, R_IsPauli.c8r), (100004, R_IsPauli.c100004r), (6, R_IsPauli.c6r), (1, R_IsPauli.c1r)], [], tab_eqs⟩
theorem R_IsPauli.eq (x_ : dens [.str, (.int .i64)]) : den R_IsPauli.G Go.Proofs.Try.f13 [.str, (.int .i64)] [(.st (.pair .bool .str)), .bool] x_ = R_IsPauli x_.1 x_.2 := by kernel_rfl
theorem R_IsPauli.p0 : PieceOk R_IsPauli.G (pieceAt (pieces R_IsPauli.G.cks (bodyOf Go.Proofs.Try.f13)) 0).1 (pieceAt (pieces R_IsPauli.G.cks (bodyOf Go.Proofs.Try.f13)) 0).2 :=
  region_ok (s := R_IsPauli.c1r) (by kernel_rfl) (by kernel_rfl) (sums_of (sh := R_IsPauli.c1s) (fun ρ x_ k_ => (nat_br nat_leaf (nat_br nat_leaf (nat_bnd fun _ => (nat_br (nat_bnd fun _ => nat_leaf) nat_leaf))))) (fun ρ x_ t k => (by kernel_rfl)) (fun x_ => by kernel_rfl))
theorem R_IsPauli.p1 : PieceOk R_IsPauli.G (pieceAt (pieces R_IsPauli.G.cks (bodyOf Go.Proofs.Try.f13)) 1).1 (pieceAt (pieces R_IsPauli.G.cks (bodyOf Go.Proofs.Try.f13)) 1).2 :=
  loop_ok (s := R_IsPauli.c100004r) (by kernel_rfl) (by kernel_rfl) (loops_of (sh := R_IsPauli.c100004s) (I := fun x_ s_ => (x_.1, x_.2.1, x_.2.2.1, s_, x_.2.2.2.2.1, x_.2.2.2.2.2.1, ())) (fun x_ => rfl) (fun ρ x_ s_ k_ => (nat_br (nat_bnd fun _ => (nat_br nat_leaf nat_leaf)) nat_leaf)) (fun ρ x_ t k => (nat_sel (fun _ => (by kernel_rfl)) (fun _ => (by kernel_rfl)))) (fun x_ s => by kernel_rfl))
theorem R_IsPauli.p2 : PieceOk R_IsPauli.G (pieceAt (pieces R_IsPauli.G.cks (bodyOf Go.Proofs.Try.f13)) 2).1 (pieceAt (pieces R_IsPauli.G.cks (bodyOf Go.Proofs.Try.f13)) 2).2 :=
  region_ok (s := R_IsPauli.c6r) (by kernel_rfl) (by kernel_rfl) (sums_of (sh := R_IsPauli.c6s) (fun ρ x_ k_ => (nat_bnd fun _ => (nat_br (nat_bnd fun _ => (nat_br (nat_bnd fun _ => (nat_br (nat_bnd fun _ => nat_leaf) nat_leaf)) nat_leaf)) nat_leaf))) (fun ρ x_ t k => (by kernel_rfl)) (fun x_ => by kernel_rfl))
theorem R_IsPauli.p3 : PieceOk R_IsPauli.G (pieceAt (pieces R_IsPauli.G.cks (bodyOf Go.Proofs.Try.f13)) 3).1 (pieceAt (pieces R_IsPauli.G.cks (bodyOf Go.Proofs.Try.f13)) 3).2 :=
  region_ok (s := R_IsPauli.c8r) (by kernel_rfl) (by kernel_rfl) (sums_of (sh := R_IsPauli.c8s) (fun ρ x_ k_ => (nat_bnd fun _ => (nat_bnd fun _ => nat_leaf))) (fun ρ x_ t k => (by kernel_rfl)) (fun x_ => by kernel_rfl))
theorem R_IsPauli.ok : CalleeOk Go.Proofs.Try.prog 13 R_IsPauli.ce := fn_ok (G := R_IsPauli.G) tab_ok mixed Go.Proofs.Try.func13 ⟨fns_nil, mfns_nil, tab_eqs_ok⟩ (m := 4) (by kernel_rfl) ⟨⟨⟨⟨trivial, R_IsPauli.p0⟩, R_IsPauli.p1⟩, R_IsPauli.p2⟩, R_IsPauli.p3⟩ (by kernel_rfl) R_IsPauli.eq
abbrev qk26 : SD := .one (.own 3 0)
abbrev qk27 : SO := .arr 0 false 9 .str
def R_bare.c100003 {ρ : Type} (gens : List (List UInt8)) (i : Int) (out : List (List UInt8)) (k_ : ((Int) × (List (List UInt8))) ⊕ ((Int) × (List (List UInt8))) → Option ρ) : Option ρ :=
  br (decide (i < (↑(List.length gens) : Int)))
   (bnd (idx gens i) fun y =>
    bnd (okIf (decide ((1 : Int) ≤ (↑(List.length y) : Int)) && decide ((↑(List.length y) : Int) ≤ (↑(List.length y) : Int)))) fun y_1 =>
    bnd (okIf (decide ((List.length out + (1 : Nat)) * (16 : Nat) ≤ (140737488355328 : Nat)) && decide (List.length out + (1 : Nat) ≤ (140737488355328 : Nat)))) fun y_2 =>
    k_ (.inl ((IntKind.wrap IntKind.i64 (i + (1 : Int))), (out ++ [List.drop (1 : Nat) (List.take (Int.toNat (↑(List.length y) : Int)) y)]))))
   (k_ (.inr (i, out)))
def R_bare.c100003s : Shape := ⟨[(0, qk21), (2, qk21), (3, qk26), (4, qk5)], [(3, qk27)]⟩
def R_bare.c100003x0 : Shape := ⟨[(0, qk21), (2, qk21), (3, qk26), (4, qk5)], [(3, qk27)]⟩
def R_bare.c100003r : Ck := Ck.ofLoop (S := (Int) × (List (List UInt8))) (T := (Int) × (List (List UInt8))) R_bare.c100003s (fun x_ => uP x_ fun gens x_ => uP x_ fun t2 x_ => uP x_ fun i x_ => uP x_ fun out x_ => (i, out)) (fun ρ x_ s_ k_ => uP x_ fun gens x_ => uP x_ fun t2 x_ => uP x_ fun i x_ => uP x_ fun out x_ => R_bare.c100003 gens s_.1 s_.2 k_) (fun ρ x_ r_ k_ => uP x_ fun gens x_ => uP x_ fun t2 x_ => uP x_ fun i x_ => uP x_ fun out x_ => k_ 2 (Shape.inj R_bare.c100003x0 (gens, t2, r_.1, r_.2, ())))
def R_bare (gens : List (List UInt8)) : Option (List (List UInt8)) :=
  bnd (iter (fun s ↦ W.R_bare.c100003 gens (Prod.fst s) (Prod.snd s) some) ((0 : Int), [])) fun y =>
  some (Prod.snd y)
def R_bare.ce : Go.Ql.Callee := ⟨[(.sl .str)], [(.sl .str)], fun x_ => R_bare x_⟩
def R_bare.G : Env := ⟨20, tab, [], [0, 2, 3, 4, 8], [3], [], [(100003, R_bare.c100003r)], [], tab_eqs⟩
theorem R_bare.eq (x_ : dens [(.sl .str)]) : den R_bare.G Go.Proofs.Try.f26 [(.sl .str)] [(.sl .str)] x_ = R_bare x_ := by kernel_rfl
theorem R_bare.p0 : PieceOk R_bare.G (pieceAt (pieces R_bare.G.cks (bodyOf Go.Proofs.Try.f26)) 0).1 (pieceAt (pieces R_bare.G.cks (bodyOf Go.Proofs.Try.f26)) 0).2 :=
  loop_ok (s := R_bare.c100003r) (by kernel_rfl) (by kernel_rfl) (loops_of (sh := R_bare.c100003s) (I := fun x_ s_ => (x_.1, x_.2.1, s_.1, s_.2, ())) (fun x_ => rfl) (fun ρ x_ s_ k_ => (nat_br (nat_bnd fun _ => (nat_bnd fun _ => (nat_bnd fun _ => nat_leaf))) nat_leaf)) (fun ρ x_ t k => (by kernel_rfl)) (fun x_ s => by kernel_rfl))
theorem R_bare.ok : CalleeOk Go.Proofs.Try.prog 26 R_bare.ce := fn_ok (G := R_bare.G) tab_ok mixed Go.Proofs.Try.func26 ⟨fns_nil, mfns_nil, tab_eqs_ok⟩ (m := 1) (by kernel_rfl) ⟨trivial, R_bare.p0⟩ (by kernel_rfl) R_bare.eq
def R_Apart.c5 {ρ : Type} (a : List UInt8) (b : List UInt8) (i : Int) (k_ : Bool → Option ρ) : Option ρ :=
  bnd (idx a i) fun y =>
  br ((↑(UInt8.toNat y) : Int) != (73 : Int))
   (bnd (idx b i) fun y_1 =>
    br ((↑(UInt8.toNat y_1) : Int) != (73 : Int))
     (bnd (idx a i) fun y_2 =>
      bnd (idx b i) fun y_3 =>
      k_ ((↑(UInt8.toNat y_2) : Int) != (↑(UInt8.toNat y_3) : Int)))
     (k_ false))
   (k_ false)
def R_Apart.c5s : Shape := ⟨[(0, qk4), (1, qk4), (4, qk7), (5, qk5), (6, qk5)], []⟩
def R_Apart.c5x0 : Shape := ⟨[(0, qk4), (1, qk4), (4, qk7), (5, qk5), (6, qk5), (31, qk7)], []⟩
def R_Apart.c5r : Ck := Ck.of (T := Bool) R_Apart.c5s (fun ρ x_ k_ => uP x_ fun a x_ => uP x_ fun b x_ => uP x_ fun t4 x_ => uP x_ fun n x_ => uP x_ fun i x_ => R_Apart.c5 a b i k_) (fun ρ x_ r_ k_ => uP x_ fun a x_ => uP x_ fun b x_ => uP x_ fun t4 x_ => uP x_ fun n x_ => uP x_ fun i x_ => k_ 0 (Shape.inj R_Apart.c5x0 (a, b, t4, n, i, r_, ())))
def R_Apart.c220486 {ρ : Type} (a : List UInt8) (b : List UInt8) (n : Int) (i : Int) (k_ : Int → Option ρ) : Option ρ :=
  bnd (W.R_Apart.c5 a b i some) fun y =>
  br y
   (k_ (IntKind.wrap IntKind.i64 (n + (1 : Int))))
   (k_ n)
def R_Apart.c220486s : Shape := ⟨[(0, qk4), (1, qk4), (4, qk7), (5, qk5), (6, qk5)], []⟩
def R_Apart.c220486x0 : Shape := ⟨[(0, qk4), (1, qk4), (4, qk7), (5, qk5), (6, qk5)], []⟩
def R_Apart.c220486r : Ck := Ck.of (T := Int) R_Apart.c220486s (fun ρ x_ k_ => uP x_ fun a x_ => uP x_ fun b x_ => uP x_ fun t4 x_ => uP x_ fun n x_ => uP x_ fun i x_ => R_Apart.c220486 a b n i k_) (fun ρ x_ r_ k_ => uP x_ fun a x_ => uP x_ fun b x_ => uP x_ fun t4 x_ => uP x_ fun n x_ => uP x_ fun i x_ => k_ 0 (Shape.inj R_Apart.c220486x0 (a, b, t4, r_, i, ())))
def R_Apart.c100003 {ρ : Type} (a : List UInt8) (b : List UInt8) (n : Int) (i : Int) (k_ : ((Int) × (Int)) ⊕ ((Int) × (Int)) → Option ρ) : Option ρ :=
  br (decide (i < (↑(List.length a) : Int)))
   (bnd (W.R_Apart.c220486 a b n i some) fun y =>
    k_ (.inl (y, (IntKind.wrap IntKind.i64 (i + (1 : Int))))))
   (k_ (.inr (n, i)))
def R_Apart.c100003s : Shape := ⟨[(0, qk4), (1, qk4), (4, qk7), (5, qk5), (6, qk5)], []⟩
def R_Apart.c100003x0 : Shape := ⟨[(0, qk4), (1, qk4), (4, qk7), (5, qk5), (6, qk5)], []⟩
def R_Apart.c100003r : Ck := Ck.ofLoop (S := (Int) × (Int)) (T := (Int) × (Int)) R_Apart.c100003s (fun x_ => uP x_ fun a x_ => uP x_ fun b x_ => uP x_ fun t4 x_ => uP x_ fun n x_ => uP x_ fun i x_ => (n, i)) (fun ρ x_ s_ k_ => uP x_ fun a x_ => uP x_ fun b x_ => uP x_ fun t4 x_ => uP x_ fun n x_ => uP x_ fun i x_ => R_Apart.c100003 a b s_.1 s_.2 k_) (fun ρ x_ r_ k_ => uP x_ fun a x_ => uP x_ fun b x_ => uP x_ fun t4 x_ => uP x_ fun n x_ => uP x_ fun i x_ => k_ 2 (Shape.inj R_Apart.c100003x0 (a, b, t4, r_.1, r_.2, ())))
def R_Apart (a : List UInt8) (b : List UInt8) : Option (Bool) :=
  bnd (iter (fun s ↦ W.R_Apart.c100003 a b (Prod.fst s) (Prod.snd s) some) ((0 : Int), (0 : Int))) fun y =>
  some (Int.tmod (Prod.fst y) (2 : Int) == (1 : Int))
def R_Apart.ce : Go.Ql.Callee := ⟨[.str, .str], [.bool], fun x_ => R_Apart x_.1 x_.2⟩
def R_Apart.G : Env := ⟨37, tab, [], [0, 1, 4, 5, 6, 10, 31], [], [(5, [⟨[], [], [14], []⟩, ⟨[], [], [13], []⟩, ⟨[0, 1], [], [], []⟩, ⟨[2, 0, 1], [], [], []⟩, ⟨[3, 2, 0, 1], [], [], []⟩, ⟨[4, 3, 2, 0, 1], [], [19], []⟩, ⟨[4, 3, 2, 0, 1], [], [18], []⟩, ⟨[5, 4, 3, 2, 0, 1, 6], [], [], []⟩, ⟨[7, 5, 4, 3, 2, 0, 1, 6], [], [], []⟩, ⟨[4, 3, 2, 0, 1, 8, 7, 5, 6], [], [], []⟩, ⟨[9, 4, 3, 2, 0, 1, 8, 7, 5, 6], [], [], []⟩, ⟨[10, 9, 4, 3, 2, 0, 1, 8, 7, 5, 6], [], [25, 27, 28, 29], []⟩, ⟨[10, 9, 4, 3, 2, 0, 1, 8, 7, 5, 6], [], [24, 27, 28, 29], []⟩, ⟨[11, 10, 9, 4, 3, 2, 0, 1, 8, 7, 5, 6, 12], [], [27, 28, 29], []⟩, ⟨[10, 9, 4, 3, 2, 0, 1, 8, 7, 5, 6], [], [24, 25, 26, 28], []⟩, ⟨[10, 9, 4, 3, 2, 0, 1, 8, 7, 5, 6], [], [24, 25, 26, 27], []⟩, ⟨[14, 10, 9, 4, 3, 2, 0, 1, 8, 7, 5, 6, 15], [], [24, 25, 26], []⟩, ⟨[13, 11, 10, 9, 4, 3, 2, 0, 1, 8, 7, 5, 6, 12, 16, 14, 15], [], [], []⟩, ⟨[10, 9, 4, 3, 2, 0, 1, 8, 7, 5, 6, 17, 13, 11, 12, 16, 14, 15], [], [], []⟩])], [(100003, R_Apart.c100003r), (220486, R_Apart.c220486r), (5, R_Apart.c5r)], [], tab_eqs⟩
theorem R_Apart.eq (x_ : dens [.str, .str]) : den R_Apart.G Go.Proofs.Try.f27 [.str, .str] [.bool] x_ = R_Apart x_.1 x_.2 := by kernel_rfl
theorem R_Apart.p0 : PieceOk R_Apart.G (pieceAt (pieces R_Apart.G.cks (bodyOf Go.Proofs.Try.f27)) 0).1 (pieceAt (pieces R_Apart.G.cks (bodyOf Go.Proofs.Try.f27)) 0).2 :=
  loop_ok (s := R_Apart.c100003r) (by kernel_rfl) (by kernel_rfl) (loops_of (sh := R_Apart.c100003s) (I := fun x_ s_ => (x_.1, x_.2.1, x_.2.2.1, s_.1, s_.2, ())) (fun x_ => rfl) (fun ρ x_ s_ k_ => (nat_br (nat_bnd fun _ => nat_leaf) nat_leaf)) (fun ρ x_ t k => (by kernel_rfl)) (fun x_ s => by kernel_rfl))
theorem R_Apart.p1 : PieceOk R_Apart.G (pieceAt (pieces R_Apart.G.cks (bodyOf Go.Proofs.Try.f27)) 1).1 (pieceAt (pieces R_Apart.G.cks (bodyOf Go.Proofs.Try.f27)) 1).2 :=
  join_ok (s := R_Apart.c220486r) (by kernel_rfl) (by kernel_rfl) (sums_of (sh := R_Apart.c220486s) (fun ρ x_ k_ => (nat_bnd fun _ => (nat_br nat_leaf nat_leaf))) (fun ρ x_ t k => (by kernel_rfl)) (fun x_ => by kernel_rfl))
theorem R_Apart.p2 : PieceOk R_Apart.G (pieceAt (pieces R_Apart.G.cks (bodyOf Go.Proofs.Try.f27)) 2).1 (pieceAt (pieces R_Apart.G.cks (bodyOf Go.Proofs.Try.f27)) 2).2 :=
  region_ok (s := R_Apart.c5r) (by kernel_rfl) (by kernel_rfl) (sums_of (sh := R_Apart.c5s) (fun ρ x_ k_ => (nat_bnd fun _ => (nat_br (nat_bnd fun _ => (nat_br (nat_bnd fun _ => (nat_bnd fun _ => nat_leaf)) nat_leaf)) nat_leaf))) (fun ρ x_ t k => (by kernel_rfl)) (fun x_ => by kernel_rfl))
theorem R_Apart.ok : CalleeOk Go.Proofs.Try.prog 27 R_Apart.ce := fn_ok (G := R_Apart.G) tab_ok mixed Go.Proofs.Try.func27 ⟨fns_nil, mfns_nil, tab_eqs_ok⟩ (m := 3) (by kernel_rfl) ⟨⟨⟨trivial, R_Apart.p0⟩, R_Apart.p1⟩, R_Apart.p2⟩ (by kernel_rfl) R_Apart.eq
def R_lettersTimes.c8 {ρ : Type} (a : List UInt8) (b : List UInt8) (i : Int) (k_ : Bool → Option ρ) : Option ρ :=
  bnd (idx a i) fun y =>
  bnd (idx b i) fun y_1 =>
  k_ ((↑(UInt8.toNat y) : Int) == (↑(UInt8.toNat y_1) : Int))
def R_lettersTimes.c8s : Shape := ⟨[(0, qk4), (1, qk4), (4, qk4), (5, qk4), (6, qk5), (7, qk4)], []⟩
def R_lettersTimes.c8x0 : Shape := ⟨[(0, qk4), (1, qk4), (4, qk4), (5, qk4), (6, qk5), (7, qk4), (35, qk7)], []⟩
def R_lettersTimes.c8r : Ck := Ck.of (T := Bool) R_lettersTimes.c8s (fun ρ x_ k_ => uP x_ fun a x_ => uP x_ fun b x_ => uP x_ fun t4 x_ => uP x_ fun out x_ => uP x_ fun i x_ => uP x_ fun c x_ => R_lettersTimes.c8 a b i k_) (fun ρ x_ r_ k_ => uP x_ fun a x_ => uP x_ fun b x_ => uP x_ fun t4 x_ => uP x_ fun out x_ => uP x_ fun i x_ => uP x_ fun c x_ => k_ 0 (Shape.inj R_lettersTimes.c8x0 (a, b, t4, out, i, c, r_, ())))
def R_lettersTimes.c15 {ρ : Type} (a : List UInt8) (b : List UInt8) (i : Int) (t8 : Int) (k_ : Bool → Option ρ) : Option ρ :=
  bnd (idx (Array.toList (ByteArray.data (ByteArray.mk #[(88 : UInt8), (89 : UInt8), (90 : UInt8)]))) t8) fun y =>
  bnd (idx a i) fun y_1 =>
  br ((↑(UInt8.toNat y) : Int) != (↑(UInt8.toNat y_1) : Int))
   (bnd (idx (Array.toList (ByteArray.data (ByteArray.mk #[(88 : UInt8), (89 : UInt8), (90 : UInt8)]))) t8) fun y_2 =>
    bnd (idx b i) fun y_3 =>
    k_ ((↑(UInt8.toNat y_2) : Int) != (↑(UInt8.toNat y_3) : Int)))
   (k_ false)
def R_lettersTimes.c15s : Shape := ⟨[(0, qk4), (1, qk4), (4, qk4), (5, qk4), (6, qk5), (7, qk4), (8, qk5)], []⟩
def R_lettersTimes.c15x0 : Shape := ⟨[(0, qk4), (1, qk4), (4, qk4), (5, qk4), (6, qk5), (7, qk4), (8, qk5), (57, qk7)], []⟩
def R_lettersTimes.c15r : Ck := Ck.of (T := Bool) R_lettersTimes.c15s (fun ρ x_ k_ => uP x_ fun a x_ => uP x_ fun b x_ => uP x_ fun t4 x_ => uP x_ fun out x_ => uP x_ fun i x_ => uP x_ fun c x_ => uP x_ fun t8 x_ => R_lettersTimes.c15 a b i t8 k_) (fun ρ x_ r_ k_ => uP x_ fun a x_ => uP x_ fun b x_ => uP x_ fun t4 x_ => uP x_ fun out x_ => uP x_ fun i x_ => uP x_ fun c x_ => uP x_ fun t8 x_ => k_ 0 (Shape.inj R_lettersTimes.c15x0 (a, b, t4, out, i, c, t8, r_, ())))
def R_lettersTimes.c261446 {ρ : Type} (a : List UInt8) (b : List UInt8) (i : Int) (c : List UInt8) (t8 : Int) (k_ : List UInt8 → Option ρ) : Option ρ :=
  bnd (W.R_lettersTimes.c15 a b i t8 some) fun y =>
  br y
   (bnd (okIf (decide ((0 : Int) ≤ t8) && decide (t8 ≤ IntKind.wrap IntKind.i64 (t8 + (1 : Int))) && decide (IntKind.wrap IntKind.i64 (t8 + (1 : Int)) ≤ (↑(List.length (Array.toList (ByteArray.data (ByteArray.mk #[(88 : UInt8), (89 : UInt8), (90 : UInt8)])))) : Int)))) fun y_1 =>
    k_ (List.drop (Int.toNat t8) (List.take (Int.toNat (IntKind.wrap IntKind.i64 (t8 + (1 : Int)))) (Array.toList (ByteArray.data (ByteArray.mk #[(88 : UInt8), (89 : UInt8), (90 : UInt8)]))))))
   (k_ c)
def R_lettersTimes.c261446s : Shape := ⟨[(0, qk4), (1, qk4), (4, qk4), (5, qk4), (6, qk5), (7, qk4), (8, qk5)], []⟩
def R_lettersTimes.c261446x0 : Shape := ⟨[(0, qk4), (1, qk4), (4, qk4), (5, qk4), (6, qk5), (7, qk4), (8, qk5)], []⟩
def R_lettersTimes.c261446r : Ck := Ck.of (T := List UInt8) R_lettersTimes.c261446s (fun ρ x_ k_ => uP x_ fun a x_ => uP x_ fun b x_ => uP x_ fun t4 x_ => uP x_ fun out x_ => uP x_ fun i x_ => uP x_ fun c x_ => uP x_ fun t8 x_ => R_lettersTimes.c261446 a b i c t8 k_) (fun ρ x_ r_ k_ => uP x_ fun a x_ => uP x_ fun b x_ => uP x_ fun t4 x_ => uP x_ fun out x_ => uP x_ fun i x_ => uP x_ fun c x_ => uP x_ fun t8 x_ => k_ 0 (Shape.inj R_lettersTimes.c261446x0 (a, b, t4, out, i, r_, t8, ())))
def R_lettersTimes.c100013 {ρ : Type} (a : List UInt8) (b : List UInt8) (i : Int) (c : List UInt8) (t8 : Int) (k_ : ((List UInt8) × (Int)) ⊕ ((List UInt8) × (Int)) → Option ρ) : Option ρ :=
  br (decide (t8 < (3 : Int)))
   (bnd (W.R_lettersTimes.c261446 a b i c t8 some) fun y =>
    k_ (.inl (y, (IntKind.wrap IntKind.i64 (t8 + (1 : Int))))))
   (k_ (.inr (c, t8)))
def R_lettersTimes.c100013s : Shape := ⟨[(0, qk4), (1, qk4), (4, qk4), (5, qk4), (6, qk5), (7, qk4), (8, qk5)], []⟩
def R_lettersTimes.c100013x0 : Shape := ⟨[(0, qk4), (1, qk4), (4, qk4), (5, qk4), (6, qk5), (7, qk4), (8, qk5)], []⟩
def R_lettersTimes.c100013r : Ck := Ck.ofLoop (S := (List UInt8) × (Int)) (T := (List UInt8) × (Int)) R_lettersTimes.c100013s (fun x_ => uP x_ fun a x_ => uP x_ fun b x_ => uP x_ fun t4 x_ => uP x_ fun out x_ => uP x_ fun i x_ => uP x_ fun c x_ => uP x_ fun t8 x_ => (c, t8)) (fun ρ x_ s_ k_ => uP x_ fun a x_ => uP x_ fun b x_ => uP x_ fun t4 x_ => uP x_ fun out x_ => uP x_ fun i x_ => uP x_ fun c x_ => uP x_ fun t8 x_ => R_lettersTimes.c100013 a b i s_.1 s_.2 k_) (fun ρ x_ r_ k_ => uP x_ fun a x_ => uP x_ fun b x_ => uP x_ fun t4 x_ => uP x_ fun out x_ => uP x_ fun i x_ => uP x_ fun c x_ => uP x_ fun t8 x_ => k_ 4 (Shape.inj R_lettersTimes.c100013x0 (a, b, t4, out, i, r_.1, r_.2, ())))
def R_lettersTimes.c224608 {ρ : Type} (a : List UInt8) (b : List UInt8) (i : Int) (c : List UInt8) (k_ : List UInt8 → Option ρ) : Option ρ :=
  bnd (idx a i) fun y =>
  br ((↑(UInt8.toNat y) : Int) == (73 : Int))
   (bnd (okIf (decide ((0 : Int) ≤ i) && decide (i ≤ IntKind.wrap IntKind.i64 (i + (1 : Int))) && decide (IntKind.wrap IntKind.i64 (i + (1 : Int)) ≤ (↑(List.length b) : Int)))) fun y_1 =>
    k_ (List.drop (Int.toNat i) (List.take (Int.toNat (IntKind.wrap IntKind.i64 (i + (1 : Int)))) b)))
   (bnd (W.R_lettersTimes.c8 a b i some) fun y_2 =>
    br y_2
     (k_ (Array.toList (ByteArray.data (ByteArray.mk #[(73 : UInt8)]))))
     (bnd (idx b i) fun y_3 =>
      br ((↑(UInt8.toNat y_3) : Int) != (73 : Int))
       (bnd (iter (fun s ↦ W.R_lettersTimes.c100013 a b i (Prod.fst s) (Prod.snd s) some) (Array.toList (ByteArray.data (ByteArray.mk #[(88 : UInt8)])), (0 : Int))) fun y_4 =>
        k_ (Prod.fst y_4))
       (k_ c)))
def R_lettersTimes.c224608s : Shape := ⟨[(0, qk4), (1, qk4), (4, qk4), (5, qk4), (6, qk5), (7, qk4)], []⟩
def R_lettersTimes.c224608x0 : Shape := ⟨[(0, qk4), (1, qk4), (4, qk4), (5, qk4), (6, qk5), (7, qk4)], []⟩
def R_lettersTimes.c224608r : Ck := Ck.of (T := List UInt8) R_lettersTimes.c224608s (fun ρ x_ k_ => uP x_ fun a x_ => uP x_ fun b x_ => uP x_ fun t4 x_ => uP x_ fun out x_ => uP x_ fun i x_ => uP x_ fun c x_ => R_lettersTimes.c224608 a b i c k_) (fun ρ x_ r_ k_ => uP x_ fun a x_ => uP x_ fun b x_ => uP x_ fun t4 x_ => uP x_ fun out x_ => uP x_ fun i x_ => uP x_ fun c x_ => k_ 0 (Shape.inj R_lettersTimes.c224608x0 (a, b, t4, out, i, r_, ())))
def R_lettersTimes.c100003 {ρ : Type} (a : List UInt8) (b : List UInt8) (out : List UInt8) (i : Int) (k_ : ((List UInt8) × (Int)) ⊕ ((List UInt8) × (Int)) → Option ρ) : Option ρ :=
  br (decide (i < (↑(List.length a) : Int)))
   (bnd (okIf (decide ((0 : Int) ≤ i) && decide (i ≤ IntKind.wrap IntKind.i64 (i + (1 : Int))) && decide (IntKind.wrap IntKind.i64 (i + (1 : Int)) ≤ (↑(List.length a) : Int)))) fun y =>
    bnd (W.R_lettersTimes.c224608 a b i (List.drop (Int.toNat i) (List.take (Int.toNat (IntKind.wrap IntKind.i64 (i + (1 : Int)))) a)) some) fun y_1 =>
    bnd (okIf (decide (List.length out + List.length y_1 ≤ (9223372036854775807 : Nat)))) fun y_2 =>
    k_ (.inl ((out ++ y_1), (IntKind.wrap IntKind.i64 (i + (1 : Int))))))
   (k_ (.inr (out, i)))
def R_lettersTimes.c100003s : Shape := ⟨[(0, qk4), (1, qk4), (4, qk4), (5, qk4), (6, qk5)], []⟩
def R_lettersTimes.c100003x0 : Shape := ⟨[(0, qk4), (1, qk4), (4, qk4), (5, qk4), (6, qk5)], []⟩
def R_lettersTimes.c100003r : Ck := Ck.ofLoop (S := (List UInt8) × (Int)) (T := (List UInt8) × (Int)) R_lettersTimes.c100003s (fun x_ => uP x_ fun a x_ => uP x_ fun b x_ => uP x_ fun t4 x_ => uP x_ fun out x_ => uP x_ fun i x_ => (out, i)) (fun ρ x_ s_ k_ => uP x_ fun a x_ => uP x_ fun b x_ => uP x_ fun t4 x_ => uP x_ fun out x_ => uP x_ fun i x_ => R_lettersTimes.c100003 a b s_.1 s_.2 k_) (fun ρ x_ r_ k_ => uP x_ fun a x_ => uP x_ fun b x_ => uP x_ fun t4 x_ => uP x_ fun out x_ => uP x_ fun i x_ => k_ 2 (Shape.inj R_lettersTimes.c100003x0 (a, b, t4, r_.1, r_.2, ())))
def R_lettersTimes (a : List UInt8) (b : List UInt8) : Option (List UInt8) :=
  bnd (iter (fun s ↦ W.R_lettersTimes.c100003 a b (Prod.fst s) (Prod.snd s) some) (Array.toList (ByteArray.data (ByteArray.mk #[])), (0 : Int))) fun y =>
  some (Prod.fst y)
def R_lettersTimes.ce : Go.Ql.Callee := ⟨[.str, .str], [.str], fun x_ => R_lettersTimes x_.1 x_.2⟩
def R_lettersTimes.G : Env := ⟨66, tab, [], [0, 1, 4, 5, 6, 7, 8, 12, 23, 35, 39, 41, 57], [], [(15, [⟨[], [], [46, 47, 48], []⟩, ⟨[0], [], [46, 47, 48], []⟩, ⟨[], [], [44, 45, 47], []⟩, ⟨[], [], [44, 45, 46], []⟩, ⟨[2, 3], [], [44, 45], []⟩, ⟨[1, 0, 4, 2, 3], [], [], []⟩, ⟨[5, 1, 0, 4, 2, 3], [], [], []⟩, ⟨[6, 5, 1, 0, 4, 2, 3], [], [53, 54, 55], []⟩, ⟨[7, 6, 5, 1, 0, 4, 2, 3], [], [53, 54, 55], []⟩, ⟨[6, 5, 1, 0, 4, 2, 3], [], [51, 52, 54], []⟩, ⟨[6, 5, 1, 0, 4, 2, 3], [], [51, 52, 53], []⟩, ⟨[9, 6, 5, 1, 0, 4, 2, 3, 10], [], [51, 52], []⟩, ⟨[8, 7, 6, 5, 1, 0, 4, 2, 3, 11, 9, 10], [], [], []⟩, ⟨[6, 5, 1, 0, 4, 2, 3, 12, 8, 7, 11, 9, 10], [], [], []⟩]),
  (8, [⟨[], [], [30, 32, 33, 34], []⟩, ⟨[], [], [29, 32, 33, 34], []⟩, ⟨[0, 1], [], [32, 33, 34], []⟩, ⟨[], [], [29, 30, 31, 33], []⟩, ⟨[], [], [29, 30, 31, 32], []⟩, ⟨[3, 4], [], [29, 30, 31], []⟩, ⟨[2, 0, 1, 5, 3, 4], [], [], []⟩])], [(100003, R_lettersTimes.c100003r), (224608, R_lettersTimes.c224608r), (100013, R_lettersTimes.c100013r), (261446, R_lettersTimes.c261446r), (15, R_lettersTimes.c15r), (8, R_lettersTimes.c8r)], [], tab_eqs⟩
theorem R_lettersTimes.eq (x_ : dens [.str, .str]) : den R_lettersTimes.G Go.Proofs.Try.f45 [.str, .str] [.str] x_ = R_lettersTimes x_.1 x_.2 := by kernel_rfl
theorem R_lettersTimes.p0 : PieceOk R_lettersTimes.G (pieceAt (pieces R_lettersTimes.G.cks (bodyOf Go.Proofs.Try.f45)) 0).1 (pieceAt (pieces R_lettersTimes.G.cks (bodyOf Go.Proofs.Try.f45)) 0).2 :=
  loop_ok (s := R_lettersTimes.c100003r) (by kernel_rfl) (by kernel_rfl) (loops_of (sh := R_lettersTimes.c100003s) (I := fun x_ s_ => (x_.1, x_.2.1, x_.2.2.1, s_.1, s_.2, ())) (fun x_ => rfl) (fun ρ x_ s_ k_ => (nat_br (nat_bnd fun _ => (nat_bnd fun _ => (nat_bnd fun _ => nat_leaf))) nat_leaf)) (fun ρ x_ t k => (by kernel_rfl)) (fun x_ s => by kernel_rfl))
theorem R_lettersTimes.p1 : PieceOk R_lettersTimes.G (pieceAt (pieces R_lettersTimes.G.cks (bodyOf Go.Proofs.Try.f45)) 1).1 (pieceAt (pieces R_lettersTimes.G.cks (bodyOf Go.Proofs.Try.f45)) 1).2 :=
  join_ok (s := R_lettersTimes.c224608r) (by kernel_rfl) (by kernel_rfl) (sums_of (sh := R_lettersTimes.c224608s) (fun ρ x_ k_ => (nat_bnd fun _ => (nat_br (nat_bnd fun _ => nat_leaf) (nat_bnd fun _ => (nat_br nat_leaf (nat_bnd fun _ => (nat_br (nat_bnd fun _ => nat_leaf) nat_leaf))))))) (fun ρ x_ t k => (by kernel_rfl)) (fun x_ => by kernel_rfl))
theorem R_lettersTimes.p2 : PieceOk R_lettersTimes.G (pieceAt (pieces R_lettersTimes.G.cks (bodyOf Go.Proofs.Try.f45)) 2).1 (pieceAt (pieces R_lettersTimes.G.cks (bodyOf Go.Proofs.Try.f45)) 2).2 :=
  region_ok (s := R_lettersTimes.c8r) (by kernel_rfl) (by kernel_rfl) (sums_of (sh := R_lettersTimes.c8s) (fun ρ x_ k_ => (nat_bnd fun _ => (nat_bnd fun _ => nat_leaf))) (fun ρ x_ t k => (by kernel_rfl)) (fun x_ => by kernel_rfl))
theorem R_lettersTimes.p3 : PieceOk R_lettersTimes.G (pieceAt (pieces R_lettersTimes.G.cks (bodyOf Go.Proofs.Try.f45)) 3).1 (pieceAt (pieces R_lettersTimes.G.cks (bodyOf Go.Proofs.Try.f45)) 3).2 :=
  loop_ok (s := R_lettersTimes.c100013r) (by kernel_rfl) (by kernel_rfl) (loops_of (sh := R_lettersTimes.c100013s) (I := fun x_ s_ => (x_.1, x_.2.1, x_.2.2.1, x_.2.2.2.1, x_.2.2.2.2.1, s_.1, s_.2, ())) (fun x_ => rfl) (fun ρ x_ s_ k_ => (nat_br (nat_bnd fun _ => nat_leaf) nat_leaf)) (fun ρ x_ t k => (by kernel_rfl)) (fun x_ s => by kernel_rfl))
theorem R_lettersTimes.p4 : PieceOk R_lettersTimes.G (pieceAt (pieces R_lettersTimes.G.cks (bodyOf Go.Proofs.Try.f45)) 4).1 (pieceAt (pieces R_lettersTimes.G.cks (bodyOf Go.Proofs.Try.f45)) 4).2 :=
  join_ok (s := R_lettersTimes.c261446r) (by kernel_rfl) (by kernel_rfl) (sums_of (sh := R_lettersTimes.c261446s) (fun ρ x_ k_ => (nat_bnd fun _ => (nat_br (nat_bnd fun _ => nat_leaf) nat_leaf))) (fun ρ x_ t k => (by kernel_rfl)) (fun x_ => by kernel_rfl))
theorem R_lettersTimes.p5 : PieceOk R_lettersTimes.G (pieceAt (pieces R_lettersTimes.G.cks (bodyOf Go.Proofs.Try.f45)) 5).1 (pieceAt (pieces R_lettersTimes.G.cks (bodyOf Go.Proofs.Try.f45)) 5).2 :=
  region_ok (s := R_lettersTimes.c15r) (by kernel_rfl) (by kernel_rfl) (sums_of (sh := R_lettersTimes.c15s) (fun ρ x_ k_ => (nat_bnd fun _ => (nat_bnd fun _ => (nat_br (nat_bnd fun _ => (nat_bnd fun _ => nat_leaf)) nat_leaf)))) (fun ρ x_ t k => (by kernel_rfl)) (fun x_ => by kernel_rfl))
theorem R_lettersTimes.ok : CalleeOk Go.Proofs.Try.prog 45 R_lettersTimes.ce := fn_ok (G := R_lettersTimes.G) tab_ok mixed Go.Proofs.Try.func45 ⟨fns_nil, mfns_nil, tab_eqs_ok⟩ (m := 6) (by kernel_rfl) ⟨⟨⟨⟨⟨⟨trivial, R_lettersTimes.p0⟩, R_lettersTimes.p1⟩, R_lettersTimes.p2⟩, R_lettersTimes.p3⟩, R_lettersTimes.p4⟩, R_lettersTimes.p5⟩ (by kernel_rfl) R_lettersTimes.eq
abbrev qk28 : SD := .one (.own 30 0)
def R_Group.c100008 {ρ : Type} (gens : List (List UInt8)) (one : List UInt8) (t6 : Int) (k_ : ((List UInt8) × (Int)) ⊕ ((List UInt8) × (Int)) → Option ρ) : Option ρ :=
  bnd (idx gens (0 : Int)) fun y =>
  br (decide (t6 < (↑(List.length y) : Int)))
   (bnd (okIf (decide (List.length one + List.length (Array.toList (ByteArray.data (ByteArray.mk #[(73 : UInt8)]))) ≤ (9223372036854775807 : Nat)))) fun y_1 =>
    k_ (.inl ((one ++ Array.toList (ByteArray.data (ByteArray.mk #[(73 : UInt8)]))), (IntKind.wrap IntKind.i64 (t6 + (1 : Int))))))
   (k_ (.inr (one, t6)))
def R_Group.c100008s : Shape := ⟨[(0, qk21), (2, qk21), (3, qk21), (4, qk5), (5, qk4), (6, qk5)], []⟩
def R_Group.c100008x0 : Shape := ⟨[(0, qk21), (2, qk21), (3, qk21), (4, qk5), (5, qk4), (6, qk5)], []⟩
def R_Group.c100008r : Ck := Ck.ofLoop (S := (List UInt8) × (Int)) (T := (List UInt8) × (Int)) R_Group.c100008s (fun x_ => uP x_ fun gens x_ => uP x_ fun t2 x_ => uP x_ fun out x_ => uP x_ fun i x_ => uP x_ fun one x_ => uP x_ fun t6 x_ => (one, t6)) (fun ρ x_ s_ k_ => uP x_ fun gens x_ => uP x_ fun t2 x_ => uP x_ fun out x_ => uP x_ fun i x_ => uP x_ fun one x_ => uP x_ fun t6 x_ => R_Group.c100008 gens s_.1 s_.2 k_) (fun ρ x_ r_ k_ => uP x_ fun gens x_ => uP x_ fun t2 x_ => uP x_ fun out x_ => uP x_ fun i x_ => uP x_ fun one x_ => uP x_ fun t6 x_ => k_ 4 (Shape.inj R_Group.c100008x0 (gens, t2, out, i, r_.1, r_.2, ())))
def R_Group.c220502 {ρ : Type} (gens : List (List UInt8)) (out : List (List UInt8)) (i : Int) (k_ : List (List UInt8) → Option ρ) : Option ρ :=
  br (i == (0 : Int))
   (bnd (iter (fun s ↦ W.R_Group.c100008 gens (Prod.fst s) (Prod.snd s) some) (Array.toList (ByteArray.data (ByteArray.mk #[])), (0 : Int))) fun y =>
    k_ ([Prod.fst y]))
   (k_ out)
def R_Group.c220502s : Shape := ⟨[(0, qk21), (2, qk21), (3, qk21), (4, qk5)], []⟩
def R_Group.c220502x0 : Shape := ⟨[(0, qk21), (2, qk21), (3, qk21), (4, qk5)], []⟩
def R_Group.c220502r : Ck := Ck.of (T := List (List UInt8)) R_Group.c220502s (fun ρ x_ k_ => uP x_ fun gens x_ => uP x_ fun t2 x_ => uP x_ fun out x_ => uP x_ fun i x_ => R_Group.c220502 gens out i k_) (fun ρ x_ r_ k_ => uP x_ fun gens x_ => uP x_ fun t2 x_ => uP x_ fun out x_ => uP x_ fun i x_ => k_ 0 (Shape.inj R_Group.c220502x0 (gens, t2, r_, i, ())))
def R_Group.c16 {ρ : Type} (gens : List (List UInt8)) (out : List (List UInt8)) (i : Int) (t8 : Int) (t30 : List (List UInt8)) (k_ : List (List UInt8) → Option ρ) : Option ρ :=
  bnd (idx out t8) fun y =>
  bnd (idx gens i) fun y_1 =>
  bnd (W.R_lettersTimes y y_1) fun y_2 =>
  bnd (okIf (decide ((List.length t30 + (1 : Nat)) * (16 : Nat) ≤ (140737488355328 : Nat)) && decide (List.length t30 + (1 : Nat) ≤ (140737488355328 : Nat)))) fun y_3 =>
  k_ (t30 ++ [y_2])
def R_Group.c16s : Shape := ⟨[(0, qk21), (2, qk21), (3, qk21), (4, qk5), (7, qk28), (8, qk5)], [(30, qk27)]⟩
def R_Group.c16x0 : Shape := ⟨[(0, qk21), (2, qk21), (3, qk21), (4, qk5), (7, qk28), (8, qk5)], [(30, qk27)]⟩
def R_Group.c16r : Ck := Ck.of (T := List (List UInt8)) R_Group.c16s (fun ρ x_ k_ => uP x_ fun gens x_ => uP x_ fun t2 x_ => uP x_ fun out x_ => uP x_ fun i x_ => uP x_ fun t8 x_ => uP x_ fun t30 x_ => R_Group.c16 gens out i t8 t30 k_) (fun ρ x_ r_ k_ => uP x_ fun gens x_ => uP x_ fun t2 x_ => uP x_ fun out x_ => uP x_ fun i x_ => uP x_ fun t8 x_ => uP x_ fun t30 x_ => k_ 0 (Shape.inj R_Group.c16x0 (gens, t2, out, i, t8, r_, ())))
def R_Group.c100014 {ρ : Type} (gens : List (List UInt8)) (out : List (List UInt8)) (i : Int) (t8 : Int) (t30 : List (List UInt8)) (k_ : ((Int) × (List (List UInt8))) ⊕ ((Int) × (List (List UInt8))) → Option ρ) : Option ρ :=
  br (decide (t8 < (↑(List.length out) : Int)))
   (bnd (W.R_Group.c16 gens out i t8 t30 some) fun y =>
    k_ (.inl ((IntKind.wrap IntKind.i64 (t8 + (1 : Int))), y)))
   (k_ (.inr (t8, t30)))
def R_Group.c100014s : Shape := ⟨[(0, qk21), (2, qk21), (3, qk21), (4, qk5), (7, qk28), (8, qk5)], [(30, qk27)]⟩
def R_Group.c100014x0 : Shape := ⟨[(0, qk21), (2, qk21), (3, qk21), (4, qk5), (7, qk28), (8, qk5)], [(30, qk27)]⟩
def R_Group.c100014r : Ck := Ck.ofLoop (S := (Int) × (List (List UInt8))) (T := (Int) × (List (List UInt8))) R_Group.c100014s (fun x_ => uP x_ fun gens x_ => uP x_ fun t2 x_ => uP x_ fun out x_ => uP x_ fun i x_ => uP x_ fun t8 x_ => uP x_ fun t30 x_ => (t8, t30)) (fun ρ x_ s_ k_ => uP x_ fun gens x_ => uP x_ fun t2 x_ => uP x_ fun out x_ => uP x_ fun i x_ => uP x_ fun t8 x_ => uP x_ fun t30 x_ => R_Group.c100014 gens out i s_.1 s_.2 k_) (fun ρ x_ r_ k_ => uP x_ fun gens x_ => uP x_ fun t2 x_ => uP x_ fun out x_ => uP x_ fun i x_ => uP x_ fun t8 x_ => uP x_ fun t30 x_ => k_ 6 (Shape.inj R_Group.c100014x0 (gens, t2, out, i, r_.1, r_.2, ())))
def R_Group.c100003 {ρ : Type} (gens : List (List UInt8)) (out : List (List UInt8)) (i : Int) (k_ : ((List (List UInt8)) × (Int)) ⊕ ((List (List UInt8)) × (Int)) → Option ρ) : Option ρ :=
  br (decide (i < (↑(List.length gens) : Int)))
   (bnd (W.R_Group.c220502 gens out i some) fun y =>
    bnd (okIf (decide (((0 : Nat) + List.length y) * (16 : Nat) ≤ (140737488355328 : Nat)) && decide ((0 : Nat) + List.length y ≤ (140737488355328 : Nat)))) fun y_1 =>
    bnd (iter (fun s ↦ W.R_Group.c100014 gens y i (Prod.fst s) (Prod.snd s) some) ((0 : Int), y)) fun y_2 =>
    k_ (.inl ((Prod.snd y_2), (IntKind.wrap IntKind.i64 (i + (1 : Int))))))
   (k_ (.inr (out, i)))
def R_Group.c100003s : Shape := ⟨[(0, qk21), (2, qk21), (3, qk21), (4, qk5)], []⟩
def R_Group.c100003x0 : Shape := ⟨[(0, qk21), (2, qk21), (3, qk21), (4, qk5)], []⟩
def R_Group.c100003r : Ck := Ck.ofLoop (S := (List (List UInt8)) × (Int)) (T := (List (List UInt8)) × (Int)) R_Group.c100003s (fun x_ => uP x_ fun gens x_ => uP x_ fun t2 x_ => uP x_ fun out x_ => uP x_ fun i x_ => (out, i)) (fun ρ x_ s_ k_ => uP x_ fun gens x_ => uP x_ fun t2 x_ => uP x_ fun out x_ => uP x_ fun i x_ => R_Group.c100003 gens s_.1 s_.2 k_) (fun ρ x_ r_ k_ => uP x_ fun gens x_ => uP x_ fun t2 x_ => uP x_ fun out x_ => uP x_ fun i x_ => k_ 2 (Shape.inj R_Group.c100003x0 (gens, t2, r_.1, r_.2, ())))
def R_Group (gens : List (List UInt8)) : Option (List (List UInt8)) :=
  bnd (iter (fun s ↦ W.R_Group.c100003 gens (Prod.fst s) (Prod.snd s) some) ([], (0 : Int))) fun y =>
  some (Prod.fst y)
def R_Group.ce : Go.Ql.Callee := ⟨[(.sl .str)], [(.sl .str)], fun x_ => R_Group x_⟩
def R_Group.G : Env := ⟨51, tab, [(45, R_lettersTimes.ce)], [0, 2, 3, 4, 5, 6, 7, 8, 12, 16, 22, 34], [30, 5000049], [(16, [⟨[], [], [38, 39, 40, 41, 42, 43, 44, 45, 46, 47], [47]⟩, ⟨[], [], [37, 39, 42, 43, 44, 45], []⟩, ⟨[], [], [37, 38, 42, 43, 44, 45], []⟩, ⟨[1, 2], [], [37, 42, 43, 44, 45], []⟩, ⟨[3, 1, 2], [], [37, 42, 43, 44, 45], []⟩, ⟨[], [], [37, 38, 39, 40, 41, 43], []⟩, ⟨[], [], [37, 38, 39, 40, 41, 42], []⟩, ⟨[5, 6], [], [37, 38, 39, 40, 41], []⟩, ⟨[7, 5, 6], [], [37, 38, 39, 40, 41], []⟩, ⟨[4, 3, 1, 2, 8, 7, 5, 6], [], [37], []⟩, ⟨[9, 4, 3, 1, 2, 8, 7, 5, 6], [47], [37], []⟩, ⟨[0, 10, 9, 4, 3, 1, 2, 8, 7, 5, 6], [30], [], []⟩, ⟨[11, 0, 10, 9, 4, 3, 1, 2, 8, 7, 5, 6], [], [], []⟩])], [(100003, R_Group.c100003r), (100014, R_Group.c100014r), (16, R_Group.c16r), (220502, R_Group.c220502r), (100008, R_Group.c100008r)], [], tab_eqs⟩
theorem R_Group.eq (x_ : dens [(.sl .str)]) : den R_Group.G Go.Proofs.Try.f28 [(.sl .str)] [(.sl .str)] x_ = R_Group x_ := by kernel_rfl
theorem R_Group.p0 : PieceOk R_Group.G (pieceAt (pieces R_Group.G.cks (bodyOf Go.Proofs.Try.f28)) 0).1 (pieceAt (pieces R_Group.G.cks (bodyOf Go.Proofs.Try.f28)) 0).2 :=
  loop_ok (s := R_Group.c100003r) (by kernel_rfl) (by kernel_rfl) (loops_of (sh := R_Group.c100003s) (I := fun x_ s_ => (x_.1, x_.2.1, s_.1, s_.2, ())) (fun x_ => rfl) (fun ρ x_ s_ k_ => (nat_br (nat_bnd fun _ => (nat_bnd fun _ => (nat_bnd fun _ => nat_leaf))) nat_leaf)) (fun ρ x_ t k => (by kernel_rfl)) (fun x_ s => by kernel_rfl))
theorem R_Group.p1 : PieceOk R_Group.G (pieceAt (pieces R_Group.G.cks (bodyOf Go.Proofs.Try.f28)) 1).1 (pieceAt (pieces R_Group.G.cks (bodyOf Go.Proofs.Try.f28)) 1).2 :=
  join_ok (s := R_Group.c220502r) (by kernel_rfl) (by kernel_rfl) (sums_of (sh := R_Group.c220502s) (fun ρ x_ k_ => (nat_br (nat_bnd fun _ => nat_leaf) nat_leaf)) (fun ρ x_ t k => (by kernel_rfl)) (fun x_ => by kernel_rfl))
theorem R_Group.p2 : PieceOk R_Group.G (pieceAt (pieces R_Group.G.cks (bodyOf Go.Proofs.Try.f28)) 2).1 (pieceAt (pieces R_Group.G.cks (bodyOf Go.Proofs.Try.f28)) 2).2 :=
  loop_ok (s := R_Group.c100008r) (by kernel_rfl) (by kernel_rfl) (loops_of (sh := R_Group.c100008s) (I := fun x_ s_ => (x_.1, x_.2.1, x_.2.2.1, x_.2.2.2.1, s_.1, s_.2, ())) (fun x_ => rfl) (fun ρ x_ s_ k_ => (nat_bnd fun _ => (nat_br (nat_bnd fun _ => nat_leaf) nat_leaf))) (fun ρ x_ t k => (by kernel_rfl)) (fun x_ s => by kernel_rfl))
theorem R_Group.p3 : PieceOk R_Group.G (pieceAt (pieces R_Group.G.cks (bodyOf Go.Proofs.Try.f28)) 3).1 (pieceAt (pieces R_Group.G.cks (bodyOf Go.Proofs.Try.f28)) 3).2 :=
  loop_ok (s := R_Group.c100014r) (by kernel_rfl) (by kernel_rfl) (loops_of (sh := R_Group.c100014s) (I := fun x_ s_ => (x_.1, x_.2.1, x_.2.2.1, x_.2.2.2.1, s_.1, s_.2, ())) (fun x_ => rfl) (fun ρ x_ s_ k_ => (nat_br (nat_bnd fun _ => nat_leaf) nat_leaf)) (fun ρ x_ t k => (by kernel_rfl)) (fun x_ s => by kernel_rfl))
theorem R_Group.p4 : PieceOk R_Group.G (pieceAt (pieces R_Group.G.cks (bodyOf Go.Proofs.Try.f28)) 4).1 (pieceAt (pieces R_Group.G.cks (bodyOf Go.Proofs.Try.f28)) 4).2 :=
  region_ok (s := R_Group.c16r) (by kernel_rfl) (by kernel_rfl) (sums_of (sh := R_Group.c16s) (fun ρ x_ k_ => (nat_bnd fun _ => (nat_bnd fun _ => (nat_bnd fun _ => (nat_bnd fun _ => nat_leaf))))) (fun ρ x_ t k => (by kernel_rfl)) (fun x_ => by kernel_rfl))
theorem R_Group.ok : CalleeOk Go.Proofs.Try.prog 28 R_Group.ce := fn_ok (G := R_Group.G) tab_ok mixed Go.Proofs.Try.func28 ⟨(fns_cons R_lettersTimes.ok fns_nil), mfns_nil, tab_eqs_ok⟩ (m := 5) (by kernel_rfl) ⟨⟨⟨⟨⟨trivial, R_Group.p0⟩, R_Group.p1⟩, R_Group.p2⟩, R_Group.p3⟩, R_Group.p4⟩ (by kernel_rfl) R_Group.eq
def R_CheckCode.c1 {ρ : Type} (c0 : Int) (k_ : Bool → Option ρ) : Option ρ :=
  br (decide (c0 < (1 : Int)))
   (k_ true)
   (k_ (decide (c0 > (12 : Int))))
def R_CheckCode.c1s : Shape := ⟨[(0, qk0), (1, qk1), (2, qk2)], [(1, qk3), (2, qk19)]⟩
def R_CheckCode.c1x0 : Shape := ⟨[(0, qk0), (1, qk1), (2, qk2), (22, qk7)], [(1, qk3), (2, qk19)]⟩
def R_CheckCode.c1r : Ck := Ck.of (T := Bool) R_CheckCode.c1s (fun ρ x_ k_ => uP x_ fun c x_ => uP x_ fun c0 x_ => uP x_ fun c1 x_ => uP x_ fun t20 x_ => uP x_ fun t21 x_ => R_CheckCode.c1 c0 k_) (fun ρ x_ r_ k_ => uP x_ fun c x_ => uP x_ fun c0 x_ => uP x_ fun c1 x_ => uP x_ fun t20 x_ => uP x_ fun t21 x_ => k_ 0 (Shape.inj R_CheckCode.c1x0 (c, r_, c0, c1, t20, t21, ())))
def R_CheckCode.c8 {ρ : Type} (i : Int) (c0 : Int) (c1 : List (List UInt8)) (k_ : (Bool) × (Bool) × (List UInt8) → Option ρ) : Option ρ :=
  bnd (idx c1 i) fun y =>
  bnd (W.R_IsPauli y c0) fun y_1 =>
  k_ ((Prod.snd y_1), (Prod.fst (Prod.fst y_1)), (Prod.snd (Prod.fst y_1)))
def R_CheckCode.c8s : Shape := ⟨[(0, qk0), (1, qk1), (2, qk2), (3, qk5)], [(1, qk3), (2, qk19)]⟩
def R_CheckCode.c8x0 : Shape := ⟨[(0, qk0), (1, qk1), (2, qk2), (3, qk5), (5, qk7)], [(1, qk3), (2, qk19), (4, qk25)]⟩
def R_CheckCode.c8r : Ck := Ck.of (T := (Bool) × (Bool) × (List UInt8)) R_CheckCode.c8s (fun ρ x_ k_ => uP x_ fun c x_ => uP x_ fun i x_ => uP x_ fun c0 x_ => uP x_ fun c1 x_ => uP x_ fun t20 x_ => uP x_ fun t21 x_ => R_CheckCode.c8 i c0 c1 k_) (fun ρ x_ r_ k_ => uP x_ fun c x_ => uP x_ fun i x_ => uP x_ fun c0 x_ => uP x_ fun c1 x_ => uP x_ fun t20 x_ => uP x_ fun t21 x_ => k_ 0 (Shape.inj R_CheckCode.c8x0 (c, i, r_.1, c0, c1, t20, t21, r_.2.1, r_.2.2, ())))
def R_CheckCode.c100006 {ρ : Type} (i : Int) (c0 : Int) (c1 : List (List UInt8)) (k_ : (Int) ⊕ (((Int) × (Int) × (Int)) ⊕ (Int)) → Option ρ) : Option ρ :=
  br (decide (i < (↑(List.length c1) : Int)))
   (bnd (W.R_CheckCode.c8 i c0 c1 some) fun y =>
    br (!Prod.fst y)
     (bnd (W.R_rfault (33 : Int) i) fun y_1 =>
      k_ (.inr (.inl (i, (Prod.fst y_1), (Prod.snd y_1)))))
     (k_ (.inl (IntKind.wrap IntKind.i64 (i + (1 : Int))))))
   (k_ (.inr (.inr i)))
def R_CheckCode.c100006s : Shape := ⟨[(0, qk0), (1, qk1), (2, qk2), (3, qk5)], [(1, qk3), (2, qk19)]⟩
def R_CheckCode.c100006x0 : Shape := ⟨[(0, qk0), (1, qk1), (2, qk2), (3, qk5)], [(1, qk3), (2, qk19)]⟩
def R_CheckCode.c100006x1 : Shape := ⟨[(0, qk0), (1, qk1), (2, qk2), (3, qk5)], [(1, qk3), (2, qk19)]⟩
def R_CheckCode.c100006r : Ck := Ck.ofLoop (S := Int) (T := ((Int) × (Int) × (Int)) ⊕ (Int)) R_CheckCode.c100006s (fun x_ => uP x_ fun c x_ => uP x_ fun i x_ => uP x_ fun c0 x_ => uP x_ fun c1 x_ => uP x_ fun t20 x_ => uP x_ fun t21 x_ => i) (fun ρ x_ s_ k_ => uP x_ fun c x_ => uP x_ fun i x_ => uP x_ fun c0 x_ => uP x_ fun c1 x_ => uP x_ fun t20 x_ => uP x_ fun t21 x_ => R_CheckCode.c100006 s_ c0 c1 k_) (fun ρ x_ r_ k_ => uP x_ fun c x_ => uP x_ fun i x_ => uP x_ fun c0 x_ => uP x_ fun c1 x_ => uP x_ fun t20 x_ => uP x_ fun t21 x_ => sel r_ (fun r_ => k_ 1 (Shape.inj R_CheckCode.c100006x0 (c, r_.1, c0, c1, r_.2.1, r_.2.2, ()))) (fun r_ => k_ 2 (Shape.inj R_CheckCode.c100006x1 (c, r_, c0, c1, t20, t21, ()))))
def R_CheckCode.c18 {ρ : Type} (l : List (List UInt8)) (i_1 : Int) (t8 : Int) (k_ : Bool → Option ρ) : Option ρ :=
  bnd (idx l i_1) fun y =>
  bnd (idx l t8) fun y_1 =>
  bnd (W.R_Apart y y_1) fun y_2 =>
  k_ y_2
def R_CheckCode.c18s : Shape := ⟨[(0, qk0), (1, qk1), (2, qk2), (3, qk5), (6, qk21), (7, qk5), (8, qk5)], [(1, qk3), (2, qk19)]⟩
def R_CheckCode.c18x0 : Shape := ⟨[(0, qk0), (1, qk1), (2, qk2), (3, qk5), (6, qk21), (7, qk5), (8, qk5), (75, qk7)], [(1, qk3), (2, qk19)]⟩
def R_CheckCode.c18r : Ck := Ck.of (T := Bool) R_CheckCode.c18s (fun ρ x_ k_ => uP x_ fun c x_ => uP x_ fun i x_ => uP x_ fun l x_ => uP x_ fun i_1 x_ => uP x_ fun t8 x_ => uP x_ fun c0 x_ => uP x_ fun c1 x_ => uP x_ fun t20 x_ => uP x_ fun t21 x_ => R_CheckCode.c18 l i_1 t8 k_) (fun ρ x_ r_ k_ => uP x_ fun c x_ => uP x_ fun i x_ => uP x_ fun l x_ => uP x_ fun i_1 x_ => uP x_ fun t8 x_ => uP x_ fun c0 x_ => uP x_ fun c1 x_ => uP x_ fun t20 x_ => uP x_ fun t21 x_ => k_ 0 (Shape.inj R_CheckCode.c18x0 (c, i, l, i_1, t8, r_, c0, c1, t20, t21, ())))
def R_CheckCode.c100016 {ρ : Type} (l : List (List UInt8)) (i_1 : Int) (t8 : Int) (k_ : (Int) ⊕ (((Int) × (Int) × (Int)) ⊕ (Int)) → Option ρ) : Option ρ :=
  br (decide (t8 < i_1))
   (bnd (W.R_CheckCode.c18 l i_1 t8 some) fun y =>
    br y
     (bnd (W.R_rfault (34 : Int) i_1) fun y_1 =>
      k_ (.inr (.inl (t8, (Prod.fst y_1), (Prod.snd y_1)))))
     (k_ (.inl (IntKind.wrap IntKind.i64 (t8 + (1 : Int))))))
   (k_ (.inr (.inr t8)))
def R_CheckCode.c100016s : Shape := ⟨[(0, qk0), (1, qk1), (2, qk2), (3, qk5), (6, qk21), (7, qk5), (8, qk5)], [(1, qk3), (2, qk19)]⟩
def R_CheckCode.c100016x0 : Shape := ⟨[(0, qk0), (1, qk1), (2, qk2), (3, qk5), (6, qk21), (7, qk5), (8, qk5)], [(1, qk3), (2, qk19)]⟩
def R_CheckCode.c100016x1 : Shape := ⟨[(0, qk0), (1, qk1), (2, qk2), (3, qk5), (6, qk21), (7, qk5), (8, qk5)], [(1, qk3), (2, qk19)]⟩
def R_CheckCode.c100016r : Ck := Ck.ofLoop (S := Int) (T := ((Int) × (Int) × (Int)) ⊕ (Int)) R_CheckCode.c100016s (fun x_ => uP x_ fun c x_ => uP x_ fun i x_ => uP x_ fun l x_ => uP x_ fun i_1 x_ => uP x_ fun t8 x_ => uP x_ fun c0 x_ => uP x_ fun c1 x_ => uP x_ fun t20 x_ => uP x_ fun t21 x_ => t8) (fun ρ x_ s_ k_ => uP x_ fun c x_ => uP x_ fun i x_ => uP x_ fun l x_ => uP x_ fun i_1 x_ => uP x_ fun t8 x_ => uP x_ fun c0 x_ => uP x_ fun c1 x_ => uP x_ fun t20 x_ => uP x_ fun t21 x_ => R_CheckCode.c100016 l i_1 s_ k_) (fun ρ x_ r_ k_ => uP x_ fun c x_ => uP x_ fun i x_ => uP x_ fun l x_ => uP x_ fun i_1 x_ => uP x_ fun t8 x_ => uP x_ fun c0 x_ => uP x_ fun c1 x_ => uP x_ fun t20 x_ => uP x_ fun t21 x_ => sel r_ (fun r_ => k_ 1 (Shape.inj R_CheckCode.c100016x0 (c, i, l, i_1, r_.1, c0, c1, r_.2.1, r_.2.2, ()))) (fun r_ => k_ 6 (Shape.inj R_CheckCode.c100016x1 (c, i, l, i_1, r_, c0, c1, t20, t21, ()))))
def R_CheckCode.c100013 {ρ : Type} (l : List (List UInt8)) (i_1 : Int) (k_ : (Int) ⊕ (((Int) × (Int) × (Int)) ⊕ (Int)) → Option ρ) : Option ρ :=
  br (decide (i_1 < (↑(List.length l) : Int)))
   (bnd (iter (fun s ↦ W.R_CheckCode.c100016 l i_1 s some) (0 : Int)) fun y =>
    sel y
     (fun u => k_ (.inr (.inl (i_1, (Prod.fst (Prod.snd u)), (Prod.snd (Prod.snd u))))))
     (fun v => k_ (.inl (IntKind.wrap IntKind.i64 (i_1 + (1 : Int))))))
   (k_ (.inr (.inr i_1)))
def R_CheckCode.c100013s : Shape := ⟨[(0, qk0), (1, qk1), (2, qk2), (3, qk5), (6, qk21), (7, qk5)], [(1, qk3), (2, qk19)]⟩
def R_CheckCode.c100013x0 : Shape := ⟨[(0, qk0), (1, qk1), (2, qk2), (3, qk5), (6, qk21), (7, qk5)], [(1, qk3), (2, qk19)]⟩
def R_CheckCode.c100013x1 : Shape := ⟨[(0, qk0), (1, qk1), (2, qk2), (3, qk5), (6, qk21), (7, qk5)], [(1, qk3), (2, qk19)]⟩
def R_CheckCode.c100013r : Ck := Ck.ofLoop (S := Int) (T := ((Int) × (Int) × (Int)) ⊕ (Int)) R_CheckCode.c100013s (fun x_ => uP x_ fun c x_ => uP x_ fun i x_ => uP x_ fun l x_ => uP x_ fun i_1 x_ => uP x_ fun c0 x_ => uP x_ fun c1 x_ => uP x_ fun t20 x_ => uP x_ fun t21 x_ => i_1) (fun ρ x_ s_ k_ => uP x_ fun c x_ => uP x_ fun i x_ => uP x_ fun l x_ => uP x_ fun i_1 x_ => uP x_ fun c0 x_ => uP x_ fun c1 x_ => uP x_ fun t20 x_ => uP x_ fun t21 x_ => R_CheckCode.c100013 l s_ k_) (fun ρ x_ r_ k_ => uP x_ fun c x_ => uP x_ fun i x_ => uP x_ fun l x_ => uP x_ fun i_1 x_ => uP x_ fun c0 x_ => uP x_ fun c1 x_ => uP x_ fun t20 x_ => uP x_ fun t21 x_ => sel r_ (fun r_ => k_ 1 (Shape.inj R_CheckCode.c100013x0 (c, i, l, r_.1, c0, c1, r_.2.1, r_.2.2, ()))) (fun r_ => k_ 4 (Shape.inj R_CheckCode.c100013x1 (c, i, l, r_, c0, c1, t20, t21, ()))))
def R_CheckCode.c100022 {ρ : Type} (one : List UInt8) (i_2 : Int) (c0 : Int) (k_ : ((List UInt8) × (Int)) ⊕ ((List UInt8) × (Int)) → Option ρ) : Option ρ :=
  br (decide (i_2 < c0))
   (bnd (okIf (decide (List.length one + List.length (Array.toList (ByteArray.data (ByteArray.mk #[(73 : UInt8)]))) ≤ (9223372036854775807 : Nat)))) fun y =>
    k_ (.inl ((one ++ Array.toList (ByteArray.data (ByteArray.mk #[(73 : UInt8)]))), (IntKind.wrap IntKind.i64 (i_2 + (1 : Int))))))
   (k_ (.inr (one, i_2)))
def R_CheckCode.c100022s : Shape := ⟨[(0, qk0), (1, qk1), (2, qk2), (3, qk5), (6, qk21), (7, qk5), (9, qk4), (10, qk5)], [(1, qk3), (2, qk19)]⟩
def R_CheckCode.c100022x0 : Shape := ⟨[(0, qk0), (1, qk1), (2, qk2), (3, qk5), (6, qk21), (7, qk5), (9, qk4), (10, qk5)], [(1, qk3), (2, qk19)]⟩
def R_CheckCode.c100022r : Ck := Ck.ofLoop (S := (List UInt8) × (Int)) (T := (List UInt8) × (Int)) R_CheckCode.c100022s (fun x_ => uP x_ fun c x_ => uP x_ fun i x_ => uP x_ fun l x_ => uP x_ fun i_1 x_ => uP x_ fun one x_ => uP x_ fun i_2 x_ => uP x_ fun c0 x_ => uP x_ fun c1 x_ => uP x_ fun t20 x_ => uP x_ fun t21 x_ => (one, i_2)) (fun ρ x_ s_ k_ => uP x_ fun c x_ => uP x_ fun i x_ => uP x_ fun l x_ => uP x_ fun i_1 x_ => uP x_ fun one x_ => uP x_ fun i_2 x_ => uP x_ fun c0 x_ => uP x_ fun c1 x_ => uP x_ fun t20 x_ => uP x_ fun t21 x_ => R_CheckCode.c100022 s_.1 s_.2 c0 k_) (fun ρ x_ r_ k_ => uP x_ fun c x_ => uP x_ fun i x_ => uP x_ fun l x_ => uP x_ fun i_1 x_ => uP x_ fun one x_ => uP x_ fun i_2 x_ => uP x_ fun c0 x_ => uP x_ fun c1 x_ => uP x_ fun t20 x_ => uP x_ fun t21 x_ => k_ 8 (Shape.inj R_CheckCode.c100022x0 (c, i, l, i_1, r_.1, r_.2, c0, c1, t20, t21, ())))
def R_CheckCode.c33 {ρ : Type} (l : List (List UInt8)) (i_3 : Int) (known : Bool) (g : List (List UInt8)) (t14 : Int) (k_ : Bool → Option ρ) : Option ρ :=
  br known
   (k_ true)
   (bnd (idx g t14) fun y =>
    bnd (idx l i_3) fun y_1 =>
    k_ (y == y_1))
def R_CheckCode.c33s : Shape := ⟨[(0, qk0), (1, qk1), (2, qk2), (3, qk5), (6, qk21), (7, qk5), (9, qk4), (10, qk5), (11, qk5), (12, qk7), (13, qk21), (14, qk5)], [(1, qk3), (2, qk19)]⟩
def R_CheckCode.c33x0 : Shape := ⟨[(0, qk0), (1, qk1), (2, qk2), (3, qk5), (6, qk21), (7, qk5), (9, qk4), (10, qk5), (11, qk5), (12, qk7), (13, qk21), (14, qk5)], [(1, qk3), (2, qk19)]⟩
def R_CheckCode.c33r : Ck := Ck.of (T := Bool) R_CheckCode.c33s (fun ρ x_ k_ => uP x_ fun c x_ => uP x_ fun i x_ => uP x_ fun l x_ => uP x_ fun i_1 x_ => uP x_ fun one x_ => uP x_ fun i_2 x_ => uP x_ fun i_3 x_ => uP x_ fun known x_ => uP x_ fun g x_ => uP x_ fun t14 x_ => uP x_ fun c0 x_ => uP x_ fun c1 x_ => uP x_ fun t20 x_ => uP x_ fun t21 x_ => R_CheckCode.c33 l i_3 known g t14 k_) (fun ρ x_ r_ k_ => uP x_ fun c x_ => uP x_ fun i x_ => uP x_ fun l x_ => uP x_ fun i_1 x_ => uP x_ fun one x_ => uP x_ fun i_2 x_ => uP x_ fun i_3 x_ => uP x_ fun known x_ => uP x_ fun g x_ => uP x_ fun t14 x_ => uP x_ fun c0 x_ => uP x_ fun c1 x_ => uP x_ fun t20 x_ => uP x_ fun t21 x_ => k_ 0 (Shape.inj R_CheckCode.c33x0 (c, i, l, i_1, one, i_2, i_3, r_, g, t14, c0, c1, t20, t21, ())))
def R_CheckCode.c100031 {ρ : Type} (l : List (List UInt8)) (i_3 : Int) (known : Bool) (g : List (List UInt8)) (t14 : Int) (k_ : ((Bool) × (Int)) ⊕ ((Bool) × (Int)) → Option ρ) : Option ρ :=
  br (decide (t14 < (↑(List.length g) : Int)))
   (bnd (W.R_CheckCode.c33 l i_3 known g t14 some) fun y =>
    k_ (.inl (y, (IntKind.wrap IntKind.i64 (t14 + (1 : Int))))))
   (k_ (.inr (known, t14)))
def R_CheckCode.c100031s : Shape := ⟨[(0, qk0), (1, qk1), (2, qk2), (3, qk5), (6, qk21), (7, qk5), (9, qk4), (10, qk5), (11, qk5), (12, qk7), (13, qk21), (14, qk5)], [(1, qk3), (2, qk19)]⟩
def R_CheckCode.c100031x0 : Shape := ⟨[(0, qk0), (1, qk1), (2, qk2), (3, qk5), (6, qk21), (7, qk5), (9, qk4), (10, qk5), (11, qk5), (12, qk7), (13, qk21), (14, qk5)], [(1, qk3), (2, qk19)]⟩
def R_CheckCode.c100031r : Ck := Ck.ofLoop (S := (Bool) × (Int)) (T := (Bool) × (Int)) R_CheckCode.c100031s (fun x_ => uP x_ fun c x_ => uP x_ fun i x_ => uP x_ fun l x_ => uP x_ fun i_1 x_ => uP x_ fun one x_ => uP x_ fun i_2 x_ => uP x_ fun i_3 x_ => uP x_ fun known x_ => uP x_ fun g x_ => uP x_ fun t14 x_ => uP x_ fun c0 x_ => uP x_ fun c1 x_ => uP x_ fun t20 x_ => uP x_ fun t21 x_ => (known, t14)) (fun ρ x_ s_ k_ => uP x_ fun c x_ => uP x_ fun i x_ => uP x_ fun l x_ => uP x_ fun i_1 x_ => uP x_ fun one x_ => uP x_ fun i_2 x_ => uP x_ fun i_3 x_ => uP x_ fun known x_ => uP x_ fun g x_ => uP x_ fun t14 x_ => uP x_ fun c0 x_ => uP x_ fun c1 x_ => uP x_ fun t20 x_ => uP x_ fun t21 x_ => R_CheckCode.c100031 l i_3 s_.1 g s_.2 k_) (fun ρ x_ r_ k_ => uP x_ fun c x_ => uP x_ fun i x_ => uP x_ fun l x_ => uP x_ fun i_1 x_ => uP x_ fun one x_ => uP x_ fun i_2 x_ => uP x_ fun i_3 x_ => uP x_ fun known x_ => uP x_ fun g x_ => uP x_ fun t14 x_ => uP x_ fun c0 x_ => uP x_ fun c1 x_ => uP x_ fun t20 x_ => uP x_ fun t21 x_ => k_ 12 (Shape.inj R_CheckCode.c100031x0 (c, i, l, i_1, one, i_2, i_3, r_.1, g, r_.2, c0, c1, t20, t21, ())))
def R_CheckCode.c100026 {ρ : Type} (l : List (List UInt8)) (one : List UInt8) (i_3 : Int) (k_ : (Int) ⊕ (((Int) × (Int) × (Int)) ⊕ (Int)) → Option ρ) : Option ρ :=
  br (decide (i_3 < (↑(List.length l) : Int)))
   (bnd (idx l i_3) fun y =>
    bnd (okIf (decide ((0 : Int) ≤ i_3) && decide (i_3 ≤ (↑(List.length l) : Int)))) fun y_1 =>
    bnd (W.R_Group (List.take (Int.toNat i_3) l)) fun y_2 =>
    bnd (iter (fun s ↦ W.R_CheckCode.c100031 l i_3 (Prod.fst s) y_2 (Prod.snd s) some) (y == one, (0 : Int))) fun y_3 =>
    br (Prod.fst y_3)
     (bnd (W.R_rfault (35 : Int) i_3) fun y_4 =>
      k_ (.inr (.inl (i_3, (Prod.fst y_4), (Prod.snd y_4)))))
     (k_ (.inl (IntKind.wrap IntKind.i64 (i_3 + (1 : Int))))))
   (k_ (.inr (.inr i_3)))
def R_CheckCode.c100026s : Shape := ⟨[(0, qk0), (1, qk1), (2, qk2), (3, qk5), (6, qk21), (7, qk5), (9, qk4), (10, qk5), (11, qk5)], [(1, qk3), (2, qk19)]⟩
def R_CheckCode.c100026x0 : Shape := ⟨[(0, qk0), (1, qk1), (2, qk2), (3, qk5), (6, qk21), (7, qk5), (9, qk4), (10, qk5), (11, qk5)], [(1, qk3), (2, qk19)]⟩
def R_CheckCode.c100026x1 : Shape := ⟨[(0, qk0), (1, qk1), (2, qk2), (3, qk5), (6, qk21), (7, qk5), (9, qk4), (10, qk5), (11, qk5)], [(1, qk3), (2, qk19)]⟩
def R_CheckCode.c100026r : Ck := Ck.ofLoop (S := Int) (T := ((Int) × (Int) × (Int)) ⊕ (Int)) R_CheckCode.c100026s (fun x_ => uP x_ fun c x_ => uP x_ fun i x_ => uP x_ fun l x_ => uP x_ fun i_1 x_ => uP x_ fun one x_ => uP x_ fun i_2 x_ => uP x_ fun i_3 x_ => uP x_ fun c0 x_ => uP x_ fun c1 x_ => uP x_ fun t20 x_ => uP x_ fun t21 x_ => i_3) (fun ρ x_ s_ k_ => uP x_ fun c x_ => uP x_ fun i x_ => uP x_ fun l x_ => uP x_ fun i_1 x_ => uP x_ fun one x_ => uP x_ fun i_2 x_ => uP x_ fun i_3 x_ => uP x_ fun c0 x_ => uP x_ fun c1 x_ => uP x_ fun t20 x_ => uP x_ fun t21 x_ => R_CheckCode.c100026 l one s_ k_) (fun ρ x_ r_ k_ => uP x_ fun c x_ => uP x_ fun i x_ => uP x_ fun l x_ => uP x_ fun i_1 x_ => uP x_ fun one x_ => uP x_ fun i_2 x_ => uP x_ fun i_3 x_ => uP x_ fun c0 x_ => uP x_ fun c1 x_ => uP x_ fun t20 x_ => uP x_ fun t21 x_ => sel r_ (fun r_ => k_ 1 (Shape.inj R_CheckCode.c100026x0 (c, i, l, i_1, one, i_2, r_.1, c0, c1, r_.2.1, r_.2.2, ()))) (fun r_ => k_ 10 (Shape.inj R_CheckCode.c100026x1 (c, i, l, i_1, one, i_2, r_, c0, c1, t20, t21, ()))))
def R_CheckCode (c : (Int) × (List (List UInt8))) : Option ((Int) × (Int)) :=
  bnd (W.R_CheckCode.c1 (Prod.fst c) some) fun y =>
  br y
   (bnd (W.R_rfault (6 : Int) (0 : Int)) fun y_1 =>
    some (Prod.fst y_1, Prod.snd y_1))
   (br (decide ((↑(List.length (Prod.snd c)) : Int) > Prod.fst c))
     (bnd (W.R_rfault (21 : Int) (0 : Int)) fun y_2 =>
      some (Prod.fst y_2, Prod.snd y_2))
     (bnd (iter (fun s ↦ W.R_CheckCode.c100006 s (Prod.fst c) (Prod.snd c) some) (0 : Int)) fun y_3 =>
      sel y_3
       (fun u => some (Prod.fst (Prod.snd u), Prod.snd (Prod.snd u)))
       (fun v => bnd (W.R_bare (Prod.snd c)) fun y_4 =>
        bnd (iter (fun s ↦ W.R_CheckCode.c100013 y_4 s some) (0 : Int)) fun y_5 =>
        sel y_5
         (fun u_1 => some (Prod.fst (Prod.snd u_1), Prod.snd (Prod.snd u_1)))
         (fun v_1 => bnd (iter (fun s ↦ W.R_CheckCode.c100022 (Prod.fst s) (Prod.snd s) (Prod.fst c) some) (Array.toList (ByteArray.data (ByteArray.mk #[])), (0 : Int))) fun y_6 =>
          bnd (iter (fun s ↦ W.R_CheckCode.c100026 y_4 (Prod.fst y_6) s some) (0 : Int)) fun y_7 =>
          sel y_7
           (fun u_2 => some (Prod.fst (Prod.snd u_2), Prod.snd (Prod.snd u_2)))
           (fun v_2 => some ((0 : Int), (0 : Int)))))))
def R_CheckCode.ce : Go.Ql.Callee := ⟨[(.st (.pair (.int .i64) (.sl .str)))], [(.st (.pair (.int .i64) (.int .i64)))], fun x_ => R_CheckCode x_⟩
def R_CheckCode.G : Env := ⟨124, tab, [(25, R_rfault.ce), (13, R_IsPauli.ce), (26, R_bare.ce), (27, R_Apart.ce), (28, R_Group.ce)], [0, 1, 2, 3, 5, 6, 7, 8, 9, 10, 11, 12, 13, 14, 22, 29, 35, 50, 59, 64, 75, 81, 89, 105, 120], [], [(33, [⟨[], [], [], []⟩, ⟨[0], [], [], []⟩, ⟨[1, 0], [], [111, 114, 115, 116, 117], []⟩, ⟨[1, 0], [], [110, 114, 115, 116, 117], []⟩, ⟨[2, 1, 0, 3], [], [114, 115, 116, 117], []⟩, ⟨[4, 2, 1, 0, 3], [], [114, 115, 116, 117], []⟩, ⟨[1, 0], [], [110, 111, 112, 113, 115], []⟩, ⟨[1, 0], [], [110, 111, 112, 113, 114], []⟩, ⟨[6, 1, 0, 7], [], [110, 111, 112, 113], []⟩, ⟨[8, 6, 1, 0, 7], [], [110, 111, 112, 113], []⟩, ⟨[5, 4, 2, 1, 0, 3, 9, 8, 6, 7], [], [], []⟩, ⟨[1, 0, 10, 5, 4, 2, 3, 9, 8, 6, 7], [], [], []⟩, ⟨[11, 1, 0, 10, 5, 4, 2, 3, 9, 8, 6, 7], [], [], []⟩]),
  (18, [⟨[], [], [68, 71, 72, 73, 74], []⟩, ⟨[], [], [67, 71, 72, 73, 74], []⟩, ⟨[0, 1], [], [71, 72, 73, 74], []⟩, ⟨[2, 0, 1], [], [71, 72, 73, 74], []⟩, ⟨[], [], [67, 68, 69, 70, 72], []⟩, ⟨[], [], [67, 68, 69, 70, 71], []⟩, ⟨[4, 5], [], [67, 68, 69, 70], []⟩, ⟨[6, 4, 5], [], [67, 68, 69, 70], []⟩, ⟨[3, 2, 0, 1, 7, 6, 4, 5], [], [], []⟩]),
  (8, [⟨[], [], [41, 44, 45, 4], [4]⟩, ⟨[0], [], [41, 44, 45, 4], [4]⟩, ⟨[], [], [39, 40, 44, 45, 4], [4]⟩, ⟨[1, 0, 2], [], [44, 45, 4], [4]⟩, ⟨[3, 1, 0, 2], [], [44, 45, 4], [4]⟩, ⟨[], [], [39, 40, 41, 42, 43, 4], [4]⟩, ⟨[5], [], [39, 40, 41, 42, 43, 4], [4]⟩, ⟨[4, 3, 1, 0, 2, 6, 5], [], [4], [4]⟩, ⟨[7, 4, 3, 1, 0, 2, 6, 5], [], [4], [4]⟩, ⟨[8, 7, 4, 3, 1, 0, 2, 6, 5], [], [48, 4], [4]⟩, ⟨[8, 7, 4, 3, 1, 0, 2, 6, 5], [], [47, 4], [4]⟩, ⟨[], [4], [39, 40, 41, 42, 43, 44, 45, 46, 38, 47, 48], []⟩, ⟨[11, 9, 8, 7, 4, 3, 1, 0, 2, 6, 5], [4], [48], []⟩, ⟨[10, 8, 7, 4, 3, 1, 0, 2, 6, 5, 12, 11, 9], [], [], []⟩])], [(100026, R_CheckCode.c100026r), (100031, R_CheckCode.c100031r), (33, R_CheckCode.c33r), (100022, R_CheckCode.c100022r), (100013, R_CheckCode.c100013r), (100016, R_CheckCode.c100016r), (18, R_CheckCode.c18r), (100006, R_CheckCode.c100006r), (8, R_CheckCode.c8r), (1, R_CheckCode.c1r)], [], tab_eqs⟩
theorem R_CheckCode.eq (x_ : dens [(.st (.pair (.int .i64) (.sl .str)))]) : den R_CheckCode.G Go.Proofs.Try.f9 [(.st (.pair (.int .i64) (.sl .str)))] [(.st (.pair (.int .i64) (.int .i64)))] x_ = R_CheckCode x_ := by kernel_rfl
theorem R_CheckCode.p0 : PieceOk R_CheckCode.G (pieceAt (pieces R_CheckCode.G.cks (bodyOf Go.Proofs.Try.f9)) 0).1 (pieceAt (pieces R_CheckCode.G.cks (bodyOf Go.Proofs.Try.f9)) 0).2 :=
  region_ok (s := R_CheckCode.c1r) (by kernel_rfl) (by kernel_rfl) (sums_of (sh := R_CheckCode.c1s) (fun ρ x_ k_ => (nat_br nat_leaf nat_leaf)) (fun ρ x_ t k => (by kernel_rfl)) (fun x_ => by kernel_rfl))
theorem R_CheckCode.p1 : PieceOk R_CheckCode.G (pieceAt (pieces R_CheckCode.G.cks (bodyOf Go.Proofs.Try.f9)) 1).1 (pieceAt (pieces R_CheckCode.G.cks (bodyOf Go.Proofs.Try.f9)) 1).2 :=
  loop_ok (s := R_CheckCode.c100006r) (by kernel_rfl) (by kernel_rfl) (loops_of (sh := R_CheckCode.c100006s) (I := fun x_ s_ => (x_.1, s_, x_.2.2.1, x_.2.2.2.1, x_.2.2.2.2.1, x_.2.2.2.2.2.1, ())) (fun x_ => rfl) (fun ρ x_ s_ k_ => (nat_br (nat_bnd fun _ => (nat_br (nat_bnd fun _ => nat_leaf) nat_leaf)) nat_leaf)) (fun ρ x_ t k => (nat_sel (fun _ => (by kernel_rfl)) (fun _ => (by kernel_rfl)))) (fun x_ s => by kernel_rfl))
theorem R_CheckCode.p2 : PieceOk R_CheckCode.G (pieceAt (pieces R_CheckCode.G.cks (bodyOf Go.Proofs.Try.f9)) 2).1 (pieceAt (pieces R_CheckCode.G.cks (bodyOf Go.Proofs.Try.f9)) 2).2 :=
  region_ok (s := R_CheckCode.c8r) (by kernel_rfl) (by kernel_rfl) (sums_of (sh := R_CheckCode.c8s) (fun ρ x_ k_ => (nat_bnd fun _ => (nat_bnd fun _ => nat_leaf))) (fun ρ x_ t k => (by kernel_rfl)) (fun x_ => by kernel_rfl))
theorem R_CheckCode.p3 : PieceOk R_CheckCode.G (pieceAt (pieces R_CheckCode.G.cks (bodyOf Go.Proofs.Try.f9)) 3).1 (pieceAt (pieces R_CheckCode.G.cks (bodyOf Go.Proofs.Try.f9)) 3).2 :=
  loop_ok (s := R_CheckCode.c100013r) (by kernel_rfl) (by kernel_rfl) (loops_of (sh := R_CheckCode.c100013s) (I := fun x_ s_ => (x_.1, x_.2.1, x_.2.2.1, s_, x_.2.2.2.2.1, x_.2.2.2.2.2.1, x_.2.2.2.2.2.2.1, x_.2.2.2.2.2.2.2.1, ())) (fun x_ => rfl) (fun ρ x_ s_ k_ => (nat_br (nat_bnd fun _ => (nat_sel (fun _ => nat_leaf) (fun _ => nat_leaf))) nat_leaf)) (fun ρ x_ t k => (nat_sel (fun _ => (by kernel_rfl)) (fun _ => (by kernel_rfl)))) (fun x_ s => by kernel_rfl))
theorem R_CheckCode.p4 : PieceOk R_CheckCode.G (pieceAt (pieces R_CheckCode.G.cks (bodyOf Go.Proofs.Try.f9)) 4).1 (pieceAt (pieces R_CheckCode.G.cks (bodyOf Go.Proofs.Try.f9)) 4).2 :=
  loop_ok (s := R_CheckCode.c100016r) (by kernel_rfl) (by kernel_rfl) (loops_of (sh := R_CheckCode.c100016s) (I := fun x_ s_ => (x_.1, x_.2.1, x_.2.2.1, x_.2.2.2.1, s_, x_.2.2.2.2.2.1, x_.2.2.2.2.2.2.1, x_.2.2.2.2.2.2.2.1, x_.2.2.2.2.2.2.2.2.1, ())) (fun x_ => rfl) (fun ρ x_ s_ k_ => (nat_br (nat_bnd fun _ => (nat_br (nat_bnd fun _ => nat_leaf) nat_leaf)) nat_leaf)) (fun ρ x_ t k => (nat_sel (fun _ => (by kernel_rfl)) (fun _ => (by kernel_rfl)))) (fun x_ s => by kernel_rfl))
theorem R_CheckCode.p5 : PieceOk R_CheckCode.G (pieceAt (pieces R_CheckCode.G.cks (bodyOf Go.Proofs.Try.f9)) 5).1 (pieceAt (pieces R_CheckCode.G.cks (bodyOf Go.Proofs.Try.f9)) 5).2 :=
  region_ok (s := R_CheckCode.c18r) (by kernel_rfl) (by kernel_rfl) (sums_of (sh := R_CheckCode.c18s) (fun ρ x_ k_ => (nat_bnd fun _ => (nat_bnd fun _ => (nat_bnd fun _ => nat_leaf)))) (fun ρ x_ t k => (by kernel_rfl)) (fun x_ => by kernel_rfl))
theorem R_CheckCode.p6 : PieceOk R_CheckCode.G (pieceAt (pieces R_CheckCode.G.cks (bodyOf Go.Proofs.Try.f9)) 6).1 (pieceAt (pieces R_CheckCode.G.cks (bodyOf Go.Proofs.Try.f9)) 6).2 :=
  loop_ok (s := R_CheckCode.c100022r) (by kernel_rfl) (by kernel_rfl) (loops_of (sh := R_CheckCode.c100022s) (I := fun x_ s_ => (x_.1, x_.2.1, x_.2.2.1, x_.2.2.2.1, s_.1, s_.2, x_.2.2.2.2.2.2.1, x_.2.2.2.2.2.2.2.1, x_.2.2.2.2.2.2.2.2.1, x_.2.2.2.2.2.2.2.2.2.1, ())) (fun x_ => rfl) (fun ρ x_ s_ k_ => (nat_br (nat_bnd fun _ => nat_leaf) nat_leaf)) (fun ρ x_ t k => (by kernel_rfl)) (fun x_ s => by kernel_rfl))
theorem R_CheckCode.p7 : PieceOk R_CheckCode.G (pieceAt (pieces R_CheckCode.G.cks (bodyOf Go.Proofs.Try.f9)) 7).1 (pieceAt (pieces R_CheckCode.G.cks (bodyOf Go.Proofs.Try.f9)) 7).2 :=
  loop_ok (s := R_CheckCode.c100026r) (by kernel_rfl) (by kernel_rfl) (loops_of (sh := R_CheckCode.c100026s) (I := fun x_ s_ => (x_.1, x_.2.1, x_.2.2.1, x_.2.2.2.1, x_.2.2.2.2.1, x_.2.2.2.2.2.1, s_, x_.2.2.2.2.2.2.2.1, x_.2.2.2.2.2.2.2.2.1, x_.2.2.2.2.2.2.2.2.2.1, x_.2.2.2.2.2.2.2.2.2.2.1, ())) (fun x_ => rfl) (fun ρ x_ s_ k_ => (nat_br (nat_bnd fun _ => (nat_bnd fun _ => (nat_bnd fun _ => (nat_bnd fun _ => (nat_br (nat_bnd fun _ => nat_leaf) nat_leaf))))) nat_leaf)) (fun ρ x_ t k => (nat_sel (fun _ => (by kernel_rfl)) (fun _ => (by kernel_rfl)))) (fun x_ s => by kernel_rfl))
theorem R_CheckCode.p8 : PieceOk R_CheckCode.G (pieceAt (pieces R_CheckCode.G.cks (bodyOf Go.Proofs.Try.f9)) 8).1 (pieceAt (pieces R_CheckCode.G.cks (bodyOf Go.Proofs.Try.f9)) 8).2 :=
  loop_ok (s := R_CheckCode.c100031r) (by kernel_rfl) (by kernel_rfl) (loops_of (sh := R_CheckCode.c100031s) (I := fun x_ s_ => (x_.1, x_.2.1, x_.2.2.1, x_.2.2.2.1, x_.2.2.2.2.1, x_.2.2.2.2.2.1, x_.2.2.2.2.2.2.1, s_.1, x_.2.2.2.2.2.2.2.2.1, s_.2, x_.2.2.2.2.2.2.2.2.2.2.1, x_.2.2.2.2.2.2.2.2.2.2.2.1, x_.2.2.2.2.2.2.2.2.2.2.2.2.1, x_.2.2.2.2.2.2.2.2.2.2.2.2.2.1, ())) (fun x_ => rfl) (fun ρ x_ s_ k_ => (nat_br (nat_bnd fun _ => nat_leaf) nat_leaf)) (fun ρ x_ t k => (by kernel_rfl)) (fun x_ s => by kernel_rfl))
theorem R_CheckCode.p9 : PieceOk R_CheckCode.G (pieceAt (pieces R_CheckCode.G.cks (bodyOf Go.Proofs.Try.f9)) 9).1 (pieceAt (pieces R_CheckCode.G.cks (bodyOf Go.Proofs.Try.f9)) 9).2 :=
  region_ok (s := R_CheckCode.c33r) (by kernel_rfl) (by kernel_rfl) (sums_of (sh := R_CheckCode.c33s) (fun ρ x_ k_ => (nat_br nat_leaf (nat_bnd fun _ => (nat_bnd fun _ => nat_leaf)))) (fun ρ x_ t k => (by kernel_rfl)) (fun x_ => by kernel_rfl))
theorem R_CheckCode.ok : CalleeOk Go.Proofs.Try.prog 9 R_CheckCode.ce := fn_ok (G := R_CheckCode.G) tab_ok mixed Go.Proofs.Try.func9 ⟨(fns_cons R_rfault.ok (fns_cons R_IsPauli.ok (fns_cons R_bare.ok (fns_cons R_Apart.ok (fns_cons R_Group.ok fns_nil))))), mfns_nil, tab_eqs_ok⟩ (m := 10) (by kernel_rfl) ⟨⟨⟨⟨⟨⟨⟨⟨⟨⟨trivial, R_CheckCode.p0⟩, R_CheckCode.p1⟩, R_CheckCode.p2⟩, R_CheckCode.p3⟩, R_CheckCode.p4⟩, R_CheckCode.p5⟩, R_CheckCode.p6⟩, R_CheckCode.p7⟩, R_CheckCode.p8⟩, R_CheckCode.p9⟩ (by kernel_rfl) R_CheckCode.eq
abbrev qk29 : SD := .one (.val (.sl (.int .i64)))
abbrev qk30 : SD := .one (.own 10 0)
abbrev qk31 : SO := .arr 0 false 3 (.int .i64)
def code_shows.c216392 {ρ : Type} (t11 : List ((Int) × ((Int) × (Bool)))) (t13 : Int) (p0 : Int) (p1 : Int) (p2 : Bool) (t10 : List (Int)) (k_ : List (Int) → Option ρ) : Option ρ :=
  bnd (idx t11 t13) fun y =>
  bnd (W.tableau_pauli_Meets (Prod.fst y, Prod.fst (Prod.snd y), Prod.snd (Prod.snd y)) (p0, p1, p2)) fun y_1 =>
  br y_1
   (bnd (inR (List.length t10) t13) fun y_2 =>
    bnd (idx t10 t13) fun y_3 =>
    k_ (List.set t10 (Int.toNat t13) (1 : Int)))
   (k_ t10)
def code_shows.c216392s : Shape := ⟨[(0, qk17), (1, qk11), (3, qk12), (4, qk29), (5, qk30), (11, qk17), (12, qk5), (13, qk5)], [(3, qk9), (10, qk31)]⟩
def code_shows.c216392x0 : Shape := ⟨[(0, qk17), (1, qk11), (3, qk12), (4, qk29), (5, qk30), (11, qk17), (12, qk5), (13, qk5)], [(3, qk9), (10, qk31)]⟩
def code_shows.c216392r : Ck := Ck.of (T := List (Int)) code_shows.c216392s (fun ρ x_ k_ => uP x_ fun l x_ => uP x_ fun p x_ => uP x_ fun t4 x_ => uP x_ fun t11 x_ => uP x_ fun t12 x_ => uP x_ fun t13 x_ => uP x_ fun p0 x_ => uP x_ fun p1 x_ => uP x_ fun p2 x_ => uP x_ fun t10 x_ => code_shows.c216392 t11 t13 p0 p1 p2 t10 k_) (fun ρ x_ r_ k_ => uP x_ fun l x_ => uP x_ fun p x_ => uP x_ fun t4 x_ => uP x_ fun t11 x_ => uP x_ fun t12 x_ => uP x_ fun t13 x_ => uP x_ fun p0 x_ => uP x_ fun p1 x_ => uP x_ fun p2 x_ => uP x_ fun t10 x_ => k_ 0 (Shape.inj code_shows.c216392x0 (l, p, t4, t11, t12, t13, p0, p1, p2, r_, ())))
def code_shows.c100003 {ρ : Type} (t11 : List ((Int) × ((Int) × (Bool)))) (t12 : Int) (t13 : Int) (p0 : Int) (p1 : Int) (p2 : Bool) (t10 : List (Int)) (k_ : ((Int) × (List Int)) ⊕ ((Int) × (List Int)) → Option ρ) : Option ρ :=
  br (decide (t13 < t12))
   (bnd (W.code_shows.c216392 t11 t13 p0 p1 p2 t10 some) fun y =>
    k_ (.inl ((IntKind.wrap IntKind.i64 (t13 + (1 : Int))), y)))
   (k_ (.inr (t13, t10)))
def code_shows.c100003s : Shape := ⟨[(0, qk17), (1, qk11), (3, qk12), (4, qk29), (5, qk30), (11, qk17), (12, qk5), (13, qk5)], [(3, qk9), (10, qk31)]⟩
def code_shows.c100003x0 : Shape := ⟨[(0, qk17), (1, qk11), (3, qk12), (4, qk29), (5, qk30), (11, qk17), (12, qk5), (13, qk5)], [(3, qk9), (10, qk31)]⟩
def code_shows.c100003r : Ck := Ck.ofLoop (S := (Int) × (List Int)) (T := (Int) × (List Int)) code_shows.c100003s (fun x_ => uP x_ fun l x_ => uP x_ fun p x_ => uP x_ fun t4 x_ => uP x_ fun t11 x_ => uP x_ fun t12 x_ => uP x_ fun t13 x_ => uP x_ fun p0 x_ => uP x_ fun p1 x_ => uP x_ fun p2 x_ => uP x_ fun t10 x_ => (t13, t10)) (fun ρ x_ s_ k_ => uP x_ fun l x_ => uP x_ fun p x_ => uP x_ fun t4 x_ => uP x_ fun t11 x_ => uP x_ fun t12 x_ => uP x_ fun t13 x_ => uP x_ fun p0 x_ => uP x_ fun p1 x_ => uP x_ fun p2 x_ => uP x_ fun t10 x_ => code_shows.c100003 t11 t12 s_.1 p0 p1 p2 s_.2 k_) (fun ρ x_ r_ k_ => uP x_ fun l x_ => uP x_ fun p x_ => uP x_ fun t4 x_ => uP x_ fun t11 x_ => uP x_ fun t12 x_ => uP x_ fun t13 x_ => uP x_ fun p0 x_ => uP x_ fun p1 x_ => uP x_ fun p2 x_ => uP x_ fun t10 x_ => k_ 2 (Shape.inj code_shows.c100003x0 (l, p, t4, t11, t12, r_.1, p0, p1, p2, r_.2, ())))
def code_shows (l : List ((Int) × ((Int) × (Bool)))) (p : (Int) × ((Int) × (Bool))) : Option (List Int) :=
  bnd (okIf (decide ((0 : Int) ≤ (↑(List.length l) : Int)) && decide ((↑(List.length l) : Int) ≤ (↑(List.length l) : Int)) && decide ((↑(List.length l) : Int) * (↑(8 : Nat) : Int) ≤ (140737488355328 : Int)) && decide ((↑(List.length l) : Int) ≤ (140737488355328 : Int)))) fun y =>
  bnd (iter (fun s ↦ W.code_shows.c100003 l (↑(List.length l) : Int) (Prod.fst s) (Prod.fst p) (Prod.fst (Prod.snd p)) (Prod.snd (Prod.snd p)) (Prod.snd s) some) ((0 : Int), List.replicate (Int.toNat (↑(List.length l) : Int)) (0 : Int))) fun y_1 =>
  some (Prod.snd y_1)
def code_shows.ce : Go.Ql.Callee := ⟨[(.sl (.st (.pair (.int .u64) (.pair (.int .u64) .bool)))), (.st (.pair (.int .u64) (.pair (.int .u64) .bool)))], [(.sl (.int .i64))], fun x_ => code_shows x_.1 x_.2⟩
def code_shows.G : Env := ⟨26, tab, [(50, tableau_pauli_Meets.ce)], [0, 1, 3, 4, 5, 6, 7, 11, 12, 13, 14, 20], [10], [], [(100003, code_shows.c100003r), (216392, code_shows.c216392r)], [], tab_eqs⟩
theorem code_shows.eq (x_ : dens [(.sl (.st (.pair (.int .u64) (.pair (.int .u64) .bool)))), (.st (.pair (.int .u64) (.pair (.int .u64) .bool)))]) : den code_shows.G Go.Proofs.Try.f31 [(.sl (.st (.pair (.int .u64) (.pair (.int .u64) .bool)))), (.st (.pair (.int .u64) (.pair (.int .u64) .bool)))] [(.sl (.int .i64))] x_ = code_shows x_.1 x_.2 := by kernel_rfl
theorem code_shows.p0 : PieceOk code_shows.G (pieceAt (pieces code_shows.G.cks (bodyOf Go.Proofs.Try.f31)) 0).1 (pieceAt (pieces code_shows.G.cks (bodyOf Go.Proofs.Try.f31)) 0).2 :=
  loop_ok (s := code_shows.c100003r) (by kernel_rfl) (by kernel_rfl) (loops_of (sh := code_shows.c100003s) (I := fun x_ s_ => (x_.1, x_.2.1, x_.2.2.1, x_.2.2.2.1, x_.2.2.2.2.1, s_.1, x_.2.2.2.2.2.2.1, x_.2.2.2.2.2.2.2.1, x_.2.2.2.2.2.2.2.2.1, s_.2, ())) (fun x_ => rfl) (fun ρ x_ s_ k_ => (nat_br (nat_bnd fun _ => nat_leaf) nat_leaf)) (fun ρ x_ t k => (by kernel_rfl)) (fun x_ s => by kernel_rfl))
theorem code_shows.p1 : PieceOk code_shows.G (pieceAt (pieces code_shows.G.cks (bodyOf Go.Proofs.Try.f31)) 1).1 (pieceAt (pieces code_shows.G.cks (bodyOf Go.Proofs.Try.f31)) 1).2 :=
  join_ok (s := code_shows.c216392r) (by kernel_rfl) (by kernel_rfl) (sums_of (sh := code_shows.c216392s) (fun ρ x_ k_ => (nat_bnd fun _ => (nat_bnd fun _ => (nat_br (nat_bnd fun _ => (nat_bnd fun _ => nat_leaf)) nat_leaf)))) (fun ρ x_ t k => (by kernel_rfl)) (fun x_ => by kernel_rfl))
theorem code_shows.ok : CalleeOk Go.Proofs.Try.prog 31 code_shows.ce := fn_ok (G := code_shows.G) tab_ok mixed Go.Proofs.Try.func31 ⟨(fns_cons tableau_pauli_Meets.ok fns_nil), mfns_nil, tab_eqs_ok⟩ (m := 2) (by kernel_rfl) ⟨⟨trivial, code_shows.p0⟩, code_shows.p1⟩ (by kernel_rfl) code_shows.eq
abbrev qk32 : SD := .one (.ref 5 0)
abbrev qk33 : SD := .one (.ref 7 0)
abbrev qk34 : SD := .one (.ref 8 0)
def code_Syndrome.c3 {ρ : Type}  (k_ : Unit → Option ρ) : Option ρ :=
  k_ ()
def code_Syndrome.c3s : Shape := ⟨[(0, qk0), (1, qk4), (2, qk2), (4, qk29), (5, qk32), (6, qk17), (7, qk33)], [(2, qk3), (5, qk19), (7, qk19)]⟩
def code_Syndrome.c3x0 : Shape := ⟨[(0, qk0), (1, qk4), (2, qk2), (4, qk29), (5, qk32), (6, qk17), (7, qk33)], [(2, qk3), (5, qk19), (7, qk19)]⟩
def code_Syndrome.c3r : Ck := Ck.of (T := Unit) code_Syndrome.c3s (fun ρ x_ k_ => uP x_ fun c x_ => uP x_ fun pauli x_ => uP x_ fun t4 x_ => uP x_ fun l x_ => uP x_ fun c0 x_ => uP x_ fun c1 x_ => uP x_ fun t50 x_ => uP x_ fun t51 x_ => uP x_ fun f0 x_ => uP x_ fun f1 x_ => code_Syndrome.c3  k_) (fun ρ x_ r_ k_ => uP x_ fun c x_ => uP x_ fun pauli x_ => uP x_ fun t4 x_ => uP x_ fun l x_ => uP x_ fun c0 x_ => uP x_ fun c1 x_ => uP x_ fun t50 x_ => uP x_ fun t51 x_ => uP x_ fun f0 x_ => uP x_ fun f1 x_ => k_ 0 (Shape.inj code_Syndrome.c3x0 (c, pauli, [], l, c0, c1, f0, f1, f0, f1, ())))
def code_Syndrome.c7 {ρ : Type} (l : List ((Int) × ((Int) × (Bool)))) (p0 : Int) (p1 : Int) (p2 : Bool) (k_ : List (Int) → Option ρ) : Option ρ :=
  bnd (W.code_shows l (p0, p1, p2)) fun y =>
  k_ y
def code_Syndrome.c7s : Shape := ⟨[(0, qk0), (1, qk4), (2, qk2), (4, qk29), (5, qk32), (6, qk17), (7, qk33), (8, qk34), (9, qk7)], [(2, qk3), (5, qk19), (7, qk19), (8, qk9)]⟩
def code_Syndrome.c7x0 : Shape := ⟨[(0, qk0), (1, qk4), (2, qk2), (4, qk29), (5, qk32), (6, qk17), (7, qk33), (8, qk34), (9, qk7)], [(2, qk3), (5, qk19), (7, qk19), (8, qk9)]⟩
def code_Syndrome.c7r : Ck := Ck.of (T := List (Int)) code_Syndrome.c7s (fun ρ x_ k_ => uP x_ fun c x_ => uP x_ fun pauli x_ => uP x_ fun t4 x_ => uP x_ fun l x_ => uP x_ fun ok x_ => uP x_ fun c0 x_ => uP x_ fun c1 x_ => uP x_ fun t50 x_ => uP x_ fun t51 x_ => uP x_ fun f0 x_ => uP x_ fun f1 x_ => uP x_ fun p0 x_ => uP x_ fun p1 x_ => uP x_ fun p2 x_ => code_Syndrome.c7 l p0 p1 p2 k_) (fun ρ x_ r_ k_ => uP x_ fun c x_ => uP x_ fun pauli x_ => uP x_ fun t4 x_ => uP x_ fun l x_ => uP x_ fun ok x_ => uP x_ fun c0 x_ => uP x_ fun c1 x_ => uP x_ fun t50 x_ => uP x_ fun t51 x_ => uP x_ fun f0 x_ => uP x_ fun f1 x_ => uP x_ fun p0 x_ => uP x_ fun p1 x_ => uP x_ fun p2 x_ => k_ 0 (Shape.inj code_Syndrome.c7x0 (c, pauli, r_, l, ok, c0, c1, f0, f1, f0, f1, p0, p1, p2, ())))
def code_Syndrome (c : (Int) × (List (List UInt8))) (pauli : List UInt8) : Option ((List Int) × ((Int) × (Int))) :=
  bnd (W.code_read (Prod.fst c, Prod.snd c)) fun y =>
  br (Prod.fst (Prod.snd y) != (0 : Int))
   (bnd (W.code_Syndrome.c3 some) fun y_1 =>
    some ([], Prod.fst (Prod.snd y), Prod.snd (Prod.snd y)))
   (bnd (W.tableau_Read pauli (Prod.fst c)) fun y_2 =>
    br (!Prod.snd y_2)
     (some ([], (33 : Int), (0 : Int)))
     (bnd (W.code_Syndrome.c7 (Prod.fst y) (Prod.fst (Prod.fst y_2)) (Prod.fst (Prod.snd (Prod.fst y_2))) (Prod.snd (Prod.snd (Prod.fst y_2))) some) fun y_3 =>
      some (y_3, Prod.fst (Prod.snd y), Prod.snd (Prod.snd y))))
def code_Syndrome.ce : Go.Ql.Callee := ⟨[(.st (.pair (.int .i64) (.sl .str))), .str], [(.sl (.int .i64)), (.st (.pair (.int .i64) (.int .i64)))], fun x_ => code_Syndrome x_.1 x_.2⟩
def code_Syndrome.G : Env := ⟨33, tab, [(24, code_read.ce), (30, tableau_Read.ce), (31, code_shows.ce)], [0, 1, 2, 4, 5, 6, 7, 8, 9, 17, 27], [], [(7, [⟨[], [], [30, 32], []⟩, ⟨[], [], [29, 32], []⟩, ⟨[0, 1], [], [32], []⟩, ⟨[], [], [29, 30, 31, 4], []⟩, ⟨[2, 0, 1], [], [32], []⟩, ⟨[3, 4, 2, 0, 1], [5], [], []⟩]),
  (3, [⟨[], [], [4], [4]⟩, ⟨[], [4], [18], []⟩, ⟨[0, 1], [5], [], []⟩])], [(7, code_Syndrome.c7r), (3, code_Syndrome.c3r)], [], tab_eqs⟩
theorem code_Syndrome.eq (x_ : dens [(.st (.pair (.int .i64) (.sl .str))), .str]) : den code_Syndrome.G Go.Proofs.Try.f12 [(.st (.pair (.int .i64) (.sl .str))), .str] [(.sl (.int .i64)), (.st (.pair (.int .i64) (.int .i64)))] x_ = code_Syndrome x_.1 x_.2 := by kernel_rfl
theorem code_Syndrome.p0 : PieceOk code_Syndrome.G (pieceAt (pieces code_Syndrome.G.cks (bodyOf Go.Proofs.Try.f12)) 0).1 (pieceAt (pieces code_Syndrome.G.cks (bodyOf Go.Proofs.Try.f12)) 0).2 :=
  region_ok (s := code_Syndrome.c3r) (by kernel_rfl) (by kernel_rfl) (sums_of (sh := code_Syndrome.c3s) (fun ρ x_ k_ => nat_leaf) (fun ρ x_ t k => (by kernel_rfl)) (fun x_ => by kernel_rfl))
theorem code_Syndrome.p1 : PieceOk code_Syndrome.G (pieceAt (pieces code_Syndrome.G.cks (bodyOf Go.Proofs.Try.f12)) 1).1 (pieceAt (pieces code_Syndrome.G.cks (bodyOf Go.Proofs.Try.f12)) 1).2 :=
  region_ok (s := code_Syndrome.c7r) (by kernel_rfl) (by kernel_rfl) (sums_of (sh := code_Syndrome.c7s) (fun ρ x_ k_ => (nat_bnd fun _ => nat_leaf)) (fun ρ x_ t k => (by kernel_rfl)) (fun x_ => by kernel_rfl))
theorem code_Syndrome.ok : CalleeOk Go.Proofs.Try.prog 12 code_Syndrome.ce := fn_ok (G := code_Syndrome.G) tab_ok mixed Go.Proofs.Try.func12 ⟨(fns_cons code_read.ok (fns_cons tableau_Read.ok (fns_cons code_shows.ok fns_nil))), mfns_nil, tab_eqs_ok⟩ (m := 2) (by kernel_rfl) ⟨⟨trivial, code_Syndrome.p0⟩, code_Syndrome.p1⟩ (by kernel_rfl) code_Syndrome.eq
def code_number.c100003 {ρ : Type} (n : Int) (t6 : List (Int)) (t7 : Int) (t8 : Int) (k_ : ((Int) × (Int)) ⊕ ((Int) × (Int)) → Option ρ) : Option ρ :=
  br (decide (t8 < t7))
   (bnd (idx t6 t8) fun y =>
    bnd (okIf (decide ((0 : Int) ≤ t8))) fun y_1 =>
    k_ (.inl ((ibits BinOp.or IntKind.i64 n (IntKind.wrap IntKind.i64 (y * (2 : Int) ^ Min.min (Int.toNat t8) (64 : Nat)))), (IntKind.wrap IntKind.i64 (t8 + (1 : Int))))))
   (k_ (.inr (n, t8)))
def code_number.c100003s : Shape := ⟨[(0, qk29), (2, qk5), (3, qk5), (6, qk29), (7, qk5), (8, qk5)], []⟩
def code_number.c100003x0 : Shape := ⟨[(0, qk29), (2, qk5), (3, qk5), (6, qk29), (7, qk5), (8, qk5)], []⟩
def code_number.c100003r : Ck := Ck.ofLoop (S := (Int) × (Int)) (T := (Int) × (Int)) code_number.c100003s (fun x_ => uP x_ fun s x_ => uP x_ fun t2 x_ => uP x_ fun n x_ => uP x_ fun t6 x_ => uP x_ fun t7 x_ => uP x_ fun t8 x_ => (n, t8)) (fun ρ x_ s_ k_ => uP x_ fun s x_ => uP x_ fun t2 x_ => uP x_ fun n x_ => uP x_ fun t6 x_ => uP x_ fun t7 x_ => uP x_ fun t8 x_ => code_number.c100003 s_.1 t6 t7 s_.2 k_) (fun ρ x_ r_ k_ => uP x_ fun s x_ => uP x_ fun t2 x_ => uP x_ fun n x_ => uP x_ fun t6 x_ => uP x_ fun t7 x_ => uP x_ fun t8 x_ => k_ 2 (Shape.inj code_number.c100003x0 (s, t2, r_.1, t6, t7, r_.2, ())))
def code_number (s : List (Int)) : Option (Int) :=
  bnd (iter (fun s_1 ↦ W.code_number.c100003 (Prod.fst s_1) s (↑(List.length s) : Int) (Prod.snd s_1) some) ((0 : Int), (0 : Int))) fun y =>
  some (Prod.fst y)
def code_number.ce : Go.Ql.Callee := ⟨[(.sl (.int .i64))], [(.int .i64)], fun x_ => code_number x_⟩
def code_number.G : Env := ⟨20, tab, [], [0, 2, 3, 4, 5, 6, 7, 8, 9], [], [], [(100003, code_number.c100003r)], [], tab_eqs⟩
theorem code_number.eq (x_ : dens [(.sl (.int .i64))]) : den code_number.G Go.Proofs.Try.f36 [(.sl (.int .i64))] [(.int .i64)] x_ = code_number x_ := by kernel_rfl
theorem code_number.p0 : PieceOk code_number.G (pieceAt (pieces code_number.G.cks (bodyOf Go.Proofs.Try.f36)) 0).1 (pieceAt (pieces code_number.G.cks (bodyOf Go.Proofs.Try.f36)) 0).2 :=
  loop_ok (s := code_number.c100003r) (by kernel_rfl) (by kernel_rfl) (loops_of (sh := code_number.c100003s) (I := fun x_ s_ => (x_.1, x_.2.1, s_.1, x_.2.2.2.1, x_.2.2.2.2.1, s_.2, ())) (fun x_ => rfl) (fun ρ x_ s_ k_ => (nat_br (nat_bnd fun _ => (nat_bnd fun _ => nat_leaf)) nat_leaf)) (fun ρ x_ t k => (by kernel_rfl)) (fun x_ s => by kernel_rfl))
theorem code_number.ok : CalleeOk Go.Proofs.Try.prog 36 code_number.ce := fn_ok (G := code_number.G) tab_ok mixed Go.Proofs.Try.func36 ⟨fns_nil, mfns_nil, tab_eqs_ok⟩ (m := 1) (by kernel_rfl) ⟨trivial, code_number.p0⟩ (by kernel_rfl) code_number.eq
abbrev qk35 : SD := .one (.ref 1000200 0)
abbrev qk36 : SD := .one (.ref 1000300 0)
abbrev qk37 : SD := .one (.ref 1000400 0)
abbrev qk38 : SO := .box [.val (.sl (.st (.pair (.int .u64) (.pair (.int .u64) .bool))))]
abbrev qk39 : SO := .box [.own 2000300 0]
abbrev qk40 : SO := .box [.own 2000400 0]
def code_least_1.pre : Shape := ⟨[(0, qk11), (1, qk5), (2, qk35), (3, qk36), (4, qk37)], [(1000200, qk38), (1000300, qk39), (1000400, qk40), (2000300, qk31), (2000400, qk22)]⟩
def code_least_1.post : Shape := ⟨[], [(1000200, qk38), (1000300, qk39), (1000400, qk40), (2000300, qk31), (2000400, qk22)]⟩
def code_least_1.c3 {ρ : Type} (s : Int) (t2000300 : List (Int)) (t2000400 : List ((Int) × ((Int) × (Bool)))) (k_ : Unit → Option ρ) : Option ρ :=
  bnd (inR (List.length t2000400) s) fun y =>
  bnd (idx t2000400 s) fun y_1 =>
  bnd (inR (List.length t2000300) s) fun y_2 =>
  bnd (idx t2000300 s) fun y_3 =>
  k_ ()
def code_least_1.c3s : Shape := ⟨[(0, qk11), (1, qk5), (2, qk35), (3, qk36), (4, qk37), (5, qk32), (7, qk5)], [(5, qk9), (1000200, qk38), (1000300, qk39), (1000400, qk40), (2000300, qk31), (2000400, qk22)]⟩
def code_least_1.c3x0 : Shape := ⟨[(0, qk11), (1, qk5), (2, qk35), (3, qk36), (4, qk37), (5, qk32), (7, qk5)], [(5, qk9), (1000200, qk38), (1000300, qk39), (1000400, qk40), (2000300, qk31), (2000400, qk22)]⟩
def code_least_1.c3r : Ck := Ck.of (T := Unit) code_least_1.c3s (fun ρ x_ k_ => uP x_ fun p x_ => uP x_ fun weight x_ => uP x_ fun s x_ => uP x_ fun p0 x_ => uP x_ fun p1 x_ => uP x_ fun p2 x_ => uP x_ fun t10002000 x_ => uP x_ fun t2000300 x_ => uP x_ fun t2000400 x_ => code_least_1.c3 s t2000300 t2000400 k_) (fun ρ x_ r_ k_ => uP x_ fun p x_ => uP x_ fun weight x_ => uP x_ fun s x_ => uP x_ fun p0 x_ => uP x_ fun p1 x_ => uP x_ fun p2 x_ => uP x_ fun t10002000 x_ => uP x_ fun t2000300 x_ => uP x_ fun t2000400 x_ => k_ 0 (Shape.inj code_least_1.c3x0 (p, weight, s, p0, p1, p2, t10002000, (List.set t2000300 (Int.toNat s) weight), (List.set t2000400 (Int.toNat s) (p0, p1, p2)), ())))
def code_least_1 (p : (Int) × ((Int) × (Bool))) (weight : Int) (t10002000 : List ((Int) × ((Int) × (Bool)))) (t2000300 : List (Int)) (t2000400 : List ((Int) × ((Int) × (Bool)))) : Option ((List ((Int) × ((Int) × (Bool)))) × (List Int) × (List ((Int) × ((Int) × (Bool)))) × Unit) :=
  bnd (W.code_shows t10002000 (Prod.fst p, Prod.fst (Prod.snd p), Prod.snd (Prod.snd p))) fun y =>
  bnd (W.code_number y) fun y_1 =>
  bnd (inR (List.length t2000300) y_1) fun y_2 =>
  bnd (idx t2000300 y_1) fun y_3 =>
  br (decide (weight < y_3))
   (bnd (W.code_least_1.c3 y_1 t2000300 t2000400 some) fun y_4 =>
    some (uP (uP (t10002000, ()) fun u r ↦ (u, ())) fun u r ↦ (u, uP (List.set t2000300 (Int.toNat y_1) weight, ()) fun u r ↦ (u, uP (List.set t2000400 (Int.toNat y_1) (Prod.fst p, Prod.fst (Prod.snd p), Prod.snd (Prod.snd p)), ()) fun u r ↦ (u, ())))))
   (some (uP (uP (t10002000, ()) fun u r ↦ (u, ())) fun u r ↦ (u, uP (t2000300, ()) fun u r ↦ (u, uP (t2000400, ()) fun u r ↦ (u, ())))))
def code_least_1.mc : MCallee := ⟨55, code_least_1.pre, code_least_1.post, fun x_ => code_least_1 x_.1 x_.2.1 x_.2.2.1 x_.2.2.2.1 x_.2.2.2.2.1⟩
def code_least_1.G : Env := ⟨26, tab, [(31, code_shows.ce), (36, code_number.ce)], [0, 1, 2, 3, 4, 5, 7, 17], [1000200, 1000300, 1000400, 2000300, 2000400], [(3, [⟨[], [], [19, 20, 21, 22, 23], []⟩, ⟨[], [], [18, 20, 21, 22, 23], []⟩, ⟨[], [], [18, 19, 21, 22, 23, 24], [2000400]⟩, ⟨[], [], [18, 19, 20, 22, 23, 24], [2000400]⟩, ⟨[], [], [18, 19, 20, 21, 23], []⟩, ⟨[], [], [18, 19, 20, 21, 22, 24], [2000400]⟩, ⟨[0, 1, 4], [], [20, 21, 23], []⟩, ⟨[6, 0, 1, 4], [2000400], [20, 21, 23], []⟩, ⟨[2, 3, 0, 1, 4, 5, 6, 7], [], [], []⟩, ⟨[8, 2, 3, 0, 1, 4, 5, 6, 7], [2000300], [], []⟩])], [(3, code_least_1.c3r)], [], tab_eqs⟩
theorem code_least_1.eq (x_ : densU code_least_1.mc.pre.tys) : denM code_least_1.G Go.Proofs.Try.f55 code_least_1.mc.pre code_least_1.mc.post x_ = code_least_1.mc.F x_ := by kernel_rfl
theorem code_least_1.p0 : PieceOk code_least_1.G (pieceAt (pieces code_least_1.G.cks (bodyOf Go.Proofs.Try.f55)) 0).1 (pieceAt (pieces code_least_1.G.cks (bodyOf Go.Proofs.Try.f55)) 0).2 :=
  region_ok (s := code_least_1.c3r) (by kernel_rfl) (by kernel_rfl) (sums_of (sh := code_least_1.c3s) (fun ρ x_ k_ => (nat_bnd fun _ => (nat_bnd fun _ => (nat_bnd fun _ => (nat_bnd fun _ => nat_leaf))))) (fun ρ x_ t k => (by kernel_rfl)) (fun x_ => by kernel_rfl))
theorem code_least_1.ok : MOk Go.Proofs.Try.prog 55 code_least_1.mc := fnm_ok (G := code_least_1.G) tab_ok mixed Go.Proofs.Try.func55 ⟨(fns_cons code_shows.ok (fns_cons code_number.ok fns_nil)), mfns_nil, tab_eqs_ok⟩ (m := 1) (by kernel_rfl) ⟨trivial, code_least_1.p0⟩ (by kernel_rfl) code_least_1.eq
abbrev qk41 : SD := .one (.ref 1000100 0)
abbrev qk42 : SD := .one (.ref 1000110 0)
abbrev qk43 : SD := .one (.ref 1000120 0)
abbrev qk44 : SD := .one (.ref 1000130 0)
abbrev qk45 : SO := .box [.val (.int .i64)]
abbrev qk46 : SO := .box [.own 2000110 0]
abbrev qk47 : SO := .box [.clo 1000140]
abbrev qk48 : SO := .box [.clo 1000150]
abbrev qk49 : SO := .clo 55 [] [.ref 1000200 0, .ref 1000300 0, .ref 1000400 0]
abbrev qk50 : SO := .clo 53 [] [.ref 1000100 0, .ref 1000110 0, .ref 1000120 0, .ref 1000130 0]
abbrev qk51 : SO := .arr 0 false 5 (.int .u8)
abbrev qk52 : SD := .one (.val (.int .u8))
abbrev qk53 : SD := .one (.val (.sl (.int .u8)))
def code_errors_1__least_b.self.pre : Shape := ⟨[(0, qk5), (1, qk5), (2, qk41), (3, qk42), (4, qk43), (5, qk44)], [(1000100, qk45), (1000110, qk46), (1000120, qk47), (1000130, qk48), (1000140, qk49), (1000150, qk50), (1000200, qk38), (1000300, qk39), (1000400, qk40), (2000110, qk51), (2000300, qk31), (2000400, qk22)]⟩
def code_errors_1__least_b.self.post : Shape := ⟨[], [(1000100, qk45), (1000110, qk46), (1000120, qk47), (1000130, qk48), (1000140, qk49), (1000150, qk50), (1000200, qk38), (1000300, qk39), (1000400, qk40), (2000110, qk51), (2000300, qk31), (2000400, qk22)]⟩
class code_errors_1__least_b.Self where
  F : densU code_errors_1__least_b.self.pre.tys → Option (densU code_errors_1__least_b.self.post.tys)
  ok : MOk Go.Proofs.Try.prog 53 ⟨53, code_errors_1__least_b.self.pre, code_errors_1__least_b.self.post, F⟩
section
variable [code_errors_1__least_b.Self]
def code_errors_1__least_b.self (x_ : densU code_errors_1__least_b.self.pre.tys) : Option (densU code_errors_1__least_b.self.post.tys) := code_errors_1__least_b.Self.F x_
def code_errors_1__least_b.self.mc : MCallee := ⟨53, code_errors_1__least_b.self.pre, code_errors_1__least_b.self.post, fun x_ => code_errors_1__least_b.self x_⟩
theorem code_errors_1__least_b.self.ok : MOk Go.Proofs.Try.prog 53 code_errors_1__least_b.self.mc := code_errors_1__least_b.Self.ok
def code_errors_1__least_b.pre : Shape := ⟨[(0, qk5), (1, qk5), (2, qk41), (3, qk42), (4, qk43), (5, qk44)], [(1000100, qk45), (1000110, qk46), (1000120, qk47), (1000130, qk48), (1000140, qk49), (1000150, qk50), (1000200, qk38), (1000300, qk39), (1000400, qk40), (2000110, qk51), (2000300, qk31), (2000400, qk22)]⟩
def code_errors_1__least_b.post : Shape := ⟨[], [(1000100, qk45), (1000110, qk46), (1000120, qk47), (1000130, qk48), (1000140, qk49), (1000150, qk50), (1000200, qk38), (1000300, qk39), (1000400, qk40), (2000110, qk51), (2000300, qk31), (2000400, qk22)]⟩
def code_errors_1__least_b.c232773 {ρ : Type} (c : Int) (w : Int) (k_ : Int → Option ρ) : Option ρ :=
  br (c != (73 : Int))
   (k_ (IntKind.wrap IntKind.i64 (w + (1 : Int))))
   (k_ w)
def code_errors_1__least_b.c232773s : Shape := ⟨[(0, qk5), (1, qk5), (2, qk41), (3, qk42), (4, qk43), (5, qk44), (11, qk52), (12, qk5), (28, qk53), (29, qk5), (30, qk5)], [(1000100, qk45), (1000110, qk46), (1000120, qk47), (1000130, qk48), (1000140, qk49), (1000150, qk50), (1000200, qk38), (1000300, qk39), (1000400, qk40), (2000110, qk51), (2000300, qk31), (2000400, qk22)]⟩
def code_errors_1__least_b.c232773x0 : Shape := ⟨[(0, qk5), (1, qk5), (2, qk41), (3, qk42), (4, qk43), (5, qk44), (11, qk52), (12, qk5), (28, qk53), (29, qk5), (30, qk5)], [(1000100, qk45), (1000110, qk46), (1000120, qk47), (1000130, qk48), (1000140, qk49), (1000150, qk50), (1000200, qk38), (1000300, qk39), (1000400, qk40), (2000110, qk51), (2000300, qk31), (2000400, qk22)]⟩
def code_errors_1__least_b.c232773r : Ck := Ck.of (T := Int) code_errors_1__least_b.c232773s (fun ρ x_ k_ => uP x_ fun q x_ => uP x_ fun weight x_ => uP x_ fun c x_ => uP x_ fun w x_ => uP x_ fun t28 x_ => uP x_ fun t29 x_ => uP x_ fun t30 x_ => uP x_ fun t10001000 x_ => uP x_ fun t10002000 x_ => uP x_ fun t2000110 x_ => uP x_ fun t2000300 x_ => uP x_ fun t2000400 x_ => code_errors_1__least_b.c232773 c w k_) (fun ρ x_ r_ k_ => uP x_ fun q x_ => uP x_ fun weight x_ => uP x_ fun c x_ => uP x_ fun w x_ => uP x_ fun t28 x_ => uP x_ fun t29 x_ => uP x_ fun t30 x_ => uP x_ fun t10001000 x_ => uP x_ fun t10002000 x_ => uP x_ fun t2000110 x_ => uP x_ fun t2000300 x_ => uP x_ fun t2000400 x_ => k_ 0 (Shape.inj code_errors_1__least_b.c232773x0 (q, weight, c, r_, t28, t29, t30, t10001000, t10002000, t2000110, t2000300, t2000400, ())))
def code_errors_1__least_b.c100004 {ρ : Type} (q : Int) (weight : Int) (t28 : List (Int)) (t29 : Int) (t30 : Int) (t10001000 : Int) (t10002000 : List ((Int) × ((Int) × (Bool)))) (t2000110 : List (Int)) (t2000300 : List (Int)) (t2000400 : List ((Int) × ((Int) × (Bool)))) (k_ : ((Int) × (Int) × (List ((Int) × ((Int) × (Bool)))) × (List Int) × (List Int) × (List ((Int) × ((Int) × (Bool))))) ⊕ ((Int) × (Int) × (List ((Int) × ((Int) × (Bool)))) × (List Int) × (List Int) × (List ((Int) × ((Int) × (Bool))))) → Option ρ) : Option ρ :=
  br (decide (t30 < t29))
   (bnd (idx t28 t30) fun y =>
    bnd (inR (List.length t2000110) (IntKind.wrap IntKind.i64 (q + (1 : Int)))) fun y_1 =>
    bnd (idx t2000110 (IntKind.wrap IntKind.i64 (q + (1 : Int)))) fun y_2 =>
    bnd (W.code_errors_1__least_b.c232773 y weight some) fun y_3 =>
    bnd (W.code_errors_1__least_b.self (uP (uP (IntKind.wrap IntKind.i64 (q + (1 : Int)), ()) fun u r ↦ (u, uP (y_3, ()) fun u r ↦ (u, ()))) fun u r ↦ (u, uP r fun u r ↦ (u, uP (uP (t10001000, ()) fun u r ↦ (u, ())) fun u r ↦ (u, uP (uP (t10002000, ()) fun u r ↦ (u, ())) fun u r ↦ (u, uP (List.set t2000110 (Int.toNat (IntKind.wrap IntKind.i64 (q + (1 : Int)))) y, ()) fun u r ↦ (u, uP (t2000300, ()) fun u r ↦ (u, uP (t2000400, ()) fun u r ↦ (u, ()))))))))) fun y_4 =>
    k_ (.inl ((IntKind.wrap IntKind.i64 (t30 + (1 : Int))), (Prod.fst y_4), (Prod.fst y_4.2), (Prod.fst y_4.2.2), (Prod.fst y_4.2.2.2), (Prod.fst y_4.2.2.2.2))))
   (k_ (.inr (t30, t10001000, t10002000, t2000110, t2000300, t2000400)))
def code_errors_1__least_b.c100004s : Shape := ⟨[(0, qk5), (1, qk5), (2, qk41), (3, qk42), (4, qk43), (5, qk44), (28, qk53), (29, qk5), (30, qk5)], [(1000100, qk45), (1000110, qk46), (1000120, qk47), (1000130, qk48), (1000140, qk49), (1000150, qk50), (1000200, qk38), (1000300, qk39), (1000400, qk40), (2000110, qk51), (2000300, qk31), (2000400, qk22)]⟩
def code_errors_1__least_b.c100004x0 : Shape := ⟨[(0, qk5), (1, qk5), (2, qk41), (3, qk42), (4, qk43), (5, qk44), (28, qk53), (29, qk5), (30, qk5)], [(1000100, qk45), (1000110, qk46), (1000120, qk47), (1000130, qk48), (1000140, qk49), (1000150, qk50), (1000200, qk38), (1000300, qk39), (1000400, qk40), (2000110, qk51), (2000300, qk31), (2000400, qk22)]⟩
def code_errors_1__least_b.c100004r : Ck := Ck.ofLoop (S := (Int) × (Int) × (List ((Int) × ((Int) × (Bool)))) × (List Int) × (List Int) × (List ((Int) × ((Int) × (Bool))))) (T := (Int) × (Int) × (List ((Int) × ((Int) × (Bool)))) × (List Int) × (List Int) × (List ((Int) × ((Int) × (Bool))))) code_errors_1__least_b.c100004s (fun x_ => uP x_ fun q x_ => uP x_ fun weight x_ => uP x_ fun t28 x_ => uP x_ fun t29 x_ => uP x_ fun t30 x_ => uP x_ fun t10001000 x_ => uP x_ fun t10002000 x_ => uP x_ fun t2000110 x_ => uP x_ fun t2000300 x_ => uP x_ fun t2000400 x_ => (t30, t10001000, t10002000, t2000110, t2000300, t2000400)) (fun ρ x_ s_ k_ => uP x_ fun q x_ => uP x_ fun weight x_ => uP x_ fun t28 x_ => uP x_ fun t29 x_ => uP x_ fun t30 x_ => uP x_ fun t10001000 x_ => uP x_ fun t10002000 x_ => uP x_ fun t2000110 x_ => uP x_ fun t2000300 x_ => uP x_ fun t2000400 x_ => code_errors_1__least_b.c100004 q weight t28 t29 s_.1 s_.2.1 s_.2.2.1 s_.2.2.2.1 s_.2.2.2.2.1 s_.2.2.2.2.2 k_) (fun ρ x_ r_ k_ => uP x_ fun q x_ => uP x_ fun weight x_ => uP x_ fun t28 x_ => uP x_ fun t29 x_ => uP x_ fun t30 x_ => uP x_ fun t10001000 x_ => uP x_ fun t10002000 x_ => uP x_ fun t2000110 x_ => uP x_ fun t2000300 x_ => uP x_ fun t2000400 x_ => k_ 2 (Shape.inj code_errors_1__least_b.c100004x0 (q, weight, t28, t29, r_.1, r_.2.1, r_.2.2.1, r_.2.2.2.1, r_.2.2.2.2.1, r_.2.2.2.2.2, ())))
def code_errors_1__least_b (q : Int) (weight : Int) (t10001000 : Int) (t10002000 : List ((Int) × ((Int) × (Bool)))) (t2000110 : List (Int)) (t2000300 : List (Int)) (t2000400 : List ((Int) × ((Int) × (Bool)))) : Option ((Int) × (List ((Int) × ((Int) × (Bool)))) × (List Int) × (List Int) × (List ((Int) × ((Int) × (Bool)))) × Unit) :=
  br (q == t10001000)
   (bnd (W.tableau_Read (List.map (fun n ↦ UInt8.ofNat (Int.toNat n)) t2000110) t10001000) fun y =>
    bnd (W.code_least_1 (Prod.fst (uP (uP ((Prod.fst (Prod.fst y), Prod.fst (Prod.snd (Prod.fst y)), Prod.snd (Prod.snd (Prod.fst y))), ()) fun u r ↦ (u, uP (weight, ()) fun u r ↦ (u, ()))) fun u r ↦ (u, uP r fun u r ↦ (u, uP (uP (t10002000, ()) fun u r ↦ (u, ())) fun u r ↦ (u, uP (t2000300, ()) fun u r ↦ (u, uP (t2000400, ()) fun u r ↦ (u, ()))))))) (Prod.fst (Prod.snd (uP (uP ((Prod.fst (Prod.fst y), Prod.fst (Prod.snd (Prod.fst y)), Prod.snd (Prod.snd (Prod.fst y))), ()) fun u r ↦ (u, uP (weight, ()) fun u r ↦ (u, ()))) fun u r ↦ (u, uP r fun u r ↦ (u, uP (uP (t10002000, ()) fun u r ↦ (u, ())) fun u r ↦ (u, uP (t2000300, ()) fun u r ↦ (u, uP (t2000400, ()) fun u r ↦ (u, ())))))))) (Prod.fst (Prod.snd (Prod.snd (uP (uP ((Prod.fst (Prod.fst y), Prod.fst (Prod.snd (Prod.fst y)), Prod.snd (Prod.snd (Prod.fst y))), ()) fun u r ↦ (u, uP (weight, ()) fun u r ↦ (u, ()))) fun u r ↦ (u, uP r fun u r ↦ (u, uP (uP (t10002000, ()) fun u r ↦ (u, ())) fun u r ↦ (u, uP (t2000300, ()) fun u r ↦ (u, uP (t2000400, ()) fun u r ↦ (u, ()))))))))) (Prod.fst (Prod.snd (Prod.snd (Prod.snd (uP (uP ((Prod.fst (Prod.fst y), Prod.fst (Prod.snd (Prod.fst y)), Prod.snd (Prod.snd (Prod.fst y))), ()) fun u r ↦ (u, uP (weight, ()) fun u r ↦ (u, ()))) fun u r ↦ (u, uP r fun u r ↦ (u, uP (uP (t10002000, ()) fun u r ↦ (u, ())) fun u r ↦ (u, uP (t2000300, ()) fun u r ↦ (u, uP (t2000400, ()) fun u r ↦ (u, ())))))))))) (Prod.fst (Prod.snd (Prod.snd (Prod.snd (Prod.snd (uP (uP ((Prod.fst (Prod.fst y), Prod.fst (Prod.snd (Prod.fst y)), Prod.snd (Prod.snd (Prod.fst y))), ()) fun u r ↦ (u, uP (weight, ()) fun u r ↦ (u, ()))) fun u r ↦ (u, uP r fun u r ↦ (u, uP (uP (t10002000, ()) fun u r ↦ (u, ())) fun u r ↦ (u, uP (t2000300, ()) fun u r ↦ (u, uP (t2000400, ()) fun u r ↦ (u, ())))))))))))) fun y_1 =>
    some (uP (uP (t10001000, ()) fun u r ↦ (u, ())) fun u r ↦ (u, uP (uP (Prod.fst y_1, ()) fun u r ↦ (u, ())) fun u r ↦ (u, uP (t2000110, ()) fun u r ↦ (u, uP (Prod.fst y_1.2, ()) fun u r ↦ (u, uP (Prod.fst y_1.2.2, ()) fun u r ↦ (u, ())))))))
   (bnd (iter (fun s ↦ W.code_errors_1__least_b.c100004 q weight [(73 : Int), (88 : Int), (89 : Int), (90 : Int)] (↑(4 : Nat) : Int) (Prod.fst s) (Prod.fst (Prod.snd s)) (Prod.fst (Prod.snd (Prod.snd s))) (Prod.fst (Prod.snd (Prod.snd (Prod.snd s)))) (Prod.fst (Prod.snd (Prod.snd (Prod.snd (Prod.snd s))))) (Prod.snd (Prod.snd (Prod.snd (Prod.snd (Prod.snd s))))) some) ((0 : Int), t10001000, t10002000, t2000110, t2000300, t2000400)) fun y_2 =>
    some (uP (uP (Prod.fst (Prod.snd y_2), ()) fun u r ↦ (u, ())) fun u r ↦ (u, uP (uP (Prod.fst (Prod.snd (Prod.snd y_2)), ()) fun u r ↦ (u, ())) fun u r ↦ (u, uP (Prod.fst (Prod.snd (Prod.snd (Prod.snd y_2))), ()) fun u r ↦ (u, uP (Prod.fst (Prod.snd (Prod.snd (Prod.snd (Prod.snd y_2)))), ()) fun u r ↦ (u, uP (Prod.snd (Prod.snd (Prod.snd (Prod.snd (Prod.snd y_2)))), ()) fun u r ↦ (u, ())))))))
def code_errors_1__least_b.mc : MCallee := ⟨53, code_errors_1__least_b.pre, code_errors_1__least_b.post, fun x_ => code_errors_1__least_b x_.1 x_.2.1 x_.2.2.1 x_.2.2.2.1 x_.2.2.2.2.1 x_.2.2.2.2.2.1 x_.2.2.2.2.2.2.1⟩
def code_errors_1__least_b.G : Env := ⟨50, tab, [(30, tableau_Read.ce)], [0, 1, 2, 3, 4, 5, 8, 11, 12, 15, 28, 29, 30, 31, 41], [1000100, 1000110, 1000120, 1000130, 1000140, 1000150, 1000200, 1000300, 1000400, 2000110, 2000300, 2000400], [], [(100004, code_errors_1__least_b.c100004r), (232773, code_errors_1__least_b.c232773r)], [(55, code_least_1.mc), (53, code_errors_1__least_b.self.mc)], tab_eqs⟩
theorem code_errors_1__least_b.eq (x_ : densU code_errors_1__least_b.mc.pre.tys) : denM code_errors_1__least_b.G Go.Proofs.Try.f53 code_errors_1__least_b.mc.pre code_errors_1__least_b.mc.post x_ = code_errors_1__least_b.mc.F x_ := by kernel_rfl
theorem code_errors_1__least_b.p0 : PieceOk code_errors_1__least_b.G (pieceAt (pieces code_errors_1__least_b.G.cks (bodyOf Go.Proofs.Try.f53)) 0).1 (pieceAt (pieces code_errors_1__least_b.G.cks (bodyOf Go.Proofs.Try.f53)) 0).2 :=
  loop_ok (s := code_errors_1__least_b.c100004r) (by kernel_rfl) (by kernel_rfl) (loops_of (sh := code_errors_1__least_b.c100004s) (I := fun x_ s_ => (x_.1, x_.2.1, x_.2.2.1, x_.2.2.2.1, s_.1, s_.2.1, s_.2.2.1, s_.2.2.2.1, s_.2.2.2.2.1, s_.2.2.2.2.2, ())) (fun x_ => rfl) (fun ρ x_ s_ k_ => (nat_br (nat_bnd fun _ => (nat_bnd fun _ => (nat_bnd fun _ => (nat_bnd fun _ => (nat_bnd fun _ => nat_leaf))))) nat_leaf)) (fun ρ x_ t k => (by kernel_rfl)) (fun x_ s => by kernel_rfl))
theorem code_errors_1__least_b.p1 : PieceOk code_errors_1__least_b.G (pieceAt (pieces code_errors_1__least_b.G.cks (bodyOf Go.Proofs.Try.f53)) 1).1 (pieceAt (pieces code_errors_1__least_b.G.cks (bodyOf Go.Proofs.Try.f53)) 1).2 :=
  join_ok (s := code_errors_1__least_b.c232773r) (by kernel_rfl) (by kernel_rfl) (sums_of (sh := code_errors_1__least_b.c232773s) (fun ρ x_ k_ => (nat_br nat_leaf nat_leaf)) (fun ρ x_ t k => (by kernel_rfl)) (fun x_ => by kernel_rfl))
theorem code_errors_1__least_b.ok : MOk Go.Proofs.Try.prog 53 code_errors_1__least_b.mc := fnm_ok (G := code_errors_1__least_b.G) tab_ok mixed Go.Proofs.Try.func53 ⟨(fns_cons tableau_Read.ok fns_nil), (mfns_cons code_least_1.ok (mfns_cons code_errors_1__least_b.self.ok mfns_nil)), tab_eqs_ok⟩ (m := 2) (by kernel_rfl) ⟨⟨trivial, code_errors_1__least_b.p0⟩, code_errors_1__least_b.p1⟩ (by kernel_rfl) code_errors_1__least_b.eq
end
@[reducible] def code_errors_1__least_b.fuel : Nat → code_errors_1__least_b.Self
  | 0 => ⟨fun _ => none, ⟨⟨Go.Proofs.Try.f53, Go.Proofs.Try.func53, by kernel_rfl, by kernel_rfl⟩, fun _ _ _ _ _ _ _ hy => by cases hy⟩⟩
  | n + 1 => ⟨fun x_ => (@code_errors_1__least_b.mc (code_errors_1__least_b.fuel n)).F x_, @code_errors_1__least_b.ok (code_errors_1__least_b.fuel n)⟩
def code_errors_1__least (x_ : densU code_errors_1__least_b.self.pre.tys) : Option (densU code_errors_1__least_b.self.post.tys) := (code_errors_1__least_b.fuel 16).F x_
def code_errors_1__least.mc : MCallee := ⟨53, code_errors_1__least_b.self.pre, code_errors_1__least_b.self.post, fun x_ => code_errors_1__least x_⟩
theorem code_errors_1__least.ok : MOk Go.Proofs.Try.prog 53 code_errors_1__least.mc := (code_errors_1__least_b.fuel 16).ok
abbrev qk54 : SD := .one (.clo 1000140)
def code_errors__least.pre : Shape := ⟨[(0, qk5), (1, qk54)], [(1000140, qk49), (1000200, qk38), (1000300, qk39), (1000400, qk40), (2000300, qk31), (2000400, qk22)]⟩
def code_errors__least.post : Shape := ⟨[], [(1000140, qk49), (1000200, qk38), (1000300, qk39), (1000400, qk40), (2000300, qk31), (2000400, qk22)]⟩
def code_errors__least (n : Int) (t10002000 : List ((Int) × ((Int) × (Bool)))) (t2000300 : List (Int)) (t2000400 : List ((Int) × ((Int) × (Bool)))) : Option ((List ((Int) × ((Int) × (Bool)))) × (List Int) × (List ((Int) × ((Int) × (Bool)))) × Unit) :=
  bnd (okIf (decide ((0 : Int) ≤ IntKind.wrap IntKind.i64 (n + (1 : Int))) && decide (IntKind.wrap IntKind.i64 (n + (1 : Int)) ≤ IntKind.wrap IntKind.i64 (n + (1 : Int))) && decide (IntKind.wrap IntKind.i64 (n + (1 : Int)) * (↑(1 : Nat) : Int) ≤ (140737488355328 : Int)) && decide (IntKind.wrap IntKind.i64 (n + (1 : Int)) ≤ (140737488355328 : Int)))) fun y =>
  bnd (inR (List.length (List.replicate (Int.toNat (IntKind.wrap IntKind.i64 (n + (1 : Int)))) (0 : Int))) (0 : Int)) fun y_1 =>
  bnd (idx (List.replicate (Int.toNat (IntKind.wrap IntKind.i64 (n + (1 : Int)))) (0 : Int)) (0 : Int)) fun y_2 =>
  bnd (W.code_errors_1__least (uP (uP ((0 : Int), ()) fun u r ↦ (u, uP ((0 : Int), ()) fun u r ↦ (u, ()))) fun u r ↦ (u, uP r fun u r ↦ (u, uP (uP (n, ()) fun u r ↦ (u, ())) fun u r ↦ (u, uP (uP (t10002000, ()) fun u r ↦ (u, ())) fun u r ↦ (u, uP (List.set (List.replicate (Int.toNat (IntKind.wrap IntKind.i64 (n + (1 : Int)))) (0 : Int)) (0 : Nat) (43 : Int), ()) fun u r ↦ (u, uP (t2000300, ()) fun u r ↦ (u, uP (t2000400, ()) fun u r ↦ (u, ()))))))))) fun y_3 =>
  some (uP (uP (Prod.fst y_3.2, ()) fun u r ↦ (u, ())) fun u r ↦ (u, uP (Prod.fst y_3.2.2.2, ()) fun u r ↦ (u, uP (Prod.fst y_3.2.2.2.2, ()) fun u r ↦ (u, ()))))
def code_errors__least.mc : MCallee := ⟨34, code_errors__least.pre, code_errors__least.post, fun x_ => code_errors__least x_.1 x_.2.1 x_.2.2.1 x_.2.2.2.1⟩
def code_errors__least.G : Env := ⟨14, tab, [], [0, 1, 2, 3, 4, 5], [3, 4, 5, 8, 1004, 1000140, 1000200, 1000300, 1000400, 2000300, 2000400], [], [], [(53, code_errors_1__least.mc)], tab_eqs⟩
theorem code_errors__least.eq (x_ : densU code_errors__least.mc.pre.tys) : denM code_errors__least.G Go.Proofs.Try.f34 code_errors__least.mc.pre code_errors__least.mc.post x_ = code_errors__least.mc.F x_ := by kernel_rfl
theorem code_errors__least.ok : MOk Go.Proofs.Try.prog 34 code_errors__least.mc := fnm_ok (G := code_errors__least.G) tab_ok mixed Go.Proofs.Try.func34 ⟨fns_nil, (mfns_cons code_errors_1__least.ok mfns_nil), tab_eqs_ok⟩ (m := 0) (by kernel_rfl) trivial (by kernel_rfl) code_errors__least.eq
abbrev qk55 : SO := .box [.own 11 0]
abbrev qk56 : SO := .box [.own 14 0]
def code_least.c100004 {ρ : Type} (t16 : Int) (t17 : Int) (c0 : Int) (t14 : List (Int)) (k_ : ((Int) × (List Int)) ⊕ ((Int) × (List Int)) → Option ρ) : Option ρ :=
  br (decide (t17 < t16))
   (bnd (inR (List.length t14) t17) fun y =>
    bnd (idx t14 t17) fun y_1 =>
    k_ (.inl ((IntKind.wrap IntKind.i64 (t17 + (1 : Int))), (List.set t14 (Int.toNat t17) (IntKind.wrap IntKind.i64 (c0 + (1 : Int)))))))
   (k_ (.inr (t17, t14)))
def code_least.c100004s : Shape := ⟨[(0, qk0), (1, qk17), (2, qk2), (3, qk12), (4, qk17), (5, qk32), (6, qk8), (16, qk5), (17, qk5)], [(2, qk3), (3, qk38), (5, qk55), (6, qk56), (11, qk22), (14, qk31), (1005, qk22), (1006, qk31)]⟩
def code_least.c100004x0 : Shape := ⟨[(0, qk0), (1, qk17), (2, qk2), (3, qk12), (4, qk17), (5, qk32), (6, qk8), (16, qk5), (17, qk5)], [(2, qk3), (3, qk38), (5, qk55), (6, qk56), (11, qk22), (14, qk31), (1005, qk22), (1006, qk31)]⟩
def code_least.c100004r : Ck := Ck.ofLoop (S := (Int) × (List Int)) (T := (Int) × (List Int)) code_least.c100004s (fun x_ => uP x_ fun c x_ => uP x_ fun l x_ => uP x_ fun t4 x_ => uP x_ fun t16 x_ => uP x_ fun t17 x_ => uP x_ fun c0 x_ => uP x_ fun c1 x_ => uP x_ fun l0 x_ => uP x_ fun t11 x_ => uP x_ fun t14 x_ => uP x_ fun t1005 x_ => uP x_ fun t1006 x_ => (t17, t14)) (fun ρ x_ s_ k_ => uP x_ fun c x_ => uP x_ fun l x_ => uP x_ fun t4 x_ => uP x_ fun t16 x_ => uP x_ fun t17 x_ => uP x_ fun c0 x_ => uP x_ fun c1 x_ => uP x_ fun l0 x_ => uP x_ fun t11 x_ => uP x_ fun t14 x_ => uP x_ fun t1005 x_ => uP x_ fun t1006 x_ => code_least.c100004 t16 s_.1 c0 s_.2 k_) (fun ρ x_ r_ k_ => uP x_ fun c x_ => uP x_ fun l x_ => uP x_ fun t4 x_ => uP x_ fun t16 x_ => uP x_ fun t17 x_ => uP x_ fun c0 x_ => uP x_ fun c1 x_ => uP x_ fun l0 x_ => uP x_ fun t11 x_ => uP x_ fun t14 x_ => uP x_ fun t1005 x_ => uP x_ fun t1006 x_ => k_ 2 (Shape.inj code_least.c100004x0 (c, l, t4, t16, r_.1, c0, c1, l0, t11, r_.2, t1005, t1006, ())))
def code_least (c : (Int) × (List (List UInt8))) (l : List ((Int) × ((Int) × (Bool)))) : Option (List ((Int) × ((Int) × (Bool)))) :=
  bnd (okIf (decide ((0 : Int) ≤ (↑(List.length l) : Int)))) fun y =>
  bnd (okIf (decide ((0 : Int) ≤ IntKind.wrap IntKind.i64 ((1 : Int) * (2 : Int) ^ Min.min (Int.toNat (↑(List.length l) : Int)) (64 : Nat))) && decide (IntKind.wrap IntKind.i64 ((1 : Int) * (2 : Int) ^ Min.min (Int.toNat (↑(List.length l) : Int)) (64 : Nat)) ≤ IntKind.wrap IntKind.i64 ((1 : Int) * (2 : Int) ^ Min.min (Int.toNat (↑(List.length l) : Int)) (64 : Nat))) && decide (IntKind.wrap IntKind.i64 ((1 : Int) * (2 : Int) ^ Min.min (Int.toNat (↑(List.length l) : Int)) (64 : Nat)) * (↑(24 : Nat) : Int) ≤ (140737488355328 : Int)) && decide (IntKind.wrap IntKind.i64 ((1 : Int) * (2 : Int) ^ Min.min (Int.toNat (↑(List.length l) : Int)) (64 : Nat)) ≤ (140737488355328 : Int)))) fun y_1 =>
  bnd (okIf (decide ((0 : Int) ≤ (↑(List.length (List.replicate (Int.toNat (IntKind.wrap IntKind.i64 ((1 : Int) * (2 : Int) ^ Min.min (Int.toNat (↑(List.length l) : Int)) (64 : Nat)))) ((0 : Int), (0 : Int), false))) : Int)) && decide ((↑(List.length (List.replicate (Int.toNat (IntKind.wrap IntKind.i64 ((1 : Int) * (2 : Int) ^ Min.min (Int.toNat (↑(List.length l) : Int)) (64 : Nat)))) ((0 : Int), (0 : Int), false))) : Int) ≤ (↑(List.length (List.replicate (Int.toNat (IntKind.wrap IntKind.i64 ((1 : Int) * (2 : Int) ^ Min.min (Int.toNat (↑(List.length l) : Int)) (64 : Nat)))) ((0 : Int), (0 : Int), false))) : Int)) && decide ((↑(List.length (List.replicate (Int.toNat (IntKind.wrap IntKind.i64 ((1 : Int) * (2 : Int) ^ Min.min (Int.toNat (↑(List.length l) : Int)) (64 : Nat)))) ((0 : Int), (0 : Int), false))) : Int) * (↑(8 : Nat) : Int) ≤ (140737488355328 : Int)) && decide ((↑(List.length (List.replicate (Int.toNat (IntKind.wrap IntKind.i64 ((1 : Int) * (2 : Int) ^ Min.min (Int.toNat (↑(List.length l) : Int)) (64 : Nat)))) ((0 : Int), (0 : Int), false))) : Int) ≤ (140737488355328 : Int)))) fun y_2 =>
  bnd (iter (fun s ↦ W.code_least.c100004 (↑(List.length (List.replicate (Int.toNat (↑(List.length (List.replicate (Int.toNat (IntKind.wrap IntKind.i64 ((1 : Int) * (2 : Int) ^ Min.min (Int.toNat (↑(List.length l) : Int)) (64 : Nat)))) ((0 : Int), (0 : Int), false))) : Int)) (0 : Int))) : Int) (Prod.fst s) (Prod.fst c) (Prod.snd s) some) ((0 : Int), List.replicate (Int.toNat (↑(List.length (List.replicate (Int.toNat (IntKind.wrap IntKind.i64 ((1 : Int) * (2 : Int) ^ Min.min (Int.toNat (↑(List.length l) : Int)) (64 : Nat)))) ((0 : Int), (0 : Int), false))) : Int)) (0 : Int))) fun y_3 =>
  bnd (W.code_errors__least (Prod.fst (uP (uP (Prod.fst c, ()) fun u r ↦ (u, ())) fun u r ↦ (u, uP (uP (l, ()) fun u r ↦ (u, ())) fun u r ↦ (u, uP (Prod.snd y_3, ()) fun u r ↦ (u, uP (List.replicate (Int.toNat (IntKind.wrap IntKind.i64 ((1 : Int) * (2 : Int) ^ Min.min (Int.toNat (↑(List.length l) : Int)) (64 : Nat)))) ((0 : Int), (0 : Int), false), ()) fun u r ↦ (u, ())))))) (Prod.fst (Prod.snd (uP (uP (Prod.fst c, ()) fun u r ↦ (u, ())) fun u r ↦ (u, uP (uP (l, ()) fun u r ↦ (u, ())) fun u r ↦ (u, uP (Prod.snd y_3, ()) fun u r ↦ (u, uP (List.replicate (Int.toNat (IntKind.wrap IntKind.i64 ((1 : Int) * (2 : Int) ^ Min.min (Int.toNat (↑(List.length l) : Int)) (64 : Nat)))) ((0 : Int), (0 : Int), false), ()) fun u r ↦ (u, ()))))))) (Prod.fst (Prod.snd (Prod.snd (uP (uP (Prod.fst c, ()) fun u r ↦ (u, ())) fun u r ↦ (u, uP (uP (l, ()) fun u r ↦ (u, ())) fun u r ↦ (u, uP (Prod.snd y_3, ()) fun u r ↦ (u, uP (List.replicate (Int.toNat (IntKind.wrap IntKind.i64 ((1 : Int) * (2 : Int) ^ Min.min (Int.toNat (↑(List.length l) : Int)) (64 : Nat)))) ((0 : Int), (0 : Int), false), ()) fun u r ↦ (u, ())))))))) (Prod.fst (Prod.snd (Prod.snd (Prod.snd (uP (uP (Prod.fst c, ()) fun u r ↦ (u, ())) fun u r ↦ (u, uP (uP (l, ()) fun u r ↦ (u, ())) fun u r ↦ (u, uP (Prod.snd y_3, ()) fun u r ↦ (u, uP (List.replicate (Int.toNat (IntKind.wrap IntKind.i64 ((1 : Int) * (2 : Int) ^ Min.min (Int.toNat (↑(List.length l) : Int)) (64 : Nat)))) ((0 : Int), (0 : Int), false), ()) fun u r ↦ (u, ())))))))))) fun y_4 =>
  some (Prod.fst y_4.2.2)
def code_least.ce : Go.Ql.Callee := ⟨[(.st (.pair (.int .i64) (.sl .str))), (.sl (.st (.pair (.int .u64) (.pair (.int .u64) .bool))))], [(.sl (.st (.pair (.int .u64) (.pair (.int .u64) .bool))))], fun x_ => code_least x_.1 x_.2⟩
def code_least.G : Env := ⟨32, tab, [], [0, 1, 2, 3, 4, 5, 6, 7, 16, 17, 18], [5, 6, 11, 14, 1005, 1006], [], [(100004, code_least.c100004r)], [(34, code_errors__least.mc)], tab_eqs⟩
theorem code_least.eq (x_ : dens [(.st (.pair (.int .i64) (.sl .str))), (.sl (.st (.pair (.int .u64) (.pair (.int .u64) .bool))))]) : den code_least.G Go.Proofs.Try.f43 [(.st (.pair (.int .i64) (.sl .str))), (.sl (.st (.pair (.int .u64) (.pair (.int .u64) .bool))))] [(.sl (.st (.pair (.int .u64) (.pair (.int .u64) .bool))))] x_ = code_least x_.1 x_.2 := by kernel_rfl
theorem code_least.p0 : PieceOk code_least.G (pieceAt (pieces code_least.G.cks (bodyOf Go.Proofs.Try.f43)) 0).1 (pieceAt (pieces code_least.G.cks (bodyOf Go.Proofs.Try.f43)) 0).2 :=
  loop_ok (s := code_least.c100004r) (by kernel_rfl) (by kernel_rfl) (loops_of (sh := code_least.c100004s) (I := fun x_ s_ => (x_.1, x_.2.1, x_.2.2.1, x_.2.2.2.1, s_.1, x_.2.2.2.2.2.1, x_.2.2.2.2.2.2.1, x_.2.2.2.2.2.2.2.1, x_.2.2.2.2.2.2.2.2.1, s_.2, x_.2.2.2.2.2.2.2.2.2.2.1, x_.2.2.2.2.2.2.2.2.2.2.2.1, ())) (fun x_ => rfl) (fun ρ x_ s_ k_ => (nat_br (nat_bnd fun _ => (nat_bnd fun _ => nat_leaf)) nat_leaf)) (fun ρ x_ t k => (by kernel_rfl)) (fun x_ s => by kernel_rfl))
theorem code_least.ok : CalleeOk Go.Proofs.Try.prog 43 code_least.ce := fn_ok (G := code_least.G) tab_ok mixed Go.Proofs.Try.func43 ⟨fns_nil, (mfns_cons code_errors__least.ok mfns_nil), tab_eqs_ok⟩ (m := 1) (by kernel_rfl) ⟨trivial, code_least.p0⟩ (by kernel_rfl) code_least.eq
abbrev qk57 : SD := .one (.own 7 0)
def tableau_pauli_text.c208197 {ρ : Type} (p2 : Bool) (t7 : List (Int)) (k_ : List (Int) → Option ρ) : Option ρ :=
  br p2
   (bnd (inR (List.length t7) (0 : Int)) fun y =>
    bnd (idx t7 (0 : Int)) fun y_1 =>
    k_ (List.set t7 (0 : Nat) (45 : Int)))
   (k_ t7)
def tableau_pauli_text.c208197s : Shape := ⟨[(0, qk11), (1, qk5), (2, qk2), (4, qk4), (5, qk57)], [(2, qk9), (7, qk51)]⟩
def tableau_pauli_text.c208197x0 : Shape := ⟨[(0, qk11), (1, qk5), (2, qk2), (4, qk4), (5, qk57)], [(2, qk9), (7, qk51)]⟩
def tableau_pauli_text.c208197r : Ck := Ck.of (T := List (Int)) tableau_pauli_text.c208197s (fun ρ x_ k_ => uP x_ fun p x_ => uP x_ fun n x_ => uP x_ fun t4 x_ => uP x_ fun p0 x_ => uP x_ fun p1 x_ => uP x_ fun p2 x_ => uP x_ fun t7 x_ => tableau_pauli_text.c208197 p2 t7 k_) (fun ρ x_ r_ k_ => uP x_ fun p x_ => uP x_ fun n x_ => uP x_ fun t4 x_ => uP x_ fun p0 x_ => uP x_ fun p1 x_ => uP x_ fun p2 x_ => uP x_ fun t7 x_ => k_ 0 (Shape.inj tableau_pauli_text.c208197x0 (p, n, t4, p0, p1, p2, r_, ())))
def tableau_pauli_text.c7 {ρ : Type} (q : Int) (p0 : Int) (p1 : Int) (t7 : List (Int)) (k_ : List (Int) → Option ρ) : Option ρ :=
  bnd (okIf (decide ((0 : Int) ≤ q))) fun y =>
  bnd (okIf (decide ((0 : Int) ≤ q))) fun y_1 =>
  bnd (idx (Array.toList (ByteArray.data (ByteArray.mk #[(73 : UInt8), (88 : UInt8), (90 : UInt8), (89 : UInt8)]))) (ibits BinOp.or IntKind.u64 (ibits BinOp.and IntKind.u64 (Int.fdiv p0 ((2 : Int) ^ Min.min (Int.toNat q) (64 : Nat))) (1 : Int)) (IntKind.wrap IntKind.u64 (ibits BinOp.and IntKind.u64 (Int.fdiv p1 ((2 : Int) ^ Min.min (Int.toNat q) (64 : Nat))) (1 : Int) * (2 : Int) ^ (1 : Nat))))) fun y_2 =>
  bnd (okIf (decide ((List.length t7 + (1 : Nat)) * (1 : Nat) ≤ (140737488355328 : Nat)) && decide (List.length t7 + (1 : Nat) ≤ (140737488355328 : Nat)))) fun y_3 =>
  k_ (t7 ++ [(↑(UInt8.toNat y_2) : Int)])
def tableau_pauli_text.c7s : Shape := ⟨[(0, qk11), (1, qk5), (2, qk2), (4, qk4), (5, qk57), (6, qk5), (12, qk5), (13, qk5)], [(2, qk9), (7, qk51)]⟩
def tableau_pauli_text.c7x0 : Shape := ⟨[(0, qk11), (1, qk5), (2, qk2), (4, qk4), (5, qk57), (6, qk5), (12, qk5), (13, qk5)], [(2, qk9), (7, qk51)]⟩
def tableau_pauli_text.c7r : Ck := Ck.of (T := List (Int)) tableau_pauli_text.c7s (fun ρ x_ k_ => uP x_ fun p x_ => uP x_ fun n x_ => uP x_ fun t4 x_ => uP x_ fun q x_ => uP x_ fun t12 x_ => uP x_ fun t13 x_ => uP x_ fun p0 x_ => uP x_ fun p1 x_ => uP x_ fun p2 x_ => uP x_ fun t7 x_ => tableau_pauli_text.c7 q p0 p1 t7 k_) (fun ρ x_ r_ k_ => uP x_ fun p x_ => uP x_ fun n x_ => uP x_ fun t4 x_ => uP x_ fun q x_ => uP x_ fun t12 x_ => uP x_ fun t13 x_ => uP x_ fun p0 x_ => uP x_ fun p1 x_ => uP x_ fun p2 x_ => uP x_ fun t7 x_ => k_ 0 (Shape.inj tableau_pauli_text.c7x0 (p, n, t4, q, t12, t13, p0, p1, p2, r_, ())))
def tableau_pauli_text.c100005 {ρ : Type} (t12 : Int) (t13 : Int) (p0 : Int) (p1 : Int) (t7 : List (Int)) (k_ : ((Int) × (List Int)) ⊕ ((Int) × (List Int)) → Option ρ) : Option ρ :=
  br (decide (t13 < t12))
   (bnd (W.tableau_pauli_text.c7 t13 p0 p1 t7 some) fun y =>
    k_ (.inl ((IntKind.wrap IntKind.i64 (t13 + (1 : Int))), y)))
   (k_ (.inr (t13, t7)))
def tableau_pauli_text.c100005s : Shape := ⟨[(0, qk11), (1, qk5), (2, qk2), (4, qk4), (5, qk57), (12, qk5), (13, qk5)], [(2, qk9), (7, qk51)]⟩
def tableau_pauli_text.c100005x0 : Shape := ⟨[(0, qk11), (1, qk5), (2, qk2), (4, qk4), (5, qk57), (12, qk5), (13, qk5)], [(2, qk9), (7, qk51)]⟩
def tableau_pauli_text.c100005r : Ck := Ck.ofLoop (S := (Int) × (List Int)) (T := (Int) × (List Int)) tableau_pauli_text.c100005s (fun x_ => uP x_ fun p x_ => uP x_ fun n x_ => uP x_ fun t4 x_ => uP x_ fun t12 x_ => uP x_ fun t13 x_ => uP x_ fun p0 x_ => uP x_ fun p1 x_ => uP x_ fun p2 x_ => uP x_ fun t7 x_ => (t13, t7)) (fun ρ x_ s_ k_ => uP x_ fun p x_ => uP x_ fun n x_ => uP x_ fun t4 x_ => uP x_ fun t12 x_ => uP x_ fun t13 x_ => uP x_ fun p0 x_ => uP x_ fun p1 x_ => uP x_ fun p2 x_ => uP x_ fun t7 x_ => tableau_pauli_text.c100005 t12 s_.1 p0 p1 s_.2 k_) (fun ρ x_ r_ k_ => uP x_ fun p x_ => uP x_ fun n x_ => uP x_ fun t4 x_ => uP x_ fun t12 x_ => uP x_ fun t13 x_ => uP x_ fun p0 x_ => uP x_ fun p1 x_ => uP x_ fun p2 x_ => uP x_ fun t7 x_ => k_ 2 (Shape.inj tableau_pauli_text.c100005x0 (p, n, t4, t12, r_.1, p0, p1, p2, r_.2, ())))
def tableau_pauli_text (p : (Int) × ((Int) × (Bool))) (n : Int) : Option (List UInt8) :=
  bnd (W.tableau_pauli_text.c208197 (Prod.snd (Prod.snd p)) [(43 : Int)] some) fun y =>
  bnd (iter (fun s ↦ W.tableau_pauli_text.c100005 n (Prod.fst s) (Prod.fst p) (Prod.fst (Prod.snd p)) (Prod.snd s) some) ((0 : Int), y)) fun y_1 =>
  some (List.map (fun n ↦ UInt8.ofNat (Int.toNat n)) (Prod.snd y_1))
def tableau_pauli_text.ce : Go.Ql.Callee := ⟨[(.st (.pair (.int .u64) (.pair (.int .u64) .bool))), (.int .i64)], [.str], fun x_ => tableau_pauli_text x_.1 x_.2⟩
def tableau_pauli_text.G : Env := ⟨35, tab, [], [0, 1, 2, 4, 5, 6, 9, 12, 13, 14], [7], [(7, [⟨[], [], [17, 18, 19, 20, 21, 22, 23, 24, 25, 26, 27, 28, 29, 30], [30]⟩, ⟨[], [], [16, 19, 22, 23, 24, 25, 26, 27], []⟩, ⟨[1], [], [16, 19, 22, 23, 24, 25, 26, 27], []⟩, ⟨[], [], [16, 17, 18, 22, 23, 24, 25, 26, 27], []⟩, ⟨[2, 1, 3], [], [16, 22, 23, 24, 25, 26, 27], []⟩, ⟨[4, 2, 1, 3], [], [16, 22, 23, 24, 25, 26, 27], []⟩, ⟨[], [], [16, 17, 18, 19, 20, 21, 24], []⟩, ⟨[6], [], [16, 17, 18, 19, 20, 21, 24], []⟩, ⟨[], [], [16, 17, 18, 19, 20, 21, 22, 23], []⟩, ⟨[7, 6, 8], [], [16, 17, 18, 19, 20, 21], []⟩, ⟨[9, 7, 6, 8], [], [16, 17, 18, 19, 20, 21], []⟩, ⟨[10, 9, 7, 6, 8], [], [16, 17, 18, 19, 20, 21], []⟩, ⟨[5, 4, 2, 1, 3, 11, 10, 9, 7, 6, 8], [], [16], []⟩, ⟨[12, 5, 4, 2, 1, 3, 11, 10, 9, 7, 6, 8], [], [16], []⟩, ⟨[13, 12, 5, 4, 2, 1, 3, 11, 10, 9, 7, 6, 8], [30], [16], []⟩, ⟨[0, 14, 13, 12, 5, 4, 2, 1, 3, 11, 10, 9, 7, 6, 8], [7], [], []⟩, ⟨[15, 0, 14, 13, 12, 5, 4, 2, 1, 3, 11, 10, 9, 7, 6, 8], [], [], []⟩])], [(100005, tableau_pauli_text.c100005r), (7, tableau_pauli_text.c7r), (208197, tableau_pauli_text.c208197r)], [], tab_eqs⟩
theorem tableau_pauli_text.eq (x_ : dens [(.st (.pair (.int .u64) (.pair (.int .u64) .bool))), (.int .i64)]) : den tableau_pauli_text.G Go.Proofs.Try.f56 [(.st (.pair (.int .u64) (.pair (.int .u64) .bool))), (.int .i64)] [.str] x_ = tableau_pauli_text x_.1 x_.2 := by kernel_rfl
theorem tableau_pauli_text.p0 : PieceOk tableau_pauli_text.G (pieceAt (pieces tableau_pauli_text.G.cks (bodyOf Go.Proofs.Try.f56)) 0).1 (pieceAt (pieces tableau_pauli_text.G.cks (bodyOf Go.Proofs.Try.f56)) 0).2 :=
  join_ok (s := tableau_pauli_text.c208197r) (by kernel_rfl) (by kernel_rfl) (sums_of (sh := tableau_pauli_text.c208197s) (fun ρ x_ k_ => (nat_br (nat_bnd fun _ => (nat_bnd fun _ => nat_leaf)) nat_leaf)) (fun ρ x_ t k => (by kernel_rfl)) (fun x_ => by kernel_rfl))
theorem tableau_pauli_text.p1 : PieceOk tableau_pauli_text.G (pieceAt (pieces tableau_pauli_text.G.cks (bodyOf Go.Proofs.Try.f56)) 1).1 (pieceAt (pieces tableau_pauli_text.G.cks (bodyOf Go.Proofs.Try.f56)) 1).2 :=
  loop_ok (s := tableau_pauli_text.c100005r) (by kernel_rfl) (by kernel_rfl) (loops_of (sh := tableau_pauli_text.c100005s) (I := fun x_ s_ => (x_.1, x_.2.1, x_.2.2.1, x_.2.2.2.1, s_.1, x_.2.2.2.2.2.1, x_.2.2.2.2.2.2.1, x_.2.2.2.2.2.2.2.1, s_.2, ())) (fun x_ => rfl) (fun ρ x_ s_ k_ => (nat_br (nat_bnd fun _ => nat_leaf) nat_leaf)) (fun ρ x_ t k => (by kernel_rfl)) (fun x_ s => by kernel_rfl))
theorem tableau_pauli_text.p2 : PieceOk tableau_pauli_text.G (pieceAt (pieces tableau_pauli_text.G.cks (bodyOf Go.Proofs.Try.f56)) 2).1 (pieceAt (pieces tableau_pauli_text.G.cks (bodyOf Go.Proofs.Try.f56)) 2).2 :=
  region_ok (s := tableau_pauli_text.c7r) (by kernel_rfl) (by kernel_rfl) (sums_of (sh := tableau_pauli_text.c7s) (fun ρ x_ k_ => (nat_bnd fun _ => (nat_bnd fun _ => (nat_bnd fun _ => (nat_bnd fun _ => nat_leaf))))) (fun ρ x_ t k => (by kernel_rfl)) (fun x_ => by kernel_rfl))
theorem tableau_pauli_text.ok : CalleeOk Go.Proofs.Try.prog 56 tableau_pauli_text.ce := fn_ok (G := tableau_pauli_text.G) tab_ok mixed Go.Proofs.Try.func56 ⟨fns_nil, mfns_nil, tab_eqs_ok⟩ (m := 3) (by kernel_rfl) ⟨⟨⟨trivial, tableau_pauli_text.p0⟩, tableau_pauli_text.p1⟩, tableau_pauli_text.p2⟩ (by kernel_rfl) tableau_pauli_text.eq
def tableau_pauli_Text (p : (Int) × ((Int) × (Bool))) (n : Int) : Option (List UInt8) :=
  bnd (W.tableau_pauli_text (Prod.fst p, Prod.fst (Prod.snd p), Prod.snd (Prod.snd p)) n) fun y =>
  some y
def tableau_pauli_Text.ce : Go.Ql.Callee := ⟨[(.st (.pair (.int .u64) (.pair (.int .u64) .bool))), (.int .i64)], [.str], fun x_ => tableau_pauli_Text x_.1 x_.2⟩
def tableau_pauli_Text.G : Env := ⟨8, tab, [(56, tableau_pauli_text.ce)], [0, 1, 2, 4], [], [], [], [], tab_eqs⟩
theorem tableau_pauli_Text.eq (x_ : dens [(.st (.pair (.int .u64) (.pair (.int .u64) .bool))), (.int .i64)]) : den tableau_pauli_Text.G Go.Proofs.Try.f44 [(.st (.pair (.int .u64) (.pair (.int .u64) .bool))), (.int .i64)] [.str] x_ = tableau_pauli_Text x_.1 x_.2 := by kernel_rfl
theorem tableau_pauli_Text.ok : CalleeOk Go.Proofs.Try.prog 44 tableau_pauli_Text.ce := fn_ok (G := tableau_pauli_Text.G) tab_ok mixed Go.Proofs.Try.func44 ⟨(fns_cons tableau_pauli_text.ok fns_nil), mfns_nil, tab_eqs_ok⟩ (m := 0) (by kernel_rfl) trivial (by kernel_rfl) tableau_pauli_Text.eq
def code_Decode_1 (t0 : Int) (t1 : Int) : Option ((List UInt8) × ((Int) × (Int))) :=
  some (Array.toList (ByteArray.data (ByteArray.mk #[])), t0, t1)
def code_Decode_1.ce : Go.Ql.Callee := ⟨[(.int .i64), (.int .i64)], [.str, (.st (.pair (.int .i64) (.int .i64)))], fun x_ => code_Decode_1 x_.1 x_.2⟩
def code_Decode_1.G : Env := ⟨9, tab, [], [0, 1, 4, 5], [], [], [], [], tab_eqs⟩
theorem code_Decode_1.eq (x_ : dens [(.int .i64), (.int .i64)]) : den code_Decode_1.G Go.Proofs.Try.f42 [(.int .i64), (.int .i64)] [.str, (.st (.pair (.int .i64) (.int .i64)))] x_ = code_Decode_1 x_.1 x_.2 := by kernel_rfl
theorem code_Decode_1.ok : CalleeOk Go.Proofs.Try.prog 42 code_Decode_1.ce := fn_ok (G := code_Decode_1.G) tab_ok mixed Go.Proofs.Try.func42 ⟨fns_nil, mfns_nil, tab_eqs_ok⟩ (m := 0) (by kernel_rfl) trivial (by kernel_rfl) code_Decode_1.eq
abbrev qk58 : SD := .one (.fn 42)
def code_Decode.c4 {ρ : Type}  (k_ : Unit → Option ρ) : Option ρ :=
  k_ ()
def code_Decode.c4s : Shape := ⟨[(0, qk0), (1, qk29), (2, qk2), (4, qk4), (5, qk32), (6, qk58), (7, qk17), (8, qk34)], [(2, qk3), (5, qk19), (8, qk19)]⟩
def code_Decode.c4x0 : Shape := ⟨[(0, qk0), (1, qk29), (2, qk2), (4, qk4), (5, qk32), (6, qk58), (7, qk17), (8, qk34)], [(2, qk3), (5, qk19), (8, qk19)]⟩
def code_Decode.c4r : Ck := Ck.of (T := Unit) code_Decode.c4s (fun ρ x_ k_ => uP x_ fun c x_ => uP x_ fun syndrome x_ => uP x_ fun t4 x_ => uP x_ fun l x_ => uP x_ fun c0 x_ => uP x_ fun c1 x_ => uP x_ fun t50 x_ => uP x_ fun t51 x_ => uP x_ fun f0 x_ => uP x_ fun f1 x_ => code_Decode.c4  k_) (fun ρ x_ r_ k_ => uP x_ fun c x_ => uP x_ fun syndrome x_ => uP x_ fun t4 x_ => uP x_ fun l x_ => uP x_ fun c0 x_ => uP x_ fun c1 x_ => uP x_ fun t50 x_ => uP x_ fun t51 x_ => uP x_ fun f0 x_ => uP x_ fun f1 x_ => k_ 0 (Shape.inj code_Decode.c4x0 (c, syndrome, (Array.toList (ByteArray.data (ByteArray.mk #[]))), l, c0, c1, f0, f1, f0, f1, ())))
def code_Decode.c12 {ρ : Type} (b : Int) (k_ : Bool → Option ρ) : Option ρ :=
  br (b != (0 : Int))
   (k_ (b != (1 : Int)))
   (k_ false)
def code_Decode.c12s : Shape := ⟨[(0, qk0), (1, qk29), (2, qk2), (4, qk4), (5, qk32), (6, qk58), (7, qk17), (8, qk34), (9, qk5), (10, qk5), (36, qk29), (37, qk5), (38, qk5)], [(2, qk3), (5, qk19), (8, qk19)]⟩
def code_Decode.c12x0 : Shape := ⟨[(0, qk0), (1, qk29), (2, qk2), (4, qk4), (5, qk32), (6, qk58), (7, qk17), (8, qk34), (9, qk5), (10, qk5), (36, qk29), (37, qk5), (38, qk5), (48, qk7)], [(2, qk3), (5, qk19), (8, qk19)]⟩
def code_Decode.c12r : Ck := Ck.of (T := Bool) code_Decode.c12s (fun ρ x_ k_ => uP x_ fun c x_ => uP x_ fun syndrome x_ => uP x_ fun t4 x_ => uP x_ fun l x_ => uP x_ fun i x_ => uP x_ fun b x_ => uP x_ fun t36 x_ => uP x_ fun t37 x_ => uP x_ fun t38 x_ => uP x_ fun c0 x_ => uP x_ fun c1 x_ => uP x_ fun t50 x_ => uP x_ fun t51 x_ => uP x_ fun f0 x_ => uP x_ fun f1 x_ => code_Decode.c12 b k_) (fun ρ x_ r_ k_ => uP x_ fun c x_ => uP x_ fun syndrome x_ => uP x_ fun t4 x_ => uP x_ fun l x_ => uP x_ fun i x_ => uP x_ fun b x_ => uP x_ fun t36 x_ => uP x_ fun t37 x_ => uP x_ fun t38 x_ => uP x_ fun c0 x_ => uP x_ fun c1 x_ => uP x_ fun t50 x_ => uP x_ fun t51 x_ => uP x_ fun f0 x_ => uP x_ fun f1 x_ => k_ 0 (Shape.inj code_Decode.c12x0 (c, syndrome, t4, l, i, b, t36, t37, t38, r_, c0, c1, t50, t51, f0, f1, ())))
def code_Decode.c100010 {ρ : Type} (t36 : List (Int)) (t37 : Int) (t38 : Int) (k_ : (Int) ⊕ (((List UInt8) × (Int) × (Int) × (Int)) ⊕ (Int)) → Option ρ) : Option ρ :=
  br (decide (t38 < t37))
   (bnd (idx t36 t38) fun y =>
    bnd (W.code_Decode.c12 y some) fun y_1 =>
    br y_1
     (bnd (W.code_Decode_1 (20 : Int) t38) fun y_2 =>
      k_ (.inr (.inl ((Prod.fst y_2), t38, (Prod.fst (Prod.snd y_2)), (Prod.snd (Prod.snd y_2))))))
     (k_ (.inl (IntKind.wrap IntKind.i64 (t38 + (1 : Int))))))
   (k_ (.inr (.inr t38)))
def code_Decode.c100010s : Shape := ⟨[(0, qk0), (1, qk29), (2, qk2), (4, qk4), (5, qk32), (6, qk58), (7, qk17), (8, qk34), (36, qk29), (37, qk5), (38, qk5)], [(2, qk3), (5, qk19), (8, qk19)]⟩
def code_Decode.c100010x0 : Shape := ⟨[(0, qk0), (1, qk29), (2, qk2), (4, qk4), (5, qk32), (6, qk58), (7, qk17), (8, qk34), (36, qk29), (37, qk5), (38, qk5)], [(2, qk3), (5, qk19), (8, qk19)]⟩
def code_Decode.c100010x1 : Shape := ⟨[(0, qk0), (1, qk29), (2, qk2), (4, qk4), (5, qk32), (6, qk58), (7, qk17), (8, qk34), (36, qk29), (37, qk5), (38, qk5)], [(2, qk3), (5, qk19), (8, qk19)]⟩
def code_Decode.c100010r : Ck := Ck.ofLoop (S := Int) (T := ((List UInt8) × (Int) × (Int) × (Int)) ⊕ (Int)) code_Decode.c100010s (fun x_ => uP x_ fun c x_ => uP x_ fun syndrome x_ => uP x_ fun t4 x_ => uP x_ fun l x_ => uP x_ fun t36 x_ => uP x_ fun t37 x_ => uP x_ fun t38 x_ => uP x_ fun c0 x_ => uP x_ fun c1 x_ => uP x_ fun t50 x_ => uP x_ fun t51 x_ => uP x_ fun f0 x_ => uP x_ fun f1 x_ => t38) (fun ρ x_ s_ k_ => uP x_ fun c x_ => uP x_ fun syndrome x_ => uP x_ fun t4 x_ => uP x_ fun l x_ => uP x_ fun t36 x_ => uP x_ fun t37 x_ => uP x_ fun t38 x_ => uP x_ fun c0 x_ => uP x_ fun c1 x_ => uP x_ fun t50 x_ => uP x_ fun t51 x_ => uP x_ fun f0 x_ => uP x_ fun f1 x_ => code_Decode.c100010 t36 t37 s_ k_) (fun ρ x_ r_ k_ => uP x_ fun c x_ => uP x_ fun syndrome x_ => uP x_ fun t4 x_ => uP x_ fun l x_ => uP x_ fun t36 x_ => uP x_ fun t37 x_ => uP x_ fun t38 x_ => uP x_ fun c0 x_ => uP x_ fun c1 x_ => uP x_ fun t50 x_ => uP x_ fun t51 x_ => uP x_ fun f0 x_ => uP x_ fun f1 x_ => sel r_ (fun r_ => k_ 1 (Shape.inj code_Decode.c100010x0 (c, syndrome, r_.1, l, t36, t37, r_.2.1, c0, c1, r_.2.2.1, r_.2.2.2, f0, f1, ()))) (fun r_ => k_ 2 (Shape.inj code_Decode.c100010x1 (c, syndrome, t4, l, t36, t37, r_, c0, c1, t50, t51, f0, f1, ()))))
def code_Decode.c15 {ρ : Type} (syndrome : List (Int)) (l : List ((Int) × ((Int) × (Bool)))) (c0 : Int) (c1 : List (List UInt8)) (k_ : List UInt8 → Option ρ) : Option ρ :=
  bnd (W.code_least (c0, c1) l) fun y =>
  bnd (W.code_number syndrome) fun y_1 =>
  bnd (idx y y_1) fun y_2 =>
  bnd (W.tableau_pauli_Text y_2 c0) fun y_3 =>
  k_ y_3
def code_Decode.c15s : Shape := ⟨[(0, qk0), (1, qk29), (2, qk2), (4, qk4), (5, qk32), (6, qk58), (7, qk17), (8, qk34), (36, qk29), (37, qk5), (38, qk5)], [(2, qk3), (5, qk19), (8, qk19)]⟩
def code_Decode.c15x0 : Shape := ⟨[(0, qk0), (1, qk29), (2, qk2), (4, qk4), (5, qk32), (6, qk58), (7, qk17), (8, qk34), (36, qk29), (37, qk5), (38, qk5)], [(2, qk3), (5, qk19), (8, qk19)]⟩
def code_Decode.c15r : Ck := Ck.of (T := List UInt8) code_Decode.c15s (fun ρ x_ k_ => uP x_ fun c x_ => uP x_ fun syndrome x_ => uP x_ fun t4 x_ => uP x_ fun l x_ => uP x_ fun t36 x_ => uP x_ fun t37 x_ => uP x_ fun t38 x_ => uP x_ fun c0 x_ => uP x_ fun c1 x_ => uP x_ fun t50 x_ => uP x_ fun t51 x_ => uP x_ fun f0 x_ => uP x_ fun f1 x_ => code_Decode.c15 syndrome l c0 c1 k_) (fun ρ x_ r_ k_ => uP x_ fun c x_ => uP x_ fun syndrome x_ => uP x_ fun t4 x_ => uP x_ fun l x_ => uP x_ fun t36 x_ => uP x_ fun t37 x_ => uP x_ fun t38 x_ => uP x_ fun c0 x_ => uP x_ fun c1 x_ => uP x_ fun t50 x_ => uP x_ fun t51 x_ => uP x_ fun f0 x_ => uP x_ fun f1 x_ => k_ 0 (Shape.inj code_Decode.c15x0 (c, syndrome, r_, l, t36, t37, t38, c0, c1, f0, f1, f0, f1, ())))
def code_Decode (c : (Int) × (List (List UInt8))) (syndrome : List (Int)) : Option ((List UInt8) × ((Int) × (Int))) :=
  bnd (W.code_read (Prod.fst c, Prod.snd c)) fun y =>
  br (Prod.fst (Prod.snd y) != (0 : Int))
   (bnd (W.code_Decode.c4 some) fun y_1 =>
    some (Array.toList (ByteArray.data (ByteArray.mk #[])), Prod.fst (Prod.snd y), Prod.snd (Prod.snd y)))
   (br (decide (Prod.fst c > (9 : Int)))
     (bnd (W.code_Decode_1 (21 : Int) (0 : Int)) fun y_2 =>
      some (Prod.fst y_2, Prod.fst (Prod.snd y_2), Prod.snd (Prod.snd y_2)))
     (br ((↑(List.length syndrome) : Int) != (↑(List.length (Prod.fst y)) : Int))
       (bnd (W.code_Decode_1 (25 : Int) (0 : Int)) fun y_3 =>
        some (Prod.fst y_3, Prod.fst (Prod.snd y_3), Prod.snd (Prod.snd y_3)))
       (bnd (iter (fun s ↦ W.code_Decode.c100010 syndrome (↑(List.length syndrome) : Int) s some) (0 : Int)) fun y_4 =>
        sel y_4
         (fun u => some (Prod.fst u, Prod.fst (Prod.snd (Prod.snd u)), Prod.snd (Prod.snd (Prod.snd u))))
         (fun v => bnd (W.code_Decode.c15 syndrome (Prod.fst y) (Prod.fst c) (Prod.snd c) some) fun y_5 =>
          some (y_5, Prod.fst (Prod.snd y), Prod.snd (Prod.snd y))))))
def code_Decode.ce : Go.Ql.Callee := ⟨[(.st (.pair (.int .i64) (.sl .str))), (.sl (.int .i64))], [.str, (.st (.pair (.int .i64) (.int .i64)))], fun x_ => code_Decode x_.1 x_.2⟩
def code_Decode.G : Env := ⟨66, tab, [(24, code_read.ce), (43, code_least.ce), (36, code_number.ce), (44, tableau_pauli_Text.ce), (42, code_Decode_1.ce)], [0, 1, 2, 4, 5, 6, 7, 8, 9, 10, 18, 22, 31, 36, 37, 38, 39, 48], [], [(15, [⟨[], [], [56, 58, 62, 63, 65], []⟩, ⟨[], [], [55, 58, 62, 63, 65], []⟩, ⟨[0, 1], [], [58, 62, 63, 65], []⟩, ⟨[], [], [55, 56, 57, 62, 63, 65], []⟩, ⟨[3, 2, 0, 1], [], [62, 63, 65], []⟩, ⟨[2, 0, 1, 4, 3], [], [62, 63, 65], []⟩, ⟨[5, 2, 0, 1, 4, 3], [], [62, 63, 65], []⟩, ⟨[], [], [55, 56, 57, 58, 59, 60, 61, 65], []⟩, ⟨[7], [], [55, 56, 57, 58, 59, 60, 61, 65], []⟩, ⟨[6, 5, 2, 0, 1, 4, 3, 8, 7], [], [65], []⟩, ⟨[], [], [55, 56, 57, 58, 59, 60, 61, 62, 63, 64, 4], []⟩, ⟨[9, 6, 5, 2, 0, 1, 4, 3, 8, 7], [], [65], []⟩, ⟨[10, 11, 9, 6, 5, 2, 0, 1, 4, 3, 8, 7], [5], [], []⟩]),
  (4, [⟨[], [], [4], []⟩, ⟨[], [], [19], []⟩, ⟨[0, 1], [5], [], []⟩])], [(15, code_Decode.c15r), (100010, code_Decode.c100010r), (12, code_Decode.c12r), (4, code_Decode.c4r)], [], tab_eqs⟩
theorem code_Decode.eq (x_ : dens [(.st (.pair (.int .i64) (.sl .str))), (.sl (.int .i64))]) : den code_Decode.G Go.Proofs.Try.f18 [(.st (.pair (.int .i64) (.sl .str))), (.sl (.int .i64))] [.str, (.st (.pair (.int .i64) (.int .i64)))] x_ = code_Decode x_.1 x_.2 := by kernel_rfl
theorem code_Decode.p0 : PieceOk code_Decode.G (pieceAt (pieces code_Decode.G.cks (bodyOf Go.Proofs.Try.f18)) 0).1 (pieceAt (pieces code_Decode.G.cks (bodyOf Go.Proofs.Try.f18)) 0).2 :=
  region_ok (s := code_Decode.c4r) (by kernel_rfl) (by kernel_rfl) (sums_of (sh := code_Decode.c4s) (fun ρ x_ k_ => nat_leaf) (fun ρ x_ t k => (by kernel_rfl)) (fun x_ => by kernel_rfl))
theorem code_Decode.p1 : PieceOk code_Decode.G (pieceAt (pieces code_Decode.G.cks (bodyOf Go.Proofs.Try.f18)) 1).1 (pieceAt (pieces code_Decode.G.cks (bodyOf Go.Proofs.Try.f18)) 1).2 :=
  loop_ok (s := code_Decode.c100010r) (by kernel_rfl) (by kernel_rfl) (loops_of (sh := code_Decode.c100010s) (I := fun x_ s_ => (x_.1, x_.2.1, x_.2.2.1, x_.2.2.2.1, x_.2.2.2.2.1, x_.2.2.2.2.2.1, s_, x_.2.2.2.2.2.2.2.1, x_.2.2.2.2.2.2.2.2.1, x_.2.2.2.2.2.2.2.2.2.1, x_.2.2.2.2.2.2.2.2.2.2.1, x_.2.2.2.2.2.2.2.2.2.2.2.1, x_.2.2.2.2.2.2.2.2.2.2.2.2.1, ())) (fun x_ => rfl) (fun ρ x_ s_ k_ => (nat_br (nat_bnd fun _ => (nat_bnd fun _ => (nat_br (nat_bnd fun _ => nat_leaf) nat_leaf))) nat_leaf)) (fun ρ x_ t k => (nat_sel (fun _ => (by kernel_rfl)) (fun _ => (by kernel_rfl)))) (fun x_ s => by kernel_rfl))
theorem code_Decode.p2 : PieceOk code_Decode.G (pieceAt (pieces code_Decode.G.cks (bodyOf Go.Proofs.Try.f18)) 2).1 (pieceAt (pieces code_Decode.G.cks (bodyOf Go.Proofs.Try.f18)) 2).2 :=
  region_ok (s := code_Decode.c12r) (by kernel_rfl) (by kernel_rfl) (sums_of (sh := code_Decode.c12s) (fun ρ x_ k_ => (nat_br nat_leaf nat_leaf)) (fun ρ x_ t k => (by kernel_rfl)) (fun x_ => by kernel_rfl))
theorem code_Decode.p3 : PieceOk code_Decode.G (pieceAt (pieces code_Decode.G.cks (bodyOf Go.Proofs.Try.f18)) 3).1 (pieceAt (pieces code_Decode.G.cks (bodyOf Go.Proofs.Try.f18)) 3).2 :=
  region_ok (s := code_Decode.c15r) (by kernel_rfl) (by kernel_rfl) (sums_of (sh := code_Decode.c15s) (fun ρ x_ k_ => (nat_bnd fun _ => (nat_bnd fun _ => (nat_bnd fun _ => (nat_bnd fun _ => nat_leaf))))) (fun ρ x_ t k => (by kernel_rfl)) (fun x_ => by kernel_rfl))
theorem code_Decode.ok : CalleeOk Go.Proofs.Try.prog 18 code_Decode.ce := fn_ok (G := code_Decode.G) tab_ok mixed Go.Proofs.Try.func18 ⟨(fns_cons code_read.ok (fns_cons code_least.ok (fns_cons code_number.ok (fns_cons tableau_pauli_Text.ok (fns_cons code_Decode_1.ok fns_nil))))), mfns_nil, tab_eqs_ok⟩ (m := 4) (by kernel_rfl) ⟨⟨⟨⟨trivial, code_Decode.p0⟩, code_Decode.p1⟩, code_Decode.p2⟩, code_Decode.p3⟩ (by kernel_rfl) code_Decode.eq
def R_SameInts.c6 {ρ : Type} (a : List (Int)) (b : List (Int)) (i : Int) (k_ : Bool → Option ρ) : Option ρ :=
  bnd (idx a i) fun y =>
  bnd (idx b i) fun y_1 =>
  k_ (y != y_1)
def R_SameInts.c6s : Shape := ⟨[(0, qk29), (1, qk29), (4, qk7), (5, qk5)], []⟩
def R_SameInts.c6x0 : Shape := ⟨[(0, qk29), (1, qk29), (4, qk7), (5, qk5), (25, qk7)], []⟩
def R_SameInts.c6r : Ck := Ck.of (T := Bool) R_SameInts.c6s (fun ρ x_ k_ => uP x_ fun a x_ => uP x_ fun b x_ => uP x_ fun t4 x_ => uP x_ fun i x_ => R_SameInts.c6 a b i k_) (fun ρ x_ r_ k_ => uP x_ fun a x_ => uP x_ fun b x_ => uP x_ fun t4 x_ => uP x_ fun i x_ => k_ 0 (Shape.inj R_SameInts.c6x0 (a, b, t4, i, r_, ())))
def R_SameInts.c100004 {ρ : Type} (a : List (Int)) (b : List (Int)) (i : Int) (k_ : (Int) ⊕ ((Int) ⊕ (Int)) → Option ρ) : Option ρ :=
  br (decide (i < (↑(List.length a) : Int)))
   (bnd (W.R_SameInts.c6 a b i some) fun y =>
    br y
     (k_ (.inr (.inl i)))
     (k_ (.inl (IntKind.wrap IntKind.i64 (i + (1 : Int))))))
   (k_ (.inr (.inr i)))
def R_SameInts.c100004s : Shape := ⟨[(0, qk29), (1, qk29), (4, qk7), (5, qk5)], []⟩
def R_SameInts.c100004x0 : Shape := ⟨[(0, qk29), (1, qk29), (4, qk7), (5, qk5)], []⟩
def R_SameInts.c100004x1 : Shape := ⟨[(0, qk29), (1, qk29), (4, qk7), (5, qk5)], []⟩
def R_SameInts.c100004r : Ck := Ck.ofLoop (S := Int) (T := (Int) ⊕ (Int)) R_SameInts.c100004s (fun x_ => uP x_ fun a x_ => uP x_ fun b x_ => uP x_ fun t4 x_ => uP x_ fun i x_ => i) (fun ρ x_ s_ k_ => uP x_ fun a x_ => uP x_ fun b x_ => uP x_ fun t4 x_ => uP x_ fun i x_ => R_SameInts.c100004 a b s_ k_) (fun ρ x_ r_ k_ => uP x_ fun a x_ => uP x_ fun b x_ => uP x_ fun t4 x_ => uP x_ fun i x_ => sel r_ (fun r_ => k_ 1 (Shape.inj R_SameInts.c100004x0 (a, b, false, r_, ()))) (fun r_ => k_ 2 (Shape.inj R_SameInts.c100004x1 (a, b, t4, r_, ()))))
def R_SameInts (a : List (Int)) (b : List (Int)) : Option (Bool) :=
  br ((↑(List.length a) : Int) != (↑(List.length b) : Int))
   (some false)
   (bnd (iter (fun s ↦ W.R_SameInts.c100004 a b s some) (0 : Int)) fun y =>
    sel y
     (fun u => some false)
     (fun v => some true))
def R_SameInts.ce : Go.Ql.Callee := ⟨[(.sl (.int .i64)), (.sl (.int .i64))], [.bool], fun x_ => R_SameInts x_.1 x_.2⟩
def R_SameInts.G : Env := ⟨26, tab, [], [0, 1, 4, 5, 10, 14, 25], [], [(6, [⟨[], [], [18, 21, 22, 23, 24], []⟩, ⟨[], [], [17, 21, 22, 23, 24], []⟩, ⟨[0, 1], [], [21, 22, 23, 24], []⟩, ⟨[2, 0, 1], [], [21, 22, 23, 24], []⟩, ⟨[], [], [17, 18, 19, 20, 22], []⟩, ⟨[], [], [17, 18, 19, 20, 21], []⟩, ⟨[4, 5], [], [17, 18, 19, 20], []⟩, ⟨[6, 4, 5], [], [17, 18, 19, 20], []⟩, ⟨[3, 2, 0, 1, 7, 6, 4, 5], [], [], []⟩])], [(100004, R_SameInts.c100004r), (6, R_SameInts.c6r)], [], tab_eqs⟩
theorem R_SameInts.eq (x_ : dens [(.sl (.int .i64)), (.sl (.int .i64))]) : den R_SameInts.G Go.Proofs.Try.f14 [(.sl (.int .i64)), (.sl (.int .i64))] [.bool] x_ = R_SameInts x_.1 x_.2 := by kernel_rfl
theorem R_SameInts.p0 : PieceOk R_SameInts.G (pieceAt (pieces R_SameInts.G.cks (bodyOf Go.Proofs.Try.f14)) 0).1 (pieceAt (pieces R_SameInts.G.cks (bodyOf Go.Proofs.Try.f14)) 0).2 :=
  loop_ok (s := R_SameInts.c100004r) (by kernel_rfl) (by kernel_rfl) (loops_of (sh := R_SameInts.c100004s) (I := fun x_ s_ => (x_.1, x_.2.1, x_.2.2.1, s_, ())) (fun x_ => rfl) (fun ρ x_ s_ k_ => (nat_br (nat_bnd fun _ => (nat_br nat_leaf nat_leaf)) nat_leaf)) (fun ρ x_ t k => (nat_sel (fun _ => (by kernel_rfl)) (fun _ => (by kernel_rfl)))) (fun x_ s => by kernel_rfl))
theorem R_SameInts.p1 : PieceOk R_SameInts.G (pieceAt (pieces R_SameInts.G.cks (bodyOf Go.Proofs.Try.f14)) 1).1 (pieceAt (pieces R_SameInts.G.cks (bodyOf Go.Proofs.Try.f14)) 1).2 :=
  region_ok (s := R_SameInts.c6r) (by kernel_rfl) (by kernel_rfl) (sums_of (sh := R_SameInts.c6s) (fun ρ x_ k_ => (nat_bnd fun _ => (nat_bnd fun _ => nat_leaf))) (fun ρ x_ t k => (by kernel_rfl)) (fun x_ => by kernel_rfl))
theorem R_SameInts.ok : CalleeOk Go.Proofs.Try.prog 14 R_SameInts.ce := fn_ok (G := R_SameInts.G) tab_ok mixed Go.Proofs.Try.func14 ⟨fns_nil, mfns_nil, tab_eqs_ok⟩ (m := 2) (by kernel_rfl) ⟨⟨trivial, R_SameInts.p0⟩, R_SameInts.p1⟩ (by kernel_rfl) R_SameInts.eq
def Law_codeBegun.c4 {ρ : Type} (s : List (Int)) (e : List UInt8) (f0 : Int) (g0 : Int) (k_ : Bool → Option ρ) : Option ρ :=
  br (f0 == (0 : Int))
   (br (g0 == (0 : Int))
     (bnd (W.R_SameInts s [(1 : Int), (0 : Int)]) fun y =>
      br y
       (k_ (e == Array.toList (ByteArray.data (ByteArray.mk #[(43 : UInt8), (88 : UInt8), (73 : UInt8), (73 : UInt8)]))))
       (k_ false))
     (k_ false))
   (k_ false)
def Law_codeBegun.c4s : Shape := ⟨[(0, qk7), (1, qk1), (2, qk29), (3, qk12), (4, qk4), (5, qk32)], [(1, qk3), (3, qk19), (5, qk19)]⟩
def Law_codeBegun.c4x0 : Shape := ⟨[(0, qk7), (1, qk1), (2, qk29), (3, qk12), (4, qk4), (5, qk32)], [(1, qk3), (3, qk19), (5, qk19)]⟩
def Law_codeBegun.c4r : Ck := Ck.of (T := Bool) Law_codeBegun.c4s (fun ρ x_ k_ => uP x_ fun t0 x_ => uP x_ fun s x_ => uP x_ fun e x_ => uP x_ fun c0 x_ => uP x_ fun c1 x_ => uP x_ fun f0 x_ => uP x_ fun f1 x_ => uP x_ fun g0 x_ => uP x_ fun g1 x_ => Law_codeBegun.c4 s e f0 g0 k_) (fun ρ x_ r_ k_ => uP x_ fun t0 x_ => uP x_ fun s x_ => uP x_ fun e x_ => uP x_ fun c0 x_ => uP x_ fun c1 x_ => uP x_ fun f0 x_ => uP x_ fun f1 x_ => uP x_ fun g0 x_ => uP x_ fun g1 x_ => k_ 0 (Shape.inj Law_codeBegun.c4x0 (r_, s, e, c0, c1, f0, f1, g0, g1, ())))
def Law_codeBegun  : Option (Bool) :=
  bnd (W.code_Syndrome ((3 : Int), [Array.toList (ByteArray.data (ByteArray.mk #[(43 : UInt8), (90 : UInt8), (90 : UInt8), (73 : UInt8)])), Array.toList (ByteArray.data (ByteArray.mk #[(43 : UInt8), (73 : UInt8), (90 : UInt8), (90 : UInt8)]))]) (Array.toList (ByteArray.data (ByteArray.mk #[(43 : UInt8), (88 : UInt8), (73 : UInt8), (73 : UInt8)])))) fun y =>
  bnd (W.code_Decode ((3 : Int), [Array.toList (ByteArray.data (ByteArray.mk #[(43 : UInt8), (90 : UInt8), (90 : UInt8), (73 : UInt8)])), Array.toList (ByteArray.data (ByteArray.mk #[(43 : UInt8), (73 : UInt8), (90 : UInt8), (90 : UInt8)]))]) (Prod.fst y)) fun y_1 =>
  bnd (W.Law_codeBegun.c4 (Prod.fst y) (Prod.fst y_1) (Prod.fst (Prod.snd y)) (Prod.fst (Prod.snd y_1)) some) fun y_2 =>
  some y_2
def Law_codeBegun.ce : Go.Ql.Callee := ⟨[], [.bool], fun x_ => Law_codeBegun⟩
def Law_codeBegun.G : Env := ⟨36, tab, [(12, code_Syndrome.ce), (18, code_Decode.ce), (14, R_SameInts.ce)], [0, 1, 2, 3, 4, 5], [], [], [(4, Law_codeBegun.c4r)], [], tab_eqs⟩
theorem Law_codeBegun.eq (x_ : dens []) : den Law_codeBegun.G Go.Proofs.Try.f10 [] [.bool] x_ = Law_codeBegun := by kernel_rfl
theorem Law_codeBegun.p0 : PieceOk Law_codeBegun.G (pieceAt (pieces Law_codeBegun.G.cks (bodyOf Go.Proofs.Try.f10)) 0).1 (pieceAt (pieces Law_codeBegun.G.cks (bodyOf Go.Proofs.Try.f10)) 0).2 :=
  region_ok (s := Law_codeBegun.c4r) (by kernel_rfl) (by kernel_rfl) (sums_of (sh := Law_codeBegun.c4s) (fun ρ x_ k_ => (nat_br (nat_br (nat_bnd fun _ => (nat_br nat_leaf nat_leaf)) nat_leaf) nat_leaf)) (fun ρ x_ t k => (by kernel_rfl)) (fun x_ => by kernel_rfl))
theorem Law_codeBegun.ok : CalleeOk Go.Proofs.Try.prog 10 Law_codeBegun.ce := fn_ok (G := Law_codeBegun.G) tab_ok mixed Go.Proofs.Try.func10 ⟨(fns_cons code_Syndrome.ok (fns_cons code_Decode.ok (fns_cons R_SameInts.ok fns_nil))), mfns_nil, tab_eqs_ok⟩ (m := 1) (by kernel_rfl) ⟨trivial, Law_codeBegun.p0⟩ (by kernel_rfl) Law_codeBegun.eq
def R_SameTexts.c6 {ρ : Type} (a : List (List UInt8)) (b : List (List UInt8)) (i : Int) (k_ : Bool → Option ρ) : Option ρ :=
  bnd (idx a i) fun y =>
  bnd (idx b i) fun y_1 =>
  k_ (!y == y_1)
def R_SameTexts.c6s : Shape := ⟨[(0, qk21), (1, qk21), (4, qk7), (5, qk5)], []⟩
def R_SameTexts.c6x0 : Shape := ⟨[(0, qk21), (1, qk21), (4, qk7), (5, qk5), (25, qk7)], []⟩
def R_SameTexts.c6r : Ck := Ck.of (T := Bool) R_SameTexts.c6s (fun ρ x_ k_ => uP x_ fun a x_ => uP x_ fun b x_ => uP x_ fun t4 x_ => uP x_ fun i x_ => R_SameTexts.c6 a b i k_) (fun ρ x_ r_ k_ => uP x_ fun a x_ => uP x_ fun b x_ => uP x_ fun t4 x_ => uP x_ fun i x_ => k_ 0 (Shape.inj R_SameTexts.c6x0 (a, b, t4, i, r_, ())))
def R_SameTexts.c100004 {ρ : Type} (a : List (List UInt8)) (b : List (List UInt8)) (i : Int) (k_ : (Int) ⊕ ((Int) ⊕ (Int)) → Option ρ) : Option ρ :=
  br (decide (i < (↑(List.length a) : Int)))
   (bnd (W.R_SameTexts.c6 a b i some) fun y =>
    br y
     (k_ (.inr (.inl i)))
     (k_ (.inl (IntKind.wrap IntKind.i64 (i + (1 : Int))))))
   (k_ (.inr (.inr i)))
def R_SameTexts.c100004s : Shape := ⟨[(0, qk21), (1, qk21), (4, qk7), (5, qk5)], []⟩
def R_SameTexts.c100004x0 : Shape := ⟨[(0, qk21), (1, qk21), (4, qk7), (5, qk5)], []⟩
def R_SameTexts.c100004x1 : Shape := ⟨[(0, qk21), (1, qk21), (4, qk7), (5, qk5)], []⟩
def R_SameTexts.c100004r : Ck := Ck.ofLoop (S := Int) (T := (Int) ⊕ (Int)) R_SameTexts.c100004s (fun x_ => uP x_ fun a x_ => uP x_ fun b x_ => uP x_ fun t4 x_ => uP x_ fun i x_ => i) (fun ρ x_ s_ k_ => uP x_ fun a x_ => uP x_ fun b x_ => uP x_ fun t4 x_ => uP x_ fun i x_ => R_SameTexts.c100004 a b s_ k_) (fun ρ x_ r_ k_ => uP x_ fun a x_ => uP x_ fun b x_ => uP x_ fun t4 x_ => uP x_ fun i x_ => sel r_ (fun r_ => k_ 1 (Shape.inj R_SameTexts.c100004x0 (a, b, false, r_, ()))) (fun r_ => k_ 2 (Shape.inj R_SameTexts.c100004x1 (a, b, t4, r_, ()))))
def R_SameTexts (a : List (List UInt8)) (b : List (List UInt8)) : Option (Bool) :=
  br ((↑(List.length a) : Int) != (↑(List.length b) : Int))
   (some false)
   (bnd (iter (fun s ↦ W.R_SameTexts.c100004 a b s some) (0 : Int)) fun y =>
    sel y
     (fun u => some false)
     (fun v => some true))
def R_SameTexts.ce : Go.Ql.Callee := ⟨[(.sl .str), (.sl .str)], [.bool], fun x_ => R_SameTexts x_.1 x_.2⟩
def R_SameTexts.G : Env := ⟨26, tab, [], [0, 1, 4, 5, 10, 14, 25], [], [(6, [⟨[], [], [18, 21, 22, 23, 24], []⟩, ⟨[], [], [17, 21, 22, 23, 24], []⟩, ⟨[0, 1], [], [21, 22, 23, 24], []⟩, ⟨[2, 0, 1], [], [21, 22, 23, 24], []⟩, ⟨[], [], [17, 18, 19, 20, 22], []⟩, ⟨[], [], [17, 18, 19, 20, 21], []⟩, ⟨[4, 5], [], [17, 18, 19, 20], []⟩, ⟨[6, 4, 5], [], [17, 18, 19, 20], []⟩, ⟨[3, 2, 0, 1, 7, 6, 4, 5], [], [], []⟩])], [(100004, R_SameTexts.c100004r), (6, R_SameTexts.c6r)], [], tab_eqs⟩
theorem R_SameTexts.eq (x_ : dens [(.sl .str), (.sl .str)]) : den R_SameTexts.G Go.Proofs.Try.f29 [(.sl .str), (.sl .str)] [.bool] x_ = R_SameTexts x_.1 x_.2 := by kernel_rfl
theorem R_SameTexts.p0 : PieceOk R_SameTexts.G (pieceAt (pieces R_SameTexts.G.cks (bodyOf Go.Proofs.Try.f29)) 0).1 (pieceAt (pieces R_SameTexts.G.cks (bodyOf Go.Proofs.Try.f29)) 0).2 :=
  loop_ok (s := R_SameTexts.c100004r) (by kernel_rfl) (by kernel_rfl) (loops_of (sh := R_SameTexts.c100004s) (I := fun x_ s_ => (x_.1, x_.2.1, x_.2.2.1, s_, ())) (fun x_ => rfl) (fun ρ x_ s_ k_ => (nat_br (nat_bnd fun _ => (nat_br nat_leaf nat_leaf)) nat_leaf)) (fun ρ x_ t k => (nat_sel (fun _ => (by kernel_rfl)) (fun _ => (by kernel_rfl)))) (fun x_ s => by kernel_rfl))
theorem R_SameTexts.p1 : PieceOk R_SameTexts.G (pieceAt (pieces R_SameTexts.G.cks (bodyOf Go.Proofs.Try.f29)) 1).1 (pieceAt (pieces R_SameTexts.G.cks (bodyOf Go.Proofs.Try.f29)) 1).2 :=
  region_ok (s := R_SameTexts.c6r) (by kernel_rfl) (by kernel_rfl) (sums_of (sh := R_SameTexts.c6s) (fun ρ x_ k_ => (nat_bnd fun _ => (nat_bnd fun _ => nat_leaf))) (fun ρ x_ t k => (by kernel_rfl)) (fun x_ => by kernel_rfl))
theorem R_SameTexts.ok : CalleeOk Go.Proofs.Try.prog 29 R_SameTexts.ce := fn_ok (G := R_SameTexts.G) tab_ok mixed Go.Proofs.Try.func29 ⟨fns_nil, mfns_nil, tab_eqs_ok⟩ (m := 2) (by kernel_rfl) ⟨⟨trivial, R_SameTexts.p0⟩, R_SameTexts.p1⟩ (by kernel_rfl) R_SameTexts.eq
def Law_sameCode.c1 {ρ : Type} (a0 : Int) (a1 : List (List UInt8)) (b0 : Int) (b1 : List (List UInt8)) (k_ : Bool → Option ρ) : Option ρ :=
  br (a0 == b0)
   (bnd (W.R_SameTexts a1 b1) fun y =>
    k_ y)
   (k_ false)
def Law_sameCode.c1s : Shape := ⟨[(0, qk0), (1, qk0), (2, qk2), (3, qk12), (4, qk7)], [(2, qk3), (3, qk3)]⟩
def Law_sameCode.c1x0 : Shape := ⟨[(0, qk0), (1, qk0), (2, qk2), (3, qk12), (4, qk7)], [(2, qk3), (3, qk3)]⟩
def Law_sameCode.c1r : Ck := Ck.of (T := Bool) Law_sameCode.c1s (fun ρ x_ k_ => uP x_ fun a x_ => uP x_ fun b x_ => uP x_ fun t4 x_ => uP x_ fun a0 x_ => uP x_ fun a1 x_ => uP x_ fun b0 x_ => uP x_ fun b1 x_ => Law_sameCode.c1 a0 a1 b0 b1 k_) (fun ρ x_ r_ k_ => uP x_ fun a x_ => uP x_ fun b x_ => uP x_ fun t4 x_ => uP x_ fun a0 x_ => uP x_ fun a1 x_ => uP x_ fun b0 x_ => uP x_ fun b1 x_ => k_ 0 (Shape.inj Law_sameCode.c1x0 (a, b, r_, a0, a1, b0, b1, ())))
def Law_sameCode (a : (Int) × (List (List UInt8))) (b : (Int) × (List (List UInt8))) : Option (Bool) :=
  bnd (W.Law_sameCode.c1 (Prod.fst a) (Prod.snd a) (Prod.fst b) (Prod.snd b) some) fun y =>
  some y
def Law_sameCode.ce : Go.Ql.Callee := ⟨[(.st (.pair (.int .i64) (.sl .str))), (.st (.pair (.int .i64) (.sl .str)))], [.bool], fun x_ => Law_sameCode x_.1 x_.2⟩
def Law_sameCode.G : Env := ⟨17, tab, [(29, R_SameTexts.ce)], [0, 1, 2, 3, 4], [], [], [(1, Law_sameCode.c1r)], [], tab_eqs⟩
theorem Law_sameCode.eq (x_ : dens [(.st (.pair (.int .i64) (.sl .str))), (.st (.pair (.int .i64) (.sl .str)))]) : den Law_sameCode.G Go.Proofs.Try.f11 [(.st (.pair (.int .i64) (.sl .str))), (.st (.pair (.int .i64) (.sl .str)))] [.bool] x_ = Law_sameCode x_.1 x_.2 := by kernel_rfl
theorem Law_sameCode.p0 : PieceOk Law_sameCode.G (pieceAt (pieces Law_sameCode.G.cks (bodyOf Go.Proofs.Try.f11)) 0).1 (pieceAt (pieces Law_sameCode.G.cks (bodyOf Go.Proofs.Try.f11)) 0).2 :=
  region_ok (s := Law_sameCode.c1r) (by kernel_rfl) (by kernel_rfl) (sums_of (sh := Law_sameCode.c1s) (fun ρ x_ k_ => (nat_br (nat_bnd fun _ => nat_leaf) nat_leaf)) (fun ρ x_ t k => (by kernel_rfl)) (fun x_ => by kernel_rfl))
theorem Law_sameCode.ok : CalleeOk Go.Proofs.Try.prog 11 Law_sameCode.ce := fn_ok (G := Law_sameCode.G) tab_ok mixed Go.Proofs.Try.func11 ⟨(fns_cons R_SameTexts.ok fns_nil), mfns_nil, tab_eqs_ok⟩ (m := 1) (by kernel_rfl) ⟨trivial, Law_sameCode.p0⟩ (by kernel_rfl) Law_sameCode.eq
def R_one01 (b : Bool) : Option (Int) :=
  br b
   (some (1 : Int))
   (some (0 : Int))
def R_one01.ce : Go.Ql.Callee := ⟨[.bool], [(.int .i64)], fun x_ => R_one01 x_⟩
def R_one01.G : Env := ⟨4, tab, [], [0, 2, 3], [], [], [], [], tab_eqs⟩
theorem R_one01.eq (x_ : dens [.bool]) : den R_one01.G Go.Proofs.Try.f32 [.bool] [(.int .i64)] x_ = R_one01 x_ := by kernel_rfl
theorem R_one01.ok : CalleeOk Go.Proofs.Try.prog 32 R_one01.ce := fn_ok (G := R_one01.G) tab_ok mixed Go.Proofs.Try.func32 ⟨fns_nil, mfns_nil, tab_eqs_ok⟩ (m := 0) (by kernel_rfl) trivial (by kernel_rfl) R_one01.eq
def R_SyndromeOf.c100003 {ρ : Type} (e : List UInt8) (i : Int) (c1 : List (List UInt8)) (out : List (Int)) (k_ : ((Int) × (List Int)) ⊕ ((Int) × (List Int)) → Option ρ) : Option ρ :=
  br (decide (i < (↑(List.length c1) : Int)))
   (bnd (idx c1 i) fun y =>
    bnd (okIf (decide ((1 : Int) ≤ (↑(List.length y) : Int)) && decide ((↑(List.length y) : Int) ≤ (↑(List.length y) : Int)))) fun y_1 =>
    bnd (W.R_Apart (List.drop (1 : Nat) (List.take (Int.toNat (↑(List.length y) : Int)) y)) e) fun y_2 =>
    bnd (W.R_one01 y_2) fun y_3 =>
    bnd (okIf (decide ((List.length out + (1 : Nat)) * (8 : Nat) ≤ (140737488355328 : Nat)) && decide (List.length out + (1 : Nat) ≤ (140737488355328 : Nat)))) fun y_4 =>
    k_ (.inl ((IntKind.wrap IntKind.i64 (i + (1 : Int))), (out ++ [y_3]))))
   (k_ (.inr (i, out)))
def R_SyndromeOf.c100003s : Shape := ⟨[(0, qk0), (1, qk4), (2, qk2), (4, qk29), (5, qk20), (6, qk5)], [(2, qk3), (5, qk31)]⟩
def R_SyndromeOf.c100003x0 : Shape := ⟨[(0, qk0), (1, qk4), (2, qk2), (4, qk29), (5, qk20), (6, qk5)], [(2, qk3), (5, qk31)]⟩
def R_SyndromeOf.c100003r : Ck := Ck.ofLoop (S := (Int) × (List Int)) (T := (Int) × (List Int)) R_SyndromeOf.c100003s (fun x_ => uP x_ fun c x_ => uP x_ fun e x_ => uP x_ fun t4 x_ => uP x_ fun i x_ => uP x_ fun c0 x_ => uP x_ fun c1 x_ => uP x_ fun out x_ => (i, out)) (fun ρ x_ s_ k_ => uP x_ fun c x_ => uP x_ fun e x_ => uP x_ fun t4 x_ => uP x_ fun i x_ => uP x_ fun c0 x_ => uP x_ fun c1 x_ => uP x_ fun out x_ => R_SyndromeOf.c100003 e s_.1 c1 s_.2 k_) (fun ρ x_ r_ k_ => uP x_ fun c x_ => uP x_ fun e x_ => uP x_ fun t4 x_ => uP x_ fun i x_ => uP x_ fun c0 x_ => uP x_ fun c1 x_ => uP x_ fun out x_ => k_ 2 (Shape.inj R_SyndromeOf.c100003x0 (c, e, t4, r_.1, c0, c1, r_.2, ())))
def R_SyndromeOf (c : (Int) × (List (List UInt8))) (e : List UInt8) : Option (List Int) :=
  bnd (iter (fun s ↦ W.R_SyndromeOf.c100003 e (Prod.fst s) (Prod.snd c) (Prod.snd s) some) ((0 : Int), [])) fun y =>
  some (Prod.snd y)
def R_SyndromeOf.ce : Go.Ql.Callee := ⟨[(.st (.pair (.int .i64) (.sl .str))), .str], [(.sl (.int .i64))], fun x_ => R_SyndromeOf x_.1 x_.2⟩
def R_SyndromeOf.G : Env := ⟨27, tab, [(27, R_Apart.ce), (32, R_one01.ce)], [0, 1, 2, 4, 5, 6, 11], [5], [], [(100003, R_SyndromeOf.c100003r)], [], tab_eqs⟩
theorem R_SyndromeOf.eq (x_ : dens [(.st (.pair (.int .i64) (.sl .str))), .str]) : den R_SyndromeOf.G Go.Proofs.Try.f15 [(.st (.pair (.int .i64) (.sl .str))), .str] [(.sl (.int .i64))] x_ = R_SyndromeOf x_.1 x_.2 := by kernel_rfl
theorem R_SyndromeOf.p0 : PieceOk R_SyndromeOf.G (pieceAt (pieces R_SyndromeOf.G.cks (bodyOf Go.Proofs.Try.f15)) 0).1 (pieceAt (pieces R_SyndromeOf.G.cks (bodyOf Go.Proofs.Try.f15)) 0).2 :=
  loop_ok (s := R_SyndromeOf.c100003r) (by kernel_rfl) (by kernel_rfl) (loops_of (sh := R_SyndromeOf.c100003s) (I := fun x_ s_ => (x_.1, x_.2.1, x_.2.2.1, s_.1, x_.2.2.2.2.1, x_.2.2.2.2.2.1, s_.2, ())) (fun x_ => rfl) (fun ρ x_ s_ k_ => (nat_br (nat_bnd fun _ => (nat_bnd fun _ => (nat_bnd fun _ => (nat_bnd fun _ => (nat_bnd fun _ => nat_leaf))))) nat_leaf)) (fun ρ x_ t k => (by kernel_rfl)) (fun x_ s => by kernel_rfl))
theorem R_SyndromeOf.ok : CalleeOk Go.Proofs.Try.prog 15 R_SyndromeOf.ce := fn_ok (G := R_SyndromeOf.G) tab_ok mixed Go.Proofs.Try.func15 ⟨(fns_cons R_Apart.ok (fns_cons R_one01.ok fns_nil)), mfns_nil, tab_eqs_ok⟩ (m := 1) (by kernel_rfl) ⟨trivial, R_SyndromeOf.p0⟩ (by kernel_rfl) R_SyndromeOf.eq
def Law_CodeChecks.c4 {ρ : Type} (c0 : Int) (c1 : List (List UInt8)) (given0 : Int) (given1 : List (List UInt8)) (f0 : Int) (f1 : Int) (g0 : Int) (g1 : Int) (k_ : Bool → Option ρ) : Option ρ :=
  bnd W.Law_codeBegun fun y =>
  br (!y)
   (k_ true)
   (br (!Ty.eqT (Ty.pair (Ty.int IntKind.i64) (Ty.int IntKind.i64)) (f0, f1) (g0, g1))
     (k_ true)
     (bnd (W.Law_sameCode (given0, given1) (c0, c1)) fun y_1 =>
      k_ (!y_1)))
def Law_CodeChecks.c4s : Shape := ⟨[(0, qk0), (1, qk4), (2, qk2), (4, qk7), (5, qk32), (6, qk8), (7, qk33)], [(2, qk3), (5, qk3), (6, qk19), (7, qk19)]⟩
def Law_CodeChecks.c4x0 : Shape := ⟨[(0, qk0), (1, qk4), (2, qk2), (4, qk7), (5, qk32), (6, qk8), (7, qk33), (29, qk7)], [(2, qk3), (5, qk3), (6, qk19), (7, qk19)]⟩
def Law_CodeChecks.c4r : Ck := Ck.of (T := Bool) Law_CodeChecks.c4s (fun ρ x_ k_ => uP x_ fun c x_ => uP x_ fun pauli x_ => uP x_ fun t4 x_ => uP x_ fun c0 x_ => uP x_ fun c1 x_ => uP x_ fun given0 x_ => uP x_ fun given1 x_ => uP x_ fun f0 x_ => uP x_ fun f1 x_ => uP x_ fun g0 x_ => uP x_ fun g1 x_ => Law_CodeChecks.c4 c0 c1 given0 given1 f0 f1 g0 g1 k_) (fun ρ x_ r_ k_ => uP x_ fun c x_ => uP x_ fun pauli x_ => uP x_ fun t4 x_ => uP x_ fun c0 x_ => uP x_ fun c1 x_ => uP x_ fun given0 x_ => uP x_ fun given1 x_ => uP x_ fun f0 x_ => uP x_ fun f1 x_ => uP x_ fun g0 x_ => uP x_ fun g1 x_ => k_ 0 (Shape.inj Law_CodeChecks.c4x0 (c, pauli, t4, r_, c0, c1, given0, given1, f0, f1, g0, g1, ())))
def Law_CodeChecks.c8 {ρ : Type} (is : Bool) (g0 : Int) (k_ : Bool → Option ρ) : Option ρ :=
  br (g0 == (0 : Int))
   (k_ (!is))
   (k_ false)
def Law_CodeChecks.c8s : Shape := ⟨[(0, qk0), (1, qk4), (2, qk2), (4, qk7), (5, qk32), (6, qk8), (7, qk33), (8, qk29), (10, qk7)], [(2, qk3), (5, qk3), (6, qk19), (7, qk19), (9, qk25)]⟩
def Law_CodeChecks.c8x0 : Shape := ⟨[(0, qk0), (1, qk4), (2, qk2), (4, qk7), (5, qk32), (6, qk8), (7, qk33), (8, qk29), (10, qk7), (49, qk7)], [(2, qk3), (5, qk3), (6, qk19), (7, qk19), (9, qk25)]⟩
def Law_CodeChecks.c8r : Ck := Ck.of (T := Bool) Law_CodeChecks.c8s (fun ρ x_ k_ => uP x_ fun c x_ => uP x_ fun pauli x_ => uP x_ fun t4 x_ => uP x_ fun s x_ => uP x_ fun is x_ => uP x_ fun c0 x_ => uP x_ fun c1 x_ => uP x_ fun given0 x_ => uP x_ fun given1 x_ => uP x_ fun f0 x_ => uP x_ fun f1 x_ => uP x_ fun g0 x_ => uP x_ fun g1 x_ => uP x_ fun t90 x_ => uP x_ fun t91 x_ => Law_CodeChecks.c8 is g0 k_) (fun ρ x_ r_ k_ => uP x_ fun c x_ => uP x_ fun pauli x_ => uP x_ fun t4 x_ => uP x_ fun s x_ => uP x_ fun is x_ => uP x_ fun c0 x_ => uP x_ fun c1 x_ => uP x_ fun given0 x_ => uP x_ fun given1 x_ => uP x_ fun f0 x_ => uP x_ fun f1 x_ => uP x_ fun g0 x_ => uP x_ fun g1 x_ => uP x_ fun t90 x_ => uP x_ fun t91 x_ => k_ 0 (Shape.inj Law_CodeChecks.c8x0 (c, pauli, t4, s, is, r_, c0, c1, given0, given1, f0, f1, g0, g1, t90, t91, ())))
def Law_CodeChecks.c232773 {ρ : Type} (is : Bool) (g0 : Int) (g1 : Int) (k_ : (Int) × (Int) → Option ρ) : Option ρ :=
  bnd (W.Law_CodeChecks.c8 is g0 some) fun y =>
  br y
   (k_ ((33 : Int), (0 : Int)))
   (k_ (g0, g1))
def Law_CodeChecks.c232773s : Shape := ⟨[(0, qk0), (1, qk4), (2, qk2), (4, qk7), (5, qk32), (6, qk8), (7, qk33), (8, qk29), (10, qk7)], [(2, qk3), (5, qk3), (6, qk19), (7, qk19), (9, qk25)]⟩
def Law_CodeChecks.c232773x0 : Shape := ⟨[(0, qk0), (1, qk4), (2, qk2), (4, qk7), (5, qk32), (6, qk8), (7, qk33), (8, qk29), (10, qk7)], [(2, qk3), (5, qk3), (6, qk19), (7, qk19), (9, qk25)]⟩
def Law_CodeChecks.c232773r : Ck := Ck.of (T := (Int) × (Int)) Law_CodeChecks.c232773s (fun ρ x_ k_ => uP x_ fun c x_ => uP x_ fun pauli x_ => uP x_ fun t4 x_ => uP x_ fun s x_ => uP x_ fun is x_ => uP x_ fun c0 x_ => uP x_ fun c1 x_ => uP x_ fun given0 x_ => uP x_ fun given1 x_ => uP x_ fun f0 x_ => uP x_ fun f1 x_ => uP x_ fun g0 x_ => uP x_ fun g1 x_ => uP x_ fun t90 x_ => uP x_ fun t91 x_ => Law_CodeChecks.c232773 is g0 g1 k_) (fun ρ x_ r_ k_ => uP x_ fun c x_ => uP x_ fun pauli x_ => uP x_ fun t4 x_ => uP x_ fun s x_ => uP x_ fun is x_ => uP x_ fun c0 x_ => uP x_ fun c1 x_ => uP x_ fun given0 x_ => uP x_ fun given1 x_ => uP x_ fun f0 x_ => uP x_ fun f1 x_ => uP x_ fun g0 x_ => uP x_ fun g1 x_ => uP x_ fun t90 x_ => uP x_ fun t91 x_ => k_ 0 (Shape.inj Law_CodeChecks.c232773x0 (c, pauli, t4, s, is, c0, c1, given0, given1, f0, f1, r_.1, r_.2, t90, t91, ())))
def Law_CodeChecks.c11 {ρ : Type} (s : List (Int)) (f0 : Int) (f1 : Int) (g0 : Int) (g1 : Int) (k_ : Bool → Option ρ) : Option ρ :=
  br (Ty.eqT (Ty.pair (Ty.int IntKind.i64) (Ty.int IntKind.i64)) (f0, f1) (g0, g1))
   (k_ ((↑(List.length s) : Int) == (0 : Int)))
   (k_ false)
def Law_CodeChecks.c11s : Shape := ⟨[(0, qk0), (1, qk4), (2, qk2), (4, qk7), (5, qk32), (6, qk8), (7, qk33), (8, qk29), (10, qk7)], [(2, qk3), (5, qk3), (6, qk19), (7, qk19), (9, qk25)]⟩
def Law_CodeChecks.c11x0 : Shape := ⟨[(0, qk0), (1, qk4), (2, qk2), (4, qk7), (5, qk32), (6, qk8), (7, qk33), (8, qk29), (10, qk7)], [(2, qk3), (5, qk3), (6, qk19), (7, qk19), (9, qk25)]⟩
def Law_CodeChecks.c11r : Ck := Ck.of (T := Bool) Law_CodeChecks.c11s (fun ρ x_ k_ => uP x_ fun c x_ => uP x_ fun pauli x_ => uP x_ fun t4 x_ => uP x_ fun s x_ => uP x_ fun is x_ => uP x_ fun c0 x_ => uP x_ fun c1 x_ => uP x_ fun given0 x_ => uP x_ fun given1 x_ => uP x_ fun f0 x_ => uP x_ fun f1 x_ => uP x_ fun g0 x_ => uP x_ fun g1 x_ => uP x_ fun t90 x_ => uP x_ fun t91 x_ => Law_CodeChecks.c11 s f0 f1 g0 g1 k_) (fun ρ x_ r_ k_ => uP x_ fun c x_ => uP x_ fun pauli x_ => uP x_ fun t4 x_ => uP x_ fun s x_ => uP x_ fun is x_ => uP x_ fun c0 x_ => uP x_ fun c1 x_ => uP x_ fun given0 x_ => uP x_ fun given1 x_ => uP x_ fun f0 x_ => uP x_ fun f1 x_ => uP x_ fun g0 x_ => uP x_ fun g1 x_ => uP x_ fun t90 x_ => uP x_ fun t91 x_ => k_ 0 (Shape.inj Law_CodeChecks.c11x0 (c, pauli, r_, s, is, c0, c1, given0, given1, f0, f1, g0, g1, t90, t91, ())))
def Law_CodeChecks.c12 {ρ : Type} (pauli : List UInt8) (s : List (Int)) (c0 : Int) (c1 : List (List UInt8)) (f0 : Int) (k_ : Bool → Option ρ) : Option ρ :=
  br (f0 == (0 : Int))
   (bnd (okIf (decide ((1 : Int) ≤ (↑(List.length pauli) : Int)) && decide ((↑(List.length pauli) : Int) ≤ (↑(List.length pauli) : Int)))) fun y =>
    bnd (W.R_SyndromeOf (c0, c1) (List.drop (1 : Nat) (List.take (Int.toNat (↑(List.length pauli) : Int)) pauli))) fun y_1 =>
    bnd (W.R_SameInts s y_1) fun y_2 =>
    k_ y_2)
   (k_ false)
def Law_CodeChecks.c12s : Shape := ⟨[(0, qk0), (1, qk4), (2, qk2), (4, qk7), (5, qk32), (6, qk8), (7, qk33), (8, qk29), (10, qk7)], [(2, qk3), (5, qk3), (6, qk19), (7, qk19), (9, qk25)]⟩
def Law_CodeChecks.c12x0 : Shape := ⟨[(0, qk0), (1, qk4), (2, qk2), (4, qk7), (5, qk32), (6, qk8), (7, qk33), (8, qk29), (10, qk7)], [(2, qk3), (5, qk3), (6, qk19), (7, qk19), (9, qk25)]⟩
def Law_CodeChecks.c12r : Ck := Ck.of (T := Bool) Law_CodeChecks.c12s (fun ρ x_ k_ => uP x_ fun c x_ => uP x_ fun pauli x_ => uP x_ fun t4 x_ => uP x_ fun s x_ => uP x_ fun is x_ => uP x_ fun c0 x_ => uP x_ fun c1 x_ => uP x_ fun given0 x_ => uP x_ fun given1 x_ => uP x_ fun f0 x_ => uP x_ fun f1 x_ => uP x_ fun g0 x_ => uP x_ fun g1 x_ => uP x_ fun t90 x_ => uP x_ fun t91 x_ => Law_CodeChecks.c12 pauli s c0 c1 f0 k_) (fun ρ x_ r_ k_ => uP x_ fun c x_ => uP x_ fun pauli x_ => uP x_ fun t4 x_ => uP x_ fun s x_ => uP x_ fun is x_ => uP x_ fun c0 x_ => uP x_ fun c1 x_ => uP x_ fun given0 x_ => uP x_ fun given1 x_ => uP x_ fun f0 x_ => uP x_ fun f1 x_ => uP x_ fun g0 x_ => uP x_ fun g1 x_ => uP x_ fun t90 x_ => uP x_ fun t91 x_ => k_ 0 (Shape.inj Law_CodeChecks.c12x0 (c, pauli, r_, s, is, c0, c1, given0, given1, f0, f1, g0, g1, t90, t91, ())))
def Law_CodeChecks (c : (Int) × (List (List UInt8))) (pauli : List UInt8) : Option (Bool) :=
  bnd (W.Law_copyCode (Prod.fst c, Prod.snd c)) fun y =>
  bnd (W.code_Check (Prod.fst y, Prod.snd y)) fun y_1 =>
  bnd (W.R_CheckCode (Prod.fst c, Prod.snd c)) fun y_2 =>
  bnd (W.Law_CodeChecks.c4 (Prod.fst c) (Prod.snd c) (Prod.fst y) (Prod.snd y) (Prod.fst y_1) (Prod.snd y_1) (Prod.fst y_2) (Prod.snd y_2) some) fun y_3 =>
  br y_3
   (some false)
   (bnd (W.code_Syndrome (Prod.fst y, Prod.snd y) pauli) fun y_4 =>
    bnd (W.R_IsPauli pauli (Prod.fst c)) fun y_5 =>
    bnd (W.Law_CodeChecks.c232773 (Prod.snd y_5) (Prod.fst y_2) (Prod.snd y_2) some) fun y_6 =>
    br (Prod.fst y_6 != (0 : Int))
     (bnd (W.Law_CodeChecks.c11 (Prod.fst y_4) (Prod.fst (Prod.snd y_4)) (Prod.snd (Prod.snd y_4)) (Prod.fst y_6) (Prod.snd y_6) some) fun y_7 =>
      some y_7)
     (bnd (W.Law_CodeChecks.c12 pauli (Prod.fst y_4) (Prod.fst c) (Prod.snd c) (Prod.fst (Prod.snd y_4)) some) fun y_8 =>
      some y_8))
def Law_CodeChecks.ce : Go.Ql.Callee := ⟨[(.st (.pair (.int .i64) (.sl .str))), .str], [.bool], fun x_ => Law_CodeChecks x_.1 x_.2⟩
def Law_CodeChecks.G : Env := ⟨73, tab, [(7, Law_copyCode.ce), (8, code_Check.ce), (9, R_CheckCode.ce), (10, Law_codeBegun.ce), (11, Law_sameCode.ce), (12, code_Syndrome.ce), (13, R_IsPauli.ce), (15, R_SyndromeOf.ce), (14, R_SameInts.ce)], [0, 1, 2, 4, 5, 6, 7, 8, 10, 29, 49, 53], [], [(12, [⟨[], [], [], []⟩, ⟨[0], [], [], []⟩, ⟨[1, 0], [], [], []⟩, ⟨[2, 1, 0], [], [], []⟩, ⟨[3, 2, 1, 0], [], [67, 68, 69, 70], []⟩, ⟨[3, 2, 1, 0], [], [66, 68, 69], []⟩, ⟨[3, 2, 1, 0], [], [66, 67], []⟩, ⟨[6, 3, 2, 1, 0], [], [66, 67], []⟩, ⟨[5, 3, 2, 1, 0, 7, 6], [], [66], []⟩, ⟨[4, 3, 2, 1, 0, 8, 5, 7, 6], [], [], []⟩, ⟨[3, 2, 1, 0, 9, 4, 8, 5, 7, 6], [], [], []⟩, ⟨[10, 3, 2, 1, 0, 9, 4, 8, 5, 7, 6], [], [], []⟩])], [(12, Law_CodeChecks.c12r), (11, Law_CodeChecks.c11r), (232773, Law_CodeChecks.c232773r), (8, Law_CodeChecks.c8r), (4, Law_CodeChecks.c4r)], [], tab_eqs⟩
theorem Law_CodeChecks.eq (x_ : dens [(.st (.pair (.int .i64) (.sl .str))), .str]) : den Law_CodeChecks.G Go.Proofs.Try.f3 [(.st (.pair (.int .i64) (.sl .str))), .str] [.bool] x_ = Law_CodeChecks x_.1 x_.2 := by kernel_rfl
theorem Law_CodeChecks.p0 : PieceOk Law_CodeChecks.G (pieceAt (pieces Law_CodeChecks.G.cks (bodyOf Go.Proofs.Try.f3)) 0).1 (pieceAt (pieces Law_CodeChecks.G.cks (bodyOf Go.Proofs.Try.f3)) 0).2 :=
  region_ok (s := Law_CodeChecks.c4r) (by kernel_rfl) (by kernel_rfl) (sums_of (sh := Law_CodeChecks.c4s) (fun ρ x_ k_ => (nat_bnd fun _ => (nat_br nat_leaf (nat_br nat_leaf (nat_bnd fun _ => nat_leaf))))) (fun ρ x_ t k => (by kernel_rfl)) (fun x_ => by kernel_rfl))
theorem Law_CodeChecks.p1 : PieceOk Law_CodeChecks.G (pieceAt (pieces Law_CodeChecks.G.cks (bodyOf Go.Proofs.Try.f3)) 1).1 (pieceAt (pieces Law_CodeChecks.G.cks (bodyOf Go.Proofs.Try.f3)) 1).2 :=
  join_ok (s := Law_CodeChecks.c232773r) (by kernel_rfl) (by kernel_rfl) (sums_of (sh := Law_CodeChecks.c232773s) (fun ρ x_ k_ => (nat_bnd fun _ => (nat_br nat_leaf nat_leaf))) (fun ρ x_ t k => (by kernel_rfl)) (fun x_ => by kernel_rfl))
theorem Law_CodeChecks.p2 : PieceOk Law_CodeChecks.G (pieceAt (pieces Law_CodeChecks.G.cks (bodyOf Go.Proofs.Try.f3)) 2).1 (pieceAt (pieces Law_CodeChecks.G.cks (bodyOf Go.Proofs.Try.f3)) 2).2 :=
  region_ok (s := Law_CodeChecks.c8r) (by kernel_rfl) (by kernel_rfl) (sums_of (sh := Law_CodeChecks.c8s) (fun ρ x_ k_ => (nat_br nat_leaf nat_leaf)) (fun ρ x_ t k => (by kernel_rfl)) (fun x_ => by kernel_rfl))
theorem Law_CodeChecks.p3 : PieceOk Law_CodeChecks.G (pieceAt (pieces Law_CodeChecks.G.cks (bodyOf Go.Proofs.Try.f3)) 3).1 (pieceAt (pieces Law_CodeChecks.G.cks (bodyOf Go.Proofs.Try.f3)) 3).2 :=
  region_ok (s := Law_CodeChecks.c11r) (by kernel_rfl) (by kernel_rfl) (sums_of (sh := Law_CodeChecks.c11s) (fun ρ x_ k_ => (nat_br nat_leaf nat_leaf)) (fun ρ x_ t k => (by kernel_rfl)) (fun x_ => by kernel_rfl))
theorem Law_CodeChecks.p4 : PieceOk Law_CodeChecks.G (pieceAt (pieces Law_CodeChecks.G.cks (bodyOf Go.Proofs.Try.f3)) 4).1 (pieceAt (pieces Law_CodeChecks.G.cks (bodyOf Go.Proofs.Try.f3)) 4).2 :=
  region_ok (s := Law_CodeChecks.c12r) (by kernel_rfl) (by kernel_rfl) (sums_of (sh := Law_CodeChecks.c12s) (fun ρ x_ k_ => (nat_br (nat_bnd fun _ => (nat_bnd fun _ => (nat_bnd fun _ => nat_leaf))) nat_leaf)) (fun ρ x_ t k => (by kernel_rfl)) (fun x_ => by kernel_rfl))
theorem Law_CodeChecks.ok : CalleeOk Go.Proofs.Try.prog 3 Law_CodeChecks.ce := fn_ok (G := Law_CodeChecks.G) tab_ok mixed Go.Proofs.Try.func3 ⟨(fns_cons Law_copyCode.ok (fns_cons code_Check.ok (fns_cons R_CheckCode.ok (fns_cons Law_codeBegun.ok (fns_cons Law_sameCode.ok (fns_cons code_Syndrome.ok (fns_cons R_IsPauli.ok (fns_cons R_SyndromeOf.ok (fns_cons R_SameInts.ok fns_nil))))))))), mfns_nil, tab_eqs_ok⟩ (m := 5) (by kernel_rfl) ⟨⟨⟨⟨⟨trivial, Law_CodeChecks.p0⟩, Law_CodeChecks.p1⟩, Law_CodeChecks.p2⟩, Law_CodeChecks.p3⟩, Law_CodeChecks.p4⟩ (by kernel_rfl) Law_CodeChecks.eq
abbrev qk59 : SD := .one (.own 0 0)
abbrev qk60 : SD := .one (.val (.nilv 2))
abbrev qk61 : SD := .one (.own 6 0)
def code_span.pre : Shape := ⟨[(0, qk17)], []⟩
def code_span.post : Shape := ⟨[(0, qk59)], [(0, qk15)]⟩
def code_span.c100003 {ρ : Type} (t7 : List ((Int) × ((Int) × (Bool)))) (t8 : Int) (t9 : Int) (t6 : List (List ((Int) × (Int)))) (k_ : ((Int) × (List (List ((Int) × (Int))))) ⊕ ((Int) × (List (List ((Int) × (Int))))) → Option ρ) : Option ρ :=
  br (decide (t9 < t8))
   (bnd (idx t7 t9) fun y =>
    bnd (W.tableau_pauli_Bare (Prod.fst y, Prod.fst (Prod.snd y), Prod.snd (Prod.snd y))) fun y_1 =>
    bnd (W.code_basis_add (Prod.fst (uP (uP (y_1, ()) fun u r ↦ (u, ())) fun u r ↦ (u, uP (t6, ()) fun u r ↦ (u, ())))) (Prod.fst (Prod.snd (uP (uP (y_1, ()) fun u r ↦ (u, ())) fun u r ↦ (u, uP (t6, ()) fun u r ↦ (u, ())))))) fun y_2 =>
    k_ (.inl ((IntKind.wrap IntKind.i64 (t9 + (1 : Int))), (Prod.fst y_2.2))))
   (k_ (.inr (t9, t6)))
def code_span.c100003s : Shape := ⟨[(0, qk17), (2, qk60), (3, qk61), (7, qk17), (8, qk5), (9, qk5)], [(6, qk15)]⟩
def code_span.c100003x0 : Shape := ⟨[(0, qk17), (2, qk60), (3, qk61), (7, qk17), (8, qk5), (9, qk5)], [(6, qk15)]⟩
def code_span.c100003r : Ck := Ck.ofLoop (S := (Int) × (List (List ((Int) × (Int))))) (T := (Int) × (List (List ((Int) × (Int))))) code_span.c100003s (fun x_ => uP x_ fun l x_ => uP x_ fun t2 x_ => uP x_ fun t7 x_ => uP x_ fun t8 x_ => uP x_ fun t9 x_ => uP x_ fun t6 x_ => (t9, t6)) (fun ρ x_ s_ k_ => uP x_ fun l x_ => uP x_ fun t2 x_ => uP x_ fun t7 x_ => uP x_ fun t8 x_ => uP x_ fun t9 x_ => uP x_ fun t6 x_ => code_span.c100003 t7 t8 s_.1 s_.2 k_) (fun ρ x_ r_ k_ => uP x_ fun l x_ => uP x_ fun t2 x_ => uP x_ fun t7 x_ => uP x_ fun t8 x_ => uP x_ fun t9 x_ => uP x_ fun t6 x_ => k_ 2 (Shape.inj code_span.c100003x0 (l, t2, t7, t8, r_.1, r_.2, ())))
def code_span (l : List ((Int) × ((Int) × (Bool)))) : Option ((List (List ((Int) × (Int)))) × Unit) :=
  bnd (iter (fun s ↦ W.code_span.c100003 l (↑(List.length l) : Int) (Prod.fst s) (Prod.snd s) some) ((0 : Int), mempty)) fun y =>
  some (uP (Prod.snd y, ()) fun u r ↦ (u, ()))
def code_span.mc : MCallee := ⟨33, code_span.pre, code_span.post, fun x_ => code_span x_.1⟩
def code_span.G : Env := ⟨19, tab, [(39, tableau_pauli_Bare.ce)], [0, 2, 3, 5, 7, 8, 9, 10], [6], [], [(100003, code_span.c100003r)], [(51, code_basis_add.mc)], tab_eqs⟩
theorem code_span.eq (x_ : densU code_span.mc.pre.tys) : denM code_span.G Go.Proofs.Try.f33 code_span.mc.pre code_span.mc.post x_ = code_span.mc.F x_ := by kernel_rfl
theorem code_span.p0 : PieceOk code_span.G (pieceAt (pieces code_span.G.cks (bodyOf Go.Proofs.Try.f33)) 0).1 (pieceAt (pieces code_span.G.cks (bodyOf Go.Proofs.Try.f33)) 0).2 :=
  loop_ok (s := code_span.c100003r) (by kernel_rfl) (by kernel_rfl) (loops_of (sh := code_span.c100003s) (I := fun x_ s_ => (x_.1, x_.2.1, x_.2.2.1, x_.2.2.2.1, s_.1, s_.2, ())) (fun x_ => rfl) (fun ρ x_ s_ k_ => (nat_br (nat_bnd fun _ => (nat_bnd fun _ => (nat_bnd fun _ => nat_leaf))) nat_leaf)) (fun ρ x_ t k => (by kernel_rfl)) (fun x_ s => by kernel_rfl))
theorem code_span.ok : MOk Go.Proofs.Try.prog 33 code_span.mc := fnm_ok (G := code_span.G) tab_ok mixed Go.Proofs.Try.func33 ⟨(fns_cons tableau_pauli_Bare.ok fns_nil), (mfns_cons code_basis_add.ok mfns_nil), tab_eqs_ok⟩ (m := 1) (by kernel_rfl) ⟨trivial, code_span.p0⟩ (by kernel_rfl) code_span.eq
def code_Distance_1.pre : Shape := ⟨[(0, qk11), (1, qk5), (2, qk35), (3, qk36), (4, qk37)], [(1000200, qk45), (1000300, qk38), (1000400, qk40), (2000400, qk15)]⟩
def code_Distance_1.post : Shape := ⟨[], [(1000200, qk45), (1000300, qk38), (1000400, qk40), (2000400, qk15)]⟩
def code_Distance_1.c1 {ρ : Type} (weight : Int) (p0 : Int) (p1 : Int) (p2 : Bool) (t10002000 : Int) (t10003000 : List ((Int) × ((Int) × (Bool)))) (t2000400 : List (List ((Int) × (Int)))) (k_ : (Bool) × (List (List ((Int) × (Int)))) → Option ρ) : Option ρ :=
  br (t10002000 == (0 : Int))
   (bnd (W.code_shows t10003000 (p0, p1, p2)) fun y =>
    bnd (W.code_number y) fun y_1 =>
    br (y_1 == (0 : Int))
     (bnd (W.tableau_pauli_Bare (p0, p1, p2)) fun y_2 =>
      bnd (W.code_vector y_2) fun y_3 =>
      bnd (W.code_basis_rest (Prod.fst (uP (uP (y_3, ()) fun u r ↦ (u, ())) fun u r ↦ (u, uP (t2000400, ()) fun u r ↦ (u, ())))) (Prod.fst (Prod.snd (uP (uP (y_3, ()) fun u r ↦ (u, ())) fun u r ↦ (u, uP (t2000400, ()) fun u r ↦ (u, ())))))) fun y_4 =>
      k_ ((Prod.fst y_4 != (0 : Int)), (Prod.fst y_4.2)))
     (k_ (false, t2000400)))
   (br (decide (weight < t10002000))
     (bnd (W.code_shows t10003000 (p0, p1, p2)) fun y_5 =>
      bnd (W.code_number y_5) fun y_6 =>
      br (y_6 == (0 : Int))
       (bnd (W.tableau_pauli_Bare (p0, p1, p2)) fun y_7 =>
        bnd (W.code_vector y_7) fun y_8 =>
        bnd (W.code_basis_rest (Prod.fst (uP (uP (y_8, ()) fun u r ↦ (u, ())) fun u r ↦ (u, uP (t2000400, ()) fun u r ↦ (u, ())))) (Prod.fst (Prod.snd (uP (uP (y_8, ()) fun u r ↦ (u, ())) fun u r ↦ (u, uP (t2000400, ()) fun u r ↦ (u, ())))))) fun y_9 =>
        k_ ((Prod.fst y_9 != (0 : Int)), (Prod.fst y_9.2)))
       (k_ (false, t2000400)))
     (k_ (false, t2000400)))
def code_Distance_1.c1s : Shape := ⟨[(0, qk11), (1, qk5), (2, qk35), (3, qk36), (4, qk37), (5, qk32)], [(5, qk9), (1000200, qk45), (1000300, qk38), (1000400, qk40), (2000400, qk15)]⟩
def code_Distance_1.c1x0 : Shape := ⟨[(0, qk11), (1, qk5), (2, qk35), (3, qk36), (4, qk37), (5, qk32), (28, qk7)], [(5, qk9), (1000200, qk45), (1000300, qk38), (1000400, qk40), (2000400, qk15)]⟩
def code_Distance_1.c1r : Ck := Ck.of (T := (Bool) × (List (List ((Int) × (Int))))) code_Distance_1.c1s (fun ρ x_ k_ => uP x_ fun p x_ => uP x_ fun weight x_ => uP x_ fun p0 x_ => uP x_ fun p1 x_ => uP x_ fun p2 x_ => uP x_ fun t10002000 x_ => uP x_ fun t10003000 x_ => uP x_ fun t2000400 x_ => code_Distance_1.c1 weight p0 p1 p2 t10002000 t10003000 t2000400 k_) (fun ρ x_ r_ k_ => uP x_ fun p x_ => uP x_ fun weight x_ => uP x_ fun p0 x_ => uP x_ fun p1 x_ => uP x_ fun p2 x_ => uP x_ fun t10002000 x_ => uP x_ fun t10003000 x_ => uP x_ fun t2000400 x_ => k_ 0 (Shape.inj code_Distance_1.c1x0 (p, weight, r_.1, p0, p1, p2, t10002000, t10003000, r_.2, ())))
def code_Distance_1 (p : (Int) × ((Int) × (Bool))) (weight : Int) (t10002000 : Int) (t10003000 : List ((Int) × ((Int) × (Bool)))) (t2000400 : List (List ((Int) × (Int)))) : Option ((Int) × (List ((Int) × ((Int) × (Bool)))) × (List (List ((Int) × (Int)))) × Unit) :=
  bnd (W.code_Distance_1.c1 weight (Prod.fst p) (Prod.fst (Prod.snd p)) (Prod.snd (Prod.snd p)) t10002000 t10003000 t2000400 some) fun y =>
  br (Prod.fst y)
   (some (uP (uP (weight, ()) fun u r ↦ (u, ())) fun u r ↦ (u, uP (uP (t10003000, ()) fun u r ↦ (u, ())) fun u r ↦ (u, uP (Prod.snd y, ()) fun u r ↦ (u, ())))))
   (some (uP (uP (t10002000, ()) fun u r ↦ (u, ())) fun u r ↦ (u, uP (uP (t10003000, ()) fun u r ↦ (u, ())) fun u r ↦ (u, uP (Prod.snd y, ()) fun u r ↦ (u, ())))))
def code_Distance_1.mc : MCallee := ⟨35, code_Distance_1.pre, code_Distance_1.post, fun x_ => code_Distance_1 x_.1 x_.2.1 x_.2.2.1 x_.2.2.2.1 x_.2.2.2.2.1⟩
def code_Distance_1.G : Env := ⟨30, tab, [(31, code_shows.ce), (36, code_number.ce), (39, tableau_pauli_Bare.ce), (38, code_vector.ce)], [0, 1, 2, 3, 4, 5, 28], [1000200, 1000300, 1000400, 2000400], [(1, [⟨[], [], [], []⟩, ⟨[0], [], [], []⟩, ⟨[1, 0], [], [], []⟩, ⟨[2, 1, 0], [], [11], []⟩, ⟨[2, 1, 0], [], [10], []⟩, ⟨[3, 2, 1, 0, 4], [], [], []⟩, ⟨[2, 1, 0, 5, 3, 4], [], [], []⟩, ⟨[6, 2, 1, 0, 5, 3, 4], [], [], []⟩, ⟨[7, 6, 2, 1, 0, 5, 3, 4], [], [16], []⟩, ⟨[7, 6, 2, 1, 0, 5, 3, 4], [], [15], []⟩, ⟨[8, 7, 6, 2, 1, 0, 5, 3, 4, 9], [], [], []⟩, ⟨[10, 8, 7, 6, 2, 1, 0, 5, 3, 4, 9], [], [], []⟩, ⟨[11, 10, 8, 7, 6, 2, 1, 0, 5, 3, 4, 9], [], [], []⟩, ⟨[7, 6, 2, 1, 0, 5, 3, 4, 12, 11, 10, 8, 9], [], [], []⟩, ⟨[13, 7, 6, 2, 1, 0, 5, 3, 4, 12, 11, 10, 8, 9], [], [], []⟩, ⟨[14, 13, 7, 6, 2, 1, 0, 5, 3, 4, 12, 11, 10, 8, 9], [], [23, 24, 25], []⟩, ⟨[14, 13, 7, 6, 2, 1, 0, 5, 3, 4, 12, 11, 10, 8, 9], [], [22], []⟩, ⟨[16, 14, 13, 7, 6, 2, 1, 0, 5, 3, 4, 12, 11, 10, 8, 9], [], [22], []⟩, ⟨[17, 16, 14, 13, 7, 6, 2, 1, 0, 5, 3, 4, 12, 11, 10, 8, 9], [], [22], []⟩, ⟨[15, 14, 13, 7, 6, 2, 1, 0, 5, 3, 4, 12, 11, 10, 8, 9, 18, 17, 16], [2000400], [], []⟩, ⟨[19, 15, 14, 13, 7, 6, 2, 1, 0, 5, 3, 4, 12, 11, 10, 8, 9, 18, 17, 16], [], [], []⟩, ⟨[14, 13, 7, 6, 2, 1, 0, 5, 3, 4, 12, 11, 10, 8, 9, 20, 19, 15, 18, 17, 16], [], [], []⟩])], [(1, code_Distance_1.c1r)], [(37, code_basis_rest.mc)], tab_eqs⟩
theorem code_Distance_1.eq (x_ : densU code_Distance_1.mc.pre.tys) : denM code_Distance_1.G Go.Proofs.Try.f35 code_Distance_1.mc.pre code_Distance_1.mc.post x_ = code_Distance_1.mc.F x_ := by kernel_rfl
theorem code_Distance_1.p0 : PieceOk code_Distance_1.G (pieceAt (pieces code_Distance_1.G.cks (bodyOf Go.Proofs.Try.f35)) 0).1 (pieceAt (pieces code_Distance_1.G.cks (bodyOf Go.Proofs.Try.f35)) 0).2 :=
  region_ok (s := code_Distance_1.c1r) (by kernel_rfl) (by kernel_rfl) (sums_of (sh := code_Distance_1.c1s) (fun ρ x_ k_ => (nat_br (nat_bnd fun _ => (nat_bnd fun _ => (nat_br (nat_bnd fun _ => (nat_bnd fun _ => (nat_bnd fun _ => nat_leaf))) nat_leaf))) (nat_br (nat_bnd fun _ => (nat_bnd fun _ => (nat_br (nat_bnd fun _ => (nat_bnd fun _ => (nat_bnd fun _ => nat_leaf))) nat_leaf))) nat_leaf))) (fun ρ x_ t k => (by kernel_rfl)) (fun x_ => by kernel_rfl))
theorem code_Distance_1.ok : MOk Go.Proofs.Try.prog 35 code_Distance_1.mc := fnm_ok (G := code_Distance_1.G) tab_ok mixed Go.Proofs.Try.func35 ⟨(fns_cons code_shows.ok (fns_cons code_number.ok (fns_cons tableau_pauli_Bare.ok (fns_cons code_vector.ok fns_nil)))), (mfns_cons code_basis_rest.ok mfns_nil), tab_eqs_ok⟩ (m := 1) (by kernel_rfl) ⟨trivial, code_Distance_1.p0⟩ (by kernel_rfl) code_Distance_1.eq
abbrev qk62 : SO := .clo 35 [] [.ref 1000200 0, .ref 1000300 0, .ref 1000400 0]
def code_errors_1__dist_b.self.pre : Shape := ⟨[(0, qk5), (1, qk5), (2, qk41), (3, qk42), (4, qk43), (5, qk44)], [(1000100, qk45), (1000110, qk46), (1000120, qk47), (1000130, qk48), (1000140, qk62), (1000150, qk50), (1000200, qk45), (1000300, qk38), (1000400, qk40), (2000110, qk51), (2000400, qk15)]⟩
def code_errors_1__dist_b.self.post : Shape := ⟨[], [(1000100, qk45), (1000110, qk46), (1000120, qk47), (1000130, qk48), (1000140, qk62), (1000150, qk50), (1000200, qk45), (1000300, qk38), (1000400, qk40), (2000110, qk51), (2000400, qk15)]⟩
class code_errors_1__dist_b.Self where
  F : densU code_errors_1__dist_b.self.pre.tys → Option (densU code_errors_1__dist_b.self.post.tys)
  ok : MOk Go.Proofs.Try.prog 53 ⟨53, code_errors_1__dist_b.self.pre, code_errors_1__dist_b.self.post, F⟩
section
variable [code_errors_1__dist_b.Self]
def code_errors_1__dist_b.self (x_ : densU code_errors_1__dist_b.self.pre.tys) : Option (densU code_errors_1__dist_b.self.post.tys) := code_errors_1__dist_b.Self.F x_
def code_errors_1__dist_b.self.mc : MCallee := ⟨53, code_errors_1__dist_b.self.pre, code_errors_1__dist_b.self.post, fun x_ => code_errors_1__dist_b.self x_⟩
theorem code_errors_1__dist_b.self.ok : MOk Go.Proofs.Try.prog 53 code_errors_1__dist_b.self.mc := code_errors_1__dist_b.Self.ok
def code_errors_1__dist_b.pre : Shape := ⟨[(0, qk5), (1, qk5), (2, qk41), (3, qk42), (4, qk43), (5, qk44)], [(1000100, qk45), (1000110, qk46), (1000120, qk47), (1000130, qk48), (1000140, qk62), (1000150, qk50), (1000200, qk45), (1000300, qk38), (1000400, qk40), (2000110, qk51), (2000400, qk15)]⟩
def code_errors_1__dist_b.post : Shape := ⟨[], [(1000100, qk45), (1000110, qk46), (1000120, qk47), (1000130, qk48), (1000140, qk62), (1000150, qk50), (1000200, qk45), (1000300, qk38), (1000400, qk40), (2000110, qk51), (2000400, qk15)]⟩
def code_errors_1__dist_b.c232773 {ρ : Type} (c : Int) (w : Int) (k_ : Int → Option ρ) : Option ρ :=
  br (c != (73 : Int))
   (k_ (IntKind.wrap IntKind.i64 (w + (1 : Int))))
   (k_ w)
def code_errors_1__dist_b.c232773s : Shape := ⟨[(0, qk5), (1, qk5), (2, qk41), (3, qk42), (4, qk43), (5, qk44), (11, qk52), (12, qk5), (28, qk53), (29, qk5), (30, qk5)], [(1000100, qk45), (1000110, qk46), (1000120, qk47), (1000130, qk48), (1000140, qk62), (1000150, qk50), (1000200, qk45), (1000300, qk38), (1000400, qk40), (2000110, qk51), (2000400, qk15)]⟩
def code_errors_1__dist_b.c232773x0 : Shape := ⟨[(0, qk5), (1, qk5), (2, qk41), (3, qk42), (4, qk43), (5, qk44), (11, qk52), (12, qk5), (28, qk53), (29, qk5), (30, qk5)], [(1000100, qk45), (1000110, qk46), (1000120, qk47), (1000130, qk48), (1000140, qk62), (1000150, qk50), (1000200, qk45), (1000300, qk38), (1000400, qk40), (2000110, qk51), (2000400, qk15)]⟩
def code_errors_1__dist_b.c232773r : Ck := Ck.of (T := Int) code_errors_1__dist_b.c232773s (fun ρ x_ k_ => uP x_ fun q x_ => uP x_ fun weight x_ => uP x_ fun c x_ => uP x_ fun w x_ => uP x_ fun t28 x_ => uP x_ fun t29 x_ => uP x_ fun t30 x_ => uP x_ fun t10001000 x_ => uP x_ fun t10002000 x_ => uP x_ fun t10003000 x_ => uP x_ fun t2000110 x_ => uP x_ fun t2000400 x_ => code_errors_1__dist_b.c232773 c w k_) (fun ρ x_ r_ k_ => uP x_ fun q x_ => uP x_ fun weight x_ => uP x_ fun c x_ => uP x_ fun w x_ => uP x_ fun t28 x_ => uP x_ fun t29 x_ => uP x_ fun t30 x_ => uP x_ fun t10001000 x_ => uP x_ fun t10002000 x_ => uP x_ fun t10003000 x_ => uP x_ fun t2000110 x_ => uP x_ fun t2000400 x_ => k_ 0 (Shape.inj code_errors_1__dist_b.c232773x0 (q, weight, c, r_, t28, t29, t30, t10001000, t10002000, t10003000, t2000110, t2000400, ())))
def code_errors_1__dist_b.c100004 {ρ : Type} (q : Int) (weight : Int) (t28 : List (Int)) (t29 : Int) (t30 : Int) (t10001000 : Int) (t10002000 : Int) (t10003000 : List ((Int) × ((Int) × (Bool)))) (t2000110 : List (Int)) (t2000400 : List (List ((Int) × (Int)))) (k_ : ((Int) × (Int) × (Int) × (List ((Int) × ((Int) × (Bool)))) × (List Int) × (List (List ((Int) × (Int))))) ⊕ ((Int) × (Int) × (Int) × (List ((Int) × ((Int) × (Bool)))) × (List Int) × (List (List ((Int) × (Int))))) → Option ρ) : Option ρ :=
  br (decide (t30 < t29))
   (bnd (idx t28 t30) fun y =>
    bnd (inR (List.length t2000110) (IntKind.wrap IntKind.i64 (q + (1 : Int)))) fun y_1 =>
    bnd (idx t2000110 (IntKind.wrap IntKind.i64 (q + (1 : Int)))) fun y_2 =>
    bnd (W.code_errors_1__dist_b.c232773 y weight some) fun y_3 =>
    bnd (W.code_errors_1__dist_b.self (uP (uP (IntKind.wrap IntKind.i64 (q + (1 : Int)), ()) fun u r ↦ (u, uP (y_3, ()) fun u r ↦ (u, ()))) fun u r ↦ (u, uP r fun u r ↦ (u, uP (uP (t10001000, ()) fun u r ↦ (u, ())) fun u r ↦ (u, uP (uP (t10002000, ()) fun u r ↦ (u, ())) fun u r ↦ (u, uP (uP (t10003000, ()) fun u r ↦ (u, ())) fun u r ↦ (u, uP (List.set t2000110 (Int.toNat (IntKind.wrap IntKind.i64 (q + (1 : Int)))) y, ()) fun u r ↦ (u, uP (t2000400, ()) fun u r ↦ (u, ()))))))))) fun y_4 =>
    k_ (.inl ((IntKind.wrap IntKind.i64 (t30 + (1 : Int))), (Prod.fst y_4), (Prod.fst y_4.2), (Prod.fst y_4.2.2), (Prod.fst y_4.2.2.2), (Prod.fst y_4.2.2.2.2))))
   (k_ (.inr (t30, t10001000, t10002000, t10003000, t2000110, t2000400)))
def code_errors_1__dist_b.c100004s : Shape := ⟨[(0, qk5), (1, qk5), (2, qk41), (3, qk42), (4, qk43), (5, qk44), (28, qk53), (29, qk5), (30, qk5)], [(1000100, qk45), (1000110, qk46), (1000120, qk47), (1000130, qk48), (1000140, qk62), (1000150, qk50), (1000200, qk45), (1000300, qk38), (1000400, qk40), (2000110, qk51), (2000400, qk15)]⟩
def code_errors_1__dist_b.c100004x0 : Shape := ⟨[(0, qk5), (1, qk5), (2, qk41), (3, qk42), (4, qk43), (5, qk44), (28, qk53), (29, qk5), (30, qk5)], [(1000100, qk45), (1000110, qk46), (1000120, qk47), (1000130, qk48), (1000140, qk62), (1000150, qk50), (1000200, qk45), (1000300, qk38), (1000400, qk40), (2000110, qk51), (2000400, qk15)]⟩
def code_errors_1__dist_b.c100004r : Ck := Ck.ofLoop (S := (Int) × (Int) × (Int) × (List ((Int) × ((Int) × (Bool)))) × (List Int) × (List (List ((Int) × (Int))))) (T := (Int) × (Int) × (Int) × (List ((Int) × ((Int) × (Bool)))) × (List Int) × (List (List ((Int) × (Int))))) code_errors_1__dist_b.c100004s (fun x_ => uP x_ fun q x_ => uP x_ fun weight x_ => uP x_ fun t28 x_ => uP x_ fun t29 x_ => uP x_ fun t30 x_ => uP x_ fun t10001000 x_ => uP x_ fun t10002000 x_ => uP x_ fun t10003000 x_ => uP x_ fun t2000110 x_ => uP x_ fun t2000400 x_ => (t30, t10001000, t10002000, t10003000, t2000110, t2000400)) (fun ρ x_ s_ k_ => uP x_ fun q x_ => uP x_ fun weight x_ => uP x_ fun t28 x_ => uP x_ fun t29 x_ => uP x_ fun t30 x_ => uP x_ fun t10001000 x_ => uP x_ fun t10002000 x_ => uP x_ fun t10003000 x_ => uP x_ fun t2000110 x_ => uP x_ fun t2000400 x_ => code_errors_1__dist_b.c100004 q weight t28 t29 s_.1 s_.2.1 s_.2.2.1 s_.2.2.2.1 s_.2.2.2.2.1 s_.2.2.2.2.2 k_) (fun ρ x_ r_ k_ => uP x_ fun q x_ => uP x_ fun weight x_ => uP x_ fun t28 x_ => uP x_ fun t29 x_ => uP x_ fun t30 x_ => uP x_ fun t10001000 x_ => uP x_ fun t10002000 x_ => uP x_ fun t10003000 x_ => uP x_ fun t2000110 x_ => uP x_ fun t2000400 x_ => k_ 2 (Shape.inj code_errors_1__dist_b.c100004x0 (q, weight, t28, t29, r_.1, r_.2.1, r_.2.2.1, r_.2.2.2.1, r_.2.2.2.2.1, r_.2.2.2.2.2, ())))
def code_errors_1__dist_b (q : Int) (weight : Int) (t10001000 : Int) (t10002000 : Int) (t10003000 : List ((Int) × ((Int) × (Bool)))) (t2000110 : List (Int)) (t2000400 : List (List ((Int) × (Int)))) : Option ((Int) × (Int) × (List ((Int) × ((Int) × (Bool)))) × (List Int) × (List (List ((Int) × (Int)))) × Unit) :=
  br (q == t10001000)
   (bnd (W.tableau_Read (List.map (fun n ↦ UInt8.ofNat (Int.toNat n)) t2000110) t10001000) fun y =>
    bnd (W.code_Distance_1 (Prod.fst (uP (uP ((Prod.fst (Prod.fst y), Prod.fst (Prod.snd (Prod.fst y)), Prod.snd (Prod.snd (Prod.fst y))), ()) fun u r ↦ (u, uP (weight, ()) fun u r ↦ (u, ()))) fun u r ↦ (u, uP r fun u r ↦ (u, uP (uP (t10002000, ()) fun u r ↦ (u, ())) fun u r ↦ (u, uP (uP (t10003000, ()) fun u r ↦ (u, ())) fun u r ↦ (u, uP (t2000400, ()) fun u r ↦ (u, ()))))))) (Prod.fst (Prod.snd (uP (uP ((Prod.fst (Prod.fst y), Prod.fst (Prod.snd (Prod.fst y)), Prod.snd (Prod.snd (Prod.fst y))), ()) fun u r ↦ (u, uP (weight, ()) fun u r ↦ (u, ()))) fun u r ↦ (u, uP r fun u r ↦ (u, uP (uP (t10002000, ()) fun u r ↦ (u, ())) fun u r ↦ (u, uP (uP (t10003000, ()) fun u r ↦ (u, ())) fun u r ↦ (u, uP (t2000400, ()) fun u r ↦ (u, ())))))))) (Prod.fst (Prod.snd (Prod.snd (uP (uP ((Prod.fst (Prod.fst y), Prod.fst (Prod.snd (Prod.fst y)), Prod.snd (Prod.snd (Prod.fst y))), ()) fun u r ↦ (u, uP (weight, ()) fun u r ↦ (u, ()))) fun u r ↦ (u, uP r fun u r ↦ (u, uP (uP (t10002000, ()) fun u r ↦ (u, ())) fun u r ↦ (u, uP (uP (t10003000, ()) fun u r ↦ (u, ())) fun u r ↦ (u, uP (t2000400, ()) fun u r ↦ (u, ()))))))))) (Prod.fst (Prod.snd (Prod.snd (Prod.snd (uP (uP ((Prod.fst (Prod.fst y), Prod.fst (Prod.snd (Prod.fst y)), Prod.snd (Prod.snd (Prod.fst y))), ()) fun u r ↦ (u, uP (weight, ()) fun u r ↦ (u, ()))) fun u r ↦ (u, uP r fun u r ↦ (u, uP (uP (t10002000, ()) fun u r ↦ (u, ())) fun u r ↦ (u, uP (uP (t10003000, ()) fun u r ↦ (u, ())) fun u r ↦ (u, uP (t2000400, ()) fun u r ↦ (u, ())))))))))) (Prod.fst (Prod.snd (Prod.snd (Prod.snd (Prod.snd (uP (uP ((Prod.fst (Prod.fst y), Prod.fst (Prod.snd (Prod.fst y)), Prod.snd (Prod.snd (Prod.fst y))), ()) fun u r ↦ (u, uP (weight, ()) fun u r ↦ (u, ()))) fun u r ↦ (u, uP r fun u r ↦ (u, uP (uP (t10002000, ()) fun u r ↦ (u, ())) fun u r ↦ (u, uP (uP (t10003000, ()) fun u r ↦ (u, ())) fun u r ↦ (u, uP (t2000400, ()) fun u r ↦ (u, ())))))))))))) fun y_1 =>
    some (uP (uP (t10001000, ()) fun u r ↦ (u, ())) fun u r ↦ (u, uP (uP (Prod.fst y_1, ()) fun u r ↦ (u, ())) fun u r ↦ (u, uP (uP (Prod.fst y_1.2, ()) fun u r ↦ (u, ())) fun u r ↦ (u, uP (t2000110, ()) fun u r ↦ (u, uP (Prod.fst y_1.2.2, ()) fun u r ↦ (u, ())))))))
   (bnd (iter (fun s ↦ W.code_errors_1__dist_b.c100004 q weight [(73 : Int), (88 : Int), (89 : Int), (90 : Int)] (↑(4 : Nat) : Int) (Prod.fst s) (Prod.fst (Prod.snd s)) (Prod.fst (Prod.snd (Prod.snd s))) (Prod.fst (Prod.snd (Prod.snd (Prod.snd s)))) (Prod.fst (Prod.snd (Prod.snd (Prod.snd (Prod.snd s))))) (Prod.snd (Prod.snd (Prod.snd (Prod.snd (Prod.snd s))))) some) ((0 : Int), t10001000, t10002000, t10003000, t2000110, t2000400)) fun y_2 =>
    some (uP (uP (Prod.fst (Prod.snd y_2), ()) fun u r ↦ (u, ())) fun u r ↦ (u, uP (uP (Prod.fst (Prod.snd (Prod.snd y_2)), ()) fun u r ↦ (u, ())) fun u r ↦ (u, uP (uP (Prod.fst (Prod.snd (Prod.snd (Prod.snd y_2))), ()) fun u r ↦ (u, ())) fun u r ↦ (u, uP (Prod.fst (Prod.snd (Prod.snd (Prod.snd (Prod.snd y_2)))), ()) fun u r ↦ (u, uP (Prod.snd (Prod.snd (Prod.snd (Prod.snd (Prod.snd y_2)))), ()) fun u r ↦ (u, ())))))))
def code_errors_1__dist_b.mc : MCallee := ⟨53, code_errors_1__dist_b.pre, code_errors_1__dist_b.post, fun x_ => code_errors_1__dist_b x_.1 x_.2.1 x_.2.2.1 x_.2.2.2.1 x_.2.2.2.2.1 x_.2.2.2.2.2.1 x_.2.2.2.2.2.2.1⟩
def code_errors_1__dist_b.G : Env := ⟨50, tab, [(30, tableau_Read.ce)], [0, 1, 2, 3, 4, 5, 8, 11, 12, 15, 28, 29, 30, 31, 41], [1000100, 1000110, 1000120, 1000130, 1000140, 1000150, 1000200, 1000300, 1000400, 2000110, 2000400], [], [(100004, code_errors_1__dist_b.c100004r), (232773, code_errors_1__dist_b.c232773r)], [(35, code_Distance_1.mc), (53, code_errors_1__dist_b.self.mc)], tab_eqs⟩
theorem code_errors_1__dist_b.eq (x_ : densU code_errors_1__dist_b.mc.pre.tys) : denM code_errors_1__dist_b.G Go.Proofs.Try.f53 code_errors_1__dist_b.mc.pre code_errors_1__dist_b.mc.post x_ = code_errors_1__dist_b.mc.F x_ := by kernel_rfl
theorem code_errors_1__dist_b.p0 : PieceOk code_errors_1__dist_b.G (pieceAt (pieces code_errors_1__dist_b.G.cks (bodyOf Go.Proofs.Try.f53)) 0).1 (pieceAt (pieces code_errors_1__dist_b.G.cks (bodyOf Go.Proofs.Try.f53)) 0).2 :=
  loop_ok (s := code_errors_1__dist_b.c100004r) (by kernel_rfl) (by kernel_rfl) (loops_of (sh := code_errors_1__dist_b.c100004s) (I := fun x_ s_ => (x_.1, x_.2.1, x_.2.2.1, x_.2.2.2.1, s_.1, s_.2.1, s_.2.2.1, s_.2.2.2.1, s_.2.2.2.2.1, s_.2.2.2.2.2, ())) (fun x_ => rfl) (fun ρ x_ s_ k_ => (nat_br (nat_bnd fun _ => (nat_bnd fun _ => (nat_bnd fun _ => (nat_bnd fun _ => (nat_bnd fun _ => nat_leaf))))) nat_leaf)) (fun ρ x_ t k => (by kernel_rfl)) (fun x_ s => by kernel_rfl))
theorem code_errors_1__dist_b.p1 : PieceOk code_errors_1__dist_b.G (pieceAt (pieces code_errors_1__dist_b.G.cks (bodyOf Go.Proofs.Try.f53)) 1).1 (pieceAt (pieces code_errors_1__dist_b.G.cks (bodyOf Go.Proofs.Try.f53)) 1).2 :=
  join_ok (s := code_errors_1__dist_b.c232773r) (by kernel_rfl) (by kernel_rfl) (sums_of (sh := code_errors_1__dist_b.c232773s) (fun ρ x_ k_ => (nat_br nat_leaf nat_leaf)) (fun ρ x_ t k => (by kernel_rfl)) (fun x_ => by kernel_rfl))
theorem code_errors_1__dist_b.ok : MOk Go.Proofs.Try.prog 53 code_errors_1__dist_b.mc := fnm_ok (G := code_errors_1__dist_b.G) tab_ok mixed Go.Proofs.Try.func53 ⟨(fns_cons tableau_Read.ok fns_nil), (mfns_cons code_Distance_1.ok (mfns_cons code_errors_1__dist_b.self.ok mfns_nil)), tab_eqs_ok⟩ (m := 2) (by kernel_rfl) ⟨⟨trivial, code_errors_1__dist_b.p0⟩, code_errors_1__dist_b.p1⟩ (by kernel_rfl) code_errors_1__dist_b.eq
end
@[reducible] def code_errors_1__dist_b.fuel : Nat → code_errors_1__dist_b.Self
  | 0 => ⟨fun _ => none, ⟨⟨Go.Proofs.Try.f53, Go.Proofs.Try.func53, by kernel_rfl, by kernel_rfl⟩, fun _ _ _ _ _ _ _ hy => by cases hy⟩⟩
  | n + 1 => ⟨fun x_ => (@code_errors_1__dist_b.mc (code_errors_1__dist_b.fuel n)).F x_, @code_errors_1__dist_b.ok (code_errors_1__dist_b.fuel n)⟩
def code_errors_1__dist (x_ : densU code_errors_1__dist_b.self.pre.tys) : Option (densU code_errors_1__dist_b.self.post.tys) := (code_errors_1__dist_b.fuel 16).F x_
def code_errors_1__dist.mc : MCallee := ⟨53, code_errors_1__dist_b.self.pre, code_errors_1__dist_b.self.post, fun x_ => code_errors_1__dist x_⟩
theorem code_errors_1__dist.ok : MOk Go.Proofs.Try.prog 53 code_errors_1__dist.mc := (code_errors_1__dist_b.fuel 16).ok
def code_errors__dist.pre : Shape := ⟨[(0, qk5), (1, qk54)], [(1000140, qk62), (1000200, qk45), (1000300, qk38), (1000400, qk40), (2000400, qk15)]⟩
def code_errors__dist.post : Shape := ⟨[], [(1000140, qk62), (1000200, qk45), (1000300, qk38), (1000400, qk40), (2000400, qk15)]⟩
def code_errors__dist (n : Int) (t10002000 : Int) (t10003000 : List ((Int) × ((Int) × (Bool)))) (t2000400 : List (List ((Int) × (Int)))) : Option ((Int) × (List ((Int) × ((Int) × (Bool)))) × (List (List ((Int) × (Int)))) × Unit) :=
  bnd (okIf (decide ((0 : Int) ≤ IntKind.wrap IntKind.i64 (n + (1 : Int))) && decide (IntKind.wrap IntKind.i64 (n + (1 : Int)) ≤ IntKind.wrap IntKind.i64 (n + (1 : Int))) && decide (IntKind.wrap IntKind.i64 (n + (1 : Int)) * (↑(1 : Nat) : Int) ≤ (140737488355328 : Int)) && decide (IntKind.wrap IntKind.i64 (n + (1 : Int)) ≤ (140737488355328 : Int)))) fun y =>
  bnd (inR (List.length (List.replicate (Int.toNat (IntKind.wrap IntKind.i64 (n + (1 : Int)))) (0 : Int))) (0 : Int)) fun y_1 =>
  bnd (idx (List.replicate (Int.toNat (IntKind.wrap IntKind.i64 (n + (1 : Int)))) (0 : Int)) (0 : Int)) fun y_2 =>
  bnd (W.code_errors_1__dist (uP (uP ((0 : Int), ()) fun u r ↦ (u, uP ((0 : Int), ()) fun u r ↦ (u, ()))) fun u r ↦ (u, uP r fun u r ↦ (u, uP (uP (n, ()) fun u r ↦ (u, ())) fun u r ↦ (u, uP (uP (t10002000, ()) fun u r ↦ (u, ())) fun u r ↦ (u, uP (uP (t10003000, ()) fun u r ↦ (u, ())) fun u r ↦ (u, uP (List.set (List.replicate (Int.toNat (IntKind.wrap IntKind.i64 (n + (1 : Int)))) (0 : Int)) (0 : Nat) (43 : Int), ()) fun u r ↦ (u, uP (t2000400, ()) fun u r ↦ (u, ()))))))))) fun y_3 =>
  some (uP (uP (Prod.fst y_3.2, ()) fun u r ↦ (u, ())) fun u r ↦ (u, uP (uP (Prod.fst y_3.2.2, ()) fun u r ↦ (u, ())) fun u r ↦ (u, uP (Prod.fst y_3.2.2.2.2, ()) fun u r ↦ (u, ()))))
def code_errors__dist.mc : MCallee := ⟨34, code_errors__dist.pre, code_errors__dist.post, fun x_ => code_errors__dist x_.1 x_.2.1 x_.2.2.1 x_.2.2.2.1⟩
def code_errors__dist.G : Env := ⟨14, tab, [], [0, 1, 2, 3, 4, 5], [3, 4, 5, 8, 1004, 1000140, 1000200, 1000300, 1000400, 2000400], [], [], [(53, code_errors_1__dist.mc)], tab_eqs⟩
theorem code_errors__dist.eq (x_ : densU code_errors__dist.mc.pre.tys) : denM code_errors__dist.G Go.Proofs.Try.f34 code_errors__dist.mc.pre code_errors__dist.mc.post x_ = code_errors__dist.mc.F x_ := by kernel_rfl
theorem code_errors__dist.ok : MOk Go.Proofs.Try.prog 34 code_errors__dist.mc := fnm_ok (G := code_errors__dist.G) tab_ok mixed Go.Proofs.Try.func34 ⟨fns_nil, (mfns_cons code_errors_1__dist.ok mfns_nil), tab_eqs_ok⟩ (m := 0) (by kernel_rfl) trivial (by kernel_rfl) code_errors__dist.eq
end
end W
end
