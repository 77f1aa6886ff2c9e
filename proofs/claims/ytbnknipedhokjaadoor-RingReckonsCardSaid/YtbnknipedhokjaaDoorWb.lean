/- Lifted functions, part 2: each with its contract. -/
import Derived.Test.YtbnknipedhokjaaDoorWa
import Derived.Test.YtbnknipedhokjaaDoorProg
set_option linter.all false
section
set_option maxHeartbeats 4000000
set_option maxRecDepth 100000
set_option linter.unusedVariables false
namespace W
open Go Go.Ql
noncomputable section
abbrev rb52 : SD := .one (.val (.sl (.int .u8)))
def R_ZText.c216389 {ρ : Type} (text : List UInt8) (a0 : Bool) (k_ : List UInt8 → Option ρ) : Option ρ :=
  br a0
   (k_ (Array.toList (ByteArray.data (ByteArray.mk #[(45 : UInt8)]))))
   (k_ text)
def R_ZText.c216389s : Shape := ⟨[(0, rb36), (1, rb13), (2, rb44), (3, rb44)], [(1, rb30)]⟩
def R_ZText.c216389x0 : Shape := ⟨[(0, rb36), (1, rb13), (2, rb44), (3, rb44)], [(1, rb30)]⟩
def R_ZText.c216389r : Ck := Ck.of (T := List UInt8) R_ZText.c216389s (fun ρ x_ k_ => uP x_ fun a x_ => uP x_ fun t2 x_ => uP x_ fun text x_ => uP x_ fun a0 x_ => uP x_ fun a1 x_ => R_ZText.c216389 text a0 k_) (fun ρ x_ r_ k_ => uP x_ fun a x_ => uP x_ fun t2 x_ => uP x_ fun text x_ => uP x_ fun a0 x_ => uP x_ fun a1 x_ => k_ 0 (Shape.inj R_ZText.c216389x0 (a, t2, r_, a0, a1, ())))
def R_ZText.c9 {ρ : Type} (i : Int) (a1 : List (Int)) (k_ : List (Int) → Option ρ) : Option ρ :=
  bnd (idx a1 i) fun y =>
  bnd (idx a1 i) fun y_1 =>
  bnd (idx a1 i) fun y_2 =>
  bnd (idx a1 i) fun y_3 =>
  k_ ([IntKind.wrap IntKind.u8 (IntKind.wrap IntKind.i64 ((48 : Int) + IntKind.wrap IntKind.i64 (Int.tdiv y (1000 : Int)))), IntKind.wrap IntKind.u8 (IntKind.wrap IntKind.i64 ((48 : Int) + Int.tmod (IntKind.wrap IntKind.i64 (Int.tdiv y_1 (100 : Int))) (10 : Int))), IntKind.wrap IntKind.u8 (IntKind.wrap IntKind.i64 ((48 : Int) + Int.tmod (IntKind.wrap IntKind.i64 (Int.tdiv y_2 (10 : Int))) (10 : Int))), IntKind.wrap IntKind.u8 (IntKind.wrap IntKind.i64 ((48 : Int) + Int.tmod y_3 (10 : Int)))])
def R_ZText.c9s : Shape := ⟨[(0, rb36), (1, rb13), (2, rb44), (3, rb44), (4, rb3)], [(1, rb30)]⟩
def R_ZText.c9x0 : Shape := ⟨[(0, rb36), (1, rb13), (2, rb44), (3, rb44), (4, rb3), (5, rb52)], [(1, rb30)]⟩
def R_ZText.c9r : Ck := Ck.of (T := List (Int)) R_ZText.c9s (fun ρ x_ k_ => uP x_ fun a x_ => uP x_ fun t2 x_ => uP x_ fun text x_ => uP x_ fun i x_ => uP x_ fun a0 x_ => uP x_ fun a1 x_ => R_ZText.c9 i a1 k_) (fun ρ x_ r_ k_ => uP x_ fun a x_ => uP x_ fun t2 x_ => uP x_ fun text x_ => uP x_ fun i x_ => uP x_ fun a0 x_ => uP x_ fun a1 x_ => k_ 0 (Shape.inj R_ZText.c9x0 (a, t2, text, i, r_, a0, a1, ())))
def R_ZText.c11 {ρ : Type} (i : Int) (four : List (Int)) (t6 : Int) (a1 : List (Int)) (k_ : Bool → Option ρ) : Option ρ :=
  br (i == IntKind.wrap IntKind.i64 ((↑(List.length a1) : Int) - (1 : Int)))
   (br (decide (t6 < (3 : Int)))
     (bnd (idx four t6) fun y =>
      k_ (y == (48 : Int)))
     (k_ false))
   (k_ false)
def R_ZText.c11s : Shape := ⟨[(0, rb36), (1, rb13), (2, rb44), (3, rb44), (4, rb3), (5, rb52), (6, rb3)], [(1, rb30)]⟩
def R_ZText.c11x0 : Shape := ⟨[(0, rb36), (1, rb13), (2, rb44), (3, rb44), (4, rb3), (5, rb52), (6, rb3), (72, rb0)], [(1, rb30)]⟩
def R_ZText.c11r : Ck := Ck.of (T := Bool) R_ZText.c11s (fun ρ x_ k_ => uP x_ fun a x_ => uP x_ fun t2 x_ => uP x_ fun text x_ => uP x_ fun i x_ => uP x_ fun four x_ => uP x_ fun t6 x_ => uP x_ fun a0 x_ => uP x_ fun a1 x_ => R_ZText.c11 i four t6 a1 k_) (fun ρ x_ r_ k_ => uP x_ fun a x_ => uP x_ fun t2 x_ => uP x_ fun text x_ => uP x_ fun i x_ => uP x_ fun four x_ => uP x_ fun t6 x_ => uP x_ fun a0 x_ => uP x_ fun a1 x_ => k_ 0 (Shape.inj R_ZText.c11x0 (a, t2, text, i, four, t6, r_, a0, a1, ())))
def R_ZText.c100011 {ρ : Type} (i : Int) (four : List (Int)) (t6 : Int) (a1 : List (Int)) (k_ : (Int) ⊕ (Int) → Option ρ) : Option ρ :=
  bnd (W.R_ZText.c11 i four t6 a1 some) fun y =>
  br y
   (k_ (.inl (IntKind.wrap IntKind.i64 (t6 + (1 : Int)))))
   (k_ (.inr t6))
def R_ZText.c100011s : Shape := ⟨[(0, rb36), (1, rb13), (2, rb44), (3, rb44), (4, rb3), (5, rb52), (6, rb3)], [(1, rb30)]⟩
def R_ZText.c100011x0 : Shape := ⟨[(0, rb36), (1, rb13), (2, rb44), (3, rb44), (4, rb3), (5, rb52), (6, rb3)], [(1, rb30)]⟩
def R_ZText.c100011r : Ck := Ck.ofLoop (S := Int) (T := Int) R_ZText.c100011s (fun x_ => uP x_ fun a x_ => uP x_ fun t2 x_ => uP x_ fun text x_ => uP x_ fun i x_ => uP x_ fun four x_ => uP x_ fun t6 x_ => uP x_ fun a0 x_ => uP x_ fun a1 x_ => t6) (fun ρ x_ s_ k_ => uP x_ fun a x_ => uP x_ fun t2 x_ => uP x_ fun text x_ => uP x_ fun i x_ => uP x_ fun four x_ => uP x_ fun t6 x_ => uP x_ fun a0 x_ => uP x_ fun a1 x_ => R_ZText.c100011 i four s_ a1 k_) (fun ρ x_ r_ k_ => uP x_ fun a x_ => uP x_ fun t2 x_ => uP x_ fun text x_ => uP x_ fun i x_ => uP x_ fun four x_ => uP x_ fun t6 x_ => uP x_ fun a0 x_ => uP x_ fun a1 x_ => k_ 4 (Shape.inj R_ZText.c100011x0 (a, t2, text, i, four, r_, a0, a1, ())))
def R_ZText.c100007 {ρ : Type} (text : List UInt8) (i : Int) (a1 : List (Int)) (k_ : ((List UInt8) × (Int)) ⊕ ((List UInt8) × (Int)) → Option ρ) : Option ρ :=
  br (decide (i ≥ (0 : Int)))
   (bnd (W.R_ZText.c9 i a1 some) fun y =>
    bnd (iter (fun s ↦ W.R_ZText.c100011 i y s a1 some) (0 : Int)) fun y_1 =>
    bnd (okIf (decide ((0 : Int) ≤ y_1) && decide (y_1 ≤ (↑(List.length y) : Int)) && decide ((↑(List.length y) : Int) ≤ (↑(List.length y) : Int)))) fun y_2 =>
    bnd (okIf (decide (List.length text + List.length (List.map (fun n ↦ UInt8.ofNat (Int.toNat n)) (List.drop (Int.toNat y_1) (List.take (Int.toNat (↑(List.length y) : Int)) y))) ≤ (9223372036854775807 : Nat)))) fun y_3 =>
    k_ (.inl ((text ++ List.map (fun n ↦ UInt8.ofNat (Int.toNat n)) (List.drop (Int.toNat y_1) (List.take (Int.toNat (↑(List.length y) : Int)) y))), (IntKind.wrap IntKind.i64 (i - (1 : Int))))))
   (k_ (.inr (text, i)))
def R_ZText.c100007s : Shape := ⟨[(0, rb36), (1, rb13), (2, rb44), (3, rb44), (4, rb3)], [(1, rb30)]⟩
def R_ZText.c100007x0 : Shape := ⟨[(0, rb36), (1, rb13), (2, rb44), (3, rb44), (4, rb3)], [(1, rb30)]⟩
def R_ZText.c100007r : Ck := Ck.ofLoop (S := (List UInt8) × (Int)) (T := (List UInt8) × (Int)) R_ZText.c100007s (fun x_ => uP x_ fun a x_ => uP x_ fun t2 x_ => uP x_ fun text x_ => uP x_ fun i x_ => uP x_ fun a0 x_ => uP x_ fun a1 x_ => (text, i)) (fun ρ x_ s_ k_ => uP x_ fun a x_ => uP x_ fun t2 x_ => uP x_ fun text x_ => uP x_ fun i x_ => uP x_ fun a0 x_ => uP x_ fun a1 x_ => R_ZText.c100007 s_.1 s_.2 a1 k_) (fun ρ x_ r_ k_ => uP x_ fun a x_ => uP x_ fun t2 x_ => uP x_ fun text x_ => uP x_ fun i x_ => uP x_ fun a0 x_ => uP x_ fun a1 x_ => k_ 2 (Shape.inj R_ZText.c100007x0 (a, t2, r_.1, r_.2, a0, a1, ())))
def R_ZText (a : (Bool) × (List Int)) : Option (List UInt8) :=
  br ((↑(List.length (Prod.snd a)) : Int) == (0 : Int))
   (some (Array.toList (ByteArray.data (ByteArray.mk #[(48 : UInt8)]))))
   (bnd (W.R_ZText.c216389 (Array.toList (ByteArray.data (ByteArray.mk #[]))) (Prod.fst a) some) fun y =>
    bnd (iter (fun s ↦ W.R_ZText.c100007 (Prod.fst s) (Prod.snd s) (Prod.snd a) some) (y, IntKind.wrap IntKind.i64 ((↑(List.length (Prod.snd a)) : Int) - (1 : Int)))) fun y_1 =>
    some (Prod.fst y_1))
def R_ZText.ce : Go.Ql.Callee := ⟨[(.st (.pair .bool (.sl (.int .i64))))], [.str], fun x_ => R_ZText x_⟩
def R_ZText.G : Env := ⟨82, tab, [], [0, 1, 2, 3, 4, 5, 6, 10, 12, 18, 72], [], [(9, [⟨[], [], [23, 29, 30, 31, 32, 33, 34, 35, 36, 37, 38, 39, 40, 41, 42, 43, 44, 45, 46, 47, 48, 49, 50, 51, 52, 53, 54], []⟩, ⟨[0], [], [23, 29, 30, 31, 32, 33, 34, 35, 36, 37, 38, 39, 40, 41, 42, 43, 44, 45, 46, 47, 48, 49, 50, 51, 52, 53, 54], []⟩, ⟨[], [], [21, 22, 29, 30, 31, 32, 33, 34, 35, 36, 37, 38, 39, 40, 41, 42, 43, 44, 45, 46, 47, 48, 49, 50, 51, 52, 53, 54], []⟩, ⟨[1, 0, 2], [], [29, 30, 31, 32, 33, 34, 35, 36, 37, 38, 39, 40, 41, 42, 43, 44, 45, 46, 47, 48, 49, 50, 51, 52, 53, 54], []⟩, ⟨[3, 1, 0, 2], [], [29, 30, 31, 32, 33, 34, 35, 36, 37, 38, 39, 40, 41, 42, 43, 44, 45, 46, 47, 48, 49, 50, 51, 52, 53, 54], []⟩, ⟨[4, 3, 1, 0, 2], [], [29, 30, 31, 32, 33, 34, 35, 36, 37, 38, 39, 40, 41, 42, 43, 44, 45, 46, 47, 48, 49, 50, 51, 52, 53, 54], []⟩, ⟨[5, 4, 3, 1, 0, 2], [], [29, 30, 31, 32, 33, 34, 35, 36, 37, 38, 39, 40, 41, 42, 43, 44, 45, 46, 47, 48, 49, 50, 51, 52, 53, 54], []⟩, ⟨[6, 5, 4, 3, 1, 0, 2], [], [29, 30, 31, 32, 33, 34, 35, 36, 37, 38, 39, 40, 41, 42, 43, 44, 45, 46, 47, 48, 49, 50, 51, 52, 53, 54], []⟩, ⟨[], [], [21, 22, 23, 24, 25, 26, 27, 28, 31, 38, 39, 40, 41, 42, 43, 44, 45, 46, 47, 48, 49, 50, 51, 52, 53, 54], []⟩, ⟨[8], [], [21, 22, 23, 24, 25, 26, 27, 28, 31, 38, 39, 40, 41, 42, 43, 44, 45, 46, 47, 48, 49, 50, 51, 52, 53, 54], []⟩, ⟨[], [], [21, 22, 23, 24, 25, 26, 27, 28, 29, 30, 38, 39, 40, 41, 42, 43, 44, 45, 46, 47, 48, 49, 50, 51, 52, 53, 54], []⟩, ⟨[9, 8, 10], [], [21, 22, 23, 24, 25, 26, 27, 28, 38, 39, 40, 41, 42, 43, 44, 45, 46, 47, 48, 49, 50, 51, 52, 53, 54], []⟩, ⟨[11, 9, 8, 10], [], [21, 22, 23, 24, 25, 26, 27, 28, 38, 39, 40, 41, 42, 43, 44, 45, 46, 47, 48, 49, 50, 51, 52, 53, 54], []⟩, ⟨[12, 11, 9, 8, 10], [], [21, 22, 23, 24, 25, 26, 27, 28, 38, 39, 40, 41, 42, 43, 44, 45, 46, 47, 48, 49, 50, 51, 52, 53, 54], []⟩, ⟨[13, 12, 11, 9, 8, 10], [], [21, 22, 23, 24, 25, 26, 27, 28, 38, 39, 40, 41, 42, 43, 44, 45, 46, 47, 48, 49, 50, 51, 52, 53, 54], []⟩, ⟨[14, 13, 12, 11, 9, 8, 10], [], [21, 22, 23, 24, 25, 26, 27, 28, 38, 39, 40, 41, 42, 43, 44, 45, 46, 47, 48, 49, 50, 51, 52, 53, 54], []⟩, ⟨[15, 14, 13, 12, 11, 9, 8, 10], [], [21, 22, 23, 24, 25, 26, 27, 28, 38, 39, 40, 41, 42, 43, 44, 45, 46, 47, 48, 49, 50, 51, 52, 53, 54], []⟩, ⟨[], [], [21, 22, 23, 24, 25, 26, 27, 28, 29, 30, 31, 32, 33, 34, 35, 36, 37, 40, 47, 48, 49, 50, 51, 52, 53, 54], []⟩, ⟨[17], [], [21, 22, 23, 24, 25, 26, 27, 28, 29, 30, 31, 32, 33, 34, 35, 36, 37, 40, 47, 48, 49, 50, 51, 52, 53, 54], []⟩, ⟨[], [], [21, 22, 23, 24, 25, 26, 27, 28, 29, 30, 31, 32, 33, 34, 35, 36, 37, 38, 39, 47, 48, 49, 50, 51, 52, 53, 54], []⟩, ⟨[18, 17, 19], [], [21, 22, 23, 24, 25, 26, 27, 28, 29, 30, 31, 32, 33, 34, 35, 36, 37, 47, 48, 49, 50, 51, 52, 53, 54], []⟩, ⟨[20, 18, 17, 19], [], [21, 22, 23, 24, 25, 26, 27, 28, 29, 30, 31, 32, 33, 34, 35, 36, 37, 47, 48, 49, 50, 51, 52, 53, 54], []⟩, ⟨[21, 20, 18, 17, 19], [], [21, 22, 23, 24, 25, 26, 27, 28, 29, 30, 31, 32, 33, 34, 35, 36, 37, 47, 48, 49, 50, 51, 52, 53, 54], []⟩, ⟨[22, 21, 20, 18, 17, 19], [], [21, 22, 23, 24, 25, 26, 27, 28, 29, 30, 31, 32, 33, 34, 35, 36, 37, 47, 48, 49, 50, 51, 52, 53, 54], []⟩, ⟨[23, 22, 21, 20, 18, 17, 19], [], [21, 22, 23, 24, 25, 26, 27, 28, 29, 30, 31, 32, 33, 34, 35, 36, 37, 47, 48, 49, 50, 51, 52, 53, 54], []⟩, ⟨[24, 23, 22, 21, 20, 18, 17, 19], [], [21, 22, 23, 24, 25, 26, 27, 28, 29, 30, 31, 32, 33, 34, 35, 36, 37, 47, 48, 49, 50, 51, 52, 53, 54], []⟩, ⟨[], [], [21, 22, 23, 24, 25, 26, 27, 28, 29, 30, 31, 32, 33, 34, 35, 36, 37, 38, 39, 40, 41, 42, 43, 44, 45, 46, 49], []⟩, ⟨[26], [], [21, 22, 23, 24, 25, 26, 27, 28, 29, 30, 31, 32, 33, 34, 35, 36, 37, 38, 39, 40, 41, 42, 43, 44, 45, 46, 49], []⟩, ⟨[], [], [21, 22, 23, 24, 25, 26, 27, 28, 29, 30, 31, 32, 33, 34, 35, 36, 37, 38, 39, 40, 41, 42, 43, 44, 45, 46, 47, 48], []⟩, ⟨[27, 26, 28], [], [21, 22, 23, 24, 25, 26, 27, 28, 29, 30, 31, 32, 33, 34, 35, 36, 37, 38, 39, 40, 41, 42, 43, 44, 45, 46], []⟩, ⟨[29, 27, 26, 28], [], [21, 22, 23, 24, 25, 26, 27, 28, 29, 30, 31, 32, 33, 34, 35, 36, 37, 38, 39, 40, 41, 42, 43, 44, 45, 46], []⟩, ⟨[30, 29, 27, 26, 28], [], [21, 22, 23, 24, 25, 26, 27, 28, 29, 30, 31, 32, 33, 34, 35, 36, 37, 38, 39, 40, 41, 42, 43, 44, 45, 46], []⟩, ⟨[31, 30, 29, 27, 26, 28], [], [21, 22, 23, 24, 25, 26, 27, 28, 29, 30, 31, 32, 33, 34, 35, 36, 37, 38, 39, 40, 41, 42, 43, 44, 45, 46], []⟩, ⟨[32, 31, 30, 29, 27, 26, 28], [], [21, 22, 23, 24, 25, 26, 27, 28, 29, 30, 31, 32, 33, 34, 35, 36, 37, 38, 39, 40, 41, 42, 43, 44, 45, 46], []⟩, ⟨[7, 6, 5, 4, 3, 1, 0, 2, 16, 15, 14, 13, 12, 11, 9, 8, 10, 25, 24, 23, 22, 21, 20, 18, 17, 19, 33, 32, 31, 30, 29, 27, 26, 28], [55], [], []⟩, ⟨[34, 7, 6, 5, 4, 3, 1, 0, 2, 16, 15, 14, 13, 12, 11, 9, 8, 10, 25, 24, 23, 22, 21, 20, 18, 17, 19, 33, 32, 31, 30, 29, 27, 26, 28], [], [], []⟩])], [(100007, R_ZText.c100007r), (100011, R_ZText.c100011r), (11, R_ZText.c11r), (9, R_ZText.c9r), (216389, R_ZText.c216389r)], [], tab_eqs⟩
theorem R_ZText.eq (x_ : dens [(.st (.pair .bool (.sl (.int .i64))))]) : den R_ZText.G Go.Proofs.Tryd.f45 [(.st (.pair .bool (.sl (.int .i64))))] [.str] x_ = R_ZText x_ := by kernel_rfl
theorem R_ZText.p0 : PieceOk R_ZText.G (pieceAt (pieces R_ZText.G.cks (bodyOf Go.Proofs.Tryd.f45)) 0).1 (pieceAt (pieces R_ZText.G.cks (bodyOf Go.Proofs.Tryd.f45)) 0).2 :=
  join_ok (s := R_ZText.c216389r) (by kernel_rfl) (by kernel_rfl) (sums_of (sh := R_ZText.c216389s) (fun ρ x_ k_ => (nat_br nat_leaf nat_leaf)) (fun ρ x_ t k => (by kernel_rfl)) (fun x_ => by kernel_rfl))
theorem R_ZText.p1 : PieceOk R_ZText.G (pieceAt (pieces R_ZText.G.cks (bodyOf Go.Proofs.Tryd.f45)) 1).1 (pieceAt (pieces R_ZText.G.cks (bodyOf Go.Proofs.Tryd.f45)) 1).2 :=
  loop_ok (s := R_ZText.c100007r) (by kernel_rfl) (by kernel_rfl) (loops_of (sh := R_ZText.c100007s) (I := fun x_ s_ => (x_.1, x_.2.1, s_.1, s_.2, x_.2.2.2.2.1, x_.2.2.2.2.2.1, ())) (fun x_ => rfl) (fun ρ x_ s_ k_ => (nat_br (nat_bnd fun _ => (nat_bnd fun _ => (nat_bnd fun _ => (nat_bnd fun _ => nat_leaf)))) nat_leaf)) (fun ρ x_ t k => (by kernel_rfl)) (fun x_ s => by kernel_rfl))
theorem R_ZText.p2 : PieceOk R_ZText.G (pieceAt (pieces R_ZText.G.cks (bodyOf Go.Proofs.Tryd.f45)) 2).1 (pieceAt (pieces R_ZText.G.cks (bodyOf Go.Proofs.Tryd.f45)) 2).2 :=
  region_ok (s := R_ZText.c9r) (by kernel_rfl) (by kernel_rfl) (sums_of (sh := R_ZText.c9s) (fun ρ x_ k_ => (nat_bnd fun _ => (nat_bnd fun _ => (nat_bnd fun _ => (nat_bnd fun _ => nat_leaf))))) (fun ρ x_ t k => (by kernel_rfl)) (fun x_ => by kernel_rfl))
theorem R_ZText.p3 : PieceOk R_ZText.G (pieceAt (pieces R_ZText.G.cks (bodyOf Go.Proofs.Tryd.f45)) 3).1 (pieceAt (pieces R_ZText.G.cks (bodyOf Go.Proofs.Tryd.f45)) 3).2 :=
  loop_ok (s := R_ZText.c100011r) (by kernel_rfl) (by kernel_rfl) (loops_of (sh := R_ZText.c100011s) (I := fun x_ s_ => (x_.1, x_.2.1, x_.2.2.1, x_.2.2.2.1, x_.2.2.2.2.1, s_, x_.2.2.2.2.2.2.1, x_.2.2.2.2.2.2.2.1, ())) (fun x_ => rfl) (fun ρ x_ s_ k_ => (nat_bnd fun _ => (nat_br nat_leaf nat_leaf))) (fun ρ x_ t k => (by kernel_rfl)) (fun x_ s => by kernel_rfl))
theorem R_ZText.p4 : PieceOk R_ZText.G (pieceAt (pieces R_ZText.G.cks (bodyOf Go.Proofs.Tryd.f45)) 4).1 (pieceAt (pieces R_ZText.G.cks (bodyOf Go.Proofs.Tryd.f45)) 4).2 :=
  region_ok (s := R_ZText.c11r) (by kernel_rfl) (by kernel_rfl) (sums_of (sh := R_ZText.c11s) (fun ρ x_ k_ => (nat_br (nat_br (nat_bnd fun _ => nat_leaf) nat_leaf) nat_leaf)) (fun ρ x_ t k => (by kernel_rfl)) (fun x_ => by kernel_rfl))
theorem R_ZText.ok : CalleeOk Go.Proofs.Tryd.prog 45 R_ZText.ce := fn_ok (G := R_ZText.G) tab_ok mixed Go.Proofs.Tryd.func45 ⟨fns_nil, mfns_nil, tab_eqs_ok⟩ (m := 5) (by kernel_rfl) ⟨⟨⟨⟨⟨trivial, R_ZText.p0⟩, R_ZText.p1⟩, R_ZText.p2⟩, R_ZText.p3⟩, R_ZText.p4⟩ (by kernel_rfl) R_ZText.eq
def R_RText.c220486 {ρ : Type} (a_1 : (List ((Bool) × (List Int))) × (Int)) (last : Int) (i : Int) (k_ : Int → Option ρ) : Option ρ :=
  bnd (idx (Prod.fst a_1) i) fun y =>
  br (decide ((↑(List.length (Prod.snd y)) : Int) > (0 : Int)))
   (k_ i)
   (k_ last)
def R_RText.c220486s : Shape := ⟨[(0, rb32), (1, rb33), (2, rb44), (3, rb3), (4, rb3)], []⟩
def R_RText.c220486x0 : Shape := ⟨[(0, rb32), (1, rb33), (2, rb44), (3, rb3), (4, rb3)], []⟩
def R_RText.c220486r : Ck := Ck.of (T := Int) R_RText.c220486s (fun ρ x_ k_ => uP x_ fun a x_ => uP x_ fun a_1 x_ => uP x_ fun t2 x_ => uP x_ fun last x_ => uP x_ fun i x_ => R_RText.c220486 a_1 last i k_) (fun ρ x_ r_ k_ => uP x_ fun a x_ => uP x_ fun a_1 x_ => uP x_ fun t2 x_ => uP x_ fun last x_ => uP x_ fun i x_ => k_ 0 (Shape.inj R_RText.c220486x0 (a, a_1, t2, r_, i, ())))
def R_RText.c100003 {ρ : Type} (a_1 : (List ((Bool) × (List Int))) × (Int)) (last : Int) (i : Int) (k_ : ((Int) × (Int)) ⊕ ((Int) × (Int)) → Option ρ) : Option ρ :=
  br (decide (i < (8 : Int)))
   (bnd (W.R_RText.c220486 a_1 last i some) fun y =>
    k_ (.inl (y, (IntKind.wrap IntKind.i64 (i + (1 : Int))))))
   (k_ (.inr (last, i)))
def R_RText.c100003s : Shape := ⟨[(0, rb32), (1, rb33), (2, rb44), (3, rb3), (4, rb3)], []⟩
def R_RText.c100003x0 : Shape := ⟨[(0, rb32), (1, rb33), (2, rb44), (3, rb3), (4, rb3)], []⟩
def R_RText.c100003r : Ck := Ck.ofLoop (S := (Int) × (Int)) (T := (Int) × (Int)) R_RText.c100003s (fun x_ => uP x_ fun a x_ => uP x_ fun a_1 x_ => uP x_ fun t2 x_ => uP x_ fun last x_ => uP x_ fun i x_ => (last, i)) (fun ρ x_ s_ k_ => uP x_ fun a x_ => uP x_ fun a_1 x_ => uP x_ fun t2 x_ => uP x_ fun last x_ => uP x_ fun i x_ => R_RText.c100003 a_1 s_.1 s_.2 k_) (fun ρ x_ r_ k_ => uP x_ fun a x_ => uP x_ fun a_1 x_ => uP x_ fun t2 x_ => uP x_ fun last x_ => uP x_ fun i x_ => k_ 2 (Shape.inj R_RText.c100003x0 (a, a_1, t2, r_.1, r_.2, ())))
def R_RText.c100009 {ρ : Type} (a_1 : (List ((Bool) × (List Int))) × (Int)) (last : Int) (text : List UInt8) (i_1 : Int) (k_ : ((List UInt8) × (Int)) ⊕ ((List UInt8) × (Int)) → Option ρ) : Option ρ :=
  br (decide (i_1 ≤ last))
   (bnd (idx (Prod.fst a_1) i_1) fun y =>
    bnd (W.R_ZText y) fun y_1 =>
    bnd (okIf (decide (List.length (Array.toList (ByteArray.data (ByteArray.mk #[(44 : UInt8)]))) + List.length y_1 ≤ (9223372036854775807 : Nat)))) fun y_2 =>
    bnd (okIf (decide (List.length text + List.length (Array.toList (ByteArray.data (ByteArray.mk #[(44 : UInt8)])) ++ y_1) ≤ (9223372036854775807 : Nat)))) fun y_3 =>
    k_ (.inl ((text ++ (Array.toList (ByteArray.data (ByteArray.mk #[(44 : UInt8)])) ++ y_1)), (IntKind.wrap IntKind.i64 (i_1 + (1 : Int))))))
   (k_ (.inr (text, i_1)))
def R_RText.c100009s : Shape := ⟨[(0, rb32), (1, rb33), (2, rb44), (3, rb3), (4, rb3), (5, rb44), (6, rb3)], []⟩
def R_RText.c100009x0 : Shape := ⟨[(0, rb32), (1, rb33), (2, rb44), (3, rb3), (4, rb3), (5, rb44), (6, rb3)], []⟩
def R_RText.c100009r : Ck := Ck.ofLoop (S := (List UInt8) × (Int)) (T := (List UInt8) × (Int)) R_RText.c100009s (fun x_ => uP x_ fun a x_ => uP x_ fun a_1 x_ => uP x_ fun t2 x_ => uP x_ fun last x_ => uP x_ fun i x_ => uP x_ fun text x_ => uP x_ fun i_1 x_ => (text, i_1)) (fun ρ x_ s_ k_ => uP x_ fun a x_ => uP x_ fun a_1 x_ => uP x_ fun t2 x_ => uP x_ fun last x_ => uP x_ fun i x_ => uP x_ fun text x_ => uP x_ fun i_1 x_ => R_RText.c100009 a_1 last s_.1 s_.2 k_) (fun ρ x_ r_ k_ => uP x_ fun a x_ => uP x_ fun a_1 x_ => uP x_ fun t2 x_ => uP x_ fun last x_ => uP x_ fun i x_ => uP x_ fun text x_ => uP x_ fun i_1 x_ => k_ 4 (Shape.inj R_RText.c100009x0 (a, a_1, t2, last, i, r_.1, r_.2, ())))
def R_RText.c249157 {ρ : Type} (a_1 : (List ((Bool) × (List Int))) × (Int)) (text : List UInt8) (k_ : List UInt8 → Option ρ) : Option ρ :=
  br (decide (Prod.snd a_1 > (0 : Int)))
   (bnd (W.R_ZOf (Prod.snd a_1)) fun y =>
    bnd (W.R_ZText y) fun y_1 =>
    bnd (okIf (decide (List.length (Array.toList (ByteArray.data (ByteArray.mk #[(47 : UInt8)]))) + List.length y_1 ≤ (9223372036854775807 : Nat)))) fun y_2 =>
    bnd (okIf (decide (List.length text + List.length (Array.toList (ByteArray.data (ByteArray.mk #[(47 : UInt8)])) ++ y_1) ≤ (9223372036854775807 : Nat)))) fun y_3 =>
    k_ (text ++ (Array.toList (ByteArray.data (ByteArray.mk #[(47 : UInt8)])) ++ y_1)))
   (k_ text)
def R_RText.c249157s : Shape := ⟨[(0, rb32), (1, rb33), (2, rb44), (3, rb3), (4, rb3), (5, rb44), (6, rb3)], []⟩
def R_RText.c249157x0 : Shape := ⟨[(0, rb32), (1, rb33), (2, rb44), (3, rb3), (4, rb3), (5, rb44), (6, rb3)], []⟩
def R_RText.c249157r : Ck := Ck.of (T := List UInt8) R_RText.c249157s (fun ρ x_ k_ => uP x_ fun a x_ => uP x_ fun a_1 x_ => uP x_ fun t2 x_ => uP x_ fun last x_ => uP x_ fun i x_ => uP x_ fun text x_ => uP x_ fun i_1 x_ => R_RText.c249157 a_1 text k_) (fun ρ x_ r_ k_ => uP x_ fun a x_ => uP x_ fun a_1 x_ => uP x_ fun t2 x_ => uP x_ fun last x_ => uP x_ fun i x_ => uP x_ fun text x_ => uP x_ fun i_1 x_ => k_ 0 (Shape.inj R_RText.c249157x0 (a, a_1, t2, last, i, r_, i_1, ())))
def R_RText (a : (List ((Bool) × (List Int))) × (Int)) : Option (List UInt8) :=
  bnd (iter (fun s ↦ W.R_RText.c100003 a (Prod.fst s) (Prod.snd s) some) ((0 : Int), (0 : Int))) fun y =>
  bnd (idx (Prod.fst a) (0 : Int)) fun y_1 =>
  bnd (W.R_ZText y_1) fun y_2 =>
  bnd (iter (fun s ↦ W.R_RText.c100009 a (Prod.fst y) (Prod.fst s) (Prod.snd s) some) (y_2, (1 : Int))) fun y_3 =>
  bnd (W.R_RText.c249157 a (Prod.fst y_3) some) fun y_4 =>
  some y_4
def R_RText.ce : Go.Ql.Callee := ⟨[(.st (.pair (.ar 8 (.st (.pair .bool (.sl (.int .i64))))) (.int .i64)))], [.str], fun x_ => R_RText x_⟩
def R_RText.G : Env := ⟨47, tab, [(45, R_ZText.ce), (27, R_ZOf.ce)], [0, 1, 2, 3, 4, 5, 6, 8, 17, 25, 38], [8000001], [], [(249157, R_RText.c249157r), (100009, R_RText.c100009r), (100003, R_RText.c100003r), (220486, R_RText.c220486r)], [], tab_eqs⟩
theorem R_RText.eq (x_ : dens [(.st (.pair (.ar 8 (.st (.pair .bool (.sl (.int .i64))))) (.int .i64)))]) : den R_RText.G Go.Proofs.Tryd.f9 [(.st (.pair (.ar 8 (.st (.pair .bool (.sl (.int .i64))))) (.int .i64)))] [.str] x_ = R_RText x_ := by kernel_rfl
theorem R_RText.p0 : PieceOk R_RText.G (pieceAt (pieces R_RText.G.cks (bodyOf Go.Proofs.Tryd.f9)) 0).1 (pieceAt (pieces R_RText.G.cks (bodyOf Go.Proofs.Tryd.f9)) 0).2 :=
  loop_ok (s := R_RText.c100003r) (by kernel_rfl) (by kernel_rfl) (loops_of (sh := R_RText.c100003s) (I := fun x_ s_ => (x_.1, x_.2.1, x_.2.2.1, s_.1, s_.2, ())) (fun x_ => rfl) (fun ρ x_ s_ k_ => (nat_br (nat_bnd fun _ => nat_leaf) nat_leaf)) (fun ρ x_ t k => (by kernel_rfl)) (fun x_ s => by kernel_rfl))
theorem R_RText.p1 : PieceOk R_RText.G (pieceAt (pieces R_RText.G.cks (bodyOf Go.Proofs.Tryd.f9)) 1).1 (pieceAt (pieces R_RText.G.cks (bodyOf Go.Proofs.Tryd.f9)) 1).2 :=
  join_ok (s := R_RText.c220486r) (by kernel_rfl) (by kernel_rfl) (sums_of (sh := R_RText.c220486s) (fun ρ x_ k_ => (nat_bnd fun _ => (nat_br nat_leaf nat_leaf))) (fun ρ x_ t k => (by kernel_rfl)) (fun x_ => by kernel_rfl))
theorem R_RText.p2 : PieceOk R_RText.G (pieceAt (pieces R_RText.G.cks (bodyOf Go.Proofs.Tryd.f9)) 2).1 (pieceAt (pieces R_RText.G.cks (bodyOf Go.Proofs.Tryd.f9)) 2).2 :=
  loop_ok (s := R_RText.c100009r) (by kernel_rfl) (by kernel_rfl) (loops_of (sh := R_RText.c100009s) (I := fun x_ s_ => (x_.1, x_.2.1, x_.2.2.1, x_.2.2.2.1, x_.2.2.2.2.1, s_.1, s_.2, ())) (fun x_ => rfl) (fun ρ x_ s_ k_ => (nat_br (nat_bnd fun _ => (nat_bnd fun _ => (nat_bnd fun _ => (nat_bnd fun _ => nat_leaf)))) nat_leaf)) (fun ρ x_ t k => (by kernel_rfl)) (fun x_ s => by kernel_rfl))
theorem R_RText.p3 : PieceOk R_RText.G (pieceAt (pieces R_RText.G.cks (bodyOf Go.Proofs.Tryd.f9)) 3).1 (pieceAt (pieces R_RText.G.cks (bodyOf Go.Proofs.Tryd.f9)) 3).2 :=
  join_ok (s := R_RText.c249157r) (by kernel_rfl) (by kernel_rfl) (sums_of (sh := R_RText.c249157s) (fun ρ x_ k_ => (nat_br (nat_bnd fun _ => (nat_bnd fun _ => (nat_bnd fun _ => (nat_bnd fun _ => nat_leaf)))) nat_leaf)) (fun ρ x_ t k => (by kernel_rfl)) (fun x_ => by kernel_rfl))
theorem R_RText.ok : CalleeOk Go.Proofs.Tryd.prog 9 R_RText.ce := fn_ok (G := R_RText.G) tab_ok mixed Go.Proofs.Tryd.func9 ⟨(fns_cons R_ZText.ok (fns_cons R_ZOf.ok fns_nil)), mfns_nil, tab_eqs_ok⟩ (m := 4) (by kernel_rfl) ⟨⟨⟨⟨trivial, R_RText.p0⟩, R_RText.p1⟩, R_RText.p2⟩, R_RText.p3⟩ (by kernel_rfl) R_RText.eq
def ring_down__num.pre : Shape := ⟨[(0, rb21), (1, rb3)], [(2000700, rb26)]⟩
def ring_down__num.post : Shape := ⟨[], [(2000700, rb26)]⟩
def ring_down__num.c6 {ρ : Type} (i : Int) (t6 : Int) (t2000700 : List ((List ((Bool) × (List Int))) × (Int))) (k_ : List ((List ((Bool) × (List Int))) × (Int)) → Option ρ) : Option ρ :=
  bnd (okIf (decide ((0 : Ty.den (Ty.int IntKind.i64)) ≤ i) && decide (i < (↑(8 : Nat) : Int)))) fun y =>
  bnd (inR (List.length t2000700) (0 : Int)) fun y_1 =>
  bnd (idx t2000700 (0 : Int)) fun y_2 =>
  bnd (idx (Prod.fst y_2) i) fun y_3 =>
  bnd (W.whole_Int_Shift y_3 (IntKind.wrap IntKind.i64 ((0 : Int) - t6))) fun y_4 =>
  bnd (okIf (decide ((0 : Ty.den (Ty.int IntKind.i64)) ≤ i) && decide (i < (↑(8 : Nat) : Int)))) fun y_5 =>
  bnd (inR (List.length t2000700) (0 : Int)) fun y_6 =>
  bnd (idx t2000700 (0 : Int)) fun y_7 =>
  bnd (idx (Prod.fst y_7) i) fun y_8 =>
  k_ (List.set t2000700 (0 : Nat) (List.set (Prod.fst y_7) (Int.toNat i) (Prod.fst y_4), Prod.snd y_7))
def ring_down__num.c6s : Shape := ⟨[(0, rb21), (1, rb3), (4, rb3), (5, rb3), (6, rb3), (7, rb3)], [(2000700, rb26)]⟩
def ring_down__num.c6x0 : Shape := ⟨[(0, rb21), (1, rb3), (4, rb3), (5, rb3), (6, rb3), (7, rb3)], [(2000700, rb26)]⟩
def ring_down__num.c6r : Ck := Ck.of (T := List ((List ((Bool) × (List Int))) × (Int))) ring_down__num.c6s (fun ρ x_ k_ => uP x_ fun n x_ => uP x_ fun i x_ => uP x_ fun t5 x_ => uP x_ fun t6 x_ => uP x_ fun t7 x_ => uP x_ fun t2000700 x_ => ring_down__num.c6 i t6 t2000700 k_) (fun ρ x_ r_ k_ => uP x_ fun n x_ => uP x_ fun i x_ => uP x_ fun t5 x_ => uP x_ fun t6 x_ => uP x_ fun t7 x_ => uP x_ fun t2000700 x_ => k_ 0 (Shape.inj ring_down__num.c6x0 (n, i, t5, t6, t7, r_, ())))
def ring_down__num.c100004 {ρ : Type} (i : Int) (t5 : Int) (t2000700 : List ((List ((Bool) × (List Int))) × (Int))) (k_ : ((Int) × (List ((List ((Bool) × (List Int))) × (Int)))) ⊕ ((Int) × (List ((List ((Bool) × (List Int))) × (Int)))) → Option ρ) : Option ρ :=
  br (t5 != (0 : Int))
   (bnd (W.ring_down__num.c6 i (Max.max (-10000 : Int) (Min.min (10000 : Int) t5)) t2000700 some) fun y =>
    k_ (.inl ((IntKind.wrap IntKind.i64 (t5 - Max.max (-10000 : Int) (Min.min (10000 : Int) t5))), y)))
   (k_ (.inr (t5, t2000700)))
def ring_down__num.c100004s : Shape := ⟨[(0, rb21), (1, rb3), (4, rb3), (5, rb3), (7, rb3)], [(2000700, rb26)]⟩
def ring_down__num.c100004x0 : Shape := ⟨[(0, rb21), (1, rb3), (4, rb3), (5, rb3), (7, rb3)], [(2000700, rb26)]⟩
def ring_down__num.c100004r : Ck := Ck.ofLoop (S := (Int) × (List ((List ((Bool) × (List Int))) × (Int)))) (T := (Int) × (List ((List ((Bool) × (List Int))) × (Int)))) ring_down__num.c100004s (fun x_ => uP x_ fun n x_ => uP x_ fun i x_ => uP x_ fun t5 x_ => uP x_ fun t7 x_ => uP x_ fun t2000700 x_ => (t5, t2000700)) (fun ρ x_ s_ k_ => uP x_ fun n x_ => uP x_ fun i x_ => uP x_ fun t5 x_ => uP x_ fun t7 x_ => uP x_ fun t2000700 x_ => ring_down__num.c100004 i s_.1 s_.2 k_) (fun ρ x_ r_ k_ => uP x_ fun n x_ => uP x_ fun i x_ => uP x_ fun t5 x_ => uP x_ fun t7 x_ => uP x_ fun t2000700 x_ => k_ 4 (Shape.inj ring_down__num.c100004x0 (n, i, r_.1, t7, r_.2, ())))
def ring_down__num.c100001 {ρ : Type} (n : Int) (t7 : Int) (t2000700 : List ((List ((Bool) × (List Int))) × (Int))) (k_ : ((Int) × (List ((List ((Bool) × (List Int))) × (Int)))) ⊕ ((Int) × (List ((List ((Bool) × (List Int))) × (Int)))) → Option ρ) : Option ρ :=
  br (decide (t7 < (8 : Int)))
   (bnd (iter (fun s ↦ W.ring_down__num.c100004 t7 (Prod.fst s) (Prod.snd s) some) (n, t2000700)) fun y =>
    k_ (.inl ((IntKind.wrap IntKind.i64 (t7 + (1 : Int))), (Prod.snd y))))
   (k_ (.inr (t7, t2000700)))
def ring_down__num.c100001s : Shape := ⟨[(0, rb21), (1, rb3), (7, rb3)], [(2000700, rb26)]⟩
def ring_down__num.c100001x0 : Shape := ⟨[(0, rb21), (1, rb3), (7, rb3)], [(2000700, rb26)]⟩
def ring_down__num.c100001r : Ck := Ck.ofLoop (S := (Int) × (List ((List ((Bool) × (List Int))) × (Int)))) (T := (Int) × (List ((List ((Bool) × (List Int))) × (Int)))) ring_down__num.c100001s (fun x_ => uP x_ fun n x_ => uP x_ fun t7 x_ => uP x_ fun t2000700 x_ => (t7, t2000700)) (fun ρ x_ s_ k_ => uP x_ fun n x_ => uP x_ fun t7 x_ => uP x_ fun t2000700 x_ => ring_down__num.c100001 n s_.1 s_.2 k_) (fun ρ x_ r_ k_ => uP x_ fun n x_ => uP x_ fun t7 x_ => uP x_ fun t2000700 x_ => k_ 2 (Shape.inj ring_down__num.c100001x0 (n, r_.1, r_.2, ())))
def ring_down__num (n : Int) (t2000700 : List ((List ((Bool) × (List Int))) × (Int))) : Option ((List ((List ((Bool) × (List Int))) × (Int))) × Unit) :=
  bnd (iter (fun s ↦ W.ring_down__num.c100001 n (Prod.fst s) (Prod.snd s) some) ((0 : Int), t2000700)) fun y =>
  some (Prod.snd y, ())
def ring_down__num.mc : MCallee := ⟨46, ring_down__num.pre, ring_down__num.post, fun x_ => ring_down__num x_.1 x_.2.1⟩
def ring_down__num.G : Env := ⟨35, tab, [(73, whole_Int_Shift.ce)], [0, 1, 4, 5, 6, 7, 8, 12], [2000700], [(6, [⟨[], [], [18, 19, 20, 21, 22, 23, 24, 25, 26, 16, 27, 28], []⟩, ⟨[], [], [17, 19, 20, 21, 22, 23, 24, 25, 26, 16, 27, 28, 29], []⟩, ⟨[], [], [17, 18, 20, 24, 25, 29], []⟩, ⟨[], [], [17, 18, 19, 21, 24, 25, 29], []⟩, ⟨[2], [], [17, 18, 20, 24, 25, 29], []⟩, ⟨[4, 2, 3], [], [17, 18, 24, 25, 29], []⟩, ⟨[5, 4, 2, 3], [], [17, 18, 24, 25, 29], []⟩, ⟨[], [], [17, 18, 19, 20, 21, 22, 23, 29], []⟩, ⟨[7], [], [17, 18, 19, 20, 21, 22, 23, 29], []⟩, ⟨[6, 5, 4, 2, 3, 8, 7], [], [17, 18, 29], []⟩, ⟨[9, 6, 5, 4, 2, 3, 8, 7], [], [17, 18, 29], []⟩, ⟨[10, 9, 6, 5, 4, 2, 3, 8, 7], [], [17, 18, 28, 29], []⟩, ⟨[10, 9, 6, 5, 4, 2, 3, 8, 7], [], [17, 18, 27, 29, 30], [2000700]⟩, ⟨[0], [], [18, 19, 20, 21, 22, 23, 24, 25, 26, 16, 27, 28], []⟩, ⟨[13, 0, 1, 2, 3, 4, 5, 6, 7, 8, 9, 10, 11], [], [28], []⟩, ⟨[14, 13, 0, 1, 2, 3, 4, 5, 6, 7, 8, 9, 10, 11], [2000700], [28], []⟩])], [(100001, ring_down__num.c100001r), (100004, ring_down__num.c100004r), (6, ring_down__num.c6r)], [], tab_eqs⟩
theorem ring_down__num.eq (x_ : densU ring_down__num.mc.pre.tys) : denM ring_down__num.G Go.Proofs.Tryd.f46 ring_down__num.mc.pre ring_down__num.mc.post x_ = ring_down__num.mc.F x_ := by kernel_rfl
theorem ring_down__num.p0 : PieceOk ring_down__num.G (pieceAt (pieces ring_down__num.G.cks (bodyOf Go.Proofs.Tryd.f46)) 0).1 (pieceAt (pieces ring_down__num.G.cks (bodyOf Go.Proofs.Tryd.f46)) 0).2 :=
  loop_ok (s := ring_down__num.c100001r) (by kernel_rfl) (by kernel_rfl) (loops_of (sh := ring_down__num.c100001s) (I := fun x_ s_ => (x_.1, s_.1, s_.2, ())) (fun x_ => rfl) (fun ρ x_ s_ k_ => (nat_br (nat_bnd fun _ => nat_leaf) nat_leaf)) (fun ρ x_ t k => (by kernel_rfl)) (fun x_ s => by kernel_rfl))
theorem ring_down__num.p1 : PieceOk ring_down__num.G (pieceAt (pieces ring_down__num.G.cks (bodyOf Go.Proofs.Tryd.f46)) 1).1 (pieceAt (pieces ring_down__num.G.cks (bodyOf Go.Proofs.Tryd.f46)) 1).2 :=
  loop_ok (s := ring_down__num.c100004r) (by kernel_rfl) (by kernel_rfl) (loops_of (sh := ring_down__num.c100004s) (I := fun x_ s_ => (x_.1, x_.2.1, s_.1, x_.2.2.2.1, s_.2, ())) (fun x_ => rfl) (fun ρ x_ s_ k_ => (nat_br (nat_bnd fun _ => nat_leaf) nat_leaf)) (fun ρ x_ t k => (by kernel_rfl)) (fun x_ s => by kernel_rfl))
theorem ring_down__num.p2 : PieceOk ring_down__num.G (pieceAt (pieces ring_down__num.G.cks (bodyOf Go.Proofs.Tryd.f46)) 2).1 (pieceAt (pieces ring_down__num.G.cks (bodyOf Go.Proofs.Tryd.f46)) 2).2 :=
  region_ok (s := ring_down__num.c6r) (by kernel_rfl) (by kernel_rfl) (sums_of (sh := ring_down__num.c6s) (fun ρ x_ k_ => (nat_bnd fun _ => (nat_bnd fun _ => (nat_bnd fun _ => (nat_bnd fun _ => (nat_bnd fun _ => (nat_bnd fun _ => (nat_bnd fun _ => (nat_bnd fun _ => (nat_bnd fun _ => nat_leaf)))))))))) (fun ρ x_ t k => (by kernel_rfl)) (fun x_ => by kernel_rfl))
theorem ring_down__num.ok : MOk Go.Proofs.Tryd.prog 46 ring_down__num.mc := fnm_ok (G := ring_down__num.G) tab_ok mixed Go.Proofs.Tryd.func46 ⟨(fns_cons whole_Int_Shift.ok fns_nil), mfns_nil, tab_eqs_ok⟩ (m := 3) (by kernel_rfl) ⟨⟨⟨trivial, ring_down__num.p0⟩, ring_down__num.p1⟩, ring_down__num.p2⟩ (by kernel_rfl) ring_down__num.eq
def ring_Num_Add.c204108 {ρ : Type} (a_1 : List ((List ((Bool) × (List Int))) × (Int))) (b_1 : List ((List ((Bool) × (List Int))) × (Int))) (k_ : (List ((List ((Bool) × (List Int))) × (Int))) × (List ((List ((Bool) × (List Int))) × (Int))) → Option ρ) : Option ρ :=
  bnd (inR (List.length a_1) (0 : Int)) fun y =>
  bnd (idx a_1 (0 : Int)) fun y_1 =>
  bnd (inR (List.length b_1) (0 : Int)) fun y_2 =>
  bnd (idx b_1 (0 : Int)) fun y_3 =>
  br (decide (Prod.snd y_1 < Prod.snd y_3))
   (bnd (inR (List.length a_1) (0 : Int)) fun y_4 =>
    bnd (inR (List.length a_1) (0 : Int)) fun y_5 =>
    bnd (idx a_1 (0 : Int)) fun y_6 =>
    bnd (inR (List.length b_1) (0 : Int)) fun y_7 =>
    bnd (idx b_1 (0 : Int)) fun y_8 =>
    bnd (W.ring_down__num (IntKind.wrap IntKind.i64 (Prod.snd y_6 - Prod.snd y_8)) a_1) fun y_9 =>
    bnd (inR (List.length b_1) (0 : Int)) fun y_10 =>
    bnd (idx b_1 (0 : Int)) fun y_11 =>
    bnd (inR (List.length (Prod.fst y_9)) (0 : Int)) fun y_12 =>
    bnd (idx (Prod.fst y_9) (0 : Int)) fun y_13 =>
    k_ ((List.set (Prod.fst y_9) (0 : Nat) (Prod.fst y_13, Prod.snd y_11)), b_1))
   (bnd (inR (List.length b_1) (0 : Int)) fun y_14 =>
    bnd (idx b_1 (0 : Int)) fun y_15 =>
    bnd (inR (List.length a_1) (0 : Int)) fun y_16 =>
    bnd (idx a_1 (0 : Int)) fun y_17 =>
    br (decide (Prod.snd y_15 < Prod.snd y_17))
     (bnd (inR (List.length b_1) (0 : Int)) fun y_18 =>
      bnd (inR (List.length b_1) (0 : Int)) fun y_19 =>
      bnd (idx b_1 (0 : Int)) fun y_20 =>
      bnd (inR (List.length a_1) (0 : Int)) fun y_21 =>
      bnd (idx a_1 (0 : Int)) fun y_22 =>
      bnd (W.ring_down__num (IntKind.wrap IntKind.i64 (Prod.snd y_20 - Prod.snd y_22)) b_1) fun y_23 =>
      k_ (a_1, (Prod.fst y_23)))
     (k_ (a_1, b_1)))
def ring_Num_Add.c204108s : Shape := ⟨[(0, rb47), (1, rb47), (2, rb24), (3, rb41), (4, rb25)], [(2, rb26), (3, rb26), (4, rb26)]⟩
def ring_Num_Add.c204108x0 : Shape := ⟨[(0, rb47), (1, rb47), (2, rb24), (3, rb41), (4, rb25)], [(2, rb26), (3, rb26), (4, rb26)]⟩
def ring_Num_Add.c204108r : Ck := Ck.of (T := (List ((List ((Bool) × (List Int))) × (Int))) × (List ((List ((Bool) × (List Int))) × (Int)))) ring_Num_Add.c204108s (fun ρ x_ k_ => uP x_ fun a x_ => uP x_ fun b x_ => uP x_ fun a_1 x_ => uP x_ fun b_1 x_ => uP x_ fun t4 x_ => ring_Num_Add.c204108 a_1 b_1 k_) (fun ρ x_ r_ k_ => uP x_ fun a x_ => uP x_ fun b x_ => uP x_ fun a_1 x_ => uP x_ fun b_1 x_ => uP x_ fun t4 x_ => k_ 0 (Shape.inj ring_Num_Add.c204108x0 (a, b, r_.1, r_.2, t4, ())))
def ring_Num_Add.c9 {ρ : Type} (i : Int) (a_1 : List ((List ((Bool) × (List Int))) × (Int))) (b_1 : List ((List ((Bool) × (List Int))) × (Int))) (k_ : List ((List ((Bool) × (List Int))) × (Int)) → Option ρ) : Option ρ :=
  bnd (inR (List.length a_1) (0 : Int)) fun y =>
  bnd (okIf (decide ((0 : Ty.den (Ty.int IntKind.i64)) ≤ i) && decide (i < (↑(8 : Nat) : Int)))) fun y_1 =>
  bnd (idx a_1 (0 : Int)) fun y_2 =>
  bnd (idx (Prod.fst y_2) i) fun y_3 =>
  bnd (inR (List.length b_1) (0 : Int)) fun y_4 =>
  bnd (okIf (decide ((0 : Ty.den (Ty.int IntKind.i64)) ≤ i) && decide (i < (↑(8 : Nat) : Int)))) fun y_5 =>
  bnd (idx b_1 (0 : Int)) fun y_6 =>
  bnd (idx (Prod.fst y_6) i) fun y_7 =>
  bnd (W.whole_Int_Add y_3 y_7) fun y_8 =>
  bnd (inR (List.length a_1) (0 : Int)) fun y_9 =>
  bnd (okIf (decide ((0 : Ty.den (Ty.int IntKind.i64)) ≤ i) && decide (i < (↑(8 : Nat) : Int)))) fun y_10 =>
  bnd (idx a_1 (0 : Int)) fun y_11 =>
  bnd (idx (Prod.fst y_11) i) fun y_12 =>
  k_ (List.set a_1 (0 : Nat) (List.set (Prod.fst y_11) (Int.toNat i) y_8, Prod.snd y_11))
def ring_Num_Add.c9s : Shape := ⟨[(0, rb47), (1, rb47), (2, rb24), (3, rb41), (4, rb25), (5, rb3), (35, rb3)], [(2, rb26), (3, rb26), (4, rb26)]⟩
def ring_Num_Add.c9x0 : Shape := ⟨[(0, rb47), (1, rb47), (2, rb24), (3, rb41), (4, rb25), (5, rb3), (35, rb3)], [(2, rb26), (3, rb26), (4, rb26)]⟩
def ring_Num_Add.c9r : Ck := Ck.of (T := List ((List ((Bool) × (List Int))) × (Int))) ring_Num_Add.c9s (fun ρ x_ k_ => uP x_ fun a x_ => uP x_ fun b x_ => uP x_ fun i x_ => uP x_ fun t35 x_ => uP x_ fun a_1 x_ => uP x_ fun b_1 x_ => uP x_ fun t4 x_ => ring_Num_Add.c9 i a_1 b_1 k_) (fun ρ x_ r_ k_ => uP x_ fun a x_ => uP x_ fun b x_ => uP x_ fun i x_ => uP x_ fun t35 x_ => uP x_ fun a_1 x_ => uP x_ fun b_1 x_ => uP x_ fun t4 x_ => k_ 0 (Shape.inj ring_Num_Add.c9x0 (a, b, i, t35, r_, b_1, t4, ())))
def ring_Num_Add.c100007 {ρ : Type} (t35 : Int) (a_1 : List ((List ((Bool) × (List Int))) × (Int))) (b_1 : List ((List ((Bool) × (List Int))) × (Int))) (k_ : ((Int) × (List ((List ((Bool) × (List Int))) × (Int)))) ⊕ ((Int) × (List ((List ((Bool) × (List Int))) × (Int)))) → Option ρ) : Option ρ :=
  br (decide (t35 < (8 : Int)))
   (bnd (W.ring_Num_Add.c9 t35 a_1 b_1 some) fun y =>
    k_ (.inl ((IntKind.wrap IntKind.i64 (t35 + (1 : Int))), y)))
   (k_ (.inr (t35, a_1)))
def ring_Num_Add.c100007s : Shape := ⟨[(0, rb47), (1, rb47), (2, rb24), (3, rb41), (4, rb25), (35, rb3)], [(2, rb26), (3, rb26), (4, rb26)]⟩
def ring_Num_Add.c100007x0 : Shape := ⟨[(0, rb47), (1, rb47), (2, rb24), (3, rb41), (4, rb25), (35, rb3)], [(2, rb26), (3, rb26), (4, rb26)]⟩
def ring_Num_Add.c100007r : Ck := Ck.ofLoop (S := (Int) × (List ((List ((Bool) × (List Int))) × (Int)))) (T := (Int) × (List ((List ((Bool) × (List Int))) × (Int)))) ring_Num_Add.c100007s (fun x_ => uP x_ fun a x_ => uP x_ fun b x_ => uP x_ fun t35 x_ => uP x_ fun a_1 x_ => uP x_ fun b_1 x_ => uP x_ fun t4 x_ => (t35, a_1)) (fun ρ x_ s_ k_ => uP x_ fun a x_ => uP x_ fun b x_ => uP x_ fun t35 x_ => uP x_ fun a_1 x_ => uP x_ fun b_1 x_ => uP x_ fun t4 x_ => ring_Num_Add.c100007 s_.1 s_.2 b_1 k_) (fun ρ x_ r_ k_ => uP x_ fun a x_ => uP x_ fun b x_ => uP x_ fun t35 x_ => uP x_ fun a_1 x_ => uP x_ fun b_1 x_ => uP x_ fun t4 x_ => k_ 3 (Shape.inj ring_Num_Add.c100007x0 (a, b, r_.1, r_.2, b_1, t4, ())))
def ring_Num_Add (a : (List ((Bool) × (List Int))) × (Int)) (b : (List ((Bool) × (List Int))) × (Int)) : Option ((List ((Bool) × (List Int))) × (Int)) :=
  bnd (W.ring_Num_Add.c204108 [a] [b] some) fun y =>
  bnd (iter (fun s ↦ W.ring_Num_Add.c100007 (Prod.fst s) (Prod.snd s) (Prod.snd y) some) ((0 : Int), Prod.fst y)) fun y_1 =>
  bnd (inR (List.length (Prod.snd y_1)) (0 : Int)) fun y_2 =>
  bnd (idx (Prod.snd y_1) (0 : Int)) fun y_3 =>
  bnd (inR (List.length (Prod.snd y_1)) (0 : Int)) fun y_4 =>
  bnd (idx (Prod.snd y_1) (0 : Int)) fun y_5 =>
  bnd (W.ring_least (Prod.fst y_3) (Prod.snd y_5)) fun y_6 =>
  some y_6
def ring_Num_Add.ce : Go.Ql.Callee := ⟨[(.st (.pair (.ar 8 (.st (.pair .bool (.sl (.int .u32))))) (.int .i64))), (.st (.pair (.ar 8 (.st (.pair .bool (.sl (.int .u32))))) (.int .i64)))], [(.st (.pair (.ar 8 (.st (.pair .bool (.sl (.int .u32))))) (.int .i64)))], fun x_ => ring_Num_Add x_.1 x_.2⟩
def ring_Num_Add.G : Env := ⟨56, tab, [(35, whole_Int_Add.ce), (36, ring_least.ce)], [0, 1, 2, 3, 4, 5, 6, 22, 35, 36], [2, 3, 4], [(9, [⟨[], [], [39, 40, 41, 42, 43, 44, 45, 46, 47, 48], []⟩, ⟨[], [], [38, 40, 43, 44, 45, 46, 48], []⟩, ⟨[], [], [38, 39, 43, 44, 45, 46, 48], []⟩, ⟨[2, 1], [], [38, 43, 44, 45, 46, 48], []⟩, ⟨[3, 2, 1], [], [38, 43, 44, 45, 46, 48], []⟩, ⟨[], [], [38, 39, 40, 41, 42, 44, 48], []⟩, ⟨[], [], [38, 39, 40, 41, 42, 43, 48], []⟩, ⟨[6, 5], [], [38, 39, 40, 41, 42, 48], []⟩, ⟨[7, 6, 5], [], [38, 39, 40, 41, 42, 48], []⟩, ⟨[4, 3, 2, 1, 8, 7, 6, 5], [], [38, 48], []⟩, ⟨[], [], [38, 39, 40, 41, 42, 43, 44, 45, 46, 47], []⟩, ⟨[10, 0, 1, 2, 3, 4, 5, 6, 7, 8, 9], [], [], []⟩, ⟨[11, 10, 0, 1, 2, 3, 4, 5, 6, 7, 8, 9], [2], [], []⟩])], [(100007, ring_Num_Add.c100007r), (9, ring_Num_Add.c9r), (204108, ring_Num_Add.c204108r)], [(46, ring_down__num.mc)], tab_eqs⟩
theorem ring_Num_Add.eq (x_ : dens [(.st (.pair (.ar 8 (.st (.pair .bool (.sl (.int .u32))))) (.int .i64))), (.st (.pair (.ar 8 (.st (.pair .bool (.sl (.int .u32))))) (.int .i64)))]) : den ring_Num_Add.G Go.Proofs.Tryd.f10 [(.st (.pair (.ar 8 (.st (.pair .bool (.sl (.int .u32))))) (.int .i64))), (.st (.pair (.ar 8 (.st (.pair .bool (.sl (.int .u32))))) (.int .i64)))] [(.st (.pair (.ar 8 (.st (.pair .bool (.sl (.int .u32))))) (.int .i64)))] x_ = ring_Num_Add x_.1 x_.2 := by kernel_rfl
theorem ring_Num_Add.p0 : PieceOk ring_Num_Add.G (pieceAt (pieces ring_Num_Add.G.cks (bodyOf Go.Proofs.Tryd.f10)) 0).1 (pieceAt (pieces ring_Num_Add.G.cks (bodyOf Go.Proofs.Tryd.f10)) 0).2 :=
  join_ok (s := ring_Num_Add.c204108r) (by kernel_rfl) (by kernel_rfl) (sums_of (sh := ring_Num_Add.c204108s) (fun ρ x_ k_ => (nat_bnd fun _ => (nat_bnd fun _ => (nat_bnd fun _ => (nat_bnd fun _ => (nat_br (nat_bnd fun _ => (nat_bnd fun _ => (nat_bnd fun _ => (nat_bnd fun _ => (nat_bnd fun _ => (nat_bnd fun _ => (nat_bnd fun _ => (nat_bnd fun _ => (nat_bnd fun _ => (nat_bnd fun _ => nat_leaf)))))))))) (nat_bnd fun _ => (nat_bnd fun _ => (nat_bnd fun _ => (nat_bnd fun _ => (nat_br (nat_bnd fun _ => (nat_bnd fun _ => (nat_bnd fun _ => (nat_bnd fun _ => (nat_bnd fun _ => (nat_bnd fun _ => nat_leaf)))))) nat_leaf))))))))))) (fun ρ x_ t k => (by kernel_rfl)) (fun x_ => by kernel_rfl))
theorem ring_Num_Add.p1 : PieceOk ring_Num_Add.G (pieceAt (pieces ring_Num_Add.G.cks (bodyOf Go.Proofs.Tryd.f10)) 1).1 (pieceAt (pieces ring_Num_Add.G.cks (bodyOf Go.Proofs.Tryd.f10)) 1).2 :=
  loop_ok (s := ring_Num_Add.c100007r) (by kernel_rfl) (by kernel_rfl) (loops_of (sh := ring_Num_Add.c100007s) (I := fun x_ s_ => (x_.1, x_.2.1, s_.1, s_.2, x_.2.2.2.2.1, x_.2.2.2.2.2.1, ())) (fun x_ => rfl) (fun ρ x_ s_ k_ => (nat_br (nat_bnd fun _ => nat_leaf) nat_leaf)) (fun ρ x_ t k => (by kernel_rfl)) (fun x_ s => by kernel_rfl))
theorem ring_Num_Add.p2 : PieceOk ring_Num_Add.G (pieceAt (pieces ring_Num_Add.G.cks (bodyOf Go.Proofs.Tryd.f10)) 2).1 (pieceAt (pieces ring_Num_Add.G.cks (bodyOf Go.Proofs.Tryd.f10)) 2).2 :=
  region_ok (s := ring_Num_Add.c9r) (by kernel_rfl) (by kernel_rfl) (sums_of (sh := ring_Num_Add.c9s) (fun ρ x_ k_ => (nat_bnd fun _ => (nat_bnd fun _ => (nat_bnd fun _ => (nat_bnd fun _ => (nat_bnd fun _ => (nat_bnd fun _ => (nat_bnd fun _ => (nat_bnd fun _ => (nat_bnd fun _ => (nat_bnd fun _ => (nat_bnd fun _ => (nat_bnd fun _ => (nat_bnd fun _ => nat_leaf)))))))))))))) (fun ρ x_ t k => (by kernel_rfl)) (fun x_ => by kernel_rfl))
theorem ring_Num_Add.ok : CalleeOk Go.Proofs.Tryd.prog 10 ring_Num_Add.ce := fn_ok (G := ring_Num_Add.G) tab_ok mixed Go.Proofs.Tryd.func10 ⟨(fns_cons whole_Int_Add.ok (fns_cons ring_least.ok fns_nil)), (mfns_cons ring_down__num.ok mfns_nil), tab_eqs_ok⟩ (m := 3) (by kernel_rfl) ⟨⟨⟨trivial, ring_Num_Add.p0⟩, ring_Num_Add.p1⟩, ring_Num_Add.p2⟩ (by kernel_rfl) ring_Num_Add.eq
abbrev rb53 : SD := .one (.ref 7 0)
def ring_Num_Turn.c224581 {ρ : Type} (t1 : Int) (i : Int) (x0 : Bool) (x1 : List (Int)) (k_ : (Bool) × (List Int) → Option ρ) : Option ρ :=
  br (ibits BinOp.and IntKind.i64 (IntKind.wrap IntKind.i64 (i + t1)) (8 : Int) != (0 : Int))
   (bnd (W.whole_Int_Neg (x0, x1)) fun y =>
    k_ ((Prod.fst y), (Prod.snd y)))
   (k_ (x0, x1))
def ring_Num_Turn.c224581s : Shape := ⟨[(0, rb47), (1, rb3), (2, rb48), (4, rb25), (5, rb35), (6, rb3), (7, rb53), (14, rb23), (15, rb3)], [(4, rb26), (5, rb26), (7, rb4)]⟩
def ring_Num_Turn.c224581x0 : Shape := ⟨[(0, rb47), (1, rb3), (2, rb48), (4, rb25), (5, rb35), (6, rb3), (7, rb53), (14, rb23), (15, rb3)], [(4, rb26), (5, rb26), (7, rb4)]⟩
def ring_Num_Turn.c224581r : Ck := Ck.of (T := (Bool) × (List Int)) ring_Num_Turn.c224581s (fun ρ x_ k_ => uP x_ fun a x_ => uP x_ fun t1 x_ => uP x_ fun a_1 x_ => uP x_ fun i x_ => uP x_ fun t14 x_ => uP x_ fun t15 x_ => uP x_ fun t4 x_ => uP x_ fun out x_ => uP x_ fun x0 x_ => uP x_ fun x1 x_ => ring_Num_Turn.c224581 t1 i x0 x1 k_) (fun ρ x_ r_ k_ => uP x_ fun a x_ => uP x_ fun t1 x_ => uP x_ fun a_1 x_ => uP x_ fun i x_ => uP x_ fun t14 x_ => uP x_ fun t15 x_ => uP x_ fun t4 x_ => uP x_ fun out x_ => uP x_ fun x0 x_ => uP x_ fun x1 x_ => k_ 0 (Shape.inj ring_Num_Turn.c224581x0 (a, t1, a_1, i, t14, t15, t4, out, r_.1, r_.2, ())))
def ring_Num_Turn.c100004 {ρ : Type} (t1 : Int) (t14 : List ((Bool) × (List Int))) (t15 : Int) (out : List ((List ((Bool) × (List Int))) × (Int))) (k_ : ((Int) × (List ((List ((Bool) × (List Int))) × (Int)))) ⊕ ((Int) × (List ((List ((Bool) × (List Int))) × (Int)))) → Option ρ) : Option ρ :=
  br (decide (t15 < (8 : Int)))
   (bnd (idx t14 t15) fun y =>
    bnd (W.ring_Num_Turn.c224581 t1 t15 (Prod.fst y) (Prod.snd y) some) fun y_1 =>
    bnd (inR (List.length out) (0 : Int)) fun y_2 =>
    bnd (okIf (decide ((0 : Ty.den (Ty.int IntKind.i64)) ≤ ibits BinOp.and IntKind.i64 (IntKind.wrap IntKind.i64 (t15 + t1)) (7 : Int)) && decide (ibits BinOp.and IntKind.i64 (IntKind.wrap IntKind.i64 (t15 + t1)) (7 : Int) < (↑(8 : Nat) : Int)))) fun y_3 =>
    bnd (idx out (0 : Int)) fun y_4 =>
    bnd (idx (Prod.fst y_4) (ibits BinOp.and IntKind.i64 (IntKind.wrap IntKind.i64 (t15 + t1)) (7 : Int))) fun y_5 =>
    k_ (.inl ((IntKind.wrap IntKind.i64 (t15 + (1 : Int))), (List.set out (0 : Nat) (List.set (Prod.fst y_4) (Int.toNat (ibits BinOp.and IntKind.i64 (IntKind.wrap IntKind.i64 (t15 + t1)) (7 : Int))) (Prod.fst y_1, Prod.snd y_1), Prod.snd y_4)))))
   (k_ (.inr (t15, out)))
def ring_Num_Turn.c100004s : Shape := ⟨[(0, rb47), (1, rb3), (2, rb48), (4, rb25), (5, rb35), (14, rb23), (15, rb3)], [(4, rb26), (5, rb26)]⟩
def ring_Num_Turn.c100004x0 : Shape := ⟨[(0, rb47), (1, rb3), (2, rb48), (4, rb25), (5, rb35), (14, rb23), (15, rb3)], [(4, rb26), (5, rb26)]⟩
def ring_Num_Turn.c100004r : Ck := Ck.ofLoop (S := (Int) × (List ((List ((Bool) × (List Int))) × (Int)))) (T := (Int) × (List ((List ((Bool) × (List Int))) × (Int)))) ring_Num_Turn.c100004s (fun x_ => uP x_ fun a x_ => uP x_ fun t1 x_ => uP x_ fun a_1 x_ => uP x_ fun t14 x_ => uP x_ fun t15 x_ => uP x_ fun t4 x_ => uP x_ fun out x_ => (t15, out)) (fun ρ x_ s_ k_ => uP x_ fun a x_ => uP x_ fun t1 x_ => uP x_ fun a_1 x_ => uP x_ fun t14 x_ => uP x_ fun t15 x_ => uP x_ fun t4 x_ => uP x_ fun out x_ => ring_Num_Turn.c100004 t1 t14 s_.1 s_.2 k_) (fun ρ x_ r_ k_ => uP x_ fun a x_ => uP x_ fun t1 x_ => uP x_ fun a_1 x_ => uP x_ fun t14 x_ => uP x_ fun t15 x_ => uP x_ fun t4 x_ => uP x_ fun out x_ => k_ 2 (Shape.inj ring_Num_Turn.c100004x0 (a, t1, a_1, t14, r_.1, t4, r_.2, ())))
def ring_Num_Turn (a : (List ((Bool) × (List Int))) × (Int)) (t1 : Int) : Option ((List ((Bool) × (List Int))) × (Int)) :=
  bnd (iter (fun s ↦ W.ring_Num_Turn.c100004 (ibits BinOp.and IntKind.i64 t1 (15 : Int)) (Prod.fst a) (Prod.fst s) (Prod.snd s) some) ((0 : Int), [(List.replicate (8 : Nat) (false, []), Prod.snd a)])) fun y =>
  bnd (idx (Prod.snd y) (0 : Int)) fun y_1 =>
  some y_1
def ring_Num_Turn.ce : Go.Ql.Callee := ⟨[(.st (.pair (.ar 8 (.st (.pair .bool (.sl (.int .u32))))) (.int .i64))), (.int .i64)], [(.st (.pair (.ar 8 (.st (.pair .bool (.sl (.int .u32))))) (.int .i64)))], fun x_ => ring_Num_Turn x_.1 x_.2⟩
def ring_Num_Turn.G : Env := ⟨35, tab, [(34, whole_Int_Neg.ce)], [0, 1, 2, 4, 5, 6, 7, 14, 15, 16, 23], [4, 5, 12, 8000002], [], [(100004, ring_Num_Turn.c100004r), (224581, ring_Num_Turn.c224581r)], [], tab_eqs⟩
theorem ring_Num_Turn.eq (x_ : dens [(.st (.pair (.ar 8 (.st (.pair .bool (.sl (.int .u32))))) (.int .i64))), (.int .i64)]) : den ring_Num_Turn.G Go.Proofs.Tryd.f29 [(.st (.pair (.ar 8 (.st (.pair .bool (.sl (.int .u32))))) (.int .i64))), (.int .i64)] [(.st (.pair (.ar 8 (.st (.pair .bool (.sl (.int .u32))))) (.int .i64)))] x_ = ring_Num_Turn x_.1 x_.2 := by kernel_rfl
theorem ring_Num_Turn.p0 : PieceOk ring_Num_Turn.G (pieceAt (pieces ring_Num_Turn.G.cks (bodyOf Go.Proofs.Tryd.f29)) 0).1 (pieceAt (pieces ring_Num_Turn.G.cks (bodyOf Go.Proofs.Tryd.f29)) 0).2 :=
  loop_ok (s := ring_Num_Turn.c100004r) (by kernel_rfl) (by kernel_rfl) (loops_of (sh := ring_Num_Turn.c100004s) (I := fun x_ s_ => (x_.1, x_.2.1, x_.2.2.1, x_.2.2.2.1, s_.1, x_.2.2.2.2.2.1, s_.2, ())) (fun x_ => rfl) (fun ρ x_ s_ k_ => (nat_br (nat_bnd fun _ => (nat_bnd fun _ => (nat_bnd fun _ => (nat_bnd fun _ => (nat_bnd fun _ => (nat_bnd fun _ => nat_leaf)))))) nat_leaf)) (fun ρ x_ t k => (by kernel_rfl)) (fun x_ s => by kernel_rfl))
theorem ring_Num_Turn.p1 : PieceOk ring_Num_Turn.G (pieceAt (pieces ring_Num_Turn.G.cks (bodyOf Go.Proofs.Tryd.f29)) 1).1 (pieceAt (pieces ring_Num_Turn.G.cks (bodyOf Go.Proofs.Tryd.f29)) 1).2 :=
  join_ok (s := ring_Num_Turn.c224581r) (by kernel_rfl) (by kernel_rfl) (sums_of (sh := ring_Num_Turn.c224581s) (fun ρ x_ k_ => (nat_br (nat_bnd fun _ => nat_leaf) nat_leaf)) (fun ρ x_ t k => (by kernel_rfl)) (fun x_ => by kernel_rfl))
theorem ring_Num_Turn.ok : CalleeOk Go.Proofs.Tryd.prog 29 ring_Num_Turn.ce := fn_ok (G := ring_Num_Turn.G) tab_ok mixed Go.Proofs.Tryd.func29 ⟨(fns_cons whole_Int_Neg.ok fns_nil), mfns_nil, tab_eqs_ok⟩ (m := 2) (by kernel_rfl) ⟨⟨trivial, ring_Num_Turn.p0⟩, ring_Num_Turn.p1⟩ (by kernel_rfl) ring_Num_Turn.eq
def ring_Num_Neg (a : (List ((Bool) × (List Int))) × (Int)) : Option ((List ((Bool) × (List Int))) × (Int)) :=
  bnd (W.ring_Num_Turn a (8 : Int)) fun y =>
  some y
def ring_Num_Neg.ce : Go.Ql.Callee := ⟨[(.st (.pair (.ar 8 (.st (.pair .bool (.sl (.int .u32))))) (.int .i64)))], [(.st (.pair (.ar 8 (.st (.pair .bool (.sl (.int .u32))))) (.int .i64)))], fun x_ => ring_Num_Neg x_⟩
def ring_Num_Neg.G : Env := ⟨5, tab, [(29, ring_Num_Turn.ce)], [0, 1, 2], [2, 8000001], [], [], [], tab_eqs⟩
theorem ring_Num_Neg.eq (x_ : dens [(.st (.pair (.ar 8 (.st (.pair .bool (.sl (.int .u32))))) (.int .i64)))]) : den ring_Num_Neg.G Go.Proofs.Tryd.f16 [(.st (.pair (.ar 8 (.st (.pair .bool (.sl (.int .u32))))) (.int .i64)))] [(.st (.pair (.ar 8 (.st (.pair .bool (.sl (.int .u32))))) (.int .i64)))] x_ = ring_Num_Neg x_ := by kernel_rfl
theorem ring_Num_Neg.ok : CalleeOk Go.Proofs.Tryd.prog 16 ring_Num_Neg.ce := fn_ok (G := ring_Num_Neg.G) tab_ok mixed Go.Proofs.Tryd.func16 ⟨(fns_cons ring_Num_Turn.ok fns_nil), mfns_nil, tab_eqs_ok⟩ (m := 0) (by kernel_rfl) trivial (by kernel_rfl) ring_Num_Neg.eq
def ring_Num_Sub.c1 {ρ : Type} (a_1 : (List ((Bool) × (List Int))) × (Int)) (b_1 : (List ((Bool) × (List Int))) × (Int)) (t4 : List ((List ((Bool) × (List Int))) × (Int))) (k_ : List ((List ((Bool) × (List Int))) × (Int)) → Option ρ) : Option ρ :=
  bnd (W.ring_Num_Neg b_1) fun y =>
  bnd (W.ring_Num_Add a_1 y) fun y_1 =>
  bnd (idx t4 (0 : Int)) fun y_2 =>
  k_ (List.set t4 (0 : Nat) y_1)
def ring_Num_Sub.c1s : Shape := ⟨[(0, rb47), (1, rb47), (2, rb48), (3, rb48), (4, rb25)], [(4, rb26)]⟩
def ring_Num_Sub.c1x0 : Shape := ⟨[(0, rb47), (1, rb47), (2, rb48), (3, rb48), (4, rb25)], [(4, rb26)]⟩
def ring_Num_Sub.c1r : Ck := Ck.of (T := List ((List ((Bool) × (List Int))) × (Int))) ring_Num_Sub.c1s (fun ρ x_ k_ => uP x_ fun a x_ => uP x_ fun b x_ => uP x_ fun a_1 x_ => uP x_ fun b_1 x_ => uP x_ fun t4 x_ => ring_Num_Sub.c1 a_1 b_1 t4 k_) (fun ρ x_ r_ k_ => uP x_ fun a x_ => uP x_ fun b x_ => uP x_ fun a_1 x_ => uP x_ fun b_1 x_ => uP x_ fun t4 x_ => k_ 0 (Shape.inj ring_Num_Sub.c1x0 (a, b, a_1, b_1, r_, ())))
def ring_Num_Sub (a : (List ((Bool) × (List Int))) × (Int)) (b : (List ((Bool) × (List Int))) × (Int)) : Option ((List ((Bool) × (List Int))) × (Int)) :=
  bnd (W.ring_Num_Sub.c1 a b [(List.replicate (8 : Nat) (false, []), (0 : Int))] some) fun y =>
  bnd (idx y (0 : Int)) fun y_1 =>
  some y_1
def ring_Num_Sub.ce : Go.Ql.Callee := ⟨[(.st (.pair (.ar 8 (.st (.pair .bool (.sl (.int .u32))))) (.int .i64))), (.st (.pair (.ar 8 (.st (.pair .bool (.sl (.int .u32))))) (.int .i64)))], [(.st (.pair (.ar 8 (.st (.pair .bool (.sl (.int .u32))))) (.int .i64)))], fun x_ => ring_Num_Sub x_.1 x_.2⟩
def ring_Num_Sub.G : Env := ⟨9, tab, [(16, ring_Num_Neg.ce), (10, ring_Num_Add.ce)], [0, 1, 2, 3, 4], [4, 8000002, 8000003], [(1, [⟨[], [], [6, 7], []⟩, ⟨[], [], [5], []⟩, ⟨[1], [], [5], []⟩, ⟨[0, 2, 1], [], [], []⟩, ⟨[3, 0, 2, 1], [4], [], []⟩])], [(1, ring_Num_Sub.c1r)], [], tab_eqs⟩
theorem ring_Num_Sub.eq (x_ : dens [(.st (.pair (.ar 8 (.st (.pair .bool (.sl (.int .u32))))) (.int .i64))), (.st (.pair (.ar 8 (.st (.pair .bool (.sl (.int .u32))))) (.int .i64)))]) : den ring_Num_Sub.G Go.Proofs.Tryd.f12 [(.st (.pair (.ar 8 (.st (.pair .bool (.sl (.int .u32))))) (.int .i64))), (.st (.pair (.ar 8 (.st (.pair .bool (.sl (.int .u32))))) (.int .i64)))] [(.st (.pair (.ar 8 (.st (.pair .bool (.sl (.int .u32))))) (.int .i64)))] x_ = ring_Num_Sub x_.1 x_.2 := by kernel_rfl
theorem ring_Num_Sub.p0 : PieceOk ring_Num_Sub.G (pieceAt (pieces ring_Num_Sub.G.cks (bodyOf Go.Proofs.Tryd.f12)) 0).1 (pieceAt (pieces ring_Num_Sub.G.cks (bodyOf Go.Proofs.Tryd.f12)) 0).2 :=
  region_ok (s := ring_Num_Sub.c1r) (by kernel_rfl) (by kernel_rfl) (sums_of (sh := ring_Num_Sub.c1s) (fun ρ x_ k_ => (nat_bnd fun _ => (nat_bnd fun _ => (nat_bnd fun _ => nat_leaf)))) (fun ρ x_ t k => (by kernel_rfl)) (fun x_ => by kernel_rfl))
theorem ring_Num_Sub.ok : CalleeOk Go.Proofs.Tryd.prog 12 ring_Num_Sub.ce := fn_ok (G := ring_Num_Sub.G) tab_ok mixed Go.Proofs.Tryd.func12 ⟨(fns_cons ring_Num_Neg.ok (fns_cons ring_Num_Add.ok fns_nil)), mfns_nil, tab_eqs_ok⟩ (m := 1) (by kernel_rfl) ⟨trivial, ring_Num_Sub.p0⟩ (by kernel_rfl) ring_Num_Sub.eq
def R_RNeg.c100002 {ρ : Type} (i : Int) (a_1 : List ((List ((Bool) × (List Int))) × (Int))) (k_ : ((Int) × (List ((List ((Bool) × (List Int))) × (Int)))) ⊕ ((Int) × (List ((List ((Bool) × (List Int))) × (Int)))) → Option ρ) : Option ρ :=
  br (decide (i < (8 : Int)))
   (bnd (inR (List.length a_1) (0 : Int)) fun y =>
    bnd (okIf (decide ((0 : Ty.den (Ty.int IntKind.i64)) ≤ i) && decide (i < (↑(8 : Nat) : Int)))) fun y_1 =>
    bnd (idx a_1 (0 : Int)) fun y_2 =>
    bnd (idx (Prod.fst y_2) i) fun y_3 =>
    bnd (W.R_ZNeg y_3) fun y_4 =>
    bnd (inR (List.length a_1) (0 : Int)) fun y_5 =>
    bnd (okIf (decide ((0 : Ty.den (Ty.int IntKind.i64)) ≤ i) && decide (i < (↑(8 : Nat) : Int)))) fun y_6 =>
    bnd (idx a_1 (0 : Int)) fun y_7 =>
    bnd (idx (Prod.fst y_7) i) fun y_8 =>
    k_ (.inl ((IntKind.wrap IntKind.i64 (i + (1 : Int))), (List.set a_1 (0 : Nat) (List.set (Prod.fst y_7) (Int.toNat i) y_4, Prod.snd y_7)))))
   (k_ (.inr (i, a_1)))
def R_RNeg.c100002s : Shape := ⟨[(0, rb32), (1, rb40), (2, rb24), (3, rb3)], [(1, rb34), (2, rb34)]⟩
def R_RNeg.c100002x0 : Shape := ⟨[(0, rb32), (1, rb40), (2, rb24), (3, rb3)], [(1, rb34), (2, rb34)]⟩
def R_RNeg.c100002r : Ck := Ck.ofLoop (S := (Int) × (List ((List ((Bool) × (List Int))) × (Int)))) (T := (Int) × (List ((List ((Bool) × (List Int))) × (Int)))) R_RNeg.c100002s (fun x_ => uP x_ fun a x_ => uP x_ fun i x_ => uP x_ fun a_1 x_ => uP x_ fun t2 x_ => (i, a_1)) (fun ρ x_ s_ k_ => uP x_ fun a x_ => uP x_ fun i x_ => uP x_ fun a_1 x_ => uP x_ fun t2 x_ => R_RNeg.c100002 s_.1 s_.2 k_) (fun ρ x_ r_ k_ => uP x_ fun a x_ => uP x_ fun i x_ => uP x_ fun a_1 x_ => uP x_ fun t2 x_ => k_ 2 (Shape.inj R_RNeg.c100002x0 (a, r_.1, r_.2, t2, ())))
def R_RNeg (a : (List ((Bool) × (List Int))) × (Int)) : Option ((List ((Bool) × (List Int))) × (Int)) :=
  bnd (iter (fun s ↦ W.R_RNeg.c100002 (Prod.fst s) (Prod.snd s) some) ((0 : Int), [a])) fun y =>
  bnd (idx (Prod.snd y) (0 : Int)) fun y_1 =>
  some y_1
def R_RNeg.ce : Go.Ql.Callee := ⟨[(.st (.pair (.ar 8 (.st (.pair .bool (.sl (.int .i64))))) (.int .i64)))], [(.st (.pair (.ar 8 (.st (.pair .bool (.sl (.int .i64))))) (.int .i64)))], fun x_ => R_RNeg x_⟩
def R_RNeg.G : Env := ⟨17, tab, [(52, R_ZNeg.ce)], [0, 1, 2, 3, 5], [1, 2], [], [(100002, R_RNeg.c100002r)], [], tab_eqs⟩
theorem R_RNeg.eq (x_ : dens [(.st (.pair (.ar 8 (.st (.pair .bool (.sl (.int .i64))))) (.int .i64)))]) : den R_RNeg.G Go.Proofs.Tryd.f17 [(.st (.pair (.ar 8 (.st (.pair .bool (.sl (.int .i64))))) (.int .i64)))] [(.st (.pair (.ar 8 (.st (.pair .bool (.sl (.int .i64))))) (.int .i64)))] x_ = R_RNeg x_ := by kernel_rfl
theorem R_RNeg.p0 : PieceOk R_RNeg.G (pieceAt (pieces R_RNeg.G.cks (bodyOf Go.Proofs.Tryd.f17)) 0).1 (pieceAt (pieces R_RNeg.G.cks (bodyOf Go.Proofs.Tryd.f17)) 0).2 :=
  loop_ok (s := R_RNeg.c100002r) (by kernel_rfl) (by kernel_rfl) (loops_of (sh := R_RNeg.c100002s) (I := fun x_ s_ => (x_.1, s_.1, s_.2, x_.2.2.2.1, ())) (fun x_ => rfl) (fun ρ x_ s_ k_ => (nat_br (nat_bnd fun _ => (nat_bnd fun _ => (nat_bnd fun _ => (nat_bnd fun _ => (nat_bnd fun _ => (nat_bnd fun _ => (nat_bnd fun _ => (nat_bnd fun _ => (nat_bnd fun _ => nat_leaf))))))))) nat_leaf)) (fun ρ x_ t k => (by kernel_rfl)) (fun x_ s => by kernel_rfl))
theorem R_RNeg.ok : CalleeOk Go.Proofs.Tryd.prog 17 R_RNeg.ce := fn_ok (G := R_RNeg.G) tab_ok mixed Go.Proofs.Tryd.func17 ⟨(fns_cons R_ZNeg.ok fns_nil), mfns_nil, tab_eqs_ok⟩ (m := 1) (by kernel_rfl) ⟨trivial, R_RNeg.p0⟩ (by kernel_rfl) R_RNeg.eq
def R_RSub.c1 {ρ : Type} (a_1 : (List ((Bool) × (List Int))) × (Int)) (b_1 : (List ((Bool) × (List Int))) × (Int)) (t4 : List ((List ((Bool) × (List Int))) × (Int))) (k_ : List ((List ((Bool) × (List Int))) × (Int)) → Option ρ) : Option ρ :=
  bnd (W.R_RNeg b_1) fun y =>
  bnd (W.R_RAdd a_1 y) fun y_1 =>
  bnd (idx t4 (0 : Int)) fun y_2 =>
  k_ (List.set t4 (0 : Nat) y_1)
def R_RSub.c1s : Shape := ⟨[(0, rb32), (1, rb32), (2, rb33), (3, rb33), (4, rb25)], [(4, rb34)]⟩
def R_RSub.c1x0 : Shape := ⟨[(0, rb32), (1, rb32), (2, rb33), (3, rb33), (4, rb25)], [(4, rb34)]⟩
def R_RSub.c1r : Ck := Ck.of (T := List ((List ((Bool) × (List Int))) × (Int))) R_RSub.c1s (fun ρ x_ k_ => uP x_ fun a x_ => uP x_ fun b x_ => uP x_ fun a_1 x_ => uP x_ fun b_1 x_ => uP x_ fun t4 x_ => R_RSub.c1 a_1 b_1 t4 k_) (fun ρ x_ r_ k_ => uP x_ fun a x_ => uP x_ fun b x_ => uP x_ fun a_1 x_ => uP x_ fun b_1 x_ => uP x_ fun t4 x_ => k_ 0 (Shape.inj R_RSub.c1x0 (a, b, a_1, b_1, r_, ())))
def R_RSub (a : (List ((Bool) × (List Int))) × (Int)) (b : (List ((Bool) × (List Int))) × (Int)) : Option ((List ((Bool) × (List Int))) × (Int)) :=
  bnd (W.R_RSub.c1 a b [(List.replicate (8 : Nat) (false, []), (0 : Int))] some) fun y =>
  bnd (idx y (0 : Int)) fun y_1 =>
  some y_1
def R_RSub.ce : Go.Ql.Callee := ⟨[(.st (.pair (.ar 8 (.st (.pair .bool (.sl (.int .i64))))) (.int .i64))), (.st (.pair (.ar 8 (.st (.pair .bool (.sl (.int .i64))))) (.int .i64)))], [(.st (.pair (.ar 8 (.st (.pair .bool (.sl (.int .i64))))) (.int .i64)))], fun x_ => R_RSub x_.1 x_.2⟩
def R_RSub.G : Env := ⟨9, tab, [(17, R_RNeg.ce), (11, R_RAdd.ce)], [0, 1, 2, 3, 4], [4, 8000002, 8000003], [(1, [⟨[], [], [6, 7], []⟩, ⟨[], [], [5], []⟩, ⟨[1], [], [5], []⟩, ⟨[0, 2, 1], [], [], []⟩, ⟨[3, 0, 2, 1], [4], [], []⟩])], [(1, R_RSub.c1r)], [], tab_eqs⟩
theorem R_RSub.eq (x_ : dens [(.st (.pair (.ar 8 (.st (.pair .bool (.sl (.int .i64))))) (.int .i64))), (.st (.pair (.ar 8 (.st (.pair .bool (.sl (.int .i64))))) (.int .i64)))]) : den R_RSub.G Go.Proofs.Tryd.f13 [(.st (.pair (.ar 8 (.st (.pair .bool (.sl (.int .i64))))) (.int .i64))), (.st (.pair (.ar 8 (.st (.pair .bool (.sl (.int .i64))))) (.int .i64)))] [(.st (.pair (.ar 8 (.st (.pair .bool (.sl (.int .i64))))) (.int .i64)))] x_ = R_RSub x_.1 x_.2 := by kernel_rfl
theorem R_RSub.p0 : PieceOk R_RSub.G (pieceAt (pieces R_RSub.G.cks (bodyOf Go.Proofs.Tryd.f13)) 0).1 (pieceAt (pieces R_RSub.G.cks (bodyOf Go.Proofs.Tryd.f13)) 0).2 :=
  region_ok (s := R_RSub.c1r) (by kernel_rfl) (by kernel_rfl) (sums_of (sh := R_RSub.c1s) (fun ρ x_ k_ => (nat_bnd fun _ => (nat_bnd fun _ => (nat_bnd fun _ => nat_leaf)))) (fun ρ x_ t k => (by kernel_rfl)) (fun x_ => by kernel_rfl))
theorem R_RSub.ok : CalleeOk Go.Proofs.Tryd.prog 13 R_RSub.ce := fn_ok (G := R_RSub.G) tab_ok mixed Go.Proofs.Tryd.func13 ⟨(fns_cons R_RNeg.ok (fns_cons R_RAdd.ok fns_nil)), mfns_nil, tab_eqs_ok⟩ (m := 1) (by kernel_rfl) ⟨trivial, R_RSub.p0⟩ (by kernel_rfl) R_RSub.eq
abbrev rb54 : SD := .one (.own 18 0)
def whole_Int_Mul.c100007 {ρ : Type} (i : Int) (x : Int) (carry : Int) (t28 : List (Int)) (t29 : Int) (t30 : Int) (t18 : List (Int)) (k_ : ((Int) × (Int) × (List Int)) ⊕ ((Int) × (Int) × (List Int)) → Option ρ) : Option ρ :=
  br (decide (t30 < t29))
   (bnd (idx t28 t30) fun y =>
    bnd (inR (List.length t18) (IntKind.wrap IntKind.i64 (i + t30))) fun y_1 =>
    bnd (idx t18 (IntKind.wrap IntKind.i64 (i + t30))) fun y_2 =>
    bnd (inR (List.length t18) (IntKind.wrap IntKind.i64 (i + t30))) fun y_3 =>
    bnd (idx t18 (IntKind.wrap IntKind.i64 (i + t30))) fun y_4 =>
    k_ (.inl ((Int.fdiv (IntKind.wrap IntKind.u64 (carry + IntKind.wrap IntKind.u64 (IntKind.wrap IntKind.u64 (IntKind.wrap IntKind.u64 x * IntKind.wrap IntKind.u64 y) + IntKind.wrap IntKind.u64 y_2))) ((2 : Int) ^ (32 : Nat))), (IntKind.wrap IntKind.i64 (t30 + (1 : Int))), (List.set t18 (Int.toNat (IntKind.wrap IntKind.i64 (i + t30))) (IntKind.wrap IntKind.u32 (IntKind.wrap IntKind.u64 (carry + IntKind.wrap IntKind.u64 (IntKind.wrap IntKind.u64 (IntKind.wrap IntKind.u64 x * IntKind.wrap IntKind.u64 y) + IntKind.wrap IntKind.u64 y_2))))))))
   (k_ (.inr (carry, t30, t18)))
def whole_Int_Mul.c100007s : Shape := ⟨[(0, rb11), (1, rb11), (2, rb5), (3, rb12), (4, rb2), (5, rb54), (6, rb3), (7, rb8), (8, rb6), (20, rb1), (21, rb3), (22, rb3), (28, rb1), (29, rb3), (30, rb3)], [(2, rb4), (3, rb4), (4, rb4), (18, rb9)]⟩
def whole_Int_Mul.c100007x0 : Shape := ⟨[(0, rb11), (1, rb11), (2, rb5), (3, rb12), (4, rb2), (5, rb54), (6, rb3), (7, rb8), (8, rb6), (20, rb1), (21, rb3), (22, rb3), (28, rb1), (29, rb3), (30, rb3)], [(2, rb4), (3, rb4), (4, rb4), (18, rb9)]⟩
def whole_Int_Mul.c100007r : Ck := Ck.ofLoop (S := (Int) × (Int) × (List Int)) (T := (Int) × (Int) × (List Int)) whole_Int_Mul.c100007s (fun x_ => uP x_ fun a x_ => uP x_ fun b x_ => uP x_ fun i x_ => uP x_ fun x x_ => uP x_ fun carry x_ => uP x_ fun t20 x_ => uP x_ fun t21 x_ => uP x_ fun t22 x_ => uP x_ fun t28 x_ => uP x_ fun t29 x_ => uP x_ fun t30 x_ => uP x_ fun a0 x_ => uP x_ fun a1 x_ => uP x_ fun b0 x_ => uP x_ fun b1 x_ => uP x_ fun t40 x_ => uP x_ fun t41 x_ => uP x_ fun t18 x_ => (carry, t30, t18)) (fun ρ x_ s_ k_ => uP x_ fun a x_ => uP x_ fun b x_ => uP x_ fun i x_ => uP x_ fun x x_ => uP x_ fun carry x_ => uP x_ fun t20 x_ => uP x_ fun t21 x_ => uP x_ fun t22 x_ => uP x_ fun t28 x_ => uP x_ fun t29 x_ => uP x_ fun t30 x_ => uP x_ fun a0 x_ => uP x_ fun a1 x_ => uP x_ fun b0 x_ => uP x_ fun b1 x_ => uP x_ fun t40 x_ => uP x_ fun t41 x_ => uP x_ fun t18 x_ => whole_Int_Mul.c100007 i x s_.1 t28 t29 s_.2.1 s_.2.2 k_) (fun ρ x_ r_ k_ => uP x_ fun a x_ => uP x_ fun b x_ => uP x_ fun i x_ => uP x_ fun x x_ => uP x_ fun carry x_ => uP x_ fun t20 x_ => uP x_ fun t21 x_ => uP x_ fun t22 x_ => uP x_ fun t28 x_ => uP x_ fun t29 x_ => uP x_ fun t30 x_ => uP x_ fun a0 x_ => uP x_ fun a1 x_ => uP x_ fun b0 x_ => uP x_ fun b1 x_ => uP x_ fun t40 x_ => uP x_ fun t41 x_ => uP x_ fun t18 x_ => k_ 4 (Shape.inj whole_Int_Mul.c100007x0 (a, b, i, x, r_.1, t20, t21, t22, t28, t29, r_.2.1, a0, a1, b0, b1, t40, t41, r_.2.2, ())))
def whole_Int_Mul.c100003 {ρ : Type} (t20 : List (Int)) (t21 : Int) (t22 : Int) (b1 : List (Int)) (t18 : List (Int)) (k_ : ((Int) × (List Int)) ⊕ ((Int) × (List Int)) → Option ρ) : Option ρ :=
  br (decide (t22 < t21))
   (bnd (idx t20 t22) fun y =>
    bnd (iter (fun s ↦ W.whole_Int_Mul.c100007 t22 y (Prod.fst s) b1 (↑(List.length b1) : Int) (Prod.fst (Prod.snd s)) (Prod.snd (Prod.snd s)) some) ((0 : Int), (0 : Int), t18)) fun y_1 =>
    bnd (inR (List.length (Prod.snd (Prod.snd y_1))) (IntKind.wrap IntKind.i64 (t22 + (↑(List.length b1) : Int)))) fun y_2 =>
    bnd (idx (Prod.snd (Prod.snd y_1)) (IntKind.wrap IntKind.i64 (t22 + (↑(List.length b1) : Int)))) fun y_3 =>
    k_ (.inl ((IntKind.wrap IntKind.i64 (t22 + (1 : Int))), (List.set (Prod.snd (Prod.snd y_1)) (Int.toNat (IntKind.wrap IntKind.i64 (t22 + (↑(List.length b1) : Int)))) (IntKind.wrap IntKind.u32 (Prod.fst y_1))))))
   (k_ (.inr (t22, t18)))
def whole_Int_Mul.c100003s : Shape := ⟨[(0, rb11), (1, rb11), (2, rb5), (3, rb12), (4, rb2), (5, rb54), (20, rb1), (21, rb3), (22, rb3)], [(2, rb4), (3, rb4), (4, rb4), (18, rb9)]⟩
def whole_Int_Mul.c100003x0 : Shape := ⟨[(0, rb11), (1, rb11), (2, rb5), (3, rb12), (4, rb2), (5, rb54), (20, rb1), (21, rb3), (22, rb3)], [(2, rb4), (3, rb4), (4, rb4), (18, rb9)]⟩
def whole_Int_Mul.c100003r : Ck := Ck.ofLoop (S := (Int) × (List Int)) (T := (Int) × (List Int)) whole_Int_Mul.c100003s (fun x_ => uP x_ fun a x_ => uP x_ fun b x_ => uP x_ fun t20 x_ => uP x_ fun t21 x_ => uP x_ fun t22 x_ => uP x_ fun a0 x_ => uP x_ fun a1 x_ => uP x_ fun b0 x_ => uP x_ fun b1 x_ => uP x_ fun t40 x_ => uP x_ fun t41 x_ => uP x_ fun t18 x_ => (t22, t18)) (fun ρ x_ s_ k_ => uP x_ fun a x_ => uP x_ fun b x_ => uP x_ fun t20 x_ => uP x_ fun t21 x_ => uP x_ fun t22 x_ => uP x_ fun a0 x_ => uP x_ fun a1 x_ => uP x_ fun b0 x_ => uP x_ fun b1 x_ => uP x_ fun t40 x_ => uP x_ fun t41 x_ => uP x_ fun t18 x_ => whole_Int_Mul.c100003 t20 t21 s_.1 b1 s_.2 k_) (fun ρ x_ r_ k_ => uP x_ fun a x_ => uP x_ fun b x_ => uP x_ fun t20 x_ => uP x_ fun t21 x_ => uP x_ fun t22 x_ => uP x_ fun a0 x_ => uP x_ fun a1 x_ => uP x_ fun b0 x_ => uP x_ fun b1 x_ => uP x_ fun t40 x_ => uP x_ fun t41 x_ => uP x_ fun t18 x_ => k_ 2 (Shape.inj whole_Int_Mul.c100003x0 (a, b, t20, t21, r_.1, a0, a1, b0, b1, t40, t41, r_.2, ())))
def whole_Int_Mul (a : (Bool) × (List Int)) (b : (Bool) × (List Int)) : Option ((Bool) × (List Int)) :=
  bnd (okIf (decide ((0 : Int) ≤ IntKind.wrap IntKind.i64 ((↑(List.length (Prod.snd a)) : Int) + (↑(List.length (Prod.snd b)) : Int))) && decide (IntKind.wrap IntKind.i64 ((↑(List.length (Prod.snd a)) : Int) + (↑(List.length (Prod.snd b)) : Int)) ≤ IntKind.wrap IntKind.i64 ((↑(List.length (Prod.snd a)) : Int) + (↑(List.length (Prod.snd b)) : Int))) && decide (IntKind.wrap IntKind.i64 ((↑(List.length (Prod.snd a)) : Int) + (↑(List.length (Prod.snd b)) : Int)) * (↑(4 : Nat) : Int) ≤ (140737488355328 : Int)) && decide (IntKind.wrap IntKind.i64 ((↑(List.length (Prod.snd a)) : Int) + (↑(List.length (Prod.snd b)) : Int)) ≤ (140737488355328 : Int)))) fun y =>
  bnd (iter (fun s ↦ W.whole_Int_Mul.c100003 (Prod.snd a) (↑(List.length (Prod.snd a)) : Int) (Prod.fst s) (Prod.snd b) (Prod.snd s) some) ((0 : Int), List.replicate (Int.toNat (IntKind.wrap IntKind.i64 ((↑(List.length (Prod.snd a)) : Int) + (↑(List.length (Prod.snd b)) : Int)))) (0 : Int))) fun y_1 =>
  bnd (W.whole_made (!Prod.fst a == Prod.fst b) (Prod.snd y_1)) fun y_2 =>
  some (Prod.fst y_2, Prod.snd y_2)
def whole_Int_Mul.ce : Go.Ql.Callee := ⟨[(.st (.pair .bool (.sl (.int .u32)))), (.st (.pair .bool (.sl (.int .u32))))], [(.st (.pair .bool (.sl (.int .u32))))], fun x_ => whole_Int_Mul x_.1 x_.2⟩
def whole_Int_Mul.G : Env := ⟨77, tab, [(54, whole_made.ce)], [0, 1, 2, 3, 4, 5, 6, 7, 8, 9, 10, 20, 21, 22, 23, 28, 29, 30, 31], [18], [], [(100003, whole_Int_Mul.c100003r), (100007, whole_Int_Mul.c100007r)], [], tab_eqs⟩
theorem whole_Int_Mul.eq (x_ : dens [(.st (.pair .bool (.sl (.int .u32)))), (.st (.pair .bool (.sl (.int .u32))))]) : den whole_Int_Mul.G Go.Proofs.Tryd.f49 [(.st (.pair .bool (.sl (.int .u32)))), (.st (.pair .bool (.sl (.int .u32))))] [(.st (.pair .bool (.sl (.int .u32))))] x_ = whole_Int_Mul x_.1 x_.2 := by kernel_rfl
theorem whole_Int_Mul.p0 : PieceOk whole_Int_Mul.G (pieceAt (pieces whole_Int_Mul.G.cks (bodyOf Go.Proofs.Tryd.f49)) 0).1 (pieceAt (pieces whole_Int_Mul.G.cks (bodyOf Go.Proofs.Tryd.f49)) 0).2 :=
  loop_ok (s := whole_Int_Mul.c100003r) (by kernel_rfl) (by kernel_rfl) (loops_of (sh := whole_Int_Mul.c100003s) (I := fun x_ s_ => (x_.1, x_.2.1, x_.2.2.1, x_.2.2.2.1, s_.1, x_.2.2.2.2.2.1, x_.2.2.2.2.2.2.1, x_.2.2.2.2.2.2.2.1, x_.2.2.2.2.2.2.2.2.1, x_.2.2.2.2.2.2.2.2.2.1, x_.2.2.2.2.2.2.2.2.2.2.1, s_.2, ())) (fun x_ => rfl) (fun ρ x_ s_ k_ => (nat_br (nat_bnd fun _ => (nat_bnd fun _ => (nat_bnd fun _ => (nat_bnd fun _ => nat_leaf)))) nat_leaf)) (fun ρ x_ t k => (by kernel_rfl)) (fun x_ s => by kernel_rfl))
theorem whole_Int_Mul.p1 : PieceOk whole_Int_Mul.G (pieceAt (pieces whole_Int_Mul.G.cks (bodyOf Go.Proofs.Tryd.f49)) 1).1 (pieceAt (pieces whole_Int_Mul.G.cks (bodyOf Go.Proofs.Tryd.f49)) 1).2 :=
  loop_ok (s := whole_Int_Mul.c100007r) (by kernel_rfl) (by kernel_rfl) (loops_of (sh := whole_Int_Mul.c100007s) (I := fun x_ s_ => (x_.1, x_.2.1, x_.2.2.1, x_.2.2.2.1, s_.1, x_.2.2.2.2.2.1, x_.2.2.2.2.2.2.1, x_.2.2.2.2.2.2.2.1, x_.2.2.2.2.2.2.2.2.1, x_.2.2.2.2.2.2.2.2.2.1, s_.2.1, x_.2.2.2.2.2.2.2.2.2.2.2.1, x_.2.2.2.2.2.2.2.2.2.2.2.2.1, x_.2.2.2.2.2.2.2.2.2.2.2.2.2.1, x_.2.2.2.2.2.2.2.2.2.2.2.2.2.2.1, x_.2.2.2.2.2.2.2.2.2.2.2.2.2.2.2.1, x_.2.2.2.2.2.2.2.2.2.2.2.2.2.2.2.2.1, s_.2.2, ())) (fun x_ => rfl) (fun ρ x_ s_ k_ => (nat_br (nat_bnd fun _ => (nat_bnd fun _ => (nat_bnd fun _ => (nat_bnd fun _ => (nat_bnd fun _ => nat_leaf))))) nat_leaf)) (fun ρ x_ t k => (by kernel_rfl)) (fun x_ s => by kernel_rfl))
theorem whole_Int_Mul.ok : CalleeOk Go.Proofs.Tryd.prog 49 whole_Int_Mul.ce := fn_ok (G := whole_Int_Mul.G) tab_ok mixed Go.Proofs.Tryd.func49 ⟨(fns_cons whole_made.ok fns_nil), mfns_nil, tab_eqs_ok⟩ (m := 2) (by kernel_rfl) ⟨⟨trivial, whole_Int_Mul.p0⟩, whole_Int_Mul.p1⟩ (by kernel_rfl) whole_Int_Mul.eq
abbrev rb55 : SD := .one (.ref 10 0)
def ring_Num_Mul.c240965 {ρ : Type} (i : Int) (j : Int) (z0 : Bool) (z1 : List (Int)) (k_ : (Bool) × (List Int) → Option ρ) : Option ρ :=
  br (decide (IntKind.wrap IntKind.i64 (i + j) ≥ (8 : Int)))
   (bnd (W.whole_Int_Neg (z0, z1)) fun y =>
    k_ ((Prod.fst y), (Prod.snd y)))
   (k_ (z0, z1))
def ring_Num_Mul.c240965s : Shape := ⟨[(0, rb47), (1, rb47), (2, rb48), (3, rb48), (4, rb25), (5, rb35), (6, rb3), (7, rb53), (8, rb3), (9, rb29), (10, rb55), (12, rb23), (13, rb3), (21, rb23), (22, rb3)], [(4, rb26), (5, rb22), (7, rb4), (9, rb4), (10, rb4)]⟩
def ring_Num_Mul.c240965x0 : Shape := ⟨[(0, rb47), (1, rb47), (2, rb48), (3, rb48), (4, rb25), (5, rb35), (6, rb3), (7, rb53), (8, rb3), (9, rb29), (10, rb55), (12, rb23), (13, rb3), (21, rb23), (22, rb3)], [(4, rb26), (5, rb22), (7, rb4), (9, rb4), (10, rb4)]⟩
def ring_Num_Mul.c240965r : Ck := Ck.of (T := (Bool) × (List Int)) ring_Num_Mul.c240965s (fun ρ x_ k_ => uP x_ fun a x_ => uP x_ fun b x_ => uP x_ fun a_1 x_ => uP x_ fun b_1 x_ => uP x_ fun i x_ => uP x_ fun j x_ => uP x_ fun t12 x_ => uP x_ fun t13 x_ => uP x_ fun t21 x_ => uP x_ fun t22 x_ => uP x_ fun t4 x_ => uP x_ fun out x_ => uP x_ fun x0 x_ => uP x_ fun x1 x_ => uP x_ fun y0 x_ => uP x_ fun y1 x_ => uP x_ fun z0 x_ => uP x_ fun z1 x_ => ring_Num_Mul.c240965 i j z0 z1 k_) (fun ρ x_ r_ k_ => uP x_ fun a x_ => uP x_ fun b x_ => uP x_ fun a_1 x_ => uP x_ fun b_1 x_ => uP x_ fun i x_ => uP x_ fun j x_ => uP x_ fun t12 x_ => uP x_ fun t13 x_ => uP x_ fun t21 x_ => uP x_ fun t22 x_ => uP x_ fun t4 x_ => uP x_ fun out x_ => uP x_ fun x0 x_ => uP x_ fun x1 x_ => uP x_ fun y0 x_ => uP x_ fun y1 x_ => uP x_ fun z0 x_ => uP x_ fun z1 x_ => k_ 0 (Shape.inj ring_Num_Mul.c240965x0 (a, b, a_1, b_1, i, j, t12, t13, t21, t22, t4, out, x0, x1, y0, y1, r_.1, r_.2, ())))
def ring_Num_Mul.c12 {ρ : Type} (i : Int) (j : Int) (out : List ((Bool) × (List Int))) (z0 : Bool) (z1 : List (Int)) (k_ : List ((Bool) × (List Int)) → Option ρ) : Option ρ :=
  bnd (okIf (decide ((0 : Ty.den (Ty.int IntKind.i64)) ≤ ibits BinOp.and IntKind.i64 (IntKind.wrap IntKind.i64 (i + j)) (7 : Int)) && decide (ibits BinOp.and IntKind.i64 (IntKind.wrap IntKind.i64 (i + j)) (7 : Int) < (↑(8 : Nat) : Int)))) fun y =>
  bnd (inR (List.length out) (ibits BinOp.and IntKind.i64 (IntKind.wrap IntKind.i64 (i + j)) (7 : Int))) fun y_1 =>
  bnd (idx out (ibits BinOp.and IntKind.i64 (IntKind.wrap IntKind.i64 (i + j)) (7 : Int))) fun y_2 =>
  bnd (W.whole_Int_Add y_2 (z0, z1)) fun y_3 =>
  bnd (okIf (decide ((0 : Ty.den (Ty.int IntKind.i64)) ≤ ibits BinOp.and IntKind.i64 (IntKind.wrap IntKind.i64 (i + j)) (7 : Int)) && decide (ibits BinOp.and IntKind.i64 (IntKind.wrap IntKind.i64 (i + j)) (7 : Int) < (↑(8 : Nat) : Int)))) fun y_4 =>
  bnd (inR (List.length out) (ibits BinOp.and IntKind.i64 (IntKind.wrap IntKind.i64 (i + j)) (7 : Int))) fun y_5 =>
  bnd (idx out (ibits BinOp.and IntKind.i64 (IntKind.wrap IntKind.i64 (i + j)) (7 : Int))) fun y_6 =>
  k_ (List.set out (Int.toNat (ibits BinOp.and IntKind.i64 (IntKind.wrap IntKind.i64 (i + j)) (7 : Int))) y_3)
def ring_Num_Mul.c12s : Shape := ⟨[(0, rb47), (1, rb47), (2, rb48), (3, rb48), (4, rb25), (5, rb35), (6, rb3), (7, rb53), (8, rb3), (9, rb29), (10, rb55), (12, rb23), (13, rb3), (21, rb23), (22, rb3)], [(4, rb26), (5, rb22), (7, rb4), (9, rb4), (10, rb4)]⟩
def ring_Num_Mul.c12x0 : Shape := ⟨[(0, rb47), (1, rb47), (2, rb48), (3, rb48), (4, rb25), (5, rb35), (6, rb3), (7, rb53), (8, rb3), (9, rb29), (10, rb55), (12, rb23), (13, rb3), (21, rb23), (22, rb3)], [(4, rb26), (5, rb22), (7, rb4), (9, rb4), (10, rb4)]⟩
def ring_Num_Mul.c12r : Ck := Ck.of (T := List ((Bool) × (List Int))) ring_Num_Mul.c12s (fun ρ x_ k_ => uP x_ fun a x_ => uP x_ fun b x_ => uP x_ fun a_1 x_ => uP x_ fun b_1 x_ => uP x_ fun i x_ => uP x_ fun j x_ => uP x_ fun t12 x_ => uP x_ fun t13 x_ => uP x_ fun t21 x_ => uP x_ fun t22 x_ => uP x_ fun t4 x_ => uP x_ fun out x_ => uP x_ fun x0 x_ => uP x_ fun x1 x_ => uP x_ fun y0 x_ => uP x_ fun y1 x_ => uP x_ fun z0 x_ => uP x_ fun z1 x_ => ring_Num_Mul.c12 i j out z0 z1 k_) (fun ρ x_ r_ k_ => uP x_ fun a x_ => uP x_ fun b x_ => uP x_ fun a_1 x_ => uP x_ fun b_1 x_ => uP x_ fun i x_ => uP x_ fun j x_ => uP x_ fun t12 x_ => uP x_ fun t13 x_ => uP x_ fun t21 x_ => uP x_ fun t22 x_ => uP x_ fun t4 x_ => uP x_ fun out x_ => uP x_ fun x0 x_ => uP x_ fun x1 x_ => uP x_ fun y0 x_ => uP x_ fun y1 x_ => uP x_ fun z0 x_ => uP x_ fun z1 x_ => k_ 0 (Shape.inj ring_Num_Mul.c12x0 (a, b, a_1, b_1, i, j, t12, t13, t21, t22, t4, r_, x0, x1, y0, y1, z0, z1, ())))
def ring_Num_Mul.c100007 {ρ : Type} (i : Int) (t21 : List ((Bool) × (List Int))) (t22 : Int) (out : List ((Bool) × (List Int))) (x0 : Bool) (x1 : List (Int)) (k_ : ((Int) × (List ((Bool) × (List Int)))) ⊕ ((Int) × (List ((Bool) × (List Int)))) → Option ρ) : Option ρ :=
  br (decide (t22 < (8 : Int)))
   (bnd (idx t21 t22) fun y =>
    bnd (W.whole_Int_Mul (x0, x1) (Prod.fst y, Prod.snd y)) fun y_1 =>
    bnd (W.ring_Num_Mul.c240965 i t22 (Prod.fst y_1) (Prod.snd y_1) some) fun y_2 =>
    bnd (W.ring_Num_Mul.c12 i t22 out (Prod.fst y_2) (Prod.snd y_2) some) fun y_3 =>
    k_ (.inl ((IntKind.wrap IntKind.i64 (t22 + (1 : Int))), y_3)))
   (k_ (.inr (t22, out)))
def ring_Num_Mul.c100007s : Shape := ⟨[(0, rb47), (1, rb47), (2, rb48), (3, rb48), (4, rb25), (5, rb35), (6, rb3), (7, rb53), (12, rb23), (13, rb3), (21, rb23), (22, rb3)], [(4, rb26), (5, rb22), (7, rb4)]⟩
def ring_Num_Mul.c100007x0 : Shape := ⟨[(0, rb47), (1, rb47), (2, rb48), (3, rb48), (4, rb25), (5, rb35), (6, rb3), (7, rb53), (12, rb23), (13, rb3), (21, rb23), (22, rb3)], [(4, rb26), (5, rb22), (7, rb4)]⟩
def ring_Num_Mul.c100007r : Ck := Ck.ofLoop (S := (Int) × (List ((Bool) × (List Int)))) (T := (Int) × (List ((Bool) × (List Int)))) ring_Num_Mul.c100007s (fun x_ => uP x_ fun a x_ => uP x_ fun b x_ => uP x_ fun a_1 x_ => uP x_ fun b_1 x_ => uP x_ fun i x_ => uP x_ fun t12 x_ => uP x_ fun t13 x_ => uP x_ fun t21 x_ => uP x_ fun t22 x_ => uP x_ fun t4 x_ => uP x_ fun out x_ => uP x_ fun x0 x_ => uP x_ fun x1 x_ => (t22, out)) (fun ρ x_ s_ k_ => uP x_ fun a x_ => uP x_ fun b x_ => uP x_ fun a_1 x_ => uP x_ fun b_1 x_ => uP x_ fun i x_ => uP x_ fun t12 x_ => uP x_ fun t13 x_ => uP x_ fun t21 x_ => uP x_ fun t22 x_ => uP x_ fun t4 x_ => uP x_ fun out x_ => uP x_ fun x0 x_ => uP x_ fun x1 x_ => ring_Num_Mul.c100007 i t21 s_.1 s_.2 x0 x1 k_) (fun ρ x_ r_ k_ => uP x_ fun a x_ => uP x_ fun b x_ => uP x_ fun a_1 x_ => uP x_ fun b_1 x_ => uP x_ fun i x_ => uP x_ fun t12 x_ => uP x_ fun t13 x_ => uP x_ fun t21 x_ => uP x_ fun t22 x_ => uP x_ fun t4 x_ => uP x_ fun out x_ => uP x_ fun x0 x_ => uP x_ fun x1 x_ => k_ 4 (Shape.inj ring_Num_Mul.c100007x0 (a, b, a_1, b_1, i, t12, t13, t21, r_.1, t4, r_.2, x0, x1, ())))
def ring_Num_Mul.c216417 {ρ : Type} (b_1 : (List ((Bool) × (List Int))) × (Int)) (t12 : List ((Bool) × (List Int))) (t13 : Int) (out : List ((Bool) × (List Int))) (k_ : List ((Bool) × (List Int)) → Option ρ) : Option ρ :=
  bnd (idx t12 t13) fun y =>
  bnd (W.whole_Int_Sign (Prod.fst y, Prod.snd y)) fun y_1 =>
  br (y_1 == (0 : Int))
   (k_ out)
   (bnd (iter (fun s ↦ W.ring_Num_Mul.c100007 t13 (Prod.fst b_1) (Prod.fst s) (Prod.snd s) (Prod.fst y) (Prod.snd y) some) ((0 : Int), out)) fun y_2 =>
    k_ (Prod.snd y_2))
def ring_Num_Mul.c216417s : Shape := ⟨[(0, rb47), (1, rb47), (2, rb48), (3, rb48), (4, rb25), (5, rb35), (12, rb23), (13, rb3)], [(4, rb26), (5, rb22)]⟩
def ring_Num_Mul.c216417x0 : Shape := ⟨[(0, rb47), (1, rb47), (2, rb48), (3, rb48), (4, rb25), (5, rb35), (12, rb23), (13, rb3)], [(4, rb26), (5, rb22)]⟩
def ring_Num_Mul.c216417r : Ck := Ck.of (T := List ((Bool) × (List Int))) ring_Num_Mul.c216417s (fun ρ x_ k_ => uP x_ fun a x_ => uP x_ fun b x_ => uP x_ fun a_1 x_ => uP x_ fun b_1 x_ => uP x_ fun t12 x_ => uP x_ fun t13 x_ => uP x_ fun t4 x_ => uP x_ fun out x_ => ring_Num_Mul.c216417 b_1 t12 t13 out k_) (fun ρ x_ r_ k_ => uP x_ fun a x_ => uP x_ fun b x_ => uP x_ fun a_1 x_ => uP x_ fun b_1 x_ => uP x_ fun t12 x_ => uP x_ fun t13 x_ => uP x_ fun t4 x_ => uP x_ fun out x_ => k_ 0 (Shape.inj ring_Num_Mul.c216417x0 (a, b, a_1, b_1, t12, t13, t4, r_, ())))
def ring_Num_Mul.c100003 {ρ : Type} (b_1 : (List ((Bool) × (List Int))) × (Int)) (t12 : List ((Bool) × (List Int))) (t13 : Int) (out : List ((Bool) × (List Int))) (k_ : ((Int) × (List ((Bool) × (List Int)))) ⊕ ((Int) × (List ((Bool) × (List Int)))) → Option ρ) : Option ρ :=
  br (decide (t13 < (8 : Int)))
   (bnd (W.ring_Num_Mul.c216417 b_1 t12 t13 out some) fun y =>
    k_ (.inl ((IntKind.wrap IntKind.i64 (t13 + (1 : Int))), y)))
   (k_ (.inr (t13, out)))
def ring_Num_Mul.c100003s : Shape := ⟨[(0, rb47), (1, rb47), (2, rb48), (3, rb48), (4, rb25), (5, rb35), (12, rb23), (13, rb3)], [(4, rb26), (5, rb22)]⟩
def ring_Num_Mul.c100003x0 : Shape := ⟨[(0, rb47), (1, rb47), (2, rb48), (3, rb48), (4, rb25), (5, rb35), (12, rb23), (13, rb3)], [(4, rb26), (5, rb22)]⟩
def ring_Num_Mul.c100003r : Ck := Ck.ofLoop (S := (Int) × (List ((Bool) × (List Int)))) (T := (Int) × (List ((Bool) × (List Int)))) ring_Num_Mul.c100003s (fun x_ => uP x_ fun a x_ => uP x_ fun b x_ => uP x_ fun a_1 x_ => uP x_ fun b_1 x_ => uP x_ fun t12 x_ => uP x_ fun t13 x_ => uP x_ fun t4 x_ => uP x_ fun out x_ => (t13, out)) (fun ρ x_ s_ k_ => uP x_ fun a x_ => uP x_ fun b x_ => uP x_ fun a_1 x_ => uP x_ fun b_1 x_ => uP x_ fun t12 x_ => uP x_ fun t13 x_ => uP x_ fun t4 x_ => uP x_ fun out x_ => ring_Num_Mul.c100003 b_1 t12 s_.1 s_.2 k_) (fun ρ x_ r_ k_ => uP x_ fun a x_ => uP x_ fun b x_ => uP x_ fun a_1 x_ => uP x_ fun b_1 x_ => uP x_ fun t12 x_ => uP x_ fun t13 x_ => uP x_ fun t4 x_ => uP x_ fun out x_ => k_ 2 (Shape.inj ring_Num_Mul.c100003x0 (a, b, a_1, b_1, t12, r_.1, t4, r_.2, ())))
def ring_Num_Mul (a : (List ((Bool) × (List Int))) × (Int)) (b : (List ((Bool) × (List Int))) × (Int)) : Option ((List ((Bool) × (List Int))) × (Int)) :=
  bnd (iter (fun s ↦ W.ring_Num_Mul.c100003 b (Prod.fst a) (Prod.fst s) (Prod.snd s) some) ((0 : Int), List.replicate (8 : Nat) (false, []))) fun y =>
  bnd (okIf (decide (List.length (Prod.snd y) = (8 : Nat)))) fun y_1 =>
  bnd (W.ring_least (Prod.snd y) (IntKind.wrap IntKind.i64 (Prod.snd a + Prod.snd b))) fun y_2 =>
  some y_2
def ring_Num_Mul.ce : Go.Ql.Callee := ⟨[(.st (.pair (.ar 8 (.st (.pair .bool (.sl (.int .u32))))) (.int .i64))), (.st (.pair (.ar 8 (.st (.pair .bool (.sl (.int .u32))))) (.int .i64)))], [(.st (.pair (.ar 8 (.st (.pair .bool (.sl (.int .u32))))) (.int .i64)))], fun x_ => ring_Num_Mul x_.1 x_.2⟩
def ring_Num_Mul.G : Env := ⟨57, tab, [(41, whole_Int_Sign.ce), (49, whole_Int_Mul.ce), (34, whole_Int_Neg.ce), (35, whole_Int_Add.ce), (36, ring_least.ce)], [0, 1, 2, 3, 4, 5, 6, 7, 8, 9, 10, 12, 13, 14, 19, 21, 22, 23, 32], [4, 5, 8000002, 8000003], [(12, [⟨[], [], [36, 39, 40, 41, 42, 43, 44, 45, 46], []⟩, ⟨[], [], [35, 39, 40, 41, 42, 43, 44, 45, 46], []⟩, ⟨[0, 1], [], [39, 40, 41, 42, 43, 44, 45, 46], []⟩, ⟨[2, 0, 1], [], [39, 40, 41, 42, 43, 44, 45, 46], []⟩, ⟨[], [], [35, 36, 37, 38, 40, 45], []⟩, ⟨[], [], [35, 36, 37, 38, 39, 45], []⟩, ⟨[4, 5], [], [35, 36, 37, 38, 45], []⟩, ⟨[6, 4, 5], [], [35, 36, 37, 38, 45], []⟩, ⟨[7, 6, 4, 5], [], [35, 36, 37, 38, 45], []⟩, ⟨[8, 7, 6, 4, 5], [], [35, 36, 37, 38, 45], []⟩, ⟨[], [], [35, 36, 37, 38, 39, 40, 41, 42, 43, 44], []⟩, ⟨[9, 8, 7, 6, 4, 5, 10], [], [35, 36, 37, 38], []⟩, ⟨[3, 2, 0, 1, 4, 5, 6, 7, 8, 9, 10, 11], [], [], []⟩, ⟨[12, 3, 2, 0, 1, 4, 5, 6, 7, 8, 9, 10, 11], [5], [], []⟩])], [(100003, ring_Num_Mul.c100003r), (216417, ring_Num_Mul.c216417r), (100007, ring_Num_Mul.c100007r), (12, ring_Num_Mul.c12r), (240965, ring_Num_Mul.c240965r)], [], tab_eqs⟩
theorem ring_Num_Mul.eq (x_ : dens [(.st (.pair (.ar 8 (.st (.pair .bool (.sl (.int .u32))))) (.int .i64))), (.st (.pair (.ar 8 (.st (.pair .bool (.sl (.int .u32))))) (.int .i64)))]) : den ring_Num_Mul.G Go.Proofs.Tryd.f14 [(.st (.pair (.ar 8 (.st (.pair .bool (.sl (.int .u32))))) (.int .i64))), (.st (.pair (.ar 8 (.st (.pair .bool (.sl (.int .u32))))) (.int .i64)))] [(.st (.pair (.ar 8 (.st (.pair .bool (.sl (.int .u32))))) (.int .i64)))] x_ = ring_Num_Mul x_.1 x_.2 := by kernel_rfl
theorem ring_Num_Mul.p0 : PieceOk ring_Num_Mul.G (pieceAt (pieces ring_Num_Mul.G.cks (bodyOf Go.Proofs.Tryd.f14)) 0).1 (pieceAt (pieces ring_Num_Mul.G.cks (bodyOf Go.Proofs.Tryd.f14)) 0).2 :=
  loop_ok (s := ring_Num_Mul.c100003r) (by kernel_rfl) (by kernel_rfl) (loops_of (sh := ring_Num_Mul.c100003s) (I := fun x_ s_ => (x_.1, x_.2.1, x_.2.2.1, x_.2.2.2.1, x_.2.2.2.2.1, s_.1, x_.2.2.2.2.2.2.1, s_.2, ())) (fun x_ => rfl) (fun ρ x_ s_ k_ => (nat_br (nat_bnd fun _ => nat_leaf) nat_leaf)) (fun ρ x_ t k => (by kernel_rfl)) (fun x_ s => by kernel_rfl))
theorem ring_Num_Mul.p1 : PieceOk ring_Num_Mul.G (pieceAt (pieces ring_Num_Mul.G.cks (bodyOf Go.Proofs.Tryd.f14)) 1).1 (pieceAt (pieces ring_Num_Mul.G.cks (bodyOf Go.Proofs.Tryd.f14)) 1).2 :=
  join_ok (s := ring_Num_Mul.c216417r) (by kernel_rfl) (by kernel_rfl) (sums_of (sh := ring_Num_Mul.c216417s) (fun ρ x_ k_ => (nat_bnd fun _ => (nat_bnd fun _ => (nat_br nat_leaf (nat_bnd fun _ => nat_leaf))))) (fun ρ x_ t k => (by kernel_rfl)) (fun x_ => by kernel_rfl))
theorem ring_Num_Mul.p2 : PieceOk ring_Num_Mul.G (pieceAt (pieces ring_Num_Mul.G.cks (bodyOf Go.Proofs.Tryd.f14)) 2).1 (pieceAt (pieces ring_Num_Mul.G.cks (bodyOf Go.Proofs.Tryd.f14)) 2).2 :=
  loop_ok (s := ring_Num_Mul.c100007r) (by kernel_rfl) (by kernel_rfl) (loops_of (sh := ring_Num_Mul.c100007s) (I := fun x_ s_ => (x_.1, x_.2.1, x_.2.2.1, x_.2.2.2.1, x_.2.2.2.2.1, x_.2.2.2.2.2.1, x_.2.2.2.2.2.2.1, x_.2.2.2.2.2.2.2.1, s_.1, x_.2.2.2.2.2.2.2.2.2.1, s_.2, x_.2.2.2.2.2.2.2.2.2.2.2.1, x_.2.2.2.2.2.2.2.2.2.2.2.2.1, ())) (fun x_ => rfl) (fun ρ x_ s_ k_ => (nat_br (nat_bnd fun _ => (nat_bnd fun _ => (nat_bnd fun _ => (nat_bnd fun _ => nat_leaf)))) nat_leaf)) (fun ρ x_ t k => (by kernel_rfl)) (fun x_ s => by kernel_rfl))
theorem ring_Num_Mul.p3 : PieceOk ring_Num_Mul.G (pieceAt (pieces ring_Num_Mul.G.cks (bodyOf Go.Proofs.Tryd.f14)) 3).1 (pieceAt (pieces ring_Num_Mul.G.cks (bodyOf Go.Proofs.Tryd.f14)) 3).2 :=
  join_ok (s := ring_Num_Mul.c240965r) (by kernel_rfl) (by kernel_rfl) (sums_of (sh := ring_Num_Mul.c240965s) (fun ρ x_ k_ => (nat_br (nat_bnd fun _ => nat_leaf) nat_leaf)) (fun ρ x_ t k => (by kernel_rfl)) (fun x_ => by kernel_rfl))
theorem ring_Num_Mul.p4 : PieceOk ring_Num_Mul.G (pieceAt (pieces ring_Num_Mul.G.cks (bodyOf Go.Proofs.Tryd.f14)) 4).1 (pieceAt (pieces ring_Num_Mul.G.cks (bodyOf Go.Proofs.Tryd.f14)) 4).2 :=
  region_ok (s := ring_Num_Mul.c12r) (by kernel_rfl) (by kernel_rfl) (sums_of (sh := ring_Num_Mul.c12s) (fun ρ x_ k_ => (nat_bnd fun _ => (nat_bnd fun _ => (nat_bnd fun _ => (nat_bnd fun _ => (nat_bnd fun _ => (nat_bnd fun _ => (nat_bnd fun _ => nat_leaf)))))))) (fun ρ x_ t k => (by kernel_rfl)) (fun x_ => by kernel_rfl))
theorem ring_Num_Mul.ok : CalleeOk Go.Proofs.Tryd.prog 14 ring_Num_Mul.ce := fn_ok (G := ring_Num_Mul.G) tab_ok mixed Go.Proofs.Tryd.func14 ⟨(fns_cons whole_Int_Sign.ok (fns_cons whole_Int_Mul.ok (fns_cons whole_Int_Neg.ok (fns_cons whole_Int_Add.ok (fns_cons ring_least.ok fns_nil))))), mfns_nil, tab_eqs_ok⟩ (m := 5) (by kernel_rfl) ⟨⟨⟨⟨⟨trivial, ring_Num_Mul.p0⟩, ring_Num_Mul.p1⟩, ring_Num_Mul.p2⟩, ring_Num_Mul.p3⟩, ring_Num_Mul.p4⟩ (by kernel_rfl) ring_Num_Mul.eq
def ring_Num_Conj.c100004 {ρ : Type} (a_1 : (List ((Bool) × (List Int))) × (Int)) (t13 : Int) (out : List ((List ((Bool) × (List Int))) × (Int))) (k_ : ((Int) × (List ((List ((Bool) × (List Int))) × (Int)))) ⊕ ((Int) × (List ((List ((Bool) × (List Int))) × (Int)))) → Option ρ) : Option ρ :=
  br (decide (t13 < (7 : Int)))
   (bnd (idx (Prod.fst a_1) (IntKind.wrap IntKind.i64 (t13 + (1 : Int)))) fun y =>
    bnd (W.whole_Int_Neg y) fun y_1 =>
    bnd (inR (List.length out) (0 : Int)) fun y_2 =>
    bnd (okIf (decide ((0 : Ty.den (Ty.int IntKind.i64)) ≤ IntKind.wrap IntKind.i64 ((7 : Int) - t13)) && decide (IntKind.wrap IntKind.i64 ((7 : Int) - t13) < (↑(8 : Nat) : Int)))) fun y_3 =>
    bnd (idx out (0 : Int)) fun y_4 =>
    bnd (idx (Prod.fst y_4) (IntKind.wrap IntKind.i64 ((7 : Int) - t13))) fun y_5 =>
    k_ (.inl ((IntKind.wrap IntKind.i64 (t13 + (1 : Int))), (List.set out (0 : Nat) (List.set (Prod.fst y_4) (Int.toNat (IntKind.wrap IntKind.i64 ((7 : Int) - t13))) y_1, Prod.snd y_4)))))
   (k_ (.inr (t13, out)))
def ring_Num_Conj.c100004s : Shape := ⟨[(0, rb47), (1, rb48), (2, rb24), (3, rb41), (13, rb3)], [(2, rb26), (3, rb26)]⟩
def ring_Num_Conj.c100004x0 : Shape := ⟨[(0, rb47), (1, rb48), (2, rb24), (3, rb41), (13, rb3)], [(2, rb26), (3, rb26)]⟩
def ring_Num_Conj.c100004r : Ck := Ck.ofLoop (S := (Int) × (List ((List ((Bool) × (List Int))) × (Int)))) (T := (Int) × (List ((List ((Bool) × (List Int))) × (Int)))) ring_Num_Conj.c100004s (fun x_ => uP x_ fun a x_ => uP x_ fun a_1 x_ => uP x_ fun t13 x_ => uP x_ fun t2 x_ => uP x_ fun out x_ => (t13, out)) (fun ρ x_ s_ k_ => uP x_ fun a x_ => uP x_ fun a_1 x_ => uP x_ fun t13 x_ => uP x_ fun t2 x_ => uP x_ fun out x_ => ring_Num_Conj.c100004 a_1 s_.1 s_.2 k_) (fun ρ x_ r_ k_ => uP x_ fun a x_ => uP x_ fun a_1 x_ => uP x_ fun t13 x_ => uP x_ fun t2 x_ => uP x_ fun out x_ => k_ 2 (Shape.inj ring_Num_Conj.c100004x0 (a, a_1, r_.1, t2, r_.2, ())))
def ring_Num_Conj (a : (List ((Bool) × (List Int))) × (Int)) : Option ((List ((Bool) × (List Int))) × (Int)) :=
  bnd (idx (Prod.fst a) (0 : Int)) fun y =>
  bnd (idx (List.replicate (8 : Nat) (false, ([] : List (Ty.den (Ty.int IntKind.u32))))) (0 : Int)) fun y_1 =>
  bnd (iter (fun s ↦ W.ring_Num_Conj.c100004 a (Prod.fst s) (Prod.snd s) some) ((0 : Int), (List.set (List.replicate (8 : Nat) (false, ([] : List (Ty.den (Ty.int IntKind.u32))))) (0 : Nat) y, Prod.snd a) :: ([] : List (Ty.den (Ty.st (Ty.pair (Ty.ar (nat_lit 8) (Ty.st (Ty.pair Ty.bool (Ty.sl (Ty.int IntKind.u32))))) (Ty.int IntKind.i64))))))) fun y_2 =>
  bnd (idx (Prod.snd y_2) (0 : Int)) fun y_3 =>
  some y_3
def ring_Num_Conj.ce : Go.Ql.Callee := ⟨[(.st (.pair (.ar 8 (.st (.pair .bool (.sl (.int .u32))))) (.int .i64)))], [(.st (.pair (.ar 8 (.st (.pair .bool (.sl (.int .u32))))) (.int .i64)))], fun x_ => ring_Num_Conj x_⟩
def ring_Num_Conj.G : Env := ⟨28, tab, [(34, whole_Int_Neg.ce)], [0, 1, 2, 3, 4, 13, 14], [2, 3, 7, 8000001], [], [(100004, ring_Num_Conj.c100004r)], [], tab_eqs⟩
theorem ring_Num_Conj.eq (x_ : dens [(.st (.pair (.ar 8 (.st (.pair .bool (.sl (.int .u32))))) (.int .i64)))]) : den ring_Num_Conj.G Go.Proofs.Tryd.f18 [(.st (.pair (.ar 8 (.st (.pair .bool (.sl (.int .u32))))) (.int .i64)))] [(.st (.pair (.ar 8 (.st (.pair .bool (.sl (.int .u32))))) (.int .i64)))] x_ = ring_Num_Conj x_ := by kernel_rfl
theorem ring_Num_Conj.p0 : PieceOk ring_Num_Conj.G (pieceAt (pieces ring_Num_Conj.G.cks (bodyOf Go.Proofs.Tryd.f18)) 0).1 (pieceAt (pieces ring_Num_Conj.G.cks (bodyOf Go.Proofs.Tryd.f18)) 0).2 :=
  loop_ok (s := ring_Num_Conj.c100004r) (by kernel_rfl) (by kernel_rfl) (loops_of (sh := ring_Num_Conj.c100004s) (I := fun x_ s_ => (x_.1, x_.2.1, s_.1, x_.2.2.2.1, s_.2, ())) (fun x_ => rfl) (fun ρ x_ s_ k_ => (nat_br (nat_bnd fun _ => (nat_bnd fun _ => (nat_bnd fun _ => (nat_bnd fun _ => (nat_bnd fun _ => (nat_bnd fun _ => nat_leaf)))))) nat_leaf)) (fun ρ x_ t k => (by kernel_rfl)) (fun x_ s => by kernel_rfl))
theorem ring_Num_Conj.ok : CalleeOk Go.Proofs.Tryd.prog 18 ring_Num_Conj.ce := fn_ok (G := ring_Num_Conj.G) tab_ok mixed Go.Proofs.Tryd.func18 ⟨(fns_cons whole_Int_Neg.ok fns_nil), mfns_nil, tab_eqs_ok⟩ (m := 1) (by kernel_rfl) ⟨trivial, ring_Num_Conj.p0⟩ (by kernel_rfl) ring_Num_Conj.eq
def R_RConj.c5 {ρ : Type} (a_1 : (List ((Bool) × (List Int))) × (Int)) (i : Int) (out : List ((List ((Bool) × (List Int))) × (Int))) (k_ : List ((List ((Bool) × (List Int))) × (Int)) → Option ρ) : Option ρ :=
  bnd (idx out (0 : Int)) fun y =>
  bnd (idx (Prod.fst a_1) i) fun y_1 =>
  bnd (W.R_ROf y_1) fun y_2 =>
  bnd (W.R_RTurn (Prod.fst y_2, Prod.snd a_1) (IntKind.wrap IntKind.i64 ((0 : Int) - i))) fun y_3 =>
  bnd (W.R_RAdd y y_3) fun y_4 =>
  bnd (idx out (0 : Int)) fun y_5 =>
  k_ (List.set out (0 : Nat) y_4)
def R_RConj.c5s : Shape := ⟨[(0, rb32), (1, rb33), (2, rb24), (3, rb41), (4, rb3)], [(2, rb34), (3, rb34)]⟩
def R_RConj.c5x0 : Shape := ⟨[(0, rb32), (1, rb33), (2, rb24), (3, rb41), (4, rb3)], [(2, rb34), (3, rb34)]⟩
def R_RConj.c5r : Ck := Ck.of (T := List ((List ((Bool) × (List Int))) × (Int))) R_RConj.c5s (fun ρ x_ k_ => uP x_ fun a x_ => uP x_ fun a_1 x_ => uP x_ fun i x_ => uP x_ fun t2 x_ => uP x_ fun out x_ => R_RConj.c5 a_1 i out k_) (fun ρ x_ r_ k_ => uP x_ fun a x_ => uP x_ fun a_1 x_ => uP x_ fun i x_ => uP x_ fun t2 x_ => uP x_ fun out x_ => k_ 0 (Shape.inj R_RConj.c5x0 (a, a_1, i, t2, r_, ())))
def R_RConj.c100003 {ρ : Type} (a_1 : (List ((Bool) × (List Int))) × (Int)) (i : Int) (out : List ((List ((Bool) × (List Int))) × (Int))) (k_ : ((Int) × (List ((List ((Bool) × (List Int))) × (Int)))) ⊕ ((Int) × (List ((List ((Bool) × (List Int))) × (Int)))) → Option ρ) : Option ρ :=
  br (decide (i < (8 : Int)))
   (bnd (W.R_RConj.c5 a_1 i out some) fun y =>
    k_ (.inl ((IntKind.wrap IntKind.i64 (i + (1 : Int))), y)))
   (k_ (.inr (i, out)))
def R_RConj.c100003s : Shape := ⟨[(0, rb32), (1, rb33), (2, rb24), (3, rb41), (4, rb3)], [(2, rb34), (3, rb34)]⟩
def R_RConj.c100003x0 : Shape := ⟨[(0, rb32), (1, rb33), (2, rb24), (3, rb41), (4, rb3)], [(2, rb34), (3, rb34)]⟩
def R_RConj.c100003r : Ck := Ck.ofLoop (S := (Int) × (List ((List ((Bool) × (List Int))) × (Int)))) (T := (Int) × (List ((List ((Bool) × (List Int))) × (Int)))) R_RConj.c100003s (fun x_ => uP x_ fun a x_ => uP x_ fun a_1 x_ => uP x_ fun i x_ => uP x_ fun t2 x_ => uP x_ fun out x_ => (i, out)) (fun ρ x_ s_ k_ => uP x_ fun a x_ => uP x_ fun a_1 x_ => uP x_ fun i x_ => uP x_ fun t2 x_ => uP x_ fun out x_ => R_RConj.c100003 a_1 s_.1 s_.2 k_) (fun ρ x_ r_ k_ => uP x_ fun a x_ => uP x_ fun a_1 x_ => uP x_ fun i x_ => uP x_ fun t2 x_ => uP x_ fun out x_ => k_ 2 (Shape.inj R_RConj.c100003x0 (a, a_1, r_.1, t2, r_.2, ())))
def R_RConj (a : (List ((Bool) × (List Int))) × (Int)) : Option ((List ((Bool) × (List Int))) × (Int)) :=
  bnd (iter (fun s ↦ W.R_RConj.c100003 a (Prod.fst s) (Prod.snd s) some) ((0 : Int), [(List.replicate (8 : Nat) (false, []), (0 : Int))])) fun y =>
  bnd (W.R_RZero a) fun y_1 =>
  br y_1
   (some (List.replicate (8 : Nat) (false, []), (0 : Int)))
   (bnd (idx (Prod.snd y) (0 : Int)) fun y_2 =>
    bnd (W.R_rleast y_2) fun y_3 =>
    some y_3)
def R_RConj.ce : Go.Ql.Callee := ⟨[(.st (.pair (.ar 8 (.st (.pair .bool (.sl (.int .i64))))) (.int .i64)))], [(.st (.pair (.ar 8 (.st (.pair .bool (.sl (.int .i64))))) (.int .i64)))], fun x_ => R_RConj x_⟩
def R_RConj.G : Env := ⟨29, tab, [(26, R_ROf.ce), (37, R_RTurn.ce), (11, R_RAdd.ce), (39, R_RZero.ce), (40, R_rleast.ce)], [0, 1, 2, 3, 4, 7, 25], [2, 3, 5, 26, 8000001], [(5, [⟨[], [], [11, 12, 13, 14, 15, 16, 17, 18, 19, 20, 21, 22], []⟩, ⟨[], [], [10, 12, 17, 18, 20, 21], []⟩, ⟨[], [], [10, 11, 17, 18, 20, 21], []⟩, ⟨[2, 1], [], [10, 17, 18, 20, 21], []⟩, ⟨[3, 2, 1], [], [10, 17, 18, 20, 21], []⟩, ⟨[4, 3, 2, 1], [], [10, 17, 18, 20, 21], []⟩, ⟨[5, 4, 3, 2, 1], [], [10, 17, 18, 20, 21], []⟩, ⟨[], [], [10, 11, 12, 13, 14, 15, 16, 20, 21], []⟩, ⟨[7], [], [10, 11, 12, 13, 14, 15, 16, 20, 21], []⟩, ⟨[6, 5, 4, 3, 2, 1, 8, 7], [], [10, 20, 21], []⟩, ⟨[], [], [10, 11, 12, 13, 14, 15, 16, 17, 18, 19], []⟩, ⟨[10], [], [10, 11, 12, 13, 14, 15, 16, 17, 18, 19], []⟩, ⟨[9, 6, 5, 4, 3, 2, 1, 8, 7, 11, 10], [], [10], []⟩, ⟨[0, 12, 9, 6, 5, 4, 3, 2, 1, 8, 7, 11, 10], [], [], []⟩, ⟨[13, 0, 12, 9, 6, 5, 4, 3, 2, 1, 8, 7, 11, 10], [3], [], []⟩])], [(100003, R_RConj.c100003r), (5, R_RConj.c5r)], [], tab_eqs⟩
theorem R_RConj.eq (x_ : dens [(.st (.pair (.ar 8 (.st (.pair .bool (.sl (.int .i64))))) (.int .i64)))]) : den R_RConj.G Go.Proofs.Tryd.f19 [(.st (.pair (.ar 8 (.st (.pair .bool (.sl (.int .i64))))) (.int .i64)))] [(.st (.pair (.ar 8 (.st (.pair .bool (.sl (.int .i64))))) (.int .i64)))] x_ = R_RConj x_ := by kernel_rfl
theorem R_RConj.p0 : PieceOk R_RConj.G (pieceAt (pieces R_RConj.G.cks (bodyOf Go.Proofs.Tryd.f19)) 0).1 (pieceAt (pieces R_RConj.G.cks (bodyOf Go.Proofs.Tryd.f19)) 0).2 :=
  loop_ok (s := R_RConj.c100003r) (by kernel_rfl) (by kernel_rfl) (loops_of (sh := R_RConj.c100003s) (I := fun x_ s_ => (x_.1, x_.2.1, s_.1, x_.2.2.2.1, s_.2, ())) (fun x_ => rfl) (fun ρ x_ s_ k_ => (nat_br (nat_bnd fun _ => nat_leaf) nat_leaf)) (fun ρ x_ t k => (by kernel_rfl)) (fun x_ s => by kernel_rfl))
theorem R_RConj.p1 : PieceOk R_RConj.G (pieceAt (pieces R_RConj.G.cks (bodyOf Go.Proofs.Tryd.f19)) 1).1 (pieceAt (pieces R_RConj.G.cks (bodyOf Go.Proofs.Tryd.f19)) 1).2 :=
  region_ok (s := R_RConj.c5r) (by kernel_rfl) (by kernel_rfl) (sums_of (sh := R_RConj.c5s) (fun ρ x_ k_ => (nat_bnd fun _ => (nat_bnd fun _ => (nat_bnd fun _ => (nat_bnd fun _ => (nat_bnd fun _ => (nat_bnd fun _ => nat_leaf))))))) (fun ρ x_ t k => (by kernel_rfl)) (fun x_ => by kernel_rfl))
theorem R_RConj.ok : CalleeOk Go.Proofs.Tryd.prog 19 R_RConj.ce := fn_ok (G := R_RConj.G) tab_ok mixed Go.Proofs.Tryd.func19 ⟨(fns_cons R_ROf.ok (fns_cons R_RTurn.ok (fns_cons R_RAdd.ok (fns_cons R_RZero.ok (fns_cons R_rleast.ok fns_nil))))), mfns_nil, tab_eqs_ok⟩ (m := 2) (by kernel_rfl) ⟨⟨trivial, R_RConj.p0⟩, R_RConj.p1⟩ (by kernel_rfl) R_RConj.eq
def ring_Num_Norm.c1 {ρ : Type} (a_1 : (List ((Bool) × (List Int))) × (Int)) (t2 : List ((List ((Bool) × (List Int))) × (Int))) (k_ : List ((List ((Bool) × (List Int))) × (Int)) → Option ρ) : Option ρ :=
  bnd (W.ring_Num_Conj a_1) fun y =>
  bnd (W.ring_Num_Mul a_1 y) fun y_1 =>
  bnd (idx t2 (0 : Int)) fun y_2 =>
  k_ (List.set t2 (0 : Nat) y_1)
def ring_Num_Norm.c1s : Shape := ⟨[(0, rb47), (1, rb48), (2, rb24)], [(2, rb26)]⟩
def ring_Num_Norm.c1x0 : Shape := ⟨[(0, rb47), (1, rb48), (2, rb24)], [(2, rb26)]⟩
def ring_Num_Norm.c1r : Ck := Ck.of (T := List ((List ((Bool) × (List Int))) × (Int))) ring_Num_Norm.c1s (fun ρ x_ k_ => uP x_ fun a x_ => uP x_ fun a_1 x_ => uP x_ fun t2 x_ => ring_Num_Norm.c1 a_1 t2 k_) (fun ρ x_ r_ k_ => uP x_ fun a x_ => uP x_ fun a_1 x_ => uP x_ fun t2 x_ => k_ 0 (Shape.inj ring_Num_Norm.c1x0 (a, a_1, r_, ())))
def ring_Num_Norm (a : (List ((Bool) × (List Int))) × (Int)) : Option ((List ((Bool) × (List Int))) × (Int)) :=
  bnd (W.ring_Num_Norm.c1 a [(List.replicate (8 : Nat) (false, []), (0 : Int))] some) fun y =>
  bnd (idx y (0 : Int)) fun y_1 =>
  some y_1
def ring_Num_Norm.ce : Go.Ql.Callee := ⟨[(.st (.pair (.ar 8 (.st (.pair .bool (.sl (.int .u32))))) (.int .i64)))], [(.st (.pair (.ar 8 (.st (.pair .bool (.sl (.int .u32))))) (.int .i64)))], fun x_ => ring_Num_Norm x_⟩
def ring_Num_Norm.G : Env := ⟨7, tab, [(18, ring_Num_Conj.ce), (14, ring_Num_Mul.ce)], [0, 1, 2], [2, 8000001], [(1, [⟨[], [], [4, 5], []⟩, ⟨[], [], [3], []⟩, ⟨[1], [], [3], []⟩, ⟨[0, 2, 1], [], [], []⟩, ⟨[3, 0, 2, 1], [2], [], []⟩])], [(1, ring_Num_Norm.c1r)], [], tab_eqs⟩
theorem ring_Num_Norm.eq (x_ : dens [(.st (.pair (.ar 8 (.st (.pair .bool (.sl (.int .u32))))) (.int .i64)))]) : den ring_Num_Norm.G Go.Proofs.Tryd.f20 [(.st (.pair (.ar 8 (.st (.pair .bool (.sl (.int .u32))))) (.int .i64)))] [(.st (.pair (.ar 8 (.st (.pair .bool (.sl (.int .u32))))) (.int .i64)))] x_ = ring_Num_Norm x_ := by kernel_rfl
theorem ring_Num_Norm.p0 : PieceOk ring_Num_Norm.G (pieceAt (pieces ring_Num_Norm.G.cks (bodyOf Go.Proofs.Tryd.f20)) 0).1 (pieceAt (pieces ring_Num_Norm.G.cks (bodyOf Go.Proofs.Tryd.f20)) 0).2 :=
  region_ok (s := ring_Num_Norm.c1r) (by kernel_rfl) (by kernel_rfl) (sums_of (sh := ring_Num_Norm.c1s) (fun ρ x_ k_ => (nat_bnd fun _ => (nat_bnd fun _ => (nat_bnd fun _ => nat_leaf)))) (fun ρ x_ t k => (by kernel_rfl)) (fun x_ => by kernel_rfl))
theorem ring_Num_Norm.ok : CalleeOk Go.Proofs.Tryd.prog 20 ring_Num_Norm.ce := fn_ok (G := ring_Num_Norm.G) tab_ok mixed Go.Proofs.Tryd.func20 ⟨(fns_cons ring_Num_Conj.ok (fns_cons ring_Num_Mul.ok fns_nil)), mfns_nil, tab_eqs_ok⟩ (m := 1) (by kernel_rfl) ⟨trivial, ring_Num_Norm.p0⟩ (by kernel_rfl) ring_Num_Norm.eq
def R_RNorm.c1 {ρ : Type} (a_1 : (List ((Bool) × (List Int))) × (Int)) (t2 : List ((List ((Bool) × (List Int))) × (Int))) (k_ : List ((List ((Bool) × (List Int))) × (Int)) → Option ρ) : Option ρ :=
  bnd (W.R_RConj a_1) fun y =>
  bnd (W.R_RMul a_1 y) fun y_1 =>
  bnd (idx t2 (0 : Int)) fun y_2 =>
  k_ (List.set t2 (0 : Nat) y_1)
def R_RNorm.c1s : Shape := ⟨[(0, rb32), (1, rb33), (2, rb24)], [(2, rb34)]⟩
def R_RNorm.c1x0 : Shape := ⟨[(0, rb32), (1, rb33), (2, rb24)], [(2, rb34)]⟩
def R_RNorm.c1r : Ck := Ck.of (T := List ((List ((Bool) × (List Int))) × (Int))) R_RNorm.c1s (fun ρ x_ k_ => uP x_ fun a x_ => uP x_ fun a_1 x_ => uP x_ fun t2 x_ => R_RNorm.c1 a_1 t2 k_) (fun ρ x_ r_ k_ => uP x_ fun a x_ => uP x_ fun a_1 x_ => uP x_ fun t2 x_ => k_ 0 (Shape.inj R_RNorm.c1x0 (a, a_1, r_, ())))
def R_RNorm (a : (List ((Bool) × (List Int))) × (Int)) : Option ((List ((Bool) × (List Int))) × (Int)) :=
  bnd (W.R_RNorm.c1 a [(List.replicate (8 : Nat) (false, []), (0 : Int))] some) fun y =>
  bnd (idx y (0 : Int)) fun y_1 =>
  some y_1
def R_RNorm.ce : Go.Ql.Callee := ⟨[(.st (.pair (.ar 8 (.st (.pair .bool (.sl (.int .i64))))) (.int .i64)))], [(.st (.pair (.ar 8 (.st (.pair .bool (.sl (.int .i64))))) (.int .i64)))], fun x_ => R_RNorm x_⟩
def R_RNorm.G : Env := ⟨7, tab, [(19, R_RConj.ce), (15, R_RMul.ce)], [0, 1, 2], [2, 8000001], [(1, [⟨[], [], [4, 5], []⟩, ⟨[], [], [3], []⟩, ⟨[1], [], [3], []⟩, ⟨[0, 2, 1], [], [], []⟩, ⟨[3, 0, 2, 1], [2], [], []⟩])], [(1, R_RNorm.c1r)], [], tab_eqs⟩
theorem R_RNorm.eq (x_ : dens [(.st (.pair (.ar 8 (.st (.pair .bool (.sl (.int .i64))))) (.int .i64)))]) : den R_RNorm.G Go.Proofs.Tryd.f21 [(.st (.pair (.ar 8 (.st (.pair .bool (.sl (.int .i64))))) (.int .i64)))] [(.st (.pair (.ar 8 (.st (.pair .bool (.sl (.int .i64))))) (.int .i64)))] x_ = R_RNorm x_ := by kernel_rfl
theorem R_RNorm.p0 : PieceOk R_RNorm.G (pieceAt (pieces R_RNorm.G.cks (bodyOf Go.Proofs.Tryd.f21)) 0).1 (pieceAt (pieces R_RNorm.G.cks (bodyOf Go.Proofs.Tryd.f21)) 0).2 :=
  region_ok (s := R_RNorm.c1r) (by kernel_rfl) (by kernel_rfl) (sums_of (sh := R_RNorm.c1s) (fun ρ x_ k_ => (nat_bnd fun _ => (nat_bnd fun _ => (nat_bnd fun _ => nat_leaf)))) (fun ρ x_ t k => (by kernel_rfl)) (fun x_ => by kernel_rfl))
theorem R_RNorm.ok : CalleeOk Go.Proofs.Tryd.prog 21 R_RNorm.ce := fn_ok (G := R_RNorm.G) tab_ok mixed Go.Proofs.Tryd.func21 ⟨(fns_cons R_RConj.ok (fns_cons R_RMul.ok fns_nil)), mfns_nil, tab_eqs_ok⟩ (m := 1) (by kernel_rfl) ⟨trivial, R_RNorm.p0⟩ (by kernel_rfl) R_RNorm.eq
def whole_Int_Cmp.c1 {ρ : Type} (a0 : Bool) (a1 : List (Int)) (b0 : Bool) (b1 : List (Int)) (k_ : Int → Option ρ) : Option ρ :=
  bnd (W.whole_Int_Sign (a0, a1)) fun y =>
  bnd (W.whole_Int_Sign (b0, b1)) fun y_1 =>
  bnd (W.cmp_Compare_int y y_1) fun y_2 =>
  k_ y_2
def whole_Int_Cmp.c1s : Shape := ⟨[(0, rb11), (1, rb11), (2, rb5), (3, rb12), (4, rb3)], [(2, rb4), (3, rb4)]⟩
def whole_Int_Cmp.c1x0 : Shape := ⟨[(0, rb11), (1, rb11), (2, rb5), (3, rb12), (4, rb3), (5, rb3)], [(2, rb4), (3, rb4)]⟩
def whole_Int_Cmp.c1r : Ck := Ck.of (T := Int) whole_Int_Cmp.c1s (fun ρ x_ k_ => uP x_ fun a x_ => uP x_ fun b x_ => uP x_ fun t4 x_ => uP x_ fun a0 x_ => uP x_ fun a1 x_ => uP x_ fun b0 x_ => uP x_ fun b1 x_ => whole_Int_Cmp.c1 a0 a1 b0 b1 k_) (fun ρ x_ r_ k_ => uP x_ fun a x_ => uP x_ fun b x_ => uP x_ fun t4 x_ => uP x_ fun a0 x_ => uP x_ fun a1 x_ => uP x_ fun b0 x_ => uP x_ fun b1 x_ => k_ 0 (Shape.inj whole_Int_Cmp.c1x0 (a, b, t4, r_, a0, a1, b0, b1, ())))
def whole_Int_Cmp.c2 {ρ : Type} (c : Int) (a0 : Bool) (a1 : List (Int)) (k_ : Bool → Option ρ) : Option ρ :=
  br (c != (0 : Int))
   (k_ true)
   (bnd (W.whole_Int_Sign (a0, a1)) fun y =>
    k_ (y == (0 : Int)))
def whole_Int_Cmp.c2s : Shape := ⟨[(0, rb11), (1, rb11), (2, rb5), (3, rb12), (4, rb3), (5, rb3)], [(2, rb4), (3, rb4)]⟩
def whole_Int_Cmp.c2x0 : Shape := ⟨[(0, rb11), (1, rb11), (2, rb5), (3, rb12), (4, rb3), (5, rb3), (17, rb0)], [(2, rb4), (3, rb4)]⟩
def whole_Int_Cmp.c2r : Ck := Ck.of (T := Bool) whole_Int_Cmp.c2s (fun ρ x_ k_ => uP x_ fun a x_ => uP x_ fun b x_ => uP x_ fun t4 x_ => uP x_ fun c x_ => uP x_ fun a0 x_ => uP x_ fun a1 x_ => uP x_ fun b0 x_ => uP x_ fun b1 x_ => whole_Int_Cmp.c2 c a0 a1 k_) (fun ρ x_ r_ k_ => uP x_ fun a x_ => uP x_ fun b x_ => uP x_ fun t4 x_ => uP x_ fun c x_ => uP x_ fun a0 x_ => uP x_ fun a1 x_ => uP x_ fun b0 x_ => uP x_ fun b1 x_ => k_ 0 (Shape.inj whole_Int_Cmp.c2x0 (a, b, t4, c, r_, a0, a1, b0, b1, ())))
def whole_Int_Cmp.c4 {ρ : Type} (a0 : Bool) (a1 : List (Int)) (b1 : List (Int)) (k_ : Int → Option ρ) : Option ρ :=
  bnd (W.whole_Int_Sign (a0, a1)) fun y =>
  bnd (W.whole_order a1 b1) fun y_1 =>
  k_ (IntKind.wrap IntKind.i64 (y * y_1))
def whole_Int_Cmp.c4s : Shape := ⟨[(0, rb11), (1, rb11), (2, rb5), (3, rb12), (4, rb3), (5, rb3)], [(2, rb4), (3, rb4)]⟩
def whole_Int_Cmp.c4x0 : Shape := ⟨[(0, rb11), (1, rb11), (2, rb5), (3, rb12), (4, rb3), (5, rb3)], [(2, rb4), (3, rb4)]⟩
def whole_Int_Cmp.c4r : Ck := Ck.of (T := Int) whole_Int_Cmp.c4s (fun ρ x_ k_ => uP x_ fun a x_ => uP x_ fun b x_ => uP x_ fun t4 x_ => uP x_ fun c x_ => uP x_ fun a0 x_ => uP x_ fun a1 x_ => uP x_ fun b0 x_ => uP x_ fun b1 x_ => whole_Int_Cmp.c4 a0 a1 b1 k_) (fun ρ x_ r_ k_ => uP x_ fun a x_ => uP x_ fun b x_ => uP x_ fun t4 x_ => uP x_ fun c x_ => uP x_ fun a0 x_ => uP x_ fun a1 x_ => uP x_ fun b0 x_ => uP x_ fun b1 x_ => k_ 0 (Shape.inj whole_Int_Cmp.c4x0 (a, b, r_, c, a0, a1, b0, b1, ())))
def whole_Int_Cmp (a : (Bool) × (List Int)) (b : (Bool) × (List Int)) : Option (Int) :=
  bnd (W.whole_Int_Cmp.c1 (Prod.fst a) (Prod.snd a) (Prod.fst b) (Prod.snd b) some) fun y =>
  bnd (W.whole_Int_Cmp.c2 y (Prod.fst a) (Prod.snd a) some) fun y_1 =>
  br y_1
   (some y)
   (bnd (W.whole_Int_Cmp.c4 (Prod.fst a) (Prod.snd a) (Prod.snd b) some) fun y_2 =>
    some y_2)
def whole_Int_Cmp.ce : Go.Ql.Callee := ⟨[(.st (.pair .bool (.sl (.int .u32)))), (.st (.pair .bool (.sl (.int .u32))))], [(.int .i64)], fun x_ => whole_Int_Cmp x_.1 x_.2⟩
def whole_Int_Cmp.G : Env := ⟨27, tab, [(41, whole_Int_Sign.ce), (77, cmp_Compare_int.ce), (62, whole_order.ce)], [0, 1, 2, 3, 4, 5, 17], [], [(4, [⟨[], [], [21, 22, 23, 24], []⟩, ⟨[0], [], [21, 22, 23, 24], []⟩, ⟨[], [], [19, 20, 23, 24], []⟩, ⟨[2], [], [19, 20, 23, 24], []⟩, ⟨[], [], [19, 20, 21, 22], []⟩, ⟨[4], [], [19, 20, 21, 22], []⟩, ⟨[3, 2, 5, 4, 1, 0], [], [], []⟩, ⟨[1, 0, 6, 3, 2, 5, 4], [], [], []⟩, ⟨[7, 1, 0, 6, 3, 2, 5, 4], [], [], []⟩]),
  (1, [⟨[], [], [8], []⟩, ⟨[0], [], [8], []⟩, ⟨[], [], [6, 7], []⟩, ⟨[2, 1, 0], [], [], []⟩, ⟨[1, 0, 3, 2], [], [], []⟩, ⟨[4, 1, 0, 3, 2], [], [], []⟩])], [(4, whole_Int_Cmp.c4r), (2, whole_Int_Cmp.c2r), (1, whole_Int_Cmp.c1r)], [], tab_eqs⟩
theorem whole_Int_Cmp.eq (x_ : dens [(.st (.pair .bool (.sl (.int .u32)))), (.st (.pair .bool (.sl (.int .u32))))]) : den whole_Int_Cmp.G Go.Proofs.Tryd.f53 [(.st (.pair .bool (.sl (.int .u32)))), (.st (.pair .bool (.sl (.int .u32))))] [(.int .i64)] x_ = whole_Int_Cmp x_.1 x_.2 := by kernel_rfl
theorem whole_Int_Cmp.p0 : PieceOk whole_Int_Cmp.G (pieceAt (pieces whole_Int_Cmp.G.cks (bodyOf Go.Proofs.Tryd.f53)) 0).1 (pieceAt (pieces whole_Int_Cmp.G.cks (bodyOf Go.Proofs.Tryd.f53)) 0).2 :=
  region_ok (s := whole_Int_Cmp.c1r) (by kernel_rfl) (by kernel_rfl) (sums_of (sh := whole_Int_Cmp.c1s) (fun ρ x_ k_ => (nat_bnd fun _ => (nat_bnd fun _ => (nat_bnd fun _ => nat_leaf)))) (fun ρ x_ t k => (by kernel_rfl)) (fun x_ => by kernel_rfl))
theorem whole_Int_Cmp.p1 : PieceOk whole_Int_Cmp.G (pieceAt (pieces whole_Int_Cmp.G.cks (bodyOf Go.Proofs.Tryd.f53)) 1).1 (pieceAt (pieces whole_Int_Cmp.G.cks (bodyOf Go.Proofs.Tryd.f53)) 1).2 :=
  region_ok (s := whole_Int_Cmp.c2r) (by kernel_rfl) (by kernel_rfl) (sums_of (sh := whole_Int_Cmp.c2s) (fun ρ x_ k_ => (nat_br nat_leaf (nat_bnd fun _ => nat_leaf))) (fun ρ x_ t k => (by kernel_rfl)) (fun x_ => by kernel_rfl))
theorem whole_Int_Cmp.p2 : PieceOk whole_Int_Cmp.G (pieceAt (pieces whole_Int_Cmp.G.cks (bodyOf Go.Proofs.Tryd.f53)) 2).1 (pieceAt (pieces whole_Int_Cmp.G.cks (bodyOf Go.Proofs.Tryd.f53)) 2).2 :=
  region_ok (s := whole_Int_Cmp.c4r) (by kernel_rfl) (by kernel_rfl) (sums_of (sh := whole_Int_Cmp.c4s) (fun ρ x_ k_ => (nat_bnd fun _ => (nat_bnd fun _ => nat_leaf))) (fun ρ x_ t k => (by kernel_rfl)) (fun x_ => by kernel_rfl))
theorem whole_Int_Cmp.ok : CalleeOk Go.Proofs.Tryd.prog 53 whole_Int_Cmp.ce := fn_ok (G := whole_Int_Cmp.G) tab_ok mixed Go.Proofs.Tryd.func53 ⟨(fns_cons whole_Int_Sign.ok (fns_cons cmp_Compare_int.ok (fns_cons whole_order.ok fns_nil))), mfns_nil, tab_eqs_ok⟩ (m := 3) (by kernel_rfl) ⟨⟨⟨trivial, whole_Int_Cmp.p0⟩, whole_Int_Cmp.p1⟩, whole_Int_Cmp.p2⟩ (by kernel_rfl) whole_Int_Cmp.eq
def ring_Num_Same.c4 {ρ : Type} (a_1 : (List ((Bool) × (List Int))) × (Int)) (b_1 : (List ((Bool) × (List Int))) × (Int)) (i : Int) (k_ : Bool → Option ρ) : Option ρ :=
  bnd (idx (Prod.fst a_1) i) fun y =>
  bnd (idx (Prod.fst b_1) i) fun y_1 =>
  bnd (W.whole_Int_Cmp y y_1) fun y_2 =>
  k_ (y_2 != (0 : Int))
def ring_Num_Same.c4s : Shape := ⟨[(0, rb47), (1, rb47), (2, rb48), (3, rb48), (4, rb0), (5, rb3), (6, rb3)], []⟩
def ring_Num_Same.c4x0 : Shape := ⟨[(0, rb47), (1, rb47), (2, rb48), (3, rb48), (4, rb0), (5, rb3), (6, rb3), (18, rb0)], []⟩
def ring_Num_Same.c4r : Ck := Ck.of (T := Bool) ring_Num_Same.c4s (fun ρ x_ k_ => uP x_ fun a x_ => uP x_ fun b x_ => uP x_ fun a_1 x_ => uP x_ fun b_1 x_ => uP x_ fun t4 x_ => uP x_ fun i x_ => uP x_ fun t6 x_ => ring_Num_Same.c4 a_1 b_1 i k_) (fun ρ x_ r_ k_ => uP x_ fun a x_ => uP x_ fun b x_ => uP x_ fun a_1 x_ => uP x_ fun b_1 x_ => uP x_ fun t4 x_ => uP x_ fun i x_ => uP x_ fun t6 x_ => k_ 0 (Shape.inj ring_Num_Same.c4x0 (a, b, a_1, b_1, t4, i, t6, r_, ())))
def ring_Num_Same.c100002 {ρ : Type} (a_1 : (List ((Bool) × (List Int))) × (Int)) (b_1 : (List ((Bool) × (List Int))) × (Int)) (t6 : Int) (k_ : (Int) ⊕ ((Int) ⊕ (Int)) → Option ρ) : Option ρ :=
  br (decide (t6 < (8 : Int)))
   (bnd (W.ring_Num_Same.c4 a_1 b_1 t6 some) fun y =>
    br y
     (k_ (.inr (.inl t6)))
     (k_ (.inl (IntKind.wrap IntKind.i64 (t6 + (1 : Int))))))
   (k_ (.inr (.inr t6)))
def ring_Num_Same.c100002s : Shape := ⟨[(0, rb47), (1, rb47), (2, rb48), (3, rb48), (4, rb0), (6, rb3)], []⟩
def ring_Num_Same.c100002x0 : Shape := ⟨[(0, rb47), (1, rb47), (2, rb48), (3, rb48), (4, rb0), (6, rb3)], []⟩
def ring_Num_Same.c100002x1 : Shape := ⟨[(0, rb47), (1, rb47), (2, rb48), (3, rb48), (4, rb0), (6, rb3)], []⟩
def ring_Num_Same.c100002r : Ck := Ck.ofLoop (S := Int) (T := (Int) ⊕ (Int)) ring_Num_Same.c100002s (fun x_ => uP x_ fun a x_ => uP x_ fun b x_ => uP x_ fun a_1 x_ => uP x_ fun b_1 x_ => uP x_ fun t4 x_ => uP x_ fun t6 x_ => t6) (fun ρ x_ s_ k_ => uP x_ fun a x_ => uP x_ fun b x_ => uP x_ fun a_1 x_ => uP x_ fun b_1 x_ => uP x_ fun t4 x_ => uP x_ fun t6 x_ => ring_Num_Same.c100002 a_1 b_1 s_ k_) (fun ρ x_ r_ k_ => uP x_ fun a x_ => uP x_ fun b x_ => uP x_ fun a_1 x_ => uP x_ fun b_1 x_ => uP x_ fun t4 x_ => uP x_ fun t6 x_ => sel r_ (fun r_ => k_ 1 (Shape.inj ring_Num_Same.c100002x0 (a, b, a_1, b_1, false, r_, ()))) (fun r_ => k_ 2 (Shape.inj ring_Num_Same.c100002x1 (a, b, a_1, b_1, t4, r_, ()))))
def ring_Num_Same (a : (List ((Bool) × (List Int))) × (Int)) (b : (List ((Bool) × (List Int))) × (Int)) : Option (Bool) :=
  bnd (iter (fun s ↦ W.ring_Num_Same.c100002 a b s some) (0 : Int)) fun y =>
  sel y
   (fun u => some false)
   (fun v => some (Prod.snd a == Prod.snd b))
def ring_Num_Same.ce : Go.Ql.Callee := ⟨[(.st (.pair (.ar 8 (.st (.pair .bool (.sl (.int .u32))))) (.int .i64))), (.st (.pair (.ar 8 (.st (.pair .bool (.sl (.int .u32))))) (.int .i64)))], [.bool], fun x_ => ring_Num_Same x_.1 x_.2⟩
def ring_Num_Same.G : Env := ⟨25, tab, [(53, whole_Int_Cmp.ce)], [0, 1, 2, 3, 4, 5, 6, 7, 18], [8000002, 8000003], [(4, [⟨[], [], [10, 13, 14, 15, 16], []⟩, ⟨[], [], [9, 13, 14, 15, 16], []⟩, ⟨[1, 0], [], [13, 14, 15, 16], []⟩, ⟨[2, 1, 0], [], [13, 14, 15, 16], []⟩, ⟨[], [], [9, 10, 11, 12, 14], []⟩, ⟨[], [], [9, 10, 11, 12, 13], []⟩, ⟨[5, 4], [], [9, 10, 11, 12], []⟩, ⟨[6, 5, 4], [], [9, 10, 11, 12], []⟩, ⟨[3, 2, 1, 0, 7, 6, 5, 4], [], [], []⟩, ⟨[8, 3, 2, 1, 0, 7, 6, 5, 4], [], [], []⟩])], [(100002, ring_Num_Same.c100002r), (4, ring_Num_Same.c4r)], [], tab_eqs⟩
theorem ring_Num_Same.eq (x_ : dens [(.st (.pair (.ar 8 (.st (.pair .bool (.sl (.int .u32))))) (.int .i64))), (.st (.pair (.ar 8 (.st (.pair .bool (.sl (.int .u32))))) (.int .i64)))]) : den ring_Num_Same.G Go.Proofs.Tryd.f22 [(.st (.pair (.ar 8 (.st (.pair .bool (.sl (.int .u32))))) (.int .i64))), (.st (.pair (.ar 8 (.st (.pair .bool (.sl (.int .u32))))) (.int .i64)))] [.bool] x_ = ring_Num_Same x_.1 x_.2 := by kernel_rfl
theorem ring_Num_Same.p0 : PieceOk ring_Num_Same.G (pieceAt (pieces ring_Num_Same.G.cks (bodyOf Go.Proofs.Tryd.f22)) 0).1 (pieceAt (pieces ring_Num_Same.G.cks (bodyOf Go.Proofs.Tryd.f22)) 0).2 :=
  loop_ok (s := ring_Num_Same.c100002r) (by kernel_rfl) (by kernel_rfl) (loops_of (sh := ring_Num_Same.c100002s) (I := fun x_ s_ => (x_.1, x_.2.1, x_.2.2.1, x_.2.2.2.1, x_.2.2.2.2.1, s_, ())) (fun x_ => rfl) (fun ρ x_ s_ k_ => (nat_br (nat_bnd fun _ => (nat_br nat_leaf nat_leaf)) nat_leaf)) (fun ρ x_ t k => (nat_sel (fun _ => (by kernel_rfl)) (fun _ => (by kernel_rfl)))) (fun x_ s => by kernel_rfl))
theorem ring_Num_Same.p1 : PieceOk ring_Num_Same.G (pieceAt (pieces ring_Num_Same.G.cks (bodyOf Go.Proofs.Tryd.f22)) 1).1 (pieceAt (pieces ring_Num_Same.G.cks (bodyOf Go.Proofs.Tryd.f22)) 1).2 :=
  region_ok (s := ring_Num_Same.c4r) (by kernel_rfl) (by kernel_rfl) (sums_of (sh := ring_Num_Same.c4s) (fun ρ x_ k_ => (nat_bnd fun _ => (nat_bnd fun _ => (nat_bnd fun _ => nat_leaf)))) (fun ρ x_ t k => (by kernel_rfl)) (fun x_ => by kernel_rfl))
theorem ring_Num_Same.ok : CalleeOk Go.Proofs.Tryd.prog 22 ring_Num_Same.ce := fn_ok (G := ring_Num_Same.G) tab_ok mixed Go.Proofs.Tryd.func22 ⟨(fns_cons whole_Int_Cmp.ok fns_nil), mfns_nil, tab_eqs_ok⟩ (m := 2) (by kernel_rfl) ⟨⟨trivial, ring_Num_Same.p0⟩, ring_Num_Same.p1⟩ (by kernel_rfl) ring_Num_Same.eq
def R_RSame (a : (List ((Bool) × (List Int))) × (Int)) (b : (List ((Bool) × (List Int))) × (Int)) : Option (Bool) :=
  bnd (W.R_RSub a b) fun y =>
  bnd (W.R_RZero y) fun y_1 =>
  some y_1
def R_RSame.ce : Go.Ql.Callee := ⟨[(.st (.pair (.ar 8 (.st (.pair .bool (.sl (.int .i64))))) (.int .i64))), (.st (.pair (.ar 8 (.st (.pair .bool (.sl (.int .i64))))) (.int .i64)))], [.bool], fun x_ => R_RSame x_.1 x_.2⟩
def R_RSame.G : Env := ⟨9, tab, [(13, R_RSub.ce), (39, R_RZero.ce)], [0, 1, 2, 3, 4], [8000002, 8000003], [], [], [], tab_eqs⟩
theorem R_RSame.eq (x_ : dens [(.st (.pair (.ar 8 (.st (.pair .bool (.sl (.int .i64))))) (.int .i64))), (.st (.pair (.ar 8 (.st (.pair .bool (.sl (.int .i64))))) (.int .i64)))]) : den R_RSame.G Go.Proofs.Tryd.f23 [(.st (.pair (.ar 8 (.st (.pair .bool (.sl (.int .i64))))) (.int .i64))), (.st (.pair (.ar 8 (.st (.pair .bool (.sl (.int .i64))))) (.int .i64)))] [.bool] x_ = R_RSame x_.1 x_.2 := by kernel_rfl
theorem R_RSame.ok : CalleeOk Go.Proofs.Tryd.prog 23 R_RSame.ce := fn_ok (G := R_RSame.G) tab_ok mixed Go.Proofs.Tryd.func23 ⟨(fns_cons R_RSub.ok (fns_cons R_RZero.ok fns_nil)), mfns_nil, tab_eqs_ok⟩ (m := 0) (by kernel_rfl) trivial (by kernel_rfl) R_RSame.eq
def ring_Of (n : (Bool) × (List Int)) : Option ((List ((Bool) × (List Int))) × (Int)) :=
  some (List.set (List.replicate (8 : Nat) (false, [])) (0 : Nat) (Prod.fst n, Prod.snd n), (0 : Int))
def ring_Of.ce : Go.Ql.Callee := ⟨[(.st (.pair .bool (.sl (.int .u32))))], [(.st (.pair (.ar 8 (.st (.pair .bool (.sl (.int .u32))))) (.int .i64)))], fun x_ => ring_Of x_⟩
def ring_Of.G : Env := ⟨6, tab, [], [0, 1, 2], [2, 5], [], [], [], tab_eqs⟩
theorem ring_Of.eq (x_ : dens [(.st (.pair .bool (.sl (.int .u32))))]) : den ring_Of.G Go.Proofs.Tryd.f24 [(.st (.pair .bool (.sl (.int .u32))))] [(.st (.pair (.ar 8 (.st (.pair .bool (.sl (.int .u32))))) (.int .i64)))] x_ = ring_Of x_ := by kernel_rfl
theorem ring_Of.ok : CalleeOk Go.Proofs.Tryd.prog 24 ring_Of.ce := fn_ok (G := ring_Of.G) tab_ok mixed Go.Proofs.Tryd.func24 ⟨fns_nil, mfns_nil, tab_eqs_ok⟩ (m := 0) (by kernel_rfl) trivial (by kernel_rfl) ring_Of.eq
abbrev rb56 : SD := .one (.aptr 9 0)
abbrev rb57 : SD := .one (.aptr 11 0)
abbrev rb58 : SD := .one (.ref 12 0)
abbrev rb59 : SD := .one (.aptr 13 0)
abbrev rb60 : SD := .one (.ref 14 0)
abbrev rb61 : SD := .one (.aptr 15 0)
abbrev rb62 : SD := .one (.ref 16 0)
def Law_RingReckons.c5 {ρ : Type} (a : List ((List ((Bool) × (List Int))) × (Int))) (f0 : Int) (f1 : Int) (b : List ((List ((Bool) × (List Int))) × (Int))) (g0 : Int) (g1 : Int) (x : List ((List ((Bool) × (List Int))) × (Int))) (rf0 : Int) (rf1 : Int) (y : List ((List ((Bool) × (List Int))) × (Int))) (rg0 : Int) (rg1 : Int) (k_ : Bool → Option ρ) : Option ρ :=
  bnd W.Law_ringBegun fun y_1 =>
  br (!y_1)
   (k_ true)
   (br (!Ty.eqT (Ty.pair (Ty.int IntKind.i64) (Ty.int IntKind.i64)) (f0, f1) (rf0, rf1))
     (k_ true)
     (br (!Ty.eqT (Ty.pair (Ty.int IntKind.i64) (Ty.int IntKind.i64)) (g0, g1) (rg0, rg1))
       (k_ true)
       (bnd (idx a (0 : Int)) fun y_2 =>
        bnd (W.ring_Num_Text y_2) fun y_3 =>
        bnd (idx x (0 : Int)) fun y_4 =>
        bnd (W.R_RText y_4) fun y_5 =>
        br (!y_3 == y_5)
         (k_ true)
         (bnd (idx b (0 : Int)) fun y_6 =>
          bnd (W.ring_Num_Text y_6) fun y_7 =>
          bnd (idx y (0 : Int)) fun y_8 =>
          bnd (W.R_RText y_8) fun y_9 =>
          k_ (!y_7 == y_9)))))
def Law_RingReckons.c5s : Shape := ⟨[(0, rb27), (1, rb27), (2, rb3), (3, rb3), (8, rb0), (9, rb56), (10, rb55), (11, rb57), (12, rb58), (13, rb59), (14, rb60), (15, rb61), (16, rb62)], [(9, rb26), (10, rb19), (11, rb26), (12, rb19), (13, rb34), (14, rb19), (15, rb34), (16, rb19)]⟩
def Law_RingReckons.c5x0 : Shape := ⟨[(0, rb27), (1, rb27), (2, rb3), (3, rb3), (8, rb0), (9, rb56), (10, rb55), (11, rb57), (12, rb58), (13, rb59), (14, rb60), (15, rb61), (16, rb62), (66, rb0)], [(9, rb26), (10, rb19), (11, rb26), (12, rb19), (13, rb34), (14, rb19), (15, rb34), (16, rb19)]⟩
def Law_RingReckons.c5r : Ck := Ck.of (T := Bool) Law_RingReckons.c5s (fun ρ x_ k_ => uP x_ fun cs x_ => uP x_ fun ds x_ => uP x_ fun e x_ => uP x_ fun d x_ => uP x_ fun t8 x_ => uP x_ fun a x_ => uP x_ fun f0 x_ => uP x_ fun f1 x_ => uP x_ fun b x_ => uP x_ fun g0 x_ => uP x_ fun g1 x_ => uP x_ fun x x_ => uP x_ fun rf0 x_ => uP x_ fun rf1 x_ => uP x_ fun y x_ => uP x_ fun rg0 x_ => uP x_ fun rg1 x_ => Law_RingReckons.c5 a f0 f1 b g0 g1 x rf0 rf1 y rg0 rg1 k_) (fun ρ x_ r_ k_ => uP x_ fun cs x_ => uP x_ fun ds x_ => uP x_ fun e x_ => uP x_ fun d x_ => uP x_ fun t8 x_ => uP x_ fun a x_ => uP x_ fun f0 x_ => uP x_ fun f1 x_ => uP x_ fun b x_ => uP x_ fun g0 x_ => uP x_ fun g1 x_ => uP x_ fun x x_ => uP x_ fun rf0 x_ => uP x_ fun rf1 x_ => uP x_ fun y x_ => uP x_ fun rg0 x_ => uP x_ fun rg1 x_ => k_ 0 (Shape.inj Law_RingReckons.c5x0 (cs, ds, e, d, t8, r_, a, f0, f1, b, g0, g1, x, rf0, rf1, y, rg0, rg1, ())))
def Law_RingReckons.c7 {ρ : Type} (a : List ((List ((Bool) × (List Int))) × (Int))) (b : List ((List ((Bool) × (List Int))) × (Int))) (x : List ((List ((Bool) × (List Int))) × (Int))) (y : List ((List ((Bool) × (List Int))) × (Int))) (k_ : Bool → Option ρ) : Option ρ :=
  bnd (idx a (0 : Int)) fun y_1 =>
  bnd (idx b (0 : Int)) fun y_2 =>
  bnd (W.ring_Num_Add y_1 y_2) fun y_3 =>
  bnd (W.ring_Num_Text y_3) fun y_4 =>
  bnd (idx x (0 : Int)) fun y_5 =>
  bnd (idx y (0 : Int)) fun y_6 =>
  bnd (W.R_RAdd y_5 y_6) fun y_7 =>
  bnd (W.R_RText y_7) fun y_8 =>
  br (!y_4 == y_8)
   (k_ true)
   (bnd (idx a (0 : Int)) fun y_9 =>
    bnd (idx b (0 : Int)) fun y_10 =>
    bnd (W.ring_Num_Sub y_9 y_10) fun y_11 =>
    bnd (W.ring_Num_Text y_11) fun y_12 =>
    bnd (idx x (0 : Int)) fun y_13 =>
    bnd (idx y (0 : Int)) fun y_14 =>
    bnd (W.R_RSub y_13 y_14) fun y_15 =>
    bnd (W.R_RText y_15) fun y_16 =>
    br (!y_12 == y_16)
     (k_ true)
     (bnd (idx a (0 : Int)) fun y_17 =>
      bnd (idx b (0 : Int)) fun y_18 =>
      bnd (W.ring_Num_Mul y_17 y_18) fun y_19 =>
      bnd (W.ring_Num_Text y_19) fun y_20 =>
      bnd (idx x (0 : Int)) fun y_21 =>
      bnd (idx y (0 : Int)) fun y_22 =>
      bnd (W.R_RMul y_21 y_22) fun y_23 =>
      bnd (W.R_RText y_23) fun y_24 =>
      k_ (!y_20 == y_24)))
def Law_RingReckons.c7s : Shape := ⟨[(0, rb27), (1, rb27), (2, rb3), (3, rb3), (8, rb0), (9, rb56), (10, rb55), (11, rb57), (12, rb58), (13, rb59), (14, rb60), (15, rb61), (16, rb62)], [(9, rb26), (10, rb19), (11, rb26), (12, rb19), (13, rb34), (14, rb19), (15, rb34), (16, rb19)]⟩
def Law_RingReckons.c7x0 : Shape := ⟨[(0, rb27), (1, rb27), (2, rb3), (3, rb3), (8, rb0), (9, rb56), (10, rb55), (11, rb57), (12, rb58), (13, rb59), (14, rb60), (15, rb61), (16, rb62), (97, rb0)], [(9, rb26), (10, rb19), (11, rb26), (12, rb19), (13, rb34), (14, rb19), (15, rb34), (16, rb19)]⟩
def Law_RingReckons.c7r : Ck := Ck.of (T := Bool) Law_RingReckons.c7s (fun ρ x_ k_ => uP x_ fun cs x_ => uP x_ fun ds x_ => uP x_ fun e x_ => uP x_ fun d x_ => uP x_ fun t8 x_ => uP x_ fun a x_ => uP x_ fun f0 x_ => uP x_ fun f1 x_ => uP x_ fun b x_ => uP x_ fun g0 x_ => uP x_ fun g1 x_ => uP x_ fun x x_ => uP x_ fun rf0 x_ => uP x_ fun rf1 x_ => uP x_ fun y x_ => uP x_ fun rg0 x_ => uP x_ fun rg1 x_ => Law_RingReckons.c7 a b x y k_) (fun ρ x_ r_ k_ => uP x_ fun cs x_ => uP x_ fun ds x_ => uP x_ fun e x_ => uP x_ fun d x_ => uP x_ fun t8 x_ => uP x_ fun a x_ => uP x_ fun f0 x_ => uP x_ fun f1 x_ => uP x_ fun b x_ => uP x_ fun g0 x_ => uP x_ fun g1 x_ => uP x_ fun x x_ => uP x_ fun rf0 x_ => uP x_ fun rf1 x_ => uP x_ fun y x_ => uP x_ fun rg0 x_ => uP x_ fun rg1 x_ => k_ 0 (Shape.inj Law_RingReckons.c7x0 (cs, ds, e, d, t8, r_, a, f0, f1, b, g0, g1, x, rf0, rf1, y, rg0, rg1, ())))
def Law_RingReckons.c9 {ρ : Type} (a : List ((List ((Bool) × (List Int))) × (Int))) (x : List ((List ((Bool) × (List Int))) × (Int))) (k_ : Bool → Option ρ) : Option ρ :=
  bnd (idx a (0 : Int)) fun y_1 =>
  bnd (W.ring_Num_Neg y_1) fun y_2 =>
  bnd (W.ring_Num_Text y_2) fun y_3 =>
  bnd (idx x (0 : Int)) fun y_4 =>
  bnd (W.R_RNeg y_4) fun y_5 =>
  bnd (W.R_RText y_5) fun y_6 =>
  br (!y_3 == y_6)
   (k_ true)
   (bnd (idx a (0 : Int)) fun y_7 =>
    bnd (W.ring_Num_Conj y_7) fun y_8 =>
    bnd (W.ring_Num_Text y_8) fun y_9 =>
    bnd (idx x (0 : Int)) fun y_10 =>
    bnd (W.R_RConj y_10) fun y_11 =>
    bnd (W.R_RText y_11) fun y_12 =>
    br (!y_9 == y_12)
     (k_ true)
     (bnd (idx a (0 : Int)) fun y_13 =>
      bnd (W.ring_Num_Norm y_13) fun y_14 =>
      bnd (W.ring_Num_Text y_14) fun y_15 =>
      bnd (idx x (0 : Int)) fun y_16 =>
      bnd (W.R_RNorm y_16) fun y_17 =>
      bnd (W.R_RText y_17) fun y_18 =>
      k_ (!y_15 == y_18)))
def Law_RingReckons.c9s : Shape := ⟨[(0, rb27), (1, rb27), (2, rb3), (3, rb3), (8, rb0), (9, rb56), (10, rb55), (11, rb57), (12, rb58), (13, rb59), (14, rb60), (15, rb61), (16, rb62)], [(9, rb26), (10, rb19), (11, rb26), (12, rb19), (13, rb34), (14, rb19), (15, rb34), (16, rb19)]⟩
def Law_RingReckons.c9x0 : Shape := ⟨[(0, rb27), (1, rb27), (2, rb3), (3, rb3), (8, rb0), (9, rb56), (10, rb55), (11, rb57), (12, rb58), (13, rb59), (14, rb60), (15, rb61), (16, rb62), (122, rb0)], [(9, rb26), (10, rb19), (11, rb26), (12, rb19), (13, rb34), (14, rb19), (15, rb34), (16, rb19)]⟩
def Law_RingReckons.c9r : Ck := Ck.of (T := Bool) Law_RingReckons.c9s (fun ρ x_ k_ => uP x_ fun cs x_ => uP x_ fun ds x_ => uP x_ fun e x_ => uP x_ fun d x_ => uP x_ fun t8 x_ => uP x_ fun a x_ => uP x_ fun f0 x_ => uP x_ fun f1 x_ => uP x_ fun b x_ => uP x_ fun g0 x_ => uP x_ fun g1 x_ => uP x_ fun x x_ => uP x_ fun rf0 x_ => uP x_ fun rf1 x_ => uP x_ fun y x_ => uP x_ fun rg0 x_ => uP x_ fun rg1 x_ => Law_RingReckons.c9 a x k_) (fun ρ x_ r_ k_ => uP x_ fun cs x_ => uP x_ fun ds x_ => uP x_ fun e x_ => uP x_ fun d x_ => uP x_ fun t8 x_ => uP x_ fun a x_ => uP x_ fun f0 x_ => uP x_ fun f1 x_ => uP x_ fun b x_ => uP x_ fun g0 x_ => uP x_ fun g1 x_ => uP x_ fun x x_ => uP x_ fun rf0 x_ => uP x_ fun rf1 x_ => uP x_ fun y x_ => uP x_ fun rg0 x_ => uP x_ fun rg1 x_ => k_ 0 (Shape.inj Law_RingReckons.c9x0 (cs, ds, e, d, t8, r_, a, f0, f1, b, g0, g1, x, rf0, rf1, y, rg0, rg1, ())))
def Law_RingReckons.c11 {ρ : Type} (e : Int) (a : List ((List ((Bool) × (List Int))) × (Int))) (b : List ((List ((Bool) × (List Int))) × (Int))) (x : List ((List ((Bool) × (List Int))) × (Int))) (y : List ((List ((Bool) × (List Int))) × (Int))) (k_ : Bool → Option ρ) : Option ρ :=
  bnd (idx a (0 : Int)) fun y_1 =>
  bnd (idx b (0 : Int)) fun y_2 =>
  bnd (W.ring_Num_Same y_1 y_2) fun y_3 =>
  bnd (idx x (0 : Int)) fun y_4 =>
  bnd (idx y (0 : Int)) fun y_5 =>
  bnd (W.R_RSame y_4 y_5) fun y_6 =>
  br (y_3 == y_6)
   (bnd (idx a (0 : Int)) fun y_7 =>
    bnd (idx a (0 : Int)) fun y_8 =>
    bnd (W.ring_Num_Same y_7 y_8) fun y_9 =>
    br y_9
     (bnd (W.whole_Of e) fun y_10 =>
      bnd (W.ring_Of y_10) fun y_11 =>
      bnd (W.ring_Num_Text y_11) fun y_12 =>
      bnd (W.R_ZOf e) fun y_13 =>
      bnd (W.R_ROf y_13) fun y_14 =>
      bnd (W.R_RText y_14) fun y_15 =>
      k_ (y_12 == y_15))
     (k_ false))
   (k_ false)
def Law_RingReckons.c11s : Shape := ⟨[(0, rb27), (1, rb27), (2, rb3), (3, rb3), (8, rb0), (9, rb56), (10, rb55), (11, rb57), (12, rb58), (13, rb59), (14, rb60), (15, rb61), (16, rb62)], [(9, rb26), (10, rb19), (11, rb26), (12, rb19), (13, rb34), (14, rb19), (15, rb34), (16, rb19)]⟩
def Law_RingReckons.c11x0 : Shape := ⟨[(0, rb27), (1, rb27), (2, rb3), (3, rb3), (8, rb0), (9, rb56), (10, rb55), (11, rb57), (12, rb58), (13, rb59), (14, rb60), (15, rb61), (16, rb62)], [(9, rb26), (10, rb19), (11, rb26), (12, rb19), (13, rb34), (14, rb19), (15, rb34), (16, rb19)]⟩
def Law_RingReckons.c11r : Ck := Ck.of (T := Bool) Law_RingReckons.c11s (fun ρ x_ k_ => uP x_ fun cs x_ => uP x_ fun ds x_ => uP x_ fun e x_ => uP x_ fun d x_ => uP x_ fun t8 x_ => uP x_ fun a x_ => uP x_ fun f0 x_ => uP x_ fun f1 x_ => uP x_ fun b x_ => uP x_ fun g0 x_ => uP x_ fun g1 x_ => uP x_ fun x x_ => uP x_ fun rf0 x_ => uP x_ fun rf1 x_ => uP x_ fun y x_ => uP x_ fun rg0 x_ => uP x_ fun rg1 x_ => Law_RingReckons.c11 e a b x y k_) (fun ρ x_ r_ k_ => uP x_ fun cs x_ => uP x_ fun ds x_ => uP x_ fun e x_ => uP x_ fun d x_ => uP x_ fun t8 x_ => uP x_ fun a x_ => uP x_ fun f0 x_ => uP x_ fun f1 x_ => uP x_ fun b x_ => uP x_ fun g0 x_ => uP x_ fun g1 x_ => uP x_ fun x x_ => uP x_ fun rf0 x_ => uP x_ fun rf1 x_ => uP x_ fun y x_ => uP x_ fun rg0 x_ => uP x_ fun rg1 x_ => k_ 0 (Shape.inj Law_RingReckons.c11x0 (cs, ds, e, d, r_, a, f0, f1, b, g0, g1, x, rf0, rf1, y, rg0, rg1, ())))
def Law_RingReckons (cs : List (Int)) (ds : List (Int)) (e : Int) (d : Int) : Option (Bool) :=
  bnd (W.ring_Make cs e) fun y =>
  bnd (W.ring_Make ds d) fun y_1 =>
  bnd (W.R_RMake cs e) fun y_2 =>
  bnd (W.R_RMake ds d) fun y_3 =>
  bnd (W.Law_RingReckons.c5 [Prod.fst y] (Prod.fst (Prod.snd y)) (Prod.snd (Prod.snd y)) [Prod.fst y_1] (Prod.fst (Prod.snd y_1)) (Prod.snd (Prod.snd y_1)) [Prod.fst y_2] (Prod.fst (Prod.snd y_2)) (Prod.snd (Prod.snd y_2)) [Prod.fst y_3] (Prod.fst (Prod.snd y_3)) (Prod.snd (Prod.snd y_3)) some) fun y_4 =>
  br y_4
   (some false)
   (bnd (W.Law_RingReckons.c7 [Prod.fst y] [Prod.fst y_1] [Prod.fst y_2] [Prod.fst y_3] some) fun y_5 =>
    br y_5
     (some false)
     (bnd (W.Law_RingReckons.c9 [Prod.fst y] [Prod.fst y_2] some) fun y_6 =>
      br y_6
       (some false)
       (bnd (W.Law_RingReckons.c11 e [Prod.fst y] [Prod.fst y_1] [Prod.fst y_2] [Prod.fst y_3] some) fun y_7 =>
        some y_7)))
def Law_RingReckons.ce : Go.Ql.Callee := ⟨[(.sl (.int .i64)), (.sl (.int .i64)), (.int .i64), (.int .i64)], [.bool], fun x_ => Law_RingReckons x_.1 x_.2.1 x_.2.2.1 x_.2.2.2⟩
def Law_RingReckons.G : Env := ⟨146, tab, [(5, ring_Make.ce), (6, R_RMake.ce), (7, Law_ringBegun.ce), (8, ring_Num_Text.ce), (9, R_RText.ce), (10, ring_Num_Add.ce), (11, R_RAdd.ce), (12, ring_Num_Sub.ce), (13, R_RSub.ce), (14, ring_Num_Mul.ce), (15, R_RMul.ce), (16, ring_Num_Neg.ce), (17, R_RNeg.ce), (18, ring_Num_Conj.ce), (19, R_RConj.ce), (20, ring_Num_Norm.ce), (21, R_RNorm.ce), (22, ring_Num_Same.ce), (23, R_RSame.ce), (25, whole_Of.ce), (24, ring_Of.ce), (27, R_ZOf.ce), (26, R_ROf.ce)], [0, 1, 2, 3, 8, 9, 10, 11, 12, 13, 14, 15, 16, 66, 97, 122], [9, 11, 13, 15], [(11, [⟨[], [], [124, 126, 127], []⟩, ⟨[], [], [123, 126, 127], []⟩, ⟨[0, 1], [], [126, 127], []⟩, ⟨[], [], [123, 124, 125, 127], []⟩, ⟨[], [], [123, 124, 125, 126], []⟩, ⟨[3, 4, 2, 0, 1], [], [], []⟩, ⟨[2, 0, 1, 5, 3, 4], [], [], []⟩, ⟨[6, 2, 0, 1, 5, 3, 4], [], [], []⟩, ⟨[7, 6, 2, 0, 1, 5, 3, 4], [], [132], []⟩, ⟨[7, 6, 2, 0, 1, 5, 3, 4], [], [131], []⟩, ⟨[8, 7, 6, 2, 0, 1, 5, 3, 4, 9], [], [], []⟩, ⟨[7, 6, 2, 0, 1, 5, 3, 4, 10, 8, 9], [], [], []⟩, ⟨[11, 7, 6, 2, 0, 1, 5, 3, 4, 10, 8, 9], [], [], []⟩, ⟨[12, 11, 7, 6, 2, 0, 1, 5, 3, 4, 10, 8, 9], [], [140], []⟩, ⟨[13, 12, 11, 7, 6, 2, 0, 1, 5, 3, 4, 10, 8, 9], [], [140], []⟩, ⟨[14, 13, 12, 11, 7, 6, 2, 0, 1, 5, 3, 4, 10, 8, 9], [], [140], []⟩, ⟨[15, 14, 13, 12, 11, 7, 6, 2, 0, 1, 5, 3, 4, 10, 8, 9], [], [140], []⟩, ⟨[12, 11, 7, 6, 2, 0, 1, 5, 3, 4, 10, 8, 9], [], [136, 137, 138, 139], []⟩, ⟨[17, 12, 11, 7, 6, 2, 0, 1, 5, 3, 4, 10, 8, 9, 16, 15, 14, 13], [], [], []⟩, ⟨[18, 17, 12, 11, 7, 6, 2, 0, 1, 5, 3, 4, 10, 8, 9, 16, 15, 14, 13], [], [], []⟩, ⟨[19, 18, 17, 12, 11, 7, 6, 2, 0, 1, 5, 3, 4, 10, 8, 9, 16, 15, 14, 13], [], [], []⟩, ⟨[16, 15, 14, 13, 12, 11, 7, 6, 2, 0, 1, 5, 3, 4, 10, 8, 9, 20, 19, 18, 17], [], [], []⟩, ⟨[12, 11, 7, 6, 2, 0, 1, 5, 3, 4, 10, 8, 9, 21, 16, 15, 14, 13, 20, 19, 18, 17], [], [], []⟩, ⟨[22, 12, 11, 7, 6, 2, 0, 1, 5, 3, 4, 10, 8, 9, 21, 16, 15, 14, 13, 20, 19, 18, 17], [], [], []⟩]),
  (9, [⟨[], [], [101], []⟩, ⟨[0], [], [101], []⟩, ⟨[1, 0], [], [101], []⟩, ⟨[], [], [98, 99, 100], []⟩, ⟨[3, 2, 1, 0], [], [], []⟩, ⟨[4, 3, 2, 1, 0], [], [], []⟩, ⟨[2, 1, 0, 5, 4, 3], [], [], []⟩, ⟨[6, 2, 1, 0, 5, 4, 3], [], [], []⟩, ⟨[7, 6, 2, 1, 0, 5, 4, 3], [], [109], []⟩, ⟨[8, 7, 6, 2, 1, 0, 5, 4, 3], [], [109], []⟩, ⟨[9, 8, 7, 6, 2, 1, 0, 5, 4, 3], [], [109], []⟩, ⟨[7, 6, 2, 1, 0, 5, 4, 3], [], [106, 107, 108], []⟩, ⟨[11, 7, 6, 2, 1, 0, 5, 4, 3, 10, 9, 8], [], [], []⟩, ⟨[12, 11, 7, 6, 2, 1, 0, 5, 4, 3, 10, 9, 8], [], [], []⟩, ⟨[10, 9, 8, 7, 6, 2, 1, 0, 5, 4, 3, 13, 12, 11], [], [], []⟩, ⟨[7, 6, 2, 1, 0, 5, 4, 3, 14, 10, 9, 8, 13, 12, 11], [], [], []⟩, ⟨[15, 7, 6, 2, 1, 0, 5, 4, 3, 14, 10, 9, 8, 13, 12, 11], [], [], []⟩, ⟨[16, 15, 7, 6, 2, 1, 0, 5, 4, 3, 14, 10, 9, 8, 13, 12, 11], [], [118], []⟩, ⟨[17, 16, 15, 7, 6, 2, 1, 0, 5, 4, 3, 14, 10, 9, 8, 13, 12, 11], [], [118], []⟩, ⟨[18, 17, 16, 15, 7, 6, 2, 1, 0, 5, 4, 3, 14, 10, 9, 8, 13, 12, 11], [], [118], []⟩, ⟨[16, 15, 7, 6, 2, 1, 0, 5, 4, 3, 14, 10, 9, 8, 13, 12, 11], [], [115, 116, 117], []⟩, ⟨[20, 16, 15, 7, 6, 2, 1, 0, 5, 4, 3, 14, 10, 9, 8, 13, 12, 11, 19, 18, 17], [], [], []⟩, ⟨[21, 20, 16, 15, 7, 6, 2, 1, 0, 5, 4, 3, 14, 10, 9, 8, 13, 12, 11, 19, 18, 17], [], [], []⟩, ⟨[19, 18, 17, 16, 15, 7, 6, 2, 1, 0, 5, 4, 3, 14, 10, 9, 8, 13, 12, 11, 22, 21, 20], [], [], []⟩, ⟨[16, 15, 7, 6, 2, 1, 0, 5, 4, 3, 14, 10, 9, 8, 13, 12, 11, 23, 19, 18, 17, 22, 21, 20], [], [], []⟩]),
  (7, [⟨[], [], [68, 71, 72], []⟩, ⟨[], [], [67, 71, 72], []⟩, ⟨[0, 1], [], [71, 72], []⟩, ⟨[2, 0, 1], [], [71, 72], []⟩, ⟨[], [], [67, 68, 69, 70, 72], []⟩, ⟨[], [], [67, 68, 69, 70, 71], []⟩, ⟨[4, 5, 3, 2, 0, 1], [], [], []⟩, ⟨[6, 4, 5, 3, 2, 0, 1], [], [], []⟩, ⟨[3, 2, 0, 1, 7, 6, 4, 5], [], [], []⟩, ⟨[8, 3, 2, 0, 1, 7, 6, 4, 5], [], [], []⟩, ⟨[9, 8, 3, 2, 0, 1, 7, 6, 4, 5], [], [78, 81, 82], []⟩, ⟨[9, 8, 3, 2, 0, 1, 7, 6, 4, 5], [], [77, 81, 82], []⟩, ⟨[10, 9, 8, 3, 2, 0, 1, 7, 6, 4, 5, 11], [], [81, 82], []⟩, ⟨[12, 10, 9, 8, 3, 2, 0, 1, 7, 6, 4, 5, 11], [], [81, 82], []⟩, ⟨[9, 8, 3, 2, 0, 1, 7, 6, 4, 5], [], [77, 78, 79, 80, 82], []⟩, ⟨[9, 8, 3, 2, 0, 1, 7, 6, 4, 5], [], [77, 78, 79, 80, 81], []⟩, ⟨[14, 9, 8, 3, 2, 0, 1, 7, 6, 4, 5, 15, 13, 12, 10, 11], [], [], []⟩, ⟨[16, 14, 9, 8, 3, 2, 0, 1, 7, 6, 4, 5, 15, 13, 12, 10, 11], [], [], []⟩, ⟨[13, 12, 10, 9, 8, 3, 2, 0, 1, 7, 6, 4, 5, 11, 17, 16, 14, 15], [], [], []⟩, ⟨[9, 8, 3, 2, 0, 1, 7, 6, 4, 5, 18, 13, 12, 10, 11, 17, 16, 14, 15], [], [], []⟩, ⟨[19, 9, 8, 3, 2, 0, 1, 7, 6, 4, 5, 18, 13, 12, 10, 11, 17, 16, 14, 15], [], [], []⟩, ⟨[20, 19, 9, 8, 3, 2, 0, 1, 7, 6, 4, 5, 18, 13, 12, 10, 11, 17, 16, 14, 15], [], [89, 92, 93], []⟩, ⟨[20, 19, 9, 8, 3, 2, 0, 1, 7, 6, 4, 5, 18, 13, 12, 10, 11, 17, 16, 14, 15], [], [88, 92, 93], []⟩, ⟨[21, 20, 19, 9, 8, 3, 2, 0, 1, 7, 6, 4, 5, 18, 13, 12, 10, 11, 17, 16, 14, 15, 22], [], [92, 93], []⟩, ⟨[23, 21, 20, 19, 9, 8, 3, 2, 0, 1, 7, 6, 4, 5, 18, 13, 12, 10, 11, 17, 16, 14, 15, 22], [], [92, 93], []⟩, ⟨[20, 19, 9, 8, 3, 2, 0, 1, 7, 6, 4, 5, 18, 13, 12, 10, 11, 17, 16, 14, 15], [], [88, 89, 90, 91, 93], []⟩, ⟨[20, 19, 9, 8, 3, 2, 0, 1, 7, 6, 4, 5, 18, 13, 12, 10, 11, 17, 16, 14, 15], [], [88, 89, 90, 91, 92], []⟩, ⟨[25, 20, 19, 9, 8, 3, 2, 0, 1, 7, 6, 4, 5, 18, 13, 12, 10, 11, 17, 16, 14, 15, 26, 24, 23, 21, 22], [], [], []⟩, ⟨[27, 25, 20, 19, 9, 8, 3, 2, 0, 1, 7, 6, 4, 5, 18, 13, 12, 10, 11, 17, 16, 14, 15, 26, 24, 23, 21, 22], [], [], []⟩, ⟨[24, 23, 21, 20, 19, 9, 8, 3, 2, 0, 1, 7, 6, 4, 5, 18, 13, 12, 10, 11, 17, 16, 14, 15, 22, 28, 27, 25, 26], [], [], []⟩, ⟨[20, 19, 9, 8, 3, 2, 0, 1, 7, 6, 4, 5, 18, 13, 12, 10, 11, 17, 16, 14, 15, 29, 24, 23, 21, 22, 28, 27, 25, 26], [], [], []⟩]),
  (5, [⟨[], [], [], []⟩, ⟨[0], [], [], []⟩, ⟨[1, 0], [], [], []⟩, ⟨[2, 1, 0], [], [45], []⟩, ⟨[2, 1, 0], [], [44], []⟩, ⟨[3, 2, 1, 0, 4], [], [], []⟩, ⟨[2, 1, 0, 5, 3, 4], [], [], []⟩, ⟨[6, 2, 1, 0, 5, 3, 4], [], [], []⟩, ⟨[7, 6, 2, 1, 0, 5, 3, 4], [], [50], []⟩, ⟨[7, 6, 2, 1, 0, 5, 3, 4], [], [49], []⟩, ⟨[8, 7, 6, 2, 1, 0, 5, 3, 4, 9], [], [], []⟩, ⟨[7, 6, 2, 1, 0, 5, 3, 4, 10, 8, 9], [], [], []⟩, ⟨[11, 7, 6, 2, 1, 0, 5, 3, 4, 10, 8, 9], [], [], []⟩, ⟨[12, 11, 7, 6, 2, 1, 0, 5, 3, 4, 10, 8, 9], [], [56], []⟩, ⟨[13, 12, 11, 7, 6, 2, 1, 0, 5, 3, 4, 10, 8, 9], [], [56], []⟩, ⟨[12, 11, 7, 6, 2, 1, 0, 5, 3, 4, 10, 8, 9], [], [54, 55], []⟩, ⟨[15, 12, 11, 7, 6, 2, 1, 0, 5, 3, 4, 10, 8, 9, 14, 13], [], [], []⟩, ⟨[14, 13, 12, 11, 7, 6, 2, 1, 0, 5, 3, 4, 10, 8, 9, 16, 15], [], [], []⟩, ⟨[12, 11, 7, 6, 2, 1, 0, 5, 3, 4, 10, 8, 9, 17, 14, 13, 16, 15], [], [], []⟩, ⟨[18, 12, 11, 7, 6, 2, 1, 0, 5, 3, 4, 10, 8, 9, 17, 14, 13, 16, 15], [], [], []⟩, ⟨[19, 18, 12, 11, 7, 6, 2, 1, 0, 5, 3, 4, 10, 8, 9, 17, 14, 13, 16, 15], [], [63], []⟩, ⟨[20, 19, 18, 12, 11, 7, 6, 2, 1, 0, 5, 3, 4, 10, 8, 9, 17, 14, 13, 16, 15], [], [63], []⟩, ⟨[19, 18, 12, 11, 7, 6, 2, 1, 0, 5, 3, 4, 10, 8, 9, 17, 14, 13, 16, 15], [], [61, 62], []⟩, ⟨[22, 19, 18, 12, 11, 7, 6, 2, 1, 0, 5, 3, 4, 10, 8, 9, 17, 14, 13, 16, 15, 21, 20], [], [], []⟩, ⟨[21, 20, 19, 18, 12, 11, 7, 6, 2, 1, 0, 5, 3, 4, 10, 8, 9, 17, 14, 13, 16, 15, 23, 22], [], [], []⟩, ⟨[19, 18, 12, 11, 7, 6, 2, 1, 0, 5, 3, 4, 10, 8, 9, 17, 14, 13, 16, 15, 24, 21, 20, 23, 22], [], [], []⟩])], [(11, Law_RingReckons.c11r), (9, Law_RingReckons.c9r), (7, Law_RingReckons.c7r), (5, Law_RingReckons.c5r)], [], tab_eqs⟩
theorem Law_RingReckons.eq (x_ : dens [(.sl (.int .i64)), (.sl (.int .i64)), (.int .i64), (.int .i64)]) : den Law_RingReckons.G Go.Proofs.Tryd.f3 [(.sl (.int .i64)), (.sl (.int .i64)), (.int .i64), (.int .i64)] [.bool] x_ = Law_RingReckons x_.1 x_.2.1 x_.2.2.1 x_.2.2.2 := by kernel_rfl
theorem Law_RingReckons.p0 : PieceOk Law_RingReckons.G (pieceAt (pieces Law_RingReckons.G.cks (bodyOf Go.Proofs.Tryd.f3)) 0).1 (pieceAt (pieces Law_RingReckons.G.cks (bodyOf Go.Proofs.Tryd.f3)) 0).2 :=
  region_ok (s := Law_RingReckons.c5r) (by kernel_rfl) (by kernel_rfl) (sums_of (sh := Law_RingReckons.c5s) (fun ρ x_ k_ => (nat_bnd fun _ => (nat_br nat_leaf (nat_br nat_leaf (nat_br nat_leaf (nat_bnd fun _ => (nat_bnd fun _ => (nat_bnd fun _ => (nat_bnd fun _ => (nat_br nat_leaf (nat_bnd fun _ => (nat_bnd fun _ => (nat_bnd fun _ => (nat_bnd fun _ => nat_leaf)))))))))))))) (fun ρ x_ t k => (by kernel_rfl)) (fun x_ => by kernel_rfl))
theorem Law_RingReckons.p1 : PieceOk Law_RingReckons.G (pieceAt (pieces Law_RingReckons.G.cks (bodyOf Go.Proofs.Tryd.f3)) 1).1 (pieceAt (pieces Law_RingReckons.G.cks (bodyOf Go.Proofs.Tryd.f3)) 1).2 :=
  region_ok (s := Law_RingReckons.c7r) (by kernel_rfl) (by kernel_rfl) (sums_of (sh := Law_RingReckons.c7s) (fun ρ x_ k_ => (nat_bnd fun _ => (nat_bnd fun _ => (nat_bnd fun _ => (nat_bnd fun _ => (nat_bnd fun _ => (nat_bnd fun _ => (nat_bnd fun _ => (nat_bnd fun _ => (nat_br nat_leaf (nat_bnd fun _ => (nat_bnd fun _ => (nat_bnd fun _ => (nat_bnd fun _ => (nat_bnd fun _ => (nat_bnd fun _ => (nat_bnd fun _ => (nat_bnd fun _ => (nat_br nat_leaf (nat_bnd fun _ => (nat_bnd fun _ => (nat_bnd fun _ => (nat_bnd fun _ => (nat_bnd fun _ => (nat_bnd fun _ => (nat_bnd fun _ => (nat_bnd fun _ => nat_leaf))))))))))))))))))))))))))) (fun ρ x_ t k => (by kernel_rfl)) (fun x_ => by kernel_rfl))
theorem Law_RingReckons.p2 : PieceOk Law_RingReckons.G (pieceAt (pieces Law_RingReckons.G.cks (bodyOf Go.Proofs.Tryd.f3)) 2).1 (pieceAt (pieces Law_RingReckons.G.cks (bodyOf Go.Proofs.Tryd.f3)) 2).2 :=
  region_ok (s := Law_RingReckons.c9r) (by kernel_rfl) (by kernel_rfl) (sums_of (sh := Law_RingReckons.c9s) (fun ρ x_ k_ => (nat_bnd fun _ => (nat_bnd fun _ => (nat_bnd fun _ => (nat_bnd fun _ => (nat_bnd fun _ => (nat_bnd fun _ => (nat_br nat_leaf (nat_bnd fun _ => (nat_bnd fun _ => (nat_bnd fun _ => (nat_bnd fun _ => (nat_bnd fun _ => (nat_bnd fun _ => (nat_br nat_leaf (nat_bnd fun _ => (nat_bnd fun _ => (nat_bnd fun _ => (nat_bnd fun _ => (nat_bnd fun _ => (nat_bnd fun _ => nat_leaf))))))))))))))))))))) (fun ρ x_ t k => (by kernel_rfl)) (fun x_ => by kernel_rfl))
theorem Law_RingReckons.p3 : PieceOk Law_RingReckons.G (pieceAt (pieces Law_RingReckons.G.cks (bodyOf Go.Proofs.Tryd.f3)) 3).1 (pieceAt (pieces Law_RingReckons.G.cks (bodyOf Go.Proofs.Tryd.f3)) 3).2 :=
  region_ok (s := Law_RingReckons.c11r) (by kernel_rfl) (by kernel_rfl) (sums_of (sh := Law_RingReckons.c11s) (fun ρ x_ k_ => (nat_bnd fun _ => (nat_bnd fun _ => (nat_bnd fun _ => (nat_bnd fun _ => (nat_bnd fun _ => (nat_bnd fun _ => (nat_br (nat_bnd fun _ => (nat_bnd fun _ => (nat_bnd fun _ => (nat_br (nat_bnd fun _ => (nat_bnd fun _ => (nat_bnd fun _ => (nat_bnd fun _ => (nat_bnd fun _ => (nat_bnd fun _ => nat_leaf)))))) nat_leaf)))) nat_leaf)))))))) (fun ρ x_ t k => (by kernel_rfl)) (fun x_ => by kernel_rfl))
theorem Law_RingReckons.ok : CalleeOk Go.Proofs.Tryd.prog 3 Law_RingReckons.ce := fn_ok (G := Law_RingReckons.G) tab_ok mixed Go.Proofs.Tryd.func3 ⟨(fns_cons ring_Make.ok (fns_cons R_RMake.ok (fns_cons Law_ringBegun.ok (fns_cons ring_Num_Text.ok (fns_cons R_RText.ok (fns_cons ring_Num_Add.ok (fns_cons R_RAdd.ok (fns_cons ring_Num_Sub.ok (fns_cons R_RSub.ok (fns_cons ring_Num_Mul.ok (fns_cons R_RMul.ok (fns_cons ring_Num_Neg.ok (fns_cons R_RNeg.ok (fns_cons ring_Num_Conj.ok (fns_cons R_RConj.ok (fns_cons ring_Num_Norm.ok (fns_cons R_RNorm.ok (fns_cons ring_Num_Same.ok (fns_cons R_RSame.ok (fns_cons whole_Of.ok (fns_cons ring_Of.ok (fns_cons R_ZOf.ok (fns_cons R_ROf.ok fns_nil))))))))))))))))))))))), mfns_nil, tab_eqs_ok⟩ (m := 4) (by kernel_rfl) ⟨⟨⟨⟨trivial, Law_RingReckons.p0⟩, Law_RingReckons.p1⟩, Law_RingReckons.p2⟩, Law_RingReckons.p3⟩ (by kernel_rfl) Law_RingReckons.eq
end
end W
end
