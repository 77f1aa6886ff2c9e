/- Lifted functions, part 2: each with its contract. -/
import Derived.Test.YtajegnlkgnecoaaDoorWa
import Derived.Test.YtajegnlkgnecoaaDoorProg
set_option linter.all false
section
set_option maxHeartbeats 4000000
set_option maxRecDepth 100000
set_option linter.unusedVariables false
namespace W
open Go Go.Ql Go.Proofs
noncomputable section
def R_Classical.c3 {ρ : Type}  (k_ : Unit → Option ρ) : Option ρ :=
  k_ ()
def R_Classical.c3s : Shape := ⟨[(0, vb34), (1, vb1), (2, vb12), (4, vb1), (5, vb26), (6, vb9)], [(2, vb27), (5, vb10), (6, vb10)]⟩
def R_Classical.c3x0 : Shape := R_Classical.c3s
def R_Classical.c3r : Ck := Ck.of (T := Unit) R_Classical.c3s (fun ρ x_ k_ => R_Classical.c3  k_) (fun ρ x_ r_ k_ => k_ 0 (Shape.inj R_Classical.c3x0 (x_.1, x_.2.1, (0 : Int), x_.2.2.2.1, x_.2.2.2.2.1, x_.2.2.2.2.2.1, x_.2.2.2.2.2.2.2.2.1, x_.2.2.2.2.2.2.2.2.2.1, x_.2.2.2.2.2.2.2.2)))
def R_Classical.c4 {ρ : Type} (x : Int) (c0 : Int) (k_ : Bool → Option ρ) : Option ρ :=
  br (decide (x < (0 : Int)))
   (k_ true)
   (bnd (okIf (decide ((0 : Int) ≤ c0))) fun y =>
    k_ (decide (x ≥ IntKind.wrap IntKind.i64 ((1 : Int) * (2 : Int) ^ Min.min (Int.toNat c0) (64 : Nat)))))
def R_Classical.c4s : Shape := R_Classical.c3s
def R_Classical.c4x0 : Shape := ⟨[(0, vb34), (1, vb1), (2, vb12), (4, vb1), (5, vb26), (6, vb9), (22, vb11)], [(2, vb27), (5, vb10), (6, vb10)]⟩
def R_Classical.c4r : Ck := Ck.of (T := Bool) R_Classical.c4s (fun ρ x_ k_ => R_Classical.c4 x_.2.1 x_.2.2.2.1 k_) (fun ρ x_ r_ k_ => k_ 0 (Shape.inj R_Classical.c4x0 (x_.1, x_.2.1, x_.2.2.1, r_, x_.2.2.2)))
def R_Classical.c9 {ρ : Type} (i : Int) (c2 : List ((Int) × ((Int) × ((List Int) × ((Int) × ((Int) × (List Int))))))) (k_ : Bool → Option ρ) : Option ρ :=
  bnd (idx c2 i) fun y =>
  br (Prod.fst y != (2 : Int))
   (k_ true)
   (bnd (idx c2 i) fun y_1 =>
    k_ (decide ((↑(List.length (Prod.snd (Prod.snd (Prod.snd (Prod.snd (Prod.snd y_1)))))) : Int) > (0 : Int))))
def R_Classical.c9s : Shape := ⟨[(0, vb34), (1, vb1), (2, vb12), (4, vb1), (5, vb26), (6, vb9), (7, vb1)], [(2, vb27), (5, vb10), (6, vb10)]⟩
def R_Classical.c9x0 : Shape := ⟨[(0, vb34), (1, vb1), (2, vb12), (4, vb1), (5, vb26), (6, vb9), (7, vb1), (47, vb11)], [(2, vb27), (5, vb10), (6, vb10)]⟩
def R_Classical.c9r : Ck := Ck.of (T := Bool) R_Classical.c9s (fun ρ x_ k_ => R_Classical.c9 x_.2.2.2.1 x_.2.2.2.2.2.2.1 k_) (fun ρ x_ r_ k_ => k_ 0 (Shape.inj R_Classical.c9x0 (x_.1, x_.2.1, x_.2.2.1, x_.2.2.2.1, r_, x_.2.2.2.2)))
def R_Classical.c236878 {ρ : Type} (x : Int) (i : Int) (c2 : List ((Int) × ((Int) × ((List Int) × ((Int) × ((Int) × (List Int))))))) (k_ : ((Int) × (Int)) ⊕ (Int) → Option ρ) : Option ρ :=
  bnd (W.R_Classical.c9 i c2 some) fun y =>
  br y
   (bnd (W.R_rfault (8 : Int) i) fun y_1 =>
    k_ (.inl ((Prod.fst y_1), (Prod.snd y_1))))
   (bnd (idx c2 i) fun y_2 =>
    bnd (W.R_allOne x (Prod.fst (Prod.snd (Prod.snd y_2)))) fun y_3 =>
    br y_3
     (bnd (idx c2 i) fun y_4 =>
      bnd (okIf (decide ((0 : Int) ≤ Prod.fst (Prod.snd (Prod.snd (Prod.snd y_4)))))) fun y_5 =>
      k_ (.inr (ibits BinOp.xor IntKind.i64 x (IntKind.wrap IntKind.i64 ((1 : Int) * (2 : Int) ^ Min.min (Int.toNat (Prod.fst (Prod.snd (Prod.snd (Prod.snd y_4))))) (64 : Nat))))))
     (k_ (.inr x)))
def R_Classical.c236878s : Shape := R_Classical.c9s
def R_Classical.c236878x0 : Shape := R_Classical.c9s
def R_Classical.c236878x1 : Shape := R_Classical.c9s
def R_Classical.c236878r : Ck := Ck.of (T := ((Int) × (Int)) ⊕ (Int)) R_Classical.c236878s (fun ρ x_ k_ => R_Classical.c236878 x_.2.1 x_.2.2.2.1 x_.2.2.2.2.2.2.1 k_) (fun ρ x_ r_ k_ => sel r_ (fun r_ => k_ 1 (Shape.inj R_Classical.c236878x0 (x_.1, x_.2.1, (0 : Int), x_.2.2.2.1, x_.2.2.2.2.1, x_.2.2.2.2.2.1, x_.2.2.2.2.2.2.1, r_.1, r_.2, x_.2.2.2.2.2.2.2.2.2))) (fun r_ => k_ 0 (Shape.inj R_Classical.c236878x1 (x_.1, r_, x_.2.2))))
def R_Classical.c100007 {ρ : Type} (x : Int) (i : Int) (c2 : List ((Int) × ((Int) × ((List Int) × ((Int) × ((Int) × (List Int))))))) (k_ : ((Int) × (Int)) ⊕ (((Int) × (Int) × (Int) × (Int)) ⊕ ((Int) × (Int))) → Option ρ) : Option ρ :=
  br (decide (i < (↑(List.length c2) : Int)))
   (bnd (W.R_Classical.c236878 x i c2 some) fun y =>
    sel y
     (fun u => k_ (.inr (.inl (x, i, (Prod.fst u), (Prod.snd u)))))
     (fun v => k_ (.inl (v, (IntKind.wrap IntKind.i64 (i + (1 : Int)))))))
   (k_ (.inr (.inr (x, i))))
def R_Classical.c100007s : Shape := R_Classical.c9s
def R_Classical.c100007x0 : Shape := R_Classical.c9s
def R_Classical.c100007x1 : Shape := R_Classical.c9s
def R_Classical.c100007r : Ck := Ck.ofLoop (S := (Int) × (Int)) (T := ((Int) × (Int) × (Int) × (Int)) ⊕ ((Int) × (Int))) R_Classical.c100007s (fun x_ => (x_.2.1, x_.2.2.2.1)) (fun ρ x_ s_ k_ => R_Classical.c100007 s_.1 s_.2 x_.2.2.2.2.2.2.1 k_) (fun ρ x_ r_ k_ => sel r_ (fun r_ => k_ 1 (Shape.inj R_Classical.c100007x0 (x_.1, r_.1, (0 : Int), r_.2.1, x_.2.2.2.2.1, x_.2.2.2.2.2.1, x_.2.2.2.2.2.2.1, r_.2.2.1, r_.2.2.2, x_.2.2.2.2.2.2.2.2.2))) (fun r_ => k_ 2 (Shape.inj R_Classical.c100007x1 (x_.1, r_.1, x_.2.2.1, r_.2, x_.2.2.2.2))))
def R_Classical.c13 {ρ : Type}  (k_ : Unit → Option ρ) : Option ρ :=
  k_ ()
def R_Classical.c13s : Shape := R_Classical.c9s
def R_Classical.c13x0 : Shape := R_Classical.c9s
def R_Classical.c13r : Ck := Ck.of (T := Unit) R_Classical.c13s (fun ρ x_ k_ => R_Classical.c13  k_) (fun ρ x_ r_ k_ => k_ 0 (Shape.inj R_Classical.c13x0 (x_.1, x_.2.1, x_.2.1, x_.2.2.2.1, x_.2.2.2.2.1, x_.2.2.2.2.2.1, x_.2.2.2.2.2.2.1, x_.2.2.2.2.2.2.2.2.2.1, x_.2.2.2.2.2.2.2.2.2.2.1, x_.2.2.2.2.2.2.2.2.2)))
def R_Classical (c : (Int) × ((Int) × (List ((Int) × ((Int) × ((List Int) × ((Int) × ((Int) × (List Int))))))))) (x : Int) : Option ((Int) × ((Int) × (Int))) :=
  bnd (W.R_Check (Prod.fst c, Prod.fst (Prod.snd c), Prod.snd (Prod.snd c))) fun y =>
  br (Prod.fst y != (0 : Int))
   (bnd (W.R_Classical.c3 some) fun y_1 =>
    some ((0 : Int), Prod.fst y, Prod.snd y))
   (bnd (W.R_Classical.c4 x (Prod.fst c) some) fun y_2 =>
    br y_2
     (bnd (W.R_rfault (18 : Int) (0 : Int)) fun y_3 =>
      some ((0 : Int), Prod.fst y_3, Prod.snd y_3))
     (bnd (iter (fun s ↦ W.R_Classical.c100007 (Prod.fst s) (Prod.snd s) (Prod.snd (Prod.snd c)) some) (x, (0 : Int))) fun y_4 =>
      sel y_4
       (fun u => some ((0 : Int), Prod.fst (Prod.snd (Prod.snd u)), Prod.snd (Prod.snd (Prod.snd u))))
       (fun v => bnd (W.R_Classical.c13 some) fun y_5 =>
        some (Prod.fst v, Prod.fst y, Prod.snd y))))
def R_Classical.ce : Go.Ql.Callee := ⟨[(.st (.pair (.int .i64) (.pair (.int .i64) (.sl (.st (.pair (.int .i64) (.pair (.int .i64) (.pair (.sl (.int .i64)) (.pair (.int .i64) (.pair (.int .i64) (.sl (.int .i64)))))))))))), (.int .i64)], [(.int .i64), (.st (.pair (.int .i64) (.int .i64)))], fun x_ => R_Classical x_.1 x_.2⟩
def R_Classical.G : Env := ⟨69, tab, [(37, R_Check.ce), (36, R_rfault.ce), (38, R_allOne.ce)], [0, 1, 2, 4, 5, 6, 7, 12, 22, 28, 47, 57], [], [(13, [⟨[], [], [68], []⟩, ⟨[], [], [67, 4], []⟩, ⟨[0], [], [68], []⟩, ⟨[1, 2, 0], [5], [], []⟩]),
  (3, [⟨[], [], [4], []⟩, ⟨[], [], [13], []⟩, ⟨[0, 1], [5], [], []⟩])], [(13, R_Classical.c13r), (100007, R_Classical.c100007r), (236878, R_Classical.c236878r), (9, R_Classical.c9r), (4, R_Classical.c4r), (3, R_Classical.c3r)], [], tab_eqs⟩
theorem R_Classical.eq (x_ : dens R_Classical.ce.params) : den R_Classical.G Tryd.f15 R_Classical.ce.params R_Classical.ce.res x_ = R_Classical.ce.F x_ := by kernel_rfl
theorem R_Classical.p0 : PcA R_Classical.G Tryd.f15 0 :=
  region_ok (s := R_Classical.c3r) (by kernel_rfl) (by kernel_rfl) (sums_of (sh := R_Classical.c3s) (fun ρ x_ k_ => nat_leaf) (fun ρ x_ t k => (by kernel_rfl)) (fun x_ => by kernel_rfl))
theorem R_Classical.p1 : PcA R_Classical.G Tryd.f15 1 :=
  region_ok (s := R_Classical.c4r) (by kernel_rfl) (by kernel_rfl) (sums_of (sh := R_Classical.c4s) (fun ρ x_ k_ => (nat_br nat_leaf (nat_bnd fun _ => nat_leaf))) (fun ρ x_ t k => (by kernel_rfl)) (fun x_ => by kernel_rfl))
theorem R_Classical.p2 : PcA R_Classical.G Tryd.f15 2 :=
  loop_ok (s := R_Classical.c100007r) (by kernel_rfl) (by kernel_rfl) (loops_of (sh := R_Classical.c100007s) (I := fun x_ s_ => (x_.1, s_.1, x_.2.2.1, s_.2, x_.2.2.2.2)) (fun x_ => rfl) (fun ρ x_ s_ k_ => (nat_br (nat_bnd fun _ => (nat_sel (fun _ => nat_leaf) (fun _ => nat_leaf))) nat_leaf)) (fun ρ x_ t k => (nat_sel (fun _ => (by kernel_rfl)) (fun _ => (by kernel_rfl)))) (fun x_ s => by kernel_rfl))
theorem R_Classical.p3 : PcA R_Classical.G Tryd.f15 3 :=
  join_ok (s := R_Classical.c236878r) (by kernel_rfl) (by kernel_rfl) (sums_of (sh := R_Classical.c236878s) (fun ρ x_ k_ => (nat_bnd fun _ => (nat_br (nat_bnd fun _ => nat_leaf) (nat_bnd fun _ => (nat_bnd fun _ => (nat_br (nat_bnd fun _ => (nat_bnd fun _ => nat_leaf)) nat_leaf)))))) (fun ρ x_ t k => (nat_sel (fun _ => (by kernel_rfl)) (fun _ => (by kernel_rfl)))) (fun x_ => by kernel_rfl))
theorem R_Classical.p4 : PcA R_Classical.G Tryd.f15 4 :=
  region_ok (s := R_Classical.c9r) (by kernel_rfl) (by kernel_rfl) (sums_of (sh := R_Classical.c9s) (fun ρ x_ k_ => (nat_bnd fun _ => (nat_br nat_leaf (nat_bnd fun _ => nat_leaf)))) (fun ρ x_ t k => (by kernel_rfl)) (fun x_ => by kernel_rfl))
theorem R_Classical.p5 : PcA R_Classical.G Tryd.f15 5 :=
  region_ok (s := R_Classical.c13r) (by kernel_rfl) (by kernel_rfl) (sums_of (sh := R_Classical.c13s) (fun ρ x_ k_ => nat_leaf) (fun ρ x_ t k => (by kernel_rfl)) (fun x_ => by kernel_rfl))
theorem R_Classical.ok : CalleeOk Tryd.prog 15 R_Classical.ce := fn_ok (G := R_Classical.G) tab_ok mixed Tryd.func15 ⟨(fns_cons R_Check.ok (fns_cons R_rfault.ok (fns_cons R_allOne.ok fns_nil))), mfns_nil, tab_eqs_ok⟩ (m := 6) (by kernel_rfl) ⟨⟨⟨⟨⟨⟨trivial, R_Classical.p0⟩, R_Classical.p1⟩, R_Classical.p2⟩, R_Classical.p3⟩, R_Classical.p4⟩, R_Classical.p5⟩ (by kernel_rfl) R_Classical.eq
def R_CheckTable.c2 {ρ : Type} (p : List (Int)) (n : Int) (k_ : Bool → Option ρ) : Option ρ :=
  br (decide (n < (7 : Int)))
   (bnd (okIf (decide ((0 : Int) ≤ n))) fun y =>
    k_ ((↑(List.length p) : Int) != IntKind.wrap IntKind.i64 ((1 : Int) * (2 : Int) ^ Min.min (Int.toNat n) (64 : Nat))))
   (k_ false)
def R_CheckTable.c2s : Shape := ⟨[(0, vb15), (2, vb1), (3, vb8), (4, vb1)], [(3, vb10)]⟩
def R_CheckTable.c2x0 : Shape := ⟨[(0, vb15), (2, vb1), (3, vb8), (4, vb1), (14, vb11)], [(3, vb10)]⟩
def R_CheckTable.c2r : Ck := Ck.of (T := Bool) R_CheckTable.c2s (fun ρ x_ k_ => R_CheckTable.c2 x_.1 x_.2.2.1 k_) (fun ρ x_ r_ k_ => k_ 0 (Shape.inj R_CheckTable.c2x0 (x_.1, x_.2.1, x_.2.2.1, r_, x_.2.2.2)))
def R_CheckTable.c100002 {ρ : Type} (p : List (Int)) (n : Int) (k_ : (Int) ⊕ (Int) → Option ρ) : Option ρ :=
  bnd (W.R_CheckTable.c2 p n some) fun y =>
  br y
   (k_ (.inl (IntKind.wrap IntKind.i64 (n + (1 : Int)))))
   (k_ (.inr n))
def R_CheckTable.c100002s : Shape := R_CheckTable.c2s
def R_CheckTable.c100002x0 : Shape := R_CheckTable.c2s
def R_CheckTable.c100002r : Ck := Ck.ofLoop (S := Int) (T := Int) R_CheckTable.c100002s (fun x_ => x_.2.2.1) (fun ρ x_ s_ k_ => R_CheckTable.c100002 x_.1 s_ k_) (fun ρ x_ r_ k_ => k_ 2 (Shape.inj R_CheckTable.c100002x0 (x_.1, x_.2.1, r_, x_.2.2.2)))
def R_CheckTable.c9 {ρ : Type} (p : List (Int)) (i : Int) (k_ : Bool → Option ρ) : Option ρ :=
  bnd (idx p i) fun y =>
  br (decide (y < (0 : Int)))
   (k_ true)
   (bnd (idx p i) fun y_1 =>
    br (decide (y_1 ≥ (↑(List.length p) : Int)))
     (k_ true)
     (bnd (okIf (decide ((0 : Int) ≤ i) && decide (i ≤ (↑(List.length p) : Int)))) fun y_2 =>
      bnd (idx p i) fun y_3 =>
      bnd (W.R_member (List.take (Int.toNat i) p) y_3) fun y_4 =>
      k_ y_4))
def R_CheckTable.c9s : Shape := ⟨[(0, vb15), (2, vb1), (3, vb8), (4, vb1), (5, vb1)], [(3, vb10)]⟩
def R_CheckTable.c9x0 : Shape := ⟨[(0, vb15), (2, vb1), (3, vb8), (4, vb1), (5, vb1), (49, vb11)], [(3, vb10)]⟩
def R_CheckTable.c9r : Ck := Ck.of (T := Bool) R_CheckTable.c9s (fun ρ x_ k_ => R_CheckTable.c9 x_.1 x_.2.2.2.1 k_) (fun ρ x_ r_ k_ => k_ 0 (Shape.inj R_CheckTable.c9x0 (x_.1, x_.2.1, x_.2.2.1, x_.2.2.2.1, r_, x_.2.2.2.2)))
def R_CheckTable.c100007 {ρ : Type} (p : List (Int)) (i : Int) (k_ : (Int) ⊕ (((Int) × (Int) × (Int)) ⊕ (Int)) → Option ρ) : Option ρ :=
  br (decide (i < (↑(List.length p) : Int)))
   (bnd (W.R_CheckTable.c9 p i some) fun y =>
    br y
     (bnd (W.R_rfault (24 : Int) i) fun y_1 =>
      k_ (.inr (.inl (i, (Prod.fst y_1), (Prod.snd y_1)))))
     (k_ (.inl (IntKind.wrap IntKind.i64 (i + (1 : Int))))))
   (k_ (.inr (.inr i)))
def R_CheckTable.c100007s : Shape := R_CheckTable.c9s
def R_CheckTable.c100007x0 : Shape := R_CheckTable.c9s
def R_CheckTable.c100007x1 : Shape := R_CheckTable.c9s
def R_CheckTable.c100007r : Ck := Ck.ofLoop (S := Int) (T := ((Int) × (Int) × (Int)) ⊕ (Int)) R_CheckTable.c100007s (fun x_ => x_.2.2.2.1) (fun ρ x_ s_ k_ => R_CheckTable.c100007 x_.1 s_ k_) (fun ρ x_ r_ k_ => sel r_ (fun r_ => k_ 1 (Shape.inj R_CheckTable.c100007x0 (x_.1, (0 : Int), x_.2.2.1, r_.1, r_.2.1, r_.2.2, ()))) (fun r_ => k_ 4 (Shape.inj R_CheckTable.c100007x1 (x_.1, x_.2.1, x_.2.2.1, r_, x_.2.2.2.2))))
def R_CheckTable (p : List (Int)) : Option ((Int) × ((Int) × (Int))) :=
  bnd (iter (fun s ↦ W.R_CheckTable.c100002 p s some) (1 : Int)) fun y =>
  br (y == (7 : Int))
   (bnd (W.R_rfault (25 : Int) (0 : Int)) fun y_1 =>
    some ((0 : Int), Prod.fst y_1, Prod.snd y_1))
   (bnd (iter (fun s ↦ W.R_CheckTable.c100007 p s some) (0 : Int)) fun y_2 =>
    sel y_2
     (fun u => some ((0 : Int), Prod.fst (Prod.snd u), Prod.snd (Prod.snd u)))
     (fun v => some (y, (0 : Int), (0 : Int))))
def R_CheckTable.ce : Go.Ql.Callee := ⟨[(.sl (.int .i64))], [(.int .i64), (.st (.pair (.int .i64) (.int .i64)))], fun x_ => R_CheckTable x_⟩
def R_CheckTable.G : Env := ⟨54, tab, [(36, R_rfault.ce), (45, R_member.ce)], [0, 2, 3, 4, 5, 14, 18, 23, 49], [], [(9, [⟨[], [], [27], []⟩, ⟨[], [], [26], []⟩, ⟨[0, 1], [], [], []⟩, ⟨[2, 0, 1], [], [], []⟩, ⟨[3, 2, 0, 1], [], [], []⟩, ⟨[4, 3, 2, 0, 1], [], [], []⟩, ⟨[5, 4, 3, 2, 0, 1], [], [33, 36, 37], []⟩, ⟨[5, 4, 3, 2, 0, 1], [], [32, 36, 37], []⟩, ⟨[6, 5, 4, 3, 2, 0, 1, 7], [], [36, 37], []⟩, ⟨[8, 6, 5, 4, 3, 2, 0, 1, 7], [], [36, 37], []⟩, ⟨[5, 4, 3, 2, 0, 1], [], [32, 33, 34, 35], []⟩, ⟨[10, 5, 4, 3, 2, 0, 1], [], [32, 33, 34, 35], []⟩, ⟨[9, 8, 6, 5, 4, 3, 2, 0, 1, 7, 11, 10], [], [], []⟩, ⟨[5, 4, 3, 2, 0, 1, 12, 9, 8, 6, 7, 11, 10], [], [], []⟩, ⟨[13, 5, 4, 3, 2, 0, 1, 12, 9, 8, 6, 7, 11, 10], [], [], []⟩, ⟨[14, 13, 5, 4, 3, 2, 0, 1, 12, 9, 8, 6, 7, 11, 10], [], [42, 44, 45, 46, 47], []⟩, ⟨[14, 13, 5, 4, 3, 2, 0, 1, 12, 9, 8, 6, 7, 11, 10], [], [41, 44, 45, 46, 47], []⟩, ⟨[15, 14, 13, 5, 4, 3, 2, 0, 1, 12, 9, 8, 6, 7, 11, 10, 16], [], [44, 45, 46, 47], []⟩, ⟨[14, 13, 5, 4, 3, 2, 0, 1, 12, 9, 8, 6, 7, 11, 10], [], [41, 42, 43, 45], []⟩, ⟨[14, 13, 5, 4, 3, 2, 0, 1, 12, 9, 8, 6, 7, 11, 10], [], [41, 42, 43, 44], []⟩, ⟨[18, 14, 13, 5, 4, 3, 2, 0, 1, 12, 9, 8, 6, 7, 11, 10, 19], [], [41, 42, 43], []⟩, ⟨[20, 18, 14, 13, 5, 4, 3, 2, 0, 1, 12, 9, 8, 6, 7, 11, 10, 19], [], [41, 42, 43], []⟩, ⟨[17, 15, 14, 13, 5, 4, 3, 2, 0, 1, 12, 9, 8, 6, 7, 11, 10, 16, 21, 20, 18, 19], [], [], []⟩, ⟨[14, 13, 5, 4, 3, 2, 0, 1, 12, 9, 8, 6, 7, 11, 10, 22, 17, 15, 16, 21, 20, 18, 19], [], [], []⟩])], [(100007, R_CheckTable.c100007r), (9, R_CheckTable.c9r), (100002, R_CheckTable.c100002r), (2, R_CheckTable.c2r)], [], tab_eqs⟩
theorem R_CheckTable.eq (x_ : dens R_CheckTable.ce.params) : den R_CheckTable.G Tryd.f18 R_CheckTable.ce.params R_CheckTable.ce.res x_ = R_CheckTable.ce.F x_ := by kernel_rfl
theorem R_CheckTable.p0 : PcA R_CheckTable.G Tryd.f18 0 :=
  loop_ok (s := R_CheckTable.c100002r) (by kernel_rfl) (by kernel_rfl) (loops_of (sh := R_CheckTable.c100002s) (I := fun x_ s_ => (x_.1, x_.2.1, s_, x_.2.2.2)) (fun x_ => rfl) (fun ρ x_ s_ k_ => (nat_bnd fun _ => (nat_br nat_leaf nat_leaf))) (fun ρ x_ t k => (by kernel_rfl)) (fun x_ s => by kernel_rfl))
theorem R_CheckTable.p1 : PcA R_CheckTable.G Tryd.f18 1 :=
  region_ok (s := R_CheckTable.c2r) (by kernel_rfl) (by kernel_rfl) (sums_of (sh := R_CheckTable.c2s) (fun ρ x_ k_ => (nat_br (nat_bnd fun _ => nat_leaf) nat_leaf)) (fun ρ x_ t k => (by kernel_rfl)) (fun x_ => by kernel_rfl))
theorem R_CheckTable.p2 : PcA R_CheckTable.G Tryd.f18 2 :=
  loop_ok (s := R_CheckTable.c100007r) (by kernel_rfl) (by kernel_rfl) (loops_of (sh := R_CheckTable.c100007s) (I := fun x_ s_ => (x_.1, x_.2.1, x_.2.2.1, s_, x_.2.2.2.2)) (fun x_ => rfl) (fun ρ x_ s_ k_ => (nat_br (nat_bnd fun _ => (nat_br (nat_bnd fun _ => nat_leaf) nat_leaf)) nat_leaf)) (fun ρ x_ t k => (nat_sel (fun _ => (by kernel_rfl)) (fun _ => (by kernel_rfl)))) (fun x_ s => by kernel_rfl))
theorem R_CheckTable.p3 : PcA R_CheckTable.G Tryd.f18 3 :=
  region_ok (s := R_CheckTable.c9r) (by kernel_rfl) (by kernel_rfl) (sums_of (sh := R_CheckTable.c9s) (fun ρ x_ k_ => (nat_bnd fun _ => (nat_br nat_leaf (nat_bnd fun _ => (nat_br nat_leaf (nat_bnd fun _ => (nat_bnd fun _ => (nat_bnd fun _ => nat_leaf)))))))) (fun ρ x_ t k => (by kernel_rfl)) (fun x_ => by kernel_rfl))
theorem R_CheckTable.ok : CalleeOk Tryd.prog 18 R_CheckTable.ce := fn_ok (G := R_CheckTable.G) tab_ok mixed Tryd.func18 ⟨(fns_cons R_rfault.ok (fns_cons R_member.ok fns_nil)), mfns_nil, tab_eqs_ok⟩ (m := 4) (by kernel_rfl) ⟨⟨⟨⟨trivial, R_CheckTable.p0⟩, R_CheckTable.p1⟩, R_CheckTable.p2⟩, R_CheckTable.p3⟩ (by kernel_rfl) R_CheckTable.eq
def R_SameInts.c6 {ρ : Type} (a : List (Int)) (b : List (Int)) (i : Int) (k_ : Bool → Option ρ) : Option ρ :=
  bnd (idx a i) fun y =>
  bnd (idx b i) fun y_1 =>
  k_ (y != y_1)
def R_SameInts.c6s : Shape := ⟨[(0, vb15), (1, vb15), (4, vb11), (5, vb1)], []⟩
def R_SameInts.c6x0 : Shape := ⟨[(0, vb15), (1, vb15), (4, vb11), (5, vb1), (25, vb11)], []⟩
def R_SameInts.c6r : Ck := Ck.of (T := Bool) R_SameInts.c6s (fun ρ x_ k_ => R_SameInts.c6 x_.1 x_.2.1 x_.2.2.2.1 k_) (fun ρ x_ r_ k_ => k_ 0 (Shape.inj R_SameInts.c6x0 (x_.1, x_.2.1, x_.2.2.1, x_.2.2.2.1, r_, ())))
def R_SameInts.c100004 {ρ : Type} (a : List (Int)) (b : List (Int)) (i : Int) (k_ : (Int) ⊕ ((Int) ⊕ (Int)) → Option ρ) : Option ρ :=
  br (decide (i < (↑(List.length a) : Int)))
   (bnd (W.R_SameInts.c6 a b i some) fun y =>
    br y
     (k_ (.inr (.inl i)))
     (k_ (.inl (IntKind.wrap IntKind.i64 (i + (1 : Int))))))
   (k_ (.inr (.inr i)))
def R_SameInts.c100004s : Shape := R_SameInts.c6s
def R_SameInts.c100004x0 : Shape := R_SameInts.c6s
def R_SameInts.c100004x1 : Shape := R_SameInts.c6s
def R_SameInts.c100004r : Ck := Ck.ofLoop (S := Int) (T := (Int) ⊕ (Int)) R_SameInts.c100004s (fun x_ => x_.2.2.2.1) (fun ρ x_ s_ k_ => R_SameInts.c100004 x_.1 x_.2.1 s_ k_) (fun ρ x_ r_ k_ => sel r_ (fun r_ => k_ 1 (Shape.inj R_SameInts.c100004x0 (x_.1, x_.2.1, false, r_, ()))) (fun r_ => k_ 2 (Shape.inj R_SameInts.c100004x1 (x_.1, x_.2.1, x_.2.2.1, r_, ()))))
def R_SameInts (a : List (Int)) (b : List (Int)) : Option (Bool) :=
  br ((↑(List.length a) : Int) != (↑(List.length b) : Int))
   (some false)
   (bnd (iter (fun s ↦ W.R_SameInts.c100004 a b s some) (0 : Int)) fun y =>
    sel y
     (fun u => some false)
     (fun v => some true))
def R_SameInts.ce : Go.Ql.Callee := ⟨[(.sl (.int .i64)), (.sl (.int .i64))], [.bool], fun x_ => R_SameInts x_.1 x_.2⟩
def R_SameInts.G : Env := ⟨26, tab, [], [0, 1, 4, 5, 10, 14, 25], [], [(6, [⟨[], [], [18, 21, 22, 23, 24], []⟩, ⟨[], [], [17, 21, 22, 23, 24], []⟩, ⟨[0, 1], [], [21, 22, 23, 24], []⟩, ⟨[2, 0, 1], [], [21, 22, 23, 24], []⟩, ⟨[], [], [17, 18, 19, 20, 22], []⟩, ⟨[], [], [17, 18, 19, 20, 21], []⟩, ⟨[4, 5], [], [17, 18, 19, 20], []⟩, ⟨[6, 4, 5], [], [17, 18, 19, 20], []⟩, ⟨[3, 2, 0, 1, 7, 6, 4, 5], [], [], []⟩])], [(100004, R_SameInts.c100004r), (6, R_SameInts.c6r)], [], tab_eqs⟩
theorem R_SameInts.eq (x_ : dens R_SameInts.ce.params) : den R_SameInts.G Tryd.f19 R_SameInts.ce.params R_SameInts.ce.res x_ = R_SameInts.ce.F x_ := by kernel_rfl
theorem R_SameInts.p0 : PcA R_SameInts.G Tryd.f19 0 :=
  loop_ok (s := R_SameInts.c100004r) (by kernel_rfl) (by kernel_rfl) (loops_of (sh := R_SameInts.c100004s) (I := fun x_ s_ => (x_.1, x_.2.1, x_.2.2.1, s_, ())) (fun x_ => rfl) (fun ρ x_ s_ k_ => (nat_br (nat_bnd fun _ => (nat_br nat_leaf nat_leaf)) nat_leaf)) (fun ρ x_ t k => (nat_sel (fun _ => (by kernel_rfl)) (fun _ => (by kernel_rfl)))) (fun x_ s => by kernel_rfl))
theorem R_SameInts.p1 : PcA R_SameInts.G Tryd.f19 1 :=
  region_ok (s := R_SameInts.c6r) (by kernel_rfl) (by kernel_rfl) (sums_of (sh := R_SameInts.c6s) (fun ρ x_ k_ => (nat_bnd fun _ => (nat_bnd fun _ => nat_leaf))) (fun ρ x_ t k => (by kernel_rfl)) (fun x_ => by kernel_rfl))
theorem R_SameInts.ok : CalleeOk Tryd.prog 19 R_SameInts.ce := fn_ok (G := R_SameInts.G) tab_ok mixed Tryd.func19 ⟨fns_nil, mfns_nil, tab_eqs_ok⟩ (m := 2) (by kernel_rfl) ⟨⟨trivial, R_SameInts.p0⟩, R_SameInts.p1⟩ (by kernel_rfl) R_SameInts.eq
def R_SameLists.c6 {ρ : Type} (a : List (List Int)) (b : List (List Int)) (i : Int) (k_ : Bool → Option ρ) : Option ρ :=
  bnd (idx a i) fun y =>
  bnd (idx b i) fun y_1 =>
  bnd (W.R_SameInts y y_1) fun y_2 =>
  k_ (!y_2)
def R_SameLists.c6s : Shape := ⟨[(0, vb42), (1, vb42), (4, vb11), (5, vb1)], []⟩
def R_SameLists.c6x0 : Shape := ⟨[(0, vb42), (1, vb42), (4, vb11), (5, vb1), (26, vb11)], []⟩
def R_SameLists.c6r : Ck := Ck.of (T := Bool) R_SameLists.c6s (fun ρ x_ k_ => R_SameLists.c6 x_.1 x_.2.1 x_.2.2.2.1 k_) (fun ρ x_ r_ k_ => k_ 0 (Shape.inj R_SameLists.c6x0 (x_.1, x_.2.1, x_.2.2.1, x_.2.2.2.1, r_, ())))
def R_SameLists.c100004 {ρ : Type} (a : List (List Int)) (b : List (List Int)) (i : Int) (k_ : (Int) ⊕ ((Int) ⊕ (Int)) → Option ρ) : Option ρ :=
  br (decide (i < (↑(List.length a) : Int)))
   (bnd (W.R_SameLists.c6 a b i some) fun y =>
    br y
     (k_ (.inr (.inl i)))
     (k_ (.inl (IntKind.wrap IntKind.i64 (i + (1 : Int))))))
   (k_ (.inr (.inr i)))
def R_SameLists.c100004s : Shape := R_SameLists.c6s
def R_SameLists.c100004x0 : Shape := R_SameLists.c6s
def R_SameLists.c100004x1 : Shape := R_SameLists.c6s
def R_SameLists.c100004r : Ck := Ck.ofLoop (S := Int) (T := (Int) ⊕ (Int)) R_SameLists.c100004s (fun x_ => x_.2.2.2.1) (fun ρ x_ s_ k_ => R_SameLists.c100004 x_.1 x_.2.1 s_ k_) (fun ρ x_ r_ k_ => sel r_ (fun r_ => k_ 1 (Shape.inj R_SameLists.c100004x0 (x_.1, x_.2.1, false, r_, ()))) (fun r_ => k_ 2 (Shape.inj R_SameLists.c100004x1 (x_.1, x_.2.1, x_.2.2.1, r_, ()))))
def R_SameLists (a : List (List Int)) (b : List (List Int)) : Option (Bool) :=
  br ((↑(List.length a) : Int) != (↑(List.length b) : Int))
   (some false)
   (bnd (iter (fun s ↦ W.R_SameLists.c100004 a b s some) (0 : Int)) fun y =>
    sel y
     (fun u => some false)
     (fun v => some true))
def R_SameLists.ce : Go.Ql.Callee := ⟨[(.sl (.sl (.int .i64))), (.sl (.sl (.int .i64)))], [.bool], fun x_ => R_SameLists x_.1 x_.2⟩
def R_SameLists.G : Env := ⟨27, tab, [(19, R_SameInts.ce)], [0, 1, 4, 5, 10, 14, 26], [], [(6, [⟨[], [], [18, 21, 22, 23, 24], []⟩, ⟨[], [], [17, 21, 22, 23, 24], []⟩, ⟨[0, 1], [], [21, 22, 23, 24], []⟩, ⟨[2, 0, 1], [], [21, 22, 23, 24], []⟩, ⟨[], [], [17, 18, 19, 20, 22], []⟩, ⟨[], [], [17, 18, 19, 20, 21], []⟩, ⟨[4, 5], [], [17, 18, 19, 20], []⟩, ⟨[6, 4, 5], [], [17, 18, 19, 20], []⟩, ⟨[3, 2, 0, 1, 7, 6, 4, 5], [], [], []⟩, ⟨[8, 3, 2, 0, 1, 7, 6, 4, 5], [], [], []⟩])], [(100004, R_SameLists.c100004r), (6, R_SameLists.c6r)], [], tab_eqs⟩
theorem R_SameLists.eq (x_ : dens R_SameLists.ce.params) : den R_SameLists.G Tryd.f24 R_SameLists.ce.params R_SameLists.ce.res x_ = R_SameLists.ce.F x_ := by kernel_rfl
theorem R_SameLists.p0 : PcA R_SameLists.G Tryd.f24 0 :=
  loop_ok (s := R_SameLists.c100004r) (by kernel_rfl) (by kernel_rfl) (loops_of (sh := R_SameLists.c100004s) (I := fun x_ s_ => (x_.1, x_.2.1, x_.2.2.1, s_, ())) (fun x_ => rfl) (fun ρ x_ s_ k_ => (nat_br (nat_bnd fun _ => (nat_br nat_leaf nat_leaf)) nat_leaf)) (fun ρ x_ t k => (nat_sel (fun _ => (by kernel_rfl)) (fun _ => (by kernel_rfl)))) (fun x_ s => by kernel_rfl))
theorem R_SameLists.p1 : PcA R_SameLists.G Tryd.f24 1 :=
  region_ok (s := R_SameLists.c6r) (by kernel_rfl) (by kernel_rfl) (sums_of (sh := R_SameLists.c6s) (fun ρ x_ k_ => (nat_bnd fun _ => (nat_bnd fun _ => (nat_bnd fun _ => nat_leaf)))) (fun ρ x_ t k => (by kernel_rfl)) (fun x_ => by kernel_rfl))
theorem R_SameLists.ok : CalleeOk Tryd.prog 24 R_SameLists.ce := fn_ok (G := R_SameLists.G) tab_ok mixed Tryd.func24 ⟨(fns_cons R_SameInts.ok fns_nil), mfns_nil, tab_eqs_ok⟩ (m := 2) (by kernel_rfl) ⟨⟨trivial, R_SameLists.p0⟩, R_SameLists.p1⟩ (by kernel_rfl) R_SameLists.eq
def R_Truth_b.self.pre : Shape := ⟨[(0, vb0), (1, vb1)], []⟩
def R_Truth_b.self.post : Shape := ⟨[(0, vb1)], []⟩
class R_Truth_b.Self where
  F : densU R_Truth_b.self.pre.tys → Option (densU R_Truth_b.self.post.tys)
  ok : MOk Tryd.prog 16 ⟨16, R_Truth_b.self.pre, R_Truth_b.self.post, F⟩
section
variable [R_Truth_b.Self]
def R_Truth_b.self (x_ : densU R_Truth_b.self.pre.tys) : Option (densU R_Truth_b.self.post.tys) := R_Truth_b.Self.F x_
def R_Truth_b.self.mc : MCallee := ⟨16, R_Truth_b.self.pre, R_Truth_b.self.post, fun x_ => R_Truth_b.self x_⟩
theorem R_Truth_b.self.ok : MOk Tryd.prog 16 R_Truth_b.self.mc := R_Truth_b.Self.ok
def R_Truth_b.pre : Shape := ⟨[(0, vb0), (1, vb1)], []⟩
def R_Truth_b.post : Shape := ⟨[(0, vb1)], []⟩
def R_Truth_b (e : Rose ((Int) × (Int))) (x : Int) : Option ((Int) × Unit) :=
  br (Prod.fst (Rose.head e) == (1 : Int))
   (bnd (W.R_bitOf x (Prod.snd (Rose.head e))) fun y =>
    some (y, ()))
   (br (Prod.fst (Rose.head e) == (2 : Int))
     (some ((1 : Int), ()))
     (bnd (idx (Rose.kids e) (0 : Int)) fun y_1 =>
      bnd (W.R_Truth_b.self (y_1, x, ())) fun y_2 =>
      br (Prod.fst (Rose.head e) == (3 : Int))
       (some (IntKind.wrap IntKind.i64 ((1 : Int) - Prod.fst y_2), ()))
       (bnd (idx (Rose.kids e) (1 : Int)) fun y_3 =>
        bnd (W.R_Truth_b.self (y_3, x, ())) fun y_4 =>
        br (Prod.fst (Rose.head e) == (4 : Int))
         (some (IntKind.wrap IntKind.i64 (Prod.fst y_2 * Prod.fst y_4), ()))
         (br (Prod.fst (Rose.head e) == (6 : Int))
           (some (Int.tmod (IntKind.wrap IntKind.i64 (Prod.fst y_2 + Prod.fst y_4)) (2 : Int), ()))
           (some (IntKind.wrap IntKind.i64 (IntKind.wrap IntKind.i64 (Prod.fst y_2 + Prod.fst y_4) - IntKind.wrap IntKind.i64 (Prod.fst y_2 * Prod.fst y_4)), ()))))))
def R_Truth_b.mc : MCallee := ⟨16, R_Truth_b.pre, R_Truth_b.post, fun x_ => R_Truth_b x_.1 x_.2.1⟩
def R_Truth_b.G : Env := ⟨54, tab, [(39, R_bitOf.ce)], [0, 1, 2, 4, 5, 6, 9, 16, 25, 36, 42], [], [], [], [(16, R_Truth_b.self.mc)], tab_eqs⟩
theorem R_Truth_b.eq (x_ : densU R_Truth_b.mc.pre.tys) : denM R_Truth_b.G Tryd.f16 R_Truth_b.mc.pre R_Truth_b.mc.post x_ = R_Truth_b.mc.F x_ := by kernel_rfl
theorem R_Truth_b.ok : MOk Tryd.prog 16 R_Truth_b.mc := fnm_ok (G := R_Truth_b.G) tab_ok mixed Tryd.func16 ⟨(fns_cons R_bitOf.ok fns_nil), (mfns_cons R_Truth_b.self.ok mfns_nil), tab_eqs_ok⟩ (m := 0) (by kernel_rfl) trivial (by kernel_rfl) R_Truth_b.eq
end
@[reducible] def R_Truth_b.fuel : Nat → R_Truth_b.Self
  | 0 => ⟨fun _ => none, ⟨⟨Tryd.f16, Tryd.func16, by kernel_rfl, by kernel_rfl⟩, fun _ _ _ _ _ _ _ hy => by cases hy⟩⟩
  | n + 1 => ⟨fun x_ => (@R_Truth_b.mc (R_Truth_b.fuel n)).F x_, @R_Truth_b.ok (R_Truth_b.fuel n)⟩
def R_Truth (x_ : densU R_Truth_b.self.pre.tys) : Option (densU R_Truth_b.self.post.tys) := (R_Truth_b.fuel (sizeOf x_.1)).F x_
def R_Truth.mc : MCallee := ⟨16, R_Truth_b.self.pre, R_Truth_b.self.post, fun x_ => R_Truth x_⟩
theorem R_Truth.ok : MOk Tryd.prog 16 R_Truth.mc := mok_diag (F := fun n => (R_Truth_b.fuel n).F) (fun n => (R_Truth_b.fuel n).ok) (fun x_ => sizeOf x_.1)
def R_subsets_b.self.pre : Shape := ⟨[(0, vb1), (1, vb1), (2, vb1)], []⟩
def R_subsets_b.self.post : Shape := ⟨[(0, vb42)], []⟩
class R_subsets_b.Self where
  F : densU R_subsets_b.self.pre.tys → Option (densU R_subsets_b.self.post.tys)
  ok : MOk Tryd.prog 50 ⟨50, R_subsets_b.self.pre, R_subsets_b.self.post, F⟩
section
variable [R_subsets_b.Self]
def R_subsets_b.self (x_ : densU R_subsets_b.self.pre.tys) : Option (densU R_subsets_b.self.post.tys) := R_subsets_b.Self.F x_
def R_subsets_b.self.mc : MCallee := ⟨50, R_subsets_b.self.pre, R_subsets_b.self.post, fun x_ => R_subsets_b.self x_⟩
theorem R_subsets_b.self.ok : MOk Tryd.prog 50 R_subsets_b.self.mc := R_subsets_b.Self.ok
def R_subsets_b.pre : Shape := ⟨[(0, vb1), (1, vb1), (2, vb1)], []⟩
def R_subsets_b.post : Shape := ⟨[(0, vb42)], []⟩
def R_subsets_b.c100009 {ρ : Type} (v : Int) (rest : List (List Int)) (i : Int) (out : List (List Int)) (k_ : ((Int) × (List (List Int))) ⊕ ((Int) × (List (List Int))) → Option ρ) : Option ρ :=
  br (decide (i < (↑(List.length rest) : Int)))
   (bnd (idx rest i) fun y =>
    bnd (okIf (decide (((1 : Nat) + List.length y) * (8 : Nat) ≤ (140737488355328 : Nat)) && decide ((1 : Nat) + List.length y ≤ (140737488355328 : Nat)))) fun y_1 =>
    bnd (okIf (decide ((List.length out + (1 : Nat)) * (24 : Nat) ≤ (140737488355328 : Nat)) && decide (List.length out + (1 : Nat) ≤ (140737488355328 : Nat)))) fun y_2 =>
    k_ (.inl ((IntKind.wrap IntKind.i64 (i + (1 : Int))), (out ++ [[v] ++ y]))))
   (k_ (.inr (i, out)))
def R_subsets_b.c100009s : Shape := ⟨[(0, vb1), (1, vb1), (2, vb1), (6, vb42), (7, vb43), (8, vb1), (9, vb42), (10, vb1)], [(7, vb45)]⟩
def R_subsets_b.c100009x0 : Shape := R_subsets_b.c100009s
def R_subsets_b.c100009r : Ck := Ck.ofLoop (S := (Int) × (List (List Int))) (T := (Int) × (List (List Int))) R_subsets_b.c100009s (fun x_ => (x_.2.2.2.2.2.2.1, x_.2.2.2.2.2.2.2.1)) (fun ρ x_ s_ k_ => R_subsets_b.c100009 x_.2.2.2.2.1 x_.2.2.2.2.2.1 s_.1 s_.2 k_) (fun ρ x_ r_ k_ => k_ 4 (Shape.inj R_subsets_b.c100009x0 (x_.1, x_.2.1, x_.2.2.1, x_.2.2.2.1, x_.2.2.2.2.1, x_.2.2.2.2.2.1, r_.1, r_.2, ())))
def R_subsets_b.c100005 {ρ : Type} (n : Int) (size : Int) (v : Int) (out : List (List Int)) (k_ : ((Int) × (List (List Int))) ⊕ ((Int) × (List (List Int))) → Option ρ) : Option ρ :=
  br (decide (v < n))
   (bnd (W.R_subsets_b.self (n, IntKind.wrap IntKind.i64 (size - (1 : Int)), IntKind.wrap IntKind.i64 (v + (1 : Int)), ())) fun y =>
    bnd (iter (fun s ↦ W.R_subsets_b.c100009 v (Prod.fst y) (Prod.fst s) (Prod.snd s) some) ((0 : Int), out)) fun y_1 =>
    k_ (.inl ((IntKind.wrap IntKind.i64 (v + (1 : Int))), (Prod.snd y_1))))
   (k_ (.inr (v, out)))
def R_subsets_b.c100005s : Shape := ⟨[(0, vb1), (1, vb1), (2, vb1), (6, vb42), (7, vb43), (8, vb1)], [(7, vb45)]⟩
def R_subsets_b.c100005x0 : Shape := R_subsets_b.c100005s
def R_subsets_b.c100005r : Ck := Ck.ofLoop (S := (Int) × (List (List Int))) (T := (Int) × (List (List Int))) R_subsets_b.c100005s (fun x_ => (x_.2.2.2.2.1, x_.2.2.2.2.2.1)) (fun ρ x_ s_ k_ => R_subsets_b.c100005 x_.1 x_.2.1 s_.1 s_.2 k_) (fun ρ x_ r_ k_ => k_ 2 (Shape.inj R_subsets_b.c100005x0 (x_.1, x_.2.1, x_.2.2.1, x_.2.2.2.1, r_.1, r_.2, ())))
def R_subsets_b (n : Int) (size : Int) (t2 : Int) : Option ((List (List Int)) × Unit) :=
  br (size == (0 : Int))
   (some ([[]], ()))
   (bnd (iter (fun s ↦ W.R_subsets_b.c100005 n size (Prod.fst s) (Prod.snd s) some) (t2, [])) fun y =>
    some (Prod.snd y, ()))
def R_subsets_b.mc : MCallee := ⟨50, R_subsets_b.pre, R_subsets_b.post, fun x_ => R_subsets_b x_.1 x_.2.1 x_.2.2.1⟩
def R_subsets_b.G : Env := ⟨43, tab, [], [0, 1, 2, 6, 7, 8, 9, 10, 12, 17, 29], [7, 34], [], [(100005, R_subsets_b.c100005r), (100009, R_subsets_b.c100009r)], [(50, R_subsets_b.self.mc)], tab_eqs⟩
theorem R_subsets_b.eq (x_ : densU R_subsets_b.mc.pre.tys) : denM R_subsets_b.G Tryd.f50 R_subsets_b.mc.pre R_subsets_b.mc.post x_ = R_subsets_b.mc.F x_ := by kernel_rfl
theorem R_subsets_b.p0 : PcA R_subsets_b.G Tryd.f50 0 :=
  loop_ok (s := R_subsets_b.c100005r) (by kernel_rfl) (by kernel_rfl) (loops_of (sh := R_subsets_b.c100005s) (I := fun x_ s_ => (x_.1, x_.2.1, x_.2.2.1, x_.2.2.2.1, s_.1, s_.2, ())) (fun x_ => rfl) (fun ρ x_ s_ k_ => (nat_br (nat_bnd fun _ => (nat_bnd fun _ => nat_leaf)) nat_leaf)) (fun ρ x_ t k => (by kernel_rfl)) (fun x_ s => by kernel_rfl))
theorem R_subsets_b.p1 : PcA R_subsets_b.G Tryd.f50 1 :=
  loop_ok (s := R_subsets_b.c100009r) (by kernel_rfl) (by kernel_rfl) (loops_of (sh := R_subsets_b.c100009s) (I := fun x_ s_ => (x_.1, x_.2.1, x_.2.2.1, x_.2.2.2.1, x_.2.2.2.2.1, x_.2.2.2.2.2.1, s_.1, s_.2, ())) (fun x_ => rfl) (fun ρ x_ s_ k_ => (nat_br (nat_bnd fun _ => (nat_bnd fun _ => (nat_bnd fun _ => nat_leaf))) nat_leaf)) (fun ρ x_ t k => (by kernel_rfl)) (fun x_ s => by kernel_rfl))
theorem R_subsets_b.ok : MOk Tryd.prog 50 R_subsets_b.mc := fnm_ok (G := R_subsets_b.G) tab_ok mixed Tryd.func50 ⟨fns_nil, (mfns_cons R_subsets_b.self.ok mfns_nil), tab_eqs_ok⟩ (m := 2) (by kernel_rfl) ⟨⟨trivial, R_subsets_b.p0⟩, R_subsets_b.p1⟩ (by kernel_rfl) R_subsets_b.eq
end
@[reducible] def R_subsets_b.fuel : Nat → R_subsets_b.Self
  | 0 => ⟨fun _ => none, ⟨⟨Tryd.f50, Tryd.func50, by kernel_rfl, by kernel_rfl⟩, fun _ _ _ _ _ _ _ hy => by cases hy⟩⟩
  | n + 1 => ⟨fun x_ => (@R_subsets_b.mc (R_subsets_b.fuel n)).F x_, @R_subsets_b.ok (R_subsets_b.fuel n)⟩
def R_subsets (x_ : densU R_subsets_b.self.pre.tys) : Option (densU R_subsets_b.self.post.tys) := (R_subsets_b.fuel (Int.toNat x_.2.1 + 1)).F x_
def R_subsets.mc : MCallee := ⟨50, R_subsets_b.self.pre, R_subsets_b.self.post, fun x_ => R_subsets x_⟩
theorem R_subsets.ok : MOk Tryd.prog 50 R_subsets.mc := mok_diag (F := fun n => (R_subsets_b.fuel n).F) (fun n => (R_subsets_b.fuel n).ok) (fun x_ => Int.toNat x_.2.1 + 1)
def R_SameCircuit.c1 {ρ : Type} (a0 : Int) (a1 : Int) (a2 : List ((Int) × ((Int) × ((List Int) × ((Int) × ((Int) × (List Int))))))) (b0 : Int) (b1 : Int) (b2 : List ((Int) × ((Int) × ((List Int) × ((Int) × ((Int) × (List Int))))))) (k_ : Bool → Option ρ) : Option ρ :=
  br (a0 != b0)
   (k_ true)
   (br (a1 != b1)
     (k_ true)
     (k_ ((↑(List.length a2) : Int) != (↑(List.length b2) : Int))))
def R_SameCircuit.c1s : Shape := ⟨[(0, vb34), (1, vb34), (2, vb12), (3, vb8), (4, vb11)], [(2, vb27), (3, vb27)]⟩
def R_SameCircuit.c1x0 : Shape := ⟨[(0, vb34), (1, vb34), (2, vb12), (3, vb8), (4, vb11), (28, vb11)], [(2, vb27), (3, vb27)]⟩
def R_SameCircuit.c1r : Ck := Ck.of (T := Bool) R_SameCircuit.c1s (fun ρ x_ k_ => R_SameCircuit.c1 x_.2.2.2.1 x_.2.2.2.2.1 x_.2.2.2.2.2.1 x_.2.2.2.2.2.2.1 x_.2.2.2.2.2.2.2.1 x_.2.2.2.2.2.2.2.2.1 k_) (fun ρ x_ r_ k_ => k_ 0 (Shape.inj R_SameCircuit.c1x0 (x_.1, x_.2.1, x_.2.2.1, r_, x_.2.2.2)))
def R_SameCircuit.c8 {ρ : Type} (x0 : Int) (x1 : Int) (x2 : List (Int)) (x3 : Int) (x4 : Int) (x5 : List (Int)) (y0 : Int) (y1 : Int) (y2 : List (Int)) (y3 : Int) (y4 : Int) (y5 : List (Int)) (k_ : Bool → Option ρ) : Option ρ :=
  br (x0 != y0)
   (k_ true)
   (br (x1 != y1)
     (k_ true)
     (br (x3 != y3)
       (k_ true)
       (br (x4 != y4)
         (k_ true)
         (bnd (W.R_SameInts x2 y2) fun y =>
          br (!y)
           (k_ true)
           (bnd (W.R_SameInts x5 y5) fun y_1 =>
            k_ (!y_1))))))
def R_SameCircuit.c8s : Shape := ⟨[(0, vb34), (1, vb34), (2, vb12), (3, vb8), (4, vb11), (5, vb1), (6, vb9), (7, vb47)], [(2, vb27), (3, vb27), (6, vb25), (7, vb25)]⟩
def R_SameCircuit.c8x0 : Shape := ⟨[(0, vb34), (1, vb34), (2, vb12), (3, vb8), (4, vb11), (5, vb1), (6, vb9), (7, vb47), (87, vb11)], [(2, vb27), (3, vb27), (6, vb25), (7, vb25)]⟩
def R_SameCircuit.c8r : Ck := Ck.of (T := Bool) R_SameCircuit.c8s (fun ρ x_ k_ => R_SameCircuit.c8 x_.2.2.2.2.2.2.2.2.2.2.1 x_.2.2.2.2.2.2.2.2.2.2.2.1 x_.2.2.2.2.2.2.2.2.2.2.2.2.1 x_.2.2.2.2.2.2.2.2.2.2.2.2.2.1 x_.2.2.2.2.2.2.2.2.2.2.2.2.2.2.1 x_.2.2.2.2.2.2.2.2.2.2.2.2.2.2.2.1 x_.2.2.2.2.2.2.2.2.2.2.2.2.2.2.2.2.1 x_.2.2.2.2.2.2.2.2.2.2.2.2.2.2.2.2.2.1 x_.2.2.2.2.2.2.2.2.2.2.2.2.2.2.2.2.2.2.1 x_.2.2.2.2.2.2.2.2.2.2.2.2.2.2.2.2.2.2.2.1 x_.2.2.2.2.2.2.2.2.2.2.2.2.2.2.2.2.2.2.2.2.1 x_.2.2.2.2.2.2.2.2.2.2.2.2.2.2.2.2.2.2.2.2.2.1 k_) (fun ρ x_ r_ k_ => k_ 0 (Shape.inj R_SameCircuit.c8x0 (x_.1, x_.2.1, x_.2.2.1, x_.2.2.2.1, r_, x_.2.2.2.2)))
def R_SameCircuit.c100004 {ρ : Type} (i : Int) (a2 : List ((Int) × ((Int) × ((List Int) × ((Int) × ((Int) × (List Int))))))) (b2 : List ((Int) × ((Int) × ((List Int) × ((Int) × ((Int) × (List Int))))))) (k_ : (Int) ⊕ ((Int) ⊕ (Int)) → Option ρ) : Option ρ :=
  br (decide (i < (↑(List.length a2) : Int)))
   (bnd (idx a2 i) fun y =>
    bnd (idx b2 i) fun y_1 =>
    bnd (W.R_SameCircuit.c8 (Prod.fst y) (Prod.fst (Prod.snd y)) (Prod.fst (Prod.snd (Prod.snd y))) (Prod.fst (Prod.snd (Prod.snd (Prod.snd y)))) (Prod.fst (Prod.snd (Prod.snd (Prod.snd (Prod.snd y))))) (Prod.snd (Prod.snd (Prod.snd (Prod.snd (Prod.snd y))))) (Prod.fst y_1) (Prod.fst (Prod.snd y_1)) (Prod.fst (Prod.snd (Prod.snd y_1))) (Prod.fst (Prod.snd (Prod.snd (Prod.snd y_1)))) (Prod.fst (Prod.snd (Prod.snd (Prod.snd (Prod.snd y_1))))) (Prod.snd (Prod.snd (Prod.snd (Prod.snd (Prod.snd y_1))))) some) fun y_2 =>
    br y_2
     (k_ (.inr (.inl i)))
     (k_ (.inl (IntKind.wrap IntKind.i64 (i + (1 : Int))))))
   (k_ (.inr (.inr i)))
def R_SameCircuit.c100004s : Shape := ⟨[(0, vb34), (1, vb34), (2, vb12), (3, vb8), (4, vb11), (5, vb1)], [(2, vb27), (3, vb27)]⟩
def R_SameCircuit.c100004x0 : Shape := R_SameCircuit.c100004s
def R_SameCircuit.c100004x1 : Shape := R_SameCircuit.c100004s
def R_SameCircuit.c100004r : Ck := Ck.ofLoop (S := Int) (T := (Int) ⊕ (Int)) R_SameCircuit.c100004s (fun x_ => x_.2.2.2.1) (fun ρ x_ s_ k_ => R_SameCircuit.c100004 s_ x_.2.2.2.2.2.2.1 x_.2.2.2.2.2.2.2.2.2.1 k_) (fun ρ x_ r_ k_ => sel r_ (fun r_ => k_ 1 (Shape.inj R_SameCircuit.c100004x0 (x_.1, x_.2.1, false, r_, x_.2.2.2.2))) (fun r_ => k_ 2 (Shape.inj R_SameCircuit.c100004x1 (x_.1, x_.2.1, x_.2.2.1, r_, x_.2.2.2.2))))
def R_SameCircuit (a : (Int) × ((Int) × (List ((Int) × ((Int) × ((List Int) × ((Int) × ((Int) × (List Int))))))))) (b : (Int) × ((Int) × (List ((Int) × ((Int) × ((List Int) × ((Int) × ((Int) × (List Int))))))))) : Option (Bool) :=
  bnd (W.R_SameCircuit.c1 (Prod.fst a) (Prod.fst (Prod.snd a)) (Prod.snd (Prod.snd a)) (Prod.fst b) (Prod.fst (Prod.snd b)) (Prod.snd (Prod.snd b)) some) fun y =>
  br y
   (some false)
   (bnd (iter (fun s ↦ W.R_SameCircuit.c100004 s (Prod.snd (Prod.snd a)) (Prod.snd (Prod.snd b)) some) (0 : Int)) fun y_1 =>
    sel y_1
     (fun u => some false)
     (fun v => some true))
def R_SameCircuit.ce : Go.Ql.Callee := ⟨[(.st (.pair (.int .i64) (.pair (.int .i64) (.sl (.st (.pair (.int .i64) (.pair (.int .i64) (.pair (.sl (.int .i64)) (.pair (.int .i64) (.pair (.int .i64) (.sl (.int .i64)))))))))))), (.st (.pair (.int .i64) (.pair (.int .i64) (.sl (.st (.pair (.int .i64) (.pair (.int .i64) (.pair (.sl (.int .i64)) (.pair (.int .i64) (.pair (.int .i64) (.sl (.int .i64))))))))))))], [.bool], fun x_ => R_SameCircuit x_.1 x_.2⟩
def R_SameCircuit.G : Env := ⟨88, tab, [(19, R_SameInts.ce)], [0, 1, 2, 3, 4, 5, 6, 7, 28, 33, 87], [], [], [(100004, R_SameCircuit.c100004r), (8, R_SameCircuit.c8r), (1, R_SameCircuit.c1r)], [], tab_eqs⟩
theorem R_SameCircuit.eq (x_ : dens R_SameCircuit.ce.params) : den R_SameCircuit.G Tryd.f13 R_SameCircuit.ce.params R_SameCircuit.ce.res x_ = R_SameCircuit.ce.F x_ := by kernel_rfl
theorem R_SameCircuit.p0 : PcA R_SameCircuit.G Tryd.f13 0 :=
  region_ok (s := R_SameCircuit.c1r) (by kernel_rfl) (by kernel_rfl) (sums_of (sh := R_SameCircuit.c1s) (fun ρ x_ k_ => (nat_br nat_leaf (nat_br nat_leaf nat_leaf))) (fun ρ x_ t k => (by kernel_rfl)) (fun x_ => by kernel_rfl))
theorem R_SameCircuit.p1 : PcA R_SameCircuit.G Tryd.f13 1 :=
  loop_ok (s := R_SameCircuit.c100004r) (by kernel_rfl) (by kernel_rfl) (loops_of (sh := R_SameCircuit.c100004s) (I := fun x_ s_ => (x_.1, x_.2.1, x_.2.2.1, s_, x_.2.2.2.2)) (fun x_ => rfl) (fun ρ x_ s_ k_ => (nat_br (nat_bnd fun _ => (nat_bnd fun _ => (nat_bnd fun _ => (nat_br nat_leaf nat_leaf)))) nat_leaf)) (fun ρ x_ t k => (nat_sel (fun _ => (by kernel_rfl)) (fun _ => (by kernel_rfl)))) (fun x_ s => by kernel_rfl))
theorem R_SameCircuit.p2 : PcA R_SameCircuit.G Tryd.f13 2 :=
  region_ok (s := R_SameCircuit.c8r) (by kernel_rfl) (by kernel_rfl) (sums_of (sh := R_SameCircuit.c8s) (fun ρ x_ k_ => (nat_br nat_leaf (nat_br nat_leaf (nat_br nat_leaf (nat_br nat_leaf (nat_bnd fun _ => (nat_br nat_leaf (nat_bnd fun _ => nat_leaf)))))))) (fun ρ x_ t k => (by kernel_rfl)) (fun x_ => by kernel_rfl))
theorem R_SameCircuit.ok : CalleeOk Tryd.prog 13 R_SameCircuit.ce := fn_ok (G := R_SameCircuit.G) tab_ok mixed Tryd.func13 ⟨(fns_cons R_SameInts.ok fns_nil), mfns_nil, tab_eqs_ok⟩ (m := 3) (by kernel_rfl) ⟨⟨⟨trivial, R_SameCircuit.p0⟩, R_SameCircuit.p1⟩, R_SameCircuit.p2⟩ (by kernel_rfl) R_SameCircuit.eq
def Law_tame.c4 {ρ : Type} (controls : Int) (o0 : Int) (o2 : List (Int)) (o5 : List (Int)) (k_ : Bool → Option ρ) : Option ρ :=
  br (o0 != (2 : Int))
   (k_ true)
   (br (decide ((↑(List.length o5) : Int) > (0 : Int)))
     (k_ true)
     (k_ (decide ((↑(List.length o2) : Int) > controls))))
def Law_tame.c4s : Shape := ⟨[(0, vb34), (1, vb1), (2, vb1), (3, vb8), (6, vb11), (8, vb24), (10, vb35), (11, vb1), (12, vb1)], [(3, vb27), (8, vb25)]⟩
def Law_tame.c4x0 : Shape := ⟨[(0, vb34), (1, vb1), (2, vb1), (3, vb8), (6, vb11), (8, vb24), (10, vb35), (11, vb1), (12, vb1), (31, vb11)], [(3, vb27), (8, vb25)]⟩
def Law_tame.c4r : Ck := Ck.of (T := Bool) Law_tame.c4s (fun ρ x_ k_ => Law_tame.c4 x_.2.2.1 x_.2.2.2.2.2.2.2.2.2.2.1 x_.2.2.2.2.2.2.2.2.2.2.2.2.1 x_.2.2.2.2.2.2.2.2.2.2.2.2.2.2.2.1 k_) (fun ρ x_ r_ k_ => k_ 0 (Shape.inj Law_tame.c4x0 (x_.1, x_.2.1, x_.2.2.1, x_.2.2.2.1, x_.2.2.2.2.1, x_.2.2.2.2.2.1, x_.2.2.2.2.2.2.1, r_, x_.2.2.2.2.2.2.2)))
def Law_tame.c100002 {ρ : Type} (controls : Int) (t10 : List ((Int) × ((Int) × ((List Int) × ((Int) × ((Int) × (List Int))))))) (t11 : Int) (t12 : Int) (k_ : (Int) ⊕ ((Int) ⊕ (Int)) → Option ρ) : Option ρ :=
  br (decide (t12 < t11))
   (bnd (idx t10 t12) fun y =>
    bnd (W.Law_tame.c4 controls (Prod.fst y) (Prod.fst (Prod.snd (Prod.snd y))) (Prod.snd (Prod.snd (Prod.snd (Prod.snd (Prod.snd y))))) some) fun y_1 =>
    br y_1
     (k_ (.inr (.inl t12)))
     (k_ (.inl (IntKind.wrap IntKind.i64 (t12 + (1 : Int))))))
   (k_ (.inr (.inr t12)))
def Law_tame.c100002s : Shape := ⟨[(0, vb34), (1, vb1), (2, vb1), (3, vb8), (6, vb11), (10, vb35), (11, vb1), (12, vb1)], [(3, vb27)]⟩
def Law_tame.c100002x0 : Shape := Law_tame.c100002s
def Law_tame.c100002x1 : Shape := Law_tame.c100002s
def Law_tame.c100002r : Ck := Ck.ofLoop (S := Int) (T := (Int) ⊕ (Int)) Law_tame.c100002s (fun x_ => x_.2.2.2.2.2.2.1) (fun ρ x_ s_ k_ => Law_tame.c100002 x_.2.2.1 x_.2.2.2.2.1 x_.2.2.2.2.2.1 s_ k_) (fun ρ x_ r_ k_ => sel r_ (fun r_ => k_ 1 (Shape.inj Law_tame.c100002x0 (x_.1, x_.2.1, x_.2.2.1, false, x_.2.2.2.2.1, x_.2.2.2.2.2.1, r_, x_.2.2.2.2.2.2.2))) (fun r_ => k_ 2 (Shape.inj Law_tame.c100002x1 (x_.1, x_.2.1, x_.2.2.1, x_.2.2.2.1, x_.2.2.2.2.1, x_.2.2.2.2.2.1, r_, x_.2.2.2.2.2.2.2))))
def Law_tame.c7 {ρ : Type} (qubits : Int) (c0 : Int) (c1 : Int) (c2 : List ((Int) × ((Int) × ((List Int) × ((Int) × ((Int) × (List Int))))))) (k_ : Bool → Option ρ) : Option ρ :=
  br (c0 == qubits)
   (br (c1 == (0 : Int))
     (bnd (W.R_Check (c0, c1, c2)) fun y =>
      k_ (Prod.fst y == (0 : Int)))
     (k_ false))
   (k_ false)
def Law_tame.c7s : Shape := Law_tame.c100002s
def Law_tame.c7x0 : Shape := Law_tame.c100002s
def Law_tame.c7r : Ck := Ck.of (T := Bool) Law_tame.c7s (fun ρ x_ k_ => Law_tame.c7 x_.2.1 x_.2.2.2.2.2.2.2.1 x_.2.2.2.2.2.2.2.2.1 x_.2.2.2.2.2.2.2.2.2.1 k_) (fun ρ x_ r_ k_ => k_ 0 (Shape.inj Law_tame.c7x0 (x_.1, x_.2.1, x_.2.2.1, r_, x_.2.2.2.2)))
def Law_tame (c : (Int) × ((Int) × (List ((Int) × ((Int) × ((List Int) × ((Int) × ((Int) × (List Int))))))))) (qubits : Int) (controls : Int) : Option (Bool) :=
  bnd (iter (fun s ↦ W.Law_tame.c100002 controls (Prod.snd (Prod.snd c)) (↑(List.length (Prod.snd (Prod.snd c))) : Int) s some) (0 : Int)) fun y =>
  sel y
   (fun u => some false)
   (fun v => bnd (W.Law_tame.c7 qubits (Prod.fst c) (Prod.fst (Prod.snd c)) (Prod.snd (Prod.snd c)) some) fun y_1 =>
    some y_1)
def Law_tame.ce : Go.Ql.Callee := ⟨[(.st (.pair (.int .i64) (.pair (.int .i64) (.sl (.st (.pair (.int .i64) (.pair (.int .i64) (.pair (.sl (.int .i64)) (.pair (.int .i64) (.pair (.int .i64) (.sl (.int .i64)))))))))))), (.int .i64), (.int .i64)], [.bool], fun x_ => Law_tame x_.1 x_.2.1 x_.2.2⟩
def Law_tame.G : Env := ⟨48, tab, [(37, R_Check.ce)], [0, 1, 2, 3, 6, 8, 10, 11, 12, 13, 31], [], [], [(7, Law_tame.c7r), (100002, Law_tame.c100002r), (4, Law_tame.c4r)], [], tab_eqs⟩
theorem Law_tame.eq (x_ : dens Law_tame.ce.params) : den Law_tame.G Tryd.f14 Law_tame.ce.params Law_tame.ce.res x_ = Law_tame.ce.F x_ := by kernel_rfl
theorem Law_tame.p0 : PcA Law_tame.G Tryd.f14 0 :=
  loop_ok (s := Law_tame.c100002r) (by kernel_rfl) (by kernel_rfl) (loops_of (sh := Law_tame.c100002s) (I := fun x_ s_ => (x_.1, x_.2.1, x_.2.2.1, x_.2.2.2.1, x_.2.2.2.2.1, x_.2.2.2.2.2.1, s_, x_.2.2.2.2.2.2.2)) (fun x_ => rfl) (fun ρ x_ s_ k_ => (nat_br (nat_bnd fun _ => (nat_bnd fun _ => (nat_br nat_leaf nat_leaf))) nat_leaf)) (fun ρ x_ t k => (nat_sel (fun _ => (by kernel_rfl)) (fun _ => (by kernel_rfl)))) (fun x_ s => by kernel_rfl))
theorem Law_tame.p1 : PcA Law_tame.G Tryd.f14 1 :=
  region_ok (s := Law_tame.c4r) (by kernel_rfl) (by kernel_rfl) (sums_of (sh := Law_tame.c4s) (fun ρ x_ k_ => (nat_br nat_leaf (nat_br nat_leaf nat_leaf))) (fun ρ x_ t k => (by kernel_rfl)) (fun x_ => by kernel_rfl))
theorem Law_tame.p2 : PcA Law_tame.G Tryd.f14 2 :=
  region_ok (s := Law_tame.c7r) (by kernel_rfl) (by kernel_rfl) (sums_of (sh := Law_tame.c7s) (fun ρ x_ k_ => (nat_br (nat_br (nat_bnd fun _ => nat_leaf) nat_leaf) nat_leaf)) (fun ρ x_ t k => (by kernel_rfl)) (fun x_ => by kernel_rfl))
theorem Law_tame.ok : CalleeOk Tryd.prog 14 Law_tame.ce := fn_ok (G := Law_tame.G) tab_ok mixed Tryd.func14 ⟨(fns_cons R_Check.ok fns_nil), mfns_nil, tab_eqs_ok⟩ (m := 3) (by kernel_rfl) ⟨⟨⟨trivial, Law_tame.p0⟩, Law_tame.p1⟩, Law_tame.p2⟩ (by kernel_rfl) Law_tame.eq
abbrev vb52 : SD := .one (.own 3 0)
def R_copyInts.c100003 {ρ : Type} (l : List (Int)) (i : Int) (out : List (Int)) (k_ : ((Int) × (List Int)) ⊕ ((Int) × (List Int)) → Option ρ) : Option ρ :=
  br (decide (i < (↑(List.length l) : Int)))
   (bnd (idx l i) fun y =>
    bnd (okIf (decide ((List.length out + (1 : Nat)) * (8 : Nat) ≤ (140737488355328 : Nat)) && decide (List.length out + (1 : Nat) ≤ (140737488355328 : Nat)))) fun y_1 =>
    k_ (.inl ((IntKind.wrap IntKind.i64 (i + (1 : Int))), (out ++ [y]))))
   (k_ (.inr (i, out)))
def R_copyInts.c100003s : Shape := ⟨[(0, vb15), (2, vb15), (3, vb52), (4, vb1)], [(3, vb46)]⟩
def R_copyInts.c100003x0 : Shape := R_copyInts.c100003s
def R_copyInts.c100003r : Ck := Ck.ofLoop (S := (Int) × (List Int)) (T := (Int) × (List Int)) R_copyInts.c100003s (fun x_ => (x_.2.2.1, x_.2.2.2.1)) (fun ρ x_ s_ k_ => R_copyInts.c100003 x_.1 s_.1 s_.2 k_) (fun ρ x_ r_ k_ => k_ 2 (Shape.inj R_copyInts.c100003x0 (x_.1, x_.2.1, r_.1, r_.2, ())))
def R_copyInts (l : List (Int)) : Option (List Int) :=
  bnd (iter (fun s ↦ W.R_copyInts.c100003 l (Prod.fst s) (Prod.snd s) some) ((0 : Int), [])) fun y =>
  some (Prod.snd y)
def R_copyInts.ce : Go.Ql.Callee := ⟨[(.sl (.int .i64))], [(.sl (.int .i64))], fun x_ => R_copyInts x_⟩
def R_copyInts.G : Env := ⟨19, tab, [], [0, 2, 3, 4, 8], [3], [], [(100003, R_copyInts.c100003r)], [], tab_eqs⟩
theorem R_copyInts.eq (x_ : dens R_copyInts.ce.params) : den R_copyInts.G Tryd.f69 R_copyInts.ce.params R_copyInts.ce.res x_ = R_copyInts.ce.F x_ := by kernel_rfl
theorem R_copyInts.p0 : PcA R_copyInts.G Tryd.f69 0 :=
  loop_ok (s := R_copyInts.c100003r) (by kernel_rfl) (by kernel_rfl) (loops_of (sh := R_copyInts.c100003s) (I := fun x_ s_ => (x_.1, x_.2.1, s_.1, s_.2, ())) (fun x_ => rfl) (fun ρ x_ s_ k_ => (nat_br (nat_bnd fun _ => (nat_bnd fun _ => nat_leaf)) nat_leaf)) (fun ρ x_ t k => (by kernel_rfl)) (fun x_ s => by kernel_rfl))
theorem R_copyInts.ok : CalleeOk Tryd.prog 69 R_copyInts.ce := fn_ok (G := R_copyInts.G) tab_ok mixed Tryd.func69 ⟨fns_nil, mfns_nil, tab_eqs_ok⟩ (m := 1) (by kernel_rfl) ⟨trivial, R_copyInts.p0⟩ (by kernel_rfl) R_copyInts.eq
def R_copyOp (o : (Int) × ((Int) × ((List Int) × ((Int) × ((Int) × (List Int)))))) : Option ((Int) × ((Int) × ((List Int) × ((Int) × ((Int) × (List Int)))))) :=
  bnd (W.R_copyInts (Prod.fst (Prod.snd (Prod.snd o)))) fun y =>
  bnd (W.R_copyInts (Prod.snd (Prod.snd (Prod.snd (Prod.snd (Prod.snd o)))))) fun y_1 =>
  some (Prod.fst o, Prod.fst (Prod.snd o), y, Prod.fst (Prod.snd (Prod.snd (Prod.snd o))), Prod.fst (Prod.snd (Prod.snd (Prod.snd (Prod.snd o)))), y_1)
def R_copyOp.ce : Go.Ql.Callee := ⟨[(.st (.pair (.int .i64) (.pair (.int .i64) (.pair (.sl (.int .i64)) (.pair (.int .i64) (.pair (.int .i64) (.sl (.int .i64))))))))], [(.st (.pair (.int .i64) (.pair (.int .i64) (.pair (.sl (.int .i64)) (.pair (.int .i64) (.pair (.int .i64) (.sl (.int .i64))))))))], fun x_ => R_copyOp x_⟩
def R_copyOp.G : Env := ⟨12, tab, [(69, R_copyInts.ce)], [0, 1, 2], [], [], [], [], tab_eqs⟩
theorem R_copyOp.eq (x_ : dens R_copyOp.ce.params) : den R_copyOp.G Tryd.f52 R_copyOp.ce.params R_copyOp.ce.res x_ = R_copyOp.ce.F x_ := by kernel_rfl
theorem R_copyOp.ok : CalleeOk Tryd.prog 52 R_copyOp.ce := fn_ok (G := R_copyOp.G) tab_ok mixed Tryd.func52 ⟨(fns_cons R_copyInts.ok fns_nil), mfns_nil, tab_eqs_ok⟩ (m := 0) (by kernel_rfl) trivial (by kernel_rfl) R_copyOp.eq
abbrev vb53 : SO := .box [.val (.int .i64), .val (.int .i64), .own 3003 0]
def R_CopyCircuit.c5 {ρ : Type} (i : Int) (c2 : List ((Int) × ((Int) × ((List Int) × ((Int) × ((Int) × (List Int))))))) (t3003 : List ((Int) × ((Int) × ((List Int) × ((Int) × ((Int) × (List Int))))))) (k_ : List ((Int) × ((Int) × ((List Int) × ((Int) × ((Int) × (List Int)))))) → Option ρ) : Option ρ :=
  bnd (idx c2 i) fun y =>
  bnd (W.R_copyOp y) fun y_1 =>
  bnd (okIf (decide ((List.length t3003 + (1 : Nat)) * (80 : Nat) ≤ (140737488355328 : Nat)) && decide (List.length t3003 + (1 : Nat) ≤ (140737488355328 : Nat)))) fun y_2 =>
  k_ (t3003 ++ [y_1])
def R_CopyCircuit.c5s : Shape := ⟨[(0, vb34), (1, vb2), (2, vb12), (3, vb8), (4, vb1)], [(1, vb27), (2, vb27), (3, vb53), (3003, vb17)]⟩
def R_CopyCircuit.c5x0 : Shape := R_CopyCircuit.c5s
def R_CopyCircuit.c5r : Ck := Ck.of (T := List ((Int) × ((Int) × ((List Int) × ((Int) × ((Int) × (List Int))))))) R_CopyCircuit.c5s (fun ρ x_ k_ => R_CopyCircuit.c5 x_.2.1 x_.2.2.2.2.1 x_.2.2.2.2.2.2.2.2.2.2.1 k_) (fun ρ x_ r_ k_ => k_ 0 (Shape.inj R_CopyCircuit.c5x0 (x_.1, x_.2.1, x_.2.2.1, x_.2.2.2.1, x_.2.2.2.2.1, x_.2.2.2.2.2.1, x_.2.2.2.2.2.2.1, x_.2.2.2.2.2.2.2.1, x_.2.2.2.2.2.2.2.2.1, x_.2.2.2.2.2.2.2.2.2.1, r_, ())))
def R_CopyCircuit.c100003 {ρ : Type} (i : Int) (c2 : List ((Int) × ((Int) × ((List Int) × ((Int) × ((Int) × (List Int))))))) (t3003 : List ((Int) × ((Int) × ((List Int) × ((Int) × ((Int) × (List Int))))))) (k_ : ((Int) × (List ((Int) × ((Int) × ((List Int) × ((Int) × ((Int) × (List Int)))))))) ⊕ ((Int) × (List ((Int) × ((Int) × ((List Int) × ((Int) × ((Int) × (List Int)))))))) → Option ρ) : Option ρ :=
  br (decide (i < (↑(List.length c2) : Int)))
   (bnd (W.R_CopyCircuit.c5 i c2 t3003 some) fun y =>
    k_ (.inl ((IntKind.wrap IntKind.i64 (i + (1 : Int))), y)))
   (k_ (.inr (i, t3003)))
def R_CopyCircuit.c100003s : Shape := R_CopyCircuit.c5s
def R_CopyCircuit.c100003x0 : Shape := R_CopyCircuit.c5s
def R_CopyCircuit.c100003r : Ck := Ck.ofLoop (S := (Int) × (List ((Int) × ((Int) × ((List Int) × ((Int) × ((Int) × (List Int)))))))) (T := (Int) × (List ((Int) × ((Int) × ((List Int) × ((Int) × ((Int) × (List Int)))))))) R_CopyCircuit.c100003s (fun x_ => (x_.2.1, x_.2.2.2.2.2.2.2.2.2.2.1)) (fun ρ x_ s_ k_ => R_CopyCircuit.c100003 s_.1 x_.2.2.2.2.1 s_.2 k_) (fun ρ x_ r_ k_ => k_ 2 (Shape.inj R_CopyCircuit.c100003x0 (x_.1, r_.1, x_.2.2.1, x_.2.2.2.1, x_.2.2.2.2.1, x_.2.2.2.2.2.1, x_.2.2.2.2.2.2.1, x_.2.2.2.2.2.2.2.1, x_.2.2.2.2.2.2.2.2.1, x_.2.2.2.2.2.2.2.2.2.1, r_.2, ())))
def R_CopyCircuit (c : (Int) × ((Int) × (List ((Int) × ((Int) × ((List Int) × ((Int) × ((Int) × (List Int))))))))) : Option ((Int) × ((Int) × (List ((Int) × ((Int) × ((List Int) × ((Int) × ((Int) × (List Int))))))))) :=
  bnd (iter (fun s ↦ W.R_CopyCircuit.c100003 (Prod.fst s) (Prod.snd (Prod.snd c)) (Prod.snd s) some) ((0 : Int), [])) fun y =>
  some (Prod.fst c, Prod.fst (Prod.snd c), Prod.snd y)
def R_CopyCircuit.ce : Go.Ql.Callee := ⟨[(.st (.pair (.int .i64) (.pair (.int .i64) (.sl (.st (.pair (.int .i64) (.pair (.int .i64) (.pair (.sl (.int .i64)) (.pair (.int .i64) (.pair (.int .i64) (.sl (.int .i64))))))))))))], [(.st (.pair (.int .i64) (.pair (.int .i64) (.sl (.st (.pair (.int .i64) (.pair (.int .i64) (.pair (.sl (.int .i64)) (.pair (.int .i64) (.pair (.int .i64) (.sl (.int .i64))))))))))))], fun x_ => R_CopyCircuit x_⟩
def R_CopyCircuit.G : Env := ⟨29, tab, [(52, R_copyOp.ce)], [0, 1, 2, 3, 4, 14], [1, 3, 9, 3001, 3003], [(5, [⟨[], [], [19, 20, 21, 22, 23, 24, 25], [25]⟩, ⟨[0], [], [19, 20, 21, 22, 23, 24, 25], [25]⟩, ⟨[], [], [17, 18, 21], []⟩, ⟨[2], [], [17, 18, 21], []⟩, ⟨[], [], [17, 18, 19, 20], []⟩, ⟨[3, 2, 4], [], [17, 18], []⟩, ⟨[5, 3, 2, 4], [], [17, 18], []⟩, ⟨[6, 5, 3, 2, 4], [], [17, 18], []⟩, ⟨[7, 6, 5, 3, 2, 4], [25], [17, 18], []⟩, ⟨[1, 0, 8, 7, 6, 5, 3, 2, 4], [3003], [], []⟩, ⟨[0, 1, 2, 3, 4, 5, 6, 7, 8, 9], [], [], []⟩, ⟨[10, 0, 1, 2, 3, 4, 5, 6, 7, 8, 9], [3], [], []⟩])], [(100003, R_CopyCircuit.c100003r), (5, R_CopyCircuit.c5r)], [], tab_eqs⟩
theorem R_CopyCircuit.eq (x_ : dens R_CopyCircuit.ce.params) : den R_CopyCircuit.G Tryd.f26 R_CopyCircuit.ce.params R_CopyCircuit.ce.res x_ = R_CopyCircuit.ce.F x_ := by kernel_rfl
theorem R_CopyCircuit.p0 : PcA R_CopyCircuit.G Tryd.f26 0 :=
  loop_ok (s := R_CopyCircuit.c100003r) (by kernel_rfl) (by kernel_rfl) (loops_of (sh := R_CopyCircuit.c100003s) (I := fun x_ s_ => (x_.1, s_.1, x_.2.2.1, x_.2.2.2.1, x_.2.2.2.2.1, x_.2.2.2.2.2.1, x_.2.2.2.2.2.2.1, x_.2.2.2.2.2.2.2.1, x_.2.2.2.2.2.2.2.2.1, x_.2.2.2.2.2.2.2.2.2.1, s_.2, ())) (fun x_ => rfl) (fun ρ x_ s_ k_ => (nat_br (nat_bnd fun _ => nat_leaf) nat_leaf)) (fun ρ x_ t k => (by kernel_rfl)) (fun x_ s => by kernel_rfl))
theorem R_CopyCircuit.p1 : PcA R_CopyCircuit.G Tryd.f26 1 :=
  region_ok (s := R_CopyCircuit.c5r) (by kernel_rfl) (by kernel_rfl) (sums_of (sh := R_CopyCircuit.c5s) (fun ρ x_ k_ => (nat_bnd fun _ => (nat_bnd fun _ => (nat_bnd fun _ => nat_leaf)))) (fun ρ x_ t k => (by kernel_rfl)) (fun x_ => by kernel_rfl))
theorem R_CopyCircuit.ok : CalleeOk Tryd.prog 26 R_CopyCircuit.ce := fn_ok (G := R_CopyCircuit.G) tab_ok mixed Tryd.func26 ⟨(fns_cons R_copyOp.ok fns_nil), mfns_nil, tab_eqs_ok⟩ (m := 2) (by kernel_rfl) ⟨⟨trivial, R_CopyCircuit.p0⟩, R_CopyCircuit.p1⟩ (by kernel_rfl) R_CopyCircuit.eq
def rev_list.c100002 {ρ : Type} (m : Int) (l : List (Int)) (k_ : ((Int) × (List Int)) ⊕ ((Int) × (List Int)) → Option ρ) : Option ρ :=
  br (decide (m > (0 : Int)))
   (bnd (W.bits_TrailingZeros (IntKind.wrap IntKind.u64 m)) fun y =>
    bnd (okIf (decide ((List.length l + (1 : Nat)) * (8 : Nat) ≤ (140737488355328 : Nat)) && decide (List.length l + (1 : Nat) ≤ (140737488355328 : Nat)))) fun y_1 =>
    k_ (.inl ((ibits BinOp.and IntKind.i64 m (IntKind.wrap IntKind.i64 (m - (1 : Int)))), (l ++ [y]))))
   (k_ (.inr (m, l)))
def rev_list.c100002s : Shape := ⟨[(0, vb1), (2, vb15), (3, vb52)], [(3, vb46)]⟩
def rev_list.c100002x0 : Shape := rev_list.c100002s
def rev_list.c100002r : Ck := Ck.ofLoop (S := (Int) × (List Int)) (T := (Int) × (List Int)) rev_list.c100002s (fun x_ => (x_.1, x_.2.2.1)) (fun ρ x_ s_ k_ => rev_list.c100002 s_.1 s_.2 k_) (fun ρ x_ r_ k_ => k_ 2 (Shape.inj rev_list.c100002x0 (r_.1, x_.2.1, r_.2, ())))
def rev_list (m : Int) : Option (List Int) :=
  bnd (iter (fun s ↦ W.rev_list.c100002 (Prod.fst s) (Prod.snd s) some) (m, [])) fun y =>
  some (Prod.snd y)
def rev_list.ce : Go.Ql.Callee := ⟨[(.int .i64)], [(.sl (.int .i64))], fun x_ => rev_list x_⟩
def rev_list.G : Env := ⟨17, tab, [(33, bits_TrailingZeros.ce)], [0, 2, 3, 5], [3], [], [(100002, rev_list.c100002r)], [], tab_eqs⟩
theorem rev_list.eq (x_ : dens rev_list.ce.params) : den rev_list.G Tryd.f43 rev_list.ce.params rev_list.ce.res x_ = rev_list.ce.F x_ := by kernel_rfl
theorem rev_list.p0 : PcA rev_list.G Tryd.f43 0 :=
  loop_ok (s := rev_list.c100002r) (by kernel_rfl) (by kernel_rfl) (loops_of (sh := rev_list.c100002s) (I := fun x_ s_ => (s_.1, x_.2.1, s_.2, ())) (fun x_ => rfl) (fun ρ x_ s_ k_ => (nat_br (nat_bnd fun _ => (nat_bnd fun _ => nat_leaf)) nat_leaf)) (fun ρ x_ t k => (by kernel_rfl)) (fun x_ s => by kernel_rfl))
theorem rev_list.ok : CalleeOk Tryd.prog 43 rev_list.ce := fn_ok (G := rev_list.G) tab_ok mixed Tryd.func43 ⟨(fns_cons bits_TrailingZeros.ok fns_nil), mfns_nil, tab_eqs_ok⟩ (m := 1) (by kernel_rfl) ⟨trivial, rev_list.p0⟩ (by kernel_rfl) rev_list.eq
abbrev vb54 : SD := .one (.ref 1000760 0)
abbrev vb55 : SO := .box [.val (.int .i64), .val (.int .i64), .own 1000741 0]
abbrev vb56 : SO := .box [.own 1000761 0]
abbrev vb57 : SD := .one (.own 1000761 0)
def rev_Table_1.pre : Shape := ⟨[(0, vb1), (1, vb1), (2, vb5), (3, vb54)], [(1000740, vb55), (1000741, vb17), (1000760, vb56), (1000761, vb46)]⟩
def rev_Table_1.post : Shape := ⟨[], [(1000761, vb46), (1000760, vb56), (1000741, vb17), (1000740, vb55)]⟩
def rev_Table_1.c0 {ρ : Type} (bit : Int) (t1 : Int) (t1000741 : List ((Int) × ((Int) × ((List Int) × ((Int) × ((Int) × (List Int))))))) (k_ : List ((Int) × ((Int) × ((List Int) × ((Int) × ((Int) × (List Int)))))) → Option ρ) : Option ρ :=
  bnd (W.bits_TrailingZeros (IntKind.wrap IntKind.u64 bit)) fun y =>
  bnd (W.rev_list t1) fun y_1 =>
  bnd (okIf (decide ((List.length t1000741 + (1 : Nat)) * (80 : Nat) ≤ (140737488355328 : Nat)) && decide (List.length t1000741 + (1 : Nat) ≤ (140737488355328 : Nat)))) fun y_2 =>
  k_ (t1000741 ++ [((2 : Int), (0 : Int), y_1, y, (0 : Int), [])])
def rev_Table_1.c0s : Shape := rev_Table_1.pre
def rev_Table_1.c0x0 : Shape := rev_Table_1.pre
def rev_Table_1.c0r : Ck := Ck.of (T := List ((Int) × ((Int) × ((List Int) × ((Int) × ((Int) × (List Int))))))) rev_Table_1.c0s (fun ρ x_ k_ => rev_Table_1.c0 x_.1 x_.2.1 x_.2.2.2.2.1 k_) (fun ρ x_ r_ k_ => k_ 0 (Shape.inj rev_Table_1.c0x0 (x_.1, x_.2.1, x_.2.2.1, x_.2.2.2.1, r_, x_.2.2.2.2.2)))
def rev_Table_1.c212296 {ρ : Type} (bit : Int) (t1 : Int) (t21 : Int) (t1000761 : List (Int)) (k_ : List (Int) → Option ρ) : Option ρ :=
  bnd (inR (List.length t1000761) t21) fun y =>
  bnd (idx t1000761 t21) fun y_1 =>
  br (ibits BinOp.and IntKind.i64 y_1 t1 == t1)
   (bnd (inR (List.length t1000761) t21) fun y_2 =>
    bnd (idx t1000761 t21) fun y_3 =>
    k_ (List.set t1000761 (Int.toNat t21) (ibits BinOp.xor IntKind.i64 y_1 bit)))
   (k_ t1000761)
def rev_Table_1.c212296s : Shape := ⟨[(0, vb1), (1, vb1), (2, vb5), (3, vb54), (19, vb57), (20, vb1), (21, vb1)], [(1000740, vb55), (1000741, vb17), (1000760, vb56), (1000761, vb46)]⟩
def rev_Table_1.c212296x0 : Shape := rev_Table_1.c212296s
def rev_Table_1.c212296r : Ck := Ck.of (T := List (Int)) rev_Table_1.c212296s (fun ρ x_ k_ => rev_Table_1.c212296 x_.1 x_.2.1 x_.2.2.2.1 x_.2.2.2.2.2.2.2.1 k_) (fun ρ x_ r_ k_ => k_ 0 (Shape.inj rev_Table_1.c212296x0 (x_.1, x_.2.1, x_.2.2.1, x_.2.2.2.1, x_.2.2.2.2.1, x_.2.2.2.2.2.1, x_.2.2.2.2.2.2.1, r_, ())))
def rev_Table_1.c100002 {ρ : Type} (bit : Int) (t1 : Int) (t20 : Int) (t21 : Int) (t1000761 : List (Int)) (k_ : ((Int) × (List Int)) ⊕ ((Int) × (List Int)) → Option ρ) : Option ρ :=
  br (decide (t21 < t20))
   (bnd (W.rev_Table_1.c212296 bit t1 t21 t1000761 some) fun y =>
    k_ (.inl ((IntKind.wrap IntKind.i64 (t21 + (1 : Int))), y)))
   (k_ (.inr (t21, t1000761)))
def rev_Table_1.c100002s : Shape := rev_Table_1.c212296s
def rev_Table_1.c100002x0 : Shape := rev_Table_1.c212296s
def rev_Table_1.c100002r : Ck := Ck.ofLoop (S := (Int) × (List Int)) (T := (Int) × (List Int)) rev_Table_1.c100002s (fun x_ => (x_.2.2.2.1, x_.2.2.2.2.2.2.2.1)) (fun ρ x_ s_ k_ => rev_Table_1.c100002 x_.1 x_.2.1 x_.2.2.1 s_.1 s_.2 k_) (fun ρ x_ r_ k_ => k_ 2 (Shape.inj rev_Table_1.c100002x0 (x_.1, x_.2.1, x_.2.2.1, r_.1, x_.2.2.2.2.1, x_.2.2.2.2.2.1, x_.2.2.2.2.2.2.1, r_.2, ())))
def rev_Table_1 (bit : Int) (t1 : Int) (t10007400 : Int) (t10007401 : Int) (t1000741 : List ((Int) × ((Int) × ((List Int) × ((Int) × ((Int) × (List Int))))))) (t1000761 : List (Int)) : Option ((List Int) × (List ((Int) × ((Int) × ((List Int) × ((Int) × ((Int) × (List Int))))))) × (Int) × (Int) × Unit) :=
  bnd (W.rev_Table_1.c0 bit t1 t1000741 some) fun y =>
  bnd (iter (fun s ↦ W.rev_Table_1.c100002 bit t1 (↑(List.length t1000761) : Int) (Prod.fst s) (Prod.snd s) some) ((0 : Int), t1000761)) fun y_1 =>
  some (Prod.snd y_1, y, t10007400, t10007401, ())
def rev_Table_1.mc : MCallee := ⟨42, rev_Table_1.pre, rev_Table_1.post, fun x_ => rev_Table_1 x_.1 x_.2.1 x_.2.2.1 x_.2.2.2.1 x_.2.2.2.2.1 x_.2.2.2.2.2.1⟩
def rev_Table_1.G : Env := ⟨38, tab, [(33, bits_TrailingZeros.ce), (43, rev_list.ce)], [0, 1, 2, 3, 6, 7, 19, 20, 21, 22, 30], [1000740, 1000741, 1000760, 1000761], [(0, [⟨[], [], [10, 11, 12, 13, 14, 15, 16], [16]⟩, ⟨[0], [], [10, 11, 12, 13, 14, 15, 16], [16]⟩, ⟨[], [], [8, 9, 13], []⟩, ⟨[2], [], [8, 9, 13], []⟩, ⟨[3, 2], [], [8, 9, 13], []⟩, ⟨[], [], [8, 9, 10, 11, 12], []⟩, ⟨[5, 4, 3, 2], [], [8, 9], []⟩, ⟨[4, 3, 2, 6, 5], [], [8, 9], []⟩, ⟨[7, 4, 3, 2, 6, 5], [16], [8, 9], []⟩, ⟨[1, 0, 8, 7, 4, 3, 2, 6, 5], [1000741], [], []⟩, ⟨[0, 1, 2, 3, 4, 5, 6, 7, 8, 9], [], [], []⟩, ⟨[10, 0, 1, 2, 3, 4, 5, 6, 7, 8, 9], [1000740], [], []⟩])], [(100002, rev_Table_1.c100002r), (212296, rev_Table_1.c212296r), (0, rev_Table_1.c0r)], [], tab_eqs⟩
theorem rev_Table_1.eq (x_ : densU rev_Table_1.mc.pre.tys) : denM rev_Table_1.G Tryd.f42 rev_Table_1.mc.pre rev_Table_1.mc.post x_ = rev_Table_1.mc.F x_ := by kernel_rfl
theorem rev_Table_1.p0 : PcA rev_Table_1.G Tryd.f42 0 :=
  region_ok (s := rev_Table_1.c0r) (by kernel_rfl) (by kernel_rfl) (sums_of (sh := rev_Table_1.c0s) (fun ρ x_ k_ => (nat_bnd fun _ => (nat_bnd fun _ => (nat_bnd fun _ => nat_leaf)))) (fun ρ x_ t k => (by kernel_rfl)) (fun x_ => by kernel_rfl))
theorem rev_Table_1.p1 : PcA rev_Table_1.G Tryd.f42 1 :=
  loop_ok (s := rev_Table_1.c100002r) (by kernel_rfl) (by kernel_rfl) (loops_of (sh := rev_Table_1.c100002s) (I := fun x_ s_ => (x_.1, x_.2.1, x_.2.2.1, s_.1, x_.2.2.2.2.1, x_.2.2.2.2.2.1, x_.2.2.2.2.2.2.1, s_.2, ())) (fun x_ => rfl) (fun ρ x_ s_ k_ => (nat_br (nat_bnd fun _ => nat_leaf) nat_leaf)) (fun ρ x_ t k => (by kernel_rfl)) (fun x_ s => by kernel_rfl))
theorem rev_Table_1.p2 : PcA rev_Table_1.G Tryd.f42 2 :=
  join_ok (s := rev_Table_1.c212296r) (by kernel_rfl) (by kernel_rfl) (sums_of (sh := rev_Table_1.c212296s) (fun ρ x_ k_ => (nat_bnd fun _ => (nat_bnd fun _ => (nat_br (nat_bnd fun _ => (nat_bnd fun _ => nat_leaf)) nat_leaf)))) (fun ρ x_ t k => (by kernel_rfl)) (fun x_ => by kernel_rfl))
theorem rev_Table_1.ok : MOk Tryd.prog 42 rev_Table_1.mc := fnm_ok (G := rev_Table_1.G) tab_ok mixed Tryd.func42 ⟨(fns_cons bits_TrailingZeros.ok (fns_cons rev_list.ok fns_nil)), mfns_nil, tab_eqs_ok⟩ (m := 3) (by kernel_rfl) ⟨⟨⟨trivial, rev_Table_1.p0⟩, rev_Table_1.p1⟩, rev_Table_1.p2⟩ (by kernel_rfl) rev_Table_1.eq
end
end W
end

section
set_option maxHeartbeats 4000000
set_option maxRecDepth 100000
set_option linter.unusedVariables false
namespace W
open Go Go.Ql Go.Proofs
noncomputable section
abbrev vc0 : SD := .one (.val (.sl (.int .i64)))
abbrev vc1 : SD := .one (.own 0 0)
abbrev vc2 : SO := .arr 0 false 3 (.int .i64)
def slices_Clone_int__own.pre : Shape := ⟨[(0, vc0)], []⟩
def slices_Clone_int__own.post : Shape := ⟨[(0, vc1)], [(0, vc2)]⟩
def slices_Clone_int__own (s : List (Int)) : Option ((List Int) × Unit) :=
  br (List.isEmpty s)
   (both
     (some ([], ()))
     (bnd (okIf (decide (((0 : Nat) + List.length s) * (8 : Nat) ≤ (140737488355328 : Nat)) && decide ((0 : Nat) + List.length s ≤ (140737488355328 : Nat)))) fun y =>
      some (s, ())))
   (bnd (okIf (decide (((0 : Nat) + List.length s) * (8 : Nat) ≤ (140737488355328 : Nat)) && decide ((0 : Nat) + List.length s ≤ (140737488355328 : Nat)))) fun y_1 =>
    some (s, ()))
def slices_Clone_int__own.mc : MCallee := ⟨41, slices_Clone_int__own.pre, slices_Clone_int__own.post, fun x_ => slices_Clone_int__own x_.1⟩
def slices_Clone_int__own.G : Env := ⟨8, tab, [], [0, 2, 4], [2, 5], [], [], [], tab_eqs⟩
theorem slices_Clone_int__own.eq (x_ : densU slices_Clone_int__own.mc.pre.tys) : denM slices_Clone_int__own.G Tryd.f41 slices_Clone_int__own.mc.pre slices_Clone_int__own.mc.post x_ = slices_Clone_int__own.mc.F x_ := by kernel_rfl
theorem slices_Clone_int__own.ok : MOk Tryd.prog 41 slices_Clone_int__own.mc := fnm_ok (G := slices_Clone_int__own.G) tab_ok mixed Tryd.func41 ⟨fns_nil, mfns_nil, tab_eqs_ok⟩ (m := 0) (by kernel_rfl) trivial (by kernel_rfl) slices_Clone_int__own.eq
abbrev vc3 : SD := .one (.ref 2 0)
abbrev vc4 : SD := .one (.ref 3 0)
abbrev vc5 : SD := .one (.val (.int .i64))
abbrev vc6 : SO := .box [.val (.int .i64), .val (.int .i64), .val (.sl (.st (.pair (.int .i64) (.pair (.int .i64) (.pair (.sl (.int .i64)) (.pair (.int .i64) (.pair (.int .i64) (.sl (.int .i64)))))))))]
abbrev vc7 : SO := .box [.val (.int .i64), .val (.int .i64)]
abbrev vc8 : SD := .one (.val .bool)
abbrev vc9 : SD := .one (.val (.int .u64))
abbrev vc10 : SD := .one (.ref 8 0)
abbrev vc11 : SD := .one (.ref 9 0)
abbrev vc12 : SD := .one (.clo 68)
abbrev vc13 : SO := .box [.own 65 0]
abbrev vc14 : SO := .box [.val (.int .i64), .val (.int .i64), .own 3009 0]
abbrev vc15 : SO := .clo 42 [] [.ref 9 0, .ref 8 0]
abbrev vc16 : SO := .arr 0 false 67 (.st (.pair (.int .i64) (.pair (.int .i64) (.pair (.sl (.int .i64)) (.pair (.int .i64) (.pair (.int .i64) (.sl (.int .i64))))))))
def rev_Table.c2 {ρ : Type} (p : List (Int)) (n : Int) (k_ : Bool → Option ρ) : Option ρ :=
  br (decide (n < (1 : Int)))
   (k_ true)
   (br (decide (n > (6 : Int)))
     (k_ true)
     (bnd (okIf (decide ((0 : Int) ≤ n))) fun y =>
      k_ ((↑(List.length p) : Int) != IntKind.wrap IntKind.i64 ((1 : Int) * (2 : Int) ^ Min.min (Int.toNat n) (64 : Nat)))))
def rev_Table.c2s : Shape := ⟨[(0, vc0), (2, vc3), (3, vc4), (4, vc5)], [(2, vc6), (3, vc7)]⟩
def rev_Table.c2x0 : Shape := ⟨[(0, vc0), (2, vc3), (3, vc4), (4, vc5), (31, vc8)], [(2, vc6), (3, vc7)]⟩
def rev_Table.c2r : Ck := Ck.of (T := Bool) rev_Table.c2s (fun ρ x_ k_ => rev_Table.c2 x_.1 x_.2.1 k_) (fun ρ x_ r_ k_ => k_ 0 (Shape.inj rev_Table.c2x0 (x_.1, x_.2.1, r_, x_.2.2)))
def rev_Table.c8 {ρ : Type} (p : List (Int)) (seen : Int) (y : Int) (k_ : Bool → Option ρ) : Option ρ :=
  br (decide (y < (0 : Int)))
   (k_ true)
   (br (decide (y ≥ (↑(List.length p) : Int)))
     (k_ true)
     (bnd (okIf (decide ((0 : Int) ≤ y))) fun y_1 =>
      k_ (ibits BinOp.and IntKind.u64 (Int.fdiv seen ((2 : Int) ^ Min.min (Int.toNat y) (64 : Nat))) (1 : Int) == (1 : Int))))
def rev_Table.c8s : Shape := ⟨[(0, vc0), (2, vc3), (3, vc4), (4, vc5), (5, vc9), (6, vc5), (7, vc5), (34, vc0), (35, vc5), (36, vc5)], [(2, vc6), (3, vc7)]⟩
def rev_Table.c8x0 : Shape := ⟨[(0, vc0), (2, vc3), (3, vc4), (4, vc5), (5, vc9), (6, vc5), (7, vc5), (34, vc0), (35, vc5), (36, vc5), (55, vc8)], [(2, vc6), (3, vc7)]⟩
def rev_Table.c8r : Ck := Ck.of (T := Bool) rev_Table.c8s (fun ρ x_ k_ => rev_Table.c8 x_.1 x_.2.2.1 x_.2.2.2.2.1 k_) (fun ρ x_ r_ k_ => k_ 0 (Shape.inj rev_Table.c8x0 (x_.1, x_.2.1, x_.2.2.1, x_.2.2.2.1, x_.2.2.2.2.1, x_.2.2.2.2.2.1, x_.2.2.2.2.2.2.1, x_.2.2.2.2.2.2.2.1, r_, x_.2.2.2.2.2.2.2.2)))
def rev_Table.c100006 {ρ : Type} (p : List (Int)) (seen : Int) (t34 : List (Int)) (t35 : Int) (t36 : Int) (k_ : ((Int) × (Int)) ⊕ (((Int) × (Int) × (Int) × (Int)) ⊕ ((Int) × (Int))) → Option ρ) : Option ρ :=
  br (decide (t36 < t35))
   (bnd (idx t34 t36) fun y =>
    bnd (W.rev_Table.c8 p seen y some) fun y_1 =>
    br y_1
     (bnd (W.rev_fault (24 : Int) t36) fun y_2 =>
      k_ (.inr (.inl (seen, t36, (Prod.fst y_2), (Prod.snd y_2)))))
     (bnd (okIf (decide ((0 : Int) ≤ y))) fun y_3 =>
      k_ (.inl ((ibits BinOp.or IntKind.u64 seen (IntKind.wrap IntKind.u64 ((1 : Int) * (2 : Int) ^ Min.min (Int.toNat y) (64 : Nat)))), (IntKind.wrap IntKind.i64 (t36 + (1 : Int)))))))
   (k_ (.inr (.inr (seen, t36))))
def rev_Table.c100006s : Shape := ⟨[(0, vc0), (2, vc3), (3, vc4), (4, vc5), (5, vc9), (34, vc0), (35, vc5), (36, vc5)], [(2, vc6), (3, vc7)]⟩
def rev_Table.c100006x0 : Shape := rev_Table.c100006s
def rev_Table.c100006x1 : Shape := rev_Table.c100006s
def rev_Table.c100006r : Ck := Ck.ofLoop (S := (Int) × (Int)) (T := ((Int) × (Int) × (Int) × (Int)) ⊕ ((Int) × (Int))) rev_Table.c100006s (fun x_ => (x_.2.2.1, x_.2.2.2.2.2.1)) (fun ρ x_ s_ k_ => rev_Table.c100006 x_.1 s_.1 x_.2.2.2.1 x_.2.2.2.2.1 s_.2 k_) (fun ρ x_ r_ k_ => sel r_ (fun r_ => k_ 1 (Shape.inj rev_Table.c100006x0 (x_.1, x_.2.1, r_.1, x_.2.2.2.1, x_.2.2.2.2.1, r_.2.1, (0 : Int), (0 : Int), [], r_.2.2.1, r_.2.2.2, ()))) (fun r_ => k_ 2 (Shape.inj rev_Table.c100006x1 (x_.1, x_.2.1, r_.1, x_.2.2.2.1, x_.2.2.2.2.1, r_.2, x_.2.2.2.2.2.2))))
def rev_Table.c100018 {ρ : Type} (i : Int) (m : Int) (c0 : Int) (c1 : Int) (t65 : List (Int)) (t3009 : List ((Int) × ((Int) × ((List Int) × ((Int) × ((Int) × (List Int))))))) (k_ : ((Int) × (Int) × (Int) × (List Int) × (List ((Int) × ((Int) × ((List Int) × ((Int) × ((Int) × (List Int)))))))) ⊕ ((Int) × (Int) × (Int) × (List Int) × (List ((Int) × ((Int) × ((List Int) × ((Int) × ((Int) × (List Int)))))))) → Option ρ) : Option ρ :=
  br (decide (m > (0 : Int)))
   (bnd (inR (List.length t65) i) fun y =>
    bnd (idx t65 i) fun y_1 =>
    bnd (W.rev_Table_1 (ibits BinOp.and IntKind.i64 m (IntKind.wrap IntKind.i64 ((0 : Int) - m))) y_1 c0 c1 t3009 t65) fun y_2 =>
    k_ (.inl ((ibits BinOp.and IntKind.i64 m (IntKind.wrap IntKind.i64 (m - (1 : Int)))), (Prod.fst y_2.2.2), (Prod.fst y_2.2.2.2), (Prod.fst y_2), (Prod.fst y_2.2))))
   (k_ (.inr (m, c0, c1, t65, t3009)))
def rev_Table.c100018s : Shape := ⟨[(0, vc0), (2, vc3), (3, vc4), (4, vc5), (5, vc9), (8, vc10), (9, vc11), (10, vc12), (11, vc5), (12, vc5), (34, vc0), (35, vc5), (36, vc5), (70, vc5), (71, vc5)], [(2, vc6), (3, vc7), (8, vc13), (9, vc14), (65, vc2), (68, vc15), (3009, vc16)]⟩
def rev_Table.c100018x0 : Shape := rev_Table.c100018s
def rev_Table.c100018r : Ck := Ck.ofLoop (S := (Int) × (Int) × (Int) × (List Int) × (List ((Int) × ((Int) × ((List Int) × ((Int) × ((Int) × (List Int)))))))) (T := (Int) × (Int) × (Int) × (List Int) × (List ((Int) × ((Int) × ((List Int) × ((Int) × ((Int) × (List Int)))))))) rev_Table.c100018s (fun x_ => (x_.2.2.2.2.1, x_.2.2.2.2.2.2.2.2.2.2.2.2.2.2.2.1, x_.2.2.2.2.2.2.2.2.2.2.2.2.2.2.2.2.1, x_.2.2.2.2.2.2.2.2.2.2.2.2.2.2.2.2.2.1, x_.2.2.2.2.2.2.2.2.2.2.2.2.2.2.2.2.2.2.1)) (fun ρ x_ s_ k_ => rev_Table.c100018 x_.2.2.2.1 s_.1 s_.2.1 s_.2.2.1 s_.2.2.2.1 s_.2.2.2.2 k_) (fun ρ x_ r_ k_ => k_ 6 (Shape.inj rev_Table.c100018x0 (x_.1, x_.2.1, x_.2.2.1, x_.2.2.2.1, r_.1, x_.2.2.2.2.2.1, x_.2.2.2.2.2.2.1, x_.2.2.2.2.2.2.2.1, x_.2.2.2.2.2.2.2.2.1, x_.2.2.2.2.2.2.2.2.2.1, x_.2.2.2.2.2.2.2.2.2.2.1, x_.2.2.2.2.2.2.2.2.2.2.2.1, x_.2.2.2.2.2.2.2.2.2.2.2.2.1, x_.2.2.2.2.2.2.2.2.2.2.2.2.2.1, x_.2.2.2.2.2.2.2.2.2.2.2.2.2.2.1, r_.2.1, r_.2.2.1, r_.2.2.2.1, r_.2.2.2.2, ())))
def rev_Table.c100022 {ρ : Type} (i : Int) (m_1 : Int) (c0 : Int) (c1 : Int) (t65 : List (Int)) (t3009 : List ((Int) × ((Int) × ((List Int) × ((Int) × ((Int) × (List Int))))))) (k_ : ((Int) × (Int) × (Int) × (List Int) × (List ((Int) × ((Int) × ((List Int) × ((Int) × ((Int) × (List Int)))))))) ⊕ ((Int) × (Int) × (Int) × (List Int) × (List ((Int) × ((Int) × ((List Int) × ((Int) × ((Int) × (List Int)))))))) → Option ρ) : Option ρ :=
  br (decide (m_1 > (0 : Int)))
   (bnd (inR (List.length t65) i) fun y =>
    bnd (idx t65 i) fun y_1 =>
    bnd (W.rev_Table_1 (ibits BinOp.and IntKind.i64 m_1 (IntKind.wrap IntKind.i64 ((0 : Int) - m_1))) (ibits BinOp.andNot IntKind.i64 y_1 (ibits BinOp.and IntKind.i64 m_1 (IntKind.wrap IntKind.i64 ((0 : Int) - m_1)))) c0 c1 t3009 t65) fun y_2 =>
    k_ (.inl ((ibits BinOp.and IntKind.i64 m_1 (IntKind.wrap IntKind.i64 (m_1 - (1 : Int)))), (Prod.fst y_2.2.2), (Prod.fst y_2.2.2.2), (Prod.fst y_2), (Prod.fst y_2.2))))
   (k_ (.inr (m_1, c0, c1, t65, t3009)))
def rev_Table.c100022s : Shape := ⟨[(0, vc0), (2, vc3), (3, vc4), (4, vc5), (5, vc9), (8, vc10), (9, vc11), (10, vc12), (11, vc5), (12, vc5), (13, vc5), (34, vc0), (35, vc5), (36, vc5), (70, vc5), (71, vc5)], [(2, vc6), (3, vc7), (8, vc13), (9, vc14), (65, vc2), (68, vc15), (3009, vc16)]⟩
def rev_Table.c100022x0 : Shape := rev_Table.c100022s
def rev_Table.c100022r : Ck := Ck.ofLoop (S := (Int) × (Int) × (Int) × (List Int) × (List ((Int) × ((Int) × ((List Int) × ((Int) × ((Int) × (List Int)))))))) (T := (Int) × (Int) × (Int) × (List Int) × (List ((Int) × ((Int) × ((List Int) × ((Int) × ((Int) × (List Int)))))))) rev_Table.c100022s (fun x_ => (x_.2.2.2.2.2.1, x_.2.2.2.2.2.2.2.2.2.2.2.2.2.2.2.2.1, x_.2.2.2.2.2.2.2.2.2.2.2.2.2.2.2.2.2.1, x_.2.2.2.2.2.2.2.2.2.2.2.2.2.2.2.2.2.2.1, x_.2.2.2.2.2.2.2.2.2.2.2.2.2.2.2.2.2.2.2.1)) (fun ρ x_ s_ k_ => rev_Table.c100022 x_.2.2.2.1 s_.1 s_.2.1 s_.2.2.1 s_.2.2.2.1 s_.2.2.2.2 k_) (fun ρ x_ r_ k_ => k_ 8 (Shape.inj rev_Table.c100022x0 (x_.1, x_.2.1, x_.2.2.1, x_.2.2.2.1, x_.2.2.2.2.1, r_.1, x_.2.2.2.2.2.2.1, x_.2.2.2.2.2.2.2.1, x_.2.2.2.2.2.2.2.2.1, x_.2.2.2.2.2.2.2.2.2.1, x_.2.2.2.2.2.2.2.2.2.2.1, x_.2.2.2.2.2.2.2.2.2.2.2.1, x_.2.2.2.2.2.2.2.2.2.2.2.2.1, x_.2.2.2.2.2.2.2.2.2.2.2.2.2.1, x_.2.2.2.2.2.2.2.2.2.2.2.2.2.2.1, x_.2.2.2.2.2.2.2.2.2.2.2.2.2.2.2.1, r_.2.1, r_.2.2.1, r_.2.2.2.1, r_.2.2.2.2, ())))
def rev_Table.c100015 {ρ : Type} (t70 : Int) (t71 : Int) (c0 : Int) (c1 : Int) (t65 : List (Int)) (t3009 : List ((Int) × ((Int) × ((List Int) × ((Int) × ((Int) × (List Int))))))) (k_ : ((Int) × (Int) × (Int) × (List Int) × (List ((Int) × ((Int) × ((List Int) × ((Int) × ((Int) × (List Int)))))))) ⊕ ((Int) × (Int) × (Int) × (List Int) × (List ((Int) × ((Int) × ((List Int) × ((Int) × ((Int) × (List Int)))))))) → Option ρ) : Option ρ :=
  br (decide (t71 < t70))
   (bnd (inR (List.length t65) t71) fun y =>
    bnd (idx t65 t71) fun y_1 =>
    bnd (iter (fun s ↦ W.rev_Table.c100018 t71 (Prod.fst s) (Prod.fst (Prod.snd s)) (Prod.fst (Prod.snd (Prod.snd s))) (Prod.fst (Prod.snd (Prod.snd (Prod.snd s)))) (Prod.snd (Prod.snd (Prod.snd (Prod.snd s)))) some) (ibits BinOp.andNot IntKind.i64 t71 y_1, c0, c1, t65, t3009)) fun y_2 =>
    bnd (inR (List.length (Prod.fst (Prod.snd (Prod.snd (Prod.snd y_2))))) t71) fun y_3 =>
    bnd (idx (Prod.fst (Prod.snd (Prod.snd (Prod.snd y_2)))) t71) fun y_4 =>
    bnd (iter (fun s ↦ W.rev_Table.c100022 t71 (Prod.fst s) (Prod.fst (Prod.snd s)) (Prod.fst (Prod.snd (Prod.snd s))) (Prod.fst (Prod.snd (Prod.snd (Prod.snd s)))) (Prod.snd (Prod.snd (Prod.snd (Prod.snd s)))) some) (ibits BinOp.andNot IntKind.i64 y_4 t71, Prod.fst (Prod.snd y_2), Prod.fst (Prod.snd (Prod.snd y_2)), Prod.fst (Prod.snd (Prod.snd (Prod.snd y_2))), Prod.snd (Prod.snd (Prod.snd (Prod.snd y_2))))) fun y_5 =>
    k_ (.inl ((IntKind.wrap IntKind.i64 (t71 + (1 : Int))), (Prod.fst (Prod.snd y_5)), (Prod.fst (Prod.snd (Prod.snd y_5))), (Prod.fst (Prod.snd (Prod.snd (Prod.snd y_5)))), (Prod.snd (Prod.snd (Prod.snd (Prod.snd y_5)))))))
   (k_ (.inr (t71, c0, c1, t65, t3009)))
def rev_Table.c100015s : Shape := ⟨[(0, vc0), (2, vc3), (3, vc4), (4, vc5), (5, vc9), (8, vc10), (9, vc11), (10, vc12), (34, vc0), (35, vc5), (36, vc5), (70, vc5), (71, vc5)], [(2, vc6), (3, vc7), (8, vc13), (9, vc14), (65, vc2), (68, vc15), (3009, vc16)]⟩
def rev_Table.c100015x0 : Shape := rev_Table.c100015s
def rev_Table.c100015r : Ck := Ck.ofLoop (S := (Int) × (Int) × (Int) × (List Int) × (List ((Int) × ((Int) × ((List Int) × ((Int) × ((Int) × (List Int)))))))) (T := (Int) × (Int) × (Int) × (List Int) × (List ((Int) × ((Int) × ((List Int) × ((Int) × ((Int) × (List Int)))))))) rev_Table.c100015s (fun x_ => (x_.2.2.2.2.2.2.2.1, x_.2.2.2.2.2.2.2.2.2.2.2.2.2.1, x_.2.2.2.2.2.2.2.2.2.2.2.2.2.2.1, x_.2.2.2.2.2.2.2.2.2.2.2.2.2.2.2.1, x_.2.2.2.2.2.2.2.2.2.2.2.2.2.2.2.2.1)) (fun ρ x_ s_ k_ => rev_Table.c100015 x_.2.2.2.2.2.2.1 s_.1 s_.2.1 s_.2.2.1 s_.2.2.2.1 s_.2.2.2.2 k_) (fun ρ x_ r_ k_ => k_ 4 (Shape.inj rev_Table.c100015x0 (x_.1, x_.2.1, x_.2.2.1, x_.2.2.2.1, x_.2.2.2.2.1, x_.2.2.2.2.2.1, x_.2.2.2.2.2.2.1, r_.1, x_.2.2.2.2.2.2.2.2.1, x_.2.2.2.2.2.2.2.2.2.1, x_.2.2.2.2.2.2.2.2.2.2.1, x_.2.2.2.2.2.2.2.2.2.2.2.1, x_.2.2.2.2.2.2.2.2.2.2.2.2.1, r_.2.1, r_.2.2.1, r_.2.2.2.1, r_.2.2.2.2, ())))
def rev_Table (p : List (Int)) : Option (((Int) × ((Int) × (List ((Int) × ((Int) × ((List Int) × ((Int) × ((Int) × (List Int))))))))) × ((Int) × (Int))) :=
  bnd (W.bits_Len (IntKind.wrap IntKind.u64 (↑(List.length p) : Int))) fun y =>
  bnd (W.rev_Table.c2 p (IntKind.wrap IntKind.i64 (y - (1 : Int))) some) fun y_1 =>
  br y_1
   (bnd (W.rev_fault (25 : Int) (0 : Int)) fun y_2 =>
    some (((0 : Int), (0 : Int), []), Prod.fst y_2, Prod.snd y_2))
   (bnd (iter (fun s ↦ W.rev_Table.c100006 p (Prod.fst s) p (↑(List.length p) : Int) (Prod.snd s) some) ((0 : Int), (0 : Int))) fun y_3 =>
    sel y_3
     (fun u => some (((0 : Int), (0 : Int), []), Prod.fst (Prod.snd (Prod.snd u)), Prod.snd (Prod.snd (Prod.snd u))))
     (fun v => bnd (W.slices_Clone_int__own p) fun y_4 =>
      bnd (iter (fun s ↦ W.rev_Table.c100015 (↑(List.length (Prod.fst y_4)) : Int) (Prod.fst s) (Prod.fst (Prod.snd s)) (Prod.fst (Prod.snd (Prod.snd s))) (Prod.fst (Prod.snd (Prod.snd (Prod.snd s)))) (Prod.snd (Prod.snd (Prod.snd (Prod.snd s)))) some) ((0 : Int), IntKind.wrap IntKind.i64 (y - (1 : Int)), (0 : Int), Prod.fst y_4, [])) fun y_5 =>
      bnd (W.slices_Reverse_api_Op (Prod.snd (Prod.snd (Prod.snd (Prod.snd y_5))))) fun y_6 =>
      some ((Prod.fst (Prod.snd y_5), Prod.fst (Prod.snd (Prod.snd y_5)), Prod.fst y_6), (0 : Int), (0 : Int))))
def rev_Table.ce : Go.Ql.Callee := ⟨[(.sl (.int .i64))], [(.st (.pair (.int .i64) (.pair (.int .i64) (.sl (.st (.pair (.int .i64) (.pair (.int .i64) (.pair (.sl (.int .i64)) (.pair (.int .i64) (.pair (.int .i64) (.sl (.int .i64)))))))))))), (.st (.pair (.int .i64) (.int .i64)))], fun x_ => rev_Table x_⟩
def rev_Table.G : Env := ⟨129, tab, [(40, bits_Len.ce), (30, rev_fault.ce)], [0, 2, 3, 4, 5, 6, 7, 8, 9, 10, 11, 12, 13, 31, 34, 35, 36, 37, 55, 70, 71, 72, 81, 103], [8, 9, 65, 67, 3009], [], [(100015, rev_Table.c100015r), (100022, rev_Table.c100022r), (100018, rev_Table.c100018r), (100006, rev_Table.c100006r), (8, rev_Table.c8r), (2, rev_Table.c2r)], [(41, slices_Clone_int__own.mc), (44, slices_Reverse_api_Op.mc), (42, rev_Table_1.mc)], tab_eqs⟩
theorem rev_Table.eq (x_ : dens rev_Table.ce.params) : den rev_Table.G Tryd.f17 rev_Table.ce.params rev_Table.ce.res x_ = rev_Table.ce.F x_ := by kernel_rfl
theorem rev_Table.p0 : PcA rev_Table.G Tryd.f17 0 :=
  region_ok (s := rev_Table.c2r) (by kernel_rfl) (by kernel_rfl) (sums_of (sh := rev_Table.c2s) (fun ρ x_ k_ => (nat_br nat_leaf (nat_br nat_leaf (nat_bnd fun _ => nat_leaf)))) (fun ρ x_ t k => (by kernel_rfl)) (fun x_ => by kernel_rfl))
theorem rev_Table.p1 : PcA rev_Table.G Tryd.f17 1 :=
  loop_ok (s := rev_Table.c100006r) (by kernel_rfl) (by kernel_rfl) (loops_of (sh := rev_Table.c100006s) (I := fun x_ s_ => (x_.1, x_.2.1, s_.1, x_.2.2.2.1, x_.2.2.2.2.1, s_.2, x_.2.2.2.2.2.2)) (fun x_ => rfl) (fun ρ x_ s_ k_ => (nat_br (nat_bnd fun _ => (nat_bnd fun _ => (nat_br (nat_bnd fun _ => nat_leaf) (nat_bnd fun _ => nat_leaf)))) nat_leaf)) (fun ρ x_ t k => (nat_sel (fun _ => (by kernel_rfl)) (fun _ => (by kernel_rfl)))) (fun x_ s => by kernel_rfl))
theorem rev_Table.p2 : PcA rev_Table.G Tryd.f17 2 :=
  region_ok (s := rev_Table.c8r) (by kernel_rfl) (by kernel_rfl) (sums_of (sh := rev_Table.c8s) (fun ρ x_ k_ => (nat_br nat_leaf (nat_br nat_leaf (nat_bnd fun _ => nat_leaf)))) (fun ρ x_ t k => (by kernel_rfl)) (fun x_ => by kernel_rfl))
theorem rev_Table.p3 : PcA rev_Table.G Tryd.f17 3 :=
  loop_ok (s := rev_Table.c100015r) (by kernel_rfl) (by kernel_rfl) (loops_of (sh := rev_Table.c100015s) (I := fun x_ s_ => (x_.1, x_.2.1, x_.2.2.1, x_.2.2.2.1, x_.2.2.2.2.1, x_.2.2.2.2.2.1, x_.2.2.2.2.2.2.1, s_.1, x_.2.2.2.2.2.2.2.2.1, x_.2.2.2.2.2.2.2.2.2.1, x_.2.2.2.2.2.2.2.2.2.2.1, x_.2.2.2.2.2.2.2.2.2.2.2.1, x_.2.2.2.2.2.2.2.2.2.2.2.2.1, s_.2.1, s_.2.2.1, s_.2.2.2.1, s_.2.2.2.2, ())) (fun x_ => rfl) (fun ρ x_ s_ k_ => (nat_br (nat_bnd fun _ => (nat_bnd fun _ => (nat_bnd fun _ => (nat_bnd fun _ => (nat_bnd fun _ => (nat_bnd fun _ => nat_leaf)))))) nat_leaf)) (fun ρ x_ t k => (by kernel_rfl)) (fun x_ s => by kernel_rfl))
theorem rev_Table.p4 : PcA rev_Table.G Tryd.f17 4 :=
  loop_ok (s := rev_Table.c100018r) (by kernel_rfl) (by kernel_rfl) (loops_of (sh := rev_Table.c100018s) (I := fun x_ s_ => (x_.1, x_.2.1, x_.2.2.1, x_.2.2.2.1, s_.1, x_.2.2.2.2.2.1, x_.2.2.2.2.2.2.1, x_.2.2.2.2.2.2.2.1, x_.2.2.2.2.2.2.2.2.1, x_.2.2.2.2.2.2.2.2.2.1, x_.2.2.2.2.2.2.2.2.2.2.1, x_.2.2.2.2.2.2.2.2.2.2.2.1, x_.2.2.2.2.2.2.2.2.2.2.2.2.1, x_.2.2.2.2.2.2.2.2.2.2.2.2.2.1, x_.2.2.2.2.2.2.2.2.2.2.2.2.2.2.1, s_.2.1, s_.2.2.1, s_.2.2.2.1, s_.2.2.2.2, ())) (fun x_ => rfl) (fun ρ x_ s_ k_ => (nat_br (nat_bnd fun _ => (nat_bnd fun _ => (nat_bnd fun _ => nat_leaf))) nat_leaf)) (fun ρ x_ t k => (by kernel_rfl)) (fun x_ s => by kernel_rfl))
theorem rev_Table.p5 : PcA rev_Table.G Tryd.f17 5 :=
  loop_ok (s := rev_Table.c100022r) (by kernel_rfl) (by kernel_rfl) (loops_of (sh := rev_Table.c100022s) (I := fun x_ s_ => (x_.1, x_.2.1, x_.2.2.1, x_.2.2.2.1, x_.2.2.2.2.1, s_.1, x_.2.2.2.2.2.2.1, x_.2.2.2.2.2.2.2.1, x_.2.2.2.2.2.2.2.2.1, x_.2.2.2.2.2.2.2.2.2.1, x_.2.2.2.2.2.2.2.2.2.2.1, x_.2.2.2.2.2.2.2.2.2.2.2.1, x_.2.2.2.2.2.2.2.2.2.2.2.2.1, x_.2.2.2.2.2.2.2.2.2.2.2.2.2.1, x_.2.2.2.2.2.2.2.2.2.2.2.2.2.2.1, x_.2.2.2.2.2.2.2.2.2.2.2.2.2.2.2.1, s_.2.1, s_.2.2.1, s_.2.2.2.1, s_.2.2.2.2, ())) (fun x_ => rfl) (fun ρ x_ s_ k_ => (nat_br (nat_bnd fun _ => (nat_bnd fun _ => (nat_bnd fun _ => nat_leaf))) nat_leaf)) (fun ρ x_ t k => (by kernel_rfl)) (fun x_ s => by kernel_rfl))
theorem rev_Table.ok : CalleeOk Tryd.prog 17 rev_Table.ce := fn_ok (G := rev_Table.G) tab_ok mixed Tryd.func17 ⟨(fns_cons bits_Len.ok (fns_cons rev_fault.ok fns_nil)), (mfns_cons slices_Clone_int__own.ok (mfns_cons slices_Reverse_api_Op.ok (mfns_cons rev_Table_1.ok mfns_nil))), tab_eqs_ok⟩ (m := 6) (by kernel_rfl) ⟨⟨⟨⟨⟨⟨trivial, rev_Table.p0⟩, rev_Table.p1⟩, rev_Table.p2⟩, rev_Table.p3⟩, rev_Table.p4⟩, rev_Table.p5⟩ (by kernel_rfl) rev_Table.eq
abbrev vc17 : SD := .one (.ref 1 0)
abbrev vc18 : SD := .one (.val (.sl (.sl (.int .i64))))
abbrev vc19 : SD := .one (.ref 4 0)
abbrev vc20 : SD := .one (.ref 5 0)
abbrev vc21 : SD := .one (.ref 6 0)
abbrev vc22 : SD := .one (.ref 7 0)
abbrev vc23 : SO := .box [.val (.int .i64), .val (.int .i64), .val (.sl (.st (.node (.pair (.int .i64) (.int .i64)))))]
def Law_revBegun.c5 {ρ : Type} (m : List (List Int)) (f0 : Int) (c0 : Int) (g0 : Int) (p0 : Int) (h0 : Int) (k_ : Bool → Option ρ) : Option ρ :=
  br (f0 == (0 : Int))
   (bnd (W.R_SameLists m [[(0 : Int)], [(1 : Int)], [(0 : Int), (1 : Int)]]) fun y =>
    br y
     (br (g0 == (0 : Int))
       (br (c0 == (4 : Int))
         (br (h0 == (0 : Int))
           (k_ (p0 == (1 : Int)))
           (k_ false))
         (k_ false))
       (k_ false))
     (k_ false))
   (k_ false)
def Law_revBegun.c5s : Shape := ⟨[(0, vc8), (1, vc17), (2, vc18), (3, vc4), (4, vc19), (5, vc20), (6, vc21), (7, vc22)], [(1, vc23), (3, vc7), (4, vc6), (5, vc7), (6, vc6), (7, vc7)]⟩
def Law_revBegun.c5x0 : Shape := Law_revBegun.c5s
def Law_revBegun.c5r : Ck := Ck.of (T := Bool) Law_revBegun.c5s (fun ρ x_ k_ => Law_revBegun.c5 x_.2.1 x_.2.2.2.2.2.1 x_.2.2.2.2.2.2.2.1 x_.2.2.2.2.2.2.2.2.2.2.1 x_.2.2.2.2.2.2.2.2.2.2.2.2.1 x_.2.2.2.2.2.2.2.2.2.2.2.2.2.2.2.1 k_) (fun ρ x_ r_ k_ => k_ 0 (Shape.inj Law_revBegun.c5x0 (r_, x_.2)))
def Law_revBegun  : Option (Bool) :=
  bnd (W.rev_Normal (Rose.mk ((5 : Int), (0 : Int)) [Rose.mk ((1 : Int), (0 : Int)) [], Rose.mk ((1 : Int), (1 : Int)) []]) (2 : Int)) fun y =>
  bnd (W.rev_Deep (Rose.mk ((5 : Int), (0 : Int)) [Rose.mk ((1 : Int), (0 : Int)) [], Rose.mk ((1 : Int), (1 : Int)) []]) (2 : Int)) fun y_1 =>
  bnd (W.rev_Table [(1 : Int), (0 : Int)]) fun y_2 =>
  bnd (W.Law_revBegun.c5 (Prod.fst y) (Prod.fst (Prod.snd y)) (Prod.fst (Prod.fst y_1)) (Prod.fst (Prod.snd y_1)) (Prod.fst (Prod.fst y_2)) (Prod.fst (Prod.snd y_2)) some) fun y_3 =>
  some y_3
def Law_revBegun.ce : Go.Ql.Callee := ⟨[], [.bool], fun x_ => Law_revBegun⟩
def Law_revBegun.G : Env := ⟨58, tab, [(22, rev_Normal.ce), (9, rev_Deep.ce), (17, rev_Table.ce), (24, R_SameLists.ce)], [0, 1, 2, 3, 4, 5, 6, 7], [], [], [(5, Law_revBegun.c5r)], [], tab_eqs⟩
theorem Law_revBegun.eq (x_ : dens Law_revBegun.ce.params) : den Law_revBegun.G Tryd.f12 Law_revBegun.ce.params Law_revBegun.ce.res x_ = Law_revBegun.ce.F x_ := by kernel_rfl
theorem Law_revBegun.p0 : PcA Law_revBegun.G Tryd.f12 0 :=
  region_ok (s := Law_revBegun.c5r) (by kernel_rfl) (by kernel_rfl) (sums_of (sh := Law_revBegun.c5s) (fun ρ x_ k_ => (nat_br (nat_bnd fun _ => (nat_br (nat_br (nat_br (nat_br nat_leaf nat_leaf) nat_leaf) nat_leaf) nat_leaf)) nat_leaf)) (fun ρ x_ t k => (by kernel_rfl)) (fun x_ => by kernel_rfl))
theorem Law_revBegun.ok : CalleeOk Tryd.prog 12 Law_revBegun.ce := fn_ok (G := Law_revBegun.G) tab_ok mixed Tryd.func12 ⟨(fns_cons rev_Normal.ok (fns_cons rev_Deep.ok (fns_cons rev_Table.ok (fns_cons R_SameLists.ok fns_nil)))), mfns_nil, tab_eqs_ok⟩ (m := 1) (by kernel_rfl) ⟨trivial, Law_revBegun.p0⟩ (by kernel_rfl) Law_revBegun.eq
abbrev vc25 : SD := .one (.ref 10 0)
def Law_RevTables.c4 {ρ : Type} (p : List (Int)) (given : List (Int)) (f0 : Int) (f1 : Int) (g0 : Int) (g1 : Int) (k_ : Bool → Option ρ) : Option ρ :=
  bnd W.Law_revBegun fun y =>
  br (!y)
   (k_ true)
   (br (!Ty.eqT (Ty.pair (Ty.int IntKind.i64) (Ty.int IntKind.i64)) (f0, f1) (g0, g1))
     (k_ true)
     (bnd (W.R_SameInts given p) fun y_1 =>
      k_ (!y_1)))
def Law_RevTables.c4s : Shape := ⟨[(0, vc0), (2, vc8), (3, vc0), (4, vc19), (5, vc20), (6, vc5), (7, vc22)], [(4, vc6), (5, vc7), (7, vc7)]⟩
def Law_RevTables.c4x0 : Shape := ⟨[(0, vc0), (2, vc8), (3, vc0), (4, vc19), (5, vc20), (6, vc5), (7, vc22), (35, vc8)], [(4, vc6), (5, vc7), (7, vc7)]⟩
def Law_RevTables.c4r : Ck := Ck.of (T := Bool) Law_RevTables.c4s (fun ρ x_ k_ => Law_RevTables.c4 x_.1 x_.2.2.1 x_.2.2.2.2.2.2.2.1 x_.2.2.2.2.2.2.2.2.1 x_.2.2.2.2.2.2.2.2.2.1 x_.2.2.2.2.2.2.2.2.2.2.1 k_) (fun ρ x_ r_ k_ => k_ 0 (Shape.inj Law_RevTables.c4x0 (x_.1, x_.2.1, x_.2.2.1, x_.2.2.2.1, r_, x_.2.2.2.2)))
def Law_RevTables.c8 {ρ : Type} (n : Int) (c0 : Int) (c1 : Int) (c2 : List ((Int) × ((Int) × ((List Int) × ((Int) × ((Int) × (List Int))))))) (k_ : Bool → Option ρ) : Option ρ :=
  bnd (W.Law_tame (c0, c1, c2) n n) fun y =>
  br (!y)
   (k_ true)
   (bnd (okIf (decide ((0 : Int) ≤ n))) fun y_1 =>
    k_ (decide ((↑(List.length c2) : Int) > IntKind.wrap IntKind.i64 (n * (2 : Int) ^ Min.min (Int.toNat n) (64 : Nat)))))
def Law_RevTables.c8s : Shape := Law_RevTables.c4s
def Law_RevTables.c8x0 : Shape := ⟨[(0, vc0), (2, vc8), (3, vc0), (4, vc19), (5, vc20), (6, vc5), (7, vc22), (55, vc8)], [(4, vc6), (5, vc7), (7, vc7)]⟩
def Law_RevTables.c8r : Ck := Ck.of (T := Bool) Law_RevTables.c8s (fun ρ x_ k_ => Law_RevTables.c8 x_.2.2.2.1 x_.2.2.2.2.1 x_.2.2.2.2.2.1 x_.2.2.2.2.2.2.1 k_) (fun ρ x_ r_ k_ => k_ 0 (Shape.inj Law_RevTables.c8x0 (x_.1, x_.2.1, x_.2.2.1, x_.2.2.2.1, r_, x_.2.2.2.2)))
def Law_RevTables.c14 {ρ : Type} (p : List (Int)) (x : Int) (y : Int) (f0_1 : Int) (k_ : Bool → Option ρ) : Option ρ :=
  br (f0_1 != (0 : Int))
   (k_ true)
   (bnd (idx p x) fun y_1 =>
    k_ (y != y_1))
def Law_RevTables.c14s : Shape := ⟨[(0, vc0), (2, vc8), (3, vc0), (4, vc19), (5, vc20), (6, vc5), (7, vc22), (8, vc5), (9, vc5), (10, vc25), (57, vc5), (58, vc5)], [(4, vc6), (5, vc7), (7, vc7), (10, vc7)]⟩
def Law_RevTables.c14x0 : Shape := ⟨[(0, vc0), (2, vc8), (3, vc0), (4, vc19), (5, vc20), (6, vc5), (7, vc22), (8, vc5), (9, vc5), (10, vc25), (57, vc5), (58, vc5), (77, vc8)], [(4, vc6), (5, vc7), (7, vc7), (10, vc7)]⟩
def Law_RevTables.c14r : Ck := Ck.of (T := Bool) Law_RevTables.c14s (fun ρ x_ k_ => Law_RevTables.c14 x_.1 x_.2.2.2.2.1 x_.2.2.2.2.2.1 x_.2.2.2.2.2.2.2.2.2.2.2.2.2.2.2.1 k_) (fun ρ x_ r_ k_ => k_ 0 (Shape.inj Law_RevTables.c14x0 (x_.1, x_.2.1, x_.2.2.1, x_.2.2.2.1, x_.2.2.2.2.1, x_.2.2.2.2.2.1, x_.2.2.2.2.2.2.1, x_.2.2.2.2.2.2.2.1, r_, x_.2.2.2.2.2.2.2.2)))
def Law_RevTables.c100011 {ρ : Type} (p : List (Int)) (t57 : Int) (t58 : Int) (c0 : Int) (c1 : Int) (c2 : List ((Int) × ((Int) × ((List Int) × ((Int) × ((Int) × (List Int))))))) (k_ : (Int) ⊕ ((Int) ⊕ (Int)) → Option ρ) : Option ρ :=
  br (decide (t58 < t57))
   (bnd (W.R_Classical (c0, c1, c2) t58) fun y =>
    bnd (W.Law_RevTables.c14 p t58 (Prod.fst y) (Prod.fst (Prod.snd y)) some) fun y_1 =>
    br y_1
     (k_ (.inr (.inl t58)))
     (k_ (.inl (IntKind.wrap IntKind.i64 (t58 + (1 : Int))))))
   (k_ (.inr (.inr t58)))
def Law_RevTables.c100011s : Shape := ⟨[(0, vc0), (2, vc8), (3, vc0), (4, vc19), (5, vc20), (6, vc5), (7, vc22), (57, vc5), (58, vc5)], [(4, vc6), (5, vc7), (7, vc7)]⟩
def Law_RevTables.c100011x0 : Shape := Law_RevTables.c100011s
def Law_RevTables.c100011x1 : Shape := Law_RevTables.c100011s
def Law_RevTables.c100011r : Ck := Ck.ofLoop (S := Int) (T := (Int) ⊕ (Int)) Law_RevTables.c100011s (fun x_ => x_.2.2.2.2.2.1) (fun ρ x_ s_ k_ => Law_RevTables.c100011 x_.1 x_.2.2.2.2.1 s_ x_.2.2.2.2.2.2.1 x_.2.2.2.2.2.2.2.1 x_.2.2.2.2.2.2.2.2.1 k_) (fun ρ x_ r_ k_ => sel r_ (fun r_ => k_ 1 (Shape.inj Law_RevTables.c100011x0 (x_.1, false, x_.2.2.1, x_.2.2.2.1, x_.2.2.2.2.1, r_, x_.2.2.2.2.2.2))) (fun r_ => k_ 2 (Shape.inj Law_RevTables.c100011x1 (x_.1, x_.2.1, x_.2.2.1, x_.2.2.2.1, x_.2.2.2.2.1, r_, x_.2.2.2.2.2.2))))
def Law_RevTables (p : List (Int)) : Option (Bool) :=
  bnd (okIf (decide (((0 : Nat) + List.length p) * (8 : Nat) ≤ (140737488355328 : Nat)) && decide ((0 : Nat) + List.length p ≤ (140737488355328 : Nat)))) fun y =>
  bnd (W.rev_Table p) fun y_1 =>
  bnd (W.R_CheckTable p) fun y_2 =>
  bnd (W.Law_RevTables.c4 p p (Prod.fst (Prod.snd y_1)) (Prod.snd (Prod.snd y_1)) (Prod.fst (Prod.snd y_2)) (Prod.snd (Prod.snd y_2)) some) fun y_3 =>
  br y_3
   (some false)
   (br (Prod.fst (Prod.snd y_1) != (0 : Int))
     (bnd (W.R_SameCircuit (Prod.fst (Prod.fst y_1), Prod.fst (Prod.snd (Prod.fst y_1)), Prod.snd (Prod.snd (Prod.fst y_1))) ((0 : Int), (0 : Int), [])) fun y_4 =>
      some y_4)
     (bnd (W.Law_RevTables.c8 (Prod.fst y_2) (Prod.fst (Prod.fst y_1)) (Prod.fst (Prod.snd (Prod.fst y_1))) (Prod.snd (Prod.snd (Prod.fst y_1))) some) fun y_5 =>
      br y_5
       (some false)
       (bnd (iter (fun s ↦ W.Law_RevTables.c100011 p (↑(List.length p) : Int) s (Prod.fst (Prod.fst y_1)) (Prod.fst (Prod.snd (Prod.fst y_1))) (Prod.snd (Prod.snd (Prod.fst y_1))) some) (0 : Int)) fun y_6 =>
        sel y_6
         (fun u => some false)
         (fun v => some true))))
def Law_RevTables.ce : Go.Ql.Callee := ⟨[(.sl (.int .i64))], [.bool], fun x_ => Law_RevTables x_⟩
def Law_RevTables.G : Env := ⟨79, tab, [(17, rev_Table.ce), (18, R_CheckTable.ce), (12, Law_revBegun.ce), (19, R_SameInts.ce), (13, R_SameCircuit.ce), (14, Law_tame.ce), (15, R_Classical.ce)], [0, 2, 3, 4, 5, 6, 7, 8, 9, 10, 35, 38, 55, 57, 58, 59, 77], [], [(8, [⟨[], [], [43, 44], []⟩, ⟨[], [], [42, 44], []⟩, ⟨[], [], [42, 43], []⟩, ⟨[0, 1, 2], [], [], []⟩, ⟨[3, 0, 1, 2], [], [], []⟩, ⟨[4, 3, 0, 1, 2], [], [], []⟩, ⟨[5, 4, 3, 0, 1, 2], [], [51, 52, 53], []⟩, ⟨[6, 5, 4, 3, 0, 1, 2], [], [51, 52, 53], []⟩, ⟨[7, 6, 5, 4, 3, 0, 1, 2], [], [51, 52, 53], []⟩, ⟨[5, 4, 3, 0, 1, 2], [], [48, 49, 50, 52], []⟩, ⟨[5, 4, 3, 0, 1, 2], [], [48, 49, 50, 51], []⟩, ⟨[9, 5, 4, 3, 0, 1, 2, 10], [], [48, 49, 50], []⟩, ⟨[8, 7, 6, 5, 4, 3, 0, 1, 2, 11, 9, 10], [], [], []⟩, ⟨[5, 4, 3, 0, 1, 2, 12, 8, 7, 6, 11, 9, 10], [], [], []⟩])], [(100011, Law_RevTables.c100011r), (14, Law_RevTables.c14r), (8, Law_RevTables.c8r), (4, Law_RevTables.c4r)], [], tab_eqs⟩
theorem Law_RevTables.eq (x_ : dens Law_RevTables.ce.params) : den Law_RevTables.G Tryd.f4 Law_RevTables.ce.params Law_RevTables.ce.res x_ = Law_RevTables.ce.F x_ := by kernel_rfl
theorem Law_RevTables.p0 : PcA Law_RevTables.G Tryd.f4 0 :=
  region_ok (s := Law_RevTables.c4r) (by kernel_rfl) (by kernel_rfl) (sums_of (sh := Law_RevTables.c4s) (fun ρ x_ k_ => (nat_bnd fun _ => (nat_br nat_leaf (nat_br nat_leaf (nat_bnd fun _ => nat_leaf))))) (fun ρ x_ t k => (by kernel_rfl)) (fun x_ => by kernel_rfl))
theorem Law_RevTables.p1 : PcA Law_RevTables.G Tryd.f4 1 :=
  region_ok (s := Law_RevTables.c8r) (by kernel_rfl) (by kernel_rfl) (sums_of (sh := Law_RevTables.c8s) (fun ρ x_ k_ => (nat_bnd fun _ => (nat_br nat_leaf (nat_bnd fun _ => nat_leaf)))) (fun ρ x_ t k => (by kernel_rfl)) (fun x_ => by kernel_rfl))
theorem Law_RevTables.p2 : PcA Law_RevTables.G Tryd.f4 2 :=
  loop_ok (s := Law_RevTables.c100011r) (by kernel_rfl) (by kernel_rfl) (loops_of (sh := Law_RevTables.c100011s) (I := fun x_ s_ => (x_.1, x_.2.1, x_.2.2.1, x_.2.2.2.1, x_.2.2.2.2.1, s_, x_.2.2.2.2.2.2)) (fun x_ => rfl) (fun ρ x_ s_ k_ => (nat_br (nat_bnd fun _ => (nat_bnd fun _ => (nat_br nat_leaf nat_leaf))) nat_leaf)) (fun ρ x_ t k => (nat_sel (fun _ => (by kernel_rfl)) (fun _ => (by kernel_rfl)))) (fun x_ s => by kernel_rfl))
theorem Law_RevTables.p3 : PcA Law_RevTables.G Tryd.f4 3 :=
  region_ok (s := Law_RevTables.c14r) (by kernel_rfl) (by kernel_rfl) (sums_of (sh := Law_RevTables.c14s) (fun ρ x_ k_ => (nat_br nat_leaf (nat_bnd fun _ => nat_leaf))) (fun ρ x_ t k => (by kernel_rfl)) (fun x_ => by kernel_rfl))
theorem Law_RevTables.ok : CalleeOk Tryd.prog 4 Law_RevTables.ce := fn_ok (G := Law_RevTables.G) tab_ok mixed Tryd.func4 ⟨(fns_cons rev_Table.ok (fns_cons R_CheckTable.ok (fns_cons Law_revBegun.ok (fns_cons R_SameInts.ok (fns_cons R_SameCircuit.ok (fns_cons Law_tame.ok (fns_cons R_Classical.ok fns_nil))))))), mfns_nil, tab_eqs_ok⟩ (m := 4) (by kernel_rfl) ⟨⟨⟨⟨trivial, Law_RevTables.p0⟩, Law_RevTables.p1⟩, Law_RevTables.p2⟩, Law_RevTables.p3⟩ (by kernel_rfl) Law_RevTables.eq
abbrev vc26 : SD := .one (.val (.st (.pair (.int .i64) (.pair (.int .i64) (.sl (.st (.pair (.int .i64) (.pair (.int .i64) (.pair (.sl (.int .i64)) (.pair (.int .i64) (.pair (.int .i64) (.sl (.int .i64)))))))))))))
def Law_RevPlays.c3 {ρ : Type} (y : Int) (z : Int) (f0 : Int) (f1 : Int) (g0 : Int) (g1 : Int) (k_ : Bool → Option ρ) : Option ρ :=
  bnd W.Law_revBegun fun y_1 =>
  br y_1
   (br (Ty.eqT (Ty.pair (Ty.int IntKind.i64) (Ty.int IntKind.i64)) (f0, f1) (g0, g1))
     (k_ (y == z))
     (k_ false))
   (k_ false)
def Law_RevPlays.c3s : Shape := ⟨[(0, vc26), (1, vc5), (2, vc3), (4, vc8), (5, vc5), (6, vc21), (7, vc5), (8, vc10)], [(2, vc6), (6, vc7), (8, vc7)]⟩
def Law_RevPlays.c3x0 : Shape := Law_RevPlays.c3s
def Law_RevPlays.c3r : Ck := Ck.of (T := Bool) Law_RevPlays.c3s (fun ρ x_ k_ => Law_RevPlays.c3 x_.2.2.2.1 x_.2.2.2.2.1 x_.2.2.2.2.2.2.2.2.1 x_.2.2.2.2.2.2.2.2.2.1 x_.2.2.2.2.2.2.2.2.2.2.1 x_.2.2.2.2.2.2.2.2.2.2.2.1 k_) (fun ρ x_ r_ k_ => k_ 0 (Shape.inj Law_RevPlays.c3x0 (x_.1, x_.2.1, r_, x_.2.2.2)))
def Law_RevPlays (c : (Int) × ((Int) × (List ((Int) × ((Int) × ((List Int) × ((Int) × ((Int) × (List Int))))))))) (x : Int) : Option (Bool) :=
  bnd (W.R_CopyCircuit (Prod.fst c, Prod.fst (Prod.snd c), Prod.snd (Prod.snd c))) fun y =>
  bnd (W.rev_Play y x) fun y_1 =>
  bnd (W.R_Classical (Prod.fst c, Prod.fst (Prod.snd c), Prod.snd (Prod.snd c)) x) fun y_2 =>
  bnd (W.Law_RevPlays.c3 (Prod.fst y_1) (Prod.fst y_2) (Prod.fst (Prod.snd y_1)) (Prod.snd (Prod.snd y_1)) (Prod.fst (Prod.snd y_2)) (Prod.snd (Prod.snd y_2)) some) fun y_3 =>
  some y_3
def Law_RevPlays.ce : Go.Ql.Callee := ⟨[(.st (.pair (.int .i64) (.pair (.int .i64) (.sl (.st (.pair (.int .i64) (.pair (.int .i64) (.pair (.sl (.int .i64)) (.pair (.int .i64) (.pair (.int .i64) (.sl (.int .i64)))))))))))), (.int .i64)], [.bool], fun x_ => Law_RevPlays x_.1 x_.2⟩
def Law_RevPlays.G : Env := ⟨33, tab, [(26, R_CopyCircuit.ce), (25, rev_Play.ce), (15, R_Classical.ce), (12, Law_revBegun.ce)], [0, 1, 2, 4, 5, 6, 7, 8], [], [], [(3, Law_RevPlays.c3r)], [], tab_eqs⟩
theorem Law_RevPlays.eq (x_ : dens Law_RevPlays.ce.params) : den Law_RevPlays.G Tryd.f6 Law_RevPlays.ce.params Law_RevPlays.ce.res x_ = Law_RevPlays.ce.F x_ := by kernel_rfl
theorem Law_RevPlays.p0 : PcA Law_RevPlays.G Tryd.f6 0 :=
  region_ok (s := Law_RevPlays.c3r) (by kernel_rfl) (by kernel_rfl) (sums_of (sh := Law_RevPlays.c3s) (fun ρ x_ k_ => (nat_bnd fun _ => (nat_br (nat_br nat_leaf nat_leaf) nat_leaf))) (fun ρ x_ t k => (by kernel_rfl)) (fun x_ => by kernel_rfl))
theorem Law_RevPlays.ok : CalleeOk Tryd.prog 6 Law_RevPlays.ce := fn_ok (G := Law_RevPlays.G) tab_ok mixed Tryd.func6 ⟨(fns_cons R_CopyCircuit.ok (fns_cons rev_Play.ok (fns_cons R_Classical.ok (fns_cons Law_revBegun.ok fns_nil)))), mfns_nil, tab_eqs_ok⟩ (m := 1) (by kernel_rfl) ⟨trivial, Law_RevPlays.p0⟩ (by kernel_rfl) Law_RevPlays.eq
end
end W
end
