/- Lifted functions, part 1: each with its contract. -/
import Derived.Test.YtajegnlkgnecoaaDoorCa
import Derived.Test.YtajegnlkgnecoaaDoorProg
set_option linter.all false
section
set_option maxHeartbeats 4000000
set_option maxRecDepth 100000
set_option linter.unusedVariables false
namespace W
open Go Go.Ql Go.Proofs
noncomputable section
abbrev vb0 : SD := .one (.val (.st (.node (.pair (.int .i64) (.int .i64)))))
abbrev vb1 : SD := .one (.val (.int .i64))
abbrev vb2 : SD := .one (.ref 1 0)
abbrev vb3 : SD := .one (.val (.sl (.st (.node (.pair (.int .i64) (.int .i64))))))
abbrev vb4 : SO := .box [.val (.int .i64), .val (.int .i64), .val (.sl (.st (.node (.pair (.int .i64) (.int .i64)))))]
def rev_size_b.self.pre : Shape := ⟨[(0, vb0)], []⟩
def rev_size_b.self.post : Shape := ⟨[(0, vb1)], []⟩
class rev_size_b.Self where
  F : densU rev_size_b.self.pre.tys → Option (densU rev_size_b.self.post.tys)
  ok : MOk Tryd.prog 46 ⟨46, rev_size_b.self.pre, rev_size_b.self.post, F⟩
section
variable [rev_size_b.Self]
def rev_size_b.self (x_ : densU rev_size_b.self.pre.tys) : Option (densU rev_size_b.self.post.tys) := rev_size_b.Self.F x_
def rev_size_b.self.mc : MCallee := ⟨46, rev_size_b.self.pre, rev_size_b.self.post, fun x_ => rev_size_b.self x_⟩
theorem rev_size_b.self.ok : MOk Tryd.prog 46 rev_size_b.self.mc := rev_size_b.Self.ok
def rev_size_b.pre : Shape := ⟨[(0, vb0)], []⟩
def rev_size_b.post : Shape := ⟨[(0, vb1)], []⟩
def rev_size_b.c100003 {ρ : Type} (n : Int) (t7 : List (Rose ((Int) × (Int)))) (t8 : Int) (t9 : Int) (k_ : ((Int) × (Int)) ⊕ ((Int) × (Int)) → Option ρ) : Option ρ :=
  br (decide (t9 < t8))
   (bnd (idx t7 t9) fun y =>
    br (decide (n > (400 : Int)))
     (k_ (.inr (n, t9)))
     (bnd (W.rev_size_b.self (Rose.mk (Prod.fst (Rose.head y), Prod.snd (Rose.head y)) (Rose.kids y), ())) fun y_1 =>
      k_ (.inl ((IntKind.wrap IntKind.i64 (n + Prod.fst y_1)), (IntKind.wrap IntKind.i64 (t9 + (1 : Int)))))))
   (k_ (.inr (n, t9)))
def rev_size_b.c100003s : Shape := ⟨[(0, vb0), (1, vb2), (2, vb1), (3, vb1), (7, vb3), (8, vb1), (9, vb1)], [(1, vb4)]⟩
def rev_size_b.c100003x0 : Shape := rev_size_b.c100003s
def rev_size_b.c100003r : Ck := Ck.ofLoop (S := (Int) × (Int)) (T := (Int) × (Int)) rev_size_b.c100003s (fun x_ => (x_.2.2.1, x_.2.2.2.2.2.1)) (fun ρ x_ s_ k_ => rev_size_b.c100003 s_.1 x_.2.2.2.1 x_.2.2.2.2.1 s_.2 k_) (fun ρ x_ r_ k_ => k_ 2 (Shape.inj rev_size_b.c100003x0 (x_.1, x_.2.1, r_.1, x_.2.2.2.1, x_.2.2.2.2.1, r_.2, x_.2.2.2.2.2.2)))
def rev_size_b (e : Rose ((Int) × (Int))) : Option ((Int) × Unit) :=
  bnd (iter (fun s ↦ W.rev_size_b.c100003 (Prod.fst s) (Rose.kids e) (↑(List.length (Rose.kids e)) : Int) (Prod.snd s) some) ((1 : Int), (0 : Int))) fun y =>
  some (Prod.fst y, ())
def rev_size_b.mc : MCallee := ⟨46, rev_size_b.pre, rev_size_b.post, fun x_ => rev_size_b x_.1⟩
def rev_size_b.G : Env := ⟨21, tab, [], [0, 1, 2, 3, 5, 7, 8, 9, 10, 14], [], [], [(100003, rev_size_b.c100003r)], [(46, rev_size_b.self.mc)], tab_eqs⟩
theorem rev_size_b.eq (x_ : densU rev_size_b.mc.pre.tys) : denM rev_size_b.G Tryd.f46 rev_size_b.mc.pre rev_size_b.mc.post x_ = rev_size_b.mc.F x_ := by kernel_rfl
theorem rev_size_b.p0 : PcA rev_size_b.G Tryd.f46 0 :=
  loop_ok (s := rev_size_b.c100003r) (by kernel_rfl) (by kernel_rfl) (loops_of (sh := rev_size_b.c100003s) (I := fun x_ s_ => (x_.1, x_.2.1, s_.1, x_.2.2.2.1, x_.2.2.2.2.1, s_.2, x_.2.2.2.2.2.2)) (fun x_ => rfl) (fun ρ x_ s_ k_ => (nat_br (nat_bnd fun _ => (nat_br nat_leaf (nat_bnd fun _ => nat_leaf))) nat_leaf)) (fun ρ x_ t k => (by kernel_rfl)) (fun x_ s => by kernel_rfl))
theorem rev_size_b.ok : MOk Tryd.prog 46 rev_size_b.mc := fnm_ok (G := rev_size_b.G) tab_ok mixed Tryd.func46 ⟨fns_nil, (mfns_cons rev_size_b.self.ok mfns_nil), tab_eqs_ok⟩ (m := 1) (by kernel_rfl) ⟨trivial, rev_size_b.p0⟩ (by kernel_rfl) rev_size_b.eq
end
@[reducible] def rev_size_b.fuel : Nat → rev_size_b.Self
  | 0 => ⟨fun _ => none, ⟨⟨Tryd.f46, Tryd.func46, by kernel_rfl, by kernel_rfl⟩, fun _ _ _ _ _ _ _ hy => by cases hy⟩⟩
  | n + 1 => ⟨fun x_ => (@rev_size_b.mc (rev_size_b.fuel n)).F x_, @rev_size_b.ok (rev_size_b.fuel n)⟩
def rev_size (x_ : densU rev_size_b.self.pre.tys) : Option (densU rev_size_b.self.post.tys) := (rev_size_b.fuel (sizeOf x_.1)).F x_
def rev_size.mc : MCallee := ⟨46, rev_size_b.self.pre, rev_size_b.self.post, fun x_ => rev_size x_⟩
theorem rev_size.ok : MOk Tryd.prog 46 rev_size.mc := mok_diag (F := fun n => (rev_size_b.fuel n).F) (fun n => (rev_size_b.fuel n).ok) (fun x_ => sizeOf x_.1)
def rev_fault (code : Int) (t1 : Int) : Option ((Int) × (Int)) :=
  some (code, t1)
def rev_fault.ce : Go.Ql.Callee := ⟨[(.int .i64), (.int .i64)], [(.st (.pair (.int .i64) (.int .i64)))], fun x_ => rev_fault x_.1 x_.2⟩
def rev_fault.G : Env := ⟨8, tab, [], [0, 1, 4], [], [], [], [], tab_eqs⟩
theorem rev_fault.eq (x_ : dens rev_fault.ce.params) : den rev_fault.G Tryd.f30 rev_fault.ce.params rev_fault.ce.res x_ = rev_fault.ce.F x_ := by kernel_rfl
theorem rev_fault.ok : CalleeOk Tryd.prog 30 rev_fault.ce := fn_ok (G := rev_fault.G) tab_ok mixed Tryd.func30 ⟨fns_nil, mfns_nil, tab_eqs_ok⟩ (m := 0) (by kernel_rfl) trivial (by kernel_rfl) rev_fault.eq
abbrev va0 : SD := .one (.val (.int .i64))
abbrev va1 : SD := .one (.val .bool)
def rev_args.c208201 {ρ : Type} (t3 : Int) (k_ : Bool → Option ρ) : Option ρ :=
  br (t3 == (4 : Int))
   (k_ (t3 == (4 : Int)))
   (br (t3 == (5 : Int))
     (k_ (t3 == (5 : Int)))
     (k_ (t3 == (6 : Int))))
def rev_args.c208201s : Shape := ⟨[(0, va0), (2, va0), (3, va0)], []⟩
def rev_args.c208201x0 : Shape := ⟨[(0, va0), (2, va0), (3, va0), (4, va1)], []⟩
def rev_args.c208201r : Ck := Ck.of (T := Bool) rev_args.c208201s (fun ρ x_ k_ => rev_args.c208201 x_.2.2.1 k_) (fun ρ x_ r_ k_ => k_ 0 (Shape.inj rev_args.c208201x0 (x_.1, x_.2.1, x_.2.2.1, r_, ())))
def rev_args (kind : Int) : Option (Int) :=
  bnd (W.rev_args.c208201 kind some) fun y =>
  br y
   (some (2 : Int))
   (br (kind == (3 : Int))
     (some (1 : Int))
     (some (0 : Int)))
def rev_args.ce : Go.Ql.Callee := ⟨[(.int .i64)], [(.int .i64)], fun x_ => rev_args x_⟩
def rev_args.G : Env := ⟨10, tab, [], [0, 2, 3, 4, 8], [1002082010004, 2000000000004], [], [(208201, rev_args.c208201r)], [], tab_eqs⟩
theorem rev_args.eq (x_ : dens rev_args.ce.params) : den rev_args.G Tryd.f61 rev_args.ce.params rev_args.ce.res x_ = rev_args.ce.F x_ := by kernel_rfl
theorem rev_args.p0 : PcA rev_args.G Tryd.f61 0 :=
  join_ok (s := rev_args.c208201r) (by kernel_rfl) (by kernel_rfl) (sums_of (sh := rev_args.c208201s) (fun ρ x_ k_ => (nat_br nat_leaf (nat_br nat_leaf nat_leaf))) (fun ρ x_ t k => (by kernel_rfl)) (fun x_ => by kernel_rfl))
theorem rev_args.ok : CalleeOk Tryd.prog 61 rev_args.ce := fn_ok (G := rev_args.G) tab_ok mixed Tryd.func61 ⟨fns_nil, mfns_nil, tab_eqs_ok⟩ (m := 1) (by kernel_rfl) ⟨trivial, rev_args.p0⟩ (by kernel_rfl) rev_args.eq
abbrev vb5 : SD := .one (.ref 1000740 0)
abbrev vb6 : SO := .box [.val (.int .i64)]
abbrev vb7 : SD := .one (.val (.st (.pair (.int .i64) (.int .i64))))
abbrev vb8 : SD := .one (.ref 3 0)
abbrev vb9 : SD := .one (.ref 6 0)
abbrev vb10 : SO := .box [.val (.int .i64), .val (.int .i64)]
abbrev vb11 : SD := .one (.val .bool)
def rev_look_b.self.pre : Shape := ⟨[(0, vb0), (1, vb1), (2, vb5)], [(1000740, vb6)]⟩
def rev_look_b.self.post : Shape := ⟨[(0, vb7)], [(1000740, vb6)]⟩
class rev_look_b.Self where
  F : densU rev_look_b.self.pre.tys → Option (densU rev_look_b.self.post.tys)
  ok : MOk Tryd.prog 47 ⟨47, rev_look_b.self.pre, rev_look_b.self.post, F⟩
section
variable [rev_look_b.Self]
def rev_look_b.self (x_ : densU rev_look_b.self.pre.tys) : Option (densU rev_look_b.self.post.tys) := rev_look_b.Self.F x_
def rev_look_b.self.mc : MCallee := ⟨47, rev_look_b.self.pre, rev_look_b.self.post, fun x_ => rev_look_b.self x_⟩
theorem rev_look_b.self.ok : MOk Tryd.prog 47 rev_look_b.self.mc := rev_look_b.Self.ok
def rev_look_b.pre : Shape := ⟨[(0, vb0), (1, vb1), (2, vb5)], [(1000740, vb6)]⟩
def rev_look_b.post : Shape := ⟨[(0, vb7)], [(1000740, vb6)]⟩
def rev_look_b.c3 {ρ : Type} (e0 : Int) (k_ : Bool → Option ρ) : Option ρ :=
  br (decide (e0 < (1 : Int)))
   (k_ true)
   (k_ (decide (e0 > (6 : Int))))
def rev_look_b.c3s : Shape := ⟨[(0, vb0), (1, vb1), (2, vb5), (3, vb8), (6, vb9), (7, vb1)], [(3, vb4), (6, vb10), (1000740, vb6)]⟩
def rev_look_b.c3x0 : Shape := ⟨[(0, vb0), (1, vb1), (2, vb5), (3, vb8), (6, vb9), (7, vb1), (19, vb11)], [(3, vb4), (6, vb10), (1000740, vb6)]⟩
def rev_look_b.c3r : Ck := Ck.of (T := Bool) rev_look_b.c3s (fun ρ x_ k_ => rev_look_b.c3 x_.2.2.2.1 k_) (fun ρ x_ r_ k_ => k_ 0 (Shape.inj rev_look_b.c3x0 (x_.1, x_.2.1, x_.2.2.1, r_, x_.2.2.2)))
def rev_look_b.c5 {ρ : Type} (e0 : Int) (e2 : List (Rose ((Int) × (Int)))) (k_ : Bool → Option ρ) : Option ρ :=
  bnd (W.rev_args e0) fun y =>
  k_ ((↑(List.length e2) : Int) != y)
def rev_look_b.c5s : Shape := rev_look_b.c3s
def rev_look_b.c5x0 : Shape := ⟨[(0, vb0), (1, vb1), (2, vb5), (3, vb8), (6, vb9), (7, vb1), (30, vb11)], [(3, vb4), (6, vb10), (1000740, vb6)]⟩
def rev_look_b.c5r : Ck := Ck.of (T := Bool) rev_look_b.c5s (fun ρ x_ k_ => rev_look_b.c5 x_.2.2.2.1 x_.2.2.2.2.2.1 k_) (fun ρ x_ r_ k_ => k_ 0 (Shape.inj rev_look_b.c5x0 (x_.1, x_.2.1, x_.2.2.1, r_, x_.2.2.2)))
def rev_look_b.c7 {ρ : Type} (n : Int) (e0 : Int) (e1 : Int) (k_ : Bool → Option ρ) : Option ρ :=
  br (decide (e1 < (0 : Int)))
   (k_ true)
   (br (decide (e1 ≥ n))
     (br (e0 == (1 : Int))
       (k_ true)
       (br (e1 != (0 : Int))
         (k_ (e0 != (1 : Int)))
         (k_ false)))
     (br (e1 != (0 : Int))
       (k_ (e0 != (1 : Int)))
       (k_ false)))
def rev_look_b.c7s : Shape := rev_look_b.c3s
def rev_look_b.c7x0 : Shape := ⟨[(0, vb0), (1, vb1), (2, vb5), (3, vb8), (6, vb9), (7, vb1), (40, vb11)], [(3, vb4), (6, vb10), (1000740, vb6)]⟩
def rev_look_b.c7r : Ck := Ck.of (T := Bool) rev_look_b.c7s (fun ρ x_ k_ => rev_look_b.c7 x_.2.1 x_.2.2.2.1 x_.2.2.2.2.1 k_) (fun ρ x_ r_ k_ => k_ 0 (Shape.inj rev_look_b.c7x0 (x_.1, x_.2.1, x_.2.2.1, r_, x_.2.2.2)))
def rev_look_b.c100010 {ρ : Type} (n : Int) (t68 : List (Rose ((Int) × (Int)))) (t69 : Int) (t70 : Int) (t10007400 : Int) (k_ : ((Int) × (Int)) ⊕ (((Int) × (Int) × (Int) × (Int)) ⊕ ((Int) × (Int))) → Option ρ) : Option ρ :=
  br (decide (t70 < t69))
   (bnd (idx t68 t70) fun y =>
    bnd (W.rev_look_b.self (Rose.mk (Prod.fst (Rose.head y), Prod.snd (Rose.head y)) (Rose.kids y), n, t10007400, ())) fun y_1 =>
    br (Prod.fst (Prod.fst y_1) != (0 : Int))
     (k_ (.inr (.inl (t70, (Prod.fst (Prod.fst y_1)), (Prod.snd (Prod.fst y_1)), (Prod.fst y_1.2)))))
     (k_ (.inl ((IntKind.wrap IntKind.i64 (t70 + (1 : Int))), (Prod.fst y_1.2)))))
   (k_ (.inr (.inr (t70, t10007400))))
def rev_look_b.c100010s : Shape := ⟨[(0, vb0), (1, vb1), (2, vb5), (3, vb8), (6, vb9), (7, vb1), (68, vb3), (69, vb1), (70, vb1)], [(3, vb4), (6, vb10), (1000740, vb6)]⟩
def rev_look_b.c100010x0 : Shape := rev_look_b.c100010s
def rev_look_b.c100010x1 : Shape := rev_look_b.c100010s
def rev_look_b.c100010r : Ck := Ck.ofLoop (S := (Int) × (Int)) (T := ((Int) × (Int) × (Int) × (Int)) ⊕ ((Int) × (Int))) rev_look_b.c100010s (fun x_ => (x_.2.2.2.2.2.1, x_.2.2.2.2.2.2.2.2.2.2.2.1)) (fun ρ x_ s_ k_ => rev_look_b.c100010 x_.2.1 x_.2.2.2.1 x_.2.2.2.2.1 s_.1 s_.2 k_) (fun ρ x_ r_ k_ => sel r_ (fun r_ => k_ 1 (Shape.inj rev_look_b.c100010x0 (x_.1, x_.2.1, x_.2.2.1, x_.2.2.2.1, x_.2.2.2.2.1, r_.1, x_.2.2.2.2.2.2.1, x_.2.2.2.2.2.2.2.1, x_.2.2.2.2.2.2.2.2.1, r_.2.1, r_.2.2.1, r_.2.2.2, ()))) (fun r_ => k_ 3 (Shape.inj rev_look_b.c100010x1 (x_.1, x_.2.1, x_.2.2.1, x_.2.2.2.1, x_.2.2.2.2.1, r_.1, x_.2.2.2.2.2.2.1, x_.2.2.2.2.2.2.2.1, x_.2.2.2.2.2.2.2.2.1, x_.2.2.2.2.2.2.2.2.2.1, x_.2.2.2.2.2.2.2.2.2.2.1, r_.2, ()))))
def rev_look_b (e : Rose ((Int) × (Int))) (n : Int) (t10007400 : Int) : Option (((Int) × (Int)) × (Int) × Unit) :=
  bnd (W.rev_look_b.c3 (Prod.fst (Rose.head e)) some) fun y =>
  br y
   (bnd (W.rev_fault (8 : Int) t10007400) fun y_1 =>
    some ((Prod.fst y_1, Prod.snd y_1), IntKind.wrap IntKind.i64 (t10007400 + (1 : Int)), ()))
   (bnd (W.rev_look_b.c5 (Prod.fst (Rose.head e)) (Rose.kids e) some) fun y_2 =>
    br y_2
     (bnd (W.rev_fault (22 : Int) t10007400) fun y_3 =>
      some ((Prod.fst y_3, Prod.snd y_3), IntKind.wrap IntKind.i64 (t10007400 + (1 : Int)), ()))
     (bnd (W.rev_look_b.c7 n (Prod.fst (Rose.head e)) (Prod.snd (Rose.head e)) some) fun y_4 =>
      br y_4
       (bnd (W.rev_fault (23 : Int) t10007400) fun y_5 =>
        some ((Prod.fst y_5, Prod.snd y_5), IntKind.wrap IntKind.i64 (t10007400 + (1 : Int)), ()))
       (bnd (iter (fun s ↦ W.rev_look_b.c100010 n (Rose.kids e) (↑(List.length (Rose.kids e)) : Int) (Prod.fst s) (Prod.snd s) some) ((0 : Int), IntKind.wrap IntKind.i64 (t10007400 + (1 : Int)))) fun y_6 =>
        sel y_6
         (fun u => some ((Prod.fst (Prod.snd u), Prod.fst (Prod.snd (Prod.snd u))), Prod.snd (Prod.snd (Prod.snd u)), ()))
         (fun v => some (((0 : Int), (0 : Int)), Prod.snd v, ())))))
def rev_look_b.mc : MCallee := ⟨47, rev_look_b.pre, rev_look_b.post, fun x_ => rev_look_b x_.1 x_.2.1 x_.2.2.1⟩
def rev_look_b.G : Env := ⟨84, tab, [(30, rev_fault.ce), (61, rev_args.ce)], [0, 1, 2, 3, 6, 7, 9, 10, 19, 30, 40, 68, 69, 70, 71, 80], [1000740], [(5, [⟨[], [], [34, 35, 36], []⟩, ⟨[0], [], [34, 35, 36], []⟩, ⟨[1, 0], [], [34, 35, 36], []⟩, ⟨[], [], [31, 32, 33], []⟩, ⟨[3], [], [31, 32, 33], []⟩, ⟨[4, 3], [], [31, 32, 33], []⟩, ⟨[2, 1, 0, 5, 4, 3], [], [], []⟩, ⟨[6, 2, 1, 0, 5, 4, 3], [], [], []⟩])], [(100010, rev_look_b.c100010r), (7, rev_look_b.c7r), (5, rev_look_b.c5r), (3, rev_look_b.c3r)], [(47, rev_look_b.self.mc)], tab_eqs⟩
theorem rev_look_b.eq (x_ : densU rev_look_b.mc.pre.tys) : denM rev_look_b.G Tryd.f47 rev_look_b.mc.pre rev_look_b.mc.post x_ = rev_look_b.mc.F x_ := by kernel_rfl
theorem rev_look_b.p0 : PcA rev_look_b.G Tryd.f47 0 :=
  region_ok (s := rev_look_b.c3r) (by kernel_rfl) (by kernel_rfl) (sums_of (sh := rev_look_b.c3s) (fun ρ x_ k_ => (nat_br nat_leaf nat_leaf)) (fun ρ x_ t k => (by kernel_rfl)) (fun x_ => by kernel_rfl))
theorem rev_look_b.p1 : PcA rev_look_b.G Tryd.f47 1 :=
  region_ok (s := rev_look_b.c5r) (by kernel_rfl) (by kernel_rfl) (sums_of (sh := rev_look_b.c5s) (fun ρ x_ k_ => (nat_bnd fun _ => nat_leaf)) (fun ρ x_ t k => (by kernel_rfl)) (fun x_ => by kernel_rfl))
theorem rev_look_b.p2 : PcA rev_look_b.G Tryd.f47 2 :=
  region_ok (s := rev_look_b.c7r) (by kernel_rfl) (by kernel_rfl) (sums_of (sh := rev_look_b.c7s) (fun ρ x_ k_ => (nat_br nat_leaf (nat_br (nat_br nat_leaf (nat_br nat_leaf nat_leaf)) (nat_br nat_leaf nat_leaf)))) (fun ρ x_ t k => (by kernel_rfl)) (fun x_ => by kernel_rfl))
theorem rev_look_b.p3 : PcA rev_look_b.G Tryd.f47 3 :=
  loop_ok (s := rev_look_b.c100010r) (by kernel_rfl) (by kernel_rfl) (loops_of (sh := rev_look_b.c100010s) (I := fun x_ s_ => (x_.1, x_.2.1, x_.2.2.1, x_.2.2.2.1, x_.2.2.2.2.1, s_.1, x_.2.2.2.2.2.2.1, x_.2.2.2.2.2.2.2.1, x_.2.2.2.2.2.2.2.2.1, x_.2.2.2.2.2.2.2.2.2.1, x_.2.2.2.2.2.2.2.2.2.2.1, s_.2, ())) (fun x_ => rfl) (fun ρ x_ s_ k_ => (nat_br (nat_bnd fun _ => (nat_bnd fun _ => (nat_br nat_leaf nat_leaf))) nat_leaf)) (fun ρ x_ t k => (nat_sel (fun _ => (by kernel_rfl)) (fun _ => (by kernel_rfl)))) (fun x_ s => by kernel_rfl))
theorem rev_look_b.ok : MOk Tryd.prog 47 rev_look_b.mc := fnm_ok (G := rev_look_b.G) tab_ok mixed Tryd.func47 ⟨(fns_cons rev_fault.ok (fns_cons rev_args.ok fns_nil)), (mfns_cons rev_look_b.self.ok mfns_nil), tab_eqs_ok⟩ (m := 4) (by kernel_rfl) ⟨⟨⟨⟨trivial, rev_look_b.p0⟩, rev_look_b.p1⟩, rev_look_b.p2⟩, rev_look_b.p3⟩ (by kernel_rfl) rev_look_b.eq
end
@[reducible] def rev_look_b.fuel : Nat → rev_look_b.Self
  | 0 => ⟨fun _ => none, ⟨⟨Tryd.f47, Tryd.func47, by kernel_rfl, by kernel_rfl⟩, fun _ _ _ _ _ _ _ hy => by cases hy⟩⟩
  | n + 1 => ⟨fun x_ => (@rev_look_b.mc (rev_look_b.fuel n)).F x_, @rev_look_b.ok (rev_look_b.fuel n)⟩
def rev_look (x_ : densU rev_look_b.self.pre.tys) : Option (densU rev_look_b.self.post.tys) := (rev_look_b.fuel (sizeOf x_.1)).F x_
def rev_look.mc : MCallee := ⟨47, rev_look_b.self.pre, rev_look_b.self.post, fun x_ => rev_look x_⟩
theorem rev_look.ok : MOk Tryd.prog 47 rev_look.mc := mok_diag (F := fun n => (rev_look_b.fuel n).F) (fun n => (rev_look_b.fuel n).ok) (fun x_ => sizeOf x_.1)
abbrev vb12 : SD := .one (.ref 2 0)
abbrev vb13 : SD := .one (.ref 4 0)
def rev_Check.c3 {ρ : Type} (n : Int) (k_ : Bool → Option ρ) : Option ρ :=
  br (decide (n < (0 : Int)))
   (k_ true)
   (k_ (decide (n > (8 : Int))))
def rev_Check.c3s : Shape := ⟨[(0, vb0), (1, vb1), (2, vb12), (4, vb13)], [(2, vb4), (4, vb10)]⟩
def rev_Check.c3x0 : Shape := ⟨[(0, vb0), (1, vb1), (2, vb12), (4, vb13), (14, vb11)], [(2, vb4), (4, vb10)]⟩
def rev_Check.c3r : Ck := Ck.of (T := Bool) rev_Check.c3s (fun ρ x_ k_ => rev_Check.c3 x_.2.1 k_) (fun ρ x_ r_ k_ => k_ 0 (Shape.inj rev_Check.c3x0 (x_.1, x_.2.1, r_, x_.2.2)))
def rev_Check (e : Rose ((Int) × (Int))) (n : Int) : Option ((Int) × (Int)) :=
  bnd (W.rev_size (Rose.mk (Prod.fst (Rose.head e), Prod.snd (Rose.head e)) (Rose.kids e), ())) fun y =>
  br (decide (Prod.fst y > (400 : Int)))
   (bnd (W.rev_fault (2 : Int) (0 : Int)) fun y_1 =>
    some (Prod.fst y_1, Prod.snd y_1))
   (bnd (W.rev_Check.c3 n some) fun y_2 =>
    br y_2
     (bnd (W.rev_fault (6 : Int) (0 : Int)) fun y_3 =>
      some (Prod.fst y_3, Prod.snd y_3))
     (bnd (W.rev_look (Rose.mk (Prod.fst (Rose.head e), Prod.snd (Rose.head e)) (Rose.kids e), n, (0 : Int), ())) fun y_4 =>
      some (Prod.fst (Prod.fst y_4), Prod.snd (Prod.fst y_4))))
def rev_Check.ce : Go.Ql.Callee := ⟨[(.st (.node (.pair (.int .i64) (.int .i64)))), (.int .i64)], [(.st (.pair (.int .i64) (.int .i64)))], fun x_ => rev_Check x_.1 x_.2⟩
def rev_Check.G : Env := ⟨20, tab, [(30, rev_fault.ce)], [0, 1, 2, 4, 7, 14], [], [], [(3, rev_Check.c3r)], [(46, rev_size.mc), (47, rev_look.mc)], tab_eqs⟩
theorem rev_Check.eq (x_ : dens rev_Check.ce.params) : den rev_Check.G Tryd.f20 rev_Check.ce.params rev_Check.ce.res x_ = rev_Check.ce.F x_ := by kernel_rfl
theorem rev_Check.p0 : PcA rev_Check.G Tryd.f20 0 :=
  region_ok (s := rev_Check.c3r) (by kernel_rfl) (by kernel_rfl) (sums_of (sh := rev_Check.c3s) (fun ρ x_ k_ => (nat_br nat_leaf nat_leaf)) (fun ρ x_ t k => (by kernel_rfl)) (fun x_ => by kernel_rfl))
theorem rev_Check.ok : CalleeOk Tryd.prog 20 rev_Check.ce := fn_ok (G := rev_Check.G) tab_ok mixed Tryd.func20 ⟨(fns_cons rev_fault.ok fns_nil), (mfns_cons rev_size.ok (mfns_cons rev_look.ok mfns_nil)), tab_eqs_ok⟩ (m := 1) (by kernel_rfl) ⟨trivial, rev_Check.p0⟩ (by kernel_rfl) rev_Check.eq
def rev_products_b.self.pre : Shape := ⟨[(0, vb0)], []⟩
def rev_products_b.self.post : Shape := ⟨[(0, vb1)], []⟩
class rev_products_b.Self where
  F : densU rev_products_b.self.pre.tys → Option (densU rev_products_b.self.post.tys)
  ok : MOk Tryd.prog 29 ⟨29, rev_products_b.self.pre, rev_products_b.self.post, F⟩
section
variable [rev_products_b.Self]
def rev_products_b.self (x_ : densU rev_products_b.self.pre.tys) : Option (densU rev_products_b.self.post.tys) := rev_products_b.Self.F x_
def rev_products_b.self.mc : MCallee := ⟨29, rev_products_b.self.pre, rev_products_b.self.post, fun x_ => rev_products_b.self x_⟩
theorem rev_products_b.self.ok : MOk Tryd.prog 29 rev_products_b.self.mc := rev_products_b.Self.ok
def rev_products_b.pre : Shape := ⟨[(0, vb0)], []⟩
def rev_products_b.post : Shape := ⟨[(0, vb1)], []⟩
def rev_products_b.c2 {ρ : Type} (e0 : Int) (k_ : Bool → Option ρ) : Option ρ :=
  br (e0 == (4 : Int))
   (k_ true)
   (k_ (e0 == (5 : Int)))
def rev_products_b.c2s : Shape := ⟨[(0, vb0), (1, vb2), (2, vb1), (3, vb1)], [(1, vb4)]⟩
def rev_products_b.c2x0 : Shape := ⟨[(0, vb0), (1, vb2), (2, vb1), (3, vb1), (13, vb11)], [(1, vb4)]⟩
def rev_products_b.c2r : Ck := Ck.of (T := Bool) rev_products_b.c2s (fun ρ x_ k_ => rev_products_b.c2 x_.2.2.2.1 k_) (fun ρ x_ r_ k_ => k_ 0 (Shape.inj rev_products_b.c2x0 (x_.1, x_.2.1, x_.2.2.1, r_, x_.2.2.2)))
def rev_products_b.c208197 {ρ : Type} (n : Int) (e0 : Int) (k_ : Int → Option ρ) : Option ρ :=
  bnd (W.rev_products_b.c2 e0 some) fun y =>
  br y
   (k_ (1 : Int))
   (k_ n)
def rev_products_b.c208197s : Shape := rev_products_b.c2s
def rev_products_b.c208197x0 : Shape := rev_products_b.c2s
def rev_products_b.c208197r : Ck := Ck.of (T := Int) rev_products_b.c208197s (fun ρ x_ k_ => rev_products_b.c208197 x_.2.2.1 x_.2.2.2.1 k_) (fun ρ x_ r_ k_ => k_ 0 (Shape.inj rev_products_b.c208197x0 (x_.1, x_.2.1, r_, x_.2.2.2)))
def rev_products_b.c100005 {ρ : Type} (n : Int) (t15 : List (Rose ((Int) × (Int)))) (t16 : Int) (t17 : Int) (k_ : ((Int) × (Int)) ⊕ ((Int) × (Int)) → Option ρ) : Option ρ :=
  br (decide (t17 < t16))
   (bnd (idx t15 t17) fun y =>
    bnd (W.rev_products_b.self (Rose.mk (Prod.fst (Rose.head y), Prod.snd (Rose.head y)) (Rose.kids y), ())) fun y_1 =>
    k_ (.inl ((IntKind.wrap IntKind.i64 (n + Prod.fst y_1)), (IntKind.wrap IntKind.i64 (t17 + (1 : Int))))))
   (k_ (.inr (n, t17)))
def rev_products_b.c100005s : Shape := ⟨[(0, vb0), (1, vb2), (2, vb1), (3, vb1), (15, vb3), (16, vb1), (17, vb1)], [(1, vb4)]⟩
def rev_products_b.c100005x0 : Shape := rev_products_b.c100005s
def rev_products_b.c100005r : Ck := Ck.ofLoop (S := (Int) × (Int)) (T := (Int) × (Int)) rev_products_b.c100005s (fun x_ => (x_.2.2.1, x_.2.2.2.2.2.1)) (fun ρ x_ s_ k_ => rev_products_b.c100005 s_.1 x_.2.2.2.1 x_.2.2.2.2.1 s_.2 k_) (fun ρ x_ r_ k_ => k_ 2 (Shape.inj rev_products_b.c100005x0 (x_.1, x_.2.1, r_.1, x_.2.2.2.1, x_.2.2.2.2.1, r_.2, x_.2.2.2.2.2.2)))
def rev_products_b (e : Rose ((Int) × (Int))) : Option ((Int) × Unit) :=
  bnd (W.rev_products_b.c208197 (0 : Int) (Prod.fst (Rose.head e)) some) fun y =>
  bnd (iter (fun s ↦ W.rev_products_b.c100005 (Prod.fst s) (Rose.kids e) (↑(List.length (Rose.kids e)) : Int) (Prod.snd s) some) (y, (0 : Int))) fun y_1 =>
  some (Prod.fst y_1, ())
def rev_products_b.mc : MCallee := ⟨29, rev_products_b.pre, rev_products_b.post, fun x_ => rev_products_b x_.1⟩
def rev_products_b.G : Env := ⟨27, tab, [], [0, 1, 2, 3, 5, 13, 15, 16, 17, 18], [], [], [(100005, rev_products_b.c100005r), (208197, rev_products_b.c208197r), (2, rev_products_b.c2r)], [(29, rev_products_b.self.mc)], tab_eqs⟩
theorem rev_products_b.eq (x_ : densU rev_products_b.mc.pre.tys) : denM rev_products_b.G Tryd.f29 rev_products_b.mc.pre rev_products_b.mc.post x_ = rev_products_b.mc.F x_ := by kernel_rfl
theorem rev_products_b.p0 : PcA rev_products_b.G Tryd.f29 0 :=
  join_ok (s := rev_products_b.c208197r) (by kernel_rfl) (by kernel_rfl) (sums_of (sh := rev_products_b.c208197s) (fun ρ x_ k_ => (nat_bnd fun _ => (nat_br nat_leaf nat_leaf))) (fun ρ x_ t k => (by kernel_rfl)) (fun x_ => by kernel_rfl))
theorem rev_products_b.p1 : PcA rev_products_b.G Tryd.f29 1 :=
  region_ok (s := rev_products_b.c2r) (by kernel_rfl) (by kernel_rfl) (sums_of (sh := rev_products_b.c2s) (fun ρ x_ k_ => (nat_br nat_leaf nat_leaf)) (fun ρ x_ t k => (by kernel_rfl)) (fun x_ => by kernel_rfl))
theorem rev_products_b.p2 : PcA rev_products_b.G Tryd.f29 2 :=
  loop_ok (s := rev_products_b.c100005r) (by kernel_rfl) (by kernel_rfl) (loops_of (sh := rev_products_b.c100005s) (I := fun x_ s_ => (x_.1, x_.2.1, s_.1, x_.2.2.2.1, x_.2.2.2.2.1, s_.2, x_.2.2.2.2.2.2)) (fun x_ => rfl) (fun ρ x_ s_ k_ => (nat_br (nat_bnd fun _ => (nat_bnd fun _ => nat_leaf)) nat_leaf)) (fun ρ x_ t k => (by kernel_rfl)) (fun x_ s => by kernel_rfl))
theorem rev_products_b.ok : MOk Tryd.prog 29 rev_products_b.mc := fnm_ok (G := rev_products_b.G) tab_ok mixed Tryd.func29 ⟨fns_nil, (mfns_cons rev_products_b.self.ok mfns_nil), tab_eqs_ok⟩ (m := 3) (by kernel_rfl) ⟨⟨⟨trivial, rev_products_b.p0⟩, rev_products_b.p1⟩, rev_products_b.p2⟩ (by kernel_rfl) rev_products_b.eq
end
@[reducible] def rev_products_b.fuel : Nat → rev_products_b.Self
  | 0 => ⟨fun _ => none, ⟨⟨Tryd.f29, Tryd.func29, by kernel_rfl, by kernel_rfl⟩, fun _ _ _ _ _ _ _ hy => by cases hy⟩⟩
  | n + 1 => ⟨fun x_ => (@rev_products_b.mc (rev_products_b.fuel n)).F x_, @rev_products_b.ok (rev_products_b.fuel n)⟩
def rev_products (x_ : densU rev_products_b.self.pre.tys) : Option (densU rev_products_b.self.post.tys) := (rev_products_b.fuel (sizeOf x_.1)).F x_
def rev_products.mc : MCallee := ⟨29, rev_products_b.self.pre, rev_products_b.self.post, fun x_ => rev_products x_⟩
theorem rev_products.ok : MOk Tryd.prog 29 rev_products.mc := mok_diag (F := fun n => (rev_products_b.fuel n).F) (fun n => (rev_products_b.fuel n).ok) (fun x_ => sizeOf x_.1)
def rev_form_plus (f : (Int) × (Bool)) (g : (Int) × (Bool)) : Option ((Int) × (Bool)) :=
  some (ibits BinOp.xor IntKind.i64 (Prod.fst f) (Prod.fst g), !Prod.snd f == Prod.snd g)
def rev_form_plus.ce : Go.Ql.Callee := ⟨[(.st (.pair (.int .i64) .bool)), (.st (.pair (.int .i64) .bool))], [(.st (.pair (.int .i64) .bool))], fun x_ => rev_form_plus x_.1 x_.2⟩
def rev_form_plus.G : Env := ⟨16, tab, [], [0, 1, 2, 3, 4], [], [], [], [], tab_eqs⟩
theorem rev_form_plus.eq (x_ : dens rev_form_plus.ce.params) : den rev_form_plus.G Tryd.f53 rev_form_plus.ce.params rev_form_plus.ce.res x_ = rev_form_plus.ce.F x_ := by kernel_rfl
theorem rev_form_plus.ok : CalleeOk Tryd.prog 53 rev_form_plus.ce := fn_ok (G := rev_form_plus.G) tab_ok mixed Tryd.func53 ⟨fns_nil, mfns_nil, tab_eqs_ok⟩ (m := 0) (by kernel_rfl) trivial (by kernel_rfl) rev_form_plus.eq
abbrev vb14 : SD := .one (.ref 1000700 0)
abbrev vb15 : SD := .one (.val (.sl (.int .i64)))
abbrev vb16 : SO := .box [.own 1000701 0, .val (.int .i64)]
abbrev vb17 : SO := .arr 0 false 67 (.st (.pair (.int .i64) (.pair (.int .i64) (.pair (.sl (.int .i64)) (.pair (.int .i64) (.pair (.int .i64) (.sl (.int .i64))))))))
def rev_builder_x.pre : Shape := ⟨[(0, vb14), (1, vb1), (2, vb15)], [(1000700, vb16), (1000701, vb17)]⟩
def rev_builder_x.post : Shape := ⟨[], [(1000701, vb17), (1000700, vb16)]⟩
def rev_builder_x (q : Int) (ctl : List (Int)) (t10007001 : Int) (t1000701 : List ((Int) × ((Int) × ((List Int) × ((Int) × ((Int) × (List Int))))))) : Option ((List ((Int) × ((Int) × ((List Int) × ((Int) × ((Int) × (List Int))))))) × (Int) × Unit) :=
  bnd (okIf (decide ((List.length t1000701 + (1 : Nat)) * (80 : Nat) ≤ (140737488355328 : Nat)) && decide (List.length t1000701 + (1 : Nat) ≤ (140737488355328 : Nat)))) fun y =>
  some (t1000701 ++ [((2 : Int), (0 : Int), ctl, q, (0 : Int), [])], t10007001, ())
def rev_builder_x.mc : MCallee := ⟨32, rev_builder_x.pre, rev_builder_x.post, fun x_ => rev_builder_x x_.1 x_.2.1 x_.2.2.1 x_.2.2.2.1⟩
def rev_builder_x.G : Env := ⟨18, tab, [], [0, 1, 2], [1000700, 1000701], [], [], [], tab_eqs⟩
theorem rev_builder_x.eq (x_ : densU rev_builder_x.mc.pre.tys) : denM rev_builder_x.G Tryd.f32 rev_builder_x.mc.pre rev_builder_x.mc.post x_ = rev_builder_x.mc.F x_ := by kernel_rfl
theorem rev_builder_x.ok : MOk Tryd.prog 32 rev_builder_x.mc := fnm_ok (G := rev_builder_x.G) tab_ok mixed Tryd.func32 ⟨fns_nil, mfns_nil, tab_eqs_ok⟩ (m := 0) (by kernel_rfl) trivial (by kernel_rfl) rev_builder_x.eq
abbrev vb18 : SD := .one (.val (.st (.pair (.int .i64) .bool)))
abbrev vb19 : SO := .box [.val (.int .i64), .val .bool]
def rev_builder_gather.pre : Shape := ⟨[(0, vb14), (1, vb18), (2, vb1)], [(1000700, vb16), (1000701, vb17)]⟩
def rev_builder_gather.post : Shape := ⟨[], [(1000701, vb17), (1000700, vb16)]⟩
def rev_builder_gather.c1 {ρ : Type} (into : Int) (k_ : Unit → Option ρ) : Option ρ :=
  bnd (okIf (decide ((0 : Int) ≤ into))) fun y =>
  k_ ()
def rev_builder_gather.c1s : Shape := ⟨[(0, vb14), (1, vb18), (2, vb1), (4, vb13)], [(4, vb19), (1000700, vb16), (1000701, vb17)]⟩
def rev_builder_gather.c1x0 : Shape := ⟨[(0, vb14), (1, vb18), (2, vb1), (4, vb13), (6, vb1)], [(4, vb19), (1000700, vb16), (1000701, vb17)]⟩
def rev_builder_gather.c1r : Ck := Ck.of (T := Unit) rev_builder_gather.c1s (fun ρ x_ k_ => rev_builder_gather.c1 x_.2.1 k_) (fun ρ x_ r_ k_ => k_ 0 (Shape.inj rev_builder_gather.c1x0 (x_.1, x_.2.1, (ibits BinOp.andNot IntKind.i64 x_.2.2.1 (IntKind.wrap IntKind.i64 ((1 : Int) * (2 : Int) ^ Min.min (Int.toNat x_.2.1) (64 : Nat)))), x_.2.2)))
def rev_builder_gather.c100002 {ρ : Type} (into : Int) (m : Int) (t10007001 : Int) (t1000701 : List ((Int) × ((Int) × ((List Int) × ((Int) × ((Int) × (List Int))))))) (k_ : ((Int) × (Int) × (List ((Int) × ((Int) × ((List Int) × ((Int) × ((Int) × (List Int)))))))) ⊕ ((Int) × (Int) × (List ((Int) × ((Int) × ((List Int) × ((Int) × ((Int) × (List Int)))))))) → Option ρ) : Option ρ :=
  br (decide (m > (0 : Int)))
   (bnd (W.bits_TrailingZeros (IntKind.wrap IntKind.u64 m)) fun y =>
    bnd (W.rev_builder_x into [y] t10007001 t1000701) fun y_1 =>
    k_ (.inl ((ibits BinOp.and IntKind.i64 m (IntKind.wrap IntKind.i64 (m - (1 : Int)))), (Prod.fst y_1.2), (Prod.fst y_1))))
   (k_ (.inr (m, t10007001, t1000701)))
def rev_builder_gather.c100002s : Shape := rev_builder_gather.c1x0
def rev_builder_gather.c100002x0 : Shape := rev_builder_gather.c1x0
def rev_builder_gather.c100002r : Ck := Ck.ofLoop (S := (Int) × (Int) × (List ((Int) × ((Int) × ((List Int) × ((Int) × ((Int) × (List Int)))))))) (T := (Int) × (Int) × (List ((Int) × ((Int) × ((List Int) × ((Int) × ((Int) × (List Int)))))))) rev_builder_gather.c100002s (fun x_ => (x_.2.2.1, x_.2.2.2.2.2.1, x_.2.2.2.2.2.2.1)) (fun ρ x_ s_ k_ => rev_builder_gather.c100002 x_.2.1 s_.1 s_.2.1 s_.2.2 k_) (fun ρ x_ r_ k_ => k_ 2 (Shape.inj rev_builder_gather.c100002x0 (x_.1, x_.2.1, r_.1, x_.2.2.2.1, x_.2.2.2.2.1, r_.2.1, r_.2.2, ())))
def rev_builder_gather (f : (Int) × (Bool)) (into : Int) (t10007001 : Int) (t1000701 : List ((Int) × ((Int) × ((List Int) × ((Int) × ((Int) × (List Int))))))) : Option ((List ((Int) × ((Int) × ((List Int) × ((Int) × ((Int) × (List Int))))))) × (Int) × Unit) :=
  bnd (W.rev_builder_gather.c1 into some) fun y =>
  bnd (iter (fun s ↦ W.rev_builder_gather.c100002 into (Prod.fst s) (Prod.fst (Prod.snd s)) (Prod.snd (Prod.snd s)) some) (ibits BinOp.andNot IntKind.i64 (Prod.fst f) (IntKind.wrap IntKind.i64 ((1 : Int) * (2 : Int) ^ Min.min (Int.toNat into) (64 : Nat))), t10007001, t1000701)) fun y_1 =>
  br (Prod.snd f)
   (bnd (W.rev_builder_x into [] (Prod.fst (Prod.snd y_1)) (Prod.snd (Prod.snd y_1))) fun y_2 =>
    some (Prod.fst y_2, Prod.fst y_2.2, ()))
   (some (Prod.snd (Prod.snd y_1), Prod.fst (Prod.snd y_1), ()))
def rev_builder_gather.mc : MCallee := ⟨70, rev_builder_gather.pre, rev_builder_gather.post, fun x_ => rev_builder_gather x_.1 x_.2.1 x_.2.2.1 x_.2.2.2.1⟩
def rev_builder_gather.G : Env := ⟨30, tab, [(33, bits_TrailingZeros.ce)], [0, 1, 2, 4, 6, 13, 26], [1000700, 1000701], [(1, [⟨[], [], [9, 10], []⟩, ⟨[0], [], [9, 10], []⟩, ⟨[], [], [7, 8], []⟩, ⟨[2], [], [7, 8], []⟩, ⟨[1, 0, 3, 2], [], [], []⟩, ⟨[4, 1, 0, 3, 2], [], [], []⟩])], [(100002, rev_builder_gather.c100002r), (1, rev_builder_gather.c1r)], [(32, rev_builder_x.mc)], tab_eqs⟩
theorem rev_builder_gather.eq (x_ : densU rev_builder_gather.mc.pre.tys) : denM rev_builder_gather.G Tryd.f70 rev_builder_gather.mc.pre rev_builder_gather.mc.post x_ = rev_builder_gather.mc.F x_ := by kernel_rfl
theorem rev_builder_gather.p0 : PcA rev_builder_gather.G Tryd.f70 0 :=
  region_ok (s := rev_builder_gather.c1r) (by kernel_rfl) (by kernel_rfl) (sums_of (sh := rev_builder_gather.c1s) (fun ρ x_ k_ => (nat_bnd fun _ => nat_leaf)) (fun ρ x_ t k => (by kernel_rfl)) (fun x_ => by kernel_rfl))
theorem rev_builder_gather.p1 : PcA rev_builder_gather.G Tryd.f70 1 :=
  loop_ok (s := rev_builder_gather.c100002r) (by kernel_rfl) (by kernel_rfl) (loops_of (sh := rev_builder_gather.c100002s) (I := fun x_ s_ => (x_.1, x_.2.1, s_.1, x_.2.2.2.1, x_.2.2.2.2.1, s_.2.1, s_.2.2, ())) (fun x_ => rfl) (fun ρ x_ s_ k_ => (nat_br (nat_bnd fun _ => (nat_bnd fun _ => nat_leaf)) nat_leaf)) (fun ρ x_ t k => (by kernel_rfl)) (fun x_ s => by kernel_rfl))
theorem rev_builder_gather.ok : MOk Tryd.prog 70 rev_builder_gather.mc := fnm_ok (G := rev_builder_gather.G) tab_ok mixed Tryd.func70 ⟨(fns_cons bits_TrailingZeros.ok fns_nil), (mfns_cons rev_builder_x.ok mfns_nil), tab_eqs_ok⟩ (m := 2) (by kernel_rfl) ⟨⟨trivial, rev_builder_gather.p0⟩, rev_builder_gather.p1⟩ (by kernel_rfl) rev_builder_gather.eq
abbrev vb20 : SD := .one (.win 2000000 0)
abbrev vb21 : SD := .one (.own 0 0)
def slices_Clone_api_Op__win.pre : Shape := ⟨[(0, vb20)], [(2000000, vb17)]⟩
def slices_Clone_api_Op__win.post : Shape := ⟨[(0, vb21)], [(0, vb17), (2000000, vb17)]⟩
def slices_Clone_api_Op__win (slo : Int) (sn : Int) (t2000000 : List ((Int) × ((Int) × ((List Int) × ((Int) × ((Int) × (List Int))))))) : Option ((List ((Int) × ((Int) × ((List Int) × ((Int) × ((Int) × (List Int))))))) × (List ((Int) × ((Int) × ((List Int) × ((Int) × ((Int) × (List Int))))))) × Unit) :=
  br (List.isEmpty (part slo sn t2000000))
   (both
     (some ([], t2000000, ()))
     (bnd (okIf (decide (((0 : Nat) + List.length (part slo sn t2000000)) * (80 : Nat) ≤ (140737488355328 : Nat)) && decide ((0 : Nat) + List.length (part slo sn t2000000) ≤ (140737488355328 : Nat)))) fun y =>
      some (part slo sn t2000000, t2000000, ())))
   (bnd (okIf (decide (((0 : Nat) + List.length (part slo sn t2000000)) * (80 : Nat) ≤ (140737488355328 : Nat)) && decide ((0 : Nat) + List.length (part slo sn t2000000) ≤ (140737488355328 : Nat)))) fun y_1 =>
    some (part slo sn t2000000, t2000000, ()))
def slices_Clone_api_Op__win.mc : MCallee := ⟨57, slices_Clone_api_Op__win.pre, slices_Clone_api_Op__win.post, fun x_ => slices_Clone_api_Op__win x_.1 x_.2.1 x_.2.2.1⟩
def slices_Clone_api_Op__win.G : Env := ⟨8, tab, [], [0, 2, 4], [2, 5, 2000000], [], [], [], tab_eqs⟩
theorem slices_Clone_api_Op__win.eq (x_ : densU slices_Clone_api_Op__win.mc.pre.tys) : denM slices_Clone_api_Op__win.G Tryd.f57 slices_Clone_api_Op__win.mc.pre slices_Clone_api_Op__win.mc.post x_ = slices_Clone_api_Op__win.mc.F x_ := by kernel_rfl
theorem slices_Clone_api_Op__win.ok : MOk Tryd.prog 57 slices_Clone_api_Op__win.mc := fnm_ok (G := slices_Clone_api_Op__win.G) tab_ok mixed Tryd.func57 ⟨fns_nil, mfns_nil, tab_eqs_ok⟩ (m := 0) (by kernel_rfl) trivial (by kernel_rfl) slices_Clone_api_Op__win.eq
abbrev vb22 : SD := .one (.own 2000000 0)
def slices_Reverse_api_Op.pre : Shape := ⟨[(0, vb22)], [(2000000, vb17)]⟩
def slices_Reverse_api_Op.post : Shape := ⟨[], [(2000000, vb17)]⟩
def slices_Reverse_api_Op.c3 {ρ : Type} (i : Int) (j : Int) (t2000000 : List ((Int) × ((Int) × ((List Int) × ((Int) × ((Int) × (List Int))))))) (k_ : List ((Int) × ((Int) × ((List Int) × ((Int) × ((Int) × (List Int)))))) → Option ρ) : Option ρ :=
  bnd (inR (List.length t2000000) j) fun y =>
  bnd (idx t2000000 j) fun y_1 =>
  bnd (inR (List.length t2000000) i) fun y_2 =>
  bnd (idx t2000000 i) fun y_3 =>
  bnd (inR (List.length t2000000) i) fun y_4 =>
  bnd (idx t2000000 i) fun y_5 =>
  bnd (inR (List.length (List.set t2000000 (Int.toNat i) y_1)) j) fun y_6 =>
  bnd (idx (List.set t2000000 (Int.toNat i) y_1) j) fun y_7 =>
  k_ (List.set (List.set t2000000 (Int.toNat i) y_1) (Int.toNat j) y_3)
def slices_Reverse_api_Op.c3s : Shape := ⟨[(0, vb22), (2, vb1), (3, vb1)], [(2000000, vb17)]⟩
def slices_Reverse_api_Op.c3x0 : Shape := slices_Reverse_api_Op.c3s
def slices_Reverse_api_Op.c3r : Ck := Ck.of (T := List ((Int) × ((Int) × ((List Int) × ((Int) × ((Int) × (List Int))))))) slices_Reverse_api_Op.c3s (fun ρ x_ k_ => slices_Reverse_api_Op.c3 x_.1 x_.2.1 x_.2.2.1 k_) (fun ρ x_ r_ k_ => k_ 0 (Shape.inj slices_Reverse_api_Op.c3x0 (x_.1, x_.2.1, r_, ())))
def slices_Reverse_api_Op.c100001 {ρ : Type} (i : Int) (j : Int) (t2000000 : List ((Int) × ((Int) × ((List Int) × ((Int) × ((Int) × (List Int))))))) (k_ : ((Int) × (Int) × (List ((Int) × ((Int) × ((List Int) × ((Int) × ((Int) × (List Int)))))))) ⊕ ((Int) × (Int) × (List ((Int) × ((Int) × ((List Int) × ((Int) × ((Int) × (List Int)))))))) → Option ρ) : Option ρ :=
  br (decide (i < j))
   (bnd (W.slices_Reverse_api_Op.c3 i j t2000000 some) fun y =>
    k_ (.inl ((IntKind.wrap IntKind.i64 (i + (1 : Int))), (IntKind.wrap IntKind.i64 (j - (1 : Int))), y)))
   (k_ (.inr (i, j, t2000000)))
def slices_Reverse_api_Op.c100001s : Shape := slices_Reverse_api_Op.c3s
def slices_Reverse_api_Op.c100001x0 : Shape := slices_Reverse_api_Op.c3s
def slices_Reverse_api_Op.c100001r : Ck := Ck.ofLoop (S := (Int) × (Int) × (List ((Int) × ((Int) × ((List Int) × ((Int) × ((Int) × (List Int)))))))) (T := (Int) × (Int) × (List ((Int) × ((Int) × ((List Int) × ((Int) × ((Int) × (List Int)))))))) slices_Reverse_api_Op.c100001s (fun x_ => (x_.1, x_.2.1, x_.2.2.1)) (fun ρ x_ s_ k_ => slices_Reverse_api_Op.c100001 s_.1 s_.2.1 s_.2.2 k_) (fun ρ x_ r_ k_ => k_ 2 (Shape.inj slices_Reverse_api_Op.c100001x0 (r_.1, r_.2.1, r_.2.2, ())))
def slices_Reverse_api_Op (t2000000 : List ((Int) × ((Int) × ((List Int) × ((Int) × ((Int) × (List Int))))))) : Option ((List ((Int) × ((Int) × ((List Int) × ((Int) × ((Int) × (List Int))))))) × Unit) :=
  bnd (iter (fun s ↦ W.slices_Reverse_api_Op.c100001 (Prod.fst s) (Prod.fst (Prod.snd s)) (Prod.snd (Prod.snd s)) some) ((0 : Int), IntKind.wrap IntKind.i64 ((↑(List.length t2000000) : Int) - (1 : Int)), t2000000)) fun y =>
  some (Prod.snd (Prod.snd y), ())
def slices_Reverse_api_Op.mc : MCallee := ⟨44, slices_Reverse_api_Op.pre, slices_Reverse_api_Op.post, fun x_ => slices_Reverse_api_Op x_.1⟩
def slices_Reverse_api_Op.G : Env := ⟨28, tab, [], [0, 2, 3, 9], [2000000], [(3, [⟨[], [], [15, 16, 17, 18, 19, 20, 21, 22, 23, 24, 25], []⟩, ⟨[], [], [14, 16, 17, 18, 19, 20, 21, 22, 23, 24, 25], []⟩, ⟨[], [], [14, 15, 17, 18, 19, 20, 21, 22, 23, 24, 25, 26], [2000000]⟩, ⟨[], [], [14, 15, 16, 18, 19, 20, 21, 22, 23, 24, 25, 26], [2000000]⟩, ⟨[], [], [14, 15, 16, 17, 19, 22, 23, 24, 25], []⟩, ⟨[], [], [14, 15, 16, 17, 18, 22, 23, 24, 25], []⟩, ⟨[4, 5], [], [14, 15, 16, 17, 22, 23, 24, 25], []⟩, ⟨[6, 4, 5], [], [14, 15, 16, 17, 22, 23, 24, 25], []⟩, ⟨[], [], [14, 15, 16, 17, 18, 19, 20, 21, 23], []⟩, ⟨[], [], [14, 15, 16, 17, 18, 19, 20, 21, 22], []⟩, ⟨[8, 9], [], [14, 15, 16, 17, 18, 19, 20, 21], []⟩, ⟨[10, 8, 9], [], [14, 15, 16, 17, 18, 19, 20, 21], []⟩, ⟨[0, 1, 4, 5, 6, 7, 11, 10, 8, 9], [], [16, 17], []⟩, ⟨[12, 0, 1, 4, 5, 6, 7, 11, 10, 8, 9], [2000000], [16, 17], []⟩, ⟨[2, 3, 0, 1, 4, 5, 6, 7, 8, 9, 10, 11, 12, 13], [], [], []⟩, ⟨[14, 2, 3, 0, 1, 4, 5, 6, 7, 8, 9, 10, 11, 12, 13], [2000000], [], []⟩])], [(100001, slices_Reverse_api_Op.c100001r), (3, slices_Reverse_api_Op.c3r)], [], tab_eqs⟩
theorem slices_Reverse_api_Op.eq (x_ : densU slices_Reverse_api_Op.mc.pre.tys) : denM slices_Reverse_api_Op.G Tryd.f44 slices_Reverse_api_Op.mc.pre slices_Reverse_api_Op.mc.post x_ = slices_Reverse_api_Op.mc.F x_ := by kernel_rfl
theorem slices_Reverse_api_Op.p0 : PcA slices_Reverse_api_Op.G Tryd.f44 0 :=
  loop_ok (s := slices_Reverse_api_Op.c100001r) (by kernel_rfl) (by kernel_rfl) (loops_of (sh := slices_Reverse_api_Op.c100001s) (I := fun x_ s_ => (s_.1, s_.2.1, s_.2.2, ())) (fun x_ => rfl) (fun ρ x_ s_ k_ => (nat_br (nat_bnd fun _ => nat_leaf) nat_leaf)) (fun ρ x_ t k => (by kernel_rfl)) (fun x_ s => by kernel_rfl))
theorem slices_Reverse_api_Op.p1 : PcA slices_Reverse_api_Op.G Tryd.f44 1 :=
  region_ok (s := slices_Reverse_api_Op.c3r) (by kernel_rfl) (by kernel_rfl) (sums_of (sh := slices_Reverse_api_Op.c3s) (fun ρ x_ k_ => (nat_bnd fun _ => (nat_bnd fun _ => (nat_bnd fun _ => (nat_bnd fun _ => (nat_bnd fun _ => (nat_bnd fun _ => (nat_bnd fun _ => (nat_bnd fun _ => nat_leaf))))))))) (fun ρ x_ t k => (by kernel_rfl)) (fun x_ => by kernel_rfl))
theorem slices_Reverse_api_Op.ok : MOk Tryd.prog 44 slices_Reverse_api_Op.mc := fnm_ok (G := slices_Reverse_api_Op.G) tab_ok mixed Tryd.func44 ⟨fns_nil, mfns_nil, tab_eqs_ok⟩ (m := 2) (by kernel_rfl) ⟨⟨trivial, slices_Reverse_api_Op.p0⟩, slices_Reverse_api_Op.p1⟩ (by kernel_rfl) slices_Reverse_api_Op.eq
def slices_Clone_int (s : List (Int)) : Option (List Int) :=
  br (List.isEmpty s)
   (both
     (some [])
     (bnd (okIf (decide (((0 : Nat) + List.length s) * (8 : Nat) ≤ (140737488355328 : Nat)) && decide ((0 : Nat) + List.length s ≤ (140737488355328 : Nat)))) fun y =>
      some s))
   (bnd (okIf (decide (((0 : Nat) + List.length s) * (8 : Nat) ≤ (140737488355328 : Nat)) && decide ((0 : Nat) + List.length s ≤ (140737488355328 : Nat)))) fun y_1 =>
    some s)
def slices_Clone_int.ce : Go.Ql.Callee := ⟨[(.sl (.int .i64))], [(.sl (.int .i64))], fun x_ => slices_Clone_int x_⟩
def slices_Clone_int.G : Env := ⟨8, tab, [], [0, 2, 4], [5], [], [], [], tab_eqs⟩
theorem slices_Clone_int.eq (x_ : dens slices_Clone_int.ce.params) : den slices_Clone_int.G Tryd.f41 slices_Clone_int.ce.params slices_Clone_int.ce.res x_ = slices_Clone_int.ce.F x_ := by kernel_rfl
theorem slices_Clone_int.ok : CalleeOk Tryd.prog 41 slices_Clone_int.ce := fn_ok (G := slices_Clone_int.G) tab_ok mixed Tryd.func41 ⟨fns_nil, mfns_nil, tab_eqs_ok⟩ (m := 0) (by kernel_rfl) trivial (by kernel_rfl) slices_Clone_int.eq
abbrev vb23 : SD := .one (.own 16 0)
abbrev vb24 : SD := .one (.ref 8 0)
abbrev vb25 : SO := .box [.val (.int .i64), .val (.int .i64), .val (.sl (.int .i64)), .val (.int .i64), .val (.int .i64), .val (.sl (.int .i64))]
def rev_builder_undo.pre : Shape := ⟨[(0, vb14), (1, vb1), (2, vb1)], [(1000700, vb16), (1000701, vb17)]⟩
def rev_builder_undo.post : Shape := ⟨[], [(1000701, vb17), (1000700, vb16)]⟩
def rev_builder_undo.c5 {ρ : Type} (o2 : List (Int)) (o3 : Int) (t10007001 : Int) (t1000701 : List ((Int) × ((Int) × ((List Int) × ((Int) × ((Int) × (List Int))))))) (k_ : (Int) × (List ((Int) × ((Int) × ((List Int) × ((Int) × ((Int) × (List Int))))))) → Option ρ) : Option ρ :=
  bnd (W.slices_Clone_int o2) fun y =>
  bnd (W.rev_builder_x o3 y t10007001 t1000701) fun y_1 =>
  k_ ((Prod.fst y_1.2), (Prod.fst y_1))
def rev_builder_undo.c5s : Shape := ⟨[(0, vb14), (1, vb1), (2, vb1), (6, vb23), (8, vb24), (19, vb23), (20, vb1), (21, vb1)], [(8, vb25), (16, vb17), (1000700, vb16), (1000701, vb17)]⟩
def rev_builder_undo.c5x0 : Shape := rev_builder_undo.c5s
def rev_builder_undo.c5r : Ck := Ck.of (T := (Int) × (List ((Int) × ((Int) × ((List Int) × ((Int) × ((Int) × (List Int)))))))) rev_builder_undo.c5s (fun ρ x_ k_ => rev_builder_undo.c5 x_.2.2.2.2.2.2.1 x_.2.2.2.2.2.2.2.1 x_.2.2.2.2.2.2.2.2.2.2.2.1 x_.2.2.2.2.2.2.2.2.2.2.2.2.1 k_) (fun ρ x_ r_ k_ => k_ 0 (Shape.inj rev_builder_undo.c5x0 (x_.1, x_.2.1, x_.2.2.1, x_.2.2.2.1, x_.2.2.2.2.1, x_.2.2.2.2.2.1, x_.2.2.2.2.2.2.1, x_.2.2.2.2.2.2.2.1, x_.2.2.2.2.2.2.2.2.1, x_.2.2.2.2.2.2.2.2.2.1, x_.2.2.2.2.2.2.2.2.2.2.1, r_.1, r_.2, ())))
def rev_builder_undo.c100003 {ρ : Type} (t20 : Int) (t21 : Int) (t16 : List ((Int) × ((Int) × ((List Int) × ((Int) × ((Int) × (List Int))))))) (t10007001 : Int) (t1000701 : List ((Int) × ((Int) × ((List Int) × ((Int) × ((Int) × (List Int))))))) (k_ : ((Int) × (Int) × (List ((Int) × ((Int) × ((List Int) × ((Int) × ((Int) × (List Int)))))))) ⊕ ((Int) × (Int) × (List ((Int) × ((Int) × ((List Int) × ((Int) × ((Int) × (List Int)))))))) → Option ρ) : Option ρ :=
  br (decide (t21 < t20))
   (bnd (inR (List.length t16) t21) fun y =>
    bnd (idx t16 t21) fun y_1 =>
    bnd (W.rev_builder_undo.c5 (Prod.fst (Prod.snd (Prod.snd y_1))) (Prod.fst (Prod.snd (Prod.snd (Prod.snd y_1)))) t10007001 t1000701 some) fun y_2 =>
    k_ (.inl ((IntKind.wrap IntKind.i64 (t21 + (1 : Int))), (Prod.fst y_2), (Prod.snd y_2))))
   (k_ (.inr (t21, t10007001, t1000701)))
def rev_builder_undo.c100003s : Shape := ⟨[(0, vb14), (1, vb1), (2, vb1), (6, vb23), (19, vb23), (20, vb1), (21, vb1)], [(16, vb17), (1000700, vb16), (1000701, vb17)]⟩
def rev_builder_undo.c100003x0 : Shape := rev_builder_undo.c100003s
def rev_builder_undo.c100003r : Ck := Ck.ofLoop (S := (Int) × (Int) × (List ((Int) × ((Int) × ((List Int) × ((Int) × ((Int) × (List Int)))))))) (T := (Int) × (Int) × (List ((Int) × ((Int) × ((List Int) × ((Int) × ((Int) × (List Int)))))))) rev_builder_undo.c100003s (fun x_ => (x_.2.2.2.1, x_.2.2.2.2.2.1, x_.2.2.2.2.2.2.1)) (fun ρ x_ s_ k_ => rev_builder_undo.c100003 x_.2.2.1 s_.1 x_.2.2.2.2.1 s_.2.1 s_.2.2 k_) (fun ρ x_ r_ k_ => k_ 2 (Shape.inj rev_builder_undo.c100003x0 (x_.1, x_.2.1, x_.2.2.1, r_.1, x_.2.2.2.2.1, r_.2.1, r_.2.2, ())))
def rev_builder_undo (n : Int) (m : Int) (t10007001 : Int) (t1000701 : List ((Int) × ((Int) × ((List Int) × ((Int) × ((Int) × (List Int))))))) : Option ((List ((Int) × ((Int) × ((List Int) × ((Int) × ((Int) × (List Int))))))) × (Int) × Unit) :=
  bnd (okIf (decide ((0 : Int) ≤ n) && decide (n ≤ m) && decide (m ≤ (↑(List.length t1000701) : Int)))) fun y =>
  bnd (W.slices_Clone_api_Op__win n (m - n) t1000701) fun y_1 =>
  bnd (W.slices_Reverse_api_Op (Prod.fst y_1)) fun y_2 =>
  bnd (iter (fun s ↦ W.rev_builder_undo.c100003 (↑(List.length (Prod.fst y_2)) : Int) (Prod.fst s) (Prod.fst y_2) (Prod.fst (Prod.snd s)) (Prod.snd (Prod.snd s)) some) ((0 : Int), t10007001, Prod.fst y_1.2)) fun y_3 =>
  some (Prod.snd (Prod.snd y_3), Prod.fst (Prod.snd y_3), ())
def rev_builder_undo.mc : MCallee := ⟨34, rev_builder_undo.pre, rev_builder_undo.post, fun x_ => rev_builder_undo x_.1 x_.2.1 x_.2.2.1 x_.2.2.2.1⟩
def rev_builder_undo.G : Env := ⟨33, tab, [(41, slices_Clone_int.ce)], [0, 1, 2, 6, 8, 19, 20, 21, 22], [16, 1000700, 1000701], [(5, [⟨[], [], [26, 27, 28, 29, 30], []⟩, ⟨[], [], [25, 28, 29, 30], []⟩, ⟨[1], [], [25, 28, 29, 30], []⟩, ⟨[], [], [25, 26, 27], []⟩, ⟨[3], [], [25, 26, 27], []⟩, ⟨[4, 3], [], [25, 26, 27], []⟩, ⟨[0, 2, 1, 5, 4, 3], [1000701, 1000700], [], []⟩])], [(100003, rev_builder_undo.c100003r), (5, rev_builder_undo.c5r)], [(57, slices_Clone_api_Op__win.mc), (44, slices_Reverse_api_Op.mc), (32, rev_builder_x.mc)], tab_eqs⟩
theorem rev_builder_undo.eq (x_ : densU rev_builder_undo.mc.pre.tys) : denM rev_builder_undo.G Tryd.f34 rev_builder_undo.mc.pre rev_builder_undo.mc.post x_ = rev_builder_undo.mc.F x_ := by kernel_rfl
theorem rev_builder_undo.p0 : PcA rev_builder_undo.G Tryd.f34 0 :=
  loop_ok (s := rev_builder_undo.c100003r) (by kernel_rfl) (by kernel_rfl) (loops_of (sh := rev_builder_undo.c100003s) (I := fun x_ s_ => (x_.1, x_.2.1, x_.2.2.1, s_.1, x_.2.2.2.2.1, s_.2.1, s_.2.2, ())) (fun x_ => rfl) (fun ρ x_ s_ k_ => (nat_br (nat_bnd fun _ => (nat_bnd fun _ => (nat_bnd fun _ => nat_leaf))) nat_leaf)) (fun ρ x_ t k => (by kernel_rfl)) (fun x_ s => by kernel_rfl))
theorem rev_builder_undo.p1 : PcA rev_builder_undo.G Tryd.f34 1 :=
  region_ok (s := rev_builder_undo.c5r) (by kernel_rfl) (by kernel_rfl) (sums_of (sh := rev_builder_undo.c5s) (fun ρ x_ k_ => (nat_bnd fun _ => (nat_bnd fun _ => nat_leaf))) (fun ρ x_ t k => (by kernel_rfl)) (fun x_ => by kernel_rfl))
theorem rev_builder_undo.ok : MOk Tryd.prog 34 rev_builder_undo.mc := fnm_ok (G := rev_builder_undo.G) tab_ok mixed Tryd.func34 ⟨(fns_cons slices_Clone_int.ok fns_nil), (mfns_cons slices_Clone_api_Op__win.ok (mfns_cons slices_Reverse_api_Op.ok (mfns_cons rev_builder_x.ok mfns_nil))), tab_eqs_ok⟩ (m := 2) (by kernel_rfl) ⟨⟨trivial, rev_builder_undo.p0⟩, rev_builder_undo.p1⟩ (by kernel_rfl) rev_builder_undo.eq
abbrev vb26 : SD := .one (.ref 5 0)
def rev_builder_product.pre : Shape := ⟨[(0, vb14), (1, vb18), (2, vb18)], [(1000700, vb16), (1000701, vb17)]⟩
def rev_builder_product.post : Shape := ⟨[(0, vb18)], [(1000701, vb17), (1000700, vb16)]⟩
def rev_builder_product.c3 {ρ : Type} (f0 : Int) (f1 : Bool) (k_ : Bool → Option ρ) : Option ρ :=
  br (f0 == (0 : Int))
   (k_ f1)
   (k_ false)
def rev_builder_product.c3s : Shape := ⟨[(0, vb14), (1, vb18), (2, vb18), (4, vb13), (5, vb26), (6, vb9), (7, vb1)], [(4, vb19), (5, vb19), (6, vb19), (1000700, vb16), (1000701, vb17)]⟩
def rev_builder_product.c3x0 : Shape := ⟨[(0, vb14), (1, vb18), (2, vb18), (4, vb13), (5, vb26), (6, vb9), (7, vb1), (23, vb11)], [(4, vb19), (5, vb19), (6, vb19), (1000700, vb16), (1000701, vb17)]⟩
def rev_builder_product.c3r : Ck := Ck.of (T := Bool) rev_builder_product.c3s (fun ρ x_ k_ => rev_builder_product.c3 x_.2.2.2.1 x_.2.2.2.2.1 k_) (fun ρ x_ r_ k_ => k_ 0 (Shape.inj rev_builder_product.c3x0 (x_.1, x_.2.1, x_.2.2.1, r_, x_.2.2.2)))
def rev_builder_product.c5 {ρ : Type} (g0 : Int) (g1 : Bool) (k_ : Bool → Option ρ) : Option ρ :=
  br (g0 == (0 : Int))
   (k_ g1)
   (k_ false)
def rev_builder_product.c5s : Shape := rev_builder_product.c3s
def rev_builder_product.c5x0 : Shape := ⟨[(0, vb14), (1, vb18), (2, vb18), (4, vb13), (5, vb26), (6, vb9), (7, vb1), (32, vb11)], [(4, vb19), (5, vb19), (6, vb19), (1000700, vb16), (1000701, vb17)]⟩
def rev_builder_product.c5r : Ck := Ck.of (T := Bool) rev_builder_product.c5s (fun ρ x_ k_ => rev_builder_product.c5 x_.2.2.2.2.2.1 x_.2.2.2.2.2.2.1 k_) (fun ρ x_ r_ k_ => k_ 0 (Shape.inj rev_builder_product.c5x0 (x_.1, x_.2.1, x_.2.2.1, r_, x_.2.2.2)))
def rev_builder_product.c7 {ρ : Type} (f0 : Int) (f1 : Bool) (g0 : Int) (g1 : Bool) (k_ : Bool → Option ρ) : Option ρ :=
  br (f0 == (0 : Int))
   (k_ true)
   (br (g0 == (0 : Int))
     (k_ true)
     (br (f0 == g0)
       (k_ (!f1 == g1))
       (k_ false)))
def rev_builder_product.c7s : Shape := rev_builder_product.c3s
def rev_builder_product.c7x0 : Shape := ⟨[(0, vb14), (1, vb18), (2, vb18), (4, vb13), (5, vb26), (6, vb9), (7, vb1), (41, vb11)], [(4, vb19), (5, vb19), (6, vb19), (1000700, vb16), (1000701, vb17)]⟩
def rev_builder_product.c7r : Ck := Ck.of (T := Bool) rev_builder_product.c7s (fun ρ x_ k_ => rev_builder_product.c7 x_.2.2.2.1 x_.2.2.2.2.1 x_.2.2.2.2.2.1 x_.2.2.2.2.2.2.1 k_) (fun ρ x_ r_ k_ => k_ 0 (Shape.inj rev_builder_product.c7x0 (x_.1, x_.2.1, x_.2.2.1, r_, x_.2.2.2)))
def rev_builder_product.c245061 {ρ : Type} (f0 : Int) (f1 : Bool) (g0 : Int) (g1 : Bool) (k_ : (Int) × (Bool) × (Int) × (Bool) → Option ρ) : Option ρ :=
  br (ibits BinOp.andNot IntKind.i64 f0 g0 == (0 : Int))
   (k_ (g0, g1, f0, f1))
   (k_ (f0, f1, g0, g1))
def rev_builder_product.c245061s : Shape := rev_builder_product.c3s
def rev_builder_product.c245061x0 : Shape := rev_builder_product.c3s
def rev_builder_product.c245061r : Ck := Ck.of (T := (Int) × (Bool) × (Int) × (Bool)) rev_builder_product.c245061s (fun ρ x_ k_ => rev_builder_product.c245061 x_.2.2.2.1 x_.2.2.2.2.1 x_.2.2.2.2.2.1 x_.2.2.2.2.2.2.1 k_) (fun ρ x_ r_ k_ => k_ 0 (Shape.inj rev_builder_product.c245061x0 (x_.1, x_.2.1, x_.2.2.1, r_.1, r_.2.1, r_.2.2.1, r_.2.2.2, x_.2.2.2.2.2.2.2)))
def rev_builder_product.c13 {ρ : Type} (f0 : Int) (g0 : Int) (k_ : (Int) × (Int) → Option ρ) : Option ρ :=
  bnd (W.bits_TrailingZeros (IntKind.wrap IntKind.u64 (ibits BinOp.andNot IntKind.i64 f0 g0))) fun y =>
  bnd (W.bits_TrailingZeros (IntKind.wrap IntKind.u64 g0)) fun y_1 =>
  k_ (y, y_1)
def rev_builder_product.c13s : Shape := rev_builder_product.c3s
def rev_builder_product.c13x0 : Shape := ⟨[(0, vb14), (1, vb18), (2, vb18), (4, vb13), (5, vb26), (6, vb9), (7, vb1), (8, vb1), (9, vb1)], [(4, vb19), (5, vb19), (6, vb19), (1000700, vb16), (1000701, vb17)]⟩
def rev_builder_product.c13r : Ck := Ck.of (T := (Int) × (Int)) rev_builder_product.c13s (fun ρ x_ k_ => rev_builder_product.c13 x_.2.2.2.1 x_.2.2.2.2.2.1 k_) (fun ρ x_ r_ k_ => k_ 0 (Shape.inj rev_builder_product.c13x0 (x_.1, x_.2.1, x_.2.2.1, r_.1, r_.2, x_.2.2.2)))
def rev_builder_product (f : (Int) × (Bool)) (g : (Int) × (Bool)) (t10007001 : Int) (t1000701 : List ((Int) × ((Int) × ((List Int) × ((Int) × ((Int) × (List Int))))))) : Option (((Int) × (Bool)) × (List ((Int) × ((Int) × ((List Int) × ((Int) × ((Int) × (List Int))))))) × (Int) × Unit) :=
  bnd (W.rev_builder_product.c3 (Prod.fst f) (Prod.snd f) some) fun y =>
  br y
   (some ((Prod.fst g, Prod.snd g), t1000701, IntKind.wrap IntKind.i64 (t10007001 + (1 : Int)), ()))
   (bnd (W.rev_builder_product.c5 (Prod.fst g) (Prod.snd g) some) fun y_1 =>
    br y_1
     (some ((Prod.fst f, Prod.snd f), t1000701, IntKind.wrap IntKind.i64 (t10007001 + (1 : Int)), ()))
     (bnd (W.rev_builder_product.c7 (Prod.fst f) (Prod.snd f) (Prod.fst g) (Prod.snd g) some) fun y_2 =>
      br y_2
       (some (((0 : Int), false), t1000701, IntKind.wrap IntKind.i64 (t10007001 + (1 : Int)), ()))
       (br (Prod.fst f == Prod.fst g)
         (some ((Prod.fst f, Prod.snd f), t1000701, IntKind.wrap IntKind.i64 (t10007001 + (1 : Int)), ()))
         (bnd (W.rev_builder_product.c245061 (Prod.fst f) (Prod.snd f) (Prod.fst g) (Prod.snd g) some) fun y_3 =>
          bnd (W.rev_builder_product.c13 (Prod.fst y_3) (Prod.fst (Prod.snd (Prod.snd y_3))) some) fun y_4 =>
          bnd (W.rev_builder_gather (Prod.fst y_3, Prod.fst (Prod.snd y_3)) (Prod.fst y_4) (IntKind.wrap IntKind.i64 (t10007001 + (1 : Int))) t1000701) fun y_5 =>
          bnd (W.rev_builder_gather (Prod.fst (Prod.snd (Prod.snd y_3)), Prod.snd (Prod.snd (Prod.snd y_3))) (Prod.snd y_4) (Prod.fst y_5.2) (Prod.fst y_5)) fun y_6 =>
          bnd (W.rev_builder_x t10007001 [Prod.fst y_4, Prod.snd y_4] (Prod.fst y_6.2) (Prod.fst y_6)) fun y_7 =>
          bnd (W.rev_builder_undo (↑(List.length t1000701) : Int) (↑(List.length (Prod.fst y_6)) : Int) (Prod.fst y_7.2) (Prod.fst y_7)) fun y_8 =>
          bnd (okIf (decide ((0 : Int) ≤ t10007001))) fun y_9 =>
          some ((IntKind.wrap IntKind.i64 ((1 : Int) * (2 : Int) ^ Min.min (Int.toNat t10007001) (64 : Nat)), false), Prod.fst y_8, Prod.fst y_8.2, ())))))
def rev_builder_product.mc : MCallee := ⟨54, rev_builder_product.pre, rev_builder_product.post, fun x_ => rev_builder_product x_.1 x_.2.1 x_.2.2.1 x_.2.2.2.1⟩
def rev_builder_product.G : Env := ⟨122, tab, [(33, bits_TrailingZeros.ce)], [0, 1, 2, 4, 5, 6, 7, 8, 9, 10, 11, 23, 32, 41, 65, 77], [1000700, 1000701], [(13, [⟨[], [], [82, 83, 87, 88, 89], []⟩, ⟨[0], [], [82, 83, 87, 88, 89], []⟩, ⟨[], [], [80, 81, 87, 88, 89], []⟩, ⟨[2], [], [80, 81, 87, 88, 89], []⟩, ⟨[1, 0, 3, 2], [], [87, 88, 89], []⟩, ⟨[4, 1, 0, 3, 2], [], [87, 88, 89], []⟩, ⟨[5, 4, 1, 0, 3, 2], [], [87, 88, 89], []⟩, ⟨[], [], [80, 81, 82, 83, 84, 85, 86], []⟩, ⟨[7], [], [80, 81, 82, 83, 84, 85, 86], []⟩, ⟨[8, 7], [], [80, 81, 82, 83, 84, 85, 86], []⟩, ⟨[9, 8, 7, 6, 5, 4, 1, 0, 3, 2], [], [], []⟩, ⟨[6, 5, 4, 1, 0, 3, 2, 10, 9, 8, 7], [], [], []⟩, ⟨[10, 9, 8, 7, 6, 5, 4, 1, 0, 3, 2, 11], [], [], []⟩])], [(13, rev_builder_product.c13r), (245061, rev_builder_product.c245061r), (7, rev_builder_product.c7r), (5, rev_builder_product.c5r), (3, rev_builder_product.c3r)], [(70, rev_builder_gather.mc), (32, rev_builder_x.mc), (34, rev_builder_undo.mc)], tab_eqs⟩
theorem rev_builder_product.eq (x_ : densU rev_builder_product.mc.pre.tys) : denM rev_builder_product.G Tryd.f54 rev_builder_product.mc.pre rev_builder_product.mc.post x_ = rev_builder_product.mc.F x_ := by kernel_rfl
theorem rev_builder_product.p0 : PcA rev_builder_product.G Tryd.f54 0 :=
  region_ok (s := rev_builder_product.c3r) (by kernel_rfl) (by kernel_rfl) (sums_of (sh := rev_builder_product.c3s) (fun ρ x_ k_ => (nat_br nat_leaf nat_leaf)) (fun ρ x_ t k => (by kernel_rfl)) (fun x_ => by kernel_rfl))
theorem rev_builder_product.p1 : PcA rev_builder_product.G Tryd.f54 1 :=
  region_ok (s := rev_builder_product.c5r) (by kernel_rfl) (by kernel_rfl) (sums_of (sh := rev_builder_product.c5s) (fun ρ x_ k_ => (nat_br nat_leaf nat_leaf)) (fun ρ x_ t k => (by kernel_rfl)) (fun x_ => by kernel_rfl))
theorem rev_builder_product.p2 : PcA rev_builder_product.G Tryd.f54 2 :=
  region_ok (s := rev_builder_product.c7r) (by kernel_rfl) (by kernel_rfl) (sums_of (sh := rev_builder_product.c7s) (fun ρ x_ k_ => (nat_br nat_leaf (nat_br nat_leaf (nat_br nat_leaf nat_leaf)))) (fun ρ x_ t k => (by kernel_rfl)) (fun x_ => by kernel_rfl))
theorem rev_builder_product.p3 : PcA rev_builder_product.G Tryd.f54 3 :=
  join_ok (s := rev_builder_product.c245061r) (by kernel_rfl) (by kernel_rfl) (sums_of (sh := rev_builder_product.c245061s) (fun ρ x_ k_ => (nat_br nat_leaf nat_leaf)) (fun ρ x_ t k => (by kernel_rfl)) (fun x_ => by kernel_rfl))
theorem rev_builder_product.p4 : PcA rev_builder_product.G Tryd.f54 4 :=
  region_ok (s := rev_builder_product.c13r) (by kernel_rfl) (by kernel_rfl) (sums_of (sh := rev_builder_product.c13s) (fun ρ x_ k_ => (nat_bnd fun _ => (nat_bnd fun _ => nat_leaf))) (fun ρ x_ t k => (by kernel_rfl)) (fun x_ => by kernel_rfl))
theorem rev_builder_product.ok : MOk Tryd.prog 54 rev_builder_product.mc := fnm_ok (G := rev_builder_product.G) tab_ok mixed Tryd.func54 ⟨(fns_cons bits_TrailingZeros.ok fns_nil), (mfns_cons rev_builder_gather.ok (mfns_cons rev_builder_x.ok (mfns_cons rev_builder_undo.ok mfns_nil))), tab_eqs_ok⟩ (m := 5) (by kernel_rfl) ⟨⟨⟨⟨⟨trivial, rev_builder_product.p0⟩, rev_builder_product.p1⟩, rev_builder_product.p2⟩, rev_builder_product.p3⟩, rev_builder_product.p4⟩ (by kernel_rfl) rev_builder_product.eq
def rev_builder_work_b.self.pre : Shape := ⟨[(0, vb14), (1, vb0)], [(1000700, vb16), (1000701, vb17)]⟩
def rev_builder_work_b.self.post : Shape := ⟨[(0, vb18)], [(1000701, vb17), (1000700, vb16)]⟩
class rev_builder_work_b.Self where
  F : densU rev_builder_work_b.self.pre.tys → Option (densU rev_builder_work_b.self.post.tys)
  ok : MOk Tryd.prog 31 ⟨31, rev_builder_work_b.self.pre, rev_builder_work_b.self.post, F⟩
section
variable [rev_builder_work_b.Self]
def rev_builder_work_b.self (x_ : densU rev_builder_work_b.self.pre.tys) : Option (densU rev_builder_work_b.self.post.tys) := rev_builder_work_b.Self.F x_
def rev_builder_work_b.self.mc : MCallee := ⟨31, rev_builder_work_b.self.pre, rev_builder_work_b.self.post, fun x_ => rev_builder_work_b.self x_⟩
theorem rev_builder_work_b.self.ok : MOk Tryd.prog 31 rev_builder_work_b.self.mc := rev_builder_work_b.Self.ok
def rev_builder_work_b.pre : Shape := ⟨[(0, vb14), (1, vb0)], [(1000700, vb16), (1000701, vb17)]⟩
def rev_builder_work_b.post : Shape := ⟨[(0, vb18)], [(1000701, vb17), (1000700, vb16)]⟩
def rev_builder_work_b.c14 {ρ : Type} (f0 : Int) (f1 : Bool) (g0 : Int) (g1 : Bool) (t10007001 : Int) (t1000701 : List ((Int) × ((Int) × ((List Int) × ((Int) × ((Int) × (List Int))))))) (k_ : (Int) × (Bool) × (Int) × (List ((Int) × ((Int) × ((List Int) × ((Int) × ((Int) × (List Int))))))) → Option ρ) : Option ρ :=
  bnd (W.rev_builder_product (f0, f1) (g0, g1) t10007001 t1000701) fun y =>
  bnd (W.rev_form_plus (Prod.fst y) (f0, f1)) fun y_1 =>
  bnd (W.rev_form_plus y_1 (g0, g1)) fun y_2 =>
  k_ ((Prod.fst y_2), (Prod.snd y_2), (Prod.fst y.2.2), (Prod.fst y.2))
def rev_builder_work_b.c14s : Shape := ⟨[(0, vb14), (1, vb0), (3, vb8), (4, vb13), (5, vb26), (6, vb9), (8, vb1), (41, vb1)], [(3, vb4), (4, vb19), (5, vb19), (6, vb19), (1000700, vb16), (1000701, vb17)]⟩
def rev_builder_work_b.c14x0 : Shape := rev_builder_work_b.c14s
def rev_builder_work_b.c14r : Ck := Ck.of (T := (Int) × (Bool) × (Int) × (List ((Int) × ((Int) × ((List Int) × ((Int) × ((Int) × (List Int)))))))) rev_builder_work_b.c14s (fun ρ x_ k_ => rev_builder_work_b.c14 x_.2.2.2.2.2.2.2.2.1 x_.2.2.2.2.2.2.2.2.2.1 x_.2.2.2.2.2.2.2.2.2.2.1 x_.2.2.2.2.2.2.2.2.2.2.2.1 x_.2.2.2.2.2.2.2.2.2.2.2.2.1 x_.2.2.2.2.2.2.2.2.2.2.2.2.2.1 k_) (fun ρ x_ r_ k_ => k_ 0 (Shape.inj rev_builder_work_b.c14x0 (x_.1, x_.2.1, x_.2.2.1, x_.2.2.2.1, x_.2.2.2.2.1, x_.2.2.2.2.2.1, r_.1, r_.2.1, x_.2.2.2.2.2.2.2.2.1, x_.2.2.2.2.2.2.2.2.2.1, x_.2.2.2.2.2.2.2.2.2.2.1, x_.2.2.2.2.2.2.2.2.2.2.2.1, r_.2.2.1, r_.2.2.2, ())))
def rev_builder_work_b (e : Rose ((Int) × (Int))) (t10007001 : Int) (t1000701 : List ((Int) × ((Int) × ((List Int) × ((Int) × ((Int) × (List Int))))))) : Option (((Int) × (Bool)) × (List ((Int) × ((Int) × ((List Int) × ((Int) × ((Int) × (List Int))))))) × (Int) × Unit) :=
  br (Prod.fst (Rose.head e) == (1 : Int))
   (bnd (okIf (decide ((0 : Int) ≤ Prod.snd (Rose.head e)))) fun y =>
    some ((IntKind.wrap IntKind.i64 ((1 : Int) * (2 : Int) ^ Min.min (Int.toNat (Prod.snd (Rose.head e))) (64 : Nat)), false), t1000701, t10007001, ()))
   (br (Prod.fst (Rose.head e) == (2 : Int))
     (some (((0 : Int), true), t1000701, t10007001, ()))
     (br (Prod.fst (Rose.head e) == (3 : Int))
       (bnd (idx (Rose.kids e) (0 : Int)) fun y_1 =>
        bnd (W.rev_builder_work_b.self (y_1, t10007001, t1000701, ())) fun y_2 =>
        bnd (W.rev_form_plus (Prod.fst y_2) ((0 : Int), true)) fun y_3 =>
        some ((Prod.fst y_3, Prod.snd y_3), Prod.fst y_2.2, Prod.fst y_2.2.2, ()))
       (bnd (idx (Rose.kids e) (0 : Int)) fun y_4 =>
        bnd (W.rev_builder_work_b.self (y_4, t10007001, t1000701, ())) fun y_5 =>
        bnd (idx (Rose.kids e) (1 : Int)) fun y_6 =>
        bnd (W.rev_builder_work_b.self (y_6, Prod.fst y_5.2.2, Prod.fst y_5.2, ())) fun y_7 =>
        br (Prod.fst (Rose.head e) == (4 : Int))
         (bnd (W.rev_builder_product (Prod.fst (Prod.fst y_5), Prod.snd (Prod.fst y_5)) (Prod.fst (Prod.fst y_7), Prod.snd (Prod.fst y_7)) (Prod.fst y_7.2.2) (Prod.fst y_7.2)) fun y_8 =>
          some ((Prod.fst (Prod.fst y_8), Prod.snd (Prod.fst y_8)), Prod.fst y_8.2, Prod.fst y_8.2.2, ()))
         (br (Prod.fst (Rose.head e) == (5 : Int))
           (bnd (W.rev_builder_work_b.c14 (Prod.fst (Prod.fst y_5)) (Prod.snd (Prod.fst y_5)) (Prod.fst (Prod.fst y_7)) (Prod.snd (Prod.fst y_7)) (Prod.fst y_7.2.2) (Prod.fst y_7.2) some) fun y_9 =>
            some ((Prod.fst y_9, Prod.fst (Prod.snd y_9)), Prod.snd (Prod.snd (Prod.snd y_9)), Prod.fst (Prod.snd (Prod.snd y_9)), ()))
           (bnd (W.rev_form_plus (Prod.fst (Prod.fst y_5), Prod.snd (Prod.fst y_5)) (Prod.fst (Prod.fst y_7), Prod.snd (Prod.fst y_7))) fun y_10 =>
            some ((Prod.fst y_10, Prod.snd y_10), Prod.fst y_7.2, Prod.fst y_7.2.2, ()))))))
def rev_builder_work_b.mc : MCallee := ⟨31, rev_builder_work_b.pre, rev_builder_work_b.post, fun x_ => rev_builder_work_b x_.1 x_.2.1 x_.2.2.1⟩
def rev_builder_work_b.G : Env := ⟨61, tab, [(53, rev_form_plus.ce)], [0, 1, 3, 4, 5, 6, 8, 9, 15, 18, 41, 42, 48], [1000700, 1000701], [(14, [⟨[], [], [51, 52, 54, 56], []⟩, ⟨[], [], [50, 52, 54, 56], []⟩, ⟨[], [], [50, 51, 54, 56], []⟩, ⟨[0, 1, 2], [1000701, 1000700], [54, 56], []⟩, ⟨[], [], [50, 51, 52, 53, 56], [1000701, 1000700]⟩, ⟨[3, 0, 1, 2, 4], [], [56], []⟩, ⟨[], [], [50, 51, 52, 53, 54, 55], [1000701, 1000700]⟩, ⟨[5, 3, 0, 1, 2, 4, 6], [], [], []⟩, ⟨[7, 5, 3, 0, 1, 2, 4, 6], [4], [], []⟩])], [(14, rev_builder_work_b.c14r)], [(31, rev_builder_work_b.self.mc), (54, rev_builder_product.mc)], tab_eqs⟩
theorem rev_builder_work_b.eq (x_ : densU rev_builder_work_b.mc.pre.tys) : denM rev_builder_work_b.G Tryd.f31 rev_builder_work_b.mc.pre rev_builder_work_b.mc.post x_ = rev_builder_work_b.mc.F x_ := by kernel_rfl
theorem rev_builder_work_b.p0 : PcA rev_builder_work_b.G Tryd.f31 0 :=
  region_ok (s := rev_builder_work_b.c14r) (by kernel_rfl) (by kernel_rfl) (sums_of (sh := rev_builder_work_b.c14s) (fun ρ x_ k_ => (nat_bnd fun _ => (nat_bnd fun _ => (nat_bnd fun _ => nat_leaf)))) (fun ρ x_ t k => (by kernel_rfl)) (fun x_ => by kernel_rfl))
theorem rev_builder_work_b.ok : MOk Tryd.prog 31 rev_builder_work_b.mc := fnm_ok (G := rev_builder_work_b.G) tab_ok mixed Tryd.func31 ⟨(fns_cons rev_form_plus.ok fns_nil), (mfns_cons rev_builder_work_b.self.ok (mfns_cons rev_builder_product.ok mfns_nil)), tab_eqs_ok⟩ (m := 1) (by kernel_rfl) ⟨trivial, rev_builder_work_b.p0⟩ (by kernel_rfl) rev_builder_work_b.eq
end
@[reducible] def rev_builder_work_b.fuel : Nat → rev_builder_work_b.Self
  | 0 => ⟨fun _ => none, ⟨⟨Tryd.f31, Tryd.func31, by kernel_rfl, by kernel_rfl⟩, fun _ _ _ _ _ _ _ hy => by cases hy⟩⟩
  | n + 1 => ⟨fun x_ => (@rev_builder_work_b.mc (rev_builder_work_b.fuel n)).F x_, @rev_builder_work_b.ok (rev_builder_work_b.fuel n)⟩
def rev_builder_work (x_ : densU rev_builder_work_b.self.pre.tys) : Option (densU rev_builder_work_b.self.post.tys) := (rev_builder_work_b.fuel (sizeOf x_.1)).F x_
def rev_builder_work.mc : MCallee := ⟨31, rev_builder_work_b.self.pre, rev_builder_work_b.self.post, fun x_ => rev_builder_work x_⟩
theorem rev_builder_work.ok : MOk Tryd.prog 31 rev_builder_work.mc := mok_diag (F := fun n => (rev_builder_work_b.fuel n).F) (fun n => (rev_builder_work_b.fuel n).ok) (fun x_ => sizeOf x_.1)
abbrev vb27 : SO := .box [.val (.int .i64), .val (.int .i64), .val (.sl (.st (.pair (.int .i64) (.pair (.int .i64) (.pair (.sl (.int .i64)) (.pair (.int .i64) (.pair (.int .i64) (.sl (.int .i64)))))))))]
abbrev vb28 : SD := .one (.ref 9 0)
abbrev vb29 : SO := .box [.own 1008 0, .val (.int .i64)]
def rev_Deep.c3 {ρ : Type}  (k_ : Unit → Option ρ) : Option ρ :=
  k_ ()
def rev_Deep.c3s : Shape := ⟨[(0, vb0), (1, vb1), (2, vb12), (4, vb13), (5, vb26), (6, vb9)], [(2, vb4), (4, vb27), (5, vb10), (6, vb10)]⟩
def rev_Deep.c3x0 : Shape := rev_Deep.c3s
def rev_Deep.c3r : Ck := Ck.of (T := Unit) rev_Deep.c3s (fun ρ x_ k_ => rev_Deep.c3  k_) (fun ρ x_ r_ k_ => k_ 0 (Shape.inj rev_Deep.c3x0 (x_.1, x_.2.1, x_.2.2.1, x_.2.2.2.1, x_.2.2.2.2.1, (0 : Int), (0 : Int), [], x_.2.2.2.2.2.2.2.2.2.2.1, x_.2.2.2.2.2.2.2.2.2.2.2.1, x_.2.2.2.2.2.2.2.2.2.2)))
def rev_Deep.c100011 {ρ : Type} (n : Int) (m : Int) (b1 : Int) (t1008 : List ((Int) × ((Int) × ((List Int) × ((Int) × ((Int) × (List Int))))))) (k_ : ((Int) × (Int) × (List ((Int) × ((Int) × ((List Int) × ((Int) × ((Int) × (List Int)))))))) ⊕ ((Int) × (Int) × (List ((Int) × ((Int) × ((List Int) × ((Int) × ((Int) × (List Int)))))))) → Option ρ) : Option ρ :=
  br (decide (m > (0 : Int)))
   (bnd (W.bits_TrailingZeros (IntKind.wrap IntKind.u64 m)) fun y =>
    bnd (W.rev_builder_x n [y] b1 t1008) fun y_1 =>
    k_ (.inl ((ibits BinOp.and IntKind.i64 m (IntKind.wrap IntKind.i64 (m - (1 : Int)))), (Prod.fst y_1.2), (Prod.fst y_1))))
   (k_ (.inr (m, b1, t1008)))
def rev_Deep.c100011s : Shape := ⟨[(0, vb0), (1, vb1), (2, vb12), (4, vb13), (5, vb26), (6, vb9), (7, vb1), (8, vb24), (9, vb28), (10, vb1), (11, vb1)], [(2, vb4), (4, vb27), (5, vb10), (6, vb10), (8, vb29), (9, vb19), (1008, vb17)]⟩
def rev_Deep.c100011x0 : Shape := rev_Deep.c100011s
def rev_Deep.c100011r : Ck := Ck.ofLoop (S := (Int) × (Int) × (List ((Int) × ((Int) × ((List Int) × ((Int) × ((Int) × (List Int)))))))) (T := (Int) × (Int) × (List ((Int) × ((Int) × ((List Int) × ((Int) × ((Int) × (List Int)))))))) rev_Deep.c100011s (fun x_ => (x_.2.2.2.2.1, x_.2.2.2.2.2.2.2.2.2.2.2.2.2.2.2.1, x_.2.2.2.2.2.2.2.2.2.2.2.2.2.2.2.2.2.2.1)) (fun ρ x_ s_ k_ => rev_Deep.c100011 x_.2.1 s_.1 s_.2.1 s_.2.2 k_) (fun ρ x_ r_ k_ => k_ 2 (Shape.inj rev_Deep.c100011x0 (x_.1, x_.2.1, x_.2.2.1, x_.2.2.2.1, r_.1, x_.2.2.2.2.2.1, x_.2.2.2.2.2.2.1, x_.2.2.2.2.2.2.2.1, x_.2.2.2.2.2.2.2.2.1, x_.2.2.2.2.2.2.2.2.2.1, x_.2.2.2.2.2.2.2.2.2.2.1, x_.2.2.2.2.2.2.2.2.2.2.2.1, x_.2.2.2.2.2.2.2.2.2.2.2.2.1, x_.2.2.2.2.2.2.2.2.2.2.2.2.2.1, x_.2.2.2.2.2.2.2.2.2.2.2.2.2.2.1, r_.2.1, x_.2.2.2.2.2.2.2.2.2.2.2.2.2.2.2.2.1, x_.2.2.2.2.2.2.2.2.2.2.2.2.2.2.2.2.2.1, r_.2.2, ())))
def rev_Deep.c257349 {ρ : Type} (n : Int) (b1 : Int) (f1_1 : Bool) (t1008 : List ((Int) × ((Int) × ((List Int) × ((Int) × ((Int) × (List Int))))))) (k_ : (Int) × (List ((Int) × ((Int) × ((List Int) × ((Int) × ((Int) × (List Int))))))) → Option ρ) : Option ρ :=
  br f1_1
   (bnd (W.rev_builder_x n [] b1 t1008) fun y =>
    k_ ((Prod.fst y.2), (Prod.fst y)))
   (k_ (b1, t1008))
def rev_Deep.c257349s : Shape := rev_Deep.c100011s
def rev_Deep.c257349x0 : Shape := rev_Deep.c100011s
def rev_Deep.c257349r : Ck := Ck.of (T := (Int) × (List ((Int) × ((Int) × ((List Int) × ((Int) × ((Int) × (List Int)))))))) rev_Deep.c257349s (fun ρ x_ k_ => rev_Deep.c257349 x_.2.1 x_.2.2.2.2.2.2.2.2.2.2.2.2.2.2.2.1 x_.2.2.2.2.2.2.2.2.2.2.2.2.2.2.2.2.2.1 x_.2.2.2.2.2.2.2.2.2.2.2.2.2.2.2.2.2.2.1 k_) (fun ρ x_ r_ k_ => k_ 0 (Shape.inj rev_Deep.c257349x0 (x_.1, x_.2.1, x_.2.2.1, x_.2.2.2.1, x_.2.2.2.2.1, x_.2.2.2.2.2.1, x_.2.2.2.2.2.2.1, x_.2.2.2.2.2.2.2.1, x_.2.2.2.2.2.2.2.2.1, x_.2.2.2.2.2.2.2.2.2.1, x_.2.2.2.2.2.2.2.2.2.2.1, x_.2.2.2.2.2.2.2.2.2.2.2.1, x_.2.2.2.2.2.2.2.2.2.2.2.2.1, x_.2.2.2.2.2.2.2.2.2.2.2.2.2.1, x_.2.2.2.2.2.2.2.2.2.2.2.2.2.2.1, r_.1, x_.2.2.2.2.2.2.2.2.2.2.2.2.2.2.2.2.1, x_.2.2.2.2.2.2.2.2.2.2.2.2.2.2.2.2.2.1, r_.2, ())))
def rev_Deep (e : Rose ((Int) × (Int))) (n : Int) : Option (((Int) × ((Int) × (List ((Int) × ((Int) × ((List Int) × ((Int) × ((Int) × (List Int))))))))) × ((Int) × (Int))) :=
  bnd (W.rev_Check (Rose.mk (Prod.fst (Rose.head e), Prod.snd (Rose.head e)) (Rose.kids e)) n) fun y =>
  br (Prod.fst y != (0 : Int))
   (bnd (W.rev_Deep.c3 some) fun y_1 =>
    some (((0 : Int), (0 : Int), []), Prod.fst y, Prod.snd y))
   (bnd (W.rev_products (Rose.mk (Prod.fst (Rose.head e), Prod.snd (Rose.head e)) (Rose.kids e), ())) fun y_2 =>
    br (decide (IntKind.wrap IntKind.i64 (IntKind.wrap IntKind.i64 (n + (1 : Int)) + Prod.fst y_2) > (12 : Int)))
     (bnd (W.rev_fault (36 : Int) (0 : Int)) fun y_3 =>
      some (((0 : Int), (0 : Int), []), Prod.fst y_3, Prod.snd y_3))
     (bnd (W.rev_builder_work (Rose.mk (Prod.fst (Rose.head e), Prod.snd (Rose.head e)) (Rose.kids e), IntKind.wrap IntKind.i64 (n + (1 : Int)), [], ())) fun y_4 =>
      bnd (iter (fun s ↦ W.rev_Deep.c100011 n (Prod.fst s) (Prod.fst (Prod.snd s)) (Prod.snd (Prod.snd s)) some) (Prod.fst (Prod.fst y_4), Prod.fst y_4.2.2, Prod.fst y_4.2)) fun y_5 =>
      bnd (W.rev_Deep.c257349 n (Prod.fst (Prod.snd y_5)) (Prod.snd (Prod.fst y_4)) (Prod.snd (Prod.snd y_5)) some) fun y_6 =>
      bnd (W.rev_builder_undo (0 : Int) (↑(List.length (Prod.fst y_4.2)) : Int) (Prod.fst y_6) (Prod.snd y_6)) fun y_7 =>
      some ((IntKind.wrap IntKind.i64 (IntKind.wrap IntKind.i64 (n + (1 : Int)) + Prod.fst y_2), (0 : Int), Prod.fst y_7), (0 : Int), (0 : Int))))
def rev_Deep.ce : Go.Ql.Callee := ⟨[(.st (.node (.pair (.int .i64) (.int .i64)))), (.int .i64)], [(.st (.pair (.int .i64) (.pair (.int .i64) (.sl (.st (.pair (.int .i64) (.pair (.int .i64) (.pair (.sl (.int .i64)) (.pair (.int .i64) (.pair (.int .i64) (.sl (.int .i64)))))))))))), (.st (.pair (.int .i64) (.int .i64)))], fun x_ => rev_Deep x_.1 x_.2⟩
def rev_Deep.G : Env := ⟨62, tab, [(20, rev_Check.ce), (30, rev_fault.ce), (33, bits_TrailingZeros.ce)], [0, 1, 2, 4, 5, 6, 7, 8, 9, 10, 11, 17, 26, 40, 52], [8, 31, 1008], [(3, [⟨[], [], [19], []⟩, ⟨[], [], [18], [4]⟩, ⟨[0], [4], [19], []⟩, ⟨[1, 2, 0], [5], [], []⟩])], [(257349, rev_Deep.c257349r), (100011, rev_Deep.c100011r), (3, rev_Deep.c3r)], [(29, rev_products.mc), (31, rev_builder_work.mc), (32, rev_builder_x.mc), (34, rev_builder_undo.mc)], tab_eqs⟩
theorem rev_Deep.eq (x_ : dens rev_Deep.ce.params) : den rev_Deep.G Tryd.f9 rev_Deep.ce.params rev_Deep.ce.res x_ = rev_Deep.ce.F x_ := by kernel_rfl
theorem rev_Deep.p0 : PcA rev_Deep.G Tryd.f9 0 :=
  region_ok (s := rev_Deep.c3r) (by kernel_rfl) (by kernel_rfl) (sums_of (sh := rev_Deep.c3s) (fun ρ x_ k_ => nat_leaf) (fun ρ x_ t k => (by kernel_rfl)) (fun x_ => by kernel_rfl))
theorem rev_Deep.p1 : PcA rev_Deep.G Tryd.f9 1 :=
  loop_ok (s := rev_Deep.c100011r) (by kernel_rfl) (by kernel_rfl) (loops_of (sh := rev_Deep.c100011s) (I := fun x_ s_ => (x_.1, x_.2.1, x_.2.2.1, x_.2.2.2.1, s_.1, x_.2.2.2.2.2.1, x_.2.2.2.2.2.2.1, x_.2.2.2.2.2.2.2.1, x_.2.2.2.2.2.2.2.2.1, x_.2.2.2.2.2.2.2.2.2.1, x_.2.2.2.2.2.2.2.2.2.2.1, x_.2.2.2.2.2.2.2.2.2.2.2.1, x_.2.2.2.2.2.2.2.2.2.2.2.2.1, x_.2.2.2.2.2.2.2.2.2.2.2.2.2.1, x_.2.2.2.2.2.2.2.2.2.2.2.2.2.2.1, s_.2.1, x_.2.2.2.2.2.2.2.2.2.2.2.2.2.2.2.2.1, x_.2.2.2.2.2.2.2.2.2.2.2.2.2.2.2.2.2.1, s_.2.2, ())) (fun x_ => rfl) (fun ρ x_ s_ k_ => (nat_br (nat_bnd fun _ => (nat_bnd fun _ => nat_leaf)) nat_leaf)) (fun ρ x_ t k => (by kernel_rfl)) (fun x_ s => by kernel_rfl))
theorem rev_Deep.p2 : PcA rev_Deep.G Tryd.f9 2 :=
  join_ok (s := rev_Deep.c257349r) (by kernel_rfl) (by kernel_rfl) (sums_of (sh := rev_Deep.c257349s) (fun ρ x_ k_ => (nat_br (nat_bnd fun _ => nat_leaf) nat_leaf)) (fun ρ x_ t k => (by kernel_rfl)) (fun x_ => by kernel_rfl))
theorem rev_Deep.ok : CalleeOk Tryd.prog 9 rev_Deep.ce := fn_ok (G := rev_Deep.G) tab_ok mixed Tryd.func9 ⟨(fns_cons rev_Check.ok (fns_cons rev_fault.ok (fns_cons bits_TrailingZeros.ok fns_nil))), (mfns_cons rev_products.ok (mfns_cons rev_builder_work.ok (mfns_cons rev_builder_x.ok (mfns_cons rev_builder_undo.ok mfns_nil)))), tab_eqs_ok⟩ (m := 3) (by kernel_rfl) ⟨⟨⟨trivial, rev_Deep.p0⟩, rev_Deep.p1⟩, rev_Deep.p2⟩ (by kernel_rfl) rev_Deep.eq
def circ_fault (code : Int) (t1 : Int) : Option ((Int) × (Int)) :=
  some (code, t1)
def circ_fault.ce : Go.Ql.Callee := ⟨[(.int .i64), (.int .i64)], [(.st (.pair (.int .i64) (.int .i64)))], fun x_ => circ_fault x_.1 x_.2⟩
def circ_fault.G : Env := ⟨8, tab, [], [0, 1, 4], [], [], [], [], tab_eqs⟩
theorem circ_fault.eq (x_ : dens circ_fault.ce.params) : den circ_fault.G Tryd.f67 circ_fault.ce.params circ_fault.ce.res x_ = circ_fault.ce.F x_ := by kernel_rfl
theorem circ_fault.ok : CalleeOk Tryd.prog 67 circ_fault.ce := fn_ok (G := circ_fault.G) tab_ok mixed Tryd.func67 ⟨fns_nil, mfns_nil, tab_eqs_ok⟩ (m := 0) (by kernel_rfl) trivial (by kernel_rfl) circ_fault.eq
def circ_turns.c1 {ρ : Type} (kind : Int) (k_ : Bool → Option ρ) : Option ρ :=
  br (kind == (1 : Int))
   (k_ true)
   (k_ (kind == (4 : Int)))
def circ_turns.c1s : Shape := ⟨[(0, vb1), (2, vb11)], []⟩
def circ_turns.c1x0 : Shape := circ_turns.c1s
def circ_turns.c1r : Ck := Ck.of (T := Bool) circ_turns.c1s (fun ρ x_ k_ => circ_turns.c1 x_.1 k_) (fun ρ x_ r_ k_ => k_ 0 (Shape.inj circ_turns.c1x0 (x_.1, r_, ())))
def circ_turns (kind : Int) : Option (Bool) :=
  bnd (W.circ_turns.c1 kind some) fun y =>
  some y
def circ_turns.ce : Go.Ql.Callee := ⟨[(.int .i64)], [.bool], fun x_ => circ_turns x_⟩
def circ_turns.G : Env := ⟨9, tab, [], [0, 2], [], [], [(1, circ_turns.c1r)], [], tab_eqs⟩
theorem circ_turns.eq (x_ : dens circ_turns.ce.params) : den circ_turns.G Tryd.f73 circ_turns.ce.params circ_turns.ce.res x_ = circ_turns.ce.F x_ := by kernel_rfl
theorem circ_turns.p0 : PcA circ_turns.G Tryd.f73 0 :=
  region_ok (s := circ_turns.c1r) (by kernel_rfl) (by kernel_rfl) (sums_of (sh := circ_turns.c1s) (fun ρ x_ k_ => (nat_br nat_leaf nat_leaf)) (fun ρ x_ t k => (by kernel_rfl)) (fun x_ => by kernel_rfl))
theorem circ_turns.ok : CalleeOk Tryd.prog 73 circ_turns.ce := fn_ok (G := circ_turns.G) tab_ok mixed Tryd.func73 ⟨fns_nil, mfns_nil, tab_eqs_ok⟩ (m := 1) (by kernel_rfl) ⟨trivial, circ_turns.p0⟩ (by kernel_rfl) circ_turns.eq
def circ_gate.c1 {ρ : Type} (kind : Int) (k_ : Bool → Option ρ) : Option ρ :=
  br (kind == (2 : Int))
   (k_ true)
   (br (kind == (3 : Int))
     (k_ true)
     (k_ (kind == (4 : Int))))
def circ_gate.c1s : Shape := ⟨[(0, vb1), (2, vb11)], []⟩
def circ_gate.c1x0 : Shape := circ_gate.c1s
def circ_gate.c1r : Ck := Ck.of (T := Bool) circ_gate.c1s (fun ρ x_ k_ => circ_gate.c1 x_.1 k_) (fun ρ x_ r_ k_ => k_ 0 (Shape.inj circ_gate.c1x0 (x_.1, r_, ())))
def circ_gate (kind : Int) : Option (Bool) :=
  bnd (W.circ_gate.c1 kind some) fun y =>
  some y
def circ_gate.ce : Go.Ql.Callee := ⟨[(.int .i64)], [.bool], fun x_ => circ_gate x_⟩
def circ_gate.G : Env := ⟨13, tab, [], [0, 2], [], [], [(1, circ_gate.c1r)], [], tab_eqs⟩
theorem circ_gate.eq (x_ : dens circ_gate.ce.params) : den circ_gate.G Tryd.f74 circ_gate.ce.params circ_gate.ce.res x_ = circ_gate.ce.F x_ := by kernel_rfl
theorem circ_gate.p0 : PcA circ_gate.G Tryd.f74 0 :=
  region_ok (s := circ_gate.c1r) (by kernel_rfl) (by kernel_rfl) (sums_of (sh := circ_gate.c1s) (fun ρ x_ k_ => (nat_br nat_leaf (nat_br nat_leaf nat_leaf))) (fun ρ x_ t k => (by kernel_rfl)) (fun x_ => by kernel_rfl))
theorem circ_gate.ok : CalleeOk Tryd.prog 74 circ_gate.ce := fn_ok (G := circ_gate.G) tab_ok mixed Tryd.func74 ⟨fns_nil, mfns_nil, tab_eqs_ok⟩ (m := 1) (by kernel_rfl) ⟨trivial, circ_gate.p0⟩ (by kernel_rfl) circ_gate.eq
abbrev vb30 : SD := .one (.val (.st (.pair (.int .i64) (.pair (.int .i64) (.pair (.sl (.int .i64)) (.pair (.int .i64) (.pair (.int .i64) (.sl (.int .i64)))))))))
abbrev vb31 : SD := .one (.ref 1000100 0)
abbrev vb32 : SD := .one (.aptr 5 0)
abbrev vb33 : SO := .arr 0 false 103 .bool
def circ_one.pre : Shape := ⟨[(0, vb30), (1, vb31)], [(1000100, vb27)]⟩
def circ_one.post : Shape := ⟨[(0, vb1)], [(1000100, vb27)]⟩
def circ_one.c1 {ρ : Type} (o0 : Int) (k_ : Bool → Option ρ) : Option ρ :=
  br (decide (o0 < (1 : Int)))
   (k_ true)
   (k_ (decide (o0 > (6 : Int))))
def circ_one.c1s : Shape := ⟨[(0, vb30), (1, vb31), (2, vb12), (4, vb1)], [(2, vb25), (1000100, vb27)]⟩
def circ_one.c1x0 : Shape := ⟨[(0, vb30), (1, vb31), (2, vb12), (4, vb1), (17, vb11)], [(2, vb25), (1000100, vb27)]⟩
def circ_one.c1r : Ck := Ck.of (T := Bool) circ_one.c1s (fun ρ x_ k_ => circ_one.c1 x_.2.2.1 k_) (fun ρ x_ r_ k_ => k_ 0 (Shape.inj circ_one.c1x0 (x_.1, x_.2.1, r_, x_.2.2)))
def circ_one.c3 {ρ : Type} (o0 : Int) (o1 : Int) (k_ : Bool → Option ρ) : Option ρ :=
  br (decide (o1 < (0 : Int)))
   (k_ true)
   (br (decide (o1 > (15 : Int)))
     (k_ true)
     (bnd (W.circ_turns o0) fun y =>
      br (!y)
       (k_ (o1 != (0 : Int)))
       (k_ false)))
def circ_one.c3s : Shape := circ_one.c1s
def circ_one.c3x0 : Shape := ⟨[(0, vb30), (1, vb31), (2, vb12), (4, vb1), (36, vb11)], [(2, vb25), (1000100, vb27)]⟩
def circ_one.c3r : Ck := Ck.of (T := Bool) circ_one.c3s (fun ρ x_ k_ => circ_one.c3 x_.2.2.1 x_.2.2.2.1 k_) (fun ρ x_ r_ k_ => k_ 0 (Shape.inj circ_one.c3x0 (x_.1, x_.2.1, r_, x_.2.2)))
def circ_one.c5 {ρ : Type} (o0 : Int) (o3 : Int) (t10001000 : Int) (k_ : Bool → Option ρ) : Option ρ :=
  br (decide (o3 < (0 : Int)))
   (k_ true)
   (br (decide (o3 ≥ t10001000))
     (k_ true)
     (br (o0 == (1 : Int))
       (k_ (o3 != (0 : Int)))
       (k_ false)))
def circ_one.c5s : Shape := circ_one.c1s
def circ_one.c5x0 : Shape := ⟨[(0, vb30), (1, vb31), (2, vb12), (4, vb1), (58, vb11)], [(2, vb25), (1000100, vb27)]⟩
def circ_one.c5r : Ck := Ck.of (T := Bool) circ_one.c5s (fun ρ x_ k_ => circ_one.c5 x_.2.2.1 x_.2.2.2.2.2.1 x_.2.2.2.2.2.2.2.2.1 k_) (fun ρ x_ r_ k_ => k_ 0 (Shape.inj circ_one.c5x0 (x_.1, x_.2.1, r_, x_.2.2)))
def circ_one.c7 {ρ : Type} (o0 : Int) (o2 : List (Int)) (k_ : Bool → Option ρ) : Option ρ :=
  br (decide ((↑(List.length o2) : Int) > (0 : Int)))
   (bnd (W.circ_gate o0) fun y =>
    k_ (!y))
   (k_ false)
def circ_one.c7s : Shape := circ_one.c1s
def circ_one.c7x0 : Shape := ⟨[(0, vb30), (1, vb31), (2, vb12), (4, vb1), (68, vb11)], [(2, vb25), (1000100, vb27)]⟩
def circ_one.c7r : Ck := Ck.of (T := Bool) circ_one.c7s (fun ρ x_ k_ => circ_one.c7 x_.2.2.1 x_.2.2.2.2.1 k_) (fun ρ x_ r_ k_ => k_ 0 (Shape.inj circ_one.c7x0 (x_.1, x_.2.1, r_, x_.2.2)))
def circ_one.c14 {ρ : Type} (q : Int) (t10001000 : Int) (k_ : Bool → Option ρ) : Option ρ :=
  br (decide (q < (0 : Int)))
   (k_ true)
   (k_ (decide (q ≥ t10001000)))
def circ_one.c14s : Shape := ⟨[(0, vb30), (1, vb31), (2, vb12), (4, vb1), (5, vb32), (7, vb1), (74, vb15), (75, vb1), (76, vb1)], [(2, vb25), (5, vb33), (1000100, vb27)]⟩
def circ_one.c14x0 : Shape := ⟨[(0, vb30), (1, vb31), (2, vb12), (4, vb1), (5, vb32), (7, vb1), (74, vb15), (75, vb1), (76, vb1), (80, vb11)], [(2, vb25), (5, vb33), (1000100, vb27)]⟩
def circ_one.c14r : Ck := Ck.of (T := Bool) circ_one.c14s (fun ρ x_ k_ => circ_one.c14 x_.2.2.1 x_.2.2.2.2.2.2.2.2.2.2.2.2.2.1 k_) (fun ρ x_ r_ k_ => k_ 0 (Shape.inj circ_one.c14x0 (x_.1, x_.2.1, x_.2.2.1, x_.2.2.2.1, x_.2.2.2.2.1, x_.2.2.2.2.2.1, r_, x_.2.2.2.2.2.2)))
def circ_one.c100012 {ρ : Type} (t74 : List (Int)) (t75 : Int) (t76 : Int) (seen : List (Bool)) (t10001000 : Int) (k_ : ((Int) × (List (Bool))) ⊕ (((Int) × (Int) × (List (Bool))) ⊕ ((Int) × (List (Bool)))) → Option ρ) : Option ρ :=
  br (decide (t76 < t75))
   (bnd (idx t74 t76) fun y =>
    bnd (W.circ_one.c14 y t10001000 some) fun y_1 =>
    br y_1
     (k_ (.inr (.inl ((10 : Int), t76, seen))))
     (bnd (okIf (decide ((0 : Ty.den (Ty.int IntKind.i64)) ≤ y) && decide (y < (↑(12 : Nat) : Int)))) fun y_2 =>
      bnd (inR (List.length seen) y) fun y_3 =>
      bnd (idx seen y) fun y_4 =>
      br y_4
       (k_ (.inr (.inl ((12 : Int), t76, seen))))
       (bnd (okIf (decide ((0 : Ty.den (Ty.int IntKind.i64)) ≤ y) && decide (y < (↑(12 : Nat) : Int)))) fun y_5 =>
        bnd (inR (List.length seen) y) fun y_6 =>
        bnd (idx seen y) fun y_7 =>
        k_ (.inl ((IntKind.wrap IntKind.i64 (t76 + (1 : Int))), (List.set seen (Int.toNat y) true))))))
   (k_ (.inr (.inr (t76, seen))))
def circ_one.c100012s : Shape := ⟨[(0, vb30), (1, vb31), (2, vb12), (4, vb1), (5, vb32), (74, vb15), (75, vb1), (76, vb1)], [(2, vb25), (5, vb33), (1000100, vb27)]⟩
def circ_one.c100012x0 : Shape := circ_one.c100012s
def circ_one.c100012x1 : Shape := circ_one.c100012s
def circ_one.c100012r : Ck := Ck.ofLoop (S := (Int) × (List (Bool))) (T := ((Int) × (Int) × (List (Bool))) ⊕ ((Int) × (List (Bool)))) circ_one.c100012s (fun x_ => (x_.2.2.2.2.1, x_.2.2.2.2.2.2.2.2.2.2.2.1)) (fun ρ x_ s_ k_ => circ_one.c100012 x_.2.2.1 x_.2.2.2.1 s_.1 s_.2 x_.2.2.2.2.2.2.2.2.2.2.2.2.1 k_) (fun ρ x_ r_ k_ => sel r_ (fun r_ => k_ 1 (Shape.inj circ_one.c100012x0 (x_.1, r_.1, x_.2.2.1, x_.2.2.2.1, r_.2.1, x_.2.2.2.2.2.1, x_.2.2.2.2.2.2.1, x_.2.2.2.2.2.2.2.1, x_.2.2.2.2.2.2.2.2.1, x_.2.2.2.2.2.2.2.2.2.1, x_.2.2.2.2.2.2.2.2.2.2.1, r_.2.2, x_.2.2.2.2.2.2.2.2.2.2.2.2))) (fun r_ => k_ 2 (Shape.inj circ_one.c100012x1 (x_.1, x_.2.1, x_.2.2.1, x_.2.2.2.1, r_.1, x_.2.2.2.2.2.1, x_.2.2.2.2.2.2.1, x_.2.2.2.2.2.2.2.1, x_.2.2.2.2.2.2.2.2.1, x_.2.2.2.2.2.2.2.2.2.1, x_.2.2.2.2.2.2.2.2.2.2.1, r_.2, x_.2.2.2.2.2.2.2.2.2.2.2.2))))
def circ_one.c20 {ρ : Type} (o0 : Int) (o4 : Int) (t10001001 : Int) (k_ : Bool → Option ρ) : Option ρ :=
  br (o0 == (5 : Int))
   (br (decide (o4 < (0 : Int)))
     (k_ true)
     (br (decide (o4 ≥ t10001001))
       (k_ true)
       (br (o0 != (5 : Int))
         (k_ (o4 != (0 : Int)))
         (k_ false))))
   (br (o0 != (5 : Int))
     (k_ (o4 != (0 : Int)))
     (k_ false))
def circ_one.c20s : Shape := circ_one.c100012s
def circ_one.c20x0 : Shape := ⟨[(0, vb30), (1, vb31), (2, vb12), (4, vb1), (5, vb32), (74, vb15), (75, vb1), (76, vb1), (124, vb11)], [(2, vb25), (5, vb33), (1000100, vb27)]⟩
def circ_one.c20r : Ck := Ck.of (T := Bool) circ_one.c20s (fun ρ x_ k_ => circ_one.c20 x_.2.2.2.2.2.1 x_.2.2.2.2.2.2.2.2.2.1 x_.2.2.2.2.2.2.2.2.2.2.2.2.2.1 k_) (fun ρ x_ r_ k_ => k_ 0 (Shape.inj circ_one.c20x0 (x_.1, x_.2.1, x_.2.2.1, x_.2.2.2.1, x_.2.2.2.2.1, r_, x_.2.2.2.2.2)))
def circ_one.c27 {ρ : Type} (v : Int) (t10001001 : Int) (k_ : Bool → Option ρ) : Option ρ :=
  br (v == (0 : Int))
   (k_ true)
   (br (decide (v > t10001001))
     (k_ true)
     (k_ (decide (v < IntKind.wrap IntKind.i64 ((0 : Int) - t10001001)))))
def circ_one.c27s : Shape := ⟨[(0, vb30), (1, vb31), (2, vb12), (4, vb1), (5, vb32), (9, vb1), (74, vb15), (75, vb1), (76, vb1), (130, vb15), (131, vb1), (132, vb1)], [(2, vb25), (5, vb33), (1000100, vb27)]⟩
def circ_one.c27x0 : Shape := ⟨[(0, vb30), (1, vb31), (2, vb12), (4, vb1), (5, vb32), (9, vb1), (74, vb15), (75, vb1), (76, vb1), (130, vb15), (131, vb1), (132, vb1), (154, vb11)], [(2, vb25), (5, vb33), (1000100, vb27)]⟩
def circ_one.c27r : Ck := Ck.of (T := Bool) circ_one.c27s (fun ρ x_ k_ => circ_one.c27 x_.2.2.1 x_.2.2.2.2.2.2.2.2.2.2.2.2.2.2.2.2.2.1 k_) (fun ρ x_ r_ k_ => k_ 0 (Shape.inj circ_one.c27x0 (x_.1, x_.2.1, x_.2.2.1, x_.2.2.2.1, x_.2.2.2.2.1, x_.2.2.2.2.2.1, x_.2.2.2.2.2.2.1, x_.2.2.2.2.2.2.2.1, x_.2.2.2.2.2.2.2.2.1, r_, x_.2.2.2.2.2.2.2.2.2)))
def circ_one.c100025 {ρ : Type} (t130 : List (Int)) (t131 : Int) (t132 : Int) (t10001001 : Int) (k_ : (Int) ⊕ ((Int) ⊕ (Int)) → Option ρ) : Option ρ :=
  br (decide (t132 < t131))
   (bnd (idx t130 t132) fun y =>
    bnd (W.circ_one.c27 y t10001001 some) fun y_1 =>
    br y_1
     (k_ (.inr (.inl t132)))
     (k_ (.inl (IntKind.wrap IntKind.i64 (t132 + (1 : Int))))))
   (k_ (.inr (.inr t132)))
def circ_one.c100025s : Shape := ⟨[(0, vb30), (1, vb31), (2, vb12), (4, vb1), (5, vb32), (74, vb15), (75, vb1), (76, vb1), (130, vb15), (131, vb1), (132, vb1)], [(2, vb25), (5, vb33), (1000100, vb27)]⟩
def circ_one.c100025x0 : Shape := circ_one.c100025s
def circ_one.c100025x1 : Shape := circ_one.c100025s
def circ_one.c100025r : Ck := Ck.ofLoop (S := Int) (T := (Int) ⊕ (Int)) circ_one.c100025s (fun x_ => x_.2.2.2.2.2.2.2.1) (fun ρ x_ s_ k_ => circ_one.c100025 x_.2.2.2.2.2.1 x_.2.2.2.2.2.2.1 s_ x_.2.2.2.2.2.2.2.2.2.2.2.2.2.2.2.2.1 k_) (fun ρ x_ r_ k_ => sel r_ (fun r_ => k_ 1 (Shape.inj circ_one.c100025x0 (x_.1, (14 : Int), x_.2.2.1, x_.2.2.2.1, x_.2.2.2.2.1, x_.2.2.2.2.2.1, x_.2.2.2.2.2.2.1, r_, x_.2.2.2.2.2.2.2.2))) (fun r_ => k_ 5 (Shape.inj circ_one.c100025x1 (x_.1, x_.2.1, x_.2.2.1, x_.2.2.2.1, x_.2.2.2.2.1, x_.2.2.2.2.2.1, x_.2.2.2.2.2.2.1, r_, x_.2.2.2.2.2.2.2.2))))
def circ_one (o : (Int) × ((Int) × ((List Int) × ((Int) × ((Int) × (List Int)))))) (t10001000 : Int) (t10001001 : Int) (t10001002 : List ((Int) × ((Int) × ((List Int) × ((Int) × ((Int) × (List Int))))))) : Option ((Int) × (Int) × (Int) × (List ((Int) × ((Int) × ((List Int) × ((Int) × ((Int) × (List Int))))))) × Unit) :=
  bnd (W.circ_one.c1 (Prod.fst o) some) fun y =>
  br y
   (some ((8 : Int), t10001000, t10001001, t10001002, ()))
   (bnd (W.circ_one.c3 (Prod.fst o) (Prod.fst (Prod.snd o)) some) fun y_1 =>
    br y_1
     (some ((9 : Int), t10001000, t10001001, t10001002, ()))
     (bnd (W.circ_one.c5 (Prod.fst o) (Prod.fst (Prod.snd (Prod.snd (Prod.snd o)))) t10001000 some) fun y_2 =>
      br y_2
       (some ((10 : Int), t10001000, t10001001, t10001002, ()))
       (bnd (W.circ_one.c7 (Prod.fst o) (Prod.fst (Prod.snd (Prod.snd o))) some) fun y_3 =>
        br y_3
         (some ((11 : Int), t10001000, t10001001, t10001002, ()))
         (bnd (okIf (decide ((0 : Ty.den (Ty.int IntKind.i64)) ≤ Prod.fst (Prod.snd (Prod.snd (Prod.snd o)))) && decide (Prod.fst (Prod.snd (Prod.snd (Prod.snd o))) < (↑(12 : Nat) : Int)))) fun y_4 =>
          bnd (inR (List.length (List.replicate (12 : Nat) false)) (Prod.fst (Prod.snd (Prod.snd (Prod.snd o))))) fun y_5 =>
          bnd (idx (List.replicate (12 : Nat) false) (Prod.fst (Prod.snd (Prod.snd (Prod.snd o))))) fun y_6 =>
          bnd (iter (fun s ↦ W.circ_one.c100012 (Prod.fst (Prod.snd (Prod.snd o))) (↑(List.length (Prod.fst (Prod.snd (Prod.snd o)))) : Int) (Prod.fst s) (Prod.snd s) t10001000 some) ((0 : Int), List.set (List.replicate (12 : Nat) false) (Int.toNat (Prod.fst (Prod.snd (Prod.snd (Prod.snd o))))) true)) fun y_7 =>
          sel y_7
           (fun u => some (Prod.fst u, t10001000, t10001001, t10001002, ()))
           (fun v => bnd (W.circ_one.c20 (Prod.fst o) (Prod.fst (Prod.snd (Prod.snd (Prod.snd (Prod.snd o))))) t10001001 some) fun y_8 =>
            br y_8
             (some ((13 : Int), t10001000, t10001001, t10001002, ()))
             (br (decide ((↑(List.length (Prod.snd (Prod.snd (Prod.snd (Prod.snd (Prod.snd o)))))) : Int) > (24 : Int)))
               (some ((14 : Int), t10001000, t10001001, t10001002, ()))
               (bnd (iter (fun s ↦ W.circ_one.c100025 (Prod.snd (Prod.snd (Prod.snd (Prod.snd (Prod.snd o))))) (↑(List.length (Prod.snd (Prod.snd (Prod.snd (Prod.snd (Prod.snd o)))))) : Int) s t10001001 some) (0 : Int)) fun y_9 =>
                sel y_9
                 (fun u_1 => some ((14 : Int), t10001000, t10001001, t10001002, ()))
                 (fun v_1 => some ((0 : Int), t10001000, t10001001, t10001002, ())))))))))
def circ_one.mc : MCallee := ⟨68, circ_one.pre, circ_one.post, fun x_ => circ_one x_.1 x_.2.1 x_.2.2.1 x_.2.2.2.1⟩
def circ_one.G : Env := ⟨156, tab, [(73, circ_turns.ce), (74, circ_gate.ce)], [0, 1, 2, 4, 5, 7, 9, 17, 36, 58, 68, 74, 75, 76, 77, 80, 91, 124, 128, 130, 131, 132, 133, 154], [5, 69], [(20, [⟨[], [], [], []⟩, ⟨[0], [], [], []⟩, ⟨[1, 0], [], [], []⟩, ⟨[2, 1, 0], [], [], []⟩, ⟨[3, 2, 1, 0], [], [], []⟩, ⟨[4, 3, 2, 1, 0], [], [], []⟩, ⟨[5, 4, 3, 2, 1, 0], [], [], []⟩, ⟨[6, 5, 4, 3, 2, 1, 0], [], [], []⟩, ⟨[7, 6, 5, 4, 3, 2, 1, 0], [], [108, 109, 110, 111], []⟩, ⟨[8, 7, 6, 5, 4, 3, 2, 1, 0], [], [108, 109, 110, 111], []⟩, ⟨[7, 6, 5, 4, 3, 2, 1, 0], [], [106, 107], []⟩, ⟨[10, 7, 6, 5, 4, 3, 2, 1, 0], [], [106, 107], []⟩, ⟨[11, 10, 7, 6, 5, 4, 3, 2, 1, 0], [], [106, 107], []⟩, ⟨[12, 11, 10, 7, 6, 5, 4, 3, 2, 1, 0], [], [106, 107], []⟩, ⟨[9, 8, 7, 6, 5, 4, 3, 2, 1, 0, 13, 12, 11, 10], [], [], []⟩, ⟨[7, 6, 5, 4, 3, 2, 1, 0, 14, 9, 8, 13, 12, 11, 10], [], [], []⟩, ⟨[3, 2, 1, 0, 15, 7, 6, 5, 4, 14, 9, 8, 13, 12, 11, 10], [], [], []⟩, ⟨[16, 3, 2, 1, 0, 15, 7, 6, 5, 4, 14, 9, 8, 13, 12, 11, 10], [], [], []⟩, ⟨[17, 16, 3, 2, 1, 0, 15, 7, 6, 5, 4, 14, 9, 8, 13, 12, 11, 10], [], [], []⟩, ⟨[18, 17, 16, 3, 2, 1, 0, 15, 7, 6, 5, 4, 14, 9, 8, 13, 12, 11, 10], [], [], []⟩, ⟨[19, 18, 17, 16, 3, 2, 1, 0, 15, 7, 6, 5, 4, 14, 9, 8, 13, 12, 11, 10], [], [], []⟩, ⟨[20, 19, 18, 17, 16, 3, 2, 1, 0, 15, 7, 6, 5, 4, 14, 9, 8, 13, 12, 11, 10], [], [], []⟩, ⟨[21, 20, 19, 18, 17, 16, 3, 2, 1, 0, 15, 7, 6, 5, 4, 14, 9, 8, 13, 12, 11, 10], [], [], []⟩, ⟨[22, 21, 20, 19, 18, 17, 16, 3, 2, 1, 0, 15, 7, 6, 5, 4, 14, 9, 8, 13, 12, 11, 10], [], [], []⟩, ⟨[23, 22, 21, 20, 19, 18, 17, 16, 3, 2, 1, 0, 15, 7, 6, 5, 4, 14, 9, 8, 13, 12, 11, 10], [], [], []⟩, ⟨[21, 20, 19, 18, 17, 16, 3, 2, 1, 0, 15, 7, 6, 5, 4, 14, 9, 8, 13, 12, 11, 10, 24, 23, 22], [], [], []⟩, ⟨[17, 16, 3, 2, 1, 0, 15, 7, 6, 5, 4, 14, 9, 8, 13, 12, 11, 10, 25, 21, 20, 19, 18, 24, 23, 22], [], [], []⟩]),
  (5, [⟨[], [], [], []⟩, ⟨[0], [], [], []⟩, ⟨[1, 0], [], [], []⟩, ⟨[2, 1, 0], [], [], []⟩, ⟨[3, 2, 1, 0], [], [43, 44, 45, 46], []⟩, ⟨[4, 3, 2, 1, 0], [], [43, 44, 45, 46], []⟩, ⟨[3, 2, 1, 0], [], [41, 42], []⟩, ⟨[6, 3, 2, 1, 0], [], [41, 42], []⟩, ⟨[7, 6, 3, 2, 1, 0], [], [41, 42], []⟩, ⟨[8, 7, 6, 3, 2, 1, 0], [], [41, 42], []⟩, ⟨[5, 4, 3, 2, 1, 0, 9, 8, 7, 6], [], [], []⟩, ⟨[3, 2, 1, 0, 10, 5, 4, 9, 8, 7, 6], [], [], []⟩, ⟨[11, 3, 2, 1, 0, 10, 5, 4, 9, 8, 7, 6], [], [], []⟩, ⟨[12, 11, 3, 2, 1, 0, 10, 5, 4, 9, 8, 7, 6], [], [], []⟩, ⟨[13, 12, 11, 3, 2, 1, 0, 10, 5, 4, 9, 8, 7, 6], [], [], []⟩, ⟨[14, 13, 12, 11, 3, 2, 1, 0, 10, 5, 4, 9, 8, 7, 6], [], [], []⟩, ⟨[15, 14, 13, 12, 11, 3, 2, 1, 0, 10, 5, 4, 9, 8, 7, 6], [], [], []⟩, ⟨[16, 15, 14, 13, 12, 11, 3, 2, 1, 0, 10, 5, 4, 9, 8, 7, 6], [], [], []⟩, ⟨[17, 16, 15, 14, 13, 12, 11, 3, 2, 1, 0, 10, 5, 4, 9, 8, 7, 6], [], [], []⟩, ⟨[18, 17, 16, 15, 14, 13, 12, 11, 3, 2, 1, 0, 10, 5, 4, 9, 8, 7, 6], [], [], []⟩, ⟨[16, 15, 14, 13, 12, 11, 3, 2, 1, 0, 10, 5, 4, 9, 8, 7, 6, 19, 18, 17], [], [], []⟩, ⟨[12, 11, 3, 2, 1, 0, 10, 5, 4, 9, 8, 7, 6, 20, 16, 15, 14, 13, 19, 18, 17], [], [], []⟩])], [(100025, circ_one.c100025r), (27, circ_one.c27r), (20, circ_one.c20r), (100012, circ_one.c100012r), (14, circ_one.c14r), (7, circ_one.c7r), (5, circ_one.c5r), (3, circ_one.c3r), (1, circ_one.c1r)], [], tab_eqs⟩
theorem circ_one.eq (x_ : densU circ_one.mc.pre.tys) : denM circ_one.G Tryd.f68 circ_one.mc.pre circ_one.mc.post x_ = circ_one.mc.F x_ := by kernel_rfl
theorem circ_one.p0 : PcA circ_one.G Tryd.f68 0 :=
  region_ok (s := circ_one.c1r) (by kernel_rfl) (by kernel_rfl) (sums_of (sh := circ_one.c1s) (fun ρ x_ k_ => (nat_br nat_leaf nat_leaf)) (fun ρ x_ t k => (by kernel_rfl)) (fun x_ => by kernel_rfl))
theorem circ_one.p1 : PcA circ_one.G Tryd.f68 1 :=
  region_ok (s := circ_one.c3r) (by kernel_rfl) (by kernel_rfl) (sums_of (sh := circ_one.c3s) (fun ρ x_ k_ => (nat_br nat_leaf (nat_br nat_leaf (nat_bnd fun _ => (nat_br nat_leaf nat_leaf))))) (fun ρ x_ t k => (by kernel_rfl)) (fun x_ => by kernel_rfl))
theorem circ_one.p2 : PcA circ_one.G Tryd.f68 2 :=
  region_ok (s := circ_one.c5r) (by kernel_rfl) (by kernel_rfl) (sums_of (sh := circ_one.c5s) (fun ρ x_ k_ => (nat_br nat_leaf (nat_br nat_leaf (nat_br nat_leaf nat_leaf)))) (fun ρ x_ t k => (by kernel_rfl)) (fun x_ => by kernel_rfl))
theorem circ_one.p3 : PcA circ_one.G Tryd.f68 3 :=
  region_ok (s := circ_one.c7r) (by kernel_rfl) (by kernel_rfl) (sums_of (sh := circ_one.c7s) (fun ρ x_ k_ => (nat_br (nat_bnd fun _ => nat_leaf) nat_leaf)) (fun ρ x_ t k => (by kernel_rfl)) (fun x_ => by kernel_rfl))
theorem circ_one.p4 : PcA circ_one.G Tryd.f68 4 :=
  loop_ok (s := circ_one.c100012r) (by kernel_rfl) (by kernel_rfl) (loops_of (sh := circ_one.c100012s) (I := fun x_ s_ => (x_.1, x_.2.1, x_.2.2.1, x_.2.2.2.1, s_.1, x_.2.2.2.2.2.1, x_.2.2.2.2.2.2.1, x_.2.2.2.2.2.2.2.1, x_.2.2.2.2.2.2.2.2.1, x_.2.2.2.2.2.2.2.2.2.1, x_.2.2.2.2.2.2.2.2.2.2.1, s_.2, x_.2.2.2.2.2.2.2.2.2.2.2.2)) (fun x_ => rfl) (fun ρ x_ s_ k_ => (nat_br (nat_bnd fun _ => (nat_bnd fun _ => (nat_br nat_leaf (nat_bnd fun _ => (nat_bnd fun _ => (nat_bnd fun _ => (nat_br nat_leaf (nat_bnd fun _ => (nat_bnd fun _ => (nat_bnd fun _ => nat_leaf)))))))))) nat_leaf)) (fun ρ x_ t k => (nat_sel (fun _ => (by kernel_rfl)) (fun _ => (by kernel_rfl)))) (fun x_ s => by kernel_rfl))
theorem circ_one.p5 : PcA circ_one.G Tryd.f68 5 :=
  region_ok (s := circ_one.c14r) (by kernel_rfl) (by kernel_rfl) (sums_of (sh := circ_one.c14s) (fun ρ x_ k_ => (nat_br nat_leaf nat_leaf)) (fun ρ x_ t k => (by kernel_rfl)) (fun x_ => by kernel_rfl))
theorem circ_one.p6 : PcA circ_one.G Tryd.f68 6 :=
  region_ok (s := circ_one.c20r) (by kernel_rfl) (by kernel_rfl) (sums_of (sh := circ_one.c20s) (fun ρ x_ k_ => (nat_br (nat_br nat_leaf (nat_br nat_leaf (nat_br nat_leaf nat_leaf))) (nat_br nat_leaf nat_leaf))) (fun ρ x_ t k => (by kernel_rfl)) (fun x_ => by kernel_rfl))
theorem circ_one.p7 : PcA circ_one.G Tryd.f68 7 :=
  loop_ok (s := circ_one.c100025r) (by kernel_rfl) (by kernel_rfl) (loops_of (sh := circ_one.c100025s) (I := fun x_ s_ => (x_.1, x_.2.1, x_.2.2.1, x_.2.2.2.1, x_.2.2.2.2.1, x_.2.2.2.2.2.1, x_.2.2.2.2.2.2.1, s_, x_.2.2.2.2.2.2.2.2)) (fun x_ => rfl) (fun ρ x_ s_ k_ => (nat_br (nat_bnd fun _ => (nat_bnd fun _ => (nat_br nat_leaf nat_leaf))) nat_leaf)) (fun ρ x_ t k => (nat_sel (fun _ => (by kernel_rfl)) (fun _ => (by kernel_rfl)))) (fun x_ s => by kernel_rfl))
theorem circ_one.p8 : PcA circ_one.G Tryd.f68 8 :=
  region_ok (s := circ_one.c27r) (by kernel_rfl) (by kernel_rfl) (sums_of (sh := circ_one.c27s) (fun ρ x_ k_ => (nat_br nat_leaf (nat_br nat_leaf nat_leaf))) (fun ρ x_ t k => (by kernel_rfl)) (fun x_ => by kernel_rfl))
theorem circ_one.ok : MOk Tryd.prog 68 circ_one.mc := fnm_ok (G := circ_one.G) tab_ok mixed Tryd.func68 ⟨(fns_cons circ_turns.ok (fns_cons circ_gate.ok fns_nil)), mfns_nil, tab_eqs_ok⟩ (m := 9) (by kernel_rfl) ⟨⟨⟨⟨⟨⟨⟨⟨⟨trivial, circ_one.p0⟩, circ_one.p1⟩, circ_one.p2⟩, circ_one.p3⟩, circ_one.p4⟩, circ_one.p5⟩, circ_one.p6⟩, circ_one.p7⟩, circ_one.p8⟩ (by kernel_rfl) circ_one.eq
abbrev vb34 : SD := .one (.val (.st (.pair (.int .i64) (.pair (.int .i64) (.sl (.st (.pair (.int .i64) (.pair (.int .i64) (.pair (.sl (.int .i64)) (.pair (.int .i64) (.pair (.int .i64) (.sl (.int .i64)))))))))))))
abbrev vb35 : SD := .one (.val (.sl (.st (.pair (.int .i64) (.pair (.int .i64) (.pair (.sl (.int .i64)) (.pair (.int .i64) (.pair (.int .i64) (.sl (.int .i64))))))))))
def circ_Check.c1 {ρ : Type} (c0 : Int) (k_ : Bool → Option ρ) : Option ρ :=
  br (decide (c0 < (1 : Int)))
   (k_ true)
   (k_ (decide (c0 > (12 : Int))))
def circ_Check.c1s : Shape := ⟨[(0, vb34), (1, vb2), (2, vb12)], [(1, vb27), (2, vb10)]⟩
def circ_Check.c1x0 : Shape := ⟨[(0, vb34), (1, vb2), (2, vb12), (6, vb11)], [(1, vb27), (2, vb10)]⟩
def circ_Check.c1r : Ck := Ck.of (T := Bool) circ_Check.c1s (fun ρ x_ k_ => circ_Check.c1 x_.2.1 k_) (fun ρ x_ r_ k_ => k_ 0 (Shape.inj circ_Check.c1x0 (x_.1, r_, x_.2)))
def circ_Check.c3 {ρ : Type} (c1 : Int) (k_ : Bool → Option ρ) : Option ρ :=
  br (decide (c1 < (0 : Int)))
   (k_ true)
   (k_ (decide (c1 > (12 : Int))))
def circ_Check.c3s : Shape := circ_Check.c1s
def circ_Check.c3x0 : Shape := ⟨[(0, vb34), (1, vb2), (2, vb12), (16, vb11)], [(1, vb27), (2, vb10)]⟩
def circ_Check.c3r : Ck := Ck.of (T := Bool) circ_Check.c3s (fun ρ x_ k_ => circ_Check.c3 x_.2.2.1 k_) (fun ρ x_ r_ k_ => k_ 0 (Shape.inj circ_Check.c3x0 (x_.1, r_, x_.2)))
def circ_Check.c100008 {ρ : Type} (t33 : List ((Int) × ((Int) × ((List Int) × ((Int) × ((Int) × (List Int))))))) (t34 : Int) (t35 : Int) (c0 : Int) (c1 : Int) (c2 : List ((Int) × ((Int) × ((List Int) × ((Int) × ((Int) × (List Int))))))) (k_ : ((Int) × (Int) × (Int) × (List ((Int) × ((Int) × ((List Int) × ((Int) × ((Int) × (List Int)))))))) ⊕ (((Int) × (Int) × (Int) × (List ((Int) × ((Int) × ((List Int) × ((Int) × ((Int) × (List Int))))))) × (Int) × (Int)) ⊕ ((Int) × (Int) × (Int) × (List ((Int) × ((Int) × ((List Int) × ((Int) × ((Int) × (List Int))))))))) → Option ρ) : Option ρ :=
  br (decide (t35 < t34))
   (bnd (idx t33 t35) fun y =>
    bnd (W.circ_one (Prod.fst y, Prod.fst (Prod.snd y), Prod.fst (Prod.snd (Prod.snd y)), Prod.fst (Prod.snd (Prod.snd (Prod.snd y))), Prod.fst (Prod.snd (Prod.snd (Prod.snd (Prod.snd y)))), Prod.snd (Prod.snd (Prod.snd (Prod.snd (Prod.snd y))))) c0 c1 c2) fun y_1 =>
    br (Prod.fst y_1 != (0 : Int))
     (bnd (W.circ_fault (Prod.fst y_1) t35) fun y_2 =>
      k_ (.inr (.inl (t35, (Prod.fst y_1.2), (Prod.fst y_1.2.2), (Prod.fst y_1.2.2.2), (Prod.fst y_2), (Prod.snd y_2)))))
     (k_ (.inl ((IntKind.wrap IntKind.i64 (t35 + (1 : Int))), (Prod.fst y_1.2), (Prod.fst y_1.2.2), (Prod.fst y_1.2.2.2)))))
   (k_ (.inr (.inr (t35, c0, c1, c2))))
def circ_Check.c100008s : Shape := ⟨[(0, vb34), (1, vb2), (2, vb12), (33, vb35), (34, vb1), (35, vb1)], [(1, vb27), (2, vb10)]⟩
def circ_Check.c100008x0 : Shape := circ_Check.c100008s
def circ_Check.c100008x1 : Shape := circ_Check.c100008s
def circ_Check.c100008r : Ck := Ck.ofLoop (S := (Int) × (Int) × (Int) × (List ((Int) × ((Int) × ((List Int) × ((Int) × ((Int) × (List Int)))))))) (T := ((Int) × (Int) × (Int) × (List ((Int) × ((Int) × ((List Int) × ((Int) × ((Int) × (List Int))))))) × (Int) × (Int)) ⊕ ((Int) × (Int) × (Int) × (List ((Int) × ((Int) × ((List Int) × ((Int) × ((Int) × (List Int))))))))) circ_Check.c100008s (fun x_ => (x_.2.2.2.1, x_.2.2.2.2.1, x_.2.2.2.2.2.1, x_.2.2.2.2.2.2.1)) (fun ρ x_ s_ k_ => circ_Check.c100008 x_.2.1 x_.2.2.1 s_.1 s_.2.1 s_.2.2.1 s_.2.2.2 k_) (fun ρ x_ r_ k_ => sel r_ (fun r_ => k_ 1 (Shape.inj circ_Check.c100008x0 (x_.1, x_.2.1, x_.2.2.1, r_.1, r_.2.1, r_.2.2.1, r_.2.2.2.1, r_.2.2.2.2.1, r_.2.2.2.2.2, ()))) (fun r_ => k_ 3 (Shape.inj circ_Check.c100008x1 (x_.1, x_.2.1, x_.2.2.1, r_.1, r_.2.1, r_.2.2.1, r_.2.2.2, x_.2.2.2.2.2.2.2))))
def circ_Check (c : (Int) × ((Int) × (List ((Int) × ((Int) × ((List Int) × ((Int) × ((Int) × (List Int))))))))) : Option ((Int) × (Int)) :=
  bnd (W.circ_Check.c1 (Prod.fst c) some) fun y =>
  br y
   (bnd (W.circ_fault (6 : Int) (0 : Int)) fun y_1 =>
    some (Prod.fst y_1, Prod.snd y_1))
   (bnd (W.circ_Check.c3 (Prod.fst (Prod.snd c)) some) fun y_2 =>
    br y_2
     (bnd (W.circ_fault (7 : Int) (0 : Int)) fun y_3 =>
      some (Prod.fst y_3, Prod.snd y_3))
     (br (decide ((↑(List.length (Prod.snd (Prod.snd c))) : Int) > (4096 : Int)))
       (bnd (W.circ_fault (2 : Int) (0 : Int)) fun y_4 =>
        some (Prod.fst y_4, Prod.snd y_4))
       (bnd (iter (fun s ↦ W.circ_Check.c100008 (Prod.snd (Prod.snd c)) (↑(List.length (Prod.snd (Prod.snd c))) : Int) (Prod.fst s) (Prod.fst (Prod.snd s)) (Prod.fst (Prod.snd (Prod.snd s))) (Prod.snd (Prod.snd (Prod.snd s))) some) ((0 : Int), Prod.fst c, Prod.fst (Prod.snd c), Prod.snd (Prod.snd c))) fun y_5 =>
        sel y_5
         (fun u => some (Prod.fst (Prod.snd (Prod.snd (Prod.snd (Prod.snd u)))), Prod.snd (Prod.snd (Prod.snd (Prod.snd (Prod.snd u))))))
         (fun v => some ((0 : Int), (0 : Int))))))
def circ_Check.ce : Go.Ql.Callee := ⟨[(.st (.pair (.int .i64) (.pair (.int .i64) (.sl (.st (.pair (.int .i64) (.pair (.int .i64) (.pair (.sl (.int .i64)) (.pair (.int .i64) (.pair (.int .i64) (.sl (.int .i64))))))))))))], [(.st (.pair (.int .i64) (.int .i64)))], fun x_ => circ_Check x_⟩
def circ_Check.G : Env := ⟨49, tab, [(67, circ_fault.ce)], [0, 1, 2, 3, 4, 5, 6, 16, 26, 33, 34, 35, 36, 43], [], [], [(100008, circ_Check.c100008r), (3, circ_Check.c3r), (1, circ_Check.c1r)], [(68, circ_one.mc)], tab_eqs⟩
theorem circ_Check.eq (x_ : dens circ_Check.ce.params) : den circ_Check.G Tryd.f51 circ_Check.ce.params circ_Check.ce.res x_ = circ_Check.ce.F x_ := by kernel_rfl
theorem circ_Check.p0 : PcA circ_Check.G Tryd.f51 0 :=
  region_ok (s := circ_Check.c1r) (by kernel_rfl) (by kernel_rfl) (sums_of (sh := circ_Check.c1s) (fun ρ x_ k_ => (nat_br nat_leaf nat_leaf)) (fun ρ x_ t k => (by kernel_rfl)) (fun x_ => by kernel_rfl))
theorem circ_Check.p1 : PcA circ_Check.G Tryd.f51 1 :=
  region_ok (s := circ_Check.c3r) (by kernel_rfl) (by kernel_rfl) (sums_of (sh := circ_Check.c3s) (fun ρ x_ k_ => (nat_br nat_leaf nat_leaf)) (fun ρ x_ t k => (by kernel_rfl)) (fun x_ => by kernel_rfl))
theorem circ_Check.p2 : PcA circ_Check.G Tryd.f51 2 :=
  loop_ok (s := circ_Check.c100008r) (by kernel_rfl) (by kernel_rfl) (loops_of (sh := circ_Check.c100008s) (I := fun x_ s_ => (x_.1, x_.2.1, x_.2.2.1, s_.1, s_.2.1, s_.2.2.1, s_.2.2.2, x_.2.2.2.2.2.2.2)) (fun x_ => rfl) (fun ρ x_ s_ k_ => (nat_br (nat_bnd fun _ => (nat_bnd fun _ => (nat_br (nat_bnd fun _ => nat_leaf) nat_leaf))) nat_leaf)) (fun ρ x_ t k => (nat_sel (fun _ => (by kernel_rfl)) (fun _ => (by kernel_rfl)))) (fun x_ s => by kernel_rfl))
theorem circ_Check.ok : CalleeOk Tryd.prog 51 circ_Check.ce := fn_ok (G := circ_Check.G) tab_ok mixed Tryd.func51 ⟨(fns_cons circ_fault.ok fns_nil), (mfns_cons circ_one.ok mfns_nil), tab_eqs_ok⟩ (m := 3) (by kernel_rfl) ⟨⟨⟨trivial, circ_Check.p0⟩, circ_Check.p1⟩, circ_Check.p2⟩ (by kernel_rfl) circ_Check.eq
def rev_Play.c3 {ρ : Type}  (k_ : Unit → Option ρ) : Option ρ :=
  k_ ()
def rev_Play.c3s : Shape := ⟨[(0, vb34), (1, vb1), (2, vb12), (4, vb1), (5, vb26), (6, vb9)], [(2, vb27), (5, vb10), (6, vb10)]⟩
def rev_Play.c3x0 : Shape := rev_Play.c3s
def rev_Play.c3r : Ck := Ck.of (T := Unit) rev_Play.c3s (fun ρ x_ k_ => rev_Play.c3  k_) (fun ρ x_ r_ k_ => k_ 0 (Shape.inj rev_Play.c3x0 (x_.1, x_.2.1, (0 : Int), x_.2.2.2.1, x_.2.2.2.2.1, x_.2.2.2.2.2.1, x_.2.2.2.2.2.2.2.2.1, x_.2.2.2.2.2.2.2.2.2.1, x_.2.2.2.2.2.2.2.2)))
def rev_Play.c4 {ρ : Type} (t1 : Int) (c0 : Int) (k_ : Bool → Option ρ) : Option ρ :=
  br (decide (t1 < (0 : Int)))
   (k_ true)
   (bnd (okIf (decide ((0 : Int) ≤ c0))) fun y =>
    k_ (decide (t1 ≥ IntKind.wrap IntKind.i64 ((1 : Int) * (2 : Int) ^ Min.min (Int.toNat c0) (64 : Nat)))))
def rev_Play.c4s : Shape := rev_Play.c3s
def rev_Play.c4x0 : Shape := ⟨[(0, vb34), (1, vb1), (2, vb12), (4, vb1), (5, vb26), (6, vb9), (26, vb11)], [(2, vb27), (5, vb10), (6, vb10)]⟩
def rev_Play.c4r : Ck := Ck.of (T := Bool) rev_Play.c4s (fun ρ x_ k_ => rev_Play.c4 x_.2.1 x_.2.2.2.1 k_) (fun ρ x_ r_ k_ => k_ 0 (Shape.inj rev_Play.c4x0 (x_.1, x_.2.1, x_.2.2.1, r_, x_.2.2.2)))
def rev_Play.c9 {ρ : Type} (o0 : Int) (o5 : List (Int)) (k_ : Bool → Option ρ) : Option ρ :=
  br (o0 != (2 : Int))
   (k_ true)
   (k_ (decide ((↑(List.length o5) : Int) > (0 : Int))))
def rev_Play.c9s : Shape := ⟨[(0, vb34), (1, vb1), (2, vb12), (4, vb1), (5, vb26), (6, vb9), (7, vb1), (8, vb24), (29, vb35), (30, vb1), (31, vb1)], [(2, vb27), (5, vb10), (6, vb10), (8, vb25)]⟩
def rev_Play.c9x0 : Shape := ⟨[(0, vb34), (1, vb1), (2, vb12), (4, vb1), (5, vb26), (6, vb9), (7, vb1), (8, vb24), (29, vb35), (30, vb1), (31, vb1), (44, vb11)], [(2, vb27), (5, vb10), (6, vb10), (8, vb25)]⟩
def rev_Play.c9r : Ck := Ck.of (T := Bool) rev_Play.c9s (fun ρ x_ k_ => rev_Play.c9 x_.2.2.2.2.2.2.2.2.2.2.2.2.2.2.1 x_.2.2.2.2.2.2.2.2.2.2.2.2.2.2.2.2.2.2.2.1 k_) (fun ρ x_ r_ k_ => k_ 0 (Shape.inj rev_Play.c9x0 (x_.1, x_.2.1, x_.2.2.1, x_.2.2.2.1, x_.2.2.2.2.1, x_.2.2.2.2.2.1, x_.2.2.2.2.2.2.1, r_, x_.2.2.2.2.2.2.2)))
def rev_Play.c100013 {ρ : Type} (t9 : Int) (t48 : List (Int)) (t49 : Int) (t50 : Int) (k_ : ((Int) × (Int)) ⊕ ((Int) × (Int)) → Option ρ) : Option ρ :=
  br (decide (t50 < t49))
   (bnd (idx t48 t50) fun y =>
    bnd (okIf (decide ((0 : Int) ≤ y))) fun y_1 =>
    k_ (.inl ((ibits BinOp.or IntKind.i64 t9 (IntKind.wrap IntKind.i64 ((1 : Int) * (2 : Int) ^ Min.min (Int.toNat y) (64 : Nat)))), (IntKind.wrap IntKind.i64 (t50 + (1 : Int))))))
   (k_ (.inr (t9, t50)))
def rev_Play.c100013s : Shape := ⟨[(0, vb34), (1, vb1), (2, vb12), (4, vb1), (5, vb26), (6, vb9), (7, vb1), (8, vb24), (9, vb1), (29, vb35), (30, vb1), (31, vb1), (48, vb15), (49, vb1), (50, vb1)], [(2, vb27), (5, vb10), (6, vb10), (8, vb25)]⟩
def rev_Play.c100013x0 : Shape := rev_Play.c100013s
def rev_Play.c100013r : Ck := Ck.ofLoop (S := (Int) × (Int)) (T := (Int) × (Int)) rev_Play.c100013s (fun x_ => (x_.2.2.2.2.1, x_.2.2.2.2.2.2.2.2.2.2.1)) (fun ρ x_ s_ k_ => rev_Play.c100013 s_.1 x_.2.2.2.2.2.2.2.2.1 x_.2.2.2.2.2.2.2.2.2.1 s_.2 k_) (fun ρ x_ r_ k_ => k_ 4 (Shape.inj rev_Play.c100013x0 (x_.1, x_.2.1, x_.2.2.1, x_.2.2.2.1, r_.1, x_.2.2.2.2.2.1, x_.2.2.2.2.2.2.1, x_.2.2.2.2.2.2.2.1, x_.2.2.2.2.2.2.2.2.1, x_.2.2.2.2.2.2.2.2.2.1, r_.2, x_.2.2.2.2.2.2.2.2.2.2.2)))
def rev_Play.c232803 {ρ : Type} (t1 : Int) (t29 : List ((Int) × ((Int) × ((List Int) × ((Int) × ((Int) × (List Int))))))) (t31 : Int) (k_ : ((Int) × (Int)) ⊕ (Int) → Option ρ) : Option ρ :=
  bnd (idx t29 t31) fun y =>
  bnd (W.rev_Play.c9 (Prod.fst y) (Prod.snd (Prod.snd (Prod.snd (Prod.snd (Prod.snd y))))) some) fun y_1 =>
  br y_1
   (bnd (W.rev_fault (8 : Int) t31) fun y_2 =>
    k_ (.inl ((Prod.fst y_2), (Prod.snd y_2))))
   (bnd (iter (fun s ↦ W.rev_Play.c100013 (Prod.fst s) (Prod.fst (Prod.snd (Prod.snd y))) (↑(List.length (Prod.fst (Prod.snd (Prod.snd y)))) : Int) (Prod.snd s) some) ((0 : Int), (0 : Int))) fun y_3 =>
    br (ibits BinOp.and IntKind.i64 t1 (Prod.fst y_3) == Prod.fst y_3)
     (bnd (okIf (decide ((0 : Int) ≤ Prod.fst (Prod.snd (Prod.snd (Prod.snd y)))))) fun y_4 =>
      k_ (.inr (ibits BinOp.xor IntKind.i64 t1 (IntKind.wrap IntKind.i64 ((1 : Int) * (2 : Int) ^ Min.min (Int.toNat (Prod.fst (Prod.snd (Prod.snd (Prod.snd y))))) (64 : Nat))))))
     (k_ (.inr t1)))
def rev_Play.c232803s : Shape := ⟨[(0, vb34), (1, vb1), (2, vb12), (4, vb1), (5, vb26), (6, vb9), (29, vb35), (30, vb1), (31, vb1)], [(2, vb27), (5, vb10), (6, vb10)]⟩
def rev_Play.c232803x0 : Shape := rev_Play.c232803s
def rev_Play.c232803x1 : Shape := rev_Play.c232803s
def rev_Play.c232803r : Ck := Ck.of (T := ((Int) × (Int)) ⊕ (Int)) rev_Play.c232803s (fun ρ x_ k_ => rev_Play.c232803 x_.2.1 x_.2.2.2.1 x_.2.2.2.2.2.1 k_) (fun ρ x_ r_ k_ => sel r_ (fun r_ => k_ 1 (Shape.inj rev_Play.c232803x0 (x_.1, x_.2.1, (0 : Int), x_.2.2.2.1, x_.2.2.2.2.1, x_.2.2.2.2.2.1, x_.2.2.2.2.2.2.1, x_.2.2.2.2.2.2.2.1, x_.2.2.2.2.2.2.2.2.1, r_.1, r_.2, x_.2.2.2.2.2.2.2.2.2.2.2))) (fun r_ => k_ 0 (Shape.inj rev_Play.c232803x1 (x_.1, r_, x_.2.2))))
def rev_Play.c100007 {ρ : Type} (t1 : Int) (t29 : List ((Int) × ((Int) × ((List Int) × ((Int) × ((Int) × (List Int))))))) (t30 : Int) (t31 : Int) (k_ : ((Int) × (Int)) ⊕ (((Int) × (Int) × (Int) × (Int)) ⊕ ((Int) × (Int))) → Option ρ) : Option ρ :=
  br (decide (t31 < t30))
   (bnd (W.rev_Play.c232803 t1 t29 t31 some) fun y =>
    sel y
     (fun u => k_ (.inr (.inl (t1, t31, (Prod.fst u), (Prod.snd u)))))
     (fun v => k_ (.inl (v, (IntKind.wrap IntKind.i64 (t31 + (1 : Int)))))))
   (k_ (.inr (.inr (t1, t31))))
def rev_Play.c100007s : Shape := rev_Play.c232803s
def rev_Play.c100007x0 : Shape := rev_Play.c232803s
def rev_Play.c100007x1 : Shape := rev_Play.c232803s
def rev_Play.c100007r : Ck := Ck.ofLoop (S := (Int) × (Int)) (T := ((Int) × (Int) × (Int) × (Int)) ⊕ ((Int) × (Int))) rev_Play.c100007s (fun x_ => (x_.2.1, x_.2.2.2.2.2.1)) (fun ρ x_ s_ k_ => rev_Play.c100007 s_.1 x_.2.2.2.1 x_.2.2.2.2.1 s_.2 k_) (fun ρ x_ r_ k_ => sel r_ (fun r_ => k_ 1 (Shape.inj rev_Play.c100007x0 (x_.1, r_.1, (0 : Int), x_.2.2.2.1, x_.2.2.2.2.1, r_.2.1, x_.2.2.2.2.2.2.1, x_.2.2.2.2.2.2.2.1, x_.2.2.2.2.2.2.2.2.1, r_.2.2.1, r_.2.2.2, x_.2.2.2.2.2.2.2.2.2.2.2))) (fun r_ => k_ 2 (Shape.inj rev_Play.c100007x1 (x_.1, r_.1, x_.2.2.1, x_.2.2.2.1, x_.2.2.2.2.1, r_.2, x_.2.2.2.2.2.2))))
def rev_Play (c : (Int) × ((Int) × (List ((Int) × ((Int) × ((List Int) × ((Int) × ((Int) × (List Int))))))))) (t1 : Int) : Option ((Int) × ((Int) × (Int))) :=
  bnd (W.circ_Check (Prod.fst c, Prod.fst (Prod.snd c), Prod.snd (Prod.snd c))) fun y =>
  br (Prod.fst y != (0 : Int))
   (bnd (W.rev_Play.c3 some) fun y_1 =>
    some ((0 : Int), Prod.fst y, Prod.snd y))
   (bnd (W.rev_Play.c4 t1 (Prod.fst c) some) fun y_2 =>
    br y_2
     (bnd (W.rev_fault (18 : Int) (0 : Int)) fun y_3 =>
      some ((0 : Int), Prod.fst y_3, Prod.snd y_3))
     (bnd (iter (fun s ↦ W.rev_Play.c100007 (Prod.fst s) (Prod.snd (Prod.snd c)) (↑(List.length (Prod.snd (Prod.snd c))) : Int) (Prod.snd s) some) (t1, (0 : Int))) fun y_4 =>
      sel y_4
       (fun u => some ((0 : Int), Prod.fst (Prod.snd (Prod.snd u)), Prod.snd (Prod.snd (Prod.snd u))))
       (fun v => some (Prod.fst v, (0 : Int), (0 : Int)))))
def rev_Play.ce : Go.Ql.Callee := ⟨[(.st (.pair (.int .i64) (.pair (.int .i64) (.sl (.st (.pair (.int .i64) (.pair (.int .i64) (.pair (.sl (.int .i64)) (.pair (.int .i64) (.pair (.int .i64) (.sl (.int .i64)))))))))))), (.int .i64)], [(.int .i64), (.st (.pair (.int .i64) (.int .i64)))], fun x_ => rev_Play x_.1 x_.2⟩
def rev_Play.G : Env := ⟨72, tab, [(51, circ_Check.ce), (30, rev_fault.ce)], [0, 1, 2, 4, 5, 6, 7, 8, 9, 11, 16, 26, 29, 30, 31, 32, 44, 48, 49, 50, 51, 63], [], [(3, [⟨[], [], [4], []⟩, ⟨[], [], [17], []⟩, ⟨[0, 1], [5], [], []⟩])], [(100007, rev_Play.c100007r), (232803, rev_Play.c232803r), (100013, rev_Play.c100013r), (9, rev_Play.c9r), (4, rev_Play.c4r), (3, rev_Play.c3r)], [], tab_eqs⟩
theorem rev_Play.eq (x_ : dens rev_Play.ce.params) : den rev_Play.G Tryd.f25 rev_Play.ce.params rev_Play.ce.res x_ = rev_Play.ce.F x_ := by kernel_rfl
theorem rev_Play.p0 : PcA rev_Play.G Tryd.f25 0 :=
  region_ok (s := rev_Play.c3r) (by kernel_rfl) (by kernel_rfl) (sums_of (sh := rev_Play.c3s) (fun ρ x_ k_ => nat_leaf) (fun ρ x_ t k => (by kernel_rfl)) (fun x_ => by kernel_rfl))
theorem rev_Play.p1 : PcA rev_Play.G Tryd.f25 1 :=
  region_ok (s := rev_Play.c4r) (by kernel_rfl) (by kernel_rfl) (sums_of (sh := rev_Play.c4s) (fun ρ x_ k_ => (nat_br nat_leaf (nat_bnd fun _ => nat_leaf))) (fun ρ x_ t k => (by kernel_rfl)) (fun x_ => by kernel_rfl))
theorem rev_Play.p2 : PcA rev_Play.G Tryd.f25 2 :=
  loop_ok (s := rev_Play.c100007r) (by kernel_rfl) (by kernel_rfl) (loops_of (sh := rev_Play.c100007s) (I := fun x_ s_ => (x_.1, s_.1, x_.2.2.1, x_.2.2.2.1, x_.2.2.2.2.1, s_.2, x_.2.2.2.2.2.2)) (fun x_ => rfl) (fun ρ x_ s_ k_ => (nat_br (nat_bnd fun _ => (nat_sel (fun _ => nat_leaf) (fun _ => nat_leaf))) nat_leaf)) (fun ρ x_ t k => (nat_sel (fun _ => (by kernel_rfl)) (fun _ => (by kernel_rfl)))) (fun x_ s => by kernel_rfl))
theorem rev_Play.p3 : PcA rev_Play.G Tryd.f25 3 :=
  join_ok (s := rev_Play.c232803r) (by kernel_rfl) (by kernel_rfl) (sums_of (sh := rev_Play.c232803s) (fun ρ x_ k_ => (nat_bnd fun _ => (nat_bnd fun _ => (nat_br (nat_bnd fun _ => nat_leaf) (nat_bnd fun _ => (nat_br (nat_bnd fun _ => nat_leaf) nat_leaf)))))) (fun ρ x_ t k => (nat_sel (fun _ => (by kernel_rfl)) (fun _ => (by kernel_rfl)))) (fun x_ => by kernel_rfl))
theorem rev_Play.p4 : PcA rev_Play.G Tryd.f25 4 :=
  region_ok (s := rev_Play.c9r) (by kernel_rfl) (by kernel_rfl) (sums_of (sh := rev_Play.c9s) (fun ρ x_ k_ => (nat_br nat_leaf nat_leaf)) (fun ρ x_ t k => (by kernel_rfl)) (fun x_ => by kernel_rfl))
theorem rev_Play.p5 : PcA rev_Play.G Tryd.f25 5 :=
  loop_ok (s := rev_Play.c100013r) (by kernel_rfl) (by kernel_rfl) (loops_of (sh := rev_Play.c100013s) (I := fun x_ s_ => (x_.1, x_.2.1, x_.2.2.1, x_.2.2.2.1, s_.1, x_.2.2.2.2.2.1, x_.2.2.2.2.2.2.1, x_.2.2.2.2.2.2.2.1, x_.2.2.2.2.2.2.2.2.1, x_.2.2.2.2.2.2.2.2.2.1, s_.2, x_.2.2.2.2.2.2.2.2.2.2.2)) (fun x_ => rfl) (fun ρ x_ s_ k_ => (nat_br (nat_bnd fun _ => (nat_bnd fun _ => nat_leaf)) nat_leaf)) (fun ρ x_ t k => (by kernel_rfl)) (fun x_ s => by kernel_rfl))
theorem rev_Play.ok : CalleeOk Tryd.prog 25 rev_Play.ce := fn_ok (G := rev_Play.G) tab_ok mixed Tryd.func25 ⟨(fns_cons circ_Check.ok (fns_cons rev_fault.ok fns_nil)), mfns_nil, tab_eqs_ok⟩ (m := 6) (by kernel_rfl) ⟨⟨⟨⟨⟨⟨trivial, rev_Play.p0⟩, rev_Play.p1⟩, rev_Play.p2⟩, rev_Play.p3⟩, rev_Play.p4⟩, rev_Play.p5⟩ (by kernel_rfl) rev_Play.eq
abbrev vb36 : SD := .one (.val (.ar 256 (.int .u8)))
abbrev vb37 : SD := .one (.aptr 4 0)
abbrev vb38 : SD := .one (.aptr 6 0)
abbrev vb39 : SD := .one (.aptr 7 0)
abbrev vb40 : SO := .arr 0 false 79 (.int .u8)
def rev_table_b.self.pre : Shape := ⟨[(0, vb0), (1, vb1)], []⟩
def rev_table_b.self.post : Shape := ⟨[(0, vb36)], []⟩
class rev_table_b.Self where
  F : densU rev_table_b.self.pre.tys → Option (densU rev_table_b.self.post.tys)
  ok : MOk Tryd.prog 48 ⟨48, rev_table_b.self.pre, rev_table_b.self.post, F⟩
section
variable [rev_table_b.Self]
def rev_table_b.self (x_ : densU rev_table_b.self.pre.tys) : Option (densU rev_table_b.self.post.tys) := rev_table_b.Self.F x_
def rev_table_b.self.mc : MCallee := ⟨48, rev_table_b.self.pre, rev_table_b.self.post, fun x_ => rev_table_b.self x_⟩
theorem rev_table_b.self.ok : MOk Tryd.prog 48 rev_table_b.self.mc := rev_table_b.Self.ok
def rev_table_b.pre : Shape := ⟨[(0, vb0), (1, vb1)], []⟩
def rev_table_b.post : Shape := ⟨[(0, vb36)], []⟩
def rev_table_b.c208197 {ρ : Type} (n : Int) (e2 : List (Rose ((Int) × (Int)))) (a : List (Int)) (k_ : List (Int) → Option ρ) : Option ρ :=
  br (decide ((↑(List.length e2) : Int) > (0 : Int)))
   (bnd (idx e2 (0 : Int)) fun y =>
    bnd (W.rev_table_b.self (y, n, ())) fun y_1 =>
    bnd (okIf (decide (List.length (Prod.fst y_1) = List.length a))) fun y_2 =>
    k_ (Prod.fst y_1))
   (k_ a)
def rev_table_b.c208197s : Shape := ⟨[(0, vb0), (1, vb1), (2, vb12), (4, vb37), (5, vb32), (6, vb38), (7, vb39)], [(2, vb4), (4, vb40), (5, vb40), (6, vb40), (7, vb40)]⟩
def rev_table_b.c208197x0 : Shape := rev_table_b.c208197s
def rev_table_b.c208197r : Ck := Ck.of (T := List (Int)) rev_table_b.c208197s (fun ρ x_ k_ => rev_table_b.c208197 x_.2.1 x_.2.2.2.2.1 x_.2.2.2.2.2.2.2.1 k_) (fun ρ x_ r_ k_ => k_ 0 (Shape.inj rev_table_b.c208197x0 (x_.1, x_.2.1, x_.2.2.1, x_.2.2.2.1, x_.2.2.2.2.1, x_.2.2.2.2.2.1, x_.2.2.2.2.2.2.1, r_, x_.2.2.2.2.2.2.2.2)))
def rev_table_b.c216389 {ρ : Type} (n : Int) (e2 : List (Rose ((Int) × (Int)))) (b : List (Int)) (k_ : List (Int) → Option ρ) : Option ρ :=
  br (decide ((↑(List.length e2) : Int) > (1 : Int)))
   (bnd (idx e2 (1 : Int)) fun y =>
    bnd (W.rev_table_b.self (y, n, ())) fun y_1 =>
    bnd (okIf (decide (List.length (Prod.fst y_1) = List.length b))) fun y_2 =>
    k_ (Prod.fst y_1))
   (k_ b)
def rev_table_b.c216389s : Shape := rev_table_b.c208197s
def rev_table_b.c216389x0 : Shape := rev_table_b.c208197s
def rev_table_b.c216389r : Ck := Ck.of (T := List (Int)) rev_table_b.c216389s (fun ρ x_ k_ => rev_table_b.c216389 x_.2.1 x_.2.2.2.2.1 x_.2.2.2.2.2.2.2.2.1 k_) (fun ρ x_ r_ k_ => k_ 0 (Shape.inj rev_table_b.c216389x0 (x_.1, x_.2.1, x_.2.2.1, x_.2.2.2.1, x_.2.2.2.2.1, x_.2.2.2.2.2.1, x_.2.2.2.2.2.2.1, x_.2.2.2.2.2.2.2.1, r_, ())))
def rev_table_b.c17 {ρ : Type} (x : Int) (out : List (Int)) (a : List (Int)) (b : List (Int)) (k_ : List (Int) → Option ρ) : Option ρ :=
  bnd (okIf (decide ((0 : Ty.den (Ty.int IntKind.i64)) ≤ x) && decide (x < (↑(256 : Nat) : Int)))) fun y =>
  bnd (inR (List.length a) x) fun y_1 =>
  bnd (idx a x) fun y_2 =>
  bnd (okIf (decide ((0 : Ty.den (Ty.int IntKind.i64)) ≤ x) && decide (x < (↑(256 : Nat) : Int)))) fun y_3 =>
  bnd (inR (List.length b) x) fun y_4 =>
  bnd (idx b x) fun y_5 =>
  bnd (okIf (decide ((0 : Ty.den (Ty.int IntKind.i64)) ≤ x) && decide (x < (↑(256 : Nat) : Int)))) fun y_6 =>
  bnd (inR (List.length out) x) fun y_7 =>
  bnd (idx out x) fun y_8 =>
  k_ (List.set out (Int.toNat x) (ibits BinOp.and IntKind.u8 y_2 y_5))
def rev_table_b.c17s : Shape := ⟨[(0, vb0), (1, vb1), (2, vb12), (4, vb37), (5, vb32), (6, vb38), (7, vb39), (8, vb1), (30, vb1), (31, vb1), (35, vb1)], [(2, vb4), (4, vb40), (5, vb40), (6, vb40), (7, vb40)]⟩
def rev_table_b.c17x0 : Shape := rev_table_b.c17s
def rev_table_b.c17r : Ck := Ck.of (T := List (Int)) rev_table_b.c17s (fun ρ x_ k_ => rev_table_b.c17 x_.2.2.1 x_.2.2.2.2.2.2.2.2.2.2.1 x_.2.2.2.2.2.2.2.2.2.2.2.1 x_.2.2.2.2.2.2.2.2.2.2.2.2.1 k_) (fun ρ x_ r_ k_ => k_ 0 (Shape.inj rev_table_b.c17x0 (x_.1, x_.2.1, x_.2.2.1, x_.2.2.2.1, x_.2.2.2.2.1, x_.2.2.2.2.2.1, x_.2.2.2.2.2.2.1, x_.2.2.2.2.2.2.2.1, x_.2.2.2.2.2.2.2.2.1, x_.2.2.2.2.2.2.2.2.2.1, r_, x_.2.2.2.2.2.2.2.2.2.2.2)))
def rev_table_b.c19 {ρ : Type} (x : Int) (out : List (Int)) (a : List (Int)) (b : List (Int)) (k_ : List (Int) → Option ρ) : Option ρ :=
  bnd (okIf (decide ((0 : Ty.den (Ty.int IntKind.i64)) ≤ x) && decide (x < (↑(256 : Nat) : Int)))) fun y =>
  bnd (inR (List.length a) x) fun y_1 =>
  bnd (idx a x) fun y_2 =>
  bnd (okIf (decide ((0 : Ty.den (Ty.int IntKind.i64)) ≤ x) && decide (x < (↑(256 : Nat) : Int)))) fun y_3 =>
  bnd (inR (List.length b) x) fun y_4 =>
  bnd (idx b x) fun y_5 =>
  bnd (okIf (decide ((0 : Ty.den (Ty.int IntKind.i64)) ≤ x) && decide (x < (↑(256 : Nat) : Int)))) fun y_6 =>
  bnd (inR (List.length out) x) fun y_7 =>
  bnd (idx out x) fun y_8 =>
  k_ (List.set out (Int.toNat x) (ibits BinOp.or IntKind.u8 y_2 y_5))
def rev_table_b.c19s : Shape := rev_table_b.c17s
def rev_table_b.c19x0 : Shape := rev_table_b.c17s
def rev_table_b.c19r : Ck := Ck.of (T := List (Int)) rev_table_b.c19s (fun ρ x_ k_ => rev_table_b.c19 x_.2.2.1 x_.2.2.2.2.2.2.2.2.2.2.1 x_.2.2.2.2.2.2.2.2.2.2.2.1 x_.2.2.2.2.2.2.2.2.2.2.2.2.1 k_) (fun ρ x_ r_ k_ => k_ 0 (Shape.inj rev_table_b.c19x0 (x_.1, x_.2.1, x_.2.2.1, x_.2.2.2.1, x_.2.2.2.2.1, x_.2.2.2.2.2.1, x_.2.2.2.2.2.2.1, x_.2.2.2.2.2.2.2.1, x_.2.2.2.2.2.2.2.2.1, x_.2.2.2.2.2.2.2.2.2.1, r_, x_.2.2.2.2.2.2.2.2.2.2.2)))
def rev_table_b.c21 {ρ : Type} (x : Int) (out : List (Int)) (a : List (Int)) (b : List (Int)) (k_ : List (Int) → Option ρ) : Option ρ :=
  bnd (okIf (decide ((0 : Ty.den (Ty.int IntKind.i64)) ≤ x) && decide (x < (↑(256 : Nat) : Int)))) fun y =>
  bnd (inR (List.length a) x) fun y_1 =>
  bnd (idx a x) fun y_2 =>
  bnd (okIf (decide ((0 : Ty.den (Ty.int IntKind.i64)) ≤ x) && decide (x < (↑(256 : Nat) : Int)))) fun y_3 =>
  bnd (inR (List.length b) x) fun y_4 =>
  bnd (idx b x) fun y_5 =>
  bnd (okIf (decide ((0 : Ty.den (Ty.int IntKind.i64)) ≤ x) && decide (x < (↑(256 : Nat) : Int)))) fun y_6 =>
  bnd (inR (List.length out) x) fun y_7 =>
  bnd (idx out x) fun y_8 =>
  k_ (List.set out (Int.toNat x) (ibits BinOp.xor IntKind.u8 y_2 y_5))
def rev_table_b.c21s : Shape := rev_table_b.c17s
def rev_table_b.c21x0 : Shape := rev_table_b.c17s
def rev_table_b.c21r : Ck := Ck.of (T := List (Int)) rev_table_b.c21s (fun ρ x_ k_ => rev_table_b.c21 x_.2.2.1 x_.2.2.2.2.2.2.2.2.2.2.1 x_.2.2.2.2.2.2.2.2.2.2.2.1 x_.2.2.2.2.2.2.2.2.2.2.2.2.1 k_) (fun ρ x_ r_ k_ => k_ 0 (Shape.inj rev_table_b.c21x0 (x_.1, x_.2.1, x_.2.2.1, x_.2.2.2.1, x_.2.2.2.2.1, x_.2.2.2.2.2.1, x_.2.2.2.2.2.2.1, x_.2.2.2.2.2.2.2.1, x_.2.2.2.2.2.2.2.2.1, x_.2.2.2.2.2.2.2.2.2.1, r_, x_.2.2.2.2.2.2.2.2.2.2.2)))
def rev_table_b.c232799 {ρ : Type} (t31 : Int) (e0 : Int) (e1 : Int) (out : List (Int)) (a : List (Int)) (b : List (Int)) (k_ : List (Int) → Option ρ) : Option ρ :=
  br (e0 == (1 : Int))
   (bnd (okIf (decide ((0 : Int) ≤ e1))) fun y =>
    bnd (okIf (decide ((0 : Ty.den (Ty.int IntKind.i64)) ≤ t31) && decide (t31 < (↑(256 : Nat) : Int)))) fun y_1 =>
    bnd (inR (List.length out) t31) fun y_2 =>
    bnd (idx out t31) fun y_3 =>
    k_ (List.set out (Int.toNat t31) (IntKind.wrap IntKind.u8 (ibits BinOp.and IntKind.i64 (Int.fdiv t31 ((2 : Int) ^ Min.min (Int.toNat e1) (64 : Nat))) (1 : Int)))))
   (br (e0 == (2 : Int))
     (bnd (okIf (decide ((0 : Ty.den (Ty.int IntKind.i64)) ≤ t31) && decide (t31 < (↑(256 : Nat) : Int)))) fun y_4 =>
      bnd (inR (List.length out) t31) fun y_5 =>
      bnd (idx out t31) fun y_6 =>
      k_ (List.set out (Int.toNat t31) (1 : Int)))
     (br (e0 == (3 : Int))
       (bnd (okIf (decide ((0 : Ty.den (Ty.int IntKind.i64)) ≤ t31) && decide (t31 < (↑(256 : Nat) : Int)))) fun y_7 =>
        bnd (inR (List.length a) t31) fun y_8 =>
        bnd (idx a t31) fun y_9 =>
        bnd (okIf (decide ((0 : Ty.den (Ty.int IntKind.i64)) ≤ t31) && decide (t31 < (↑(256 : Nat) : Int)))) fun y_10 =>
        bnd (inR (List.length out) t31) fun y_11 =>
        bnd (idx out t31) fun y_12 =>
        k_ (List.set out (Int.toNat t31) (ibits BinOp.xor IntKind.u8 (1 : Int) y_9)))
       (br (e0 == (4 : Int))
         (bnd (W.rev_table_b.c17 t31 out a b some) fun y_13 =>
          k_ y_13)
         (br (e0 == (5 : Int))
           (bnd (W.rev_table_b.c19 t31 out a b some) fun y_14 =>
            k_ y_14)
           (br (e0 == (6 : Int))
             (bnd (W.rev_table_b.c21 t31 out a b some) fun y_15 =>
              k_ y_15)
             (k_ out))))))
def rev_table_b.c232799s : Shape := ⟨[(0, vb0), (1, vb1), (2, vb12), (4, vb37), (5, vb32), (6, vb38), (7, vb39), (30, vb1), (31, vb1)], [(2, vb4), (4, vb40), (5, vb40), (6, vb40), (7, vb40)]⟩
def rev_table_b.c232799x0 : Shape := rev_table_b.c232799s
def rev_table_b.c232799r : Ck := Ck.of (T := List (Int)) rev_table_b.c232799s (fun ρ x_ k_ => rev_table_b.c232799 x_.2.2.2.1 x_.2.2.2.2.1 x_.2.2.2.2.2.1 x_.2.2.2.2.2.2.2.2.1 x_.2.2.2.2.2.2.2.2.2.1 x_.2.2.2.2.2.2.2.2.2.2.1 k_) (fun ρ x_ r_ k_ => k_ 0 (Shape.inj rev_table_b.c232799x0 (x_.1, x_.2.1, x_.2.2.1, x_.2.2.2.1, x_.2.2.2.2.1, x_.2.2.2.2.2.1, x_.2.2.2.2.2.2.1, x_.2.2.2.2.2.2.2.1, r_, x_.2.2.2.2.2.2.2.2.2)))
def rev_table_b.c100007 {ρ : Type} (t30 : Int) (t31 : Int) (e0 : Int) (e1 : Int) (out : List (Int)) (a : List (Int)) (b : List (Int)) (k_ : ((Int) × (List Int)) ⊕ ((Int) × (List Int)) → Option ρ) : Option ρ :=
  br (decide (t31 < t30))
   (bnd (W.rev_table_b.c232799 t31 e0 e1 out a b some) fun y =>
    k_ (.inl ((IntKind.wrap IntKind.i64 (t31 + (1 : Int))), y)))
   (k_ (.inr (t31, out)))
def rev_table_b.c100007s : Shape := rev_table_b.c232799s
def rev_table_b.c100007x0 : Shape := rev_table_b.c232799s
def rev_table_b.c100007r : Ck := Ck.ofLoop (S := (Int) × (List Int)) (T := (Int) × (List Int)) rev_table_b.c100007s (fun x_ => (x_.2.2.2.1, x_.2.2.2.2.2.2.2.2.1)) (fun ρ x_ s_ k_ => rev_table_b.c100007 x_.2.2.1 s_.1 x_.2.2.2.2.1 x_.2.2.2.2.2.1 s_.2 x_.2.2.2.2.2.2.2.2.2.1 x_.2.2.2.2.2.2.2.2.2.2.1 k_) (fun ρ x_ r_ k_ => k_ 2 (Shape.inj rev_table_b.c100007x0 (x_.1, x_.2.1, x_.2.2.1, r_.1, x_.2.2.2.2.1, x_.2.2.2.2.2.1, x_.2.2.2.2.2.2.1, x_.2.2.2.2.2.2.2.1, r_.2, x_.2.2.2.2.2.2.2.2.2)))
def rev_table_b (e : Rose ((Int) × (Int))) (n : Int) : Option ((List Int) × Unit) :=
  bnd (W.rev_table_b.c208197 n (Rose.kids e) (List.replicate (256 : Nat) (0 : Int)) some) fun y =>
  bnd (W.rev_table_b.c216389 n (Rose.kids e) (List.replicate (256 : Nat) (0 : Int)) some) fun y_1 =>
  bnd (okIf (decide ((0 : Int) ≤ n))) fun y_2 =>
  bnd (iter (fun s ↦ W.rev_table_b.c100007 (IntKind.wrap IntKind.i64 ((1 : Int) * (2 : Int) ^ Min.min (Int.toNat n) (64 : Nat))) (Prod.fst s) (Prod.fst (Rose.head e)) (Prod.snd (Rose.head e)) (Prod.snd s) y y_1 some) ((0 : Int), List.replicate (256 : Nat) (0 : Int))) fun y_3 =>
  bnd (okIf (decide (List.length (Prod.snd y_3) = (256 : Nat)))) fun y_4 =>
  bnd (okIf (decide (List.length (Prod.snd y_3) = List.length (List.replicate (256 : Nat) (0 : Int))))) fun y_5 =>
  bnd (okIf (decide (List.length (Prod.snd y_3) = (256 : Nat)))) fun y_6 =>
  some (Prod.snd y_3, ())
def rev_table_b.mc : MCallee := ⟨48, rev_table_b.pre, rev_table_b.post, fun x_ => rev_table_b x_.1 x_.2.1⟩
def rev_table_b.G : Env := ⟨93, tab, [], [0, 1, 2, 4, 5, 6, 7, 8, 12, 22, 30, 31, 32, 35, 36, 46, 50, 58, 69, 80], [4, 5, 6, 7], [(21, [⟨[], [], [83, 84, 85, 86, 87, 88, 89], []⟩, ⟨[], [], [82, 86, 87, 88], []⟩, ⟨[1], [], [82, 86, 87, 88], []⟩, ⟨[2, 1], [], [82, 86, 87, 88], []⟩, ⟨[], [], [82, 83, 84, 85], []⟩, ⟨[4], [], [82, 83, 84, 85], []⟩, ⟨[5, 4], [], [82, 83, 84, 85], []⟩, ⟨[3, 2, 1, 6, 5, 4], [], [82], []⟩, ⟨[0, 1, 2, 3, 4, 5, 6, 7], [], [], []⟩, ⟨[8, 0, 1, 2, 3, 4, 5, 6, 7], [5], [], []⟩]),
  (19, [⟨[], [], [72, 73, 74, 75, 76, 77, 78], []⟩, ⟨[], [], [71, 75, 76, 77], []⟩, ⟨[1], [], [71, 75, 76, 77], []⟩, ⟨[2, 1], [], [71, 75, 76, 77], []⟩, ⟨[], [], [71, 72, 73, 74], []⟩, ⟨[4], [], [71, 72, 73, 74], []⟩, ⟨[5, 4], [], [71, 72, 73, 74], []⟩, ⟨[3, 2, 1, 6, 5, 4], [], [71], []⟩, ⟨[0, 1, 2, 3, 4, 5, 6, 7], [], [], []⟩, ⟨[8, 0, 1, 2, 3, 4, 5, 6, 7], [5], [], []⟩]),
  (17, [⟨[], [], [61, 62, 63, 64, 65, 66, 67], []⟩, ⟨[], [], [60, 64, 65, 66], []⟩, ⟨[1], [], [60, 64, 65, 66], []⟩, ⟨[2, 1], [], [60, 64, 65, 66], []⟩, ⟨[], [], [60, 61, 62, 63], []⟩, ⟨[4], [], [60, 61, 62, 63], []⟩, ⟨[5, 4], [], [60, 61, 62, 63], []⟩, ⟨[3, 2, 1, 6, 5, 4], [], [60], []⟩, ⟨[0, 1, 2, 3, 4, 5, 6, 7], [], [], []⟩, ⟨[8, 0, 1, 2, 3, 4, 5, 6, 7], [5], [], []⟩])], [(100007, rev_table_b.c100007r), (232799, rev_table_b.c232799r), (21, rev_table_b.c21r), (19, rev_table_b.c19r), (17, rev_table_b.c17r), (216389, rev_table_b.c216389r), (208197, rev_table_b.c208197r)], [(48, rev_table_b.self.mc)], tab_eqs⟩
theorem rev_table_b.eq (x_ : densU rev_table_b.mc.pre.tys) : denM rev_table_b.G Tryd.f48 rev_table_b.mc.pre rev_table_b.mc.post x_ = rev_table_b.mc.F x_ := by kernel_rfl
theorem rev_table_b.p0 : PcA rev_table_b.G Tryd.f48 0 :=
  join_ok (s := rev_table_b.c208197r) (by kernel_rfl) (by kernel_rfl) (sums_of (sh := rev_table_b.c208197s) (fun ρ x_ k_ => (nat_br (nat_bnd fun _ => (nat_bnd fun _ => (nat_bnd fun _ => nat_leaf))) nat_leaf)) (fun ρ x_ t k => (by kernel_rfl)) (fun x_ => by kernel_rfl))
theorem rev_table_b.p1 : PcA rev_table_b.G Tryd.f48 1 :=
  join_ok (s := rev_table_b.c216389r) (by kernel_rfl) (by kernel_rfl) (sums_of (sh := rev_table_b.c216389s) (fun ρ x_ k_ => (nat_br (nat_bnd fun _ => (nat_bnd fun _ => (nat_bnd fun _ => nat_leaf))) nat_leaf)) (fun ρ x_ t k => (by kernel_rfl)) (fun x_ => by kernel_rfl))
theorem rev_table_b.p2 : PcA rev_table_b.G Tryd.f48 2 :=
  loop_ok (s := rev_table_b.c100007r) (by kernel_rfl) (by kernel_rfl) (loops_of (sh := rev_table_b.c100007s) (I := fun x_ s_ => (x_.1, x_.2.1, x_.2.2.1, s_.1, x_.2.2.2.2.1, x_.2.2.2.2.2.1, x_.2.2.2.2.2.2.1, x_.2.2.2.2.2.2.2.1, s_.2, x_.2.2.2.2.2.2.2.2.2)) (fun x_ => rfl) (fun ρ x_ s_ k_ => (nat_br (nat_bnd fun _ => nat_leaf) nat_leaf)) (fun ρ x_ t k => (by kernel_rfl)) (fun x_ s => by kernel_rfl))
theorem rev_table_b.p3 : PcA rev_table_b.G Tryd.f48 3 :=
  join_ok (s := rev_table_b.c232799r) (by kernel_rfl) (by kernel_rfl) (sums_of (sh := rev_table_b.c232799s) (fun ρ x_ k_ => (nat_br (nat_bnd fun _ => (nat_bnd fun _ => (nat_bnd fun _ => (nat_bnd fun _ => nat_leaf)))) (nat_br (nat_bnd fun _ => (nat_bnd fun _ => (nat_bnd fun _ => nat_leaf))) (nat_br (nat_bnd fun _ => (nat_bnd fun _ => (nat_bnd fun _ => (nat_bnd fun _ => (nat_bnd fun _ => (nat_bnd fun _ => nat_leaf)))))) (nat_br (nat_bnd fun _ => nat_leaf) (nat_br (nat_bnd fun _ => nat_leaf) (nat_br (nat_bnd fun _ => nat_leaf) nat_leaf))))))) (fun ρ x_ t k => (by kernel_rfl)) (fun x_ => by kernel_rfl))
theorem rev_table_b.p4 : PcA rev_table_b.G Tryd.f48 4 :=
  region_ok (s := rev_table_b.c17r) (by kernel_rfl) (by kernel_rfl) (sums_of (sh := rev_table_b.c17s) (fun ρ x_ k_ => (nat_bnd fun _ => (nat_bnd fun _ => (nat_bnd fun _ => (nat_bnd fun _ => (nat_bnd fun _ => (nat_bnd fun _ => (nat_bnd fun _ => (nat_bnd fun _ => (nat_bnd fun _ => nat_leaf)))))))))) (fun ρ x_ t k => (by kernel_rfl)) (fun x_ => by kernel_rfl))
theorem rev_table_b.p5 : PcA rev_table_b.G Tryd.f48 5 :=
  region_ok (s := rev_table_b.c19r) (by kernel_rfl) (by kernel_rfl) (sums_of (sh := rev_table_b.c19s) (fun ρ x_ k_ => (nat_bnd fun _ => (nat_bnd fun _ => (nat_bnd fun _ => (nat_bnd fun _ => (nat_bnd fun _ => (nat_bnd fun _ => (nat_bnd fun _ => (nat_bnd fun _ => (nat_bnd fun _ => nat_leaf)))))))))) (fun ρ x_ t k => (by kernel_rfl)) (fun x_ => by kernel_rfl))
theorem rev_table_b.p6 : PcA rev_table_b.G Tryd.f48 6 :=
  region_ok (s := rev_table_b.c21r) (by kernel_rfl) (by kernel_rfl) (sums_of (sh := rev_table_b.c21s) (fun ρ x_ k_ => (nat_bnd fun _ => (nat_bnd fun _ => (nat_bnd fun _ => (nat_bnd fun _ => (nat_bnd fun _ => (nat_bnd fun _ => (nat_bnd fun _ => (nat_bnd fun _ => (nat_bnd fun _ => nat_leaf)))))))))) (fun ρ x_ t k => (by kernel_rfl)) (fun x_ => by kernel_rfl))
theorem rev_table_b.ok : MOk Tryd.prog 48 rev_table_b.mc := fnm_ok (G := rev_table_b.G) tab_ok mixed Tryd.func48 ⟨fns_nil, (mfns_cons rev_table_b.self.ok mfns_nil), tab_eqs_ok⟩ (m := 7) (by kernel_rfl) ⟨⟨⟨⟨⟨⟨⟨trivial, rev_table_b.p0⟩, rev_table_b.p1⟩, rev_table_b.p2⟩, rev_table_b.p3⟩, rev_table_b.p4⟩, rev_table_b.p5⟩, rev_table_b.p6⟩ (by kernel_rfl) rev_table_b.eq
end
@[reducible] def rev_table_b.fuel : Nat → rev_table_b.Self
  | 0 => ⟨fun _ => none, ⟨⟨Tryd.f48, Tryd.func48, by kernel_rfl, by kernel_rfl⟩, fun _ _ _ _ _ _ _ hy => by cases hy⟩⟩
  | n + 1 => ⟨fun x_ => (@rev_table_b.mc (rev_table_b.fuel n)).F x_, @rev_table_b.ok (rev_table_b.fuel n)⟩
def rev_table (x_ : densU rev_table_b.self.pre.tys) : Option (densU rev_table_b.self.post.tys) := (rev_table_b.fuel (sizeOf x_.1)).F x_
def rev_table.mc : MCallee := ⟨48, rev_table_b.self.pre, rev_table_b.self.post, fun x_ => rev_table x_⟩
theorem rev_table.ok : MOk Tryd.prog 48 rev_table.mc := mok_diag (F := fun n => (rev_table_b.fuel n).F) (fun n => (rev_table_b.fuel n).ok) (fun x_ => sizeOf x_.1)
abbrev vb41 : SD := .one (.aptr 2 0)
abbrev vb42 : SD := .one (.val (.sl (.sl (.int .i64))))
abbrev vb43 : SD := .one (.own 7 0)
abbrev vb44 : SD := .one (.own 9 0)
abbrev vb45 : SO := .arr 0 false 41 (.sl (.int .i64))
abbrev vb46 : SO := .arr 0 false 3 (.int .i64)
def rev_column_normal.c8 {ρ : Type} (i : Int) (x : Int) (t_1 : List (Int)) (k_ : List (Int) → Option ρ) : Option ρ :=
  bnd (okIf (decide ((0 : Ty.den (Ty.int IntKind.i64)) ≤ x) && decide (x < (↑(256 : Nat) : Int)))) fun y =>
  bnd (inR (List.length t_1) x) fun y_1 =>
  bnd (idx t_1 x) fun y_2 =>
  bnd (okIf (decide ((0 : Int) ≤ i))) fun y_3 =>
  bnd (okIf (decide ((0 : Ty.den (Ty.int IntKind.i64)) ≤ ibits BinOp.xor IntKind.i64 x (IntKind.wrap IntKind.i64 ((1 : Int) * (2 : Int) ^ Min.min (Int.toNat i) (64 : Nat)))) && decide (ibits BinOp.xor IntKind.i64 x (IntKind.wrap IntKind.i64 ((1 : Int) * (2 : Int) ^ Min.min (Int.toNat i) (64 : Nat))) < (↑(256 : Nat) : Int)))) fun y_4 =>
  bnd (inR (List.length t_1) (ibits BinOp.xor IntKind.i64 x (IntKind.wrap IntKind.i64 ((1 : Int) * (2 : Int) ^ Min.min (Int.toNat i) (64 : Nat))))) fun y_5 =>
  bnd (idx t_1 (ibits BinOp.xor IntKind.i64 x (IntKind.wrap IntKind.i64 ((1 : Int) * (2 : Int) ^ Min.min (Int.toNat i) (64 : Nat))))) fun y_6 =>
  bnd (okIf (decide ((0 : Ty.den (Ty.int IntKind.i64)) ≤ x) && decide (x < (↑(256 : Nat) : Int)))) fun y_7 =>
  bnd (inR (List.length t_1) x) fun y_8 =>
  bnd (idx t_1 x) fun y_9 =>
  k_ (List.set t_1 (Int.toNat x) (ibits BinOp.xor IntKind.u8 y_2 y_6))
def rev_column_normal.c8s : Shape := ⟨[(0, vb36), (1, vb1), (2, vb41), (4, vb42), (5, vb1), (6, vb1), (11, vb1), (12, vb1), (16, vb1), (17, vb1)], [(2, vb40)]⟩
def rev_column_normal.c8x0 : Shape := rev_column_normal.c8s
def rev_column_normal.c8r : Ck := Ck.of (T := List (Int)) rev_column_normal.c8s (fun ρ x_ k_ => rev_column_normal.c8 x_.2.2.2.1 x_.2.2.2.2.1 x_.2.2.2.2.2.2.2.2.2.1 k_) (fun ρ x_ r_ k_ => k_ 0 (Shape.inj rev_column_normal.c8x0 (x_.1, x_.2.1, x_.2.2.1, x_.2.2.2.1, x_.2.2.2.2.1, x_.2.2.2.2.2.1, x_.2.2.2.2.2.2.1, x_.2.2.2.2.2.2.2.1, x_.2.2.2.2.2.2.2.2.1, r_, ())))
def rev_column_normal.c224584 {ρ : Type} (i : Int) (t17 : Int) (t_1 : List (Int)) (k_ : List (Int) → Option ρ) : Option ρ :=
  bnd (okIf (decide ((0 : Int) ≤ i))) fun y =>
  br (ibits BinOp.and IntKind.i64 (Int.fdiv t17 ((2 : Int) ^ Min.min (Int.toNat i) (64 : Nat))) (1 : Int) == (1 : Int))
   (bnd (W.rev_column_normal.c8 i t17 t_1 some) fun y_1 =>
    k_ y_1)
   (k_ t_1)
def rev_column_normal.c224584s : Shape := ⟨[(0, vb36), (1, vb1), (2, vb41), (4, vb42), (5, vb1), (11, vb1), (12, vb1), (16, vb1), (17, vb1)], [(2, vb40)]⟩
def rev_column_normal.c224584x0 : Shape := rev_column_normal.c224584s
def rev_column_normal.c224584r : Ck := Ck.of (T := List (Int)) rev_column_normal.c224584s (fun ρ x_ k_ => rev_column_normal.c224584 x_.2.2.2.1 x_.2.2.2.2.2.2.2.1 x_.2.2.2.2.2.2.2.2.1 k_) (fun ρ x_ r_ k_ => k_ 0 (Shape.inj rev_column_normal.c224584x0 (x_.1, x_.2.1, x_.2.2.1, x_.2.2.2.1, x_.2.2.2.2.1, x_.2.2.2.2.2.1, x_.2.2.2.2.2.2.1, x_.2.2.2.2.2.2.2.1, r_, ())))
def rev_column_normal.c100005 {ρ : Type} (i : Int) (t16 : Int) (t17 : Int) (t_1 : List (Int)) (k_ : ((Int) × (List Int)) ⊕ ((Int) × (List Int)) → Option ρ) : Option ρ :=
  br (decide (t17 < t16))
   (bnd (W.rev_column_normal.c224584 i t17 t_1 some) fun y =>
    k_ (.inl ((IntKind.wrap IntKind.i64 (t17 + (1 : Int))), y)))
   (k_ (.inr (t17, t_1)))
def rev_column_normal.c100005s : Shape := rev_column_normal.c224584s
def rev_column_normal.c100005x0 : Shape := rev_column_normal.c224584s
def rev_column_normal.c100005r : Ck := Ck.ofLoop (S := (Int) × (List Int)) (T := (Int) × (List Int)) rev_column_normal.c100005s (fun x_ => (x_.2.2.2.2.2.2.2.1, x_.2.2.2.2.2.2.2.2.1)) (fun ρ x_ s_ k_ => rev_column_normal.c100005 x_.2.2.2.1 x_.2.2.2.2.2.2.1 s_.1 s_.2 k_) (fun ρ x_ r_ k_ => k_ 4 (Shape.inj rev_column_normal.c100005x0 (x_.1, x_.2.1, x_.2.2.1, x_.2.2.2.1, x_.2.2.2.2.1, x_.2.2.2.2.2.1, x_.2.2.2.2.2.2.1, r_.1, r_.2, ())))
def rev_column_normal.c100002 {ρ : Type} (n : Int) (t11 : Int) (t12 : Int) (t_1 : List (Int)) (k_ : ((Int) × (List Int)) ⊕ ((Int) × (List Int)) → Option ρ) : Option ρ :=
  br (decide (t12 < t11))
   (bnd (okIf (decide ((0 : Int) ≤ n))) fun y =>
    bnd (iter (fun s ↦ W.rev_column_normal.c100005 t12 (IntKind.wrap IntKind.i64 ((1 : Int) * (2 : Int) ^ Min.min (Int.toNat n) (64 : Nat))) (Prod.fst s) (Prod.snd s) some) ((0 : Int), t_1)) fun y_1 =>
    k_ (.inl ((IntKind.wrap IntKind.i64 (t12 + (1 : Int))), (Prod.snd y_1))))
   (k_ (.inr (t12, t_1)))
def rev_column_normal.c100002s : Shape := ⟨[(0, vb36), (1, vb1), (2, vb41), (4, vb42), (11, vb1), (12, vb1)], [(2, vb40)]⟩
def rev_column_normal.c100002x0 : Shape := rev_column_normal.c100002s
def rev_column_normal.c100002r : Ck := Ck.ofLoop (S := (Int) × (List Int)) (T := (Int) × (List Int)) rev_column_normal.c100002s (fun x_ => (x_.2.2.2.2.1, x_.2.2.2.2.2.1)) (fun ρ x_ s_ k_ => rev_column_normal.c100002 x_.2.1 x_.2.2.2.1 s_.1 s_.2 k_) (fun ρ x_ r_ k_ => k_ 2 (Shape.inj rev_column_normal.c100002x0 (x_.1, x_.2.1, x_.2.2.1, x_.2.2.2.1, r_.1, r_.2, ())))
def rev_column_normal.c277832 {ρ : Type} (x : Int) (t48 : Int) (m : List (Int)) (k_ : List (Int) → Option ρ) : Option ρ :=
  bnd (okIf (decide ((0 : Int) ≤ t48))) fun y =>
  br (ibits BinOp.and IntKind.i64 (Int.fdiv x ((2 : Int) ^ Min.min (Int.toNat t48) (64 : Nat))) (1 : Int) == (1 : Int))
   (bnd (okIf (decide ((List.length m + (1 : Nat)) * (8 : Nat) ≤ (140737488355328 : Nat)) && decide (List.length m + (1 : Nat) ≤ (140737488355328 : Nat)))) fun y_1 =>
    k_ (m ++ [t48]))
   (k_ m)
def rev_column_normal.c277832s : Shape := ⟨[(0, vb36), (1, vb1), (2, vb41), (4, vb42), (7, vb43), (8, vb1), (9, vb44), (11, vb1), (12, vb1), (39, vb1), (40, vb1), (47, vb1), (48, vb1)], [(2, vb40), (7, vb45), (9, vb46)]⟩
def rev_column_normal.c277832x0 : Shape := rev_column_normal.c277832s
def rev_column_normal.c277832r : Ck := Ck.of (T := List (Int)) rev_column_normal.c277832s (fun ρ x_ k_ => rev_column_normal.c277832 x_.2.2.2.1 x_.2.2.2.2.2.2.2.2.2.1 x_.2.2.2.2.2.2.2.2.2.2.2.2.1 k_) (fun ρ x_ r_ k_ => k_ 0 (Shape.inj rev_column_normal.c277832x0 (x_.1, x_.2.1, x_.2.2.1, x_.2.2.2.1, x_.2.2.2.2.1, x_.2.2.2.2.2.1, x_.2.2.2.2.2.2.1, x_.2.2.2.2.2.2.2.1, x_.2.2.2.2.2.2.2.2.1, x_.2.2.2.2.2.2.2.2.2.1, x_.2.2.2.2.2.2.2.2.2.2.1, x_.2.2.2.2.2.2.2.2.2.2.2.1, r_, ())))
def rev_column_normal.c100018 {ρ : Type} (x : Int) (t47 : Int) (t48 : Int) (m : List (Int)) (k_ : ((Int) × (List Int)) ⊕ ((Int) × (List Int)) → Option ρ) : Option ρ :=
  br (decide (t48 < t47))
   (bnd (W.rev_column_normal.c277832 x t48 m some) fun y =>
    k_ (.inl ((IntKind.wrap IntKind.i64 (t48 + (1 : Int))), y)))
   (k_ (.inr (t48, m)))
def rev_column_normal.c100018s : Shape := rev_column_normal.c277832s
def rev_column_normal.c100018x0 : Shape := rev_column_normal.c277832s
def rev_column_normal.c100018r : Ck := Ck.ofLoop (S := (Int) × (List Int)) (T := (Int) × (List Int)) rev_column_normal.c100018s (fun x_ => (x_.2.2.2.2.2.2.2.2.2.1, x_.2.2.2.2.2.2.2.2.2.2.2.2.1)) (fun ρ x_ s_ k_ => rev_column_normal.c100018 x_.2.2.2.1 x_.2.2.2.2.2.2.2.2.1 s_.1 s_.2 k_) (fun ρ x_ r_ k_ => k_ 8 (Shape.inj rev_column_normal.c100018x0 (x_.1, x_.2.1, x_.2.2.1, x_.2.2.2.1, x_.2.2.2.2.1, x_.2.2.2.2.2.1, x_.2.2.2.2.2.2.1, x_.2.2.2.2.2.2.2.1, x_.2.2.2.2.2.2.2.2.1, r_.1, x_.2.2.2.2.2.2.2.2.2.2.1, x_.2.2.2.2.2.2.2.2.2.2.2.1, r_.2, ())))
def rev_column_normal.c257377 {ρ : Type} (n : Int) (t40 : Int) (t_1 : List (Int)) (out : List (List Int)) (k_ : List (List Int) → Option ρ) : Option ρ :=
  bnd (okIf (decide ((0 : Ty.den (Ty.int IntKind.i64)) ≤ t40) && decide (t40 < (↑(256 : Nat) : Int)))) fun y =>
  bnd (inR (List.length t_1) t40) fun y_1 =>
  bnd (idx t_1 t40) fun y_2 =>
  br (y_2 == (0 : Int))
   (k_ out)
   (bnd (iter (fun s ↦ W.rev_column_normal.c100018 t40 n (Prod.fst s) (Prod.snd s) some) ((0 : Int), [])) fun y_3 =>
    bnd (okIf (decide ((List.length out + (1 : Nat)) * (24 : Nat) ≤ (140737488355328 : Nat)) && decide (List.length out + (1 : Nat) ≤ (140737488355328 : Nat)))) fun y_4 =>
    k_ (out ++ [Prod.snd y_3]))
def rev_column_normal.c257377s : Shape := ⟨[(0, vb36), (1, vb1), (2, vb41), (4, vb42), (7, vb43), (11, vb1), (12, vb1), (39, vb1), (40, vb1)], [(2, vb40), (7, vb45)]⟩
def rev_column_normal.c257377x0 : Shape := rev_column_normal.c257377s
def rev_column_normal.c257377r : Ck := Ck.of (T := List (List Int)) rev_column_normal.c257377s (fun ρ x_ k_ => rev_column_normal.c257377 x_.2.1 x_.2.2.2.2.2.2.1 x_.2.2.2.2.2.2.2.1 x_.2.2.2.2.2.2.2.2.1 k_) (fun ρ x_ r_ k_ => k_ 0 (Shape.inj rev_column_normal.c257377x0 (x_.1, x_.2.1, x_.2.2.1, x_.2.2.2.1, x_.2.2.2.2.1, x_.2.2.2.2.2.1, x_.2.2.2.2.2.2.1, x_.2.2.2.2.2.2.2.1, r_, ())))
def rev_column_normal.c100013 {ρ : Type} (n : Int) (t39 : Int) (t40 : Int) (t_1 : List (Int)) (out : List (List Int)) (k_ : ((Int) × (List (List Int))) ⊕ ((Int) × (List (List Int))) → Option ρ) : Option ρ :=
  br (decide (t40 < t39))
   (bnd (W.rev_column_normal.c257377 n t40 t_1 out some) fun y =>
    k_ (.inl ((IntKind.wrap IntKind.i64 (t40 + (1 : Int))), y)))
   (k_ (.inr (t40, out)))
def rev_column_normal.c100013s : Shape := rev_column_normal.c257377s
def rev_column_normal.c100013x0 : Shape := rev_column_normal.c257377s
def rev_column_normal.c100013r : Ck := Ck.ofLoop (S := (Int) × (List (List Int))) (T := (Int) × (List (List Int))) rev_column_normal.c100013s (fun x_ => (x_.2.2.2.2.2.2.1, x_.2.2.2.2.2.2.2.2.1)) (fun ρ x_ s_ k_ => rev_column_normal.c100013 x_.2.1 x_.2.2.2.2.2.1 s_.1 x_.2.2.2.2.2.2.2.1 s_.2 k_) (fun ρ x_ r_ k_ => k_ 6 (Shape.inj rev_column_normal.c100013x0 (x_.1, x_.2.1, x_.2.2.1, x_.2.2.2.1, x_.2.2.2.2.1, x_.2.2.2.2.2.1, r_.1, x_.2.2.2.2.2.2.2.1, r_.2, ())))
def rev_column_normal (t : List (Int)) (n : Int) : Option (List (List Int)) :=
  bnd (iter (fun s ↦ W.rev_column_normal.c100002 n n (Prod.fst s) (Prod.snd s) some) ((0 : Int), t)) fun y =>
  bnd (okIf (decide ((0 : Int) ≤ n))) fun y_1 =>
  bnd (iter (fun s ↦ W.rev_column_normal.c100013 n (IntKind.wrap IntKind.i64 ((1 : Int) * (2 : Int) ^ Min.min (Int.toNat n) (64 : Nat))) (Prod.fst s) (Prod.snd y) (Prod.snd s) some) ((0 : Int), [])) fun y_2 =>
  bnd (W.slices_SortFunc_int (Prod.snd y_2)) fun y_3 =>
  some (Prod.fst y_3)
def rev_column_normal.ce : Go.Ql.Callee := ⟨[(.ar 256 (.int .u8)), (.int .i64)], [(.sl (.sl (.int .i64)))], fun x_ => rev_column_normal x_.1 x_.2⟩
def rev_column_normal.G : Env := ⟨69, tab, [], [0, 1, 2, 4, 5, 6, 7, 8, 9, 10, 11, 12, 13, 16, 17, 18, 24, 39, 40, 41, 46, 47, 48, 49, 55], [2, 7, 9], [(8, [⟨[], [], [28, 29, 30, 31, 32, 33], []⟩, ⟨[0], [], [28, 29, 30, 31, 32, 33], []⟩, ⟨[1, 0], [], [28, 29, 30, 31, 32, 33], []⟩, ⟨[], [], [25, 26, 27, 29, 30], []⟩, ⟨[], [], [25, 26, 27, 28], []⟩, ⟨[4], [], [25, 26, 27, 28], []⟩, ⟨[3, 5, 4], [], [25, 26, 27], []⟩, ⟨[6, 3, 5, 4], [], [25, 26, 27], []⟩, ⟨[7, 6, 3, 5, 4], [], [25, 26, 27], []⟩, ⟨[2, 1, 0, 8, 7, 6, 3, 5, 4], [], [], []⟩, ⟨[0, 1, 2, 3, 4, 5, 6, 7, 8, 9], [], [], []⟩, ⟨[10, 0, 1, 2, 3, 4, 5, 6, 7, 8, 9], [2], [], []⟩])], [(100013, rev_column_normal.c100013r), (257377, rev_column_normal.c257377r), (100018, rev_column_normal.c100018r), (277832, rev_column_normal.c277832r), (100002, rev_column_normal.c100002r), (100005, rev_column_normal.c100005r), (224584, rev_column_normal.c224584r), (8, rev_column_normal.c8r)], [(62, slices_SortFunc_int.mc)], tab_eqs⟩
theorem rev_column_normal.eq (x_ : dens rev_column_normal.ce.params) : den rev_column_normal.G Tryd.f49 rev_column_normal.ce.params rev_column_normal.ce.res x_ = rev_column_normal.ce.F x_ := by kernel_rfl
theorem rev_column_normal.p0 : PcA rev_column_normal.G Tryd.f49 0 :=
  loop_ok (s := rev_column_normal.c100002r) (by kernel_rfl) (by kernel_rfl) (loops_of (sh := rev_column_normal.c100002s) (I := fun x_ s_ => (x_.1, x_.2.1, x_.2.2.1, x_.2.2.2.1, s_.1, s_.2, ())) (fun x_ => rfl) (fun ρ x_ s_ k_ => (nat_br (nat_bnd fun _ => (nat_bnd fun _ => nat_leaf)) nat_leaf)) (fun ρ x_ t k => (by kernel_rfl)) (fun x_ s => by kernel_rfl))
theorem rev_column_normal.p1 : PcA rev_column_normal.G Tryd.f49 1 :=
  loop_ok (s := rev_column_normal.c100005r) (by kernel_rfl) (by kernel_rfl) (loops_of (sh := rev_column_normal.c100005s) (I := fun x_ s_ => (x_.1, x_.2.1, x_.2.2.1, x_.2.2.2.1, x_.2.2.2.2.1, x_.2.2.2.2.2.1, x_.2.2.2.2.2.2.1, s_.1, s_.2, ())) (fun x_ => rfl) (fun ρ x_ s_ k_ => (nat_br (nat_bnd fun _ => nat_leaf) nat_leaf)) (fun ρ x_ t k => (by kernel_rfl)) (fun x_ s => by kernel_rfl))
theorem rev_column_normal.p2 : PcA rev_column_normal.G Tryd.f49 2 :=
  join_ok (s := rev_column_normal.c224584r) (by kernel_rfl) (by kernel_rfl) (sums_of (sh := rev_column_normal.c224584s) (fun ρ x_ k_ => (nat_bnd fun _ => (nat_br (nat_bnd fun _ => nat_leaf) nat_leaf))) (fun ρ x_ t k => (by kernel_rfl)) (fun x_ => by kernel_rfl))
theorem rev_column_normal.p3 : PcA rev_column_normal.G Tryd.f49 3 :=
  region_ok (s := rev_column_normal.c8r) (by kernel_rfl) (by kernel_rfl) (sums_of (sh := rev_column_normal.c8s) (fun ρ x_ k_ => (nat_bnd fun _ => (nat_bnd fun _ => (nat_bnd fun _ => (nat_bnd fun _ => (nat_bnd fun _ => (nat_bnd fun _ => (nat_bnd fun _ => (nat_bnd fun _ => (nat_bnd fun _ => (nat_bnd fun _ => nat_leaf))))))))))) (fun ρ x_ t k => (by kernel_rfl)) (fun x_ => by kernel_rfl))
theorem rev_column_normal.p4 : PcA rev_column_normal.G Tryd.f49 4 :=
  loop_ok (s := rev_column_normal.c100013r) (by kernel_rfl) (by kernel_rfl) (loops_of (sh := rev_column_normal.c100013s) (I := fun x_ s_ => (x_.1, x_.2.1, x_.2.2.1, x_.2.2.2.1, x_.2.2.2.2.1, x_.2.2.2.2.2.1, s_.1, x_.2.2.2.2.2.2.2.1, s_.2, ())) (fun x_ => rfl) (fun ρ x_ s_ k_ => (nat_br (nat_bnd fun _ => nat_leaf) nat_leaf)) (fun ρ x_ t k => (by kernel_rfl)) (fun x_ s => by kernel_rfl))
theorem rev_column_normal.p5 : PcA rev_column_normal.G Tryd.f49 5 :=
  join_ok (s := rev_column_normal.c257377r) (by kernel_rfl) (by kernel_rfl) (sums_of (sh := rev_column_normal.c257377s) (fun ρ x_ k_ => (nat_bnd fun _ => (nat_bnd fun _ => (nat_bnd fun _ => (nat_br nat_leaf (nat_bnd fun _ => (nat_bnd fun _ => nat_leaf))))))) (fun ρ x_ t k => (by kernel_rfl)) (fun x_ => by kernel_rfl))
theorem rev_column_normal.p6 : PcA rev_column_normal.G Tryd.f49 6 :=
  loop_ok (s := rev_column_normal.c100018r) (by kernel_rfl) (by kernel_rfl) (loops_of (sh := rev_column_normal.c100018s) (I := fun x_ s_ => (x_.1, x_.2.1, x_.2.2.1, x_.2.2.2.1, x_.2.2.2.2.1, x_.2.2.2.2.2.1, x_.2.2.2.2.2.2.1, x_.2.2.2.2.2.2.2.1, x_.2.2.2.2.2.2.2.2.1, s_.1, x_.2.2.2.2.2.2.2.2.2.2.1, x_.2.2.2.2.2.2.2.2.2.2.2.1, s_.2, ())) (fun x_ => rfl) (fun ρ x_ s_ k_ => (nat_br (nat_bnd fun _ => nat_leaf) nat_leaf)) (fun ρ x_ t k => (by kernel_rfl)) (fun x_ s => by kernel_rfl))
theorem rev_column_normal.p7 : PcA rev_column_normal.G Tryd.f49 7 :=
  join_ok (s := rev_column_normal.c277832r) (by kernel_rfl) (by kernel_rfl) (sums_of (sh := rev_column_normal.c277832s) (fun ρ x_ k_ => (nat_bnd fun _ => (nat_br (nat_bnd fun _ => nat_leaf) nat_leaf))) (fun ρ x_ t k => (by kernel_rfl)) (fun x_ => by kernel_rfl))
theorem rev_column_normal.ok : CalleeOk Tryd.prog 49 rev_column_normal.ce := fn_ok (G := rev_column_normal.G) tab_ok mixed Tryd.func49 ⟨fns_nil, (mfns_cons slices_SortFunc_int.ok mfns_nil), tab_eqs_ok⟩ (m := 8) (by kernel_rfl) ⟨⟨⟨⟨⟨⟨⟨⟨trivial, rev_column_normal.p0⟩, rev_column_normal.p1⟩, rev_column_normal.p2⟩, rev_column_normal.p3⟩, rev_column_normal.p4⟩, rev_column_normal.p5⟩, rev_column_normal.p6⟩, rev_column_normal.p7⟩ (by kernel_rfl) rev_column_normal.eq
def rev_Normal.c3 {ρ : Type}  (k_ : Unit → Option ρ) : Option ρ :=
  k_ ()
def rev_Normal.c3s : Shape := ⟨[(0, vb0), (1, vb1), (2, vb12), (4, vb42), (5, vb26), (6, vb9)], [(2, vb4), (5, vb10), (6, vb10)]⟩
def rev_Normal.c3x0 : Shape := rev_Normal.c3s
def rev_Normal.c3r : Ck := Ck.of (T := Unit) rev_Normal.c3s (fun ρ x_ k_ => rev_Normal.c3  k_) (fun ρ x_ r_ k_ => k_ 0 (Shape.inj rev_Normal.c3x0 (x_.1, x_.2.1, [], x_.2.2.2.1, x_.2.2.2.2.1, x_.2.2.2.2.2.1, x_.2.2.2.2.2.2.2.2.1, x_.2.2.2.2.2.2.2.2.2.1, x_.2.2.2.2.2.2.2.2)))
def rev_Normal (e : Rose ((Int) × (Int))) (n : Int) : Option ((List (List Int)) × ((Int) × (Int))) :=
  bnd (W.rev_Check (Rose.mk (Prod.fst (Rose.head e), Prod.snd (Rose.head e)) (Rose.kids e)) n) fun y =>
  br (Prod.fst y != (0 : Int))
   (bnd (W.rev_Normal.c3 some) fun y_1 =>
    some ([], Prod.fst y, Prod.snd y))
   (bnd (W.rev_table (Rose.mk (Prod.fst (Rose.head e), Prod.snd (Rose.head e)) (Rose.kids e), n, ())) fun y_2 =>
    bnd (W.rev_column_normal (Prod.fst y_2) n) fun y_3 =>
    some (y_3, (0 : Int), (0 : Int)))
def rev_Normal.ce : Go.Ql.Callee := ⟨[(.st (.node (.pair (.int .i64) (.int .i64)))), (.int .i64)], [(.sl (.sl (.int .i64))), (.st (.pair (.int .i64) (.int .i64)))], fun x_ => rev_Normal x_.1 x_.2⟩
def rev_Normal.G : Env := ⟨20, tab, [(20, rev_Check.ce), (49, rev_column_normal.ce)], [0, 1, 2, 4, 5, 6, 12], [], [(3, [⟨[], [], [4], [4]⟩, ⟨[], [4], [13], []⟩, ⟨[0, 1], [5], [], []⟩])], [(3, rev_Normal.c3r)], [(48, rev_table.mc)], tab_eqs⟩
theorem rev_Normal.eq (x_ : dens rev_Normal.ce.params) : den rev_Normal.G Tryd.f22 rev_Normal.ce.params rev_Normal.ce.res x_ = rev_Normal.ce.F x_ := by kernel_rfl
theorem rev_Normal.p0 : PcA rev_Normal.G Tryd.f22 0 :=
  region_ok (s := rev_Normal.c3r) (by kernel_rfl) (by kernel_rfl) (sums_of (sh := rev_Normal.c3s) (fun ρ x_ k_ => nat_leaf) (fun ρ x_ t k => (by kernel_rfl)) (fun x_ => by kernel_rfl))
theorem rev_Normal.ok : CalleeOk Tryd.prog 22 rev_Normal.ce := fn_ok (G := rev_Normal.G) tab_ok mixed Tryd.func22 ⟨(fns_cons rev_Check.ok (fns_cons rev_column_normal.ok fns_nil)), (mfns_cons rev_table.ok mfns_nil), tab_eqs_ok⟩ (m := 1) (by kernel_rfl) ⟨trivial, rev_Normal.p0⟩ (by kernel_rfl) rev_Normal.eq
abbrev vb47 : SD := .one (.ref 7 0)
abbrev vb49 : SD := .one (.own 6 0)
abbrev vb50 : SO := .arr 0 false 24 (.st (.node (.pair (.int .i64) (.int .i64))))
def R_nodes_b.self.pre : Shape := ⟨[(0, vb0)], []⟩
def R_nodes_b.self.post : Shape := ⟨[(0, vb3)], []⟩
class R_nodes_b.Self where
  F : densU R_nodes_b.self.pre.tys → Option (densU R_nodes_b.self.post.tys)
  ok : MOk Tryd.prog 35 ⟨35, R_nodes_b.self.pre, R_nodes_b.self.post, F⟩
section
variable [R_nodes_b.Self]
def R_nodes_b.self (x_ : densU R_nodes_b.self.pre.tys) : Option (densU R_nodes_b.self.post.tys) := R_nodes_b.Self.F x_
def R_nodes_b.self.mc : MCallee := ⟨35, R_nodes_b.self.pre, R_nodes_b.self.post, fun x_ => R_nodes_b.self x_⟩
theorem R_nodes_b.self.ok : MOk Tryd.prog 35 R_nodes_b.self.mc := R_nodes_b.Self.ok
def R_nodes_b.pre : Shape := ⟨[(0, vb0)], []⟩
def R_nodes_b.post : Shape := ⟨[(0, vb3)], []⟩
def R_nodes_b.c3 {ρ : Type} (i : Int) (e2 : List (Rose ((Int) × (Int)))) (t6 : List (Rose ((Int) × (Int)))) (k_ : Bool → Option ρ) : Option ρ :=
  br (decide (i < (↑(List.length e2) : Int)))
   (k_ (decide ((↑(List.length t6) : Int) ≤ (400 : Int))))
   (k_ false)
def R_nodes_b.c3s : Shape := ⟨[(0, vb0), (1, vb2), (2, vb3), (3, vb49), (4, vb1)], [(1, vb4), (6, vb50)]⟩
def R_nodes_b.c3x0 : Shape := ⟨[(0, vb0), (1, vb2), (2, vb3), (3, vb49), (4, vb1), (16, vb11)], [(1, vb4), (6, vb50)]⟩
def R_nodes_b.c3r : Ck := Ck.of (T := Bool) R_nodes_b.c3s (fun ρ x_ k_ => R_nodes_b.c3 x_.2.2.1 x_.2.2.2.2.2.1 x_.2.2.2.2.2.2.1 k_) (fun ρ x_ r_ k_ => k_ 0 (Shape.inj R_nodes_b.c3x0 (x_.1, x_.2.1, x_.2.2.1, r_, x_.2.2.2)))
def R_nodes_b.c100003 {ρ : Type} (i : Int) (e2 : List (Rose ((Int) × (Int)))) (t6 : List (Rose ((Int) × (Int)))) (k_ : ((Int) × (List (Rose ((Int) × (Int))))) ⊕ ((Int) × (List (Rose ((Int) × (Int))))) → Option ρ) : Option ρ :=
  bnd (W.R_nodes_b.c3 i e2 t6 some) fun y =>
  br y
   (bnd (idx e2 i) fun y_1 =>
    bnd (W.R_nodes_b.self (y_1, ())) fun y_2 =>
    bnd (okIf (decide ((List.length t6 + List.length (Prod.fst y_2)) * (40 : Nat) ≤ (140737488355328 : Nat)) && decide (List.length t6 + List.length (Prod.fst y_2) ≤ (140737488355328 : Nat)))) fun y_3 =>
    k_ (.inl ((IntKind.wrap IntKind.i64 (i + (1 : Int))), (t6 ++ Prod.fst y_2))))
   (k_ (.inr (i, t6)))
def R_nodes_b.c100003s : Shape := R_nodes_b.c3s
def R_nodes_b.c100003x0 : Shape := R_nodes_b.c3s
def R_nodes_b.c100003r : Ck := Ck.ofLoop (S := (Int) × (List (Rose ((Int) × (Int))))) (T := (Int) × (List (Rose ((Int) × (Int))))) R_nodes_b.c100003s (fun x_ => (x_.2.2.1, x_.2.2.2.2.2.2.1)) (fun ρ x_ s_ k_ => R_nodes_b.c100003 s_.1 x_.2.2.2.2.2.1 s_.2 k_) (fun ρ x_ r_ k_ => k_ 2 (Shape.inj R_nodes_b.c100003x0 (x_.1, x_.2.1, r_.1, x_.2.2.2.1, x_.2.2.2.2.1, x_.2.2.2.2.2.1, r_.2, ())))
def R_nodes_b (e : Rose ((Int) × (Int))) : Option ((List (Rose ((Int) × (Int)))) × Unit) :=
  bnd (iter (fun s ↦ W.R_nodes_b.c100003 (Prod.fst s) (Rose.kids e) (Prod.snd s) some) ((0 : Int), [Rose.mk (Prod.fst (Rose.head e), Prod.snd (Rose.head e)) (Rose.kids e)])) fun y =>
  some (Prod.snd y, ())
def R_nodes_b.mc : MCallee := ⟨35, R_nodes_b.pre, R_nodes_b.post, fun x_ => R_nodes_b x_.1⟩
def R_nodes_b.G : Env := ⟨28, tab, [], [0, 1, 2, 3, 4, 16], [6], [], [(100003, R_nodes_b.c100003r), (3, R_nodes_b.c3r)], [(35, R_nodes_b.self.mc)], tab_eqs⟩
theorem R_nodes_b.eq (x_ : densU R_nodes_b.mc.pre.tys) : denM R_nodes_b.G Tryd.f35 R_nodes_b.mc.pre R_nodes_b.mc.post x_ = R_nodes_b.mc.F x_ := by kernel_rfl
theorem R_nodes_b.p0 : PcA R_nodes_b.G Tryd.f35 0 :=
  loop_ok (s := R_nodes_b.c100003r) (by kernel_rfl) (by kernel_rfl) (loops_of (sh := R_nodes_b.c100003s) (I := fun x_ s_ => (x_.1, x_.2.1, s_.1, x_.2.2.2.1, x_.2.2.2.2.1, x_.2.2.2.2.2.1, s_.2, ())) (fun x_ => rfl) (fun ρ x_ s_ k_ => (nat_bnd fun _ => (nat_br (nat_bnd fun _ => (nat_bnd fun _ => (nat_bnd fun _ => nat_leaf))) nat_leaf))) (fun ρ x_ t k => (by kernel_rfl)) (fun x_ s => by kernel_rfl))
theorem R_nodes_b.p1 : PcA R_nodes_b.G Tryd.f35 1 :=
  region_ok (s := R_nodes_b.c3r) (by kernel_rfl) (by kernel_rfl) (sums_of (sh := R_nodes_b.c3s) (fun ρ x_ k_ => (nat_br nat_leaf nat_leaf)) (fun ρ x_ t k => (by kernel_rfl)) (fun x_ => by kernel_rfl))
theorem R_nodes_b.ok : MOk Tryd.prog 35 R_nodes_b.mc := fnm_ok (G := R_nodes_b.G) tab_ok mixed Tryd.func35 ⟨fns_nil, (mfns_cons R_nodes_b.self.ok mfns_nil), tab_eqs_ok⟩ (m := 2) (by kernel_rfl) ⟨⟨trivial, R_nodes_b.p0⟩, R_nodes_b.p1⟩ (by kernel_rfl) R_nodes_b.eq
end
@[reducible] def R_nodes_b.fuel : Nat → R_nodes_b.Self
  | 0 => ⟨fun _ => none, ⟨⟨Tryd.f35, Tryd.func35, by kernel_rfl, by kernel_rfl⟩, fun _ _ _ _ _ _ _ hy => by cases hy⟩⟩
  | n + 1 => ⟨fun x_ => (@R_nodes_b.mc (R_nodes_b.fuel n)).F x_, @R_nodes_b.ok (R_nodes_b.fuel n)⟩
def R_nodes (x_ : densU R_nodes_b.self.pre.tys) : Option (densU R_nodes_b.self.post.tys) := (R_nodes_b.fuel (sizeOf x_.1)).F x_
def R_nodes.mc : MCallee := ⟨35, R_nodes_b.self.pre, R_nodes_b.self.post, fun x_ => R_nodes x_⟩
theorem R_nodes.ok : MOk Tryd.prog 35 R_nodes.mc := mok_diag (F := fun n => (R_nodes_b.fuel n).F) (fun n => (R_nodes_b.fuel n).ok) (fun x_ => sizeOf x_.1)
def R_rfault (code : Int) (t1 : Int) : Option ((Int) × (Int)) :=
  some (code, t1)
def R_rfault.ce : Go.Ql.Callee := ⟨[(.int .i64), (.int .i64)], [(.st (.pair (.int .i64) (.int .i64)))], fun x_ => R_rfault x_.1 x_.2⟩
def R_rfault.G : Env := ⟨8, tab, [], [0, 1, 4], [], [], [], [], tab_eqs⟩
theorem R_rfault.eq (x_ : dens R_rfault.ce.params) : den R_rfault.G Tryd.f36 R_rfault.ce.params R_rfault.ce.res x_ = R_rfault.ce.F x_ := by kernel_rfl
theorem R_rfault.ok : CalleeOk Tryd.prog 36 R_rfault.ce := fn_ok (G := R_rfault.G) tab_ok mixed Tryd.func36 ⟨fns_nil, mfns_nil, tab_eqs_ok⟩ (m := 0) (by kernel_rfl) trivial (by kernel_rfl) R_rfault.eq
def R_member.c100002 {ρ : Type} (l : List (Int)) (x : Int) (i : Int) (k_ : (Int) ⊕ ((Int) ⊕ (Int)) → Option ρ) : Option ρ :=
  br (decide (i < (↑(List.length l) : Int)))
   (bnd (idx l i) fun y =>
    br (y == x)
     (k_ (.inr (.inl i)))
     (k_ (.inl (IntKind.wrap IntKind.i64 (i + (1 : Int))))))
   (k_ (.inr (.inr i)))
def R_member.c100002s : Shape := ⟨[(0, vb15), (1, vb1), (4, vb11), (5, vb1)], []⟩
def R_member.c100002x0 : Shape := R_member.c100002s
def R_member.c100002x1 : Shape := R_member.c100002s
def R_member.c100002r : Ck := Ck.ofLoop (S := Int) (T := (Int) ⊕ (Int)) R_member.c100002s (fun x_ => x_.2.2.2.1) (fun ρ x_ s_ k_ => R_member.c100002 x_.1 x_.2.1 s_ k_) (fun ρ x_ r_ k_ => sel r_ (fun r_ => k_ 1 (Shape.inj R_member.c100002x0 (x_.1, x_.2.1, true, r_, ()))) (fun r_ => k_ 2 (Shape.inj R_member.c100002x1 (x_.1, x_.2.1, x_.2.2.1, r_, ()))))
def R_member (l : List (Int)) (x : Int) : Option (Bool) :=
  bnd (iter (fun s ↦ W.R_member.c100002 l x s some) (0 : Int)) fun y =>
  sel y
   (fun u => some true)
   (fun v => some false)
def R_member.ce : Go.Ql.Callee := ⟨[(.sl (.int .i64)), (.int .i64)], [.bool], fun x_ => R_member x_.1 x_.2⟩
def R_member.G : Env := ⟨18, tab, [], [0, 1, 4, 5, 9, 17], [], [], [(100002, R_member.c100002r)], [], tab_eqs⟩
theorem R_member.eq (x_ : dens R_member.ce.params) : den R_member.G Tryd.f45 R_member.ce.params R_member.ce.res x_ = R_member.ce.F x_ := by kernel_rfl
theorem R_member.p0 : PcA R_member.G Tryd.f45 0 :=
  loop_ok (s := R_member.c100002r) (by kernel_rfl) (by kernel_rfl) (loops_of (sh := R_member.c100002s) (I := fun x_ s_ => (x_.1, x_.2.1, x_.2.2.1, s_, ())) (fun x_ => rfl) (fun ρ x_ s_ k_ => (nat_br (nat_bnd fun _ => (nat_br nat_leaf nat_leaf)) nat_leaf)) (fun ρ x_ t k => (nat_sel (fun _ => (by kernel_rfl)) (fun _ => (by kernel_rfl)))) (fun x_ s => by kernel_rfl))
theorem R_member.ok : CalleeOk Tryd.prog 45 R_member.ce := fn_ok (G := R_member.G) tab_ok mixed Tryd.func45 ⟨fns_nil, mfns_nil, tab_eqs_ok⟩ (m := 1) (by kernel_rfl) ⟨trivial, R_member.p0⟩ (by kernel_rfl) R_member.eq
def R_badOp.c1 {ρ : Type} (o0 : Int) (k_ : Bool → Option ρ) : Option ρ :=
  br (decide (o0 < (1 : Int)))
   (k_ true)
   (k_ (decide (o0 > (6 : Int))))
def R_badOp.c1s : Shape := ⟨[(0, vb30), (1, vb1), (2, vb1), (3, vb8), (6, vb1)], [(3, vb25)]⟩
def R_badOp.c1x0 : Shape := ⟨[(0, vb30), (1, vb1), (2, vb1), (3, vb8), (6, vb1), (17, vb11)], [(3, vb25)]⟩
def R_badOp.c1r : Ck := Ck.of (T := Bool) R_badOp.c1s (fun ρ x_ k_ => R_badOp.c1 x_.2.2.2.2.1 k_) (fun ρ x_ r_ k_ => k_ 0 (Shape.inj R_badOp.c1x0 (x_.1, x_.2.1, x_.2.2.1, x_.2.2.2.1, r_, x_.2.2.2.2)))
def R_badOp.c3 {ρ : Type} (o0 : Int) (k_ : Bool → Option ρ) : Option ρ :=
  br (o0 == (1 : Int))
   (k_ true)
   (k_ (o0 == (4 : Int)))
def R_badOp.c3s : Shape := R_badOp.c1s
def R_badOp.c3x0 : Shape := ⟨[(0, vb30), (1, vb1), (2, vb1), (3, vb8), (6, vb1), (7, vb11)], [(3, vb25)]⟩
def R_badOp.c3r : Ck := Ck.of (T := Bool) R_badOp.c3s (fun ρ x_ k_ => R_badOp.c3 x_.2.2.2.2.1 k_) (fun ρ x_ r_ k_ => k_ 0 (Shape.inj R_badOp.c3x0 (x_.1, x_.2.1, x_.2.2.1, x_.2.2.2.1, r_, x_.2.2.2.2)))
def R_badOp.c4 {ρ : Type} (angle : Bool) (o1 : Int) (k_ : Bool → Option ρ) : Option ρ :=
  br (decide (o1 < (0 : Int)))
   (k_ true)
   (br (decide (o1 > (15 : Int)))
     (k_ true)
     (br (decide (o1 > (0 : Int)))
       (k_ (!angle))
       (k_ false)))
def R_badOp.c4s : Shape := R_badOp.c3x0
def R_badOp.c4x0 : Shape := ⟨[(0, vb30), (1, vb1), (2, vb1), (3, vb8), (6, vb1), (7, vb11), (42, vb11)], [(3, vb25)]⟩
def R_badOp.c4r : Ck := Ck.of (T := Bool) R_badOp.c4s (fun ρ x_ k_ => R_badOp.c4 x_.2.2.2.2.1 x_.2.2.2.2.2.2.1 k_) (fun ρ x_ r_ k_ => k_ 0 (Shape.inj R_badOp.c4x0 (x_.1, x_.2.1, x_.2.2.1, x_.2.2.2.1, x_.2.2.2.2.1, r_, x_.2.2.2.2.2)))
def R_badOp.c6 {ρ : Type} (qubits : Int) (o0 : Int) (o3 : Int) (k_ : Bool → Option ρ) : Option ρ :=
  br (decide (o3 < (0 : Int)))
   (k_ true)
   (br (decide (o3 ≥ qubits))
     (k_ true)
     (br (o0 == (1 : Int))
       (k_ (decide (o3 > (0 : Int))))
       (k_ false)))
def R_badOp.c6s : Shape := R_badOp.c3x0
def R_badOp.c6x0 : Shape := ⟨[(0, vb30), (1, vb1), (2, vb1), (3, vb8), (6, vb1), (7, vb11), (61, vb11)], [(3, vb25)]⟩
def R_badOp.c6r : Ck := Ck.of (T := Bool) R_badOp.c6s (fun ρ x_ k_ => R_badOp.c6 x_.2.1 x_.2.2.2.2.2.1 x_.2.2.2.2.2.2.2.2.1 k_) (fun ρ x_ r_ k_ => k_ 0 (Shape.inj R_badOp.c6x0 (x_.1, x_.2.1, x_.2.2.1, x_.2.2.2.1, x_.2.2.2.2.1, r_, x_.2.2.2.2.2)))
def R_badOp.c8 {ρ : Type} (o0 : Int) (o2 : List (Int)) (k_ : Bool → Option ρ) : Option ρ :=
  br (decide ((↑(List.length o2) : Int) > (0 : Int)))
   (br (o0 != (2 : Int))
     (br (o0 != (3 : Int))
       (k_ (o0 != (4 : Int)))
       (k_ false))
     (k_ false))
   (k_ false)
def R_badOp.c8s : Shape := R_badOp.c3x0
def R_badOp.c8x0 : Shape := ⟨[(0, vb30), (1, vb1), (2, vb1), (3, vb8), (6, vb1), (7, vb11), (80, vb11)], [(3, vb25)]⟩
def R_badOp.c8r : Ck := Ck.of (T := Bool) R_badOp.c8s (fun ρ x_ k_ => R_badOp.c8 x_.2.2.2.2.2.1 x_.2.2.2.2.2.2.2.1 k_) (fun ρ x_ r_ k_ => k_ 0 (Shape.inj R_badOp.c8x0 (x_.1, x_.2.1, x_.2.2.1, x_.2.2.2.1, x_.2.2.2.2.1, r_, x_.2.2.2.2.2)))
def R_badOp.c13 {ρ : Type} (qubits : Int) (i : Int) (o2 : List (Int)) (k_ : Bool → Option ρ) : Option ρ :=
  bnd (idx o2 i) fun y =>
  br (decide (y < (0 : Int)))
   (k_ true)
   (bnd (idx o2 i) fun y_1 =>
    k_ (decide (y_1 ≥ qubits)))
def R_badOp.c13s : Shape := ⟨[(0, vb30), (1, vb1), (2, vb1), (3, vb8), (6, vb1), (7, vb11), (8, vb1)], [(3, vb25)]⟩
def R_badOp.c13x0 : Shape := ⟨[(0, vb30), (1, vb1), (2, vb1), (3, vb8), (6, vb1), (7, vb11), (8, vb1), (102, vb11)], [(3, vb25)]⟩
def R_badOp.c13r : Ck := Ck.of (T := Bool) R_badOp.c13s (fun ρ x_ k_ => R_badOp.c13 x_.2.1 x_.2.2.2.2.2.1 x_.2.2.2.2.2.2.2.2.1 k_) (fun ρ x_ r_ k_ => k_ 0 (Shape.inj R_badOp.c13x0 (x_.1, x_.2.1, x_.2.2.1, x_.2.2.2.1, x_.2.2.2.2.1, x_.2.2.2.2.2.1, r_, x_.2.2.2.2.2.2)))
def R_badOp.c15 {ρ : Type} (i : Int) (o2 : List (Int)) (o3 : Int) (k_ : Bool → Option ρ) : Option ρ :=
  bnd (idx o2 i) fun y =>
  br (y == o3)
   (k_ true)
   (bnd (okIf (decide ((0 : Int) ≤ i) && decide (i ≤ (↑(List.length o2) : Int)))) fun y_1 =>
    bnd (idx o2 i) fun y_2 =>
    bnd (W.R_member (List.take (Int.toNat i) o2) y_2) fun y_3 =>
    k_ y_3)
def R_badOp.c15s : Shape := R_badOp.c13s
def R_badOp.c15x0 : Shape := ⟨[(0, vb30), (1, vb1), (2, vb1), (3, vb8), (6, vb1), (7, vb11), (8, vb1), (122, vb11)], [(3, vb25)]⟩
def R_badOp.c15r : Ck := Ck.of (T := Bool) R_badOp.c15s (fun ρ x_ k_ => R_badOp.c15 x_.2.2.2.2.2.1 x_.2.2.2.2.2.2.2.2.1 x_.2.2.2.2.2.2.2.2.2.1 k_) (fun ρ x_ r_ k_ => k_ 0 (Shape.inj R_badOp.c15x0 (x_.1, x_.2.1, x_.2.2.1, x_.2.2.2.1, x_.2.2.2.2.1, x_.2.2.2.2.2.1, r_, x_.2.2.2.2.2.2)))
def R_badOp.c100011 {ρ : Type} (qubits : Int) (i : Int) (o2 : List (Int)) (o3 : Int) (k_ : (Int) ⊕ (((Int) × (Int)) ⊕ (Int)) → Option ρ) : Option ρ :=
  br (decide (i < (↑(List.length o2) : Int)))
   (bnd (W.R_badOp.c13 qubits i o2 some) fun y =>
    br y
     (k_ (.inr (.inl ((10 : Int), i))))
     (bnd (W.R_badOp.c15 i o2 o3 some) fun y_1 =>
      br y_1
       (k_ (.inr (.inl ((12 : Int), i))))
       (k_ (.inl (IntKind.wrap IntKind.i64 (i + (1 : Int)))))))
   (k_ (.inr (.inr i)))
def R_badOp.c100011s : Shape := R_badOp.c13s
def R_badOp.c100011x0 : Shape := R_badOp.c13s
def R_badOp.c100011x1 : Shape := R_badOp.c13s
def R_badOp.c100011r : Ck := Ck.ofLoop (S := Int) (T := ((Int) × (Int)) ⊕ (Int)) R_badOp.c100011s (fun x_ => x_.2.2.2.2.2.1) (fun ρ x_ s_ k_ => R_badOp.c100011 x_.2.1 s_ x_.2.2.2.2.2.2.2.2.1 x_.2.2.2.2.2.2.2.2.2.1 k_) (fun ρ x_ r_ k_ => sel r_ (fun r_ => k_ 1 (Shape.inj R_badOp.c100011x0 (x_.1, x_.2.1, x_.2.2.1, r_.1, x_.2.2.2.2.1, r_.2, x_.2.2.2.2.2.2))) (fun r_ => k_ 2 (Shape.inj R_badOp.c100011x1 (x_.1, x_.2.1, x_.2.2.1, x_.2.2.2.1, x_.2.2.2.2.1, r_, x_.2.2.2.2.2.2))))
def R_badOp.c18 {ρ : Type} (bits : Int) (o4 : Int) (k_ : Bool → Option ρ) : Option ρ :=
  br (decide (o4 < (0 : Int)))
   (k_ true)
   (k_ (decide (o4 ≥ bits)))
def R_badOp.c18s : Shape := R_badOp.c13s
def R_badOp.c18x0 : Shape := ⟨[(0, vb30), (1, vb1), (2, vb1), (3, vb8), (6, vb1), (7, vb11), (8, vb1), (134, vb11)], [(3, vb25)]⟩
def R_badOp.c18r : Ck := Ck.of (T := Bool) R_badOp.c18s (fun ρ x_ k_ => R_badOp.c18 x_.2.2.1 x_.2.2.2.2.2.2.2.2.2.2.1 k_) (fun ρ x_ r_ k_ => k_ 0 (Shape.inj R_badOp.c18x0 (x_.1, x_.2.1, x_.2.2.1, x_.2.2.2.1, x_.2.2.2.2.1, x_.2.2.2.2.2.1, r_, x_.2.2.2.2.2.2)))
def R_badOp.c269649 {ρ : Type} (bits : Int) (o0 : Int) (o4 : Int) (k_ : (Unit) ⊕ (Unit) → Option ρ) : Option ρ :=
  br (o0 == (5 : Int))
   (bnd (W.R_badOp.c18 bits o4 some) fun y =>
    br y
     (k_ (.inl ()))
     (k_ (.inr ())))
   (br (o4 != (0 : Int))
     (k_ (.inl ()))
     (k_ (.inr ())))
def R_badOp.c269649s : Shape := R_badOp.c13s
def R_badOp.c269649x0 : Shape := R_badOp.c13s
def R_badOp.c269649x1 : Shape := R_badOp.c13s
def R_badOp.c269649r : Ck := Ck.of (T := (Unit) ⊕ (Unit)) R_badOp.c269649s (fun ρ x_ k_ => R_badOp.c269649 x_.2.2.1 x_.2.2.2.2.2.2.1 x_.2.2.2.2.2.2.2.2.2.2.1 k_) (fun ρ x_ r_ k_ => sel r_ (fun r_ => k_ 1 (Shape.inj R_badOp.c269649x0 (x_.1, x_.2.1, x_.2.2.1, (13 : Int), x_.2.2.2.2))) (fun r_ => k_ 0 (Shape.inj R_badOp.c269649x1 x_)))
def R_badOp.c27 {ρ : Type} (bits : Int) (i_1 : Int) (o5 : List (Int)) (k_ : Bool → Option ρ) : Option ρ :=
  bnd (idx o5 i_1) fun y =>
  br (y == (0 : Int))
   (k_ true)
   (bnd (idx o5 i_1) fun y_1 =>
    br (decide (y_1 > bits))
     (k_ true)
     (bnd (idx o5 i_1) fun y_2 =>
      k_ (decide (y_2 < IntKind.wrap IntKind.i64 ((0 : Int) - bits)))))
def R_badOp.c27s : Shape := ⟨[(0, vb30), (1, vb1), (2, vb1), (3, vb8), (6, vb1), (7, vb11), (8, vb1), (9, vb1)], [(3, vb25)]⟩
def R_badOp.c27x0 : Shape := ⟨[(0, vb30), (1, vb1), (2, vb1), (3, vb8), (6, vb1), (7, vb11), (8, vb1), (9, vb1), (173, vb11)], [(3, vb25)]⟩
def R_badOp.c27r : Ck := Ck.of (T := Bool) R_badOp.c27s (fun ρ x_ k_ => R_badOp.c27 x_.2.2.1 x_.2.2.2.2.2.2.1 x_.2.2.2.2.2.2.2.2.2.2.2.2.1 k_) (fun ρ x_ r_ k_ => k_ 0 (Shape.inj R_badOp.c27x0 (x_.1, x_.2.1, x_.2.2.1, x_.2.2.2.1, x_.2.2.2.2.1, x_.2.2.2.2.2.1, x_.2.2.2.2.2.2.1, r_, x_.2.2.2.2.2.2.2)))
def R_badOp.c100025 {ρ : Type} (bits : Int) (i_1 : Int) (o5 : List (Int)) (k_ : (Int) ⊕ ((Int) ⊕ (Int)) → Option ρ) : Option ρ :=
  br (decide (i_1 < (↑(List.length o5) : Int)))
   (bnd (W.R_badOp.c27 bits i_1 o5 some) fun y =>
    br y
     (k_ (.inr (.inl i_1)))
     (k_ (.inl (IntKind.wrap IntKind.i64 (i_1 + (1 : Int))))))
   (k_ (.inr (.inr i_1)))
def R_badOp.c100025s : Shape := R_badOp.c27s
def R_badOp.c100025x0 : Shape := R_badOp.c27s
def R_badOp.c100025x1 : Shape := R_badOp.c27s
def R_badOp.c100025r : Ck := Ck.ofLoop (S := Int) (T := (Int) ⊕ (Int)) R_badOp.c100025s (fun x_ => x_.2.2.2.2.2.2.1) (fun ρ x_ s_ k_ => R_badOp.c100025 x_.2.2.1 s_ x_.2.2.2.2.2.2.2.2.2.2.2.2.1 k_) (fun ρ x_ r_ k_ => sel r_ (fun r_ => k_ 1 (Shape.inj R_badOp.c100025x0 (x_.1, x_.2.1, x_.2.2.1, (14 : Int), x_.2.2.2.2.1, x_.2.2.2.2.2.1, r_, x_.2.2.2.2.2.2.2))) (fun r_ => k_ 4 (Shape.inj R_badOp.c100025x1 (x_.1, x_.2.1, x_.2.2.1, x_.2.2.2.1, x_.2.2.2.2.1, x_.2.2.2.2.2.1, r_, x_.2.2.2.2.2.2.2))))
def R_badOp (o : (Int) × ((Int) × ((List Int) × ((Int) × ((Int) × (List Int)))))) (qubits : Int) (bits : Int) : Option (Int) :=
  bnd (W.R_badOp.c1 (Prod.fst o) some) fun y =>
  br y
   (some (8 : Int))
   (bnd (W.R_badOp.c3 (Prod.fst o) some) fun y_1 =>
    bnd (W.R_badOp.c4 y_1 (Prod.fst (Prod.snd o)) some) fun y_2 =>
    br y_2
     (some (9 : Int))
     (bnd (W.R_badOp.c6 qubits (Prod.fst o) (Prod.fst (Prod.snd (Prod.snd (Prod.snd o)))) some) fun y_3 =>
      br y_3
       (some (10 : Int))
       (bnd (W.R_badOp.c8 (Prod.fst o) (Prod.fst (Prod.snd (Prod.snd o))) some) fun y_4 =>
        br y_4
         (some (11 : Int))
         (bnd (iter (fun s ↦ W.R_badOp.c100011 qubits s (Prod.fst (Prod.snd (Prod.snd o))) (Prod.fst (Prod.snd (Prod.snd (Prod.snd o)))) some) (0 : Int)) fun y_5 =>
          sel y_5
           (fun u => some (Prod.fst u))
           (fun v => bnd (W.R_badOp.c269649 bits (Prod.fst o) (Prod.fst (Prod.snd (Prod.snd (Prod.snd (Prod.snd o))))) some) fun y_6 =>
            sel y_6
             (fun u_1 => some (13 : Int))
             (fun v_1 => br (decide ((↑(List.length (Prod.snd (Prod.snd (Prod.snd (Prod.snd (Prod.snd o)))))) : Int) > (24 : Int)))
               (some (14 : Int))
               (bnd (iter (fun s ↦ W.R_badOp.c100025 bits s (Prod.snd (Prod.snd (Prod.snd (Prod.snd (Prod.snd o))))) some) (0 : Int)) fun y_7 =>
                sel y_7
                 (fun u_2 => some (14 : Int))
                 (fun v_2 => some (0 : Int)))))))))
def R_badOp.ce : Go.Ql.Callee := ⟨[(.st (.pair (.int .i64) (.pair (.int .i64) (.pair (.sl (.int .i64)) (.pair (.int .i64) (.pair (.int .i64) (.sl (.int .i64)))))))), (.int .i64), (.int .i64)], [(.int .i64)], fun x_ => R_badOp x_.1 x_.2.1 x_.2.2⟩
def R_badOp.G : Env := ⟨174, tab, [(45, R_member.ce)], [0, 1, 2, 3, 6, 7, 8, 9, 17, 42, 61, 80, 85, 102, 122, 125, 134, 137, 141, 146, 173], [], [(15, [⟨[], [], [105, 108, 109], []⟩, ⟨[0], [], [105, 108, 109], []⟩, ⟨[], [], [103, 104, 108, 109], []⟩, ⟨[1, 0, 2], [], [108, 109], []⟩, ⟨[3, 1, 0, 2], [], [108, 109], []⟩, ⟨[], [], [103, 104, 105, 106, 107], []⟩, ⟨[5], [], [103, 104, 105, 106, 107], []⟩, ⟨[4, 3, 1, 0, 2, 6, 5], [], [], []⟩, ⟨[7, 4, 3, 1, 0, 2, 6, 5], [], [], []⟩, ⟨[8, 7, 4, 3, 1, 0, 2, 6, 5], [], [114, 116, 117, 118, 119, 120], []⟩, ⟨[9, 8, 7, 4, 3, 1, 0, 2, 6, 5], [], [114, 116, 117, 118, 119, 120], []⟩, ⟨[8, 7, 4, 3, 1, 0, 2, 6, 5], [], [112, 113, 116, 117, 118, 119, 120], []⟩, ⟨[10, 9, 8, 7, 4, 3, 1, 0, 2, 6, 5, 11], [], [116, 117, 118, 119, 120], []⟩, ⟨[8, 7, 4, 3, 1, 0, 2, 6, 5], [], [112, 113, 114, 115, 118], []⟩, ⟨[13, 8, 7, 4, 3, 1, 0, 2, 6, 5], [], [112, 113, 114, 115, 118], []⟩, ⟨[8, 7, 4, 3, 1, 0, 2, 6, 5], [], [112, 113, 114, 115, 116, 117], []⟩, ⟨[14, 13, 8, 7, 4, 3, 1, 0, 2, 6, 5, 15], [], [112, 113, 114, 115], []⟩, ⟨[16, 14, 13, 8, 7, 4, 3, 1, 0, 2, 6, 5, 15], [], [112, 113, 114, 115], []⟩, ⟨[12, 10, 9, 8, 7, 4, 3, 1, 0, 2, 6, 5, 11, 17, 16, 14, 13, 15], [], [], []⟩, ⟨[8, 7, 4, 3, 1, 0, 2, 6, 5, 18, 12, 10, 9, 11, 17, 16, 14, 13, 15], [], [], []⟩])], [(100025, R_badOp.c100025r), (27, R_badOp.c27r), (269649, R_badOp.c269649r), (18, R_badOp.c18r), (100011, R_badOp.c100011r), (15, R_badOp.c15r), (13, R_badOp.c13r), (8, R_badOp.c8r), (6, R_badOp.c6r), (4, R_badOp.c4r), (3, R_badOp.c3r), (1, R_badOp.c1r)], [], tab_eqs⟩
theorem R_badOp.eq (x_ : dens R_badOp.ce.params) : den R_badOp.G Tryd.f58 R_badOp.ce.params R_badOp.ce.res x_ = R_badOp.ce.F x_ := by kernel_rfl
theorem R_badOp.p0 : PcA R_badOp.G Tryd.f58 0 :=
  region_ok (s := R_badOp.c1r) (by kernel_rfl) (by kernel_rfl) (sums_of (sh := R_badOp.c1s) (fun ρ x_ k_ => (nat_br nat_leaf nat_leaf)) (fun ρ x_ t k => (by kernel_rfl)) (fun x_ => by kernel_rfl))
theorem R_badOp.p1 : PcA R_badOp.G Tryd.f58 1 :=
  region_ok (s := R_badOp.c3r) (by kernel_rfl) (by kernel_rfl) (sums_of (sh := R_badOp.c3s) (fun ρ x_ k_ => (nat_br nat_leaf nat_leaf)) (fun ρ x_ t k => (by kernel_rfl)) (fun x_ => by kernel_rfl))
theorem R_badOp.p2 : PcA R_badOp.G Tryd.f58 2 :=
  region_ok (s := R_badOp.c4r) (by kernel_rfl) (by kernel_rfl) (sums_of (sh := R_badOp.c4s) (fun ρ x_ k_ => (nat_br nat_leaf (nat_br nat_leaf (nat_br nat_leaf nat_leaf)))) (fun ρ x_ t k => (by kernel_rfl)) (fun x_ => by kernel_rfl))
theorem R_badOp.p3 : PcA R_badOp.G Tryd.f58 3 :=
  region_ok (s := R_badOp.c6r) (by kernel_rfl) (by kernel_rfl) (sums_of (sh := R_badOp.c6s) (fun ρ x_ k_ => (nat_br nat_leaf (nat_br nat_leaf (nat_br nat_leaf nat_leaf)))) (fun ρ x_ t k => (by kernel_rfl)) (fun x_ => by kernel_rfl))
theorem R_badOp.p4 : PcA R_badOp.G Tryd.f58 4 :=
  region_ok (s := R_badOp.c8r) (by kernel_rfl) (by kernel_rfl) (sums_of (sh := R_badOp.c8s) (fun ρ x_ k_ => (nat_br (nat_br (nat_br nat_leaf nat_leaf) nat_leaf) nat_leaf)) (fun ρ x_ t k => (by kernel_rfl)) (fun x_ => by kernel_rfl))
theorem R_badOp.p5 : PcA R_badOp.G Tryd.f58 5 :=
  loop_ok (s := R_badOp.c100011r) (by kernel_rfl) (by kernel_rfl) (loops_of (sh := R_badOp.c100011s) (I := fun x_ s_ => (x_.1, x_.2.1, x_.2.2.1, x_.2.2.2.1, x_.2.2.2.2.1, s_, x_.2.2.2.2.2.2)) (fun x_ => rfl) (fun ρ x_ s_ k_ => (nat_br (nat_bnd fun _ => (nat_br nat_leaf (nat_bnd fun _ => (nat_br nat_leaf nat_leaf)))) nat_leaf)) (fun ρ x_ t k => (nat_sel (fun _ => (by kernel_rfl)) (fun _ => (by kernel_rfl)))) (fun x_ s => by kernel_rfl))
theorem R_badOp.p6 : PcA R_badOp.G Tryd.f58 6 :=
  region_ok (s := R_badOp.c13r) (by kernel_rfl) (by kernel_rfl) (sums_of (sh := R_badOp.c13s) (fun ρ x_ k_ => (nat_bnd fun _ => (nat_br nat_leaf (nat_bnd fun _ => nat_leaf)))) (fun ρ x_ t k => (by kernel_rfl)) (fun x_ => by kernel_rfl))
theorem R_badOp.p7 : PcA R_badOp.G Tryd.f58 7 :=
  region_ok (s := R_badOp.c15r) (by kernel_rfl) (by kernel_rfl) (sums_of (sh := R_badOp.c15s) (fun ρ x_ k_ => (nat_bnd fun _ => (nat_br nat_leaf (nat_bnd fun _ => (nat_bnd fun _ => (nat_bnd fun _ => nat_leaf)))))) (fun ρ x_ t k => (by kernel_rfl)) (fun x_ => by kernel_rfl))
theorem R_badOp.p8 : PcA R_badOp.G Tryd.f58 8 :=
  join_ok (s := R_badOp.c269649r) (by kernel_rfl) (by kernel_rfl) (sums_of (sh := R_badOp.c269649s) (fun ρ x_ k_ => (nat_br (nat_bnd fun _ => (nat_br nat_leaf nat_leaf)) (nat_br nat_leaf nat_leaf))) (fun ρ x_ t k => (nat_sel (fun _ => (by kernel_rfl)) (fun _ => (by kernel_rfl)))) (fun x_ => by kernel_rfl))
theorem R_badOp.p9 : PcA R_badOp.G Tryd.f58 9 :=
  region_ok (s := R_badOp.c18r) (by kernel_rfl) (by kernel_rfl) (sums_of (sh := R_badOp.c18s) (fun ρ x_ k_ => (nat_br nat_leaf nat_leaf)) (fun ρ x_ t k => (by kernel_rfl)) (fun x_ => by kernel_rfl))
theorem R_badOp.p10 : PcA R_badOp.G Tryd.f58 10 :=
  loop_ok (s := R_badOp.c100025r) (by kernel_rfl) (by kernel_rfl) (loops_of (sh := R_badOp.c100025s) (I := fun x_ s_ => (x_.1, x_.2.1, x_.2.2.1, x_.2.2.2.1, x_.2.2.2.2.1, x_.2.2.2.2.2.1, s_, x_.2.2.2.2.2.2.2)) (fun x_ => rfl) (fun ρ x_ s_ k_ => (nat_br (nat_bnd fun _ => (nat_br nat_leaf nat_leaf)) nat_leaf)) (fun ρ x_ t k => (nat_sel (fun _ => (by kernel_rfl)) (fun _ => (by kernel_rfl)))) (fun x_ s => by kernel_rfl))
theorem R_badOp.p11 : PcA R_badOp.G Tryd.f58 11 :=
  region_ok (s := R_badOp.c27r) (by kernel_rfl) (by kernel_rfl) (sums_of (sh := R_badOp.c27s) (fun ρ x_ k_ => (nat_bnd fun _ => (nat_br nat_leaf (nat_bnd fun _ => (nat_br nat_leaf (nat_bnd fun _ => nat_leaf)))))) (fun ρ x_ t k => (by kernel_rfl)) (fun x_ => by kernel_rfl))
theorem R_badOp.ok : CalleeOk Tryd.prog 58 R_badOp.ce := fn_ok (G := R_badOp.G) tab_ok mixed Tryd.func58 ⟨(fns_cons R_member.ok fns_nil), mfns_nil, tab_eqs_ok⟩ (m := 12) (by kernel_rfl) ⟨⟨⟨⟨⟨⟨⟨⟨⟨⟨⟨⟨trivial, R_badOp.p0⟩, R_badOp.p1⟩, R_badOp.p2⟩, R_badOp.p3⟩, R_badOp.p4⟩, R_badOp.p5⟩, R_badOp.p6⟩, R_badOp.p7⟩, R_badOp.p8⟩, R_badOp.p9⟩, R_badOp.p10⟩, R_badOp.p11⟩ (by kernel_rfl) R_badOp.eq
def R_Check.c1 {ρ : Type} (c0 : Int) (k_ : Bool → Option ρ) : Option ρ :=
  br (decide (c0 < (1 : Int)))
   (k_ true)
   (k_ (decide (c0 > (12 : Int))))
def R_Check.c1s : Shape := ⟨[(0, vb34), (1, vb2), (2, vb12)], [(1, vb27), (2, vb10)]⟩
def R_Check.c1x0 : Shape := ⟨[(0, vb34), (1, vb2), (2, vb12), (12, vb11)], [(1, vb27), (2, vb10)]⟩
def R_Check.c1r : Ck := Ck.of (T := Bool) R_Check.c1s (fun ρ x_ k_ => R_Check.c1 x_.2.1 k_) (fun ρ x_ r_ k_ => k_ 0 (Shape.inj R_Check.c1x0 (x_.1, r_, x_.2)))
def R_Check.c3 {ρ : Type} (c1 : Int) (k_ : Bool → Option ρ) : Option ρ :=
  br (decide (c1 < (0 : Int)))
   (k_ true)
   (k_ (decide (c1 > (12 : Int))))
def R_Check.c3s : Shape := R_Check.c1s
def R_Check.c3x0 : Shape := ⟨[(0, vb34), (1, vb2), (2, vb12), (21, vb11)], [(1, vb27), (2, vb10)]⟩
def R_Check.c3r : Ck := Ck.of (T := Bool) R_Check.c3s (fun ρ x_ k_ => R_Check.c3 x_.2.2.1 k_) (fun ρ x_ r_ k_ => k_ 0 (Shape.inj R_Check.c3x0 (x_.1, r_, x_.2)))
def R_Check.c10 {ρ : Type} (i : Int) (c0 : Int) (c1 : Int) (c2 : List ((Int) × ((Int) × ((List Int) × ((Int) × ((Int) × (List Int))))))) (k_ : Int → Option ρ) : Option ρ :=
  bnd (idx c2 i) fun y =>
  bnd (W.R_badOp y c0 c1) fun y_1 =>
  k_ y_1
def R_Check.c10s : Shape := ⟨[(0, vb34), (1, vb2), (2, vb12), (3, vb1)], [(1, vb27), (2, vb10)]⟩
def R_Check.c10x0 : Shape := ⟨[(0, vb34), (1, vb2), (2, vb12), (3, vb1), (4, vb1)], [(1, vb27), (2, vb10)]⟩
def R_Check.c10r : Ck := Ck.of (T := Int) R_Check.c10s (fun ρ x_ k_ => R_Check.c10 x_.2.1 x_.2.2.1 x_.2.2.2.1 x_.2.2.2.2.1 k_) (fun ρ x_ r_ k_ => k_ 0 (Shape.inj R_Check.c10x0 (x_.1, x_.2.1, r_, x_.2.2)))
def R_Check.c100008 {ρ : Type} (i : Int) (c0 : Int) (c1 : Int) (c2 : List ((Int) × ((Int) × ((List Int) × ((Int) × ((Int) × (List Int))))))) (k_ : (Int) ⊕ (((Int) × (Int) × (Int)) ⊕ (Int)) → Option ρ) : Option ρ :=
  br (decide (i < (↑(List.length c2) : Int)))
   (bnd (W.R_Check.c10 i c0 c1 c2 some) fun y =>
    br (y != (0 : Int))
     (bnd (W.R_rfault y i) fun y_1 =>
      k_ (.inr (.inl (i, (Prod.fst y_1), (Prod.snd y_1)))))
     (k_ (.inl (IntKind.wrap IntKind.i64 (i + (1 : Int))))))
   (k_ (.inr (.inr i)))
def R_Check.c100008s : Shape := R_Check.c10s
def R_Check.c100008x0 : Shape := R_Check.c10s
def R_Check.c100008x1 : Shape := R_Check.c10s
def R_Check.c100008r : Ck := Ck.ofLoop (S := Int) (T := ((Int) × (Int) × (Int)) ⊕ (Int)) R_Check.c100008s (fun x_ => x_.2.1) (fun ρ x_ s_ k_ => R_Check.c100008 s_ x_.2.2.1 x_.2.2.2.1 x_.2.2.2.2.1 k_) (fun ρ x_ r_ k_ => sel r_ (fun r_ => k_ 1 (Shape.inj R_Check.c100008x0 (x_.1, r_.1, x_.2.2.1, x_.2.2.2.1, x_.2.2.2.2.1, r_.2.1, r_.2.2, ()))) (fun r_ => k_ 2 (Shape.inj R_Check.c100008x1 (x_.1, r_, x_.2.2))))
def R_Check (c : (Int) × ((Int) × (List ((Int) × ((Int) × ((List Int) × ((Int) × ((Int) × (List Int))))))))) : Option ((Int) × (Int)) :=
  bnd (W.R_Check.c1 (Prod.fst c) some) fun y =>
  br y
   (bnd (W.R_rfault (6 : Int) (0 : Int)) fun y_1 =>
    some (Prod.fst y_1, Prod.snd y_1))
   (bnd (W.R_Check.c3 (Prod.fst (Prod.snd c)) some) fun y_2 =>
    br y_2
     (bnd (W.R_rfault (7 : Int) (0 : Int)) fun y_3 =>
      some (Prod.fst y_3, Prod.snd y_3))
     (br (decide ((↑(List.length (Prod.snd (Prod.snd c))) : Int) > (4096 : Int)))
       (bnd (W.R_rfault (2 : Int) (0 : Int)) fun y_4 =>
        some (Prod.fst y_4, Prod.snd y_4))
       (bnd (iter (fun s ↦ W.R_Check.c100008 s (Prod.fst c) (Prod.fst (Prod.snd c)) (Prod.snd (Prod.snd c)) some) (0 : Int)) fun y_5 =>
        sel y_5
         (fun u => some (Prod.fst (Prod.snd u), Prod.snd (Prod.snd u)))
         (fun v => some ((0 : Int), (0 : Int))))))
def R_Check.ce : Go.Ql.Callee := ⟨[(.st (.pair (.int .i64) (.pair (.int .i64) (.sl (.st (.pair (.int .i64) (.pair (.int .i64) (.pair (.sl (.int .i64)) (.pair (.int .i64) (.pair (.int .i64) (.sl (.int .i64))))))))))))], [(.st (.pair (.int .i64) (.int .i64)))], fun x_ => R_Check x_⟩
def R_Check.G : Env := ⟨51, tab, [(36, R_rfault.ce), (58, R_badOp.ce)], [0, 1, 2, 3, 4, 12, 21, 26, 32, 46], [], [(10, [⟨[], [], [37, 40, 41, 42, 43], []⟩, ⟨[0], [], [37, 40, 41, 42, 43], []⟩, ⟨[], [], [35, 36, 40, 41, 42, 43], []⟩, ⟨[1, 0, 2], [], [40, 41, 42, 43], []⟩, ⟨[3, 1, 0, 2], [], [40, 41, 42, 43], []⟩, ⟨[], [], [35, 36, 37, 38, 39, 42, 43], []⟩, ⟨[5], [], [35, 36, 37, 38, 39, 42, 43], []⟩, ⟨[], [], [35, 36, 37, 38, 39, 40, 41], []⟩, ⟨[7], [], [35, 36, 37, 38, 39, 40, 41], []⟩, ⟨[4, 3, 1, 0, 2, 6, 5, 8, 7], [], [], []⟩, ⟨[9, 4, 3, 1, 0, 2, 6, 5, 8, 7], [], [], []⟩])], [(100008, R_Check.c100008r), (10, R_Check.c10r), (3, R_Check.c3r), (1, R_Check.c1r)], [], tab_eqs⟩
theorem R_Check.eq (x_ : dens R_Check.ce.params) : den R_Check.G Tryd.f37 R_Check.ce.params R_Check.ce.res x_ = R_Check.ce.F x_ := by kernel_rfl
theorem R_Check.p0 : PcA R_Check.G Tryd.f37 0 :=
  region_ok (s := R_Check.c1r) (by kernel_rfl) (by kernel_rfl) (sums_of (sh := R_Check.c1s) (fun ρ x_ k_ => (nat_br nat_leaf nat_leaf)) (fun ρ x_ t k => (by kernel_rfl)) (fun x_ => by kernel_rfl))
theorem R_Check.p1 : PcA R_Check.G Tryd.f37 1 :=
  region_ok (s := R_Check.c3r) (by kernel_rfl) (by kernel_rfl) (sums_of (sh := R_Check.c3s) (fun ρ x_ k_ => (nat_br nat_leaf nat_leaf)) (fun ρ x_ t k => (by kernel_rfl)) (fun x_ => by kernel_rfl))
theorem R_Check.p2 : PcA R_Check.G Tryd.f37 2 :=
  loop_ok (s := R_Check.c100008r) (by kernel_rfl) (by kernel_rfl) (loops_of (sh := R_Check.c100008s) (I := fun x_ s_ => (x_.1, s_, x_.2.2)) (fun x_ => rfl) (fun ρ x_ s_ k_ => (nat_br (nat_bnd fun _ => (nat_br (nat_bnd fun _ => nat_leaf) nat_leaf)) nat_leaf)) (fun ρ x_ t k => (nat_sel (fun _ => (by kernel_rfl)) (fun _ => (by kernel_rfl)))) (fun x_ s => by kernel_rfl))
theorem R_Check.p3 : PcA R_Check.G Tryd.f37 3 :=
  region_ok (s := R_Check.c10r) (by kernel_rfl) (by kernel_rfl) (sums_of (sh := R_Check.c10s) (fun ρ x_ k_ => (nat_bnd fun _ => (nat_bnd fun _ => nat_leaf))) (fun ρ x_ t k => (by kernel_rfl)) (fun x_ => by kernel_rfl))
theorem R_Check.ok : CalleeOk Tryd.prog 37 R_Check.ce := fn_ok (G := R_Check.G) tab_ok mixed Tryd.func37 ⟨(fns_cons R_rfault.ok (fns_cons R_badOp.ok fns_nil)), mfns_nil, tab_eqs_ok⟩ (m := 4) (by kernel_rfl) ⟨⟨⟨⟨trivial, R_Check.p0⟩, R_Check.p1⟩, R_Check.p2⟩, R_Check.p3⟩ (by kernel_rfl) R_Check.eq
def R_bitOf (x : Int) (q : Int) : Option (Int) :=
  bnd (okIf (decide ((0 : Int) ≤ q))) fun y =>
  some (ibits BinOp.and IntKind.i64 (Int.fdiv x ((2 : Int) ^ Min.min (Int.toNat q) (64 : Nat))) (1 : Int))
def R_bitOf.ce : Go.Ql.Callee := ⟨[(.int .i64), (.int .i64)], [(.int .i64)], fun x_ => R_bitOf x_.1 x_.2⟩
def R_bitOf.G : Env := ⟨9, tab, [], [0, 1, 4], [], [], [], [], tab_eqs⟩
theorem R_bitOf.eq (x_ : dens R_bitOf.ce.params) : den R_bitOf.G Tryd.f39 R_bitOf.ce.params R_bitOf.ce.res x_ = R_bitOf.ce.F x_ := by kernel_rfl
theorem R_bitOf.ok : CalleeOk Tryd.prog 39 R_bitOf.ce := fn_ok (G := R_bitOf.G) tab_ok mixed Tryd.func39 ⟨fns_nil, mfns_nil, tab_eqs_ok⟩ (m := 0) (by kernel_rfl) trivial (by kernel_rfl) R_bitOf.eq
def R_allOne.c100002 {ρ : Type} (x : Int) (qs : List (Int)) (i : Int) (k_ : (Int) ⊕ ((Int) ⊕ (Int)) → Option ρ) : Option ρ :=
  br (decide (i < (↑(List.length qs) : Int)))
   (bnd (idx qs i) fun y =>
    bnd (W.R_bitOf x y) fun y_1 =>
    br (y_1 == (0 : Int))
     (k_ (.inr (.inl i)))
     (k_ (.inl (IntKind.wrap IntKind.i64 (i + (1 : Int))))))
   (k_ (.inr (.inr i)))
def R_allOne.c100002s : Shape := ⟨[(0, vb1), (1, vb15), (4, vb11), (5, vb1)], []⟩
def R_allOne.c100002x0 : Shape := R_allOne.c100002s
def R_allOne.c100002x1 : Shape := R_allOne.c100002s
def R_allOne.c100002r : Ck := Ck.ofLoop (S := Int) (T := (Int) ⊕ (Int)) R_allOne.c100002s (fun x_ => x_.2.2.2.1) (fun ρ x_ s_ k_ => R_allOne.c100002 x_.1 x_.2.1 s_ k_) (fun ρ x_ r_ k_ => sel r_ (fun r_ => k_ 1 (Shape.inj R_allOne.c100002x0 (x_.1, x_.2.1, false, r_, ()))) (fun r_ => k_ 2 (Shape.inj R_allOne.c100002x1 (x_.1, x_.2.1, x_.2.2.1, r_, ()))))
def R_allOne (x : Int) (qs : List (Int)) : Option (Bool) :=
  bnd (iter (fun s ↦ W.R_allOne.c100002 x qs s some) (0 : Int)) fun y =>
  sel y
   (fun u => some false)
   (fun v => some true)
def R_allOne.ce : Go.Ql.Callee := ⟨[(.int .i64), (.sl (.int .i64))], [.bool], fun x_ => R_allOne x_.1 x_.2⟩
def R_allOne.G : Env := ⟨19, tab, [(39, R_bitOf.ce)], [0, 1, 4, 5, 9, 18], [], [], [(100002, R_allOne.c100002r)], [], tab_eqs⟩
theorem R_allOne.eq (x_ : dens R_allOne.ce.params) : den R_allOne.G Tryd.f38 R_allOne.ce.params R_allOne.ce.res x_ = R_allOne.ce.F x_ := by kernel_rfl
theorem R_allOne.p0 : PcA R_allOne.G Tryd.f38 0 :=
  loop_ok (s := R_allOne.c100002r) (by kernel_rfl) (by kernel_rfl) (loops_of (sh := R_allOne.c100002s) (I := fun x_ s_ => (x_.1, x_.2.1, x_.2.2.1, s_, ())) (fun x_ => rfl) (fun ρ x_ s_ k_ => (nat_br (nat_bnd fun _ => (nat_bnd fun _ => (nat_br nat_leaf nat_leaf))) nat_leaf)) (fun ρ x_ t k => (nat_sel (fun _ => (by kernel_rfl)) (fun _ => (by kernel_rfl)))) (fun x_ s => by kernel_rfl))
theorem R_allOne.ok : CalleeOk Tryd.prog 38 R_allOne.ce := fn_ok (G := R_allOne.G) tab_ok mixed Tryd.func38 ⟨(fns_cons R_bitOf.ok fns_nil), mfns_nil, tab_eqs_ok⟩ (m := 1) (by kernel_rfl) ⟨trivial, R_allOne.p0⟩ (by kernel_rfl) R_allOne.eq
end
end W
end
