/- Contracts of Go's library; the seat's types; what is known of its variables; the order of monomials, and the sort by it. -/
import Derived.Test.YtajegnlkgnecoaaDoorProg
import Derived.WalkKit
import Derived.Shelf.Spec.TrailingZeros
import Derived.Shelf.Small.Bits
import Derived.Ground.Names2Prog
import Derived.Ground.Names7Prog
import Derived.Test.YtajegnlkgnecoaaDoorLf
import Derived.Test.YtajegnlkgnecoaaDoorPa
import Derived.Shelf.SlSortCmp.Whole1
import Derived.Ground.SlsfProg
import Derived.Shelf.SlSortCmp.NoneTotal
set_option linter.all false
section
namespace Go.Proofs
open Go.Shelf
def Tryd.lays125_ren : Go.Shelf.Ren := ⟨fun | 125 => 40 | 128 => 59 | 129 => 60 | n => n, fun | 46 => 63 | 3 => 3 | 51 => 88 | 53 => 71 | 4 => 4 | 5 => 5 | 9 => 9 | n => n, fun | n => n⟩
theorem Tryd.lays125 : Go.Proofs.Lays.n125 Tryd.prog Tryd.lays125_ren := {
  mixed := by kernel_rfl
  f125 := Tryd.func40.trans (congrArg some (by kernel_rfl))
  f128 := Tryd.func59.trans (congrArg some (by kernel_rfl))
  f129 := Tryd.func60.trans (congrArg some (by kernel_rfl))
  t3 := Tryd.underlying3
  a3 := Tryd.isAgg3
  z3 := Tryd.sizeOf3
  v3 := Tryd.zeroValue3
  t4 := Tryd.underlying4
  a4 := Tryd.isAgg4
  z4 := Tryd.sizeOf4
  v4 := Tryd.zeroValue4
  t5 := Tryd.underlying5
  a5 := Tryd.isAgg5
  z5 := Tryd.sizeOf5
  v5 := Tryd.zeroValue5
  t9 := Tryd.underlying9
  a9 := Tryd.isAgg9
  z9 := Tryd.sizeOf9
  v9 := Tryd.zeroValue9
  t46 := Tryd.underlying63
  a46 := Tryd.isAgg63
  z46 := Tryd.sizeOf63
  v46 := Tryd.zeroValue63
  t51 := Tryd.underlying88
  a51 := Tryd.isAgg88
  z51 := Tryd.sizeOf88
  v51 := Tryd.zeroValue88
  t53 := Tryd.underlying71
  a53 := Tryd.isAgg71
  z53 := Tryd.sizeOf71
  v53 := Tryd.zeroValue71 }
theorem Tryd.bits_Len (x : Int) (w : World) (h0 : 0 ≤ x) (h1 : x ≤ 18446744073709551615) :
    Calls Tryd.prog 40 #[.int .u64 x] w fun e w' => e = .returned (.int .i64 (Lib.bitLen x.toNat)) ∧ w' = w := Any.bits_Len Tryd.lays125 x w h0 h1
def Tryd.lays7x27_ren : Go.Shelf.Ren := ⟨fun | 27 => 33 | 28 => 55 | 29 => 56 | n => n, fun | 25 => 63 | 3 => 3 | 27 => 88 | 22 => 71 | 4 => 4 | 53 => 99 | 0 => 0 | 5 => 5 | 54 => 100 | n => n, fun | 0 => 0 | 1 => 1 | n => n⟩
theorem Tryd.lays7x27 : Go.Proofs.Lays7.n27 Tryd.prog Tryd.lays7x27_ren := {
  mixed := by kernel_rfl
  f27 := Tryd.func33.trans (congrArg some (by kernel_rfl))
  f28 := Tryd.func55.trans (congrArg some (by kernel_rfl))
  f29 := Tryd.func56.trans (congrArg some (by kernel_rfl))
  t0 := Tryd.underlying0
  a0 := Tryd.isAgg0
  z0 := Tryd.sizeOf0
  v0 := Tryd.zeroValue0
  i0 := by kernel_rfl
  t3 := Tryd.underlying3
  a3 := Tryd.isAgg3
  z3 := Tryd.sizeOf3
  v3 := Tryd.zeroValue3
  i3 := by kernel_rfl
  t4 := Tryd.underlying4
  a4 := Tryd.isAgg4
  z4 := Tryd.sizeOf4
  v4 := Tryd.zeroValue4
  i4 := by kernel_rfl
  t5 := Tryd.underlying5
  a5 := Tryd.isAgg5
  z5 := Tryd.sizeOf5
  v5 := Tryd.zeroValue5
  i5 := by kernel_rfl
  t22 := Tryd.underlying71
  a22 := Tryd.isAgg71
  z22 := Tryd.sizeOf71
  v22 := Tryd.zeroValue71
  i22 := by kernel_rfl
  t25 := Tryd.underlying63
  a25 := Tryd.isAgg63
  z25 := Tryd.sizeOf63
  v25 := Tryd.zeroValue63
  i25 := by kernel_rfl
  t27 := Tryd.underlying88
  a27 := Tryd.isAgg88
  z27 := Tryd.sizeOf88
  v27 := Tryd.zeroValue88
  i27 := by kernel_rfl
  t53 := Tryd.underlying99
  a53 := Tryd.isAgg99
  z53 := Tryd.sizeOf99
  v53 := Tryd.zeroValue99
  i53 := by kernel_rfl
  t54 := Tryd.underlying100
  a54 := Tryd.isAgg100
  z54 := Tryd.sizeOf100
  g0 := by kernel_rfl
  g1 := by kernel_rfl }
theorem Tryd.bits_TrailingZeros (x : Nat) (hx : x < 18446744073709551616) (w : World) (hT : x ≠ 0 → TabAt (Tryd.lays7x27_ren.g 1) Lib.deBruijn64tab w) :
    Calls Tryd.prog 33 #[.int .u64 x] w fun e w' => e = .returned (.int .i64 (Lib.ctz 64 x)) ∧ w' = w := Any7.bits_TrailingZeros Tryd.lays7x27 x hx w hT
theorem gTab64 : Tryd.lays7x27_ren.g 1 = 1 := by kernel_rfl
end Go.Proofs
end

section
set_option maxHeartbeats 4000000
set_option maxRecDepth 100000
set_option linter.unusedVariables false
namespace W
open Go Go.Ql
noncomputable section
theorem tabAt_keep {w w' : World} {tab : List Nat} (h : ∀ b, b < 2 → w'.heap[b]? = w.heap[b]?) (ht : Go.Proofs.TabAt 1 tab w) : Go.Proofs.TabAt 1 tab w' := by
  intro j hj
  have h0 := h 1 (by omega)
  have := ht j hj
  simp only [World.cell?, h0] at this ⊢
  exact this
theorem tabAt_size {w : World} (ht : Go.Proofs.TabAt 1 Go.Lib.deBruijn64tab w) : 2 ≤ w.heap.size := by
  have := ht 0 (by decide)
  by_cases hs : 2 ≤ w.heap.size
  · exact hs
  · have h0 : w.heap[1]? = none := by rw [Array.getElem?_eq_none_iff]; omega
    simp [World.cell?, h0] at this
instance gInv : GInv := ⟨fun w => Go.Proofs.TabAt 1 Go.Lib.deBruijn64tab w, 2, fun h ht => tabAt_keep h ht, fun ht => tabAt_size ht⟩
def tab : List (Nat × TI) := [(2, ⟨.int .i64, .scalar⟩),
 (3, ⟨.int .i64, .scalar⟩),
 (4, ⟨.bool, .scalar⟩),
 (5, ⟨.int .u8, .scalar⟩),
 (6, ⟨.int .u8, .scalar⟩),
 (7, ⟨.st (.pair (.int .i64) (.pair (.int .i64) (.pair .bool (.int .u8)))), .struct [(0, 2), (1, 3), (2, 4), (3, 6)]⟩),
 (8, ⟨.st (.pair (.int .i64) (.pair (.int .i64) (.pair .bool (.int .u8)))), .struct [(0, 2), (1, 3), (2, 4), (3, 6)]⟩),
 (9, ⟨.str, .scalar⟩),
 (10, ⟨.str, .scalar⟩),
 (11, ⟨.str, .scalar⟩),
 (12, ⟨.int .u64, .scalar⟩),
 (13, ⟨.st (.pair .str (.int .u64)), .struct [(0, 9), (1, 12)]⟩),
 (14, ⟨.st (.pair .str (.int .u64)), .struct [(0, 9), (1, 12)]⟩),
 (15, ⟨.nilv 0, .nul⟩),
 (16, ⟨.nilv 0, .nul⟩),
 (17, ⟨.nilv 0, .nul⟩),
 (18, ⟨.st (.nilv 0), .struct [(0, 17)]⟩),
 (19, ⟨.st (.nilv 0), .struct [(0, 17)]⟩),
 (20, ⟨.nilv 1, .nul⟩),
 (21, ⟨.int .i32, .scalar⟩),
 (22, ⟨.sl (.st (.node (.pair (.int .i64) (.int .i64)))), .slice 24 40⟩),
 (23, ⟨.st (.node (.pair (.int .i64) (.int .i64))), .struct [(0, 3), (1, 3), (2, 22)]⟩),
 (24, ⟨.st (.node (.pair (.int .i64) (.int .i64))), .struct [(0, 3), (1, 3), (2, 22)]⟩),
 (25, ⟨.sl (.st (.pair (.int .i64) (.pair (.int .i64) (.pair (.sl (.int .i64)) (.pair (.int .i64) (.pair (.int .i64) (.sl (.int .i64)))))))), .slice 67 80⟩),
 (26, ⟨.st (.pair (.int .i64) (.pair (.int .i64) (.sl (.st (.pair (.int .i64) (.pair (.int .i64) (.pair (.sl (.int .i64)) (.pair (.int .i64) (.pair (.int .i64) (.sl (.int .i64))))))))))), .struct [(0, 3), (1, 3), (2, 25)]⟩),
 (27, ⟨.st (.pair (.int .i64) (.pair (.int .i64) (.sl (.st (.pair (.int .i64) (.pair (.int .i64) (.pair (.sl (.int .i64)) (.pair (.int .i64) (.pair (.int .i64) (.sl (.int .i64))))))))))), .struct [(0, 3), (1, 3), (2, 25)]⟩),
 (28, ⟨.st (.pair (.int .i64) (.int .i64)), .struct [(0, 3), (1, 3)]⟩),
 (29, ⟨.st (.pair (.int .i64) (.int .i64)), .struct [(0, 3), (1, 3)]⟩),
 (41, ⟨.sl (.int .i64), .slice 3 8⟩),
 (47, ⟨.sl (.sl (.int .i64)), .slice 41 24⟩),
 (56, ⟨.st (.pair (.sl (.st (.pair (.int .i64) (.pair (.int .i64) (.pair (.sl (.int .i64)) (.pair (.int .i64) (.pair (.int .i64) (.sl (.int .i64))))))))) (.int .i64)), .struct [(0, 25), (1, 3)]⟩),
 (57, ⟨.st (.pair (.sl (.st (.pair (.int .i64) (.pair (.int .i64) (.pair (.sl (.int .i64)) (.pair (.int .i64) (.pair (.int .i64) (.sl (.int .i64))))))))) (.int .i64)), .struct [(0, 25), (1, 3)]⟩),
 (58, ⟨.st (.pair (.int .i64) .bool), .struct [(0, 3), (1, 4)]⟩),
 (59, ⟨.st (.pair (.int .i64) .bool), .struct [(0, 3), (1, 4)]⟩),
 (63, ⟨.int .u64, .scalar⟩),
 (66, ⟨.st (.pair (.int .i64) (.pair (.int .i64) (.pair (.sl (.int .i64)) (.pair (.int .i64) (.pair (.int .i64) (.sl (.int .i64))))))), .struct [(0, 3), (1, 3), (2, 41), (3, 3), (4, 3), (5, 41)]⟩),
 (67, ⟨.st (.pair (.int .i64) (.pair (.int .i64) (.pair (.sl (.int .i64)) (.pair (.int .i64) (.pair (.int .i64) (.sl (.int .i64))))))), .struct [(0, 3), (1, 3), (2, 41), (3, 3), (4, 3), (5, 41)]⟩),
 (71, ⟨.int .u64, .scalar⟩),
 (77, ⟨.nilv 0, .nul⟩),
 (78, ⟨.ar 256 (.int .u8), .arr 256 5⟩),
 (79, ⟨.ar 256 (.int .u8), .arr 256 5⟩),
 (84, ⟨.nilv 0, .nul⟩),
 (88, ⟨.int .u32, .scalar⟩),
 (97, ⟨.nilv 0, .nul⟩),
 (99, ⟨.ar 32 (.int .u8), .arr 32 5⟩),
 (100, ⟨.ar 64 (.int .u8), .arr 64 5⟩),
 (103, ⟨.ar 12 .bool, .arr 12 4⟩),
 (105, ⟨.int .i64, .scalar⟩),
 (112, ⟨.int .u64, .scalar⟩),
 (117, ⟨.nilv 0, .nul⟩),
 (121, ⟨.st (.pair (.nilv 0) (.pair (.nilv 0) (.pair (.nilv 0) .str))), .struct [(0, 17), (1, 17), (2, 17), (3, 9)]⟩),
 (122, ⟨.st (.pair (.nilv 0) (.pair (.nilv 0) (.pair (.nilv 0) .str))), .struct [(0, 17), (1, 17), (2, 17), (3, 9)]⟩),
 (123, ⟨.ar 0 (.nilv 0), .arr 0 16⟩),
 (124, ⟨.st (.ar 0 (.nilv 0)), .struct [(0, 123)]⟩),
 (125, ⟨.st (.ar 0 (.nilv 0)), .struct [(0, 123)]⟩),
 (127, ⟨.int .u8, .scalar⟩),
 (128, ⟨.int .u8, .scalar⟩),
 (130, ⟨.nilv 0, .nul⟩),
 (131, ⟨.int .i32, .scalar⟩),
 (132, ⟨.int .i32, .scalar⟩),
 (133, ⟨.st (.pair (.int .u64) (.pair (.int .u64) (.pair (.int .u32) (.pair (.int .u8) (.pair (.int .u8) (.pair (.int .u8) (.pair (.int .u8) (.pair (.nilv 3) (.pair (.nilv 0) (.pair (.int .i32) (.int .i32))))))))))), .struct [(0, 12), (1, 12), (2, 88), (3, 127), (4, 5), (5, 5), (6, 128), (7, 129), (8, 130), (9, 131), (10, 132)]⟩),
 (134, ⟨.st (.pair (.int .u64) (.pair (.int .u64) (.pair (.int .u32) (.pair (.int .u8) (.pair (.int .u8) (.pair (.int .u8) (.pair (.int .u8) (.pair (.nilv 3) (.pair (.nilv 0) (.pair (.int .i32) (.int .i32))))))))))), .struct [(0, 12), (1, 12), (2, 88), (3, 127), (4, 5), (5, 5), (6, 128), (7, 129), (8, 130), (9, 131), (10, 132)]⟩)]
theorem mixed : Go.Proofs.Tryd.prog.follows .mixedOrders = true := by kernel_rfl
theorem tab_ok : TabOk Go.Proofs.Tryd.prog tab := tabB_ok (by kernel_rfl)
def tab_eqs : List Nat := [29]
theorem tab_eqs_ok : EqsOk Go.Proofs.Tryd.prog tab tab_eqs := eqsB_ok (by kernel_rfl)
def bits_TrailingZeros (x : Int) : Option Int := bif decide (0 ≤ x) && decide (x < 18446744073709551616) then some (Go.Lib.ctz 64 x.toNat : Int) else none
def bits_TrailingZeros.ce : Go.Ql.Callee := ⟨[(.int .u64)], [(.int .i64)], fun x_ => bits_TrailingZeros x_⟩
theorem bits_TrailingZeros.some {x r : Int} (h : bits_TrailingZeros x = Option.some r) : ∃ n : Nat, x = n ∧ n < 18446744073709551616 ∧ r = (Go.Lib.ctz 64 n : Int) := by
  unfold bits_TrailingZeros at h
  cases hb : decide (0 ≤ x) && decide (x < 18446744073709551616) with
  | false => rw [hb] at h; cases h
  | true =>
    rw [hb] at h
    simp only [Bool.and_eq_true, decide_eq_true_eq] at hb
    obtain ⟨n, rfl⟩ := Int.eq_ofNat_of_zero_le hb.1
    have h := Option.some.inj h
    exact ⟨n, rfl, by omega, by rw [← h, Int.toNat_natCast]⟩
theorem bits_TrailingZeros.ok : CalleeOk Go.Proofs.Tryd.prog 33 bits_TrailingZeros.ce := by
  refine ⟨⟨Go.Proofs.Tryd.f33, Go.Proofs.Tryd.func33, by kernel_rfl, by kernel_rfl⟩, fun w Z vs x r hg hZ ha hr => ?_⟩
  obtain ⟨v, rfl, hv⟩ := ha
  change [v] = [Value.int .u64 x] at hv
  obtain rfl := List.cons.inj hv |>.1
  obtain ⟨n, hn, hx, hr'⟩ := bits_TrailingZeros.some hr
  subst hr'
  have hn' : Value.int .u64 x = Value.int .u64 (n : Int) := congrArg _ hn
  rw [hn']
  exact (Go.Proofs.Tryd.bits_TrailingZeros n hx w (fun _ => by rw [Go.Proofs.gTab64]; exact hg)).mono fun e w' ⟨he, hw⟩ => ⟨_, he, hw ▸ Same.refl w, rfl⟩
theorem bits_Len.ex : ∃ f : Int → Option Int, ∀ x, f x = bif decide (0 ≤ x) && decide (x < 18446744073709551616) then some (Go.Lib.bitLen x.toNat : Int) else none := ⟨_, fun _ => rfl⟩
def bits_Len : Int → Option Int := bits_Len.ex.choose
theorem bits_Len.is (x : Int) : bits_Len x = bif decide (0 ≤ x) && decide (x < 18446744073709551616) then some (Go.Lib.bitLen x.toNat : Int) else none := bits_Len.ex.choose_spec x
def bits_Len.ce : Go.Ql.Callee := ⟨[(.int .u64)], [(.int .i64)], fun x_ => bits_Len x_⟩
theorem bits_Len.ok : CalleeOk Go.Proofs.Tryd.prog 40 bits_Len.ce := by
  refine ⟨⟨Go.Proofs.Tryd.f40, Go.Proofs.Tryd.func40, by kernel_rfl, by kernel_rfl⟩, fun w Z vs x r hg hZ ha hr => ?_⟩
  obtain ⟨v, rfl, hv⟩ := ha
  change [v] = [Value.int .u64 x] at hv
  obtain rfl := List.cons.inj hv |>.1
  have hr : bits_Len x = Option.some r := hr
  change Int at x
  rw [bits_Len.is] at hr
  cases hb : decide (0 ≤ x) && decide (x < 18446744073709551616) with
  | false => rw [hb] at hr; cases hr
  | true =>
    rw [hb] at hr
    simp only [Bool.and_eq_true, decide_eq_true_eq] at hb
    obtain rfl := Option.some.inj hr
    exact (Go.Proofs.Tryd.bits_Len x w hb.1 (by omega)).mono fun e w' ⟨he, hw⟩ => ⟨_, he, hw ▸ Same.refl w, rfl⟩
end
end W
end

section
set_option maxHeartbeats 4000000
set_option maxRecDepth 100000
set_option linter.unusedVariables false
namespace W
open Go Go.Ql Go.Proofs
noncomputable section
def cmp_isNaN_int (x : Int) : Option (Bool) :=
  some (x != x)
def cmp_isNaN_int.ce : Go.Ql.Callee := ⟨[(.int .i64)], [.bool], fun x_ => cmp_isNaN_int x_⟩
def cmp_isNaN_int.G : Env := ⟨6, tab, [], [0, 2], [], [], [], [], tab_eqs⟩
theorem cmp_isNaN_int.eq (x_ : dens cmp_isNaN_int.ce.params) : den cmp_isNaN_int.G Tryd.f72 cmp_isNaN_int.ce.params cmp_isNaN_int.ce.res x_ = cmp_isNaN_int.ce.F x_ := by kernel_rfl
theorem cmp_isNaN_int.ok : CalleeOk Tryd.prog 72 cmp_isNaN_int.ce := fn_ok (G := cmp_isNaN_int.G) tab_ok mixed Tryd.func72 ⟨fns_nil, mfns_nil, tab_eqs_ok⟩ (m := 0) (by kernel_rfl) trivial (by kernel_rfl) cmp_isNaN_int.eq
def cmp_Compare_int (x : Int) (y : Int) : Option (Int) :=
  bnd (W.cmp_isNaN_int x) fun y_1 =>
  bnd (W.cmp_isNaN_int y) fun y_2 =>
  br y_1
   (br y_2
     (some (0 : Int))
     (some (-1 : Int)))
   (br y_2
     (some (1 : Int))
     (br (decide (x < y))
       (some (-1 : Int))
       (br (decide (x > y))
         (some (1 : Int))
         (some (0 : Int)))))
def cmp_Compare_int.ce : Go.Ql.Callee := ⟨[(.int .i64), (.int .i64)], [(.int .i64)], fun x_ => cmp_Compare_int x_.1 x_.2⟩
def cmp_Compare_int.G : Env := ⟨20, tab, [(72, cmp_isNaN_int.ce)], [0, 1, 4, 5, 6, 11, 12, 13, 16, 19], [], [], [], [], tab_eqs⟩
theorem cmp_Compare_int.eq (x_ : dens cmp_Compare_int.ce.params) : den cmp_Compare_int.G Tryd.f65 cmp_Compare_int.ce.params cmp_Compare_int.ce.res x_ = cmp_Compare_int.ce.F x_ := by kernel_rfl
theorem cmp_Compare_int.ok : CalleeOk Tryd.prog 65 cmp_Compare_int.ce := fn_ok (G := cmp_Compare_int.G) tab_ok mixed Tryd.func65 ⟨(fns_cons cmp_isNaN_int.ok fns_nil), mfns_nil, tab_eqs_ok⟩ (m := 0) (by kernel_rfl) trivial (by kernel_rfl) cmp_Compare_int.eq
abbrev vq0 : SD := .one (.val (.sl (.int .i64)))
abbrev vq1 : SD := .one (.val (.int .i64))
def slices_Compare_int.c100002 {ρ : Type} (s2 : List (Int)) (t9 : List (Int)) (t10 : Int) (t11 : Int) (k_ : (Int) ⊕ (((Int) × (Int)) ⊕ (Int)) → Option ρ) : Option ρ :=
  br (decide (t11 < t10))
   (bnd (idx t9 t11) fun y =>
    br (decide (t11 ≥ (↑(List.length s2) : Int)))
     (k_ (.inr (.inl ((1 : Int), t11))))
     (bnd (idx s2 t11) fun y_1 =>
      bnd (W.cmp_Compare_int y y_1) fun y_2 =>
      br (y_2 != (0 : Int))
       (k_ (.inr (.inl (y_2, t11))))
       (k_ (.inl (IntKind.wrap IntKind.i64 (t11 + (1 : Int)))))))
   (k_ (.inr (.inr t11)))
def slices_Compare_int.c100002s : Shape := ⟨[(0, vq0), (1, vq0), (4, vq1), (9, vq0), (10, vq1), (11, vq1)], []⟩
def slices_Compare_int.c100002x0 : Shape := slices_Compare_int.c100002s
def slices_Compare_int.c100002x1 : Shape := slices_Compare_int.c100002s
def slices_Compare_int.c100002r : Ck := Ck.ofLoop (S := Int) (T := ((Int) × (Int)) ⊕ (Int)) slices_Compare_int.c100002s (fun x_ => x_.2.2.2.2.2.1) (fun ρ x_ s_ k_ => slices_Compare_int.c100002 x_.2.1 x_.2.2.2.1 x_.2.2.2.2.1 s_ k_) (fun ρ x_ r_ k_ => sel r_ (fun r_ => k_ 1 (Shape.inj slices_Compare_int.c100002x0 (x_.1, x_.2.1, r_.1, x_.2.2.2.1, x_.2.2.2.2.1, r_.2, ()))) (fun r_ => k_ 2 (Shape.inj slices_Compare_int.c100002x1 (x_.1, x_.2.1, x_.2.2.1, x_.2.2.2.1, x_.2.2.2.2.1, r_, ()))))
def slices_Compare_int (s1 : List (Int)) (s2 : List (Int)) : Option (Int) :=
  bnd (iter (fun s ↦ W.slices_Compare_int.c100002 s2 s1 (↑(List.length s1) : Int) s some) (0 : Int)) fun y =>
  sel y
   (fun u => some (Prod.fst u))
   (fun v => br (decide ((↑(List.length s1) : Int) < (↑(List.length s2) : Int)))
     (some (-1 : Int))
     (some (0 : Int)))
def slices_Compare_int.ce : Go.Ql.Callee := ⟨[(.sl (.int .i64)), (.sl (.int .i64))], [(.int .i64)], fun x_ => slices_Compare_int x_.1 x_.2⟩
def slices_Compare_int.G : Env := ⟨36, tab, [(65, cmp_Compare_int.ce)], [0, 1, 4, 5, 6, 7, 8, 9, 10, 11, 12, 19, 28, 35], [], [], [(100002, slices_Compare_int.c100002r)], [], tab_eqs⟩
theorem slices_Compare_int.eq (x_ : dens slices_Compare_int.ce.params) : den slices_Compare_int.G Tryd.f66 slices_Compare_int.ce.params slices_Compare_int.ce.res x_ = slices_Compare_int.ce.F x_ := by kernel_rfl
theorem slices_Compare_int.p0 : PcA slices_Compare_int.G Tryd.f66 0 :=
  loop_ok (s := slices_Compare_int.c100002r) (by kernel_rfl) (by kernel_rfl) (loops_of (sh := slices_Compare_int.c100002s) (I := fun x_ s_ => (x_.1, x_.2.1, x_.2.2.1, x_.2.2.2.1, x_.2.2.2.2.1, s_, ())) (fun x_ => rfl) (fun ρ x_ s_ k_ => (nat_br (nat_bnd fun _ => (nat_br nat_leaf (nat_bnd fun _ => (nat_bnd fun _ => (nat_br nat_leaf nat_leaf))))) nat_leaf)) (fun ρ x_ t k => (nat_sel (fun _ => (by kernel_rfl)) (fun _ => (by kernel_rfl)))) (fun x_ s => by kernel_rfl))
theorem slices_Compare_int.ok : CalleeOk Tryd.prog 66 slices_Compare_int.ce := fn_ok (G := slices_Compare_int.G) tab_ok mixed Tryd.func66 ⟨(fns_cons cmp_Compare_int.ok fns_nil), mfns_nil, tab_eqs_ok⟩ (m := 1) (by kernel_rfl) ⟨trivial, slices_Compare_int.p0⟩ (by kernel_rfl) slices_Compare_int.eq
def cmp_Or_int.c100003 {ρ : Type} (zero : Int) (t6 : List (Int)) (t7 : Int) (t8 : Int) (k_ : (Int) ⊕ (((Int) × (Int)) ⊕ (Int)) → Option ρ) : Option ρ :=
  br (decide (t8 < t7))
   (bnd (idx t6 t8) fun y =>
    br (y != zero)
     (k_ (.inr (.inl (y, t8))))
     (k_ (.inl (IntKind.wrap IntKind.i64 (t8 + (1 : Int))))))
   (k_ (.inr (.inr t8)))
def cmp_Or_int.c100003s : Shape := ⟨[(0, vq0), (2, vq1), (3, vq1), (6, vq0), (7, vq1), (8, vq1)], []⟩
def cmp_Or_int.c100003x0 : Shape := cmp_Or_int.c100003s
def cmp_Or_int.c100003x1 : Shape := cmp_Or_int.c100003s
def cmp_Or_int.c100003r : Ck := Ck.ofLoop (S := Int) (T := ((Int) × (Int)) ⊕ (Int)) cmp_Or_int.c100003s (fun x_ => x_.2.2.2.2.2.1) (fun ρ x_ s_ k_ => cmp_Or_int.c100003 x_.2.2.1 x_.2.2.2.1 x_.2.2.2.2.1 s_ k_) (fun ρ x_ r_ k_ => sel r_ (fun r_ => k_ 1 (Shape.inj cmp_Or_int.c100003x0 (x_.1, r_.1, x_.2.2.1, x_.2.2.2.1, x_.2.2.2.2.1, r_.2, ()))) (fun r_ => k_ 2 (Shape.inj cmp_Or_int.c100003x1 (x_.1, x_.2.1, x_.2.2.1, x_.2.2.2.1, x_.2.2.2.2.1, r_, ()))))
def cmp_Or_int (vals : List (Int)) : Option (Int) :=
  bnd (iter (fun s ↦ W.cmp_Or_int.c100003 (0 : Int) vals (↑(List.length vals) : Int) s some) (0 : Int)) fun y =>
  sel y
   (fun u => some (Prod.fst u))
   (fun v => some (0 : Int))
def cmp_Or_int.ce : Go.Ql.Callee := ⟨[(.sl (.int .i64))], [(.int .i64)], fun x_ => cmp_Or_int x_⟩
def cmp_Or_int.G : Env := ⟨18, tab, [], [0, 2, 3, 5, 6, 7, 8, 9, 14], [], [], [(100003, cmp_Or_int.c100003r)], [], tab_eqs⟩
theorem cmp_Or_int.eq (x_ : dens cmp_Or_int.ce.params) : den cmp_Or_int.G Tryd.f64 cmp_Or_int.ce.params cmp_Or_int.ce.res x_ = cmp_Or_int.ce.F x_ := by kernel_rfl
theorem cmp_Or_int.p0 : PcA cmp_Or_int.G Tryd.f64 0 :=
  loop_ok (s := cmp_Or_int.c100003r) (by kernel_rfl) (by kernel_rfl) (loops_of (sh := cmp_Or_int.c100003s) (I := fun x_ s_ => (x_.1, x_.2.1, x_.2.2.1, x_.2.2.2.1, x_.2.2.2.2.1, s_, ())) (fun x_ => rfl) (fun ρ x_ s_ k_ => (nat_br (nat_bnd fun _ => (nat_br nat_leaf nat_leaf)) nat_leaf)) (fun ρ x_ t k => (nat_sel (fun _ => (by kernel_rfl)) (fun _ => (by kernel_rfl)))) (fun x_ s => by kernel_rfl))
theorem cmp_Or_int.ok : CalleeOk Tryd.prog 64 cmp_Or_int.ce := fn_ok (G := cmp_Or_int.G) tab_ok mixed Tryd.func64 ⟨fns_nil, mfns_nil, tab_eqs_ok⟩ (m := 1) (by kernel_rfl) ⟨trivial, cmp_Or_int.p0⟩ (by kernel_rfl) cmp_Or_int.eq
def rev_column_normal_1 (a : List (Int)) (b : List (Int)) : Option (Int) :=
  bnd (W.cmp_Compare_int (↑(List.length a) : Int) (↑(List.length b) : Int)) fun y =>
  bnd (W.slices_Compare_int a b) fun y_1 =>
  bnd (W.cmp_Or_int [y, y_1]) fun y_2 =>
  some y_2
def rev_column_normal_1.ce : Go.Ql.Callee := ⟨[(.sl (.int .i64)), (.sl (.int .i64))], [(.int .i64)], fun x_ => rev_column_normal_1 x_.1 x_.2⟩
def rev_column_normal_1.G : Env := ⟨15, tab, [(65, cmp_Compare_int.ce), (66, slices_Compare_int.ce), (64, cmp_Or_int.ce)], [0, 1, 4], [], [], [], [], tab_eqs⟩
theorem rev_column_normal_1.eq (x_ : dens rev_column_normal_1.ce.params) : den rev_column_normal_1.G Tryd.f63 rev_column_normal_1.ce.params rev_column_normal_1.ce.res x_ = rev_column_normal_1.ce.F x_ := by kernel_rfl
theorem rev_column_normal_1.ok : CalleeOk Tryd.prog 63 rev_column_normal_1.ce := fn_ok (G := rev_column_normal_1.G) tab_ok mixed Tryd.func63 ⟨(fns_cons cmp_Compare_int.ok (fns_cons slices_Compare_int.ok (fns_cons cmp_Or_int.ok fns_nil))), mfns_nil, tab_eqs_ok⟩ (m := 0) (by kernel_rfl) trivial (by kernel_rfl) rev_column_normal_1.eq
end
end W
end

section
set_option linter.unusedSectionVars false
namespace W
open Go Go.Ql
noncomputable section
def cmpI (x y : Int) : Int := if x < y then -1 else if y < x then 1 else 0
def cmpL : List Int → List Int → Int
  | [], [] => 0
  | [], _ :: _ => -1
  | _ :: _, [] => 1
  | a :: l, b :: m => if cmpI a b = 0 then cmpL l m else cmpI a b
def cmpZ (a b : List Int) : Int := if cmpI (a.length : Int) (b.length : Int) = 0 then cmpL a b else cmpI (a.length : Int) (b.length : Int)
theorem cmpI_zero {x y : Int} : cmpI x y = 0 ↔ x = y := by unfold cmpI; split <;> (try split) <;> omega
theorem cmpI_lt {x y : Int} : cmpI x y < 0 ↔ x < y := by unfold cmpI; split <;> (try split) <;> omega
theorem cmp_Compare_ok (x y : Int) : cmp_Compare_int x y = some (cmpI x y) := by
  have h (z : Int) : cmp_isNaN_int z = some false := by simp [cmp_isNaN_int]
  unfold cmp_Compare_int cmpI
  simp only [h, bnd_val]
  by_cases h1 : x < y
  · simp [br, h1]
  · by_cases h2 : y < x
    · simp [br, h1, h2]
    · simp [br, h1, h2]
theorem slices_Compare_ok (a b : List Int) (ha : a.length ≤ 9223372036854775807) : slices_Compare_int a b = some (cmpL a b) := by
  unfold slices_Compare_int
  have key : ∃ r, iter (fun s => slices_Compare_int.c100002 b a (a.length : Int) s Option.some) (0 : Int) = some r ∧
      sel r (fun u => some (Prod.fst u)) (fun _ => br (Decidable.decide ((a.length : Int) < (b.length : Int))) (some (-1 : Int)) (some (0 : Int))) = some (cmpL a b) := by
    refine iter_loop (J := fun s : Int => ∃ k : Nat, s = k ∧ k ≤ a.length ∧ k ≤ b.length ∧ cmpL (a.drop k) (b.drop k) = cmpL a b) (fun s : Int => a.length - s.toNat) ?_ ⟨0, rfl, Nat.zero_le _, Nat.zero_le _, rfl⟩
    rintro s ⟨k, rfl, h1, h2, h3⟩
    by_cases hk : k < a.length
    · have da : a.drop k = a[k] :: a.drop (k + 1) := List.drop_eq_getElem_cons hk
      by_cases hb : k < b.length
      · have db : b.drop k = b[k] :: b.drop (k + 1) := List.drop_eq_getElem_cons hb
        rw [da, db, cmpL] at h3
        by_cases hz : cmpI a[k] b[k] = 0
        · refine .inr ⟨((k + 1 : Nat) : Int), ?_, ⟨k + 1, rfl, hk, hb, by rw [if_pos hz] at h3; exact h3⟩, by omega⟩
          simp only [slices_Compare_int.c100002]
          rw [br_pos (by omega), idx_get hk, bnd_val, br_neg (by omega), idx_get hb, bnd_val, cmp_Compare_ok, bnd_val, br_false (by simp [hz]), wrap_i64 (by omega)]
          rfl
        · refine .inl ⟨.inl (cmpI a[k] b[k], (k : Int)), ?_, ?_⟩
          · simp only [slices_Compare_int.c100002]
            rw [br_pos (by omega), idx_get hk, bnd_val, br_neg (by omega), idx_get hb, bnd_val, cmp_Compare_ok, bnd_val, br_true (by simp [hz])]
          · rw [sel_inl, ← h3, if_neg hz]
      · refine .inl ⟨.inl (1, (k : Int)), ?_, ?_⟩
        · simp only [slices_Compare_int.c100002]
          rw [br_pos (by omega), idx_get hk, bnd_val, br_pos (by omega)]
        · rw [sel_inl, ← h3, da, @List.drop_eq_nil_of_le _ b k (by omega), cmpL]
    · refine .inl ⟨.inr (k : Int), ?_, ?_⟩
      · simp only [slices_Compare_int.c100002]
        rw [br_neg (by omega)]
      · rw [sel_inr, ← h3, @List.drop_eq_nil_of_le _ a k (by omega)]
        by_cases hb : k < b.length
        · rw [List.drop_eq_getElem_cons hb, cmpL, br_pos (by omega)]
        · rw [@List.drop_eq_nil_of_le _ b k (by omega), cmpL, br_neg (by omega)]
  obtain ⟨r, h1, h2⟩ := key
  rw [h1, bnd_val]
  exact h2
theorem cmp_Or_ok (x y : Int) : cmp_Or_int [x, y] = some (if x = 0 then y else x) := by
  unfold cmp_Or_int
  have i0 : idx [x, y] (0 : Int) = some x := rfl
  have i1 : idx [x, y] (1 : Int) = some y := rfl
  have w0 : IntKind.i64.wrap ((0 : Int) + 1) = 1 := by decide
  have w1 : IntKind.i64.wrap ((1 : Int) + 1) = 2 := by decide
  have a0 (t : Int) (ht : t = 0 ∨ t = 1) : ∀ {ρ : Type} (k : Int ⊕ ((Int × Int) ⊕ Int) → Option ρ), cmp_Or_int.c100003 0 [x, y] (([x, y] : List Int).length : Int) t k = bnd (idx [x, y] t) fun v => br (v != 0) (k (.inr (.inl (v, t)))) (k (.inl (IntKind.i64.wrap (t + 1)))) := by
    intro ρ k
    simp only [cmp_Or_int.c100003]
    rw [br_pos (by simp only [List.length_cons, List.length_nil]; omega)]
  have a2 : ∀ {ρ : Type} (k : Int ⊕ ((Int × Int) ⊕ Int) → Option ρ), cmp_Or_int.c100003 0 [x, y] (([x, y] : List Int).length : Int) 2 k = k (.inr (.inr 2)) := by
    intro ρ k
    simp only [cmp_Or_int.c100003]
    rw [br_neg (by simp only [List.length_cons, List.length_nil]; omega)]
  by_cases hx : x = 0
  · by_cases hy : y = 0
    · rw [iter_inl (s' := (1 : Int)) (r := .inr (2 : Int)), bnd_val, sel_inr, if_pos hx, hy]
      · rw [a0 0 (.inl rfl), i0, bnd_val, br_false (by simp [hx]), w0]
      · refine iter_inl (s' := (2 : Int)) ?_ (iter_inr ?_)
        · rw [a0 1 (.inr rfl), i1, bnd_val, br_false (by simp [hy]), w1]
        · rw [a2]
    · rw [iter_inl (s' := (1 : Int)) (r := .inl (y, (1 : Int))), bnd_val, sel_inl, if_pos hx]
      · rw [a0 0 (.inl rfl), i0, bnd_val, br_false (by simp [hx]), w0]
      · refine iter_inr ?_
        rw [a0 1 (.inr rfl), i1, bnd_val, br_true (by simp [hy])]
  · rw [iter_inr (r := .inl (x, (0 : Int))), bnd_val, sel_inl, if_neg hx]
    rw [a0 0 (.inl rfl), i0, bnd_val, br_true (by simp [hx])]
theorem normal_1_ok (a b : List Int) (ha : a.length ≤ 9223372036854775807) : rev_column_normal_1 a b = some (cmpZ a b) := by
  unfold rev_column_normal_1 cmpZ
  rw [cmp_Compare_ok, bnd_val, slices_Compare_ok a b ha, bnd_val, cmp_Or_ok, bnd_val]
theorem cmpL_anti : ∀ a b : List Int, cmpL b a = - cmpL a b
  | [], [] => rfl
  | [], _ :: _ => rfl
  | _ :: _, [] => rfl
  | x :: l, y :: m => by
    have := cmpL_anti l m
    simp only [cmpL, cmpI]
    grind
theorem cmpZ_anti (a b : List Int) : cmpZ b a = - cmpZ a b := by
  have := cmpL_anti a b
  simp only [cmpZ, cmpI]
  grind
theorem cmpL_zero : ∀ {a b : List Int}, cmpL a b = 0 → a = b
  | [], [], _ => rfl
  | [], _ :: _, h => by simp [cmpL] at h
  | _ :: _, [], h => by simp [cmpL] at h
  | x :: l, y :: m, h => by
    rw [cmpL] at h
    by_cases hz : cmpI x y = 0
    · rw [if_pos hz] at h
      rw [cmpI_zero.1 hz, cmpL_zero h]
    · rw [if_neg hz] at h
      exact absurd h hz
theorem cmpL_self : ∀ a : List Int, cmpL a a = 0
  | [] => rfl
  | x :: l => by rw [cmpL, if_pos (cmpI_zero.2 rfl), cmpL_self l]
theorem cmpZ_self (a : List Int) : cmpZ a a = 0 := by rw [cmpZ, if_pos (cmpI_zero.2 rfl), cmpL_self]
theorem cmpZ_zero {a b : List Int} (h : cmpZ a b = 0) : a = b := by
  unfold cmpZ at h
  split at h
  · exact cmpL_zero h
  · contradiction
theorem cmpL_trans : ∀ {a b c : List Int}, cmpL a b ≤ 0 → cmpL b c ≤ 0 → cmpL a c ≤ 0
  | [], [], [], _, _ => by simp [cmpL]
  | [], _, _ :: _, _, _ => by simp [cmpL]
  | _ :: _, [], _, h, _ => by simp [cmpL] at h
  | [], _ :: _, [], _, h => by simp [cmpL] at h
  | _ :: _, _ :: _, [], _, h => by simp [cmpL] at h
  | x :: l, y :: m, z :: n, h, k => by
    have := @cmpL_trans l m n
    simp only [cmpL, cmpI] at h k ⊢
    grind
theorem cmpZ_trans {a b c : List Int} (h : cmpZ a b ≤ 0) (k : cmpZ b c ≤ 0) : cmpZ a c ≤ 0 := by
  have := @cmpL_trans a b c
  simp only [cmpZ, cmpI] at h k ⊢
  grind
end
end W
end

section
set_option linter.unusedSectionVars false
set_option maxHeartbeats 1000000
namespace Go.Proofs
open Go.Shelf
def Tryd.laysSort_ren : Go.Shelf.Ren := ⟨fun | 6 => 62 | 15 => 40 | 14 => 71 | 28 => 59 | 29 => 60 | 20 => 75 | 21 => 76 | 22 => 77 | 23 => 78 | 24 => 79 | 25 => 80 | 26 => 81 | 27 => 82 | 46 => 83 | 47 => 84 | 48 => 85 | 49 => 86 | 50 => 87 | 57 => 88 | n => n, fun | 22 => 47 | 24 => 41 | 25 => 95 | 3 => 3 | 39 => 63 | 0 => 0 | 53 => 88 | 55 => 71 | 4 => 4 | 46 => 106 | 45 => 105 | 50 => 110 | 5 => 5 | 9 => 9 | 66 => 112 | 70 => 77 | 76 => 117 | 77 => 118 | n => n, fun | n => n⟩
theorem Tryd.laysSort : Go.Proofs.SlLaysF.n6 Tryd.prog Tryd.laysSort_ren := {
  mixed := by kernel_rfl
  f6 := ⟨Tryd.f62.name, by decide, Tryd.func62.trans (congrArg some (by kernel_rfl))⟩
  f14 := ⟨Tryd.f71.name, by decide, Tryd.func71.trans (congrArg some (by kernel_rfl))⟩
  f15 := Tryd.func40.trans (congrArg some (by kernel_rfl))
  f20 := ⟨Tryd.f75.name, by decide, Tryd.func75.trans (congrArg some (by kernel_rfl))⟩
  f21 := ⟨Tryd.f76.name, by decide, Tryd.func76.trans (congrArg some (by kernel_rfl))⟩
  f22 := ⟨Tryd.f77.name, by decide, Tryd.func77.trans (congrArg some (by kernel_rfl))⟩
  f23 := ⟨Tryd.f78.name, by decide, Tryd.func78.trans (congrArg some (by kernel_rfl))⟩
  f24 := ⟨Tryd.f79.name, by decide, Tryd.func79.trans (congrArg some (by kernel_rfl))⟩
  f25 := ⟨Tryd.f80.name, by decide, Tryd.func80.trans (congrArg some (by kernel_rfl))⟩
  f26 := ⟨Tryd.f81.name, by decide, Tryd.func81.trans (congrArg some (by kernel_rfl))⟩
  f27 := ⟨Tryd.f82.name, by decide, Tryd.func82.trans (congrArg some (by kernel_rfl))⟩
  f28 := Tryd.func59.trans (congrArg some (by kernel_rfl))
  f29 := Tryd.func60.trans (congrArg some (by kernel_rfl))
  f46 := ⟨Tryd.f83.name, by decide, Tryd.func83.trans (congrArg some (by kernel_rfl))⟩
  f47 := Tryd.func84.trans (congrArg some (by kernel_rfl))
  f48 := Tryd.func85.trans (congrArg some (by kernel_rfl))
  f49 := ⟨Tryd.f86.name, by decide, Tryd.func86.trans (congrArg some (by kernel_rfl))⟩
  f50 := ⟨Tryd.f87.name, by decide, Tryd.func87.trans (congrArg some (by kernel_rfl))⟩
  f57 := ⟨Tryd.f88.name, by decide, Tryd.func88.trans (congrArg some (by kernel_rfl))⟩
  t0 := Tryd.underlying0
  a0 := Tryd.isAgg0
  z0 := Tryd.sizeOf0
  v0 := Tryd.zeroValue0
  t3 := Tryd.underlying3
  a3 := Tryd.isAgg3
  z3 := Tryd.sizeOf3
  v3 := Tryd.zeroValue3
  t4 := Tryd.underlying4
  a4 := Tryd.isAgg4
  z4 := Tryd.sizeOf4
  v4 := Tryd.zeroValue4
  t5 := Tryd.underlying5
  a5 := Tryd.isAgg5
  z5 := Tryd.sizeOf5
  v5 := Tryd.zeroValue5
  t9 := Tryd.underlying9
  a9 := Tryd.isAgg9
  z9 := Tryd.sizeOf9
  v9 := Tryd.zeroValue9
  t22 := Tryd.underlying47
  a22 := Tryd.isAgg47
  z22 := Tryd.sizeOf47
  v22 := Tryd.zeroValue47
  a24 := Tryd.isAgg41
  z24 := Tryd.sizeOf41
  t25 := Tryd.underlying95
  a25 := Tryd.isAgg95
  z25 := Tryd.sizeOf95
  v25 := Tryd.zeroValue95
  t39 := Tryd.underlying63
  a39 := Tryd.isAgg63
  z39 := Tryd.sizeOf63
  v39 := Tryd.zeroValue63
  t45 := Tryd.underlying105
  a45 := Tryd.isAgg105
  z45 := Tryd.sizeOf105
  v45 := Tryd.zeroValue105
  t46 := Tryd.underlying106
  a46 := Tryd.isAgg106
  z46 := Tryd.sizeOf106
  v46 := Tryd.zeroValue106
  t50 := Tryd.underlying110
  a50 := Tryd.isAgg110
  z50 := Tryd.sizeOf110
  v50 := Tryd.zeroValue110
  t53 := Tryd.underlying88
  a53 := Tryd.isAgg88
  z53 := Tryd.sizeOf88
  v53 := Tryd.zeroValue88
  t55 := Tryd.underlying71
  a55 := Tryd.isAgg71
  z55 := Tryd.sizeOf71
  v55 := Tryd.zeroValue71
  t66 := Tryd.underlying112
  a66 := Tryd.isAgg112
  z66 := Tryd.sizeOf112
  v66 := Tryd.zeroValue112
  t70 := Tryd.underlying77
  a70 := Tryd.isAgg77
  z70 := Tryd.sizeOf77
  v70 := Tryd.zeroValue77
  t76 := Tryd.underlying117
  a76 := Tryd.isAgg117
  z76 := Tryd.sizeOf117
  v76 := Tryd.zeroValue117
  t77 := Tryd.underlying118
  a77 := Tryd.isAgg118
  z77 := Tryd.sizeOf118
  v77 := Tryd.zeroValue118 }
end Go.Proofs
namespace W
open Go Go.Ql
noncomputable section
def Al (w : World) (Z : Nat → Prop) : Type := { p : Value × List Int // rdC w Z (.sl (.int .i64)) [p.1] p.2 }
instance (w : World) (Z : Nat → Prop) : Inhabited (Al w Z) := ⟨⟨(.slice none 0 0, []), _, rfl, .inl ⟨rfl, rfl⟩⟩⟩
def Al.v {w : World} {Z : Nat → Prop} (x : Al w Z) : Value := x.1.1
def Al.d {w : World} {Z : Nat → Prop} (x : Al w Z) : List Int := x.1.2
theorem Al.one (w : World) (Z : Nat → Prop) : Go.Proofs.OneCell (Al.v (w := w) (Z := Z)) := fun x => by
  obtain ⟨⟨v, d⟩, v', e, h⟩ := x
  obtain rfl := (List.cons.inj e).1
  rcases h with ⟨h, _⟩ | ⟨b, off, cap, cells, h, _⟩ | ⟨ad, cap, h, _⟩ <;> exact (congrArg Value.oneCell' h).trans rfl
theorem Al.len {w : World} {Z : Nat → Prop} (x : Al w Z) : x.d.length ≤ 9223372036854775807 := by
  obtain ⟨⟨v, d⟩, v', e, h⟩ := x
  show List.length d ≤ _
  rcases h with ⟨_, h⟩ | ⟨b, off, cap, cells, _, h1, h2, _⟩ | ⟨ad, cap, _, h, _⟩
  · have h : d = [] := h
    rw [h]; simp
  · have h1 : List.length d ≤ cap := h1
    simp only [maxLen] at h2
    omega
  · have h : d = [] := h
    rw [h]; simp
theorem cmpZ_swo : Go.Sort.SWO (Go.Proofs.ltOf cmpZ) where
  irrefl x := by simp [Go.Proofs.ltOf, cmpZ_self]
  trans x y z h k := by
    simp only [Go.Proofs.ltOf, decide_eq_true_eq] at h k ⊢
    have h1 := cmpZ_trans (a := x) (b := y) (c := z) (by omega) (by omega)
    have h2 : cmpZ x z ≠ 0 := fun e => by
      have e := cmpZ_zero e
      subst e
      have := cmpZ_anti x y
      omega
    omega
  ntrans x y z h k := by
    simp only [Go.Proofs.ltOf, decide_eq_false_iff_not] at h k ⊢
    have a1 := cmpZ_anti x y
    have a2 := cmpZ_anti y z
    have a3 := cmpZ_anti x z
    have := cmpZ_trans (a := z) (b := y) (c := x) (by omega) (by omega)
    omega
theorem Al.swo (w : World) (Z : Nat → Prop) : Go.Sort.SWO (Go.Proofs.ltOf fun x y : Al w Z => cmpZ x.d y.d) where
  irrefl x := cmpZ_swo.irrefl x.d
  trans x y z h k := cmpZ_swo.trans x.d y.d z.d h k
  ntrans x y z h k := cmpZ_swo.ntrans x.d y.d z.d h k
theorem Same.grow {a b : World} (h : Same a b) : ∃ q os, b = Go.Sort.grow (a.drewN q) os := by
  refine ⟨b.drawn - a.drawn, b.heap.extract a.heap.size b.heap.size, ?_⟩
  obtain ⟨bh, bt, bd, bo, bp⟩ := b
  obtain ⟨h1, h2, h3, h4, h5, h6⟩ := h
  simp only at h1 h2 h3 h4 h5 h6
  subst h1 h2 h3
  simp only [Go.Sort.grow, World.drewN, World.mk.injEq, and_true, true_and]
  refine ⟨?_, by omega⟩
  apply Array.ext_getElem?
  intro i
  rw [Array.getElem?_append]
  split
  · exact h5 i (by assumption)
  · rw [Array.getElem?_extract]
    split
    · congr 1; omega
    · rw [Array.getElem?_eq_none]; omega
theorem Al.of {w : World} {Z : Nat → Prop} : ∀ {xs : List (List Int)} {cells : List Value}, rdAll (rdC w Z (.sl (.int .i64))) cells xs → ∃ ds : List (Al w Z), ds.map Al.v = cells ∧ ds.map Al.d = xs
  | [], cells, h => ⟨[], by simp only [rdAll] at h; rw [h]; rfl, rfl⟩
  | x :: r, cells, ⟨c1, c2, e, h1, h2⟩ => by
    obtain ⟨ds, e1, e2⟩ := Al.of h2
    have h1' := h1
    obtain ⟨v, rfl, _⟩ := h1
    exact ⟨(show Al w Z from ⟨(v, x), h1'⟩) :: ds, by rw [List.map_cons, e1, e]; rfl, by rw [List.map_cons, e2]; rfl⟩
theorem Al.rd {w w' : World} {Z Z' : Nat → Prop} (hk : Kept w w' Z Z') : ∀ ds : List (Al w Z), rdAll (rdC w' Z' (.sl (.int .i64))) (ds.map Al.v) (ds.map Al.d)
  | [] => rfl
  | x :: r => ⟨[x.v], r.map Al.v, rfl, rdC_kept hk _ x.2, Al.rd hk r⟩
open Go.Sort in
theorem sort_calls (w : World) (Z : Nat → Prop) (g cap : Nat) (ds : List (Al w Z)) (cur : Array Value) (e : TypeId) (hrow : rowAt w g cur e) (hcap : ds.length ≤ cap) (hsz : cur.size = cap * 1)
    (htake : cur.toList.take (ds.length * 1) = ds.map Al.v) (hZ : ∀ b, Z b → b < w.heap.size ∧ b ≠ g) (hg : GInv.ok w) (hgn : GInv.n ≤ g) (hlen : ds.length < 4611686018427387904) :
    Calls Go.Proofs.Tryd.prog 62 #[.slice (some ⟨g, 0, none⟩) ds.length cap, .func (.func 63) #[] #[]] w fun e w' =>
      e = .returned (.tuple #[]) ∧ ∃ (ds' : List (Al w Z)) (n : Nat) (os : Array Obj), ds'.map Al.d = (ds.map Al.d).mergeSort (fun x y => !Go.Proofs.ltOf cmpZ y x) ∧ ds'.length = ds.length ∧ w' = Go.Proofs.sortWorld Al.v w g 0 n ds'.toArray os := by
  obtain ⟨fz, hh, hf⟩ := hrow
  have hblk : g < w.heap.size := (Array.getElem?_eq_some_iff.1 hh).1
  have hcs : cur.size = cap := by omega
  have hH : Holds (Al.v (w := w) (Z := Z)) w g 0 ds.toArray := by
    intro j hj
    have hj : j < ds.length := by simpa using hj
    constructor
    · have h1 : (cur.toList.take (ds.length * 1))[j]? = (ds.map Al.v)[j]? := by rw [htake]
      rw [List.getElem?_take, if_pos (by omega), List.getElem?_map, List.getElem?_eq_getElem hj] at h1
      simp only [World.cell?, hh, Nat.zero_add]
      rw [← Array.getElem?_toList, getElem!_pos ds.toArray j (by simpa using hj)]
      simpa using h1
    · simp only [World.frozen?, hh, Nat.zero_add]
      rcases hf with rfl | hf
      · simp
      · simp only [Bool.and_eq_false_iff, decide_eq_false_iff_not]
        left; omega
  have hcmp : Go.Proofs.CmpLays1 Go.Proofs.Tryd.prog 63 #[] (Al.v (w := w) (Z := Z)) (fun x y => cmpZ x.d y.d) g 0 ds.toArray.size w := by
    intro m os dk hs x y
    have hW : ∀ b, b < w.heap.size → b ≠ g → (Go.Proofs.sortWorld Al.v w g 0 m dk os).heap[b]? = w.heap[b]? := by
      intro b hb hne
      simp only [Go.Proofs.sortWorld, Go.Sort.grow, Go.Sort.putRow, Go.Sort.mapBlock, Go.Sort.ahead]
      rw [Array.getElem?_append_left (by simpa using hb), Array.getElem?_modify, if_neg (Ne.symm hne)]
    have hsz' : w.heap.size ≤ (Go.Proofs.sortWorld Al.v w g 0 m dk os).heap.size := by
      simp [Go.Proofs.sortWorld, Go.Sort.grow, Go.Sort.putRow, Go.Sort.mapBlock, Go.Sort.ahead]
    have hk : Kept w (Go.Proofs.sortWorld Al.v w g 0 m dk os) Z Z := fun b hb => ⟨hb, hW b (hZ b hb).1 (hZ b hb).2⟩
    have h := rev_column_normal_1.ok.calls (Go.Proofs.sortWorld Al.v w g 0 m dk os) Z [x.v, y.v] (x.d, y.d) (cmpZ x.d y.d)
      (GInv.keep (fun b hb => hW b (Nat.lt_of_lt_of_le hb (GInv.size hg)) (by omega)) hg) (fun b hb => Nat.lt_of_lt_of_le (hZ b hb).1 hsz')
      ⟨x.v, [y.v], rfl, rdC_kept hk _ x.2, y.v, rfl, rdC_kept hk _ y.2⟩ (normal_1_ok _ _ x.len)
    refine h.mono ?_
    rintro e w' ⟨v, rfl, hs, hr⟩
    have hr : [v] = [Value.int .i64 (cmpZ x.d y.d)] := hr
    exact ⟨by rw [(List.cons.inj hr).1], Same.grow hs⟩
  have h := Go.Proofs.Any.slices_SortFunc Go.Proofs.Tryd.laysSort Al.v (Al.one w Z) (fun x y => cmpZ x.d y.d) (Al.swo w Z) 63 #[] g 0 cap ds.toArray w
    (Go.Proofs.enters_of Go.Proofs.Tryd.func63 (by kernel_rfl) rfl) hcmp hH hblk (by simpa using hlen)
  have e1 : ds.toArray.size = ds.length := by simp
  rw [e1] at h
  refine h.mono ?_
  rintro e w' ⟨rfl, d', n, os, hp, hs, rfl⟩
  have hsize : d'.size = ds.length := by simpa using hp.1
  refine ⟨rfl, d'.toList, n, os, ?_, by simpa using hsize, by simp⟩
  have hmap : ∀ i, i < d'.size → (d'.map Al.d)[i]! = Al.d d'[i]! := fun i hi => by
    rw [getElem!_pos _ i (by simpa using hi), getElem!_pos d' i hi, Array.getElem_map]
  have key := Go.Sort.sorted_unique_holds (lt := Go.Proofs.ltOf cmpZ) cmpZ_swo (fun x y h k => by
    simp only [Go.Proofs.ltOf, decide_eq_false_iff_not] at h k
    have := cmpZ_anti x y
    exact cmpZ_zero (by omega)) (ds.toArray.map Al.d) (d'.map Al.d) ⟨by simp [hsize], fun i hi => by
      rcases hi with hi | hi
      · omega
      · rw [getElem!_neg _ i (by simpa [hsize] using hi), getElem!_neg _ i (by simpa using hi)], by
      have hp2 := (hp.2.2).map Al.d
      have h1 : (d'.map Al.d).extract 0 ds.length = d'.map Al.d := by rw [show ds.length = (d'.map Al.d).size by simp [hsize]]; exact Array.extract_size
      have h2 : (ds.toArray.map Al.d).extract 0 ds.length = ds.toArray.map Al.d := by rw [show ds.length = (ds.toArray.map Al.d).size from by simp]; exact Array.extract_size
      have h3 : d'.extract 0 ds.length = d' := by rw [← hsize]; exact Array.extract_size
      have h4 : ds.toArray.extract 0 ds.length = ds.toArray := by rw [← e1]; exact Array.extract_size
      rw [show (ds.toArray.map Al.d).size = ds.length by simp, h1, h2]
      rw [h3, h4] at hp2
      simpa using hp2⟩ (fun i j hi hij hj => by
      have hj' : j < d'.size := by rw [hsize]; simpa using hj
      rw [hmap i (by omega), hmap j hj']
      exact hs i j hi hij (by omega))
  simpa using key
end
end W
end

section
set_option linter.unusedVariables false
set_option linter.unusedSectionVars false
set_option maxHeartbeats 1000000
namespace W
open Go Go.Ql
noncomputable section
def monLe (a b : List Int) : Bool := !Go.Proofs.ltOf cmpZ b a
theorem slices_SortFunc_int.ex : ∃ f : List (List Int) → Option (List (List Int) × Unit), ∀ xs, f xs = if xs.length < 4611686018427387904 then some (xs.mergeSort monLe, ()) else none := ⟨_, fun _ => rfl⟩
def slices_SortFunc_int : List (List Int) → Option (List (List Int) × Unit) := slices_SortFunc_int.ex.choose
theorem slices_SortFunc_int.is (xs : List (List Int)) : slices_SortFunc_int xs = if xs.length < 4611686018427387904 then some (xs.mergeSort monLe, ()) else none := slices_SortFunc_int.ex.choose_spec xs
def slices_SortFunc_int.pre : Shape := ⟨[(0, .one (.own 2000000 0)), (1, .one (.fn 63))], [(2000000, .arr 0 false 41 (.sl (.int .i64)))]⟩
def slices_SortFunc_int.post : Shape := ⟨[], [(2000000, .arr 0 false 41 (.sl (.int .i64)))]⟩
def slices_SortFunc_int.mc : MCallee := ⟨62, slices_SortFunc_int.pre, slices_SortFunc_int.post, fun x_ => slices_SortFunc_int x_.1⟩
theorem slices_SortFunc_none (cap : Nat) (p : Option Addr) (fv : Value) (w : World) :
    Calls Go.Proofs.Tryd.prog 62 #[.slice p 0 cap, fv] w fun e w' => e = .returned (.tuple #[]) ∧ w' = w := Go.Proofs.AnyF.slices_SortFunc_none { Go.Proofs.Tryd.laysSort with } p cap fv w
abbrev sObjs (xs : List (List Int)) : List (Nat × Ob) := [(2000000, .arr 0 false 41 (.sl (.int .i64)) xs)]
theorem sObjs_look {xs : List (List Int)} {id : Nat} {ob : Ob} (h : Ql.look (sObjs xs) id = some ob) : id = 2000000 ∧ ob = .arr 0 false 41 (.sl (.int .i64)) xs := by
  simp only [Ql.look] at h
  cases hb : Nat.beq 2000000 id with
  | true => rw [hb] at h; exact ⟨(Nat.eq_of_beq_eq_true hb).symm, (Option.some.inj h).symm⟩
  | false => rw [hb] at h; cases h
theorem sObjs_owned {nm : Names} {xs : List (List Int)} {b : Nat} : owned nm (sObjs xs) b ↔ blk (nm 2000000) = some b := by
  constructor
  · rintro ⟨id, ob, h1, _, h3⟩
    rw [(sObjs_look h1).1] at h3
    exact h3
  · exact fun h => ⟨2000000, _, rfl, rfl, h⟩
theorem sPost {w w' : World} {Z : Nat → Prop} {nm : Names} {xs ys : List (List Int)} (hs : SameBut (Bs.of Z nm (sObjs xs)).m w w')
    (hlt : ∀ b, blk (nm 2000000) = some b → b < w.heap.size)
    (ho : rdO w' (Zc w (Bs.of Z nm (sObjs xs)) nm (sObjs ys) w') nm (sObjs ys) 2000000 (.arr 0 false 41 (.sl (.int .i64)) ys)) :
    Post w w' (Bs.of Z nm (sObjs xs)) nm (⟨[], sObjs ys⟩ : St) (.tuple #[]) where
  same := hs
  res := ⟨#[], rfl, rfl, fun i p u h => by cases h⟩
  objs id ob h := by
    obtain ⟨rfl, rfl⟩ := sObjs_look h
    exact ho
  new id ob b h hb := by
    obtain ⟨rfl, rfl⟩ := sObjs_look h
    exact ⟨.inr (sObjs_owned.2 hb), Nat.lt_of_lt_of_le (hlt b hb) hs.size⟩
  inj id id' ob ob' b h h' _ _ := (sObjs_look h).1.trans (sObjs_look h').1.symm
  given _ _ _ _ _ := rfl
  mine id ob h := by
    obtain ⟨rfl, rfl⟩ := sObjs_look h
    rfl
theorem slices_SortFunc_int.ok : MOk Go.Proofs.Tryd.prog 62 slices_SortFunc_int.mc := by
  refine ⟨⟨Go.Proofs.Tryd.f62, Go.Proofs.Tryd.func62, by kernel_rfl, by kernel_rfl⟩, fun w Z nm vs x y hp hy => ?_⟩
  obtain ⟨xs, ⟨⟩⟩ := x
  obtain ⟨ys, ⟨⟩⟩ := y
  change List (List Int) at xs ys
  have hy : slices_SortFunc_int xs = some (ys, ()) := hy
  rw [slices_SortFunc_int.is] at hy
  by_cases hl : xs.length < 4611686018427387904
  case neg => rw [if_neg hl] at hy; cases hy
  rw [if_pos hl] at hy
  have hys : xs.mergeSort monLe = ys := congrArg Prod.fst (Option.some.inj hy)
  have hp : Pre w Z nm (⟨[(0, .one (.own 2000000 0)), (1, .one (.fn 63))], sObjs xs⟩ : St) vs := hp
  show Calls _ 62 vs.toArray w fun e w' => ∃ v nm', e = .returned v ∧ Post w w' (Bs.of Z nm (sObjs xs)) nm' (⟨[], sObjs ys⟩ : St) v
  obtain ⟨len, slots, objs, lt, inj, zlt, mine, glob⟩ := hp
  match vs, len with
  | [v0, v1], _ =>
    have s0 : v0 = nm 2000000 := (slots 0 _ v0 rfl rfl).2 false 41 (.sl (.int .i64)) xs rfl
    have s1 : v1 = .func (.func 63) #[] #[] := slots 1 _ v1 rfl rfl
    subst s0 s1
    have ho : rdArr w (Zc w (Bs.of Z nm (sObjs xs)) nm (sObjs xs) w) (nm 2000000) 41 (.sl (.int .i64)) xs := objs 2000000 _ rfl
    have hlt : ∀ b, blk (nm 2000000) = some b → b < w.heap.size := fun b hb => lt 2000000 _ b rfl hb
    obtain ⟨cells, ⟨hcl, how⟩, hra⟩ := ho.sl rfl
    rcases how with ⟨hnil, hlen0⟩ | ⟨g, cap, cur, hv, hrow, hnc, hcm, hcs, htake⟩
    · have hxs : xs = [] := List.eq_nil_of_length_eq_zero hlen0
      subst hxs
      have hys' : ys = [] := by rw [← hys]; simp
      subst hys'
      show Calls _ 62 #[nm 2000000, _] w _
      rw [hnil]
      refine (slices_SortFunc_none 0 none _ w).mono ?_
      rintro e w' ⟨rfl, rfl⟩
      exact ⟨_, nm, rfl, sPost (SameBut.refl _ _) hlt ho⟩
    · obtain ⟨ds, e1, e2⟩ := Al.of hra
      subst e1
      have hbl : blk (nm 2000000) = some g := by rw [hv]; rfl
      have hgm : (Bs.of Z nm (sObjs xs)).m g := sObjs_owned.2 hbl
      have hlen : List.length xs = ds.length := ((congrArg List.length e2).symm.trans (List.length_map _))
      have hcs : cur.size = cap * 1 := hcs
      rw [hlen] at hv hnc htake hl
      show Calls _ 62 #[nm 2000000, _] w _
      rw [hv]
      refine (sort_calls w _ g cap ds cur 41 hrow hnc hcs htake (fun b hb => ⟨hb.1, fun hne => hb.2.2 (hne ▸ hgm)⟩) glob.1 (glob.2 g hgm) hl).mono ?_
      rintro e w' ⟨rfl, ds', n, os, hm, hn, rfl⟩
      obtain ⟨fz, hh, hf⟩ := hrow
      have hblk : g < w.heap.size := hlt g hbl
      have hW : ∀ b, b < w.heap.size → b ≠ g → (Go.Proofs.sortWorld Al.v w g 0 n ds'.toArray os).heap[b]? = w.heap[b]? := by
        intro b hb hne
        simp only [Go.Proofs.sortWorld, Go.Sort.grow, Go.Sort.putRow, Go.Sort.mapBlock, Go.Sort.ahead]
        rw [Array.getElem?_append_left (by simpa using hb), Array.getElem?_modify, if_neg (Ne.symm hne)]
      have hWg : (Go.Proofs.sortWorld Al.v w g 0 n ds'.toArray os).heap[g]? = some (.cells (Go.Sort.putCells Al.v 0 ds'.toArray cur) 41 fz) := by
        simp only [Go.Proofs.sortWorld, Go.Sort.grow, Go.Sort.putRow, Go.Sort.mapBlock, Go.Sort.ahead]
        rw [Array.getElem?_append_left (by simpa using hblk), Array.getElem?_modify, if_pos rfl, hh]
        rfl
      have hsz' : w.heap.size ≤ (Go.Proofs.sortWorld Al.v w g 0 n ds'.toArray os).heap.size := by
        simp [Go.Proofs.sortWorld, Go.Sort.grow, Go.Sort.putRow, Go.Sort.mapBlock, Go.Sort.ahead]
      have hys2 : ds'.map Al.d = ys := by rw [hm, e2]; exact hys
      subst hys2
      refine ⟨_, nm, rfl, sPost ⟨rfl, rfl, rfl, hsz', fun b hb hnm => hW b hb (fun e => hnm (e ▸ hgm)), ?_⟩ hlt ?_⟩
      · show w.drawn ≤ w.drawn + n
        omega
      · have hsz0 : (Go.Sort.putCells (Al.v (w := w) (Z := Zc w (Bs.of Z nm (sObjs xs)) nm (sObjs xs) w)) 0 ds'.toArray cur).size = cur.size := by simp [Go.Sort.putCells]
        refine .inl ⟨rfl, ds'.map Al.v, ⟨by simp [Ty.cells], .inr ⟨g, cap, _, ?_, ⟨fz, hWg, by rw [hsz0]; exact hf⟩, ?_, hcm, by rw [hsz0]; exact hcs, ?_⟩⟩, Al.rd ?_ ds'⟩
        · rw [hv]
          show Value.slice _ ds.length _ = Value.slice _ (ds'.map Al.d).length _
          rw [List.length_map, hn]
        · show (ds'.map Al.d).length ≤ cap
          rw [List.length_map, hn]; exact hnc
        · show List.take ((ds'.map Al.d).length * 1) _ = _
          rw [List.length_map, Nat.mul_one]
          apply List.ext_getElem?
          intro i
          rw [List.getElem?_take, List.getElem?_map, Array.getElem?_toList]
          have hcs2 : ds'.length ≤ cur.size := by omega
          by_cases hi : i < ds'.length
          · rw [if_pos hi, Go.Sort.putCells, Array.getElem?_mapIdx, Array.getElem?_eq_getElem (Nat.lt_of_lt_of_le hi hcs2), List.getElem?_eq_getElem hi]
            simp only [Option.map_some, Nat.zero_add, Nat.zero_le, true_and, Nat.sub_zero, List.size_toArray]
            rw [if_pos hi, getElem!_pos ds'.toArray i (by simpa using hi)]
            simp
          · rw [if_neg hi, List.getElem?_eq_none (Nat.le_of_not_lt hi)]
            rfl
        · intro b hb
          have hne : b ≠ g := fun e => hb.2.2 (e ▸ hgm)
          exact ⟨⟨Nat.lt_of_lt_of_le hb.1 hsz', hb.2.1, fun h => hb.2.2 (sObjs_owned.2 (sObjs_owned.1 h))⟩, hW b hb.1 hne⟩
end
end W
end
