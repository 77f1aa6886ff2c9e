/- The program's types, its variable, TrailingZeros32. -/
import Derived.Test.YtmhhlfpejfajaaaDoorProg
import Derived.WalkKit
import Derived.Shelf.Spec.TrailingZeros
import Derived.Test.YtmhhlfpejfajaaaDoorLf
section
/- math/bits.TrailingZeros32 over this seat's program. -/
namespace Go.Proofs.YtmhhlfpejfajaaaDoor
open Go.RowKit Go.Proofs

theorem gTab : Tryd.prog.globalNamed "math/bits.deBruijn32tab" = some 0 := by kernel_rfl

set_option maxHeartbeats 1000000 in
theorem tz32_core (x k idx : Nat) (w : World) (hx0 : ((x : Int) == 0) = false)
    (key : bits BinOp.and IntKind.u32 (x : Int) (-(x : Int) % 4294967296) * 125613361 % 4294967296 / 134217728 = (idx : Int))
    (hi : idx < 32) (hk : k < 32) (hcell : w.cell? ⟨0, idx, none⟩ = some (.int .u8 k)) :
    Calls Tryd.prog 31 #[.int .u32 x] w fun e w' => e = .returned (.int .i64 k) ∧ w' = w := by
  go_enter Tryd.func31, Tryd.ntmps31
  go_wp2_with (simp only [key])
  go_ret
  exact ⟨rfl, rfl⟩

theorem tz32_zero (w : World) :
    Calls Tryd.prog 31 #[.int .u32 0] w fun e w' => e = .returned (.int .i64 32) ∧ w' = w := by
  go_enter Tryd.func31, Tryd.ntmps31
  go_wp2
  go_ret
  exact ⟨rfl, rfl⟩

/-- math/bits.TrailingZeros32, of every x. -/
theorem tz32 (x : Nat) (hx : x < 4294967296) (w : World) (hT : TabAt 0 Lib.deBruijn32tab w) :
    Calls Tryd.prog 31 #[.int .u32 x] w fun e w' => e = .returned (.int .i64 (Lib.ctz 32 x)) ∧ w' = w := by
  by_cases hx0 : x = 0
  · subst hx0
    exact tz32_zero w
  · obtain ⟨hlow, hk⟩ := Lib.lowest_bit 32 x hx0 hx
    obtain ⟨hi, htab⟩ := Lib.deBruijn32_at _ hk
    have hcell := hT _ hi
    rw [htab] at hcell
    exact tz32_core x _ _ w (by simp; omega) (tz32_key x _ hx hx0 hlow) hi hk hcell
end Go.Proofs.YtmhhlfpejfajaaaDoor
end

section
/- The program's types; what is known of its variable; math/bits.TrailingZeros32. -/
set_option maxHeartbeats 4000000
set_option maxRecDepth 100000
set_option linter.unusedVariables false
namespace W
open Go Go.Ql
noncomputable section
theorem tabAt_keep {w w' : World} {tab : List Nat} (h : ∀ b, b < 1 → w'.heap[b]? = w.heap[b]?) (ht : Go.Proofs.TabAt 0 tab w) : Go.Proofs.TabAt 0 tab w' := by
  intro j hj
  have h0 := h 0 (by omega)
  have := ht j hj
  simp only [World.cell?, h0] at this ⊢
  exact this
theorem tabAt_size {w : World} (ht : Go.Proofs.TabAt 0 Go.Lib.deBruijn32tab w) : 1 ≤ w.heap.size := by
  have h := ht 0 (by decide +kernel)
  cases hs : w.heap.size with
  | succ n => omega
  | zero =>
    have : w.heap[0]? = none := by rw [Array.getElem?_eq_none_iff]; omega
    simp [World.cell?, this] at h
instance gInv : GInv := ⟨fun w => Go.Proofs.TabAt 0 Go.Lib.deBruijn32tab w, 1, fun h ht => tabAt_keep h ht, fun ht => tabAt_size ht⟩
def tab : List (Nat × TI) := [(2, ⟨.int .i64, .scalar⟩),
 (3, ⟨.int .i64, .scalar⟩),
 (4, ⟨.bool, .scalar⟩),
 (5, ⟨.int .u8, .scalar⟩),
 (6, ⟨.int .u8, .scalar⟩),
 (7, ⟨.st (.pair (.int .i64) (.pair (.int .i64) (.pair .bool (.int .u8)))), .struct [(0, 2), (1, 3), (2, 4), (3, 6)]⟩),
 (8, ⟨.st (.pair (.int .i64) (.pair (.int .i64) (.pair .bool (.int .u8)))), .struct [(0, 2), (1, 3), (2, 4), (3, 6)]⟩),
 (9, ⟨.str, .scalar⟩),
 (10, ⟨.str, .scalar⟩),
 (11, ⟨.str, .scalar⟩),
 (12, ⟨.int .u64, .scalar⟩),
 (13, ⟨.st (.pair .str (.int .u64)), .struct [(0, 9), (1, 12)]⟩),
 (14, ⟨.st (.pair .str (.int .u64)), .struct [(0, 9), (1, 12)]⟩),
 (21, ⟨.int .i32, .scalar⟩),
 (22, ⟨.sl (.int .u32), .slice 55 4⟩),
 (23, ⟨.st (.pair .bool (.sl (.int .u32))), .struct [(0, 4), (1, 22)]⟩),
 (24, ⟨.st (.pair .bool (.sl (.int .u32))), .struct [(0, 4), (1, 22)]⟩),
 (25, ⟨.st (.pair (.int .i64) (.int .i64)), .struct [(0, 3), (1, 3)]⟩),
 (26, ⟨.st (.pair (.int .i64) (.int .i64)), .struct [(0, 3), (1, 3)]⟩),
 (29, ⟨.sl (.int .i64), .slice 3 8⟩),
 (30, ⟨.st (.pair .bool (.sl (.int .i64))), .struct [(0, 4), (1, 29)]⟩),
 (31, ⟨.st (.pair .bool (.sl (.int .i64))), .struct [(0, 4), (1, 29)]⟩),
 (54, ⟨.int .u64, .scalar⟩),
 (55, ⟨.int .u32, .scalar⟩),
 (57, ⟨.sl (.int .u8), .slice 5 1⟩),
 (59, ⟨.int .u64, .scalar⟩),
 (68, ⟨.ar 32 (.int .u8), .arr 32 5⟩),
 (76, ⟨.int .u8, .scalar⟩),
 (77, ⟨.int .u8, .scalar⟩),
 (80, ⟨.int .i32, .scalar⟩),
 (81, ⟨.int .i32, .scalar⟩)]
theorem mixed : Go.Proofs.Tryd.prog.follows .mixedOrders = true := by kernel_rfl
theorem tab_ok : TabOk Go.Proofs.Tryd.prog tab := tabB_ok (by kernel_rfl)
def tab_eqs : List Nat := [26]
theorem tab_eqs_ok : EqsOk Go.Proofs.Tryd.prog tab tab_eqs := eqsB_ok (by kernel_rfl)
def bits_TrailingZeros32 (x : Int) : Option Int := bif decide (0 ≤ x) && decide (x < 4294967296) then some (Go.Lib.ctz 32 x.toNat : Int) else none
def bits_TrailingZeros32.ce : Go.Ql.Callee := ⟨[(.int .u32)], [(.int .i64)], fun x_ => bits_TrailingZeros32 x_⟩
theorem bits_TrailingZeros32.some {x r : Int} (h : bits_TrailingZeros32 x = Option.some r) : ∃ n : Nat, x = n ∧ n < 4294967296 ∧ r = (Go.Lib.ctz 32 n : Int) := by
  unfold bits_TrailingZeros32 at h
  cases hb : decide (0 ≤ x) && decide (x < 4294967296) with
  | false => rw [hb] at h; cases h
  | true =>
    rw [hb] at h
    simp only [Bool.and_eq_true, decide_eq_true_eq] at hb
    obtain ⟨n, rfl⟩ := Int.eq_ofNat_of_zero_le hb.1
    have h := Option.some.inj h
    exact ⟨n, rfl, by omega, by rw [← h, Int.toNat_natCast]⟩
theorem bits_TrailingZeros32.ok : CalleeOk Go.Proofs.Tryd.prog 31 bits_TrailingZeros32.ce := by
  refine ⟨⟨Go.Proofs.Tryd.f31, Go.Proofs.Tryd.func31, by kernel_rfl, by kernel_rfl⟩, fun w Z vs x r hg hZ ha hr => ?_⟩
  obtain ⟨v, rfl, hv⟩ := ha
  change [v] = [Value.int .u32 x] at hv
  obtain rfl := List.cons.inj hv |>.1
  obtain ⟨n, hn, hx, hr'⟩ := bits_TrailingZeros32.some hr
  subst hr'
  have hn' : Value.int .u32 x = Value.int .u32 (n : Int) := congrArg _ hn
  rw [hn']
  exact (Go.Proofs.YtmhhlfpejfajaaaDoor.tz32 n hx w hg).mono fun e w' ⟨he, hw⟩ => ⟨_, he, hw ▸ Same.refl w, rfl⟩
end
end W
end
