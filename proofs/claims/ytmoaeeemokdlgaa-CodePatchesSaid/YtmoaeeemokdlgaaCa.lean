/- An index of a byte, as a contract; the seat's types. -/
import Derived.Test.YtmoaeeemokdlgaaChecked
import Derived.Lib.Strings
import Derived.Lib.Slices
import Derived.Lib.Walk
import Derived.Lib.Bytealg
import Derived.Test.YtmoaeeemokdlgaaLf
section
/- A contract of the library, laid by the kit's tool: an index of a byte. -/
namespace Go.Proofs
set_option maxHeartbeats 1000000 in
set_option maxRecDepth 100000 in
theorem Try.stringslite_IndexByte (s : ByteArray) (c : Int) (w : World) :
    Calls Try.prog 60 #[.string s, .int .u8 c] w fun e w' => e = .returned (.int .i64 (Lib.indexByte s.data.toList c.toNat.toUInt8)) ∧ w' = w := by
  go_enter Try.func60, Try.ntmps60
  go_wp2
  rw [run_callFunc_extern Try.func63 (by kernel_rfl) (by kernel_rfl) (by kernel_rfl) (e := Extern.BytealgIndexByte.indexByte) (by kernel_rfl), Lib.run_indexByteString]
  simp only [Result.andThen]
  rw [Oper.upon_value]
  go_wp2
  go_ret
  exact ⟨rfl, rfl⟩

set_option maxHeartbeats 1000000 in
theorem Try.strings_IndexByte (s : ByteArray) (c : Int) (w : World) :
    Calls Try.prog 58 #[.string s, .int .u8 c] w fun e w' => e = .returned (.int .i64 (Lib.indexByte s.data.toList c.toNat.toUInt8)) ∧ w' = w := by
  go_enter Try.func58, Try.ntmps58
  go_wp2_with (go_at_call 60; refine (Try.stringslite_IndexByte _ _ _).mono ?_; rintro e w' ⟨rfl, rfl⟩)
  go_ret
  exact ⟨rfl, rfl⟩
end Go.Proofs
end

section
/- The program's types; an index of a byte as a contract of the lifter. -/
set_option maxHeartbeats 4000000
set_option maxRecDepth 100000
set_option linter.unusedVariables false
namespace W
open Go Go.Ql Go.Proofs
noncomputable section
instance gInv : GInv := ⟨fun _ => True, 0, fun _ _ => trivial, fun _ => Nat.zero_le _⟩
def tab : List (Nat × TI) := [(2, ⟨.int .i64, .scalar⟩),
 (3, ⟨.int .i64, .scalar⟩),
 (4, ⟨.bool, .scalar⟩),
 (5, ⟨.int .u8, .scalar⟩),
 (6, ⟨.int .u8, .scalar⟩),
 (7, ⟨.st (.pair (.int .i64) (.pair (.int .i64) (.pair .bool (.int .u8)))), .struct [(0, 2), (1, 3), (2, 4), (3, 6)]⟩),
 (8, ⟨.st (.pair (.int .i64) (.pair (.int .i64) (.pair .bool (.int .u8)))), .struct [(0, 2), (1, 3), (2, 4), (3, 6)]⟩),
 (9, ⟨.str, .scalar⟩),
 (10, ⟨.str, .scalar⟩),
 (11, ⟨.str, .scalar⟩),
 (12, ⟨.int .u64, .scalar⟩),
 (13, ⟨.st (.pair .str (.int .u64)), .struct [(0, 9), (1, 12)]⟩),
 (14, ⟨.st (.pair .str (.int .u64)), .struct [(0, 9), (1, 12)]⟩),
 (15, ⟨.nilv 0, .nul⟩),
 (16, ⟨.nilv 0, .nul⟩),
 (17, ⟨.nilv 0, .nul⟩),
 (18, ⟨.st (.nilv 0), .struct [(0, 17)]⟩),
 (19, ⟨.st (.nilv 0), .struct [(0, 17)]⟩),
 (20, ⟨.nilv 1, .nul⟩),
 (21, ⟨.int .i32, .scalar⟩),
 (22, ⟨.sl .str, .slice 9 16⟩),
 (23, ⟨.st (.pair (.int .i64) (.sl .str)), .struct [(0, 3), (1, 22)]⟩),
 (24, ⟨.st (.pair (.int .i64) (.sl .str)), .struct [(0, 3), (1, 22)]⟩),
 (26, ⟨.st (.pair (.int .i64) (.int .i64)), .struct [(0, 3), (1, 3)]⟩),
 (27, ⟨.st (.pair (.int .i64) (.int .i64)), .struct [(0, 3), (1, 3)]⟩),
 (31, ⟨.sl (.int .i64), .slice 3 8⟩),
 (34, ⟨.st (.pair .bool .str), .struct [(0, 4), (1, 9)]⟩),
 (35, ⟨.st (.pair .bool .str), .struct [(0, 4), (1, 9)]⟩),
 (53, ⟨.nilv 3, .nul⟩),
 (54, ⟨.sl (.st (.pair (.int .u64) (.pair (.int .u64) .bool))), .slice 63 24⟩),
 (61, ⟨.int .u64, .scalar⟩),
 (62, ⟨.st (.pair (.int .u64) (.pair (.int .u64) .bool)), .struct [(0, 61), (1, 61), (2, 4)]⟩),
 (63, ⟨.st (.pair (.int .u64) (.pair (.int .u64) .bool)), .struct [(0, 61), (1, 61), (2, 4)]⟩),
 (68, ⟨.nilv 2, .map 3 73 .i64 .u64⟩),
 (69, ⟨.nilv 2, .map 3 73 .i64 .u64⟩),
 (73, ⟨.int .u64, .scalar⟩),
 (76, ⟨.ar 2 (.int .u64), .arr 2 61⟩),
 (78, ⟨.nilv 3, .nul⟩),
 (81, ⟨.nilv 3, .nul⟩),
 (85, ⟨.sl (.int .u8), .slice 5 1⟩),
 (86, ⟨.nilv 3, .nul⟩),
 (90, ⟨.nilv 3, .nul⟩),
 (96, ⟨.int .u32, .scalar⟩),
 (98, ⟨.st (.pair (.nilv 0) (.pair (.nilv 0) (.pair (.nilv 0) .str))), .struct [(0, 17), (1, 17), (2, 17), (3, 9)]⟩),
 (99, ⟨.st (.pair (.nilv 0) (.pair (.nilv 0) (.pair (.nilv 0) .str))), .struct [(0, 17), (1, 17), (2, 17), (3, 9)]⟩),
 (100, ⟨.ar 0 (.nilv 0), .arr 0 16⟩),
 (101, ⟨.st (.ar 0 (.nilv 0)), .struct [(0, 100)]⟩),
 (102, ⟨.st (.ar 0 (.nilv 0)), .struct [(0, 100)]⟩),
 (104, ⟨.int .u8, .scalar⟩),
 (105, ⟨.int .u8, .scalar⟩),
 (107, ⟨.nilv 0, .nul⟩),
 (108, ⟨.int .i32, .scalar⟩),
 (109, ⟨.int .i32, .scalar⟩),
 (110, ⟨.st (.pair (.int .u64) (.pair (.int .u64) (.pair (.int .u32) (.pair (.int .u8) (.pair (.int .u8) (.pair (.int .u8) (.pair (.int .u8) (.pair (.nilv 3) (.pair (.nilv 0) (.pair (.int .i32) (.int .i32))))))))))), .struct [(0, 12), (1, 12), (2, 96), (3, 104), (4, 5), (5, 5), (6, 105), (7, 106), (8, 107), (9, 108), (10, 109)]⟩),
 (111, ⟨.st (.pair (.int .u64) (.pair (.int .u64) (.pair (.int .u32) (.pair (.int .u8) (.pair (.int .u8) (.pair (.int .u8) (.pair (.int .u8) (.pair (.nilv 3) (.pair (.nilv 0) (.pair (.int .i32) (.int .i32))))))))))), .struct [(0, 12), (1, 12), (2, 96), (3, 104), (4, 5), (5, 5), (6, 105), (7, 106), (8, 107), (9, 108), (10, 109)]⟩)]
theorem mixed : Go.Proofs.Try.prog.follows .mixedOrders = true := by kernel_rfl
theorem tab_ok : TabOk Go.Proofs.Try.prog tab := tabB_ok (by kernel_rfl)
def tab_eqs : List Nat := [27]
theorem tab_eqs_ok : EqsOk Go.Proofs.Try.prog tab tab_eqs := eqsB_ok (by kernel_rfl)

def strings_IndexByte (s : List UInt8) (c : Int) : Option Int := some (Lib.indexByte s c.toNat.toUInt8)
def strings_IndexByte.ce : Go.Ql.Callee := ⟨[.str, .int .u8], [.int .i64], fun x_ => strings_IndexByte x_.1 x_.2⟩
theorem strings_IndexByte.ok : CalleeOk Try.prog 58 strings_IndexByte.ce := by
  refine ⟨⟨_, Try.func58, by kernel_rfl, by kernel_rfl⟩, ?_⟩
  rintro w Z vs ⟨s, c⟩ r _ _ hvs hF
  obtain ⟨v1, t1, rfl, h1, v2, rfl, h2⟩ : ∃ v1 t1, vs = v1 :: t1 ∧ v1 = .string ⟨List.toArray s⟩ ∧ ∃ v2, t1 = [v2] ∧ v2 = .int .u8 c := by
    obtain ⟨v, t, e, hv, u, e2, hu⟩ := hvs
    exact ⟨v, t, e, (List.cons.inj hv).1, u, e2, (List.cons.inj hu).1⟩
  subst h1; subst h2
  have hF : some (Lib.indexByte s c.toNat.toUInt8) = some r := hF
  injection hF with hF
  subst hF
  refine (Try.strings_IndexByte ⟨List.toArray s⟩ c w).mono ?_
  rintro e w' ⟨rfl, rfl⟩
  exact ⟨_, rfl, Same.refl _, rfl⟩
end
end W
end
