/- Contracts of Go's library; the seat's types; what is known of its variables. -/
import Derived.Test.YtjlbeiadpdgchaaChecked
import Derived.Lib.Strings
import Derived.Lib.Slices
import Derived.Lib.Walk
import Derived.Lib.Bytealg
import Derived.Test.YtjlbeiadpdgchaaLf
set_option linter.all false
section
namespace Go.Proofs
end Go.Proofs
end

section
set_option maxHeartbeats 4000000
set_option maxRecDepth 100000
set_option linter.unusedVariables false
namespace W
open Go Go.Ql Go.Proofs
noncomputable section
instance gInv:GInv:=⟨fun _=>True,0,fun _ _=>trivial,fun _=>Nat.zero_le _⟩
def tab:List (Nat×TI):=[(2,⟨.int .i64,.scalar⟩),
 (3,⟨.int .i64,.scalar⟩),
 (4,⟨.bool,.scalar⟩),
 (5,⟨.int .u8,.scalar⟩),
 (6,⟨.int .u8,.scalar⟩),
 (7,⟨.st (.pair (.int .i64) (.pair (.int .i64) (.pair .bool (.int .u8)))),.struct [(0,2),(1,3),(2,4),(3,6)]⟩),
 (8,⟨.st (.pair (.int .i64) (.pair (.int .i64) (.pair .bool (.int .u8)))),.struct [(0,2),(1,3),(2,4),(3,6)]⟩),
 (9,⟨.str,.scalar⟩),
 (10,⟨.str,.scalar⟩),
 (11,⟨.str,.scalar⟩),
 (12,⟨.int .u64,.scalar⟩),
 (13,⟨.st (.pair .str (.int .u64)),.struct [(0,9),(1,12)]⟩),
 (14,⟨.st (.pair .str (.int .u64)),.struct [(0,9),(1,12)]⟩),
 (15,⟨.nilv 0,.nul⟩),
 (16,⟨.nilv 0,.nul⟩),
 (17,⟨.nilv 0,.nul⟩),
 (18,⟨.st (.nilv 0),.struct [(0,17)]⟩),
 (19,⟨.st (.nilv 0),.struct [(0,17)]⟩),
 (20,⟨.nilv 1,.nul⟩),
 (21,⟨.int .i32,.scalar⟩),
 (22,⟨.sl (.st (.pair (.int .i64) (.pair (.int .i64) (.pair (.sl (.int .i64)) (.pair (.int .i64) (.pair (.int .i64) (.sl (.int .i64)))))))),.slice 53 80⟩),
 (23,⟨.st (.pair (.int .i64) (.pair (.int .i64) (.sl (.st (.pair (.int .i64) (.pair (.int .i64) (.pair (.sl (.int .i64)) (.pair (.int .i64) (.pair (.int .i64) (.sl (.int .i64))))))))))),.struct [(0,3),(1,3),(2,22)]⟩),
 (24,⟨.st (.pair (.int .i64) (.pair (.int .i64) (.sl (.st (.pair (.int .i64) (.pair (.int .i64) (.pair (.sl (.int .i64)) (.pair (.int .i64) (.pair (.int .i64) (.sl (.int .i64))))))))))),.struct [(0,3),(1,3),(2,22)]⟩),
 (25,⟨.sl (.int .i64),.slice 3 8⟩),
 (27,⟨.sl .str,.slice 9 16⟩),
 (28,⟨.st (.pair (.int .i64) (.int .i64)),.struct [(0,3),(1,3)]⟩),
 (29,⟨.st (.pair (.int .i64) (.int .i64)),.struct [(0,3),(1,3)]⟩),
 (36,⟨.sl (.st (.pair (.ar 8 (.st (.pair .bool (.sl (.int .i64))))) (.int .i64))),.slice 90 264⟩),
 (39,⟨.st (.pair .bool .str),.struct [(0,4),(1,9)]⟩),
 (40,⟨.st (.pair .bool .str),.struct [(0,4),(1,9)]⟩),
 (52,⟨.st (.pair (.int .i64) (.pair (.int .i64) (.pair (.sl (.int .i64)) (.pair (.int .i64) (.pair (.int .i64) (.sl (.int .i64))))))),.struct [(0,3),(1,3),(2,25),(3,3),(4,3),(5,25)]⟩),
 (53,⟨.st (.pair (.int .i64) (.pair (.int .i64) (.pair (.sl (.int .i64)) (.pair (.int .i64) (.pair (.int .i64) (.sl (.int .i64))))))),.struct [(0,3),(1,3),(2,25),(3,3),(4,3),(5,25)]⟩),
 (58,⟨.st (.pair (.int .i64) (.sl .str)),.struct [(0,3),(1,27)]⟩),
 (59,⟨.st (.pair (.int .i64) (.sl .str)),.struct [(0,3),(1,27)]⟩),
 (68,⟨.nilv 3,.nul⟩),
 (69,⟨.nilv 0,.nul⟩),
 (74,⟨.sl (.st (.pair (.int .u64) (.pair (.int .u64) .bool))),.slice 80 24⟩),
 (76,⟨.st (.pair (.int .i64) (.pair (.sl (.st (.pair (.int .u64) (.pair (.int .u64) .bool)))) (.sl (.st (.pair (.int .u64) (.pair (.int .u64) .bool)))))),.struct [(0,3),(1,74),(2,74)]⟩),
 (77,⟨.st (.pair (.int .i64) (.pair (.sl (.st (.pair (.int .u64) (.pair (.int .u64) .bool)))) (.sl (.st (.pair (.int .u64) (.pair (.int .u64) .bool)))))),.struct [(0,3),(1,74),(2,74)]⟩),
 (78,⟨.int .u64,.scalar⟩),
 (79,⟨.st (.pair (.int .u64) (.pair (.int .u64) .bool)),.struct [(0,78),(1,78),(2,4)]⟩),
 (80,⟨.st (.pair (.int .u64) (.pair (.int .u64) .bool)),.struct [(0,78),(1,78),(2,4)]⟩),
 (86,⟨.st (.pair .bool (.sl (.int .i64))),.struct [(0,4),(1,25)]⟩),
 (87,⟨.st (.pair .bool (.sl (.int .i64))),.struct [(0,4),(1,25)]⟩),
 (88,⟨.ar 8 (.st (.pair .bool (.sl (.int .i64)))),.arr 8 87⟩),
 (89,⟨.st (.pair (.ar 8 (.st (.pair .bool (.sl (.int .i64))))) (.int .i64)),.struct [(0,88),(16,3)]⟩),
 (90,⟨.st (.pair (.ar 8 (.st (.pair .bool (.sl (.int .i64))))) (.int .i64)),.struct [(0,88),(16,3)]⟩),
 (93,⟨.sl (.st (.pair .bool .str)),.slice 40 24⟩),
 (95,⟨.sl .bool,.slice 4 1⟩),
 (110,⟨.nilv 0,.nul⟩),
 (111,⟨.st (.pair (.sl (.st (.pair (.int .u64) (.pair (.int .u64) .bool)))) (.sl (.st (.pair (.int .i64) (.pair (.int .i64) (.pair (.sl (.int .i64)) (.pair (.int .i64) (.pair (.int .i64) (.sl (.int .i64)))))))))),.struct [(0,74),(1,22)]⟩),
 (112,⟨.st (.pair (.sl (.st (.pair (.int .u64) (.pair (.int .u64) .bool)))) (.sl (.st (.pair (.int .i64) (.pair (.int .i64) (.pair (.sl (.int .i64)) (.pair (.int .i64) (.pair (.int .i64) (.sl (.int .i64)))))))))),.struct [(0,74),(1,22)]⟩),
 (125,⟨.nilv 0,.nul⟩),
 (126,⟨.nilv 3,.nul⟩),
 (127,⟨.nilv 3,.nul⟩),
 (130,⟨.sl (.int .u8),.slice 5 1⟩),
 (135,⟨.int .u64,.scalar⟩),
 (141,⟨.nilv 3,.nul⟩),
 (142,⟨.nilv 2,.map 3 135 .i64 .u64⟩),
 (143,⟨.nilv 2,.map 3 135 .i64 .u64⟩),
 (145,⟨.ar 2 (.int .u64),.arr 2 78⟩),
 (149,⟨.nilv 3,.nul⟩),
 (152,⟨.ar 12 .bool,.arr 12 4⟩),
 (162,⟨.nilv 3,.nul⟩),
 (163,⟨.nilv 3,.nul⟩),
 (165,⟨.int .u32,.scalar⟩),
 (167,⟨.nilv 3,.nul⟩),
 (168,⟨.st (.pair (.nilv 0) (.pair (.nilv 0) (.pair (.nilv 0) .str))),.struct [(0,17),(1,17),(2,17),(3,9)]⟩),
 (169,⟨.st (.pair (.nilv 0) (.pair (.nilv 0) (.pair (.nilv 0) .str))),.struct [(0,17),(1,17),(2,17),(3,9)]⟩),
 (170,⟨.ar 0 (.nilv 0),.arr 0 16⟩),
 (171,⟨.st (.ar 0 (.nilv 0)),.struct [(0,170)]⟩),
 (172,⟨.st (.ar 0 (.nilv 0)),.struct [(0,170)]⟩),
 (173,⟨.int .u8,.scalar⟩),
 (174,⟨.int .u8,.scalar⟩),
 (176,⟨.nilv 0,.nul⟩),
 (177,⟨.int .i32,.scalar⟩),
 (178,⟨.int .i32,.scalar⟩),
 (179,⟨.st (.pair (.int .u64) (.pair (.int .u64) (.pair (.int .u32) (.pair (.int .u8) (.pair (.int .u8) (.pair (.int .u8) (.pair (.int .u8) (.pair (.nilv 3) (.pair (.nilv 0) (.pair (.int .i32) (.int .i32))))))))))),.struct [(0,12),(1,12),(2,165),(3,173),(4,5),(5,5),(6,174),(7,175),(8,176),(9,177),(10,178)]⟩),
 (180,⟨.st (.pair (.int .u64) (.pair (.int .u64) (.pair (.int .u32) (.pair (.int .u8) (.pair (.int .u8) (.pair (.int .u8) (.pair (.int .u8) (.pair (.nilv 3) (.pair (.nilv 0) (.pair (.int .i32) (.int .i32))))))))))),.struct [(0,12),(1,12),(2,165),(3,173),(4,5),(5,5),(6,174),(7,175),(8,176),(9,177),(10,178)]⟩)]
theorem mixed:Go.Proofs.Try.prog.follows .mixedOrders=true:=by kernel_rfl
theorem Jj:TabOk Go.Proofs.Try.prog tab:=tabB_ok (by kernel_rfl)
def jZ:List Nat:=[29]
theorem jA:EqsOk Go.Proofs.Try.prog tab jZ:=eqsB_ok (by kernel_rfl)
end
end W
end
