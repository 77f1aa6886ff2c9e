/- Contracts of Go's library; the seat's types; what is known of its variables. -/
import Derived.Test.YtjlbeiadpdgchaaChecked
import Derived.Lib.Strings
import Derived.Lib.Slices
import Derived.Lib.Walk
import Derived.Lib.Bytealg
import Derived.Test.YtjlbeiadpdgchaaLf
set_option linter.all false
section
namespace Go.Proofs
set_option maxHeartbeats 1000000 in
set_option maxRecDepth 100000 in
theorem Try.stringslite_IndexByte (s:ByteArray) (c:Int) (w:World) :
 Calls Try.prog 121 #[.string s,.int .u8 c] w fun e w'=>e=.returned (.int .i64 (Lib.indexByte s.data.toList c.toNat.toUInt8))∧w'=w:=by
 go_enter Try.func121,Try.ntmps121
 go_wp2
 rw [run_callFunc_extern Try.func138 (by kernel_rfl) (by kernel_rfl) (by kernel_rfl) (e:=Extern.BytealgIndexByte.indexByte) (by kernel_rfl),Lib.run_indexByteString]
 simp only [Result.andThen]
 rw [Oper.upon_value]
 go_wp2
 go_ret
 exact ⟨rfl,rfl⟩
set_option maxHeartbeats 1000000 in
theorem Try.kC (s:ByteArray) (c:Int) (w:World) :
 Calls Try.prog 94 #[.string s,.int .u8 c] w fun e w'=>e=.returned (.int .i64 (Lib.indexByte s.data.toList c.toNat.toUInt8))∧w'=w:=by
 go_enter Try.func94,Try.ntmps94
 go_wp2_with (go_at_call 121;refine (Try.stringslite_IndexByte _ _ _).mono ?_;rintro e w' ⟨rfl,rfl⟩)
 go_ret
 exact ⟨rfl,rfl⟩
end Go.Proofs
end

section
set_option maxHeartbeats 4000000
set_option maxRecDepth 100000
namespace W
open Go Go.Ql Go.Proofs
noncomputable section
instance gInv:GInv:=⟨fun _=>True,0,fun _ _=>trivial,fun _=>Nat.zero_le _⟩
def tab:List (Nat×TI):=[(2,⟨.int .i64,.scalar⟩),
 (3,⟨.int .i64,.scalar⟩),
 (4,⟨.bool,.scalar⟩),
 (5,⟨.int .u8,.scalar⟩),
 (6,⟨.int .u8,.scalar⟩),
 (7,⟨.st (.pair (.int .i64) (.pair (.int .i64) (.pair .bool (.int .u8)))),.struct [(0,2),(1,3),(2,4),(3,6)]⟩),
 (8,⟨.st (.pair (.int .i64) (.pair (.int .i64) (.pair .bool (.int .u8)))),.struct [(0,2),(1,3),(2,4),(3,6)]⟩),
 (9,⟨.str,.scalar⟩),
 (10,⟨.str,.scalar⟩),
 (11,⟨.str,.scalar⟩),
 (12,⟨.int .u64,.scalar⟩),
 (13,⟨.st (.pair .str (.int .u64)),.struct [(0,9),(1,12)]⟩),
 (14,⟨.st (.pair .str (.int .u64)),.struct [(0,9),(1,12)]⟩),
 (15,⟨.nilv 0,.nul⟩),
 (16,⟨.nilv 0,.nul⟩),
 (17,⟨.nilv 0,.nul⟩),
 (18,⟨.st (.nilv 0),.struct [(0,17)]⟩),
 (19,⟨.st (.nilv 0),.struct [(0,17)]⟩),
 (20,⟨.nilv 1,.nul⟩),
 (21,⟨.int .i32,.scalar⟩),
 (22,⟨.sl (.st (.pair (.int .i64) (.pair (.int .i64) (.pair (.sl (.int .i64)) (.pair (.int .i64) (.pair (.int .i64) (.sl (.int .i64)))))))),.slice 53 80⟩),
 (23,⟨.st (.pair (.int .i64) (.pair (.int .i64) (.sl (.st (.pair (.int .i64) (.pair (.int .i64) (.pair (.sl (.int .i64)) (.pair (.int .i64) (.pair (.int .i64) (.sl (.int .i64))))))))))),.struct [(0,3),(1,3),(2,22)]⟩),
 (24,⟨.st (.pair (.int .i64) (.pair (.int .i64) (.sl (.st (.pair (.int .i64) (.pair (.int .i64) (.pair (.sl (.int .i64)) (.pair (.int .i64) (.pair (.int .i64) (.sl (.int .i64))))))))))),.struct [(0,3),(1,3),(2,22)]⟩),
 (25,⟨.sl (.int .i64),.slice 3 8⟩),
 (27,⟨.sl .str,.slice 9 16⟩),
 (28,⟨.st (.pair (.int .i64) (.int .i64)),.struct [(0,3),(1,3)]⟩),
 (29,⟨.st (.pair (.int .i64) (.int .i64)),.struct [(0,3),(1,3)]⟩),
 (36,⟨.sl (.st (.pair (.ar 8 (.st (.pair .bool (.sl (.int .i64))))) (.int .i64))),.slice 90 264⟩),
 (39,⟨.st (.pair .bool .str),.struct [(0,4),(1,9)]⟩),
 (40,⟨.st (.pair .bool .str),.struct [(0,4),(1,9)]⟩),
 (52,⟨.st (.pair (.int .i64) (.pair (.int .i64) (.pair (.sl (.int .i64)) (.pair (.int .i64) (.pair (.int .i64) (.sl (.int .i64))))))),.struct [(0,3),(1,3),(2,25),(3,3),(4,3),(5,25)]⟩),
 (53,⟨.st (.pair (.int .i64) (.pair (.int .i64) (.pair (.sl (.int .i64)) (.pair (.int .i64) (.pair (.int .i64) (.sl (.int .i64))))))),.struct [(0,3),(1,3),(2,25),(3,3),(4,3),(5,25)]⟩),
 (58,⟨.st (.pair (.int .i64) (.sl .str)),.struct [(0,3),(1,27)]⟩),
 (59,⟨.st (.pair (.int .i64) (.sl .str)),.struct [(0,3),(1,27)]⟩),
 (68,⟨.nilv 3,.nul⟩),
 (69,⟨.nilv 0,.nul⟩),
 (74,⟨.sl (.st (.pair (.int .u64) (.pair (.int .u64) .bool))),.slice 80 24⟩),
 (76,⟨.st (.pair (.int .i64) (.pair (.sl (.st (.pair (.int .u64) (.pair (.int .u64) .bool)))) (.sl (.st (.pair (.int .u64) (.pair (.int .u64) .bool)))))),.struct [(0,3),(1,74),(2,74)]⟩),
 (77,⟨.st (.pair (.int .i64) (.pair (.sl (.st (.pair (.int .u64) (.pair (.int .u64) .bool)))) (.sl (.st (.pair (.int .u64) (.pair (.int .u64) .bool)))))),.struct [(0,3),(1,74),(2,74)]⟩),
 (78,⟨.int .u64,.scalar⟩),
 (79,⟨.st (.pair (.int .u64) (.pair (.int .u64) .bool)),.struct [(0,78),(1,78),(2,4)]⟩),
 (80,⟨.st (.pair (.int .u64) (.pair (.int .u64) .bool)),.struct [(0,78),(1,78),(2,4)]⟩),
 (86,⟨.st (.pair .bool (.sl (.int .i64))),.struct [(0,4),(1,25)]⟩),
 (87,⟨.st (.pair .bool (.sl (.int .i64))),.struct [(0,4),(1,25)]⟩),
 (88,⟨.ar 8 (.st (.pair .bool (.sl (.int .i64)))),.arr 8 87⟩),
 (89,⟨.st (.pair (.ar 8 (.st (.pair .bool (.sl (.int .i64))))) (.int .i64)),.struct [(0,88),(16,3)]⟩),
 (90,⟨.st (.pair (.ar 8 (.st (.pair .bool (.sl (.int .i64))))) (.int .i64)),.struct [(0,88),(16,3)]⟩),
 (93,⟨.sl (.st (.pair .bool .str)),.slice 40 24⟩),
 (95,⟨.sl .bool,.slice 4 1⟩),
 (110,⟨.nilv 0,.nul⟩),
 (111,⟨.st (.pair (.sl (.st (.pair (.int .u64) (.pair (.int .u64) .bool)))) (.sl (.st (.pair (.int .i64) (.pair (.int .i64) (.pair (.sl (.int .i64)) (.pair (.int .i64) (.pair (.int .i64) (.sl (.int .i64)))))))))),.struct [(0,74),(1,22)]⟩),
 (112,⟨.st (.pair (.sl (.st (.pair (.int .u64) (.pair (.int .u64) .bool)))) (.sl (.st (.pair (.int .i64) (.pair (.int .i64) (.pair (.sl (.int .i64)) (.pair (.int .i64) (.pair (.int .i64) (.sl (.int .i64)))))))))),.struct [(0,74),(1,22)]⟩),
 (125,⟨.nilv 0,.nul⟩),
 (126,⟨.nilv 3,.nul⟩),
 (127,⟨.nilv 3,.nul⟩),
 (130,⟨.sl (.int .u8),.slice 5 1⟩),
 (135,⟨.int .u64,.scalar⟩),
 (141,⟨.nilv 3,.nul⟩),
 (142,⟨.nilv 2,.map 3 135 .i64 .u64⟩),
 (143,⟨.nilv 2,.map 3 135 .i64 .u64⟩),
 (145,⟨.ar 2 (.int .u64),.arr 2 78⟩),
 (149,⟨.nilv 3,.nul⟩),
 (152,⟨.ar 12 .bool,.arr 12 4⟩),
 (162,⟨.nilv 3,.nul⟩),
 (163,⟨.nilv 3,.nul⟩),
 (165,⟨.int .u32,.scalar⟩),
 (167,⟨.nilv 3,.nul⟩),
 (168,⟨.st (.pair (.nilv 0) (.pair (.nilv 0) (.pair (.nilv 0) .str))),.struct [(0,17),(1,17),(2,17),(3,9)]⟩),
 (169,⟨.st (.pair (.nilv 0) (.pair (.nilv 0) (.pair (.nilv 0) .str))),.struct [(0,17),(1,17),(2,17),(3,9)]⟩),
 (170,⟨.ar 0 (.nilv 0),.arr 0 16⟩),
 (171,⟨.st (.ar 0 (.nilv 0)),.struct [(0,170)]⟩),
 (172,⟨.st (.ar 0 (.nilv 0)),.struct [(0,170)]⟩),
 (173,⟨.int .u8,.scalar⟩),
 (174,⟨.int .u8,.scalar⟩),
 (176,⟨.nilv 0,.nul⟩),
 (177,⟨.int .i32,.scalar⟩),
 (178,⟨.int .i32,.scalar⟩),
 (179,⟨.st (.pair (.int .u64) (.pair (.int .u64) (.pair (.int .u32) (.pair (.int .u8) (.pair (.int .u8) (.pair (.int .u8) (.pair (.int .u8) (.pair (.nilv 3) (.pair (.nilv 0) (.pair (.int .i32) (.int .i32))))))))))),.struct [(0,12),(1,12),(2,165),(3,173),(4,5),(5,5),(6,174),(7,175),(8,176),(9,177),(10,178)]⟩),
 (180,⟨.st (.pair (.int .u64) (.pair (.int .u64) (.pair (.int .u32) (.pair (.int .u8) (.pair (.int .u8) (.pair (.int .u8) (.pair (.int .u8) (.pair (.nilv 3) (.pair (.nilv 0) (.pair (.int .i32) (.int .i32))))))))))),.struct [(0,12),(1,12),(2,165),(3,173),(4,5),(5,5),(6,174),(7,175),(8,176),(9,177),(10,178)]⟩)]
theorem mixed:Go.Proofs.Try.prog.follows .mixedOrders=true:=by kernel_rfl
theorem Jn:TabOk Go.Proofs.Try.prog tab:=tabB_ok (by kernel_rfl)
def Jd:List Nat:=[29]
theorem jN:EqsOk Go.Proofs.Try.prog tab Jd:=eqsB_ok (by kernel_rfl)
def kC (s:List UInt8) (c:Int):Option Int:=some (Lib.indexByte s c.toNat.toUInt8)
def kC.ce:Go.Ql.Callee:=⟨[.str,.int .u8],[.int .i64],fun x_=>kC x_.1 x_.2⟩
theorem kC.ok:CalleeOk Try.prog 94 kC.ce:=by
 refine ⟨⟨_,Try.func94,by kernel_rfl,by kernel_rfl⟩,?_⟩
 rintro w Z vs ⟨s,c⟩ r _ _ hvs hF
 obtain ⟨v1,t1,rfl,h1,v2,rfl,h2⟩:∃v1 t1,vs=v1::t1∧v1=.string ⟨List.toArray s⟩ ∧ ∃v2,t1=[v2]∧v2=.int .u8 c:=by
  obtain ⟨v,t,e,hv,u,e2,hu⟩:=hvs
  exact ⟨v,t,e,(List.cons.inj hv).1,u,e2,(List.cons.inj hu).1⟩
 subst h1;subst h2
 have hF:some (Lib.indexByte s c.toNat.toUInt8)=some r:=hF
 injection hF with hF
 subst hF
 refine (Try.kC ⟨List.toArray s⟩ c w).mono ?_
 rintro e w' ⟨rfl,rfl⟩
 exact ⟨_,rfl,Same.refl _,rfl⟩
end
end W
end
