/- Contracts of Go's library; the seat's types; what is known of its variables. -/
import Derived.Test.YtaoipmnlocbaoaaGreatChecked
import Derived.Lib.Strings
import Derived.Lib.Slices
import Derived.Lib.Walk
import Derived.Lib.Bytealg
import Derived.Test.YtaoipmnlocbaoaaGreatLf
set_option linter.all false
section
namespace Go.Proofs
set_option maxHeartbeats 1000000 in
set_option maxRecDepth 100000 in
theorem Tryz.stringslite_IndexByte (s:ByteArray) (c:Int) (w:World) :
 Calls Tryz.prog 113 #[.string s,.int .u8 c] w fun e w'=>e=.returned (.int .i64 (Lib.indexByte s.data.toList c.toNat.toUInt8))∧w'=w:=by
 go_enter Tryz.func113,Tryz.ntmps113
 go_wp2
 rw [run_callFunc_extern Tryz.func123 (by kernel_rfl) (by kernel_rfl) (by kernel_rfl) (e:=Extern.BytealgIndexByte.indexByte) (by kernel_rfl),Lib.run_indexByteString]
 simp only [Result.andThen]
 rw [Oper.upon_value]
 go_wp2
 go_ret
 exact ⟨rfl,rfl⟩
set_option maxHeartbeats 1000000 in
theorem Tryz.kn (s:ByteArray) (c:Int) (w:World) :
 Calls Tryz.prog 104 #[.string s,.int .u8 c] w fun e w'=>e=.returned (.int .i64 (Lib.indexByte s.data.toList c.toNat.toUInt8))∧w'=w:=by
 go_enter Tryz.func104,Tryz.ntmps104
 go_wp2_with (go_at_call 113;refine (Tryz.stringslite_IndexByte _ _ _).mono ?_;rintro e w' ⟨rfl,rfl⟩)
 go_ret
 exact ⟨rfl,rfl⟩
end Go.Proofs
end

section
set_option maxHeartbeats 4000000
set_option maxRecDepth 100000
namespace W
open Go Go.Ql Go.Proofs
noncomputable section
instance gInv:GInv:=⟨fun _=>True,0,fun _ _=>trivial,fun _=>Nat.zero_le _⟩
def tab:List (Nat×TI):=[(2,⟨.int .i64,.scalar⟩),
 (3,⟨.int .i64,.scalar⟩),
 (4,⟨.bool,.scalar⟩),
 (5,⟨.int .u8,.scalar⟩),
 (6,⟨.int .u8,.scalar⟩),
 (7,⟨.st (.pair (.int .i64) (.pair (.int .i64) (.pair .bool (.int .u8)))),.struct [(0,2),(1,3),(2,4),(3,6)]⟩),
 (8,⟨.st (.pair (.int .i64) (.pair (.int .i64) (.pair .bool (.int .u8)))),.struct [(0,2),(1,3),(2,4),(3,6)]⟩),
 (9,⟨.str,.scalar⟩),
 (10,⟨.str,.scalar⟩),
 (11,⟨.str,.scalar⟩),
 (12,⟨.int .u64,.scalar⟩),
 (13,⟨.st (.pair .str (.int .u64)),.struct [(0,9),(1,12)]⟩),
 (14,⟨.st (.pair .str (.int .u64)),.struct [(0,9),(1,12)]⟩),
 (15,⟨.nilv 0,.nul⟩),
 (16,⟨.nilv 0,.nul⟩),
 (17,⟨.nilv 0,.nul⟩),
 (18,⟨.st (.nilv 0),.struct [(0,17)]⟩),
 (19,⟨.st (.nilv 0),.struct [(0,17)]⟩),
 (20,⟨.nilv 1,.nul⟩),
 (21,⟨.int .i32,.scalar⟩),
 (22,⟨.sl .str,.slice 9 16⟩),
 (23,⟨.st (.pair (.int .i64) (.sl .str)),.struct [(0,3),(1,22)]⟩),
 (24,⟨.st (.pair (.int .i64) (.sl .str)),.struct [(0,3),(1,22)]⟩),
 (25,⟨.st (.pair (.int .i64) (.int .i64)),.struct [(0,3),(1,3)]⟩),
 (26,⟨.st (.pair (.int .i64) (.int .i64)),.struct [(0,3),(1,3)]⟩),
 (31,⟨.sl (.int .i64),.slice 3 8⟩),
 (32,⟨.st (.pair .bool (.sl (.int .i64))),.struct [(0,4),(1,31)]⟩),
 (33,⟨.st (.pair .bool (.sl (.int .i64))),.struct [(0,4),(1,31)]⟩),
 (34,⟨.st (.pair (.st (.pair .bool (.sl (.int .i64)))) (.st (.pair .bool (.sl (.int .i64))))),.struct [(0,33),(2,33)]⟩),
 (35,⟨.st (.pair (.st (.pair .bool (.sl (.int .i64)))) (.st (.pair .bool (.sl (.int .i64))))),.struct [(0,33),(2,33)]⟩),
 (45,⟨.sl (.st (.pair (.int .u64) (.pair (.int .u64) .bool))),.slice 65 24⟩),
 (48,⟨.sl (.int .u32),.slice 113 4⟩),
 (49,⟨.st (.pair .bool (.sl (.int .u32))),.struct [(0,4),(1,48)]⟩),
 (50,⟨.st (.pair .bool (.sl (.int .u32))),.struct [(0,4),(1,48)]⟩),
 (51,⟨.st (.pair (.st (.pair .bool (.sl (.int .u32)))) (.st (.pair .bool (.sl (.int .u32))))),.struct [(0,50),(2,50)]⟩),
 (52,⟨.st (.pair (.st (.pair .bool (.sl (.int .u32)))) (.st (.pair .bool (.sl (.int .u32))))),.struct [(0,50),(2,50)]⟩),
 (59,⟨.nilv 2,.map 3 70 .i64 .u64⟩),
 (60,⟨.nilv 2,.map 3 70 .i64 .u64⟩),
 (62,⟨.nilv 3,.nul⟩),
 (63,⟨.int .u64,.scalar⟩),
 (64,⟨.st (.pair (.int .u64) (.pair (.int .u64) .bool)),.struct [(0,63),(1,63),(2,4)]⟩),
 (65,⟨.st (.pair (.int .u64) (.pair (.int .u64) .bool)),.struct [(0,63),(1,63),(2,4)]⟩),
 (66,⟨.ar 2 (.int .u64),.arr 2 63⟩),
 (70,⟨.int .u64,.scalar⟩),
 (73,⟨.nilv 3,.nul⟩),
 (77,⟨.st (.pair .bool .str),.struct [(0,4),(1,9)]⟩),
 (78,⟨.st (.pair .bool .str),.struct [(0,4),(1,9)]⟩),
 (102,⟨.nilv 3,.nul⟩),
 (105,⟨.nilv 3,.nul⟩),
 (113,⟨.int .u32,.scalar⟩),
 (117,⟨.sl (.int .u8),.slice 5 1⟩),
 (118,⟨.nilv 3,.nul⟩),
 (122,⟨.nilv 3,.nul⟩),
 (156,⟨.nilv 1,.nul⟩),
 (157,⟨.nilv 1,.nul⟩),
 (158,⟨.nilv 0,.nul⟩),
 (159,⟨.st (.pair (.nilv 0) (.pair (.nilv 0) (.pair (.nilv 0) .str))),.struct [(0,17),(1,17),(2,17),(3,9)]⟩),
 (160,⟨.st (.pair (.nilv 0) (.pair (.nilv 0) (.pair (.nilv 0) .str))),.struct [(0,17),(1,17),(2,17),(3,9)]⟩),
 (161,⟨.ar 0 (.nilv 0),.arr 0 16⟩),
 (162,⟨.st (.ar 0 (.nilv 0)),.struct [(0,161)]⟩),
 (163,⟨.st (.ar 0 (.nilv 0)),.struct [(0,161)]⟩),
 (164,⟨.int .u8,.scalar⟩),
 (165,⟨.int .u8,.scalar⟩),
 (167,⟨.nilv 0,.nul⟩),
 (168,⟨.int .i32,.scalar⟩),
 (169,⟨.int .i32,.scalar⟩),
 (170,⟨.st (.pair (.int .u64) (.pair (.int .u64) (.pair (.int .u32) (.pair (.int .u8) (.pair (.int .u8) (.pair (.int .u8) (.pair (.int .u8) (.pair (.nilv 3) (.pair (.nilv 0) (.pair (.int .i32) (.int .i32))))))))))),.struct [(0,12),(1,12),(2,113),(3,164),(4,5),(5,5),(6,165),(7,166),(8,167),(9,168),(10,169)]⟩),
 (171,⟨.st (.pair (.int .u64) (.pair (.int .u64) (.pair (.int .u32) (.pair (.int .u8) (.pair (.int .u8) (.pair (.int .u8) (.pair (.int .u8) (.pair (.nilv 3) (.pair (.nilv 0) (.pair (.int .i32) (.int .i32))))))))))),.struct [(0,12),(1,12),(2,113),(3,164),(4,5),(5,5),(6,165),(7,166),(8,167),(9,168),(10,169)]⟩),
 (172,⟨.st .str,.struct [(0,9)]⟩),
 (173,⟨.st .str,.struct [(0,9)]⟩)]
theorem mixed:Go.Proofs.Tryz.prog.follows .mixedOrders=true:=by kernel_rfl
theorem jG:TabOk Go.Proofs.Tryz.prog tab:=tabB_ok (by kernel_rfl)
def jy:List Nat:=[26]
theorem jn:EqsOk Go.Proofs.Tryz.prog tab jy:=eqsB_ok (by kernel_rfl)
def kn (s:List UInt8) (c:Int):Option Int:=some (Lib.indexByte s c.toNat.toUInt8)
def kn.ce:Go.Ql.Callee:=⟨[.str,.int .u8],[.int .i64],fun x_=>kn x_.1 x_.2⟩
theorem kn.ok:CalleeOk Tryz.prog 104 kn.ce:=by
 refine ⟨⟨_,Tryz.func104,by kernel_rfl,by kernel_rfl⟩,?_⟩
 rintro w Z vs ⟨s,c⟩ r _ _ hvs hF
 obtain ⟨v1,t1,rfl,h1,v2,rfl,h2⟩:∃v1 t1,vs=v1::t1∧v1=.string ⟨List.toArray s⟩ ∧ ∃v2,t1=[v2]∧v2=.int .u8 c:=by
  obtain ⟨v,t,e,hv,u,e2,hu⟩:=hvs
  exact ⟨v,t,e,(List.cons.inj hv).1,u,e2,(List.cons.inj hu).1⟩
 subst h1;subst h2
 have hF:some (Lib.indexByte s c.toNat.toUInt8)=some r:=hF
 injection hF with hF
 subst hF
 refine (Tryz.kn ⟨List.toArray s⟩ c w).mono ?_
 rintro e w' ⟨rfl,rfl⟩
 exact ⟨_,rfl,Same.refl _,rfl⟩
end
end W
end
