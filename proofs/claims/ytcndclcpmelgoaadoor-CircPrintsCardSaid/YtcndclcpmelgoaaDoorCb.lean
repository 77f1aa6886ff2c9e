/- An index and a count of a byte: contracts. -/
import Derived.Test.YtcndclcpmelgoaaDoorChecked
import Derived.Lib.Strings
import Derived.Lib.Slices
import Derived.Lib.Walk
import Derived.Lib.Bytealg
import Derived.Test.YtcndclcpmelgoaaDoorCa
section
/- Contracts of the library, laid by the kit's tool: an index of a byte, a count of a byte. -/
namespace Go.Proofs

set_option maxHeartbeats 1000000 in
set_option maxRecDepth 100000 in
theorem Tryd.stringslite_IndexByte (s : ByteArray) (c : Int) (w : World) :
    Calls Tryd.prog 106 #[.string s, .int .u8 c] w fun e w' => e = .returned (.int .i64 (Lib.indexByte s.data.toList c.toNat.toUInt8)) ∧ w' = w := by
  go_enter Tryd.func106, Tryd.ntmps106
  go_wp2
  rw [run_callFunc_extern Tryd.func112 (by kernel_rfl) (by kernel_rfl) (by kernel_rfl) (e := Extern.BytealgIndexByte.indexByte) (by kernel_rfl), Lib.run_indexByteString]
  simp only [Result.andThen]
  rw [Oper.upon_value]
  go_wp2
  go_ret
  exact ⟨rfl, rfl⟩

end Go.Proofs

namespace Go.Proofs

set_option maxHeartbeats 2000000 in
set_option maxRecDepth 100000 in
theorem Tryd.stringslite_Index_one (s : ByteArray) (c : UInt8) (w : World) :
    Calls Tryd.prog 98 #[.string s, .string ⟨#[c]⟩] w fun e w' => e = .returned (.int .i64 (Lib.indexByte s.data.toList c)) ∧ w' = w := by
  go_enter Tryd.func98, Tryd.ntmps98
  go_wp2_with (go_at_call 106; refine (Tryd.stringslite_IndexByte _ _ _).mono ?_; rintro e w' ⟨rfl, rfl⟩)
  · have h : ([c] == s.toList) = true := by assumption
    go_ret
    refine ⟨?_, rfl⟩
    have e : s.data.toList = [c] := by rw [← Lib.toList_data]; exact (beq_iff_eq.1 h).symm
    rw [e]
    simp [Lib.indexByte]
  · go_ret
    exact ⟨rfl, rfl⟩

end Go.Proofs

namespace Go.Proofs

set_option maxHeartbeats 1000000 in
theorem Tryd.strings_Index_one (s : ByteArray) (c : UInt8) (w : World) :
    Calls Tryd.prog 89 #[.string s, .string ⟨#[c]⟩] w fun e w' => e = .returned (.int .i64 (Lib.indexByte s.data.toList c)) ∧ w' = w := by
  go_enter Tryd.func89, Tryd.ntmps89
  go_wp2_with (go_at_call 98; refine (Tryd.stringslite_Index_one _ _ _).mono ?_; rintro e w' ⟨rfl, rfl⟩)
  go_ret
  exact ⟨rfl, rfl⟩

end Go.Proofs

namespace Go.Proofs

set_option maxHeartbeats 1000000 in
set_option maxRecDepth 100000 in
theorem Tryd.strings_Count_one (s : ByteArray) (c : UInt8) (w : World) :
    Calls Tryd.prog 88 #[.string s, .string ⟨#[c]⟩] w fun e w' => e = .returned (.int .i64 (Lib.countByte s.data.toList c)) ∧ w' = w := by
  go_enter Tryd.func88, Tryd.ntmps88
  go_wp2
  rw [run_callFunc_extern Tryd.func97 (by kernel_rfl) (by kernel_rfl) (by kernel_rfl) (e := Extern.BytealgCount.count) (by kernel_rfl), Lib.run_countString]
  simp only [Result.andThen]
  rw [Oper.upon_value]
  go_wp2
  go_ret
  exact ⟨rfl, rfl⟩

end Go.Proofs
end

section
/- strings.Index and strings.Count at one byte, as contracts of the lifter. -/
set_option maxHeartbeats 4000000
set_option linter.unusedVariables false
namespace W
open Go Go.Ql Go.Proofs
noncomputable section
def strings_Index (s sub : List UInt8) : Option Int := match sub with
  | [c] => some (Lib.indexByte s c)
  | _ => none
def strings_Index.ce : Go.Ql.Callee := ⟨[.str, .str], [.int .i64], fun x_ => strings_Index x_.1 x_.2⟩
theorem strings_Index.ok : CalleeOk Tryd.prog 89 strings_Index.ce := by
  refine ⟨⟨_, Tryd.func89, by kernel_rfl, by kernel_rfl⟩, ?_⟩
  rintro w Z vs ⟨s, sub⟩ r _ _ hvs hF
  obtain ⟨v1, t1, rfl, h1, v2, rfl, h2⟩ : ∃ v1 t1, vs = v1 :: t1 ∧ v1 = .string ⟨List.toArray s⟩ ∧ ∃ v2, t1 = [v2] ∧ v2 = .string ⟨List.toArray sub⟩ := by
    obtain ⟨v, t, e, hv, u, e2, hu⟩ := hvs
    exact ⟨v, t, e, (List.cons.inj hv).1, u, e2, (List.cons.inj hu).1⟩
  subst h1; subst h2
  match sub, hF with
  | [c], hF =>
    have hF : some (Lib.indexByte s c) = some r := hF
    injection hF with hF
    subst hF
    refine (Tryd.strings_Index_one ⟨List.toArray s⟩ c w).mono ?_
    rintro e w' ⟨rfl, rfl⟩
    exact ⟨_, rfl, Same.refl _, rfl⟩
def strings_Count (s sub : List UInt8) : Option Int := match sub with
  | [c] => some (Lib.countByte s c : Nat)
  | _ => none
def strings_Count.ce : Go.Ql.Callee := ⟨[.str, .str], [.int .i64], fun x_ => strings_Count x_.1 x_.2⟩
theorem strings_Count.ok : CalleeOk Tryd.prog 88 strings_Count.ce := by
  refine ⟨⟨_, Tryd.func88, by kernel_rfl, by kernel_rfl⟩, ?_⟩
  rintro w Z vs ⟨s, sub⟩ r _ _ hvs hF
  obtain ⟨v1, t1, rfl, h1, v2, rfl, h2⟩ : ∃ v1 t1, vs = v1 :: t1 ∧ v1 = .string ⟨List.toArray s⟩ ∧ ∃ v2, t1 = [v2] ∧ v2 = .string ⟨List.toArray sub⟩ := by
    obtain ⟨v, t, e, hv, u, e2, hu⟩ := hvs
    exact ⟨v, t, e, (List.cons.inj hv).1, u, e2, (List.cons.inj hu).1⟩
  subst h1; subst h2
  match sub, hF with
  | [c], hF =>
    have hF : some ((Lib.countByte s c : Nat) : Int) = some r := hF
    injection hF with hF
    subst hF
    refine (Tryd.strings_Count_one ⟨List.toArray s⟩ c w).mono ?_
    rintro e w' ⟨rfl, rfl⟩
    exact ⟨_, rfl, Same.refl _, rfl⟩
end
end W
end
