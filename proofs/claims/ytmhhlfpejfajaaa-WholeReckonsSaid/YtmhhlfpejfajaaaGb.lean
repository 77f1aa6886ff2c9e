/- Sums, differences, products and the order of whole numbers are as the document's answer says, for any two texts. No condition. -/
import Derived.Test.YtmhhlfpejfajaaaGa
import Derived.Test.YtmhhlfpejfajaaaPd
import Derived.Test.YtmhhlfpejfajaaaRows
section
/- The row of 'WholeReckons' from the plain law. -/
namespace Go.Proofs.Ytmhhlfpejfajaaa
open Go.ChangeShapes Go.WideShapes Go.ChangeAt Go.RowKit Go.WideMaps Go.WideElems Go.Ql
open Go.ChangeMaps (open_string shut_string)
theorem Try.own : ownKnob Try.prog.godebug = none := by kernel_rfl

theorem len_of {a : ByteArray} (h : a.size ≤ maxLen) : a.data.toList.length ≤ 9223372036854775807 := by
  have : maxLen = 9223372036854775807 := by decide
  rw [this] at h
  simpa using h

theorem reckons_run (hall : ∀ a b : List UInt8, a.length ≤ 9223372036854775807 → b.length ≤ 9223372036854775807 → W.Law_WholeReckons a b = some true) (a b : ByteArray) (wa : a.size ≤ maxLen) (wb : b.size ≤ maxLen) (w : World) :
    Calls Try.prog 3 #[.string a, .string b] w fun e w' => e = .returned (.bool true) ∧ Same w w' := by
  have h := W.Law_WholeReckons.ok.calls w (fun _ => False) [.string a, .string b] (a.data.toList, b.data.toList) true (fun _ hb => hb.elim)
    ⟨_, _, rfl, rfl, _, rfl, rfl⟩ (hall _ _ (len_of wa) (len_of wb))
  exact h.mono fun e w' ⟨v, he, hs, hr⟩ => ⟨by
    have hr' : [v] = [Value.bool true] := hr
    rw [he, List.cons.inj hr' |>.1], hs⟩

set_option maxRecDepth 100000 in
theorem reckons_lifted (hall : ∀ a b : List UInt8, a.length ≤ 9223372036854775807 → b.length ≤ 9223372036854775807 → W.Law_WholeReckons a b = some true) (os : Os) (started : os.Started) (H : Type) (enc : TypeId × Value → H) :
    ReturnsInHanded {} Try.checked os 3 .any (Rows.wholeReckonsSpec.pre6 enc Try.prog Try.f3 Rows.wholeReckonsRow.domain false) (Rows.wholeReckonsSpec.post enc Try.prog Try.f3 false true false false) := by
  refine returnsInHanded_of_change (C := Try.checked) Try.own started (by kernel_rfl) Try.func3
    (ChangeSpec.witness6 (enc := enc) (C := Try.checked) false ⟨#[], #[.string ⟨#[]⟩, .string ⟨#[]⟩], []⟩ 8 (by kernel_rfl) (by kernel_rfl) (by kernel_rfl) (by kernel_rfl)) ?_
  intro W base args ds gs before hval0 hW hcnd _
  have hval : ∀ (j : Nat) t v, Try.f3.params[j]? = some t → args[j]? = some v → Value.okWide Try.prog W .any base t v := hval0
  have hW' := hW
  obtain ⟨p, q, hA0, hV, rfl, hfz, hnd⟩ := hW
  have hA : DataW.TrodAll enc Try.prog W 0 (fun _ => true) true Try.f3.params.toList args.toList ds p := hA0
  rw [Try.params3] at hA hval
  obtain ⟨v0, v1, d0, d1, p0, p1, rfl, rfl, rfl, h0, h1⟩ := trodAll_two hA
  obtain ⟨rfl, rfl⟩ := trodVars_none hV
  obtain ⟨a, rfl, rfl, rfl, wa⟩ := open_string Try.underlying9 (hval 0 9 v0 rfl rfl) h0
  obtain ⟨b, rfl, rfl, rfl, wb⟩ := open_string Try.underlying9 (hval 1 9 v1 rfl rfl) h1
  clear hA0 hval0
  simp only [List.append_nil] at hW'
  refine (reckons_run hall a b wa wb W).mono fun e W' ⟨he, hw⟩ => ?_
  subst he
  refine ⟨_, rfl, post_flat (xs := [.lit (.bool true)]) hW' rfl rfl rfl rfl hw (fun _ _ => ?_) (fun _ _ _ _ => ?_) ?_⟩
  · rw [show Try.checked.prog = Try.prog from rfl, Try.params3]
    exact trodAll_mk2 (shut_string Try.underlying9 wa) (shut_string Try.underlying9 wb)
  · exact trodAll_mk1 (shut_bool Try.underlying4 true)
  · exact ok_one (by kernel_rfl) rfl (okWide_bool_mk Try.underlying4 true)

theorem reckons_row (hall : ∀ a b : List UInt8, a.length ≤ 9223372036854775807 → b.length ≤ 9223372036854775807 → W.Law_WholeReckons a b = some true) : Rows.WholeReckonsSaid :=
  OpenClaim.holds_of_wide 3 Try.f3 rfl rfl rfl rfl rfl rfl rfl ⟨rfl, rfl, rfl, rfl, rfl⟩ rfl rfl rfl rfl rfl (by kernel_rfl) Try.func3 (by kernel_rfl)
    (of_decide_eq_true (by kernel_rfl)) (by unfold Func.isWrapper; first | (rw [if_pos (by decide +kernel)]; kernel_rfl) | (rw [if_neg (by decide +kernel)]; exact ⟨rfl, rfl⟩))
    (fun os started H enc _ => reckons_lifted hall os started H enc)
theorem reckons_said : Rows.WholeReckonsSaid := reckons_row fun a b ha hb => reckons_law a b ha hb
end Go.Proofs.Ytmhhlfpejfajaaa
end
