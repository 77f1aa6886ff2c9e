/- Every fraction of two numbers, and its convergents, are as the document's answer says, for any three texts. No condition. -/
import Derived.Test.YtmhhlfpejfajaaaGa
import Derived.Test.YtmhhlfpejfajaaaPf
import Derived.Test.YtmhhlfpejfajaaaRows
section
/- The row of 'WholeNears' from the plain law. -/
namespace Go.Proofs.Ytmhhlfpejfajaaa
open Go.ChangeShapes Go.WideShapes Go.ChangeAt Go.RowKit Go.WideMaps Go.WideElems Go.Ql
open Go.ChangeMaps (open_string shut_string)
theorem Try.own : ownKnob Try.prog.godebug = none := by kernel_rfl

theorem len_of {a : ByteArray} (h : a.size ≤ maxLen) : a.data.toList.length ≤ 9223372036854775807 := by
  have : maxLen = 9223372036854775807 := by decide
  rw [this] at h
  simpa using h
theorem int_of {n : Int} (h : (Lit.int .i64 n).wf = true) : -9223372036854775808 ≤ n ∧ n ≤ 9223372036854775807 := by
  simp only [Lit.wf, Bool.and_eq_true, decide_eq_true_eq] at h
  exact ⟨h.1, h.2⟩
theorem nears_run (hall : ∀ (a : List UInt8) (b : List UInt8) (c : List UInt8), a.length ≤ 9223372036854775807 → b.length ≤ 9223372036854775807 → c.length ≤ 9223372036854775807 → W.Law_WholeNears a b c = some true) (a : ByteArray) (b : ByteArray) (c : ByteArray) (wa : a.size ≤ maxLen) (wb : b.size ≤ maxLen) (wc : c.size ≤ maxLen) (w : World) :
    Calls Try.prog 6 #[.string a, .string b, .string c] w fun e w' => e = .returned (.bool true) ∧ Same w w' := by
  have h := W.Law_WholeNears.ok.calls w (fun _ => False) [.string a, .string b, .string c] (a.data.toList, b.data.toList, c.data.toList) true (fun _ hb => hb.elim)
    ⟨_, _, rfl, rfl, ⟨_, _, rfl, rfl, _, rfl, rfl⟩⟩ (hall _ _ _ (len_of wa) (len_of wb) (len_of wc))
  exact h.mono fun e w' ⟨v, he, hs, hr⟩ => ⟨by
    have hr' : [v] = [Value.bool true] := hr
    rw [he, List.cons.inj hr' |>.1], hs⟩

set_option maxRecDepth 100000 in
theorem nears_lifted (hall : ∀ (a : List UInt8) (b : List UInt8) (c : List UInt8), a.length ≤ 9223372036854775807 → b.length ≤ 9223372036854775807 → c.length ≤ 9223372036854775807 → W.Law_WholeNears a b c = some true) (os : Os) (started : os.Started) (H : Type) (enc : TypeId × Value → H) :
    ReturnsInHanded {} Try.checked os 6 .any (Rows.wholeNearsSpec.pre6 enc Try.prog Try.f6 Rows.wholeNearsRow.domain false) (Rows.wholeNearsSpec.post enc Try.prog Try.f6 false true false false) := by
  refine returnsInHanded_of_change (C := Try.checked) Try.own started (by kernel_rfl) Try.func6
    (ChangeSpec.witness6 (enc := enc) (C := Try.checked) false ⟨#[], #[.string ⟨#[]⟩, .string ⟨#[]⟩, .string ⟨#[]⟩], []⟩ 8 (by kernel_rfl) (by kernel_rfl) (by kernel_rfl) (by kernel_rfl)) ?_
  intro W base args ds gs before hval0 hW hcnd _
  have hval : ∀ (j : Nat) t v, Try.f6.params[j]? = some t → args[j]? = some v → Value.okWide Try.prog W .any base t v := hval0
  have hW' := hW
  obtain ⟨p, q, hA0, hV, rfl, hfz, hnd⟩ := hW
  have hA : DataW.TrodAll enc Try.prog W 0 (fun _ => true) true Try.f6.params.toList args.toList ds p := hA0
  rw [Try.params6] at hA hval
  obtain ⟨v0, v1, v2, d0, d1, d2, p0, p1, p2, rfl, rfl, rfl, h0, h1, h2⟩ := trodAll_three hA
  obtain ⟨rfl, rfl⟩ := trodVars_none hV
  obtain ⟨a, rfl, rfl, rfl, wa⟩ := open_string Try.underlying9 (hval 0 9 v0 rfl rfl) h0
  obtain ⟨b, rfl, rfl, rfl, wb⟩ := open_string Try.underlying9 (hval 1 9 v1 rfl rfl) h1
  obtain ⟨c, rfl, rfl, rfl, wc⟩ := open_string Try.underlying9 (hval 2 9 v2 rfl rfl) h2
  clear hA0 hval0
  simp only [List.append_nil] at hW'
  refine (nears_run hall a b c wa wb wc W).mono fun e W' ⟨he, hw⟩ => ?_
  subst he
  refine ⟨_, rfl, post_flat (xs := [.lit (.bool true)]) hW' rfl rfl rfl rfl hw (fun _ _ => ?_) (fun _ _ _ _ => ?_) ?_⟩
  · rw [show Try.checked.prog = Try.prog from rfl, Try.params6]
    exact trodAll_mk3 (shut_string Try.underlying9 wa) (shut_string Try.underlying9 wb) (shut_string Try.underlying9 wc)
  · exact trodAll_mk1 (shut_bool Try.underlying4 true)
  · exact ok_one (by kernel_rfl) rfl (okWide_bool_mk Try.underlying4 true)

theorem nears_row (hall : ∀ (a : List UInt8) (b : List UInt8) (c : List UInt8), a.length ≤ 9223372036854775807 → b.length ≤ 9223372036854775807 → c.length ≤ 9223372036854775807 → W.Law_WholeNears a b c = some true) : Rows.WholeNearsSaid :=
  OpenClaim.holds_of_wide 6 Try.f6 rfl rfl rfl rfl rfl rfl rfl ⟨rfl, rfl, rfl, rfl, rfl⟩ rfl rfl rfl rfl rfl (by kernel_rfl) Try.func6 (by kernel_rfl)
    (of_decide_eq_true (by kernel_rfl)) (by unfold Func.isWrapper; first | (rw [if_pos (by decide +kernel)]; kernel_rfl) | (rw [if_neg (by decide +kernel)]; exact ⟨rfl, rfl⟩))
    (fun os started H enc _ => nears_lifted hall os started H enc)
theorem nears_said : Rows.WholeNearsSaid := nears_row fun a b c ha hb hc => nears_law a b c ha hb hc
end Go.Proofs.Ytmhhlfpejfajaaa
end
