/- THE CARD of WholeReads: for every text and every number the law returns true. -/
import Derived.Test.YtmhhlfpejfajaaaDoorGa
import Derived.Test.YtmhhlfpejfajaaaDoorPb
import Derived.Test.YtmhhlfpejfajaaaDoorTie
import Derived.Test.YtmhhlfpejfajaaaDoorCards
import Derived.Handy
import Derived.Lay
section
/- The card of 'WholeReads' from the plain law. -/
namespace Go.Proofs.YtmhhlfpejfajaaaDoor
open Go.ChangeShapes Go.WideShapes Go.ChangeAt Go.RowKit Go.WideMaps Go.WideElems Go.Ql
open Go.ChangeMaps (open_string shut_string)
theorem Tryd.own : ownKnob Tryd.prog.godebug = none := by kernel_rfl
theorem len_of {a : ByteArray} (h : a.size ≤ maxLen) : a.data.toList.length ≤ 9223372036854775807 := by
  have : maxLen = 9223372036854775807 := by decide
  rw [this] at h
  simpa using h
theorem int_of {n : Int} (h : (Lit.int .i64 n).wf = true) : -9223372036854775808 ≤ n ∧ n ≤ 9223372036854775807 := by
  simp only [Lit.wf, Bool.and_eq_true, decide_eq_true_eq] at h
  exact ⟨h.1, h.2⟩
theorem tTab : (Tryd.prog.globals[0]?).map (·.type) = some 68 := by kernel_rfl
theorem cells_u8 : Tryd.prog.cellsOf 5 = 1 := by kernel_rfl
def litOf : Nat → DataW Unit := fun n => .lit (.int .u8 n)
theorem laid_eq : (Rows.laid_math_bits_deBruijn32tab : DataW Unit) = .agg (Lib.deBruijn32tab.map litOf) := by kernel_rfl
/-- What the condition on the variable says of memory. -/
theorem of_laid {W : World} (h : laidMetH Tryd.prog Rows.wholeReadsRow.laid W) : TabAt 0 Lib.deBruijn32tab W := by
  rw [MakeChecks.laidMetH_plain _ _ _ (by kernel_rfl)] at h
  obtain ⟨ps, ⟨g0, t0, cs0, f0, p0, q0, hg0, ht0, hv0, hd0, _, _⟩, _⟩ := h
  obtain rfl := Option.some.inj (gTab.symm.trans hg0)
  obtain rfl := Option.some.inj (tTab.symm.trans ht0)
  obtain ⟨xs, m, rfl, hx, hlen, hn, hel⟩ := DataW.trod_array Tryd.underlying68 hd0
  rw [cells_u8] at hel
  have hx1 : Lib.deBruijn32tab.map litOf = xs.map (·.1) := by
    have := congrArg Prod.fst hx
    simp only [laid_eq, DataW.agg.injEq] at this
    exact this
  intro j hj
  have hj32 : j < 32 := hj
  have h1 := hel j hj32
  have hxj : xs[j]? = some xs[j] := List.getElem?_eq_getElem (by omega)
  rw [hxj] at h1
  obtain ⟨n, e1, e2, _⟩ := DataW.trod_int Tryd.underlying5 h1
  have hd : (Lib.deBruijn32tab.map litOf)[j]? = some (.lit (.int .u8 n)) := by
    rw [hx1, List.getElem?_map, hxj, Option.map_some, e2]
  rw [List.getElem?_map, Option.map_eq_some_iff] at hd
  obtain ⟨k, k1, k2⟩ := hd
  have hk : (k : Int) = n := by
    simp only [litOf, DataW.lit.injEq, Lit.int.injEq, true_and] at k2
    exact k2
  have hc := World.var?_cell hg0 hv0 j
  rw [hc, List.getD, k1, Option.getD_some, hk]
  have h2 : (cs0.toList.drop (j * 1)).take 1 = [.int .u8 n] := e1
  rw [Nat.mul_one] at h2
  have h3 : cs0.toList[j]? = some (.int .u8 n) := by
    have : ((cs0.toList.drop j).take 1)[0]? = some (.int .u8 n) := by rw [h2]; rfl
    simpa [List.getElem?_take, List.getElem?_drop] using this
  simpa using h3

theorem reads_run (a : ByteArray) (c : Int) (wa : a.size ≤ maxLen) (wc : (Lit.int .i64 c).wf = true) (w : World) (hT : TabAt 0 Lib.deBruijn32tab w) :
    Calls Tryd.prog 3 #[.string a, .int .i64 c] w fun e w' => e = .returned (.bool true) ∧ Same w w' := by
  have h := W.Law_WholeReads.ok.calls w (fun _ => False) [.string a, .int .i64 c] (a.data.toList, c) true hT (fun _ hb => hb.elim)
    ⟨_, _, rfl, rfl, _, rfl, rfl⟩ (reads_law _ _ (len_of wa) (int_of wc))
  exact h.mono fun e w' ⟨v, he, hs, hr⟩ => ⟨by
    have hr' : [v] = [Value.bool true] := hr
    rw [he, List.cons.inj hr' |>.1], hs⟩

set_option maxRecDepth 100000 in
theorem reads_lifted (os : Os) (started : os.Started) (H : Type) (enc : TypeId × Value → H) :
    ReturnsInHanded {} Tryd.checked os 3 .any (fun w args => (Rows.wholeReadsSpec.pre enc Tryd.prog Tryd.f3 [] false w args ∧ laidMetH Tryd.prog Rows.wholeReadsRow.laid w) ∧ sizedMet enc Tryd.prog Tryd.f3 (OpenSpec.ofChange Rows.wholeReadsSpec) false w args)
      (Rows.wholeReadsSpec.post enc Tryd.prog Tryd.f3 false true false false) := by
  refine returnsInHanded_of_change_and (C := Tryd.checked) (X := fun w _ => laidMetH Tryd.prog Rows.wholeReadsRow.laid w) (fun _ _ _ hh h => h.of_heap hh) Tryd.own started (by kernel_rfl) Tryd.func3
    (ChangeSpec.witness_shaped (enc := enc) (C := Tryd.checked) (os := os) (X := fun w _ => laidMetH Tryd.prog Rows.wholeReadsRow.laid w) false (World.laidAll Tryd.prog os Rows.wholeReadsRow.laid) #[.string ⟨#[]⟩, .int .i64 0] 8 (World.laidAll_os _ _ _)
      (World.shaped_of_ZipB (by kernel_rfl) (by kernel_rfl)) (by kernel_rfl) (by kernel_rfl) (by kernel_rfl)
      (by rw [MakeChecks.laidMetH_plain _ _ _ (by kernel_rfl)]; exact laidMet_laidAll _ (by kernel_rfl) (by kernel_rfl))) ?_
  intro W base args ds gs before hval0 hW hcnd _ hL _
  have hval : ∀ (j : Nat) t v, Tryd.f3.params[j]? = some t → args[j]? = some v → Value.okWide Tryd.prog W .any base t v := hval0
  have hW' := hW
  obtain ⟨p, q, hA0, hV, rfl, hfz, hnd⟩ := hW
  have hA : DataW.TrodAll enc Tryd.prog W 0 (fun _ => true) true Tryd.f3.params.toList args.toList ds p := hA0
  rw [Tryd.params3] at hA hval
  obtain ⟨v0, v1, d0, d1, p0, p1, rfl, rfl, rfl, h0, h1⟩ := trodAll_two hA
  obtain ⟨rfl, rfl⟩ := trodVars_none hV
  obtain ⟨a, rfl, rfl, rfl, wa⟩ := open_string Tryd.underlying9 (hval 0 9 v0 rfl rfl) h0
  obtain ⟨c, rfl, rfl, rfl, wc⟩ := open_int Tryd.underlying3 (hval 1 3 v1 rfl rfl) h1
  clear hA0 hval0
  simp only [List.append_nil] at hW'
  refine (reads_run a c wa wc W (of_laid hL)).mono fun e W' ⟨he, hw⟩ => ?_
  subst he
  refine ⟨_, rfl, post_flat (xs := [.lit (.bool true)]) hW' rfl rfl rfl rfl hw (fun _ _ => ?_) (fun _ _ _ _ => ?_) ?_⟩
  · rw [show Tryd.checked.prog = Tryd.prog from rfl, Tryd.params3]
    exact trodAll_mk2 (shut_string Tryd.underlying9 wa) (shut_int Tryd.underlying3 wc)
  · exact trodAll_mk1 (shut_bool Tryd.underlying4 true)
  · exact ok_one (by kernel_rfl) rfl (okWide_bool_mk Tryd.underlying4 true)

theorem reads_row : Rows.WholeReadsSaid :=
  OpenClaim.holds_of_wide 3 Tryd.f3 rfl rfl rfl rfl rfl rfl rfl ⟨rfl, rfl, rfl, rfl, rfl⟩ rfl rfl rfl rfl rfl (by kernel_rfl) Tryd.func3 (by kernel_rfl)
    (of_decide_eq_true (by kernel_rfl)) (by unfold Func.isWrapper; first | (rw [if_pos (by decide +kernel)]; kernel_rfl) | (rw [if_neg (by decide +kernel)]; exact ⟨rfl, rfl⟩))
    (fun os started H enc _ => reads_lifted os started H enc)
theorem reads_said : Rows.WholeReadsCardSaid :=
  Claim7.holds_tied_plain_at .later [] [.data] true (true, "acd164c4bec88e77ce6634cb7c9e55f05070e0ddfff71a983c06fa1a52359ed4") false reads_row (fun _ h => by cases h) (by kernel_rfl) (fun _ h => by cases h) wholeReads_row_tie rfl ⟨rfl, rfl⟩ (by kernel_rfl) rfl
    (fun f fn hf hfn => by
      obtain rfl : f = 3 := Option.some.inj ((show Tryd.prog.funcNamed "qloom/qloomlaw.WholeReads" = some 3 by kernel_rfl).symm.trans hf) |>.symm
      obtain rfl : fn = Tryd.f3 := (Option.some.inj (Tryd.func3.symm.trans hfn)).symm
      exact ⟨by kernel_rfl, fun j t ht => by
        rw [Tryd.params3] at ht
        have hm : t ∈ [9, 3] := by simpa using Array.mem_of_getElem? ht
        have hall : ([9, 3].all fun u => !Tryd.prog.wantsStandIn u) = true := by kernel_rfl
        exact (show Tryd.prog.wantsStandIn t = false by simpa using List.all_eq_true.1 hall t hm)⟩)
    (by kernel_rfl)
end Go.Proofs.YtmhhlfpejfajaaaDoor
end
