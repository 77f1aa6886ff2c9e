/- Sums, products, mirrors: for any lists and exponents. No condition. -/
import Derived.Test.YtbnknipedhokjaaDoorPb
import Derived.Test.YtbnknipedhokjaaDoorGa
import Derived.Test.YtbnknipedhokjaaDoorTie
import Derived.Test.YtbnknipedhokjaaDoorCards
import Derived.Handy
import Derived.Lay
set_option linter.all false
section
namespace Go.Proofs.YtbnknipedhokjaaDoor
open Go.ChangeShapes Go.WideShapes Go.ChangeAt Go.RowKit Go.WideMaps Go.WideElems Go.Ql
theorem of_laid {W : World} (h : laidMetH Tryd.prog Rows.ringReckonsRow.laid W) : TabAt 0 Lib.deBruijn32tab W ∧ PowAt W := by
  rw [MakeChecks.laidMetH_plain _ _ _ (by kernel_rfl)] at h
  have h1 : Lib.TabIs Tryd.prog W "math/bits.deBruijn32tab" .u8 (Lib.deBruijn32tab.map fun n : Nat => (n : Int)) :=
    tabIs_of_mem (g := 0) (t := 133) (e := 5) (n := 32) (by kernel_rfl) (by kernel_rfl) (by kernel_rfl) (by kernel_rfl) (by kernel_rfl) (by kernel_rfl) h
      (by rw [show (Lib.tabData .u8 (Lib.deBruijn32tab.map fun n : Nat => (n : Int)) : DataW Unit) = Rows.laid_math_bits_deBruijn32tab by kernel_rfl]; simp [Rows.ringReckonsRow])
  have h2 : Lib.TabIs Tryd.prog W "internal/strconv.uint64pow10" .u64 Lib.pow10Tab :=
    tabIs_of_mem (g := 4) (t := 150) (e := 73) (n := 20) (by kernel_rfl) (by kernel_rfl) (by kernel_rfl) (by kernel_rfl) (by kernel_rfl) (by kernel_rfl) h
      (by rw [show (Lib.tabData .u64 Lib.pow10Tab : DataW Unit) = Rows.laid_internal_strconv_uint64pow10 by kernel_rfl]; simp [Rows.ringReckonsRow])
  refine ⟨fun j hj => ?_, h2⟩
  have := h1.cell (g := 0) (by kernel_rfl) j (by simpa using hj)
  rw [this]
  congr 2
  simp [List.getD, hj]
theorem reckons_own : ownKnob Tryd.prog.godebug = none := by kernel_rfl
set_option maxRecDepth 100000 in
theorem reckons_lifted (os : Os) (started : os.Started) (H : Type) (enc : TypeId × Value → H) :
    ReturnsInHanded {} Tryd.checked os 3 .any (fun w args => (Rows.ringReckonsSpec.pre enc Tryd.prog Tryd.f3 [] false w args ∧ laidMetH Tryd.prog Rows.ringReckonsRow.laid w) ∧ sizedMet enc Tryd.prog Tryd.f3 (OpenSpec.ofChange Rows.ringReckonsSpec) false w args)
      (Rows.ringReckonsSpec.post enc Tryd.prog Tryd.f3 false true false false) := by
  refine returnsInHanded_of_change_and (C := Tryd.checked) (X := fun w _ => laidMetH Tryd.prog Rows.ringReckonsRow.laid w) (fun _ _ _ hh h => h.of_heap hh) reckons_own started (by kernel_rfl) Tryd.func3
    (ChangeSpec.witness_shaped (enc := enc) (C := Tryd.checked) (os := os) (X := fun w _ => laidMetH Tryd.prog Rows.ringReckonsRow.laid w) false (World.laidAll Tryd.prog os Rows.ringReckonsRow.laid) #[.slice none 0 0, .slice none 0 0, .int .i64 0, .int .i64 0] 8 (World.laidAll_os _ _ _)
      (World.shaped_of_ZipB (by kernel_rfl) (by kernel_rfl)) (by kernel_rfl) (by kernel_rfl) (by kernel_rfl)
      (by rw [MakeChecks.laidMetH_plain _ _ _ (by kernel_rfl)]; exact laidMet_laidAll _ (by kernel_rfl) (by kernel_rfl))) ?_
  intro w0 base args ds gs before hval hW _ hsz hL _
  refine contract_of (s := Rows.ringReckonsSpec) W.Law_RingReckons.ok 20 (pts := #[22, 22, 3, 3]) Tryd.params3 (by kernel_rfl) (by kernel_rfl) (by kernel_rfl) rfl (tb := 4) rfl Tryd.underlying4 (reckons_wf) (fun ds hd => ?_) hval hW hsz (of_laid hL)
  match ds, hd with
  | [d0, d1, d2, d3], _ => exact ⟨rfl, rfl, rfl⟩

theorem reckons_row : Rows.RingReckonsSaid :=
  OpenClaim.holds_of_wide 3 Tryd.f3 rfl rfl rfl rfl rfl rfl rfl ⟨rfl, rfl, rfl, rfl, rfl⟩ rfl rfl rfl rfl rfl (by kernel_rfl) Tryd.func3 (by kernel_rfl)
    (of_decide_eq_true (by kernel_rfl)) (by unfold Func.isWrapper; first | (rw [if_pos (by decide +kernel)]; kernel_rfl) | (rw [if_neg (by decide +kernel)]; exact ⟨rfl, rfl⟩))
    (fun os started H enc _ => reckons_lifted os started H enc)
theorem reckons_said : Rows.RingReckonsCardSaid :=
  Claim7.holds_tied_plain_at .later [] [.data, .data, .data] true (true, "3cfd3a428e8ee27e000ca526ea67a36081bf54bd7f74d98d9be510704689d084") true reckons_row (fun _ h => by cases h) (by kernel_rfl) (fun _ h => by cases h) ringReckons_row_tie rfl ⟨rfl, rfl⟩ (by kernel_rfl) rfl
    (fun f fn hf hfn => by
      obtain rfl : f = 3 := Option.some.inj ((show Tryd.prog.funcNamed "qloom/qloomlaw.RingReckons" = some 3 by kernel_rfl).symm.trans hf) |>.symm
      obtain rfl : fn = Tryd.f3 := (Option.some.inj (Tryd.func3.symm.trans hfn)).symm
      exact ⟨by kernel_rfl, fun j t ht => by
        rw [Tryd.params3] at ht
        have hm : t ∈ [22, 22, 3, 3] := by simpa using Array.mem_of_getElem? ht
        have hall : ([22, 22, 3, 3].all fun u => !Tryd.prog.wantsStandIn u) = true := by kernel_rfl
        exact (show Tryd.prog.wantsStandIn t = false by simpa using List.all_eq_true.1 hall t hm)⟩)
    (by kernel_rfl)
end Go.Proofs.YtbnknipedhokjaaDoor
end
