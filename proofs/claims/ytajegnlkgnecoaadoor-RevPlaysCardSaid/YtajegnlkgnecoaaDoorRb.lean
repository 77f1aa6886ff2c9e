/- Every Play of a circuit from a basis state. No condition. -/
import Derived.Test.YtajegnlkgnecoaaDoorPc
import Derived.Test.YtajegnlkgnecoaaDoorGa
import Derived.Test.YtajegnlkgnecoaaDoorTie
import Derived.Test.YtajegnlkgnecoaaDoorCards
import Derived.Handy
import Derived.Lay
set_option linter.all false
section
namespace Go.Proofs.YtajegnlkgnecoaaDoor
open Go.ChangeShapes Go.WideShapes Go.ChangeAt Go.RowKit Go.WideMaps Go.WideElems Go.Ql
theorem of_laid {W : World} (h : laidMetH Tryd.prog Rows.revPlaysRow.laid W) : TabAt 1 Lib.deBruijn64tab W := by
  rw [MakeChecks.laidMetH_plain _ _ _ (by kernel_rfl)] at h
  have h1 : Lib.TabIs Tryd.prog W "math/bits.deBruijn64tab" .u8 (Lib.deBruijn64tab.map fun n : Nat => (n : Int)) :=
    tabIs_of_mem (g := 1) (t := 100) (e := 5) (n := 64) (by kernel_rfl) (by kernel_rfl) (by kernel_rfl) (by kernel_rfl) (by kernel_rfl) (by kernel_rfl) h
      (by rw [show (Lib.tabData .u8 (Lib.deBruijn64tab.map fun n : Nat => (n : Int)) : DataW Unit) = Rows.laid_math_bits_deBruijn64tab by kernel_rfl]; simp [Rows.revPlaysRow])
  intro j hj
  have := h1.cell (g := 1) (by kernel_rfl) j (by simpa using hj)
  rw [this]
  congr 2
  simp [List.getD, hj]
theorem plays_own : ownKnob Tryd.prog.godebug = none := by kernel_rfl
set_option maxRecDepth 100000 in
theorem plays_lifted (os : Os) (started : os.Started) (H : Type) (enc : TypeId × Value → H) :
    ReturnsInHanded {} Tryd.checked os 6 .any (fun w args => (Rows.revPlaysSpec.pre enc Tryd.prog Tryd.f6 [] false w args ∧ laidMetH Tryd.prog Rows.revPlaysRow.laid w) ∧ sizedMet enc Tryd.prog Tryd.f6 (OpenSpec.ofChange Rows.revPlaysSpec) false w args)
      (Rows.revPlaysSpec.post enc Tryd.prog Tryd.f6 false true false false) := by
  refine returnsInHanded_of_change_and (C := Tryd.checked) (X := fun w _ => laidMetH Tryd.prog Rows.revPlaysRow.laid w) (fun _ _ _ hh h => h.of_heap hh) plays_own started (by kernel_rfl) Tryd.func6
    (ChangeSpec.witness_shaped (enc := enc) (C := Tryd.checked) (os := os) (X := fun w _ => laidMetH Tryd.prog Rows.revPlaysRow.laid w) false (World.laidAll Tryd.prog os Rows.revPlaysRow.laid) #[.agg #[.int .i64 0, .int .i64 0, .slice none 0 0], .int .i64 0] 8 (World.laidAll_os _ _ _)
      (World.shaped_of_ZipB (by kernel_rfl) (by kernel_rfl)) (by kernel_rfl) (by kernel_rfl) (by kernel_rfl)
      (by rw [MakeChecks.laidMetH_plain _ _ _ (by kernel_rfl)]; exact laidMet_laidAll _ (by kernel_rfl) (by kernel_rfl))) ?_
  intro w0 base args ds gs before hval hW _ hsz hL _
  refine contract_of (s := Rows.revPlaysSpec) W.Law_RevPlays.ok 20 (pts := #[27, 3]) Tryd.params6 (by kernel_rfl) (by kernel_rfl) (by kernel_rfl) rfl (tb := 4) rfl Tryd.underlying4 (W.plays_wf) (fun ds hd => ?_) hval hW hsz (of_laid hL)
  match ds, hd with
  | [d0, d1], _ => exact ⟨rfl, rfl, rfl⟩

theorem plays_row : Rows.RevPlaysSaid :=
  OpenClaim.holds_of_wide 6 Tryd.f6 rfl rfl rfl rfl rfl rfl rfl ⟨rfl, rfl, rfl, rfl, rfl⟩ rfl rfl rfl rfl rfl (by kernel_rfl) Tryd.func6 (by kernel_rfl)
    (of_decide_eq_true (by kernel_rfl)) (by unfold Func.isWrapper; first | (rw [if_pos (by decide +kernel)]; kernel_rfl) | (rw [if_neg (by decide +kernel)]; exact ⟨rfl, rfl⟩))
    (fun os started H enc _ => plays_lifted os started H enc)
theorem plays_said : Rows.RevPlaysCardSaid :=
  Claim7.holds_tied_plain_at .later [] [.data, .data] true (true, "d722818060643aa2be2f6c98335f0a2c6eb405a6a7899d384098ec6d31ae0c6a") false plays_row (fun _ h => by cases h) (by kernel_rfl) (fun _ h => by cases h) revPlays_row_tie rfl ⟨rfl, rfl⟩ (by kernel_rfl) rfl
    (fun f fn hf hfn => by
      obtain rfl : f = 6 := Option.some.inj ((show Tryd.prog.funcNamed "qloom/qloomlaw.RevPlays" = some 6 by kernel_rfl).symm.trans hf) |>.symm
      obtain rfl : fn = Tryd.f6 := (Option.some.inj (Tryd.func6.symm.trans hfn)).symm
      exact ⟨by kernel_rfl, fun j t ht => by
        rw [Tryd.params6] at ht
        have hm : t ∈ [27, 3] := by simpa using Array.mem_of_getElem? ht
        have hall : ([27, 3].all fun u => !Tryd.prog.wantsStandIn u) = true := by kernel_rfl
        exact (show Tryd.prog.wantsStandIn t = false by simpa using List.all_eq_true.1 hall t hm)⟩)
    (by kernel_rfl)
end Go.Proofs.YtajegnlkgnecoaaDoor
end
