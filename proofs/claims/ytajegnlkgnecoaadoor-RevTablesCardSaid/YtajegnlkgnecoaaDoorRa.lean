/- Every Table: a permutation's circuit does it; what is not one is refused. No condition. -/
import Derived.Test.YtajegnlkgnecoaaDoorPc
import Derived.Test.YtajegnlkgnecoaaDoorGa
import Derived.Test.YtajegnlkgnecoaaDoorTie
import Derived.Test.YtajegnlkgnecoaaDoorCards
import Derived.Handy
import Derived.Lay
set_option linter.all false
section
namespace Go.Proofs.YtajegnlkgnecoaaDoor
open Go.ChangeShapes Go.WideShapes Go.ChangeAt Go.RowKit Go.WideMaps Go.WideElems Go.Ql
theorem of_laid {W : World} (h : laidMetH Tryd.prog Rows.revTablesRow.laid W) : TabAt 1 Lib.deBruijn64tab W := by
  rw [MakeChecks.laidMetH_plain _ _ _ (by kernel_rfl)] at h
  have h1 : Lib.TabIs Tryd.prog W "math/bits.deBruijn64tab" .u8 (Lib.deBruijn64tab.map fun n : Nat => (n : Int)) :=
    tabIs_of_mem (g := 1) (t := 100) (e := 5) (n := 64) (by kernel_rfl) (by kernel_rfl) (by kernel_rfl) (by kernel_rfl) (by kernel_rfl) (by kernel_rfl) h
      (by rw [show (Lib.tabData .u8 (Lib.deBruijn64tab.map fun n : Nat => (n : Int)) : DataW Unit) = Rows.laid_math_bits_deBruijn64tab by kernel_rfl]; simp [Rows.revTablesRow])
  intro j hj
  have := h1.cell (g := 1) (by kernel_rfl) j (by simpa using hj)
  rw [this]
  congr 2
  simp [List.getD, hj]
theorem tables_own : ownKnob Tryd.prog.godebug = none := by kernel_rfl
set_option maxRecDepth 100000 in
theorem tables_lifted (os : Os) (started : os.Started) (H : Type) (enc : TypeId × Value → H) :
    ReturnsInHanded {} Tryd.checked os 4 .any (fun w args => (Rows.revTablesSpec.pre enc Tryd.prog Tryd.f4 [] false w args ∧ laidMetH Tryd.prog Rows.revTablesRow.laid w) ∧ sizedMet enc Tryd.prog Tryd.f4 (OpenSpec.ofChange Rows.revTablesSpec) false w args)
      (Rows.revTablesSpec.post enc Tryd.prog Tryd.f4 false true false false) := by
  refine returnsInHanded_of_change_and (C := Tryd.checked) (X := fun w _ => laidMetH Tryd.prog Rows.revTablesRow.laid w) (fun _ _ _ hh h => h.of_heap hh) tables_own started (by kernel_rfl) Tryd.func4
    (ChangeSpec.witness_shaped (enc := enc) (C := Tryd.checked) (os := os) (X := fun w _ => laidMetH Tryd.prog Rows.revTablesRow.laid w) false (World.laidAll Tryd.prog os Rows.revTablesRow.laid) #[.slice none 0 0] 8 (World.laidAll_os _ _ _)
      (World.shaped_of_ZipB (by kernel_rfl) (by kernel_rfl)) (by kernel_rfl) (by kernel_rfl) (by kernel_rfl)
      (by rw [MakeChecks.laidMetH_plain _ _ _ (by kernel_rfl)]; exact laidMet_laidAll _ (by kernel_rfl) (by kernel_rfl))) ?_
  intro w0 base args ds gs before hval hW _ hsz hL _
  refine contract_of (s := Rows.revTablesSpec) W.Law_RevTables.ok 20 (pts := #[41]) Tryd.params4 (by kernel_rfl) (by kernel_rfl) (by kernel_rfl) rfl (tb := 4) rfl Tryd.underlying4 (W.tables_wf) (fun ds hd => ?_) hval hW hsz (of_laid hL)
  match ds, hd with
  | [d0], _ => exact ⟨rfl, rfl, rfl⟩

theorem tables_row : Rows.RevTablesSaid :=
  OpenClaim.holds_of_wide 4 Tryd.f4 rfl rfl rfl rfl rfl rfl rfl ⟨rfl, rfl, rfl, rfl, rfl⟩ rfl rfl rfl rfl rfl (by kernel_rfl) Tryd.func4 (by kernel_rfl)
    (of_decide_eq_true (by kernel_rfl)) (by unfold Func.isWrapper; first | (rw [if_pos (by decide +kernel)]; kernel_rfl) | (rw [if_neg (by decide +kernel)]; exact ⟨rfl, rfl⟩))
    (fun os started H enc _ => tables_lifted os started H enc)
theorem tables_said : Rows.RevTablesCardSaid :=
  Claim7.holds_tied_plain_at .later [] [.data, .data] true (true, "d722818060643aa2be2f6c98335f0a2c6eb405a6a7899d384098ec6d31ae0c6a") false tables_row (fun _ h => by cases h) (by kernel_rfl) (fun _ h => by cases h) revTables_row_tie rfl ⟨rfl, rfl⟩ (by kernel_rfl) rfl
    (fun f fn hf hfn => by
      obtain rfl : f = 4 := Option.some.inj ((show Tryd.prog.funcNamed "qloom/qloomlaw.RevTables" = some 4 by kernel_rfl).symm.trans hf) |>.symm
      obtain rfl : fn = Tryd.f4 := (Option.some.inj (Tryd.func4.symm.trans hfn)).symm
      exact ⟨by kernel_rfl, fun j t ht => by
        rw [Tryd.params4] at ht
        have hm : t ∈ [41] := by simpa using Array.mem_of_getElem? ht
        have hall : ([41].all fun u => !Tryd.prog.wantsStandIn u) = true := by kernel_rfl
        exact (show Tryd.prog.wantsStandIn t = false by simpa using List.all_eq_true.1 hall t hm)⟩)
    (by kernel_rfl)
end Go.Proofs.YtajegnlkgnecoaaDoor
end
