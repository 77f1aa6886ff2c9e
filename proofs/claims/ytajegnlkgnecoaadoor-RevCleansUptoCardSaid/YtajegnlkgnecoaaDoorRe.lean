/- Every Deep of an expression leaves its spare qubits clean; arguments of bulk at most 1048576. -/
import Derived.Test.YtajegnlkgnecoaaDoorPc
import Derived.Test.YtajegnlkgnecoaaDoorGa
import Derived.Test.YtajegnlkgnecoaaDoorTie
import Derived.Test.YtajegnlkgnecoaaDoorCards
import Derived.Handy
import Derived.Lay
import Derived.Deep.DeepHandedRow
set_option linter.all false
section
namespace Go.Proofs.YtajegnlkgnecoaaDoor
open Go.ChangeShapes Go.WideShapes Go.ChangeAt Go.RowKit Go.WideMaps Go.WideElems Go.Ql
theorem of_laid {W : World} (h : laidMetH Tryd.prog Rows.revCleansUptoRow.laid W) : TabAt 1 Lib.deBruijn64tab W := by
  rw [MakeChecks.laidMetH_plain _ _ _ (by kernel_rfl)] at h
  have h1 : Lib.TabIs Tryd.prog W "math/bits.deBruijn64tab" .u8 (Lib.deBruijn64tab.map fun n : Nat => (n : Int)) :=
    tabIs_of_mem (g := 1) (t := 100) (e := 5) (n := 64) (by kernel_rfl) (by kernel_rfl) (by kernel_rfl) (by kernel_rfl) (by kernel_rfl) (by kernel_rfl) h
      (by rw [show (Lib.tabData .u8 (Lib.deBruijn64tab.map fun n : Nat => (n : Int)) : DataW Unit) = Rows.laid_math_bits_deBruijn64tab by kernel_rfl]; simp [Rows.revCleansUptoRow])
  intro j hj
  have := h1.cell (g := 1) (by kernel_rfl) j (by simpa using hj)
  rw [this]
  congr 2
  simp [List.getD, hj]
theorem bulk_all {H : Type} : ∀ l : List (DataW H), Rows.uptoBulkAll l = (l.map Rows.uptoBulk).sum
  | [] => by simp [Rows.uptoBulkAll]
  | d :: r => by rw [Rows.uptoBulkAll, bulk_all r, List.map_cons, List.sum_cons]
theorem bulky {H : Type} : Bulky (Rows.uptoBulk (H := H)) where
  agg l := by rw [Rows.uptoBulk, bulk_all]
  slice e s := by rw [Rows.uptoBulk, bulk_all, bulk_all]
theorem cleans_own : ownKnob Tryd.prog.godebug = none := by kernel_rfl
set_option maxRecDepth 100000 in
theorem cleans_reads (os : Os) {H : Type} (enc : TypeId × Value → H) : ∃ places, DataW.whole enc Tryd.prog ((World.laidAll Tryd.prog os Rows.revCleansUptoRow.laid).forCall (fun _ _ => 0) ⟨#[], #[.agg #[.int .i64 0, .int .i64 0, .slice none 0 0], .int .i64 0], []⟩).memory Tryd.f3.params.toList Rows.revCleansSpec.vars false (#[.agg #[.int .i64 0, .int .i64 0, .slice none 0 0], .int .i64 0] : Array Value).toList 8 = some ([.agg [.lit (.int .i64 0), .lit (.int .i64 0), .nil], .lit (.int .i64 0)], [], places) :=
  ⟨[], by kernel_rfl⟩
set_option maxRecDepth 100000 in
theorem cleans_lifted (os : Os) (started : os.Started) (H : Type) (enc : TypeId × Value → H) (F : Stop.Interp) :
    ReturnsInHanded {} Tryd.checked os 3 .any ((Rows.OpenSpec.upto Rows.revCleansSpec).preRow enc Tryd.prog Tryd.f3 Rows.revCleansUptoRow.domain false Rows.revCleansUptoRow.laid) (((Rows.OpenSpec.upto Rows.revCleansSpec).at F).post enc Tryd.prog Tryd.f3 false true false false) := by
  obtain ⟨places, hx⟩ := cleans_reads os enc
  refine returnsInHanded_of_row (C := Tryd.checked) (s := Rows.OpenSpec.upto Rows.revCleansSpec) cleans_own started (by kernel_rfl) Tryd.func3
    (witness_row_at (enc := enc) (C := Tryd.checked) false (World.laidAll Tryd.prog os Rows.revCleansUptoRow.laid) #[.agg #[.int .i64 0, .int .i64 0, .slice none 0 0], .int .i64 0] (World.laidAll_os _ _ _) (by kernel_rfl) (by kernel_rfl) (by kernel_rfl)
      (OpenSpec.preRow_of_cond 8 hx (by kernel_rfl) (fun k hk => by cases hk; kernel_rfl) (by kernel_rfl) (laidMet_laidAll _ (by kernel_rfl) (by kernel_rfl)))) ?_
  intro w0 base args ds gs before hval hW _ hk hsz hL _ _
  have hbulk : ∀ d ∈ ds ++ gs, Rows.uptoBulk d ≤ 1048576 := by
    intro d hd
    have h1 := of_decide_eq_true (hk _ rfl)
    rw [bulk_all] at h1
    exact Nat.le_trans (sum_mem hd) h1
  refine contractX_of (s := Rows.revCleansSpec) bulky W.Law_RevCleans.ok 20 (pts := #[24, 3]) Tryd.params3 (by kernel_rfl) (by kernel_rfl) (by kernel_rfl) rfl (tb := 4) rfl Tryd.underlying4 (W.cleans_wf) (fun ds hd => ?_) hval hW hsz hbulk (of_laid hL)
  match ds, hd with
  | [d0, d1], _ => exact ⟨rfl, rfl, rfl⟩

theorem cleans_row : Rows.RevCleansUptoSaid :=
  OpenClaim.holds_of_cond 3 Tryd.f3 rfl rfl rfl rfl rfl rfl rfl ⟨rfl, rfl, rfl, rfl, rfl⟩ rfl rfl rfl rfl rfl (by kernel_rfl) Tryd.func3 (by kernel_rfl)
    (of_decide_eq_true (by kernel_rfl)) (by unfold Func.isWrapper; first | (rw [if_pos (by decide +kernel)]; kernel_rfl) | (rw [if_neg (by decide +kernel)]; exact ⟨rfl, rfl⟩))
    (fun os started H enc _ F => by rw [OpenClaim.pre_eq_preRow]; exact cleans_lifted os started H enc F)
theorem cleans_said : Rows.RevCleansUptoCardSaid :=
  Claim7.holds_tied_plain_at .later [] [.data, .data] true (true, "d722818060643aa2be2f6c98335f0a2c6eb405a6a7899d384098ec6d31ae0c6a") false cleans_row (fun _ h => by cases h) (by kernel_rfl) (fun _ h => by cases h) revCleansUpto_row_tie rfl ⟨rfl, rfl⟩ (by kernel_rfl) rfl
    (fun f fn hf hfn => by
      obtain rfl : f = 3 := Option.some.inj ((show Tryd.prog.funcNamed "qloom/qloomlaw.RevCleans" = some 3 by kernel_rfl).symm.trans hf) |>.symm
      obtain rfl : fn = Tryd.f3 := (Option.some.inj (Tryd.func3.symm.trans hfn)).symm
      exact ⟨by kernel_rfl, fun j t ht => by
        rw [Tryd.params3] at ht
        have hm : t ∈ [24, 3] := by simpa using Array.mem_of_getElem? ht
        have hall : ([24, 3].all fun u => !Tryd.prog.wantsStandIn u) = true := by kernel_rfl
        exact (show Tryd.prog.wantsStandIn t = false by simpa using List.all_eq_true.1 hall t hm)⟩)
    (by kernel_rfl)
end Go.Proofs.YtajegnlkgnecoaaDoor
end
