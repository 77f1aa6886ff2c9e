/- The laws of the numbers of circuits, for any lists, exponents and turns. -/
import Derived.Test.YtjlmpaffhddmdaaDoorPb
import Derived.Test.YtjlmpaffhddmdaaDoorGa
import Derived.Stop.LaidErr
import Derived.Test.YtjlmpaffhddmdaaDoorTie
import Derived.Test.YtjlmpaffhddmdaaDoorCards
import Derived.Handy
import Derived.Lay
set_option linter.all false
section
namespace Go.Proofs.YtjlmpaffhddmdaaDoor
open Go.ChangeShapes Go.WideShapes Go.ChangeAt Go.RowKit Go.WideMaps Go.WideElems Go.Ql
theorem star_es : "*" ++ "errors.errorString" = "*errors.errorString" := by decide
theorem row_es (u : TypeId) (h : Tryd.prog.typeName? 3 u = some "*errors.errorString") : u = 129 :=
  typeName_ptr_named (nm := "errors.errorString") (by rw [star_es]; kernel_rfl) (by kernel_rfl) (by decide) u (by rw [star_es]; exact h)
set_option maxRecDepth 100000 in
theorem of_laid {W : World} (h : laidMetH Tryd.prog Rows.ringLawsRow.laid W) : (TabAt 0 Lib.deBruijn32tab W ∧ PowAt W) ∧ (ErrAt "strconv.ErrSyntax" W ∧ ErrAt "strconv.ErrRange" W) := by
  rw [MakeChecks.laidMetH_plain _ _ _ (by kernel_rfl)] at h
  have h1 : Lib.TabIs Tryd.prog W "math/bits.deBruijn32tab" .u8 (Lib.deBruijn32tab.map fun n : Nat => (n : Int)) :=
    tabIs_of_mem (g := 0) (t := 107) (e := 5) (n := 32) (by kernel_rfl) (by kernel_rfl) (by kernel_rfl) (by kernel_rfl) (by kernel_rfl) (by kernel_rfl) h
      (by rw [show (Lib.tabData .u8 (Lib.deBruijn32tab.map fun n : Nat => (n : Int)) : DataW Unit) = Rows.laid_math_bits_deBruijn32tab by kernel_rfl]; simp [Rows.ringLawsRow])
  have h2 : Lib.TabIs Tryd.prog W "internal/strconv.uint64pow10" .u64 Lib.pow10Tab :=
    tabIs_of_mem (g := 4) (t := 124) (e := 67) (n := 20) (by kernel_rfl) (by kernel_rfl) (by kernel_rfl) (by kernel_rfl) (by kernel_rfl) (by kernel_rfl) h
      (by rw [show (Lib.tabData .u64 Lib.pow10Tab : DataW Unit) = Rows.laid_internal_strconv_uint64pow10 by kernel_rfl]; simp [Rows.ringLawsRow])
  have h3 := h.tail.tail.tail
  have c1 : Tryd.prog.cellsOf 131 = 1 := by kernel_rfl
  have c2 : Tryd.prog.cellsOf 9 = 1 := by kernel_rfl
  have u1 : Tryd.prog.underlying 9 = some .string := by kernel_rfl
  obtain ⟨a0, s0, hv0, _, _, _⟩ := laid_sentinel h3 (ti := 64) (tp := 129) (te := 131) (ts := 9) gRan (by kernel_rfl) Tryd.underlying64 row_es Tryd.underlying129 Tryd.underlying131 rfl rfl u1 c1 c2
  obtain ⟨a1, s1, hv1, _, _, _⟩ := laid_sentinel h3.tail (ti := 64) (tp := 129) (te := 131) (ts := 9) gSyn (by kernel_rfl) Tryd.underlying64 row_es Tryd.underlying129 Tryd.underlying131 rfl rfl u1 c1 c2
  refine ⟨⟨fun j hj => ?_, h2⟩, ⟨_, _, hv1⟩, ⟨_, _, hv0⟩⟩
  have := h1.cell (g := 0) (by kernel_rfl) j (by simpa using hj)
  rw [this]
  congr 2
  simp [List.getD, hj]
theorem laws_own : ownKnob Tryd.prog.godebug = none := by kernel_rfl
set_option maxRecDepth 100000 in
theorem laws_lifted (os : Os) (started : os.Started) (H : Type) (enc : TypeId × Value → H) :
    ReturnsInHanded {} Tryd.checked os 3 .any (fun w args => (Rows.ringLawsSpec.pre enc Tryd.prog Tryd.f3 [] false w args ∧ laidMetH Tryd.prog Rows.ringLawsRow.laid w) ∧ sizedMet enc Tryd.prog Tryd.f3 (OpenSpec.ofChange Rows.ringLawsSpec) false w args)
      (Rows.ringLawsSpec.post enc Tryd.prog Tryd.f3 false true false false) := by
  refine returnsInHanded_of_change_and (C := Tryd.checked) (X := fun w _ => laidMetH Tryd.prog Rows.ringLawsRow.laid w) (fun _ _ _ hh h => h.of_heap hh) laws_own started (by kernel_rfl) Tryd.func3
    (ChangeSpec.witness_shaped (enc := enc) (C := Tryd.checked) (os := os) (X := fun w _ => laidMetH Tryd.prog Rows.ringLawsRow.laid w) false (World.laidAll Tryd.prog os Rows.ringLawsRow.laid) #[.slice none 0 0, .slice none 0 0, .slice none 0 0, .int .i64 0, .int .i64 0, .int .i64 0] 8 (World.laidAll_os _ _ _)
      (World.shaped_of_ZipB (by kernel_rfl) (by kernel_rfl)) (by kernel_rfl) (by kernel_rfl) (by kernel_rfl)
      (by rw [MakeChecks.laidMetH_plain _ _ _ (by kernel_rfl)]; exact laidMet_laidAll _ (by kernel_rfl) (by kernel_rfl))) ?_
  intro w0 base args ds gs before hval hW _ hsz hL _
  refine contract_of (s := Rows.ringLawsSpec) W.Law_RingLaws.ok 20 (pts := #[22, 22, 22, 3, 3, 3]) Tryd.params3 (by kernel_rfl) (by kernel_rfl) (by kernel_rfl) rfl (tb := 4) rfl Tryd.underlying4 (laws_wf) (fun ds hd => ?_) hval hW hsz (of_laid hL)
  match ds, hd with
  | [d0, d1, d2, d3, d4, d5], _ => exact ⟨rfl, rfl, rfl⟩

theorem laws_row : Rows.RingLawsSaid :=
  OpenClaim.holds_of_wide 3 Tryd.f3 rfl rfl rfl rfl rfl rfl rfl ⟨rfl, rfl, rfl, rfl, rfl⟩ rfl rfl rfl rfl rfl (by kernel_rfl) Tryd.func3 (by kernel_rfl)
    (of_decide_eq_true (by kernel_rfl)) (by unfold Func.isWrapper; first | (rw [if_pos (by decide +kernel)]; kernel_rfl) | (rw [if_neg (by decide +kernel)]; exact ⟨rfl, rfl⟩))
    (fun os started H enc _ => laws_lifted os started H enc)
theorem laws_said : Rows.RingLawsCardSaid :=
  Claim7.holds_tied_plain_at .later [] [.data, .data, .data, .sentinel, .sentinel] true (true, "c5eafd75c1d06c60a3bcca0a4d41f2933495743e96f62a4ce47afb5dcb9d3440") true laws_row (fun _ h => by cases h) (by kernel_rfl) (fun _ h => by cases h) ringLaws_row_tie rfl ⟨rfl, rfl⟩ (by kernel_rfl) rfl
    (fun f fn hf hfn => by
      obtain rfl : f = 3 := Option.some.inj ((show Tryd.prog.funcNamed "qloom/qloomlaw.RingLaws" = some 3 by kernel_rfl).symm.trans hf) |>.symm
      obtain rfl : fn = Tryd.f3 := (Option.some.inj (Tryd.func3.symm.trans hfn)).symm
      exact ⟨by kernel_rfl, fun j t ht => by
        rw [Tryd.params3] at ht
        have hm : t ∈ [22, 22, 22, 3, 3, 3] := by simpa using Array.mem_of_getElem? ht
        have hall : ([22, 22, 22, 3, 3, 3].all fun u => !Tryd.prog.wantsStandIn u) = true := by kernel_rfl
        exact (show Tryd.prog.wantsStandIn t = false by simpa using List.all_eq_true.1 hall t hm)⟩)
    (by kernel_rfl)
end Go.Proofs.YtjlmpaffhddmdaaDoor
end
