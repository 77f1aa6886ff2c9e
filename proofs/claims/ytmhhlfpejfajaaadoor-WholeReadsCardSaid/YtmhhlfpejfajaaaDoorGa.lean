/- From a typed function's contract to a row over it. -/
import Derived.Test.YtmhhlfpejfajaaaDoorLf
import Derived.ProofKit
section
/- From a typed function's contract to a row over it: arguments of strings and numbers, results of bools. -/
namespace Go.Ql
open Go.ChangeShapes Go.WideShapes Go.ChangeAt Go.RowKit Go.WideMaps Go.WideElems
open Go.ChangeMaps (open_string shut_string)

theorem Same.keptBut {w w' : World} (h : Same w w') (may : MemPlace → Prop) : w.keptBut w' may := by
  refine ⟨h.os, h.output, fun i hi => ?_⟩
  rw [h.block i hi]
  rcases hw : w.heap[i]? with _ | b
  · rfl
  · cases b with
    | cells c t fr => exact ⟨rfl, rfl, rfl, fun _ _ => rfl⟩
    | map es clock => exact Or.inr ⟨rfl, rfl⟩
    | _ => rfl

/-- A call that turns nothing, whose arguments are no places: what it owes. -/
theorem post_flat {H : Type} {enc : TypeId × Value → H} {P : Program} {f : Func} {s : ChangeSpec} {apart fresh handsOn again : Bool} {W W' : World} {args : Array Value} {v : Value} {ds : List (DataW H)} {xs : List (DataW H)}
    (hW : DataW.Whole enc P f.params.toList s.vars apart W args.toList ds [] []) (hv : s.vars = [])
    (hd : (s.fn H (ds ++ [])).args = ds) (hg : (s.fn H (ds ++ [])).vars = [])
    (hr : (s.fn H (ds ++ [])).results = xs)
    (hS : Same W W')
    (hargs : ∀ (w : World) (sp : Nat → Bool), DataW.TrodAll enc P w 0 sp true f.params.toList args.toList ds [])
    (hres : ∀ (w : World) (b : Nat) (sp : Nat → Bool) (hd : Bool), DataW.TrodAll enc P w b sp hd f.resultTypes.toList (v.resultList f.resultTypes.size) xs [])
    (hok : ∀ (j : Nat) (t : TypeId) (r : Value), f.resultTypes[j]? = some t → (v.resultList f.resultTypes.size)[j]? = some r → Value.okWide P W' .any 0 t r) :
    s.post enc P f apart fresh handsOn again W args v W' := by
  have hvars : ∀ (w : World) (sp : Nat → Bool), DataW.TrodVars enc P w sp s.vars [] [] := by
    intro w sp
    rw [hv]
    trivial
  refine ⟨ds, [], [], [], [], [], hW, by rw [hr]; exact hres _ _ _ _, by rw [hd]; exact hargs _ _, by rw [hg]; exact hvars _ _, hS.keptBut _, fun _ => ⟨hok, xs ++ ds, [], [], ⟨[], [], ?_, hvars _ _, rfl, ?_, ?_⟩, ?_⟩⟩
  · exact trodAll_append (hargs _ _) (hres _ _ _ _)
  · intro b off h; cases h
  · intro _; exact List.nodup_nil
  · intro p hp; cases hp
end Go.Ql
end
