/- Plain laws: circuits checked; expressions, their values, their normal forms; circuits of Xs played. -/
import Derived.Test.YtajegnlkgnecoaaDoorWb
import Derived.Test.YtajegnlkgnecoaaDoorPa
import Derived.Test.YtajegnlkgnecoaaDoorWa
set_option linter.all false
section
section
namespace Go.Ql
abbrev Op := Int × Int × List Int × Int × Int × List Int
abbrev Cir := Int × Int × List Op
def WOp (o : Op) : Prop := o.2.2.1.length ≤ 17592186043904 ∧ o.2.2.2.2.2.length ≤ 17592186043904
def WCir (c : Cir) : Prop := c.2.2.length ≤ 1759218604390 ∧ ∀ o ∈ c.2.2, WOp o
def ctlBad (q0 qn : Int) : List Int → List Int → Int
  | _, [] => 0
  | pre, q :: r => if q < 0 ∨ qn ≤ q then 10 else if q = q0 ∨ q ∈ pre then 12 else ctlBad q0 qn (pre ++ [q]) r
def ifBad (bn : Int) (l : List Int) : Prop := ∃ v ∈ l, v = 0 ∨ bn < v ∨ v < -bn
instance (bn : Int) (l : List Int) : Decidable (ifBad bn l) := by unfold ifBad; infer_instance
def opBad (o : Op) (qn bn : Int) : Int :=
  if o.1 < 1 ∨ 6 < o.1 then 8
  else if o.2.1 < 0 ∨ 15 < o.2.1 ∨ (¬ (o.1 = 1 ∨ o.1 = 4) ∧ o.2.1 ≠ 0) then 9
  else if o.2.2.2.1 < 0 ∨ qn ≤ o.2.2.2.1 ∨ (o.1 = 1 ∧ o.2.2.2.1 ≠ 0) then 10
  else if o.2.2.1 ≠ [] ∧ ¬ (o.1 = 2 ∨ o.1 = 3 ∨ o.1 = 4) then 11
  else if ctlBad o.2.2.2.1 qn [] o.2.2.1 ≠ 0 then ctlBad o.2.2.2.1 qn [] o.2.2.1
  else if (o.1 = 5 ∧ (o.2.2.2.2.1 < 0 ∨ bn ≤ o.2.2.2.2.1)) ∨ (o.1 ≠ 5 ∧ o.2.2.2.2.1 ≠ 0) then 13
  else if 24 < o.2.2.2.2.2.length then 14
  else if ifBad bn o.2.2.2.2.2 then 14 else 0
theorem one_c1 (k : Int) : W.circ_one.c1 k some = some (decide (k < 1 ∨ 6 < k)) := by
  simp only [W.circ_one.c1, br_or]; exact some_dec (by simp)
theorem turns_ok (k : Int) : W.circ_turns k = some (decide (k = 1 ∨ k = 4)) := by
  simp only [W.circ_turns, W.circ_turns.c1, br_or, bnd_val]; exact some_dec (by simp)
theorem gate_ok (k : Int) : W.circ_gate k = some (decide (k = 2 ∨ k = 3 ∨ k = 4)) := by
  simp only [W.circ_gate, W.circ_gate.c1, br_or, bnd_val]; exact some_dec (by simp)
theorem one_c3 (k a : Int) : W.circ_one.c3 k a some = some (decide (a < 0 ∨ 15 < a ∨ (¬ (k = 1 ∨ k = 4) ∧ a ≠ 0))) := by
  simp only [W.circ_one.c3, turns_ok, br_or, br_and, bnd_val]; exact some_dec (by simp)
theorem one_c5 (k q qn : Int) : W.circ_one.c5 k q qn some = some (decide (q < 0 ∨ qn ≤ q ∨ (k = 1 ∧ q ≠ 0))) := by
  simp only [W.circ_one.c5, br_or, br_and]; exact some_dec (by simp)
theorem one_c7 (k : Int) (l : List Int) : W.circ_one.c7 k l some = some (decide (l ≠ [] ∧ ¬ (k = 2 ∨ k = 3 ∨ k = 4))) := by
  simp only [W.circ_one.c7, gate_ok, br_or, br_and, bnd_val]; exact some_dec (by cases l <;> simp)
theorem one_c14 (q qn : Int) : W.circ_one.c14 q qn some = some (decide (q < 0 ∨ qn ≤ q)) := by
  simp only [W.circ_one.c14, br_or]; exact some_dec (by simp)
theorem one_c20 (k b bn : Int) : W.circ_one.c20 k b bn some = some (decide ((k = 5 ∧ (b < 0 ∨ bn ≤ b)) ∨ (k ≠ 5 ∧ b ≠ 0))) := by
  by_cases hk : k = 5
  · subst hk
    simp only [W.circ_one.c20, beq_self_eq_true, bne_self_eq_false, br_tt, br_ff, br_or]; exact some_dec (by simp)
  · simp only [W.circ_one.c20, beq_eq_false_iff_ne.2 hk, bne_iff_ne.2 hk, br_tt, br_ff]; exact some_dec (by simp [hk])
theorem one_c27 (v bn : Int) (h : 0 ≤ bn ∧ bn ≤ 12) : W.circ_one.c27 v bn some = some (decide (v = 0 ∨ bn < v ∨ v < -bn)) := by
  simp only [W.circ_one.c27, br_or]
  rw [wrap_i64 (by omega)]
  exact some_dec (by simp)
theorem one_ctl (q0 qn : Int) (h0 : 0 ≤ q0 ∧ q0 < 12) (hn : qn ≤ 12) (l : List Int) (hl : l.length ≤ 17592186043904) :
    ∃ r, iter (fun s : Int × List Bool ↦ W.circ_one.c100012 l (l.length : Int) s.1 s.2 qn some) ((0 : Int), List.set (List.replicate 12 false) q0.toNat true) = some r ∧
      ((∃ u v, r = .inl (ctlBad q0 qn [] l, u, v) ∧ ctlBad q0 qn [] l ≠ 0) ∨ ∃ u, r = .inr u ∧ ctlBad q0 qn [] l = 0) := by
  refine iter_each (l := l) (fun pre r s => s.1 = (pre.length : Int) ∧ s.2.length = 12 ∧ (∀ j : Nat, j < 12 → s.2[j]? = some (decide ((j : Int) = q0 ∨ (j : Int) ∈ pre))) ∧ ctlBad q0 qn [] l = ctlBad q0 qn pre r) _ ?_ ?_ ?_
  · rintro pre a r ⟨i, seen⟩ rfl ⟨rfl, h1, h2, h3⟩
    simp only at h1 h2 ⊢
    simp only [List.length_append, List.length_cons] at hl
    simp only [W.circ_one.c100012, br_if, idx_mid, bnd_val, one_c14]
    rw [if_pos lt_app]
    rw [h3]
    by_cases ha : a < 0 ∨ qn ≤ a
    · rw [if_pos (by simpa using ha)]
      exact .inr ⟨_, rfl, .inl ⟨_, _, by rw [ctlBad, if_pos ha], by rw [ctlBad, if_pos ha]; decide⟩⟩
    · rw [if_neg (by simpa using ha)]
      obtain ⟨n, rfl⟩ := Int.eq_ofNat_of_zero_le (show 0 ≤ a by omega)
      have hn' : n < 12 := by omega
      rw [okIf_true (by simp; omega), inR_at (by omega), idx_at, h2 n hn']
      simp only [bnd_val]
      by_cases hb : (n : Int) = q0 ∨ (n : Int) ∈ pre
      · rw [if_pos (by simpa using hb)]
        exact .inr ⟨_, rfl, .inl ⟨_, _, by rw [ctlBad, if_neg ha, if_pos hb], by rw [ctlBad, if_neg ha, if_pos hb]; decide⟩⟩
      · rw [if_neg (by simpa using hb), wrap_i64 (by omega)]
        refine .inl ⟨_, rfl, by simp, by simp [h1], ?_, ?_⟩
        · intro j hj
          simp only [Int.toNat_natCast]
          rw [List.getElem?_set]
          by_cases hjn : n = j
          · subst hjn; simp [h1, hn']
          · rw [if_neg hjn, h2 j hj]
            simp only [List.mem_append, List.mem_singleton]
            congr 1
            simp only [decide_eq_decide]
            have : (j : Int) ≠ n := by omega
            simp [this]
        · show ctlBad q0 qn pre (_ :: r) = _
          rw [ctlBad, if_neg ha, if_neg hb]
  · rintro ⟨i, seen⟩ ⟨rfl, h1, h2, h3⟩
    simp only [W.circ_one.c100012, br_if]
    rw [if_neg (by simp)]
    exact ⟨_, rfl, .inr ⟨_, rfl, by rw [h3]; rfl⟩⟩
  · refine ⟨rfl, by simp, fun j hj => ?_, rfl⟩
    rw [List.getElem?_set]
    by_cases hq : q0.toNat = j
    · subst hq
      simp
      omega
    · rw [if_neg hq]
      have : (j : Int) ≠ q0 := by omega
      rw [List.getElem?_replicate, if_pos hj]
      simp [this]
theorem one_if (bn : Int) (h : 0 ≤ bn ∧ bn ≤ 12) (l : List Int) (hl : l.length ≤ 17592186043904) :
    ∃ r, iter (fun s : Int ↦ W.circ_one.c100025 l (l.length : Int) s bn some) (0 : Int) = some r ∧
      ((∃ u, r = .inl u ∧ ifBad bn l) ∨ ∃ u, r = .inr u ∧ ¬ ifBad bn l) := by
  refine iter_each (l := l) (fun pre r s => s = (pre.length : Int) ∧ ∀ v ∈ pre, ¬ (v = 0 ∨ bn < v ∨ v < -bn)) _ ?_ ?_ ?_
  · rintro pre a r i rfl ⟨rfl, h1⟩
    simp only [List.length_append, List.length_cons] at hl
    simp only [W.circ_one.c100025, br_if, idx_mid, bnd_val, one_c27 _ _ h]
    rw [if_pos lt_app]
    by_cases ha : a = 0 ∨ bn < a ∨ a < -bn
    · rw [if_pos (by simpa using ha)]
      exact .inr ⟨_, rfl, .inl ⟨_, rfl, a, by simp, ha⟩⟩
    · rw [if_neg (by simpa using ha), wrap_i64 (by omega)]
      refine .inl ⟨_, rfl, by simp, fun v hv => ?_⟩
      rcases List.mem_append.1 hv with hv | hv
      · exact h1 v hv
      · rw [List.mem_singleton.1 hv]; exact ha
  · rintro i ⟨rfl, h1⟩
    simp only [W.circ_one.c100025, br_if]
    rw [if_neg (by simp)]
    exact ⟨_, rfl, .inr ⟨_, rfl, fun ⟨v, hv, hb⟩ => h1 v hv hb⟩⟩
  · exact ⟨rfl, fun v hv => by cases hv⟩
theorem one_ok (o : Op) (qn bn : Int) (ops : List Op) (ho : WOp o) (hq : 1 ≤ qn ∧ qn ≤ 12) (hb : 0 ≤ bn ∧ bn ≤ 12) :
    W.circ_one o qn bn ops = some (opBad o qn bn, qn, bn, ops, ()) := by
  obtain ⟨k, a, ctl, q, bit, cond⟩ := o
  obtain ⟨ho1, ho2⟩ := ho
  simp only at ho1 ho2
  simp only [W.circ_one, one_c1, one_c3, one_c5, one_c7, bnd_val, br_if, opBad, decide_eq_true_eq]
  split
  · rfl
  · split
    · rfl
    · split
      · rfl
      · rename_i h1 h2 h3
        split
        · rfl
        · obtain ⟨n, rfl⟩ := Int.eq_ofNat_of_zero_le (show 0 ≤ q by omega)
          have hn' : n < 12 := by omega
          rw [okIf_true (by simp; omega), inR_at (by simpa using hn'), idx_at]
          simp only [bnd_val, List.getElem?_replicate, hn', if_true]
          obtain ⟨r, hr, hr'⟩ := one_ctl n qn (by omega) hq.2 ctl ho1
          rw [hr, bnd_val]
          rcases hr' with ⟨u, v, rfl, h⟩ | ⟨u, rfl, h⟩
          · rw [sel_inl, if_pos h]
          · rw [sel_inr, if_neg (show ¬ (ctlBad (n : Int) qn [] ctl ≠ 0) by simp [h])]
            simp only [one_c20, bnd_val, decide_eq_true_eq]
            split
            · rfl
            · by_cases h24 : 24 < cond.length
              · rw [if_pos (by omega), if_pos h24]
              · rw [if_neg (by omega), if_neg h24]
                obtain ⟨r, hr, hr'⟩ := one_if bn hb cond ho2
                rw [hr, bnd_val]
                rcases hr' with ⟨u, rfl, h⟩ | ⟨u, rfl, h⟩
                · rw [sel_inl, if_pos h]
                · rw [sel_inr, if_neg h]
end Go.Ql
end

section
namespace Go.Ql
theorem member_ok (l : List Int) (x : Int) (hl : l.length ≤ 17592186043904) : W.R_member l x = some (decide (x ∈ l)) := by
  have h : ∃ r, iter (fun s : Int ↦ W.R_member.c100002 l x s some) (0 : Int) = some r ∧ ((∃ u, r = .inl u ∧ x ∈ l) ∨ ∃ u, r = .inr u ∧ x ∉ l) := by
    refine iter_each (l := l) (fun pre r s => s = (pre.length : Int) ∧ x ∉ pre) _ ?_ ?_ ⟨rfl, by simp⟩
    · rintro pre a r i rfl ⟨rfl, h1⟩
      simp only [List.length_append, List.length_cons] at hl
      simp only [W.R_member.c100002, br_if, idx_mid, bnd_val]
      rw [if_pos lt_app]
      by_cases ha : a = x
      · rw [if_pos (by simpa using ha)]
        exact .inr ⟨_, rfl, .inl ⟨_, rfl, by simp [ha]⟩⟩
      · rw [if_neg (by simpa using ha), wrap_i64 (by omega)]
        exact .inl ⟨_, rfl, by simp, by simp [h1, Ne.symm ha]⟩
    · rintro i ⟨rfl, h1⟩
      simp only [W.R_member.c100002, br_if]
      rw [if_neg (by simp)]
      exact ⟨_, rfl, .inr ⟨_, rfl, h1⟩⟩
  obtain ⟨r, hr, h⟩ := h
  simp only [W.R_member, hr, bnd_val]
  rcases h with ⟨u, rfl, h⟩ | ⟨u, rfl, h⟩
  · simp [sel_inl, h]
  · simp [sel_inr, h]
theorem rbad_c1 (k : Int) : W.R_badOp.c1 k some = some (decide (k < 1 ∨ 6 < k)) := by
  simp only [W.R_badOp.c1, br_or, br_and]; exact some_dec (by simp)
theorem rbad_c3 (k : Int) : W.R_badOp.c3 k some = some (decide (k = 1 ∨ k = 4)) := by
  simp only [W.R_badOp.c3, br_or, br_and]; exact some_dec (by simp)
theorem rbad_c4 (k a : Int) : W.R_badOp.c4 (decide (k = 1 ∨ k = 4)) a some = some (decide (a < 0 ∨ 15 < a ∨ (¬ (k = 1 ∨ k = 4) ∧ a ≠ 0))) := by
  simp only [W.R_badOp.c4, br_or, br_and]; exact some_dec (by simp; omega)
theorem rbad_c6 (k q qn : Int) : W.R_badOp.c6 qn k q some = some (decide (q < 0 ∨ qn ≤ q ∨ (k = 1 ∧ q ≠ 0))) := by
  simp only [W.R_badOp.c6, br_or, br_and]; exact some_dec (by simp; omega)
theorem rbad_c8 (k : Int) (l : List Int) : W.R_badOp.c8 k l some = some (decide (l ≠ [] ∧ ¬ (k = 2 ∨ k = 3 ∨ k = 4))) := by
  simp only [W.R_badOp.c8, br_or, br_and]; exact some_dec (by cases l <;> simp)
theorem rbad_bit (k b bn : Int) : ∃ r, W.R_badOp.c269649 bn k b some = some r ∧ ((r = .inl () ∧ ((k = 5 ∧ (b < 0 ∨ bn ≤ b)) ∨ (k ≠ 5 ∧ b ≠ 0))) ∨ (r = .inr () ∧ ¬ ((k = 5 ∧ (b < 0 ∨ bn ≤ b)) ∨ (k ≠ 5 ∧ b ≠ 0)))) := by
  have h : W.R_badOp.c18 bn b some = some (decide (b < 0 ∨ bn ≤ b)) := by
    simp only [W.R_badOp.c18, br_or]; exact some_dec (by simp)
  by_cases hk : k = 5
  · subst hk
    simp only [W.R_badOp.c269649, beq_self_eq_true, br_tt, h, bnd_val]
    by_cases hb : b < 0 ∨ bn ≤ b
    · rw [br_pos hb]; exact ⟨_, rfl, .inl ⟨rfl, .inl ⟨trivial, hb⟩⟩⟩
    · rw [br_neg hb]; exact ⟨_, rfl, .inr ⟨rfl, by omega⟩⟩
  · simp only [W.R_badOp.c269649, beq_eq_false_iff_ne.2 hk, br_ff]
    by_cases hb : b = 0
    · rw [br_false (by simpa using hb)]; exact ⟨_, rfl, .inr ⟨rfl, by omega⟩⟩
    · rw [br_true (by simpa using hb)]; exact ⟨_, rfl, .inl ⟨rfl, by omega⟩⟩
theorem rbad_ctl (q0 qn : Int) (l : List Int) (hl : l.length ≤ 17592186043904) :
    ∃ r, iter (fun s : Int ↦ W.R_badOp.c100011 qn s l q0 some) (0 : Int) = some r ∧
      ((∃ u, r = .inl (ctlBad q0 qn [] l, u) ∧ ctlBad q0 qn [] l ≠ 0) ∨ ∃ u, r = .inr u ∧ ctlBad q0 qn [] l = 0) := by
  refine iter_each (l := l) (fun pre r s => s = (pre.length : Int) ∧ ctlBad q0 qn [] l = ctlBad q0 qn pre r) _ ?_ ?_ ⟨rfl, rfl⟩
  · rintro pre a r i rfl ⟨rfl, h3⟩
    simp only [List.length_append, List.length_cons] at hl
    have h13 : W.R_badOp.c13 qn (pre.length : Int) (pre ++ a :: r) some = some (decide (a < 0 ∨ qn ≤ a)) := by
      simp only [W.R_badOp.c13, br_or, idx_mid, bnd_val]; exact some_dec (by simp)
    have h15 : W.R_badOp.c15 (pre.length : Int) (pre ++ a :: r) q0 some = some (decide (a = q0 ∨ a ∈ pre)) := by
      simp only [W.R_badOp.c15, idx_mid, bnd_val]
      rw [okIf_true (by simp; omega), bnd_val]
      simp only [Int.toNat_natCast, List.take_left, member_ok _ _ (show pre.length ≤ 17592186043904 by omega), bnd_val, br_or]
      exact some_dec (by simp)
    simp only [W.R_badOp.c100011, br_if, h13, h15, bnd_val]
    rw [if_pos lt_app]
    rw [h3]
    by_cases ha : a < 0 ∨ qn ≤ a
    · rw [if_pos (by simpa using ha)]
      exact .inr ⟨_, rfl, .inl ⟨_, by rw [ctlBad, if_pos ha], by rw [ctlBad, if_pos ha]; decide⟩⟩
    · rw [if_neg (by simpa using ha)]
      by_cases hb : a = q0 ∨ a ∈ pre
      · rw [if_pos (by simpa using hb)]
        exact .inr ⟨_, rfl, .inl ⟨_, by rw [ctlBad, if_neg ha, if_pos hb], by rw [ctlBad, if_neg ha, if_pos hb]; decide⟩⟩
      · rw [if_neg (by simpa using hb), wrap_i64 (by omega)]
        refine .inl ⟨_, rfl, by simp, ?_⟩
        show ctlBad q0 qn pre (_ :: r) = _
        rw [ctlBad, if_neg ha, if_neg hb]
  · rintro i ⟨rfl, h3⟩
    simp only [W.R_badOp.c100011, br_if]
    rw [if_neg (by simp)]
    exact ⟨_, rfl, .inr ⟨_, rfl, by rw [h3]; rfl⟩⟩
theorem rbad_if (bn : Int) (h : 0 ≤ bn ∧ bn ≤ 12) (l : List Int) (hl : l.length ≤ 17592186043904) :
    ∃ r, iter (fun s : Int ↦ W.R_badOp.c100025 bn s l some) (0 : Int) = some r ∧
      ((∃ u, r = .inl u ∧ ifBad bn l) ∨ ∃ u, r = .inr u ∧ ¬ ifBad bn l) := by
  refine iter_each (l := l) (fun pre r s => s = (pre.length : Int) ∧ ∀ v ∈ pre, ¬ (v = 0 ∨ bn < v ∨ v < -bn)) _ ?_ ?_ ⟨rfl, fun v hv => by cases hv⟩
  · rintro pre a r i rfl ⟨rfl, h1⟩
    simp only [List.length_append, List.length_cons] at hl
    have h27 : W.R_badOp.c27 bn (pre.length : Int) (pre ++ a :: r) some = some (decide (a = 0 ∨ bn < a ∨ a < -bn)) := by
      simp only [W.R_badOp.c27, br_or, idx_mid, bnd_val]
      rw [wrap_i64 (by omega)]; exact some_dec (by simp)
    simp only [W.R_badOp.c100025, br_if, h27, bnd_val]
    rw [if_pos lt_app]
    by_cases ha : a = 0 ∨ bn < a ∨ a < -bn
    · rw [if_pos (by simpa using ha)]
      exact .inr ⟨_, rfl, .inl ⟨_, rfl, a, by simp, ha⟩⟩
    · rw [if_neg (by simpa using ha), wrap_i64 (by omega)]
      refine .inl ⟨_, rfl, by simp, fun v hv => ?_⟩
      rcases List.mem_append.1 hv with hv | hv
      · exact h1 v hv
      · rw [List.mem_singleton.1 hv]; exact ha
  · rintro i ⟨rfl, h1⟩
    simp only [W.R_badOp.c100025, br_if]
    rw [if_neg (by simp)]
    exact ⟨_, rfl, .inr ⟨_, rfl, fun ⟨v, hv, hb⟩ => h1 v hv hb⟩⟩
theorem badOp_ok (o : Op) (qn bn : Int) (ho : WOp o) (hb : 0 ≤ bn ∧ bn ≤ 12) : W.R_badOp o qn bn = some (opBad o qn bn) := by
  obtain ⟨k, a, ctl, q, bit, cond⟩ := o
  obtain ⟨ho1, ho2⟩ := ho
  simp only at ho1 ho2
  simp only [W.R_badOp, rbad_c1, rbad_c3, rbad_c4, rbad_c6, rbad_c8, bnd_val, br_if, opBad, decide_eq_true_eq]
  split
  · rfl
  · split
    · rfl
    · split
      · rfl
      · split
        · rfl
        · obtain ⟨r, hr, hr'⟩ := rbad_ctl q qn ctl ho1
          rw [hr, bnd_val]
          rcases hr' with ⟨u, rfl, h⟩ | ⟨u, rfl, h⟩
          · rw [sel_inl, if_pos h]
          · rw [sel_inr, if_neg (show ¬ (ctlBad q qn [] ctl ≠ 0) by simp [h])]
            obtain ⟨r, hr, hr'⟩ := rbad_bit k bit bn
            rw [hr, bnd_val]
            rcases hr' with ⟨rfl, h⟩ | ⟨rfl, h⟩
            · rw [sel_inl, if_pos h]
            · rw [sel_inr, if_neg h]
              by_cases h24 : 24 < cond.length
              · rw [if_pos (by omega), if_pos h24]
              · rw [if_neg (by omega), if_neg h24]
                obtain ⟨r, hr, hr'⟩ := rbad_if bn hb cond ho2
                rw [hr, bnd_val]
                rcases hr' with ⟨u, rfl, h⟩ | ⟨u, rfl, h⟩
                · rw [sel_inl, if_pos h]
                · rw [sel_inr, if_neg h]
def opsBad (qn bn : Int) : Nat → List Op → Int × Int
  | _, [] => (0, 0)
  | i, o :: r => if opBad o qn bn = 0 then opsBad qn bn (i + 1) r else (opBad o qn bn, i)
def chk (c : Cir) : Int × Int :=
  if c.1 < 1 ∨ 12 < c.1 then (6, 0) else if c.2.1 < 0 ∨ 12 < c.2.1 then (7, 0) else if 4096 < c.2.2.length then (2, 0) else opsBad c.1 c.2.1 0 c.2.2
theorem WOp.eta (o : Op) : (o.1, o.2.1, o.2.2.1, o.2.2.2.1, o.2.2.2.2.1, o.2.2.2.2.2) = o := rfl
theorem fault_ok (a b : Int) : W.circ_fault a b = some (a, b) := rfl
theorem rfault_ok (a b : Int) : W.R_rfault a b = some (a, b) := rfl
theorem check_ok (c : Cir) (hc : WCir c) : W.circ_Check c = some (chk c) := by
  obtain ⟨qn, bn, ops⟩ := c
  obtain ⟨hl, hw⟩ := hc
  simp only at hl hw
  simp only [W.circ_Check, W.circ_Check.c1, W.circ_Check.c3, br_if, fault_ok, bnd_val, chk]
  by_cases h1 : qn < 1 ∨ 12 < qn
  · rw [if_pos h1]
    by_cases h : qn < 1
    · simp [h, bnd_val]
    · have : 12 < qn := by omega
      simp [h, this, bnd_val]
  · have h1a : ¬ qn < 1 := by omega
    have h1b : ¬ 12 < qn := by omega
    simp only [h1a, h1b, bnd_val, decide_false, Bool.false_eq_true, if_false, gt_iff_lt, or_self]
    by_cases h2 : bn < 0 ∨ 12 < bn
    · rw [if_pos h2]
      by_cases h : bn < 0
      · simp [h, bnd_val]
      · have : 12 < bn := by omega
        simp [h, this, bnd_val]
    · have h2a : ¬ bn < 0 := by omega
      have h2b : ¬ 12 < bn := by omega
      simp only [h2a, h2b, bnd_val, decide_false, Bool.false_eq_true, if_false, or_self]
      by_cases h3 : 4096 < ops.length
      · rw [if_pos h3, if_pos (by simp; omega)]
      · rw [if_neg h3, if_neg (by simp; omega)]
        have key : ∃ r, iter (fun s : Int × Int × Int × List Op ↦ W.circ_Check.c100008 ops (ops.length : Int) s.1 s.2.1 s.2.2.1 s.2.2.2 some) ((0 : Int), qn, bn, ops) = some r ∧
            ((∃ u, r = .inl u ∧ (u.2.2.2.2.1, u.2.2.2.2.2) = opsBad qn bn 0 ops) ∨ ∃ u, r = .inr u ∧ (0, 0) = opsBad qn bn 0 ops) := by
          refine iter_each (l := ops) (fun pre r s => s = ((pre.length : Int), qn, bn, ops) ∧ opsBad qn bn pre.length r = opsBad qn bn 0 ops) _ ?_ ?_ ⟨rfl, rfl⟩
          · rintro pre o r s rfl ⟨rfl, h4⟩
            simp only [List.length_append, List.length_cons] at hl
            simp only [W.circ_Check.c100008, br_if, idx_mid, bnd_val, WOp.eta, one_ok o qn bn _ (hw o (by simp)) (by omega) (by omega), fault_ok]
            rw [if_pos lt_app]
            rw [opsBad] at h4
            by_cases ho : opBad o qn bn = 0
            · rw [if_pos ho] at h4
              rw [if_neg (by simp [ho]), wrap_i64 (by omega)]
              exact .inl ⟨_, rfl, by simp, by simpa using h4⟩
            · rw [if_neg ho] at h4
              rw [if_pos (by simp [ho])]
              exact .inr ⟨_, rfl, .inl ⟨_, rfl, h4⟩⟩
          · rintro s ⟨rfl, h4⟩
            simp only [W.circ_Check.c100008, br_if]
            rw [if_neg (by simp)]
            exact ⟨_, rfl, .inr ⟨_, rfl, h4⟩⟩
        obtain ⟨r, hr, h⟩ := key
        rw [hr, bnd_val]
        rcases h with ⟨u, rfl, h⟩ | ⟨u, rfl, h⟩
        · rw [sel_inl, ← h]
        · rw [sel_inr, ← h]
theorem rcheck_ok (c : Cir) (hc : WCir c) : W.R_Check c = some (chk c) := by
  obtain ⟨qn, bn, ops⟩ := c
  obtain ⟨hl, hw⟩ := hc
  simp only at hl hw
  simp only [W.R_Check, W.R_Check.c1, W.R_Check.c3, br_if, rfault_ok, bnd_val, chk]
  by_cases h1 : qn < 1 ∨ 12 < qn
  · rw [if_pos h1]
    by_cases h : qn < 1
    · simp [h, bnd_val]
    · have : 12 < qn := by omega
      simp [h, this, bnd_val]
  · have h1a : ¬ qn < 1 := by omega
    have h1b : ¬ 12 < qn := by omega
    simp only [h1a, h1b, bnd_val, decide_false, Bool.false_eq_true, if_false, gt_iff_lt, or_self]
    by_cases h2 : bn < 0 ∨ 12 < bn
    · rw [if_pos h2]
      by_cases h : bn < 0
      · simp [h, bnd_val]
      · have : 12 < bn := by omega
        simp [h, this, bnd_val]
    · have h2a : ¬ bn < 0 := by omega
      have h2b : ¬ 12 < bn := by omega
      simp only [h2a, h2b, bnd_val, decide_false, Bool.false_eq_true, if_false, or_self]
      by_cases h3 : 4096 < ops.length
      · rw [if_pos h3, if_pos (by simp; omega)]
      · rw [if_neg h3, if_neg (by simp; omega)]
        have key : ∃ r, iter (fun s : Int ↦ W.R_Check.c100008 s qn bn ops some) (0 : Int) = some r ∧
            ((∃ u, r = .inl u ∧ (u.2.1, u.2.2) = opsBad qn bn 0 ops) ∨ ∃ u, r = .inr u ∧ (0, 0) = opsBad qn bn 0 ops) := by
          refine iter_each (l := ops) (fun pre r s => s = (pre.length : Int) ∧ opsBad qn bn pre.length r = opsBad qn bn 0 ops) _ ?_ ?_ ⟨rfl, rfl⟩
          · rintro pre o r s rfl ⟨rfl, h4⟩
            simp only [List.length_append, List.length_cons] at hl
            simp only [W.R_Check.c100008, W.R_Check.c10, br_if, idx_mid, bnd_val, badOp_ok o qn bn (hw o (by simp)) (by omega), rfault_ok]
            rw [if_pos lt_app]
            rw [opsBad] at h4
            by_cases ho : opBad o qn bn = 0
            · rw [if_pos ho] at h4
              rw [if_neg (by simp [ho]), wrap_i64 (by omega)]
              exact .inl ⟨_, rfl, by simp, by simpa using h4⟩
            · rw [if_neg ho] at h4
              rw [if_pos (by simp [ho])]
              exact .inr ⟨_, rfl, .inl ⟨_, rfl, h4⟩⟩
          · rintro s ⟨rfl, h4⟩
            simp only [W.R_Check.c100008, br_if]
            rw [if_neg (by simp)]
            exact ⟨_, rfl, .inr ⟨_, rfl, h4⟩⟩
        obtain ⟨r, hr, h⟩ := key
        rw [hr, bnd_val]
        rcases h with ⟨u, rfl, h⟩ | ⟨u, rfl, h⟩
        · rw [sel_inl, ← h]
        · rw [sel_inr, ← h]
end Go.Ql
end

section
namespace Go.Ql
instance dec3 : DecidableEq (Int × Int × List Int) := inferInstance
instance dec4 : DecidableEq (List Int × Int × Int × List Int) := inferInstance
instance dec6 : DecidableEq Op := instDecidableEqProd
instance decC : DecidableEq Cir := instDecidableEqProd
theorem opsBad_zero {qn bn : Int} : ∀ {l : List Op} {i : Nat}, (opsBad qn bn i l).1 = 0 → (∀ o ∈ l, opBad o qn bn = 0) ∧ opsBad qn bn i l = (0, 0)
  | [], _, _ => ⟨(fun _ h => by cases h), rfl⟩
  | o :: l, i, h => by
    rw [opsBad] at h ⊢
    by_cases ho : opBad o qn bn = 0
    · rw [if_pos ho] at h ⊢
      have := opsBad_zero h
      exact ⟨fun o' h' => by
        rcases List.mem_cons.1 h' with rfl | h'
        · exact ho
        · exact this.1 o' h', this.2⟩
    · rw [if_neg ho] at h
      exact absurd h ho
structure GoodC (c : Cir) : Prop where
  q : 1 ≤ c.1 ∧ c.1 ≤ 12
  b : 0 ≤ c.2.1 ∧ c.2.1 ≤ 12
  n : c.2.2.length ≤ 4096
  ops : ∀ o ∈ c.2.2, opBad o c.1 c.2.1 = 0
theorem good_of {c : Cir} (h : (chk c).1 = 0) : GoodC c ∧ chk c = (0, 0) := by
  unfold chk at h ⊢
  by_cases h1 : c.1 < 1 ∨ 12 < c.1
  · rw [if_pos h1] at h; cases h
  · rw [if_neg h1] at h ⊢
    by_cases h2 : c.2.1 < 0 ∨ 12 < c.2.1
    · rw [if_pos h2] at h; cases h
    · rw [if_neg h2] at h ⊢
      by_cases h3 : 4096 < c.2.2.length
      · rw [if_pos h3] at h; cases h
      · rw [if_neg h3] at h ⊢
        have := opsBad_zero h
        exact ⟨⟨by omega, by omega, by omega, this.1⟩, this.2⟩
theorem opsBad_good {qn bn : Int} : ∀ {l : List Op} {i : Nat}, (∀ o ∈ l, opBad o qn bn = 0) → opsBad qn bn i l = (0, 0)
  | [], _, _ => rfl
  | o :: l, i, h => by
    rw [opsBad, if_pos (h o (by simp))]
    exact opsBad_good (fun o' h' => h o' (List.mem_cons_of_mem _ h'))
theorem GoodC.chk {c : Cir} (h : GoodC c) : chk c = (0, 0) := by
  have := h.q; have := h.b; have := h.n
  unfold Ql.chk
  rw [if_neg (by omega), if_neg (by omega), if_neg (by omega)]
  exact opsBad_good h.ops
structure GoodOp (o : Op) (qn bn : Int) : Prop where
  kind : 1 ≤ o.1 ∧ o.1 ≤ 6
  k : 0 ≤ o.2.1 ∧ o.2.1 ≤ 15
  k0 : (o.1 = 1 ∨ o.1 = 4) ∨ o.2.1 = 0
  q : 0 ≤ o.2.2.2.1 ∧ o.2.2.2.1 < qn
  q0 : o.1 = 1 → o.2.2.2.1 = 0
  ctl : o.2.2.1 = [] ∨ (o.1 = 2 ∨ o.1 = 3 ∨ o.1 = 4)
  ctls : ctlBad o.2.2.2.1 qn [] o.2.2.1 = 0
  bit : (o.1 = 5 ∧ 0 ≤ o.2.2.2.2.1 ∧ o.2.2.2.2.1 < bn) ∨ (o.1 ≠ 5 ∧ o.2.2.2.2.1 = 0)
  ifs : o.2.2.2.2.2.length ≤ 24
  cond : ¬ ifBad bn o.2.2.2.2.2
theorem goodOp_of {o : Op} {qn bn : Int} (h : opBad o qn bn = 0) : GoodOp o qn bn := by
  unfold opBad at h
  by_cases h1 : o.1 < 1 ∨ 6 < o.1
  · rw [if_pos h1] at h; cases h
  rw [if_neg h1] at h
  by_cases h2 : o.2.1 < 0 ∨ 15 < o.2.1 ∨ (¬ (o.1 = 1 ∨ o.1 = 4) ∧ o.2.1 ≠ 0)
  · rw [if_pos h2] at h; cases h
  rw [if_neg h2] at h
  by_cases h3 : o.2.2.2.1 < 0 ∨ qn ≤ o.2.2.2.1 ∨ (o.1 = 1 ∧ o.2.2.2.1 ≠ 0)
  · rw [if_pos h3] at h; cases h
  rw [if_neg h3] at h
  by_cases h4 : o.2.2.1 ≠ [] ∧ ¬ (o.1 = 2 ∨ o.1 = 3 ∨ o.1 = 4)
  · rw [if_pos h4] at h; cases h
  rw [if_neg h4] at h
  by_cases h5 : ctlBad o.2.2.2.1 qn [] o.2.2.1 ≠ 0
  · rw [if_pos h5] at h; exact absurd h h5
  rw [if_neg h5] at h
  by_cases h6 : (o.1 = 5 ∧ (o.2.2.2.2.1 < 0 ∨ bn ≤ o.2.2.2.2.1)) ∨ (o.1 ≠ 5 ∧ o.2.2.2.2.1 ≠ 0)
  · rw [if_pos h6] at h; cases h
  rw [if_neg h6] at h
  by_cases h7 : 24 < o.2.2.2.2.2.length
  · rw [if_pos h7] at h; cases h
  rw [if_neg h7] at h
  by_cases h8 : ifBad bn o.2.2.2.2.2
  · rw [if_pos h8] at h; cases h
  exact ⟨by omega, by omega, by omega, by omega, by omega, by by_cases h : o.2.2.1 = [] <;> simp_all; omega, by omega, by omega, by omega, h8⟩
theorem GoodOp.bad {o : Op} {qn bn : Int} (h : GoodOp o qn bn) : opBad o qn bn = 0 := by
  obtain ⟨h1, h2, h3, h4, h5, h6, h7, h8, h9, h10⟩ := h
  unfold opBad
  rw [if_neg (by omega), if_neg (by omega), if_neg (by omega), if_neg (by rcases h6 with h | h <;> simp [h]), if_neg (by simp [h7]), if_neg (by omega), if_neg (by omega), if_neg h10]
theorem ctlBad_zero {q0 qn : Int} : ∀ {r pre : List Int}, ctlBad q0 qn pre r = 0 ↔ (∀ q ∈ r, 0 ≤ q ∧ q < qn ∧ q ≠ q0 ∧ q ∉ pre) ∧ r.Nodup
  | [], _ => by simp [ctlBad]
  | q :: r, pre => by
    rw [ctlBad]
    by_cases h1 : q < 0 ∨ qn ≤ q
    · rw [if_pos h1]
      constructor
      · intro h; cases h
      · intro h; have := h.1 q (by simp); omega
    · rw [if_neg h1]
      by_cases h2 : q = q0 ∨ q ∈ pre
      · rw [if_pos h2]
        constructor
        · intro h; cases h
        · intro h; have := h.1 q (by simp); rcases h2 with h2 | h2
          · exact absurd h2 this.2.2.1
          · exact absurd h2 this.2.2.2
      · rw [if_neg h2, ctlBad_zero]
        have h1a : 0 ≤ q := by omega
        have h1b : q < qn := by omega
        simp only [not_or] at h2
        simp only [List.mem_cons, forall_eq_or_imp, List.nodup_cons, List.mem_append, List.mem_singleton, not_or]
        constructor
        · rintro ⟨h3, h4⟩
          exact ⟨⟨⟨h1a, h1b, h2.1, h2.2⟩, fun a ha => ⟨(h3 a ha).1, (h3 a ha).2.1, (h3 a ha).2.2.1, (h3 a ha).2.2.2.1⟩⟩, fun hq => (h3 q hq).2.2.2.2.1 rfl, h4⟩
        · rintro ⟨⟨_, h3⟩, h4, h5⟩
          exact ⟨fun a ha => ⟨(h3 a ha).1, (h3 a ha).2.1, (h3 a ha).2.2.1, (h3 a ha).2.2.2, ⟨fun e => h4 (e ▸ ha), by simp⟩⟩, h5⟩

theorem rcopyInts_ok (l : List Int) (hl : l.length ≤ 17592186043904) : W.R_copyInts l = some l := by
  have h : ∃ r, iter (fun s : Int × List Int ↦ W.R_copyInts.c100003 l s.1 s.2 some) ((0 : Int), []) = some r ∧ r.2 = l := by
    refine iter_each (l := l) (fun pre r s => s = ((pre.length : Int), pre)) _ ?_ ?_ rfl
    · rintro pre a r s rfl rfl
      simp only [List.length_append, List.length_cons] at hl
      simp only [W.R_copyInts.c100003, br_if, idx_mid, bnd_val]
      rw [if_pos lt_app, okIf_true (by simp; omega), wrap_i64 (by omega)]
      exact .inl ⟨_, rfl, by simp⟩
    · rintro s rfl
      simp only [W.R_copyInts.c100003, br_if]
      rw [if_neg (by simp)]
      exact ⟨_, rfl, rfl⟩
  obtain ⟨r, hr, h⟩ := h
  simp only [W.R_copyInts, hr, bnd_val, h]
theorem rcopyOp_ok (o : Op) (ho : WOp o) : W.R_copyOp o = some o := by
  simp only [W.R_copyOp, rcopyInts_ok _ ho.1, rcopyInts_ok _ ho.2, bnd_val]
theorem copyCircuit_ok (c : Cir) (hc : WCir c) : W.R_CopyCircuit c = some c := by
  obtain ⟨qn, bn, ops⟩ := c
  obtain ⟨hl, hw⟩ := hc
  simp only at hl hw
  have h : ∃ r, iter (fun s : Int × List Op ↦ W.R_CopyCircuit.c100003 s.1 ops s.2 some) ((0 : Int), []) = some r ∧ r.2 = ops := by
    refine iter_each (l := ops) (fun pre r s => s = ((pre.length : Int), pre)) _ ?_ ?_ rfl
    · rintro pre a r s rfl rfl
      simp only [List.length_append, List.length_cons] at hl
      simp only [W.R_CopyCircuit.c100003, W.R_CopyCircuit.c5, br_if, idx_mid, bnd_val, rcopyOp_ok a (hw a (by simp))]
      rw [if_pos lt_app, okIf_true (by simp; omega), wrap_i64 (by omega)]
      exact .inl ⟨_, rfl, by simp⟩
    · rintro s rfl
      simp only [W.R_CopyCircuit.c100003, br_if]
      rw [if_neg (by simp)]
      exact ⟨_, rfl, rfl⟩
  obtain ⟨r, hr, h⟩ := h
  simp only [W.R_CopyCircuit, hr, bnd_val, h]
theorem clone_ok (l : List Int) (hl : l.length ≤ 17592186043904) : W.slices_Clone_int l = some l := by
  simp only [W.slices_Clone_int, br_if]
  rw [okIf_true (by simp; omega)]
  simp only [bnd_val]
  cases l
  · simp [both_self]
  · simp
theorem sameInts_ok (a b : List Int) (ha : a.length ≤ 17592186043904) : W.R_SameInts a b = some (decide (a = b)) := by
  simp only [W.R_SameInts, br_if]
  by_cases hlen : a.length = b.length
  · rw [if_neg (by simp [hlen])]
    have h : ∃ r, iter (fun s : Int ↦ W.R_SameInts.c100004 a b s some) (0 : Int) = some r ∧ ((∃ u, r = .inl u ∧ a ≠ b) ∨ ∃ u, r = .inr u ∧ a = b) := by
      refine iter_upto a.length (fun i s => s = (i : Int) ∧ a.take i = b.take i) _ ?_ ?_ ⟨rfl, rfl⟩
      · rintro i s hi ⟨rfl, h1⟩
        have h6 : W.R_SameInts.c6 a b (i : Int) some = some (decide (a[i] ≠ b[i]'(by omega))) := by
          simp only [W.R_SameInts.c6, idx_get hi, idx_get (show i < b.length by omega), bnd_val]
          exact some_dec (by simp)
        simp only [W.R_SameInts.c100004, br_if, h6, bnd_val]
        rw [if_pos (by simpa using hi)]
        by_cases hd : a[i] = b[i]'(by omega)
        · rw [if_neg (by simpa using hd), wrap_i64 (by omega)]
          exact .inl ⟨_, rfl, by simp, by rw [List.take_succ_eq_append_getElem hi, List.take_succ_eq_append_getElem (by omega), h1, hd]⟩
        · rw [if_pos (by simpa using hd)]
          exact .inr ⟨_, rfl, .inl ⟨_, rfl, fun e => hd (by subst e; rfl)⟩⟩
      · rintro s ⟨rfl, h1⟩
        simp only [W.R_SameInts.c100004, br_if]
        rw [if_neg (by simp)]
        rw [List.take_length, hlen, List.take_length] at h1
        exact ⟨_, rfl, .inr ⟨_, rfl, h1⟩⟩
    obtain ⟨r, hr, h⟩ := h
    rw [hr, bnd_val]
    rcases h with ⟨u, rfl, h⟩ | ⟨u, rfl, h⟩
    · rw [sel_inl]; simp [h]
    · rw [sel_inr]; simp [h]
  · rw [if_pos (by simp; omega)]
    have : a ≠ b := fun e => hlen (by rw [e])
    simp [this]
theorem sameCircuit_ok (a b : Cir) (ha : WCir a) : W.R_SameCircuit a b = some (decide (a = b)) := by
  obtain ⟨q1, b1, l1⟩ := a
  obtain ⟨q2, b2, l2⟩ := b
  obtain ⟨hl, hw⟩ := ha
  simp only at hl hw
  have h1 : W.R_SameCircuit.c1 q1 b1 l1 q2 b2 l2 some = some (decide (q1 ≠ q2 ∨ b1 ≠ b2 ∨ l1.length ≠ l2.length)) := by
    simp only [W.R_SameCircuit.c1, br_or]; exact some_dec (by simp; try omega)
  simp only [W.R_SameCircuit, h1, bnd_val, br_if, decide_eq_true_eq]
  by_cases h0 : q1 ≠ q2 ∨ b1 ≠ b2 ∨ l1.length ≠ l2.length
  · rw [if_pos h0]
    have : (q1, b1, l1) ≠ (q2, b2, l2) := by
      intro e
      injection e with e1 e
      injection e with e2 e
      subst e1; subst e2; subst e
      simp at h0
    simp [this]
  · rw [if_neg h0]
    simp only [not_or, Decidable.not_not] at h0
    obtain ⟨rfl, rfl, hlen⟩ := h0
    have h : ∃ r, iter (fun s : Int ↦ W.R_SameCircuit.c100004 s l1 l2 some) (0 : Int) = some r ∧ ((∃ u, r = .inl u ∧ l1 ≠ l2) ∨ ∃ u, r = .inr u ∧ l1 = l2) := by
      refine iter_upto l1.length (fun i s => s = (i : Int) ∧ l1.take i = l2.take i) _ ?_ ?_ ⟨rfl, rfl⟩
      · rintro i s hi ⟨rfl, h1⟩
        have hwi := hw _ (List.getElem_mem hi)
        have hi2 : i < l2.length := by omega
        have h8 : ∀ x y : Op, WOp x → W.R_SameCircuit.c8 x.1 x.2.1 x.2.2.1 x.2.2.2.1 x.2.2.2.2.1 x.2.2.2.2.2 y.1 y.2.1 y.2.2.1 y.2.2.2.1 y.2.2.2.2.1 y.2.2.2.2.2 some = some (decide (x ≠ y)) := by
          rintro ⟨x0, x1, x2, x3, x4, x5⟩ ⟨y0, y1, y2, y3, y4, y5⟩ hx
          simp only [W.R_SameCircuit.c8, br_or, sameInts_ok _ _ hx.1, sameInts_ok _ _ hx.2, bnd_val]
          exact some_dec (by simp; grind)
        simp only [W.R_SameCircuit.c100004, br_if, idx_get hi, idx_get hi2, bnd_val, h8 _ _ hwi]
        rw [if_pos (by simpa using hi)]
        by_cases hd : l1[i] = l2[i]
        · rw [if_neg (by simpa using hd), wrap_i64 (by omega)]
          exact .inl ⟨_, rfl, by simp, by rw [List.take_succ_eq_append_getElem hi, List.take_succ_eq_append_getElem hi2, h1, hd]⟩
        · rw [if_pos (by simpa using hd)]
          exact .inr ⟨_, rfl, .inl ⟨_, rfl, fun e => hd (by subst e; rfl)⟩⟩
      · rintro s ⟨rfl, h1⟩
        simp only [W.R_SameCircuit.c100004, br_if]
        rw [if_neg (by simp)]
        rw [List.take_length, hlen, List.take_length] at h1
        exact ⟨_, rfl, .inr ⟨_, rfl, h1⟩⟩
    obtain ⟨r, hr, h⟩ := h
    rw [hr, bnd_val]
    rcases h with ⟨u, rfl, h⟩ | ⟨u, rfl, h⟩
    · rw [sel_inl]; simp [h]
    · rw [sel_inr]; simp [h]
end Go.Ql
end
end

section
section
namespace Go.Ql
def invOp (o : Op) : Op := (o.1, (16 - o.2.1) % 16, o.2.2.1, o.2.2.2.1, o.2.2.2.2.1, o.2.2.2.2.2)
def inv (c : Cir) : Cir := (c.1, c.2.1, (c.2.2.map invOp).reverse)
theorem reverse_ok (l : List Op) (hl : l.length ≤ 1759218604390) : W.slices_Reverse_api_Op l = some (l.reverse, ()) := by
  have h : ∃ r, iter (fun s : Int × Int × List Op ↦ W.slices_Reverse_api_Op.c100001 s.1 s.2.1 s.2.2 some) ((0 : Int), IntKind.wrap IntKind.i64 ((l.length : Int) - 1), l) = some r ∧ r.2.2 = l.reverse := by
    refine iter_upto (l.length / 2) (fun i s => s.1 = (i : Int) ∧ s.2.1 = (l.length : Int) - 1 - i ∧ s.2.2.length = l.length ∧ ∀ k : Nat, k < l.length → s.2.2[k]? = if k < i ∨ l.length ≤ k + i then l[l.length - 1 - k]? else l[k]?) _ ?_ ?_ ⟨rfl, by rw [wrap_i64 (by omega)]; simp, rfl, fun k hk => by rw [if_neg (by omega)]⟩
    · rintro i ⟨a, b, t⟩ hi ⟨h1, h2, h3, h4⟩
      simp only at h1 h2 h3 h4
      subst h1
      obtain ⟨j, rfl, hj⟩ : ∃ j : Nat, b = j ∧ j = l.length - 1 - i := ⟨l.length - 1 - i, by omega, rfl⟩
      have hj2 : j < l.length := by omega
      simp only [W.slices_Reverse_api_Op.c100001, W.slices_Reverse_api_Op.c3, br_if]
      rw [if_pos (by simp; omega)]
      have ej : t[j]? = l[j]? := by rw [h4 j hj2, if_neg (by omega)]
      have ei : t[i]? = l[i]? := by rw [h4 i (by omega), if_neg (by omega)]
      rw [inR_at (by omega), bnd_val, idx_at, ej, List.getElem?_eq_getElem hj2, bnd_val, inR_at (by omega), bnd_val, idx_at, ei, List.getElem?_eq_getElem (show i < l.length by omega)]
      simp only [bnd_val, Int.toNat_natCast, List.length_set]
      rw [inR_at (by omega), bnd_val, idx_at, List.getElem?_set_ne (by omega), ej, List.getElem?_eq_getElem hj2]
      simp only [bnd_val]
      rw [wrap_i64 (by omega), wrap_i64 (by omega)]
      refine .inl ⟨_, rfl, by simp, by simp; omega, by simp [h3], fun k hk => ?_⟩
      simp only [List.getElem?_set, List.length_set, h3]
      by_cases e1 : j = k
      · subst e1
        rw [if_pos rfl, if_pos hj2, if_pos (by omega), show l.length - 1 - j = i by omega, List.getElem?_eq_getElem (show i < l.length by omega)]
      · rw [if_neg e1]
        by_cases e2 : i = k
        · subst e2
          rw [if_pos rfl, if_pos (by omega), if_pos (by omega), show l.length - 1 - i = j by omega, List.getElem?_eq_getElem hj2]
        · rw [if_neg e2, h4 k hk]
          by_cases e3 : k < i ∨ l.length ≤ k + i
          · rw [if_pos e3, if_pos (by omega)]
          · rw [if_neg e3, if_neg (by omega)]
    · rintro ⟨a, b, t⟩ ⟨h1, h2, h3, h4⟩
      simp only at h1 h2 h3 h4
      subst h1; subst h2
      simp only [W.slices_Reverse_api_Op.c100001, br_if]
      rw [if_neg (by simp; omega)]
      refine ⟨_, rfl, ?_⟩
      apply List.ext_getElem?
      intro k
      by_cases hk : k < l.length
      · show t[k]? = _
        rw [h4 k hk, List.getElem?_reverse hk]
        by_cases e : k < l.length / 2 ∨ l.length ≤ k + l.length / 2
        · rw [if_pos e]
        · rw [if_neg e, show l.length - 1 - k = k by omega]
      · show t[k]? = _
        rw [List.getElem?_eq_none (by omega), List.getElem?_eq_none (by simp; omega)]
  obtain ⟨r, hr, h⟩ := h
  simp only [W.slices_Reverse_api_Op, hr, bnd_val, h]
theorem WCir.eta (c : Cir) : (c.1, c.2.1, c.2.2) = c := rfl
def base (c : Cir) (n : Int) : List Op := if n < 0 then (inv c).2.2 else c.2.2
end Go.Ql
end
end

section
set_option linter.unusedSectionVars false
set_option linter.unusedVariables false
set_option maxHeartbeats 1000000
namespace W
open Go Go.Ql
abbrev Ex := Rose (Int × Int)
mutual
def cnt : Ex → Nat
  | .mk _ ks => 1 + cnts ks
def cnts : List Ex → Nat
  | [] => 0
  | x :: r => cnt x + cnts r
end
mutual
def nds : Ex → List Ex
  | .mk a ks => .mk a ks :: ndss ks
def ndss : List Ex → List Ex
  | [] => []
  | x :: r => nds x ++ ndss r
end
mutual
def sz : Ex → Nat
  | .mk _ ks => szs 1 ks
def szs (n : Nat) : List Ex → Nat
  | [] => n
  | x :: r => if 400 < n then n else szs (n + sz x) r
end
mutual
def nd : Ex → List Ex
  | .mk a ks => nd1 [.mk a ks] ks
def nd1 (l : List Ex) : List Ex → List Ex
  | [] => l
  | x :: r => if 400 < l.length then l else nd1 (l ++ nd x) r
end
mutual
theorem sz_le : ∀ e : Ex, 1 ≤ sz e ∧ sz e ≤ cnt e
  | .mk a ks => by
    rw [sz, cnt]
    have := szs_le ks 1
    omega
theorem szs_le : ∀ (ks : List Ex) (n : Nat), n ≤ szs n ks ∧ szs n ks ≤ n + cnts ks
  | [], n => by rw [szs, cnts]; omega
  | x :: r, n => by
    have h1 := sz_le x
    have h2 := szs_le r (n + sz x)
    rw [szs, cnts]
    split <;> omega
end
mutual
theorem nds_len : ∀ e : Ex, (nds e).length = cnt e
  | .mk a ks => by rw [nds, cnt, List.length_cons, ndss_len ks]; omega
theorem ndss_len : ∀ ks : List Ex, (ndss ks).length = cnts ks
  | [] => rfl
  | x :: r => by rw [ndss, cnts, List.length_append, nds_len x, ndss_len r]
end
theorem Rose_eta (e : Ex) : (Rose.mk (Prod.fst (Rose.head e), Prod.snd (Rose.head e)) (Rose.kids e) : Ex) = e := by cases e; rfl
theorem size_kid {e x : Ex} (h : x ∈ Rose.kids e) : sizeOf x < sizeOf e := by
  cases e with
  | mk a ks =>
    have := List.sizeOf_lt_of_mem (show x ∈ ks from h)
    simp only [Rose.mk.sizeOf_spec]
    omega
theorem size_pos (e : Ex) : 1 ≤ sizeOf e := by
  cases e with
  | mk a ks => simp only [Rose.mk.sizeOf_spec]; omega
theorem cnts_mem : ∀ {ks : List Ex} {x : Ex}, x ∈ ks → cnt x ≤ cnts ks
  | y :: r, x, h => by
    rw [cnts]
    rcases List.mem_cons.1 h with rfl | h
    · omega
    · have := cnts_mem h
      omega
theorem rev_size_step [rev_size_b.Self] (a : Int × Int) (ks : List Ex) (hc : cnts ks < 4611686018427387904) (hl : ks.length < 4611686018427387904)
    (ih : ∀ x ∈ ks, rev_size_b.self (x, ()) = some ((sz x : Int), ())) : rev_size_b (.mk a ks) = some ((sz (.mk a ks) : Int), ()) := by
  unfold rev_size_b
  have key : ∃ r, iter (fun s : Int × Int => rev_size_b.c100003 (Prod.fst s) (Rose.kids (Rose.mk a ks)) (↑(List.length (Rose.kids (Rose.mk a ks))) : Int) (Prod.snd s) some) ((1 : Int), (0 : Int)) = some r ∧ r.1 = (sz (.mk a ks) : Int) := by
    refine iter_loop (J := fun s : Int × Int => ∃ m k : Nat, s = ((m : Int), (k : Int)) ∧ k ≤ ks.length ∧ szs m (ks.drop k) = szs 1 ks) (fun s : Int × Int => ks.length - s.2.toNat) ?_ ⟨1, 0, rfl, Nat.zero_le _, rfl⟩
    rintro s ⟨m, k, rfl, h1, h2⟩
    show (∃ r, rev_size_b.c100003 (m : Int) ks (ks.length : Int) (k : Int) some = some (.inr r) ∧ r.1 = _) ∨ ∃ s', rev_size_b.c100003 (m : Int) ks (ks.length : Int) (k : Int) some = some (.inl s') ∧ _
    unfold rev_size_b.c100003
    by_cases hk : k < ks.length
    · rw [List.drop_eq_getElem_cons hk, szs] at h2
      rw [br_pos (by omega), idx_get hk, bnd_val]
      by_cases hm : 400 < m
      · rw [if_pos hm] at h2
        rw [br_pos (by omega)]
        exact .inl ⟨_, rfl, by rw [sz, ← h2]⟩
      · rw [if_neg hm] at h2
        have hb : m + sz ks[k] ≤ 1 + cnts ks := by
          have := szs_le (ks.drop (k + 1)) (m + sz ks[k])
          have := szs_le ks 1
          omega
        rw [br_neg (by omega), Rose_eta, ih _ (List.getElem_mem hk)]
        refine .inr ⟨_, rfl, ⟨m + sz ks[k], k + 1, ?_, hk, h2⟩, ?_⟩
        · show (IntKind.i64.wrap ((m : Int) + (sz ks[k] : Int)), IntKind.i64.wrap ((k : Int) + 1)) = _
          rw [wrap_i64 (by omega), wrap_i64 (by omega)]
          rfl
        · show ks.length - (IntKind.i64.wrap ((k : Int) + 1)).toNat < ks.length - ((k : Int)).toNat
          rw [wrap_i64 (by omega)]
          omega
    · rw [br_neg (by omega)]
      refine .inl ⟨_, rfl, ?_⟩
      rw [@List.drop_eq_nil_of_le _ ks k (by omega), szs] at h2
      rw [sz, ← h2]
  obtain ⟨⟨r1, r2⟩, h1, h2⟩ := key
  rw [h1, bnd_val]
  exact congrArg (fun z : Int => some (z, ())) h2
theorem cnts_len : ∀ ks : List Ex, ks.length ≤ cnts ks
  | [] => Nat.le_refl _
  | x :: r => by
    have := cnts_len r
    have := sz_le x
    rw [cnts, List.length_cons]; omega
theorem rev_size_fuel : ∀ (n : Nat) (e : Ex), sizeOf e ≤ n → cnt e < 4611686018427387904 → (rev_size_b.fuel n).F (e, ()) = some ((sz e : Int), ())
  | 0, e, h, _ => absurd (size_pos e) (by omega)
  | n + 1, .mk a ks, h, hc => by
    have hc' : cnts ks < 4611686018427387904 := by rw [cnt] at hc; omega
    exact @rev_size_step (rev_size_b.fuel n) a ks hc' (Nat.lt_of_le_of_lt (cnts_len ks) hc') fun x hx =>
      rev_size_fuel n x (by have := size_kid (e := .mk a ks) hx; omega) (Nat.lt_of_le_of_lt (cnts_mem hx) hc')
theorem rev_size_ok (e : Ex) (h : cnt e < 4611686018427387904) : rev_size (e, ()) = some ((sz e : Int), ()) :=
  rev_size_fuel (sizeOf e) e (Nat.le_refl _) h
end W
end

section
set_option linter.unusedSectionVars false
set_option linter.unusedVariables false
set_option maxHeartbeats 1000000
namespace W
open Go Go.Ql
end W
end

section
set_option linter.unusedSectionVars false
set_option linter.unusedVariables false
set_option maxHeartbeats 1000000
namespace W
open Go Go.Ql
def wantA (k : Int) : Int := if k = 3 then 1 else if 4 ≤ k then 2 else 0
def badB (n k v : Int) : Bool := (decide (k = 1) && (decide (v < 0) || decide (v ≥ n))) || (!decide (k = 1) && !decide (v = 0))
def flt (n : Int) (x : Ex) : Int :=
  if x.head.1 < 1 ∨ 6 < x.head.1 then 8 else if (x.kids.length : Int) ≠ wantA x.head.1 then 22 else if badB n x.head.1 x.head.2 = true then 23 else 0
def ff (n : Int) : Nat → List Ex → Option (Int × Nat)
  | _, [] => none
  | p, x :: r => if flt n x = 0 then ff n (p + 1) r else some (flt n x, p)
theorem ff_app (n : Int) : ∀ (l m : List Ex) (p : Nat), ff n p (l ++ m) = match ff n p l with
    | some z => some z
    | none => ff n (p + l.length) m
  | [], m, p => by simp [ff]
  | x :: r, m, p => by
    rw [List.cons_append, ff, ff]
    split
    · rw [ff_app n r m (p + 1), List.length_cons, show p + 1 + r.length = p + (r.length + 1) by omega]
    · rfl
theorem ff_ne {n : Int} : ∀ {l : List Ex} {p : Nat} {c : Int} {j : Nat}, ff n p l = some (c, j) → c ≠ 0
  | x :: r, p, c, j, h => by
    rw [ff] at h
    split at h
    · exact ff_ne h
    · cases h; assumption
theorem c7_ok (n k v : Int) : rev_look_b.c7 n k v some = some (badB n k v) := by
  have e1 : (k == 1) = decide (k = 1) := rfl
  have e2 : (v != 0) = !decide (v = 0) := rfl
  have e3 : (k != 1) = !decide (k = 1) := rfl
  unfold rev_look_b.c7 badB
  rw [e1, e2, e3]
  cases hA : decide (v < 0) <;> cases hB : decide (v ≥ n) <;> cases hC : decide (k = 1) <;> cases hD : decide (v = 0) <;> first | rfl | (simp only [decide_eq_true_eq, decide_eq_false_iff_not] at hA hB hC hD; omega)
theorem rev_args_ok (k : Int) (h : ¬ (k < 1 ∨ 6 < k)) : rev_args k = some (wantA k) := by
  have : k = 1 ∨ k = 2 ∨ k = 3 ∨ k = 4 ∨ k = 5 ∨ k = 6 := by omega
  rcases this with rfl | rfl | rfl | rfl | rfl | rfl <;> rfl
theorem flt_eq (n k v : Int) (ks : List Ex) : flt n (.mk (k, v) ks) = if k < 1 ∨ 6 < k then 8 else if (ks.length : Int) ≠ wantA k then 22 else if badB n k v = true then 23 else 0 := rfl
def Look (n : Int) (l : List Ex) (p : Nat) (c : Nat) (r : (Int × Int) × Int × Unit) : Prop :=
  match ff n p l with
  | some z => r.1 = (z.1, (z.2 : Int))
  | none => r = ((0, 0), (p : Int) + c, ())
theorem rev_look_step [rev_look_b.Self] (n : Int) (a : Int × Int) (ks : List Ex) (p : Nat) (hc : p + cnt (.mk a ks) < 4611686018427387904)
    (ih : ∀ x ∈ ks, ∀ q : Nat, q + cnt x < 4611686018427387904 → ∃ r, rev_look_b.self (x, n, (q : Int), ()) = some r ∧ Look n (nds x) q (cnt x) r) :
    ∃ r, rev_look_b (.mk a ks) n (p : Int) = some r ∧ Look n (nds (.mk a ks)) p (cnt (.mk a ks)) r := by
  obtain ⟨k, v⟩ := a
  have hl := cnts_len ks
  have hcn : cnt (.mk (k, v) ks) = 1 + cnts ks := by rw [cnt]
  rw [hcn] at hc
  unfold rev_look_b
  show ∃ r, bnd (rev_look_b.c3 k some) _ = some r ∧ _
  have h3 : rev_look_b.c3 k some = some (decide (k < 1 ∨ 6 < k)) := by
    unfold rev_look_b.c3
    by_cases h : k < 1
    · rw [br_pos h]; simp [h]
    · rw [br_neg h]
      by_cases h' : 6 < k <;> simp [h, h']
  rw [h3, bnd_val]
  unfold Look
  rw [nds, ff, flt_eq]
  show ∃ r, br (decide (k < 1 ∨ 6 < k)) _ _ = some r ∧ _
  by_cases hk : k < 1 ∨ 6 < k
  · rw [br_pos hk, if_pos hk, if_neg (by decide)]
    exact ⟨_, rfl, rfl⟩
  rw [br_neg hk, if_neg hk]
  have h5 : rev_look_b.c5 k ks some = some ((ks.length : Int) != wantA k) := by
    unfold rev_look_b.c5
    rw [rev_args_ok k hk, bnd_val]
  show ∃ r, bnd (rev_look_b.c5 k ks some) _ = some r ∧ _
  rw [h5, bnd_val]
  by_cases hw : (ks.length : Int) ≠ wantA k
  · rw [br_true (by simpa using hw), if_pos hw, if_neg (by decide)]
    exact ⟨_, rfl, rfl⟩
  rw [br_false (by simpa using hw), if_neg hw]
  show ∃ r, bnd (rev_look_b.c7 n k v some) _ = some r ∧ _
  rw [c7_ok, bnd_val]
  by_cases hb : badB n k v = true
  · rw [br_true hb, if_pos hb, if_neg (by decide)]
    exact ⟨_, rfl, rfl⟩
  rw [br_false (by simpa using hb), if_neg hb, if_pos rfl]
  have w0 : IntKind.i64.wrap ((p : Int) + 1) = ((p + 1 : Nat) : Int) := by rw [wrap_i64 (by omega)]; rfl
  rw [w0]
  have key : ∃ r, iter (fun s : Int × Int => rev_look_b.c100010 n ks (ks.length : Int) (Prod.fst s) (Prod.snd s) some) ((0 : Int), ((p + 1 : Nat) : Int)) = some r ∧
      ∃ z, sel r (fun u => some ((Prod.fst (Prod.snd u), Prod.fst (Prod.snd (Prod.snd u))), Prod.snd (Prod.snd (Prod.snd u)), ())) (fun v => some (((0 : Int), (0 : Int)), Prod.snd v, ())) = some z ∧
        (match ff n (p + 1) (ndss ks) with
          | some y => z.1 = (y.1, (y.2 : Int))
          | none => z = ((0, 0), (p : Int) + ((1 + cnts ks : Nat) : Int), ())) := by
    refine iter_loop (J := fun s : Int × Int => ∃ i q : Nat, s = ((i : Int), (q : Int)) ∧ i ≤ ks.length ∧ q + cnts (ks.drop i) = p + 1 + cnts ks ∧ ff n q (ndss (ks.drop i)) = ff n (p + 1) (ndss ks)) (fun s : Int × Int => ks.length - s.1.toNat) ?_ ⟨0, p + 1, rfl, Nat.zero_le _, rfl, rfl⟩
    rintro s ⟨i, q, rfl, h1, h2, h3⟩
    show (∃ r, rev_look_b.c100010 n ks (ks.length : Int) (i : Int) (q : Int) some = some (.inr r) ∧ _) ∨ ∃ s', rev_look_b.c100010 n ks (ks.length : Int) (i : Int) (q : Int) some = some (.inl s') ∧ _
    unfold rev_look_b.c100010
    by_cases hi : i < ks.length
    · rw [List.drop_eq_getElem_cons hi, cnts] at h2
      rw [List.drop_eq_getElem_cons hi, ndss, ff_app, nds_len] at h3
      obtain ⟨r, e1, e2⟩ := ih ks[i] (List.getElem_mem hi) q (by omega)
      rw [br_pos (by omega), idx_get hi, bnd_val, Rose_eta, e1]
      obtain ⟨⟨c, j⟩, t, ⟨⟩⟩ := r
      show (∃ r, br (c != (0 : Int)) (some (Sum.inr (Sum.inl ((i : Int), c, j, t)))) (some (Sum.inl (IntKind.i64.wrap ((i : Int) + 1), t))) = some (.inr r) ∧ _) ∨ ∃ s', br (c != (0 : Int)) (some (Sum.inr (Sum.inl ((i : Int), c, j, t)))) (some (Sum.inl (IntKind.i64.wrap ((i : Int) + 1), t))) = some (.inl s') ∧ _
      unfold Look at e2
      cases hf : ff n q (nds ks[i]) with
      | some y =>
        rw [hf] at h3 e2
        obtain ⟨y1, y2⟩ := y
        have hy : y1 ≠ 0 := ff_ne hf
        have e2 : (c, j) = (y1, (y2 : Int)) := e2
        cases e2
        rw [br_true (by simpa using hy)]
        refine .inl ⟨_, rfl, _, rfl, ?_⟩
        rw [← h3]
      | none =>
        rw [hf] at h3 e2
        have e2 : ((c, j), t, ()) = (((0 : Int), (0 : Int)), (q : Int) + (cnt ks[i] : Nat), ()) := e2
        simp only [Prod.mk.injEq, and_true] at e2
        obtain ⟨⟨rfl, rfl⟩, rfl⟩ := e2
        rw [br_false (by simp)]
        refine .inr ⟨_, rfl, ⟨i + 1, q + cnt ks[i], ?_, hi, by omega, h3⟩, ?_⟩
        · rw [wrap_i64 (by omega)]; rfl
        · show ks.length - (IntKind.i64.wrap ((i : Int) + 1)).toNat < ks.length - ((i : Int)).toNat
          rw [wrap_i64 (by omega)]
          omega
    · rw [br_neg (by omega)]
      rw [@List.drop_eq_nil_of_le _ ks i (by omega)] at h2 h3
      rw [cnts] at h2
      rw [ndss, ff] at h3
      refine .inl ⟨_, rfl, _, rfl, ?_⟩
      rw [← h3]
      have : (q : Int) = (p : Int) + ((1 + cnts ks : Nat) : Int) := by omega
      show (((0 : Int), (0 : Int)), (q : Int), ()) = _
      rw [this]
  obtain ⟨r, k1, z, k2, k3⟩ := key
  refine ⟨z, ?_, by rw [hcn]; exact k3⟩
  exact bnd_of k1 k2
theorem rev_look_fuel (n : Int) : ∀ (m : Nat) (e : Ex) (p : Nat), sizeOf e ≤ m → p + cnt e < 4611686018427387904 → ∃ r, (rev_look_b.fuel m).F (e, n, (p : Int), ()) = some r ∧ Look n (nds e) p (cnt e) r
  | 0, e, p, h, _ => absurd (size_pos e) (by omega)
  | m + 1, .mk a ks, p, h, hc =>
    @rev_look_step (rev_look_b.fuel m) n a ks p hc fun x hx q hq =>
      rev_look_fuel n m x q (by have := size_kid (e := .mk a ks) hx; omega) hq
theorem rev_look_ok (n : Int) (e : Ex) (h : cnt e < 4611686018427387904) : ∃ r, rev_look (e, n, (0 : Int), ()) = some r ∧ Look n (nds e) 0 (cnt e) r :=
  rev_look_fuel n (sizeOf e) e 0 (Nat.le_refl _) (by omega)
def CheckA (n : Int) (e : Ex) : Int × Int :=
  if 400 < sz e then (2, 0) else if n < 0 ∨ 8 < n then (6, 0) else match ff n 0 (nds e) with
    | some z => (z.1, (z.2 : Int))
    | none => (0, 0)
theorem rev_Check_ok (n : Int) (e : Ex) (h : cnt e < 4611686018427387904) : rev_Check e n = some (CheckA n e) := by
  unfold rev_Check CheckA
  rw [Rose_eta]
  refine bnd_of (rev_size_ok e h) ?_
  show br (decide ((sz e : Int) > 400)) _ _ = _
  by_cases h1 : 400 < sz e
  · rw [br_pos (by omega), if_pos h1]; rfl
  rw [br_neg (by omega), if_neg h1]
  have h3 : rev_Check.c3 n some = some (decide (n < 0 ∨ 8 < n)) := by
    unfold rev_Check.c3
    by_cases h : n < 0
    · rw [br_pos h]; simp [h]
    · rw [br_neg h]
      by_cases h' : 8 < n <;> simp [h, h']
  rw [h3, bnd_val]
  by_cases h2 : n < 0 ∨ 8 < n
  · rw [br_pos h2, if_pos h2]; rfl
  rw [br_neg h2, if_neg h2]
  obtain ⟨r, e1, e2⟩ := rev_look_ok n e h
  refine bnd_of e1 ?_
  unfold Look at e2
  cases hf : ff n 0 (nds e) with
  | some z => rw [hf] at e2; show some (r.1.1, r.1.2) = _; rw [show r.1 = (z.1, (z.2 : Int)) from e2]
  | none => rw [hf] at e2; show some (r.1.1, r.1.2) = _; rw [show r = ((0, 0), _, ()) from e2]
end W
end

section
set_option linter.unusedSectionVars false
set_option linter.unusedVariables false
set_option maxHeartbeats 1000000
namespace W
open Go Go.Ql
theorem ff_none {n : Int} : ∀ {l : List Ex} {p : Nat}, ff n p l = none ↔ ∀ y ∈ l, flt n y = 0
  | [], p => by simp [ff]
  | x :: r, p => by
    rw [ff]
    by_cases h : flt n x = 0
    · rw [if_pos h, ff_none]
      simp [h]
    · rw [if_neg h]
      simp [h]
def Good1 (n : Int) (e : Ex) : Prop := ∀ y ∈ nds e, flt n y = 0
theorem ndss_mem : ∀ {ks : List Ex} {x y : Ex}, x ∈ ks → y ∈ nds x → y ∈ ndss ks
  | z :: r, x, y, h, hy => by
    rw [ndss, List.mem_append]
    rcases List.mem_cons.1 h with rfl | h
    · exact .inl hy
    · exact .inr (ndss_mem h hy)
theorem Good1.kid {n : Int} {a : Int × Int} {ks : List Ex} (h : Good1 n (.mk a ks)) {x : Ex} (hx : x ∈ ks) : Good1 n x := fun y hy =>
  h y (by rw [nds]; exact List.mem_cons_of_mem _ (ndss_mem hx hy))
theorem Good1.root {n k v : Int} {ks : List Ex} (h : Good1 n (.mk (k, v) ks)) : (1 ≤ k ∧ k ≤ 6) ∧ (ks.length : Int) = wantA k ∧ (k = 1 → 0 ≤ v ∧ v < n) := by
  have h0 := h (.mk (k, v) ks) (by rw [nds]; exact List.mem_cons_self ..)
  rw [flt_eq] at h0
  by_cases h1 : k < 1 ∨ 6 < k
  · rw [if_pos h1] at h0; contradiction
  rw [if_neg h1] at h0
  by_cases h2 : (ks.length : Int) ≠ wantA k
  · rw [if_pos h2] at h0; contradiction
  rw [if_neg h2] at h0
  by_cases h3 : badB n k v = true
  · rw [if_pos h3] at h0; contradiction
  refine ⟨by omega, by omega, fun hk => ?_⟩
  unfold badB at h3
  simp only [hk, decide_true, Bool.true_and, Bool.not_true, Bool.false_and, Bool.or_false, Bool.or_eq_true, decide_eq_true_eq] at h3
  omega
def tvOf (k v : Int) (x : Nat) (bs : List Bool) : Bool :=
  if k = 1 then x.testBit v.toNat else if k = 2 then true else if k = 3 then !bs.getD 0 false
  else if k = 4 then bs.getD 0 false && bs.getD 1 false else if k = 6 then bs.getD 0 false != bs.getD 1 false else bs.getD 0 false || bs.getD 1 false
mutual
def tv (x : Nat) : Ex → Bool
  | .mk a ks => tvOf a.1 a.2 x (tvs x ks)
def tvs (x : Nat) : List Ex → List Bool
  | [] => []
  | e :: r => tv x e :: tvs x r
end
theorem tvs_map (x : Nat) : ∀ ks : List Ex, tvs x ks = ks.map (tv x)
  | [] => rfl
  | e :: r => by rw [tvs, tvs_map x r]; rfl
end W
end

section
set_option linter.unusedSectionVars false
set_option linter.unusedVariables false
set_option maxHeartbeats 1000000
namespace W
open Go Go.Ql
abbrev bI (b : Bool) : Int := (b.toNat : Int)
theorem bitOf_bI {x : Nat} {q : Int} (hx : x < 2 ^ 63) (hq : 0 ≤ q ∧ q < 64) : R_bitOf (x : Int) q = some (bI (x.testBit q.toNat)) := by
  unfold R_bitOf
  have h1 : Int.fdiv (x : Int) ((2 : Int) ^ Min.min (Int.toNat q) (64 : Nat)) = ((x / 2 ^ q.toNat : Nat) : Int) := by
    rw [Nat.min_eq_left (by omega), Int.fdiv_eq_ediv_of_nonneg _ (by have : (0 : Int) ≤ ((2 ^ q.toNat : Nat) : Int) := Int.natCast_nonneg _; simpa using this)]
    norm_cast
  have h2 := iandi64 (a := x / 2 ^ q.toNat) (b := 1) (Nat.lt_of_le_of_lt (Nat.div_le_self _ _) hx) (by decide)
  rw [show ((1 : Nat) : Int) = 1 from rfl] at h2
  rw [okIf_true (by simpa using hq.1), bnd_val, h1, h2]
  have h3 : x / 2 ^ q.toNat &&& 1 = x / 2 ^ q.toNat % 2 := Nat.and_one_is_mod _
  rw [h3, bI, Nat.testBit, Nat.shiftRight_eq_div_pow, Nat.and_comm 1, h3]
  have : x / 2 ^ q.toNat % 2 = 0 ∨ x / 2 ^ q.toNat % 2 = 1 := by omega
  rcases this with h | h <;> rw [h] <;> rfl
end W
end

section
set_option linter.unusedSectionVars false
set_option linter.unusedVariables false
set_option maxHeartbeats 1000000
namespace W
open Go Go.Ql
def tabL (f : Nat → Bool) (k : Nat) : List Int := (List.range 256).map fun x => if x < k then bI (f x) else 0
theorem tabL_len (f : Nat → Bool) (k : Nat) : (tabL f k).length = 256 := by simp [tabL]
theorem tabL_at (f : Nat → Bool) {k i : Nat} (h : i < 256) : (tabL f k)[i]? = some (if i < k then bI (f i) else 0) := by
  unfold tabL
  rw [List.getElem?_map, List.getElem?_range h]
  rfl
theorem tabL_zero (f : Nat → Bool) : tabL f 0 = List.replicate 256 0 := by
  apply List.ext_getElem?
  intro i
  by_cases h : i < 256
  · rw [tabL_at f h, List.getElem?_replicate, if_pos h, if_neg (Nat.not_lt_zero _)]
  · rw [List.getElem?_eq_none (by rw [tabL_len]; omega), List.getElem?_replicate, if_neg h]
theorem tabL_set (f : Nat → Bool) {k : Nat} (h : k < 256) : (tabL f k).set k (bI (f k)) = tabL f (k + 1) := by
  apply List.ext_getElem?
  intro i
  rw [List.getElem?_set]
  by_cases hi : i < 256
  · rw [tabL_at f hi, tabL_at f hi]
    by_cases hk : k = i
    · subst hk
      rw [if_pos rfl, if_pos (by rw [tabL_len]; exact h), if_pos (Nat.lt_succ_self _)]
    · rw [if_neg hk]
      congr 1
      by_cases h2 : i < k
      · rw [if_pos h2, if_pos (by omega)]
      · rw [if_neg h2, if_neg (by omega)]
  · rw [if_neg (by omega), List.getElem?_eq_none (by rw [tabL_len]; omega), List.getElem?_eq_none (by rw [tabL_len]; omega)]
theorem tabL_idx (f : Nat → Bool) {k i : Nat} (h : i < 256) (hk : i < k) : idx (tabL f k) (i : Int) = some (bI (f i)) := by
  rw [idx_at, tabL_at f h, if_pos hk]
end W
end

section
set_option linter.unusedSectionVars false
set_option linter.unusedVariables false
set_option maxHeartbeats 1000000
namespace W
open Go Go.Ql
theorem cell_ok [rev_table_b.Self] (kind v : Int) (hk : 1 ≤ kind ∧ kind ≤ 6) (hv : kind = 1 → 0 ≤ v ∧ v < 64) (f : Nat → Bool) (a b : List Int) (k : Nat) (h : k < 256) (x y : Bool)
    (la : a.length = 256) (lb : b.length = 256) (ha : 3 ≤ kind → idx a (k : Int) = some (bI x)) (hb : 4 ≤ kind → idx b (k : Int) = some (bI y)) (hf : f k = tvOf kind v k [x, y]) :
    rev_table_b.c232799 (k : Int) kind v (tabL f k) a b some = some (tabL f (k + 1)) := by
  have ok : okIf (decide ((0 : Ty.den (Ty.int IntKind.i64)) ≤ (k : Int)) && decide ((k : Int) < (↑(256 : Nat) : Int))) = some () := okIf_true (by
    have h1 : (0 : Int) ≤ (k : Int) := by omega
    have h2 : (k : Int) < ((256 : Nat) : Int) := by omega
    rw [Bool.and_eq_true]; exact ⟨decide_eq_true h1, decide_eq_true h2⟩)
  have i1 : inR (tabL f k).length (k : Int) = some () := by rw [tabL_len]; exact inR_at h
  have i2 : inR a.length (k : Int) = some () := by rw [la]; exact inR_at h
  have i3 : inR b.length (k : Int) = some () := by rw [lb]; exact inR_at h
  have i4 : idx (tabL f k) (k : Int) = some 0 := by rw [idx_at, tabL_at f h, if_neg (Nat.lt_irrefl _)]
  have hset : ∀ z : Int, z = bI (f k) → (tabL f k).set (Int.toNat (k : Int)) z = tabL f (k + 1) := fun z hz => by
    rw [hz, Int.toNat_natCast, tabL_set f h]
  have h6 : kind = 1 ∨ kind = 2 ∨ kind = 3 ∨ kind = 4 ∨ kind = 5 ∨ kind = 6 := by omega
  unfold rev_table_b.c232799
  rcases h6 with rfl | rfl | rfl | rfl | rfl | rfl
  · have hv' := hv rfl
    refine (br_true (by rfl)).trans ?_
    rw [okIf_true (by simpa using hv'.1), bnd_val, ok, bnd_val, i1, bnd_val, i4, bnd_val]
    have hb := bitOf_bI (x := k) (q := v) (by omega) hv'
    unfold R_bitOf at hb
    rw [okIf_true (by simpa using hv'.1), bnd_val] at hb
    rw [Option.some.inj hb, hset _ (by rw [hf]; show IntKind.u8.wrap (bI (k.testBit v.toNat)) = bI (k.testBit v.toNat); cases k.testBit v.toNat <;> rfl)]
  · refine (br_false (by rfl)).trans ((br_true (by rfl)).trans ?_)
    rw [ok, bnd_val, i1, bnd_val, i4, bnd_val, hset _ (by rw [hf]; rfl)]
  · refine (br_false (by rfl)).trans ((br_false (by rfl)).trans ((br_true (by rfl)).trans ?_))
    rw [ok, bnd_val, i2, bnd_val, ha (by omega), bnd_val, bnd_val, i1, bnd_val, i4, bnd_val, hset _ (by rw [hf]; cases x <;> rfl)]
  · refine (br_false (by rfl)).trans ((br_false (by rfl)).trans ((br_false (by rfl)).trans ((br_true (by rfl)).trans ?_)))
    unfold rev_table_b.c17
    simp only [ok, i1, i2, i3, i4, ha (by omega), hb (by omega), bnd_val]
    rw [hset _ (by rw [hf]; cases x <;> cases y <;> rfl)]
  · refine (br_false (by rfl)).trans ((br_false (by rfl)).trans ((br_false (by rfl)).trans ((br_false (by rfl)).trans ((br_true (by rfl)).trans ?_))))
    unfold rev_table_b.c19
    simp only [ok, i1, i2, i3, i4, ha (by omega), hb (by omega), bnd_val]
    rw [hset _ (by rw [hf]; cases x <;> cases y <;> rfl)]
  · refine (br_false (by rfl)).trans ((br_false (by rfl)).trans ((br_false (by rfl)).trans ((br_false (by rfl)).trans ((br_false (by rfl)).trans ((br_true (by rfl)).trans ?_)))))
    unfold rev_table_b.c21
    simp only [ok, i1, i2, i3, i4, ha (by omega), hb (by omega), bnd_val]
    rw [hset _ (by rw [hf]; cases x <;> cases y <;> rfl)]
end W
end

section
set_option linter.unusedSectionVars false
set_option linter.unusedVariables false
set_option maxHeartbeats 1000000
namespace W
open Go Go.Ql
theorem two_pow8 {n : Int} (h : 0 ≤ n ∧ n ≤ 8) : 2 ^ n.toNat ≤ 256 ∧ IntKind.i64.wrap ((1 : Int) * (2 : Int) ^ Min.min (Int.toNat n) (64 : Nat)) = ((2 ^ n.toNat : Nat) : Int) := by
  have : n = 0 ∨ n = 1 ∨ n = 2 ∨ n = 3 ∨ n = 4 ∨ n = 5 ∨ n = 6 ∨ n = 7 ∨ n = 8 := by omega
  rcases this with rfl | rfl | rfl | rfl | rfl | rfl | rfl | rfl | rfl <;> exact ⟨by decide, by decide⟩
theorem tv_eq (x : Nat) (k v : Int) (ks : List Ex) : tv x (.mk (k, v) ks) = tvOf k v x [(tvs x ks).getD 0 false, (tvs x ks).getD 1 false] := rfl
theorem rev_table_step [rev_table_b.Self] (n : Int) (hn : 0 ≤ n ∧ n ≤ 8) (k v : Int) (ks : List Ex) (hg : Good1 n (.mk (k, v) ks))
    (ih : ∀ y ∈ ks, rev_table_b.self (y, n, ()) = some (tabL (fun x => tv x y) (2 ^ n.toNat), ())) :
    rev_table_b (.mk (k, v) ks) n = some (tabL (fun x => tv x (.mk (k, v) ks)) (2 ^ n.toNat), ()) := by
  obtain ⟨hk, hl, hv⟩ := hg.root
  obtain ⟨h256, hw⟩ := two_pow8 hn
  have hlk : (3 ≤ k → 0 < ks.length) ∧ (4 ≤ k → 1 < ks.length) := by
    unfold wantA at hl
    constructor <;> intro h
    · by_cases h3 : k = 3
      · rw [if_pos h3] at hl; omega
      · rw [if_neg h3, if_pos (by omega)] at hl; omega
    · rw [if_neg (by omega), if_pos h] at hl; omega
  have hA : ∃ A, rev_table_b.c208197 n ks (List.replicate (256 : Nat) (0 : Int)) some = some A ∧ A.length = 256 ∧ (3 ≤ k → ∀ i : Nat, i < 2 ^ n.toNat → idx A (i : Int) = some (bI ((tvs i ks).getD 0 false))) := by
    unfold rev_table_b.c208197
    by_cases h0 : 0 < ks.length
    · refine ⟨tabL (fun x => tv x ks[0]) (2 ^ n.toNat), ?_, tabL_len _ _, fun _ i hi => ?_⟩
      · refine (br_pos (by omega)).trans (bnd_of (idx_get (i := 0) h0) (bnd_of (ih _ (List.getElem_mem h0)) ?_))
        refine bnd_of (x := ()) (okIf_true ?_) rfl
        exact decide_eq_true (by rw [List.length_replicate]; exact tabL_len _ _)
      · rw [tabL_idx _ (by omega) hi, tvs_map, List.getD_eq_getElem?_getD, List.getElem?_map, List.getElem?_eq_getElem h0]
        rfl
    · exact ⟨_, br_neg (by omega), List.length_replicate, fun h => absurd (hlk.1 h) h0⟩
  have hB : ∃ B, rev_table_b.c216389 n ks (List.replicate (256 : Nat) (0 : Int)) some = some B ∧ B.length = 256 ∧ (4 ≤ k → ∀ i : Nat, i < 2 ^ n.toNat → idx B (i : Int) = some (bI ((tvs i ks).getD 1 false))) := by
    unfold rev_table_b.c216389
    by_cases h0 : 1 < ks.length
    · refine ⟨tabL (fun x => tv x ks[1]) (2 ^ n.toNat), ?_, tabL_len _ _, fun _ i hi => ?_⟩
      · refine (br_pos (by omega)).trans (bnd_of (idx_get (i := 1) h0) (bnd_of (ih _ (List.getElem_mem h0)) ?_))
        refine bnd_of (x := ()) (okIf_true ?_) rfl
        exact decide_eq_true (by rw [List.length_replicate]; exact tabL_len _ _)
      · rw [tabL_idx _ (by omega) hi, tvs_map, List.getD_eq_getElem?_getD, List.getElem?_map, List.getElem?_eq_getElem h0]
        rfl
    · exact ⟨_, br_neg (by omega), List.length_replicate, fun h => absurd (hlk.2 h) h0⟩
  obtain ⟨A, a1, a2, a3⟩ := hA
  obtain ⟨B, b1, b2, b3⟩ := hB
  unfold rev_table_b
  refine bnd_of a1 (bnd_of b1 (bnd_of (x := ()) (okIf_true (by simpa using hn.1)) ?_))
  rw [hw]
  have key : ∃ r, iter (fun s : Int × List Int => rev_table_b.c100007 ((2 ^ n.toNat : Nat) : Int) s.1 k v s.2 A B some) ((0 : Int), List.replicate (256 : Nat) (0 : Int)) = some r ∧ r.2 = tabL (fun x => tv x (.mk (k, v) ks)) (2 ^ n.toNat) := by
    refine iter_loop (J := fun s : Int × List Int => ∃ i : Nat, s = ((i : Int), tabL (fun x => tv x (.mk (k, v) ks)) i) ∧ i ≤ 2 ^ n.toNat) (fun s : Int × List Int => 2 ^ n.toNat - s.1.toNat) ?_ ⟨0, by rw [tabL_zero]; rfl, Nat.zero_le _⟩
    rintro s ⟨i, rfl, h1⟩
    unfold rev_table_b.c100007
    by_cases hi : i < 2 ^ n.toNat
    · refine .inr ⟨_, (br_pos (by omega)).trans (bnd_of (cell_ok k v hk (fun h => by have := hv h; omega) _ A B i (by omega) _ _ a2 b2 (fun h => a3 h i hi) (fun h => b3 h i hi) (tv_eq i k v ks)) rfl), ⟨i + 1, ?_, hi⟩, ?_⟩
      · rw [wrap_i64 (by omega)]; rfl
      · show 2 ^ n.toNat - (IntKind.i64.wrap ((i : Int) + 1)).toNat < 2 ^ n.toNat - ((i : Int)).toNat
        rw [wrap_i64 (by omega)]; omega
    · refine .inl ⟨_, br_neg (by omega), ?_⟩
      rw [show i = 2 ^ n.toNat by omega]
  obtain ⟨⟨r1, r2⟩, h1, h2⟩ := key
  have h2 : r2 = _ := h2
  subst h2
  refine bnd_of h1 (bnd_of (x := ()) (okIf_true (decide_eq_true (tabL_len _ _))) (bnd_of (x := ()) (okIf_true (decide_eq_true ?_)) (bnd_of (x := ()) (okIf_true (decide_eq_true (tabL_len _ _))) rfl)))
  rw [List.length_replicate]; exact tabL_len _ _
theorem rev_table_fuel (n : Int) (hn : 0 ≤ n ∧ n ≤ 8) : ∀ (m : Nat) (e : Ex), sizeOf e ≤ m → Good1 n e → (rev_table_b.fuel m).F (e, n, ()) = some (tabL (fun x => tv x e) (2 ^ n.toNat), ())
  | 0, e, h, _ => absurd (size_pos e) (by omega)
  | m + 1, .mk (k, v) ks, h, hg =>
    @rev_table_step (rev_table_b.fuel m) n hn k v ks hg fun y hy =>
      rev_table_fuel n hn m y (by have := size_kid (e := .mk (k, v) ks) hy; omega) (hg.kid hy)
theorem rev_table_ok (n : Int) (hn : 0 ≤ n ∧ n ≤ 8) (e : Ex) (hg : Good1 n e) : rev_table (e, n, ()) = some (tabL (fun x => tv x e) (2 ^ n.toNat), ()) :=
  rev_table_fuel n hn (sizeOf e) e (Nat.le_refl _) hg
end W
end

section
set_option linter.unusedSectionVars false
set_option linter.unusedVariables false
set_option maxHeartbeats 1000000
namespace W
open Go Go.Ql
theorem CheckA_good {n : Int} {e : Ex} (h : (CheckA n e).1 = 0) : sz e ≤ 400 ∧ (0 ≤ n ∧ n ≤ 8) ∧ Good1 n e ∧ CheckA n e = (0, 0) := by
  unfold CheckA at h ⊢
  by_cases h1 : 400 < sz e
  · rw [if_pos h1] at h; exact absurd h (by decide)
  rw [if_neg h1] at h ⊢
  by_cases h2 : n < 0 ∨ 8 < n
  · rw [if_pos h2] at h; exact absurd h (by decide)
  rw [if_neg h2] at h ⊢
  cases hf : ff n 0 (nds e) with
  | some z =>
    rw [hf] at h
    exact absurd h (ff_ne (c := z.1) (j := z.2) hf)
  | none => exact ⟨by omega, by omega, ff_none.1 hf, rfl⟩
end W
end

section
set_option linter.unusedSectionVars false
set_option linter.unusedVariables false
set_option maxHeartbeats 1000000
namespace W
open Go Go.Ql
def TabP (g : Nat → Bool) (N : Nat) (L : List Int) : Prop := L.length = 256 ∧ ∀ y, y < N → idx L (y : Int) = some (bI (g y))
theorem TabP.congr {g h : Nat → Bool} {N : Nat} {L : List Int} (t : TabP g N L) (e : ∀ y, y < N → g y = h y) : TabP h N L :=
  ⟨t.1, fun y hy => by rw [← e y hy]; exact t.2 y hy⟩
theorem TabP.set {g h : Nat → Bool} {N : Nat} {L : List Int} (t : TabP g N L) (hN : N ≤ 256) {x : Nat} (hx : x < N) (b : Bool) (e : ∀ y, y < N → h y = if y = x then b else g y) :
    TabP h N (L.set x (bI b)) := by
  refine ⟨by rw [List.length_set]; exact t.1, fun y hy => ?_⟩
  rw [idx_at, List.getElem?_set, e y hy]
  by_cases h : x = y
  · subst h
    rw [if_pos rfl, if_pos (by rw [t.1]; omega), if_pos rfl]
  · rw [if_neg h, if_neg (Ne.symm h), ← idx_at]
    exact t.2 y hy
theorem tabL_TabP (f : Nat → Bool) {N : Nat} (h : N ≤ 256) : TabP f N (tabL f N) := ⟨tabL_len f N, fun y hy => tabL_idx f (by omega) hy⟩
theorem pow_i {i : Nat} (h : i ≤ 8) : IntKind.i64.wrap ((1 : Int) * (2 : Int) ^ Min.min (Int.toNat (i : Int)) (64 : Nat)) = ((2 ^ i : Nat) : Int) := by
  have := (two_pow8 (n := (i : Int)) ⟨by omega, by omega⟩).2
  rwa [Int.toNat_natCast] at this ⊢
theorem bit_i {x i : Nat} (hx : x < 2 ^ 63) (h : i < 64) : ibits BinOp.and IntKind.i64 (Int.fdiv (x : Int) ((2 : Int) ^ Min.min (Int.toNat (i : Int)) (64 : Nat))) (1 : Int) = bI (x.testBit i) := by
  have hb := bitOf_bI (x := x) (q := i) hx ⟨by omega, by omega⟩
  unfold R_bitOf at hb
  rw [okIf_true (by simp), bnd_val] at hb
  exact Option.some.inj hb
theorem bI_one (b : Bool) : (bI b == (1 : Int)) = b := by cases b <;> rfl
theorem bI_zero (b : Bool) : (bI b == (0 : Int)) = !b := by cases b <;> rfl
theorem ok256 {x : Nat} (h : x < 256) : okIf (decide ((0 : Ty.den (Ty.int IntKind.i64)) ≤ (x : Int)) && decide ((x : Int) < (↑(256 : Nat) : Int))) = some () := okIf_true (by
  have h1 : (0 : Int) ≤ (x : Int) := by omega
  have h2 : (x : Int) < ((256 : Nat) : Int) := by omega
  rw [Bool.and_eq_true]; exact ⟨decide_eq_true h1, decide_eq_true h2⟩)
theorem ok0 (i : Nat) : okIf (decide ((0 : Int) ≤ (i : Int))) = some () := okIf_true (decide_eq_true (by omega))
theorem c8_ok {g : Nat → Bool} {N i x : Nat} {L : List Int} (t : TabP g N L) (hN : N ≤ 256) (hi : i ≤ 7) (hx : x < N) (hy : x ^^^ 2 ^ i < N) :
    rev_column_normal.c8 (i : Int) (x : Int) L some = some (L.set x (bI (g x != g (x ^^^ 2 ^ i)))) := by
  have e : ibits BinOp.xor IntKind.i64 (x : Int) (IntKind.i64.wrap ((1 : Int) * (2 : Int) ^ Min.min (Int.toNat (i : Int)) (64 : Nat))) = ((x ^^^ 2 ^ i : Nat) : Int) := by
    rw [pow_i (by omega)]
    exact ixori64 (by omega) (Nat.lt_of_le_of_lt (Nat.pow_le_pow_right (by decide) hi) (by decide))
  unfold rev_column_normal.c8
  have h1 := t.2 x hx
  have h2 := t.2 _ hy
  have i1 : inR L.length (x : Int) = some () := by rw [t.1]; exact inR_at (by omega)
  have i2 : inR L.length ((x ^^^ 2 ^ i : Nat) : Int) = some () := by rw [t.1]; exact inR_at (by omega)
  simp only [e, ok256 (x := x) (by omega), ok256 (x := x ^^^ 2 ^ i) (by omega), ok0, i1, i2, h1, h2, bnd_val]
  rw [Int.toNat_natCast]
  congr 2
  cases g x <;> cases g (x ^^^ 2 ^ i) <;> rfl
theorem c224584_ok {f : Nat → Bool} {n i x : Nat} {L : List Int} (hn : n ≤ 8) (hi : i < n) (hx : x < 2 ^ n) (t : TabP (fun y => if y < x then mob f (i + 1) y else mob f i y) (2 ^ n) L) :
    ∃ L', rev_column_normal.c224584 (i : Int) (x : Int) L some = some L' ∧ TabP (fun y => if y < x + 1 then mob f (i + 1) y else mob f i y) (2 ^ n) L' := by
  have hN : 2 ^ n ≤ 256 := Nat.pow_le_pow_right (n := 2) (by decide) hn
  unfold rev_column_normal.c224584
  rw [ok0, bnd_val, bit_i (by omega) (by omega), bI_one]
  cases hb : x.testBit i with
  | true =>
    have hlt : x ^^^ 2 ^ i < x := by
      have : x ^^^ 2 ^ i ≤ x := sub_le fun j hj => by
        rw [flip_bit] at hj
        by_cases e : i = j
        · subst e; exact hb
        · rw [decide_eq_false e] at hj; simpa using hj
      have hne : x ^^^ 2 ^ i ≠ x := fun e => by
        have := flip_bit x i i
        rw [e, hb] at this; simp at this
      omega
    refine ⟨_, (br_tt).trans (bnd_of (c8_ok t hN (by omega) hx (Nat.lt_trans hlt hx)) rfl), t.set hN hx _ fun y hy => ?_⟩
    by_cases e : y = x
    · subst e
      rw [if_pos rfl, if_pos (Nat.lt_succ_self y), if_neg (Nat.lt_irrefl y), if_pos hlt, mob, if_pos hb]
      congr 1
      rw [mob, if_neg]
      rw [flip_bit, hb]; simp
    · rw [if_neg e]
      by_cases h : y < x
      · rw [if_pos h, if_pos (by omega)]
      · rw [if_neg h, if_neg (by omega)]
  | false =>
    refine ⟨L, rfl, t.congr fun y hy => ?_⟩
    by_cases e : y = x
    · subst e
      rw [if_neg (Nat.lt_irrefl y), if_pos (Nat.lt_succ_self y), mob, if_neg (by rw [hb]; decide)]
    · by_cases h : y < x
      · rw [if_pos h, if_pos (by omega)]
      · rw [if_neg h, if_neg (by omega)]
theorem inner_ok {f : Nat → Bool} {n i : Nat} {L : List Int} (hn : n ≤ 8) (hi : i < n) (t : TabP (mob f i) (2 ^ n) L) :
    ∃ r, iter (fun s : Int × List Int => rev_column_normal.c100005 (i : Int) ((2 ^ n : Nat) : Int) (Prod.fst s) (Prod.snd s) some) ((0 : Int), L) = some r ∧ TabP (mob f (i + 1)) (2 ^ n) r.2 := by
  have hN : 2 ^ n ≤ 256 := Nat.pow_le_pow_right (n := 2) (by decide) hn
  refine iter_upto (2 ^ n) (fun x (s : Int × List Int) => s.1 = (x : Int) ∧ TabP (fun y => if y < x then mob f (i + 1) y else mob f i y) (2 ^ n) s.2) _ ?_ ?_ ⟨rfl, t.congr fun y hy => by rw [if_neg (Nat.not_lt_zero _)]⟩
  · rintro x ⟨_, L'⟩ hx ⟨rfl, ht⟩
    obtain ⟨L2, h1, h2⟩ := c224584_ok hn hi hx ht
    refine .inl ⟨((x + 1 : Nat), L2), ?_, rfl, h2⟩
    show rev_column_normal.c100005 (i : Int) ((2 ^ n : Nat) : Int) (x : Int) L' some = _
    unfold rev_column_normal.c100005
    rw [br_pos (by omega), h1, bnd_val, wrap_i64 (by omega)]
    rfl
  · rintro ⟨_, L'⟩ ⟨rfl, ht⟩
    refine ⟨((2 ^ n : Nat), L'), ?_, ht.congr fun y hy => by rw [if_pos hy]⟩
    show rev_column_normal.c100005 (i : Int) ((2 ^ n : Nat) : Int) ((2 ^ n : Nat) : Int) L' some = _
    unfold rev_column_normal.c100005
    rw [br_neg (by omega)]
theorem outer_ok {f : Nat → Bool} {n : Nat} {L : List Int} (hn : n ≤ 8) (t : TabP f (2 ^ n) L) :
    ∃ r, iter (fun s : Int × List Int => rev_column_normal.c100002 (n : Int) (n : Int) (Prod.fst s) (Prod.snd s) some) ((0 : Int), L) = some r ∧ TabP (mob f n) (2 ^ n) r.2 := by
  refine iter_upto n (fun i (s : Int × List Int) => s.1 = (i : Int) ∧ TabP (mob f i) (2 ^ n) s.2) _ ?_ ?_ ⟨rfl, t⟩
  · rintro i ⟨_, L'⟩ hi ⟨rfl, ht⟩
    obtain ⟨r, h1, h2⟩ := inner_ok hn hi ht
    refine .inl ⟨((i + 1 : Nat), r.2), ?_, rfl, h2⟩
    show rev_column_normal.c100002 (n : Int) (n : Int) (i : Int) L' some = _
    unfold rev_column_normal.c100002
    rw [br_pos (by omega), ok0, bnd_val, pow_i hn, h1, bnd_val, wrap_i64 (by omega)]
    rfl
  · rintro ⟨_, L'⟩ ⟨rfl, ht⟩
    refine ⟨((n : Int), L'), ?_, ht⟩
    show rev_column_normal.c100002 (n : Int) (n : Int) (n : Int) L' some = _
    unfold rev_column_normal.c100002
    rw [br_neg (by omega)]
theorem bits_ok {n x : Nat} (hn : n ≤ 8) (hx : x < 256) :
    iter (fun s : Int × List Int => rev_column_normal.c100018 (x : Int) (n : Int) (Prod.fst s) (Prod.snd s) some) ((0 : Int), []) = some ((n : Int), bL x n) := by
  refine iter_count n (fun k => ((k : Int), bL x k)) _ ?_ ?_ rfl
  · intro k hk
    show rev_column_normal.c100018 (x : Int) (n : Int) (k : Int) (bL x k) some = _
    unfold rev_column_normal.c100018 rev_column_normal.c277832
    rw [br_pos (by omega), ok0, bnd_val, bit_i (by omega) (by omega), bI_one]
    have := bL_len x k
    have ok : okIf (decide (((bL x k).length + (1 : Nat)) * (8 : Nat) ≤ (140737488355328 : Nat)) && decide ((bL x k).length + (1 : Nat) ≤ (140737488355328 : Nat))) = some () := okIf_len (by omega)
    rw [bL]
    cases hb : x.testBit k with
    | true => rw [br_tt, ok, bnd_val, bnd_val, wrap_i64 (by omega), if_pos rfl]; rfl
    | false => rw [br_ff, bnd_val, wrap_i64 (by omega), if_neg (by decide)]; rfl
  · show rev_column_normal.c100018 (x : Int) (n : Int) (n : Int) (bL x n) some = _
    unfold rev_column_normal.c100018
    rw [br_neg (by omega)]
def monos (g : Nat → Bool) (n k : Nat) : List (List Int) := ((List.range k).filter g).map fun x => bL x n
theorem monos_len (g : Nat → Bool) (n k : Nat) : (monos g n k).length ≤ k := by
  rw [monos, List.length_map]
  exact Nat.le_trans (List.length_filter_le _ _) (by rw [List.length_range]; exact Nat.le_refl k)
theorem monos_succ (g : Nat → Bool) (n k : Nat) : monos g n (k + 1) = if g k = true then monos g n k ++ [bL k n] else monos g n k := by
  rw [monos, monos, List.range_succ, List.filter_append, List.map_append]
  by_cases h : g k = true
  · rw [if_pos h, List.filter_cons_of_pos h]; rfl
  · rw [if_neg h, List.filter_cons_of_neg h]; simp
theorem column_ok {f : Nat → Bool} {n : Nat} {L : List Int} (hn : n ≤ 8) (t : TabP f (2 ^ n) L) :
    rev_column_normal L (n : Int) = some ((monos (mob f n) n (2 ^ n)).mergeSort monLe) := by
  have hN : 2 ^ n ≤ 256 := Nat.pow_le_pow_right (n := 2) (by decide) hn
  obtain ⟨r, h1, h2⟩ := outer_ok hn t
  unfold rev_column_normal
  rw [h1, bnd_val, ok0, bnd_val, pow_i hn]
  have h3 : iter (fun s : Int × List (List Int) => rev_column_normal.c100013 (n : Int) ((2 ^ n : Nat) : Int) (Prod.fst s) (Prod.snd r) (Prod.snd s) some) ((0 : Int), []) = some (((2 ^ n : Nat) : Int), monos (mob f n) n (2 ^ n)) := by
    refine iter_count (2 ^ n) (fun k => ((k : Int), monos (mob f n) n k)) _ ?_ ?_ rfl
    · intro k hk
      show rev_column_normal.c100013 (n : Int) ((2 ^ n : Nat) : Int) (k : Int) r.2 (monos (mob f n) n k) some = _
      unfold rev_column_normal.c100013 rev_column_normal.c257377
      have i1 : inR r.2.length (k : Int) = some () := by rw [h2.1]; exact inR_at (by omega)
      have := monos_len (mob f n) n k
      have ok : okIf (decide (((monos (mob f n) n k).length + (1 : Nat)) * (24 : Nat) ≤ (140737488355328 : Nat)) && decide ((monos (mob f n) n k).length + (1 : Nat) ≤ (140737488355328 : Nat))) = some () := okIf_len (by omega)
      rw [br_pos (by omega), ok256 (by omega), bnd_val, i1, bnd_val, h2.2 k hk, bnd_val, bI_zero, bits_ok hn (by omega), monos_succ]
      cases hb : mob f n k with
      | true => rw [br_false (by rfl), bnd_val, ok, bnd_val, bnd_val, wrap_i64 (by omega), if_pos rfl]; rfl
      | false => rw [br_true (by rfl), bnd_val, wrap_i64 (by omega), if_neg (by decide)]; rfl
    · show rev_column_normal.c100013 (n : Int) ((2 ^ n : Nat) : Int) ((2 ^ n : Nat) : Int) r.2 (monos (mob f n) n (2 ^ n)) some = _
      unfold rev_column_normal.c100013
      rw [br_neg (by omega)]
  rw [h3, bnd_val, slices_SortFunc_int.is, if_pos (by have := monos_len (mob f n) n (2 ^ n); show (monos (mob f n) n (2 ^ n)).length < _; omega)]
  rfl
theorem rev_Normal_ok (n : Int) (e : Ex) (hc : cnt e < 4611686018427387904) (h : (CheckA n e).1 = 0) :
    rev_Normal e n = some ((monos (mob (fun x => tv x e) n.toNat) n.toNat (2 ^ n.toNat)).mergeSort monLe, 0, 0) := by
  obtain ⟨_, hn, hg, he⟩ := CheckA_good h
  obtain ⟨k, rfl⟩ := Int.eq_ofNat_of_zero_le hn.1
  rw [Int.toNat_natCast]
  have hN : 2 ^ k ≤ 256 := Nat.pow_le_pow_right (n := 2) (by decide) (by omega : k ≤ 8)
  unfold rev_Normal
  rw [Rose_eta]
  refine bnd_of (rev_Check_ok k e hc) ?_
  refine (br_false (by simpa using h)).trans ?_
  refine bnd_of (rev_table_ok k hn e hg) ?_
  rw [Int.toNat_natCast]
  exact bnd_of (column_ok (by omega) (tabL_TabP _ hN)) rfl
end W
end

section
set_option linter.unusedSectionVars false
set_option linter.unusedVariables false
set_option maxHeartbeats 1000000
namespace W
open Go Go.Ql
theorem inandi64 {a b : Nat} (ha : a < 2 ^ 63) (hb : b < 2 ^ 63) : ibits .andNot .i64 (a : Int) (b : Int) = ((nand a b : Nat) : Int) := by
  show IntKind.i64.wrap (((BitVec.ofInt 64 (a : Int) &&& ~~~ BitVec.ofInt 64 (b : Int)).toNat : Nat) : Int) = _
  simp only [bv_ofInt_nat]
  have e : (BitVec.ofNat 64 a &&& ~~~ BitVec.ofNat 64 b).toNat = nand a b := by
    apply Nat.eq_of_testBit_eq
    intro j
    rw [nand_bit, ← BitVec.getLsbD, BitVec.getLsbD_and, BitVec.getLsbD_not, BitVec.getLsbD_ofNat, BitVec.getLsbD_ofNat]
    by_cases hj : j < 64
    · simp [hj]
    · rw [Nat.testBit_lt_two_pow (Nat.lt_of_lt_of_le ha (Nat.pow_le_pow_right (by decide) (by omega)) : a < 2 ^ j)]
      simp
  rw [e, wrap_i64]
  have := nand_le a b
  omega
def cnF (f : Nat → Bool) : Nat → Nat
  | 0 => 0
  | k + 1 => cnF f k + (f k).toNat
theorem cnF_le (f : Nat → Bool) : ∀ k, cnF f k ≤ k
  | 0 => Nat.le_refl 0
  | k + 1 => by
    have := cnF_le f k
    rw [cnF]
    cases f k <;> simp <;> omega
def rmonos (g : Nat → Bool) (n k : Nat) : List (List Int) := (List.range k).flatMap fun s => (subs n s 0).filter fun m => g (nm m)
end W
end

section
set_option linter.unusedSectionVars false
set_option linter.unusedVariables false
set_option maxHeartbeats 1000000
namespace W
open Go Go.Ql
theorem monLe_iff {a b : List Int} : monLe a b = true ↔ cmpZ a b ≤ 0 := by
  have := cmpZ_anti a b
  unfold monLe Go.Proofs.ltOf
  simp only [Bool.not_eq_true', decide_eq_false_iff_not]
  omega
theorem sorted_monos (l : List (List Int)) : (l.mergeSort monLe).Pairwise fun a b => cmpZ a b ≤ 0 := by
  have h := List.pairwise_mergeSort (le := monLe) (fun a b c h k => monLe_iff.2 (cmpZ_trans (monLe_iff.1 h) (monLe_iff.1 k))) (fun a b => by
    by_cases h : cmpZ a b ≤ 0
    · simp [monLe_iff.2 h]
    · have := cmpZ_anti a b
      simp [monLe_iff.2 (by omega : cmpZ b a ≤ 0)]) l
  exact h.imp fun h => monLe_iff.1 h
theorem cmpZ_tr {a b c : List Int} (h : cmpZ a b < 0) (k : cmpZ b c < 0) : cmpZ a c < 0 := by
  have h1 := cmpZ_trans (by omega : cmpZ a b ≤ 0) (by omega : cmpZ b c ≤ 0)
  by_cases e : cmpZ a c = 0
  · rw [cmpZ_zero e, cmpZ_anti b c] at h; omega
  · omega
theorem cmpZ_len {a b : List Int} (h : a.length < b.length) : cmpZ a b < 0 := by
  have := cmpI_lt.2 (by omega : (a.length : Int) < (b.length : Int))
  unfold cmpZ
  rw [if_neg (by omega)]
  exact this
theorem cmpZ_cons {a b : Int} {l m : List Int} (hl : l.length = m.length) (h : a < b ∨ a = b ∧ cmpZ l m < 0) : cmpZ (a :: l) (b :: m) < 0 := by
  have e : cmpZ (a :: l) (b :: m) = if cmpI a b = 0 then cmpL l m else cmpI a b := by
    rw [cmpZ, if_pos (cmpI_zero.2 (by rw [List.length_cons, List.length_cons, hl])), cmpL]
  rw [e]
  rcases h with h | ⟨rfl, h⟩
  · have := cmpI_lt.2 h
    rw [if_neg (by omega)]; exact this
  · rw [if_pos (cmpI_zero.2 rfl)]
    rwa [cmpZ, if_pos (cmpI_zero.2 (by rw [hl]))] at h
theorem subs_sorted (n : Nat) : ∀ (s v : Nat), (subs n s v).Pairwise fun a b => cmpZ a b < 0
  | 0, v => List.pairwise_singleton _ _
  | s + 1, v => by
    rw [subs, List.pairwise_flatMap]
    refine ⟨fun u _ => ?_, ?_⟩
    · rw [List.pairwise_map]
      refine (subs_sorted n s (u + 1)).imp_of_mem fun {a b} ha hb h => cmpZ_cons ?_ (.inr ⟨rfl, h⟩)
      rw [(subs_mem.1 ha).1, (subs_mem.1 hb).1]
    · refine (List.pairwise_lt_range' (s := v) (n := n - v)).imp fun {u w} h a ha b hb => ?_
      obtain ⟨a', h1, rfl⟩ := List.mem_map.1 ha
      obtain ⟨b', h2, rfl⟩ := List.mem_map.1 hb
      exact cmpZ_cons (by rw [(subs_mem.1 h1).1, (subs_mem.1 h2).1]) (.inl (by omega))
theorem rmonos_sorted (g : Nat → Bool) (n k : Nat) : (rmonos g n k).Pairwise fun a b => cmpZ a b < 0 := by
  rw [rmonos, List.pairwise_flatMap]
  refine ⟨fun s _ => (subs_sorted n s 0).filter _, List.pairwise_lt_range.imp fun {s t} h a ha b hb => cmpZ_len ?_⟩
  rw [(subs_mem.1 (List.mem_filter.1 ha).1).1, (subs_mem.1 (List.mem_filter.1 hb).1).1]
  exact h
theorem monos_mem {g : Nat → Bool} {n : Nat} {m : List Int} : m ∈ monos g n (2 ^ n) ↔ Inc 0 n m ∧ g (nm m) = true := by
  unfold monos
  rw [List.mem_map]
  constructor
  · rintro ⟨x, h, rfl⟩
    rw [List.mem_filter, List.mem_range] at h
    exact ⟨bL_Inc x n, by rw [nm_bL h.1]; exact h.2⟩
  · rintro ⟨h1, h2⟩
    exact ⟨nm m, List.mem_filter.2 ⟨List.mem_range.2 ((nm_bit h1).2.1 (Nat.zero_le _)), h2⟩, bL_nm h1⟩
theorem rmonos_mem {g : Nat → Bool} {n : Nat} {m : List Int} : m ∈ rmonos g n (n + 1) ↔ Inc 0 n m ∧ g (nm m) = true := by
  unfold rmonos
  rw [List.mem_flatMap]
  constructor
  · rintro ⟨s, h, hm⟩
    rw [List.mem_filter] at hm
    exact ⟨(subs_mem.1 hm.1).2, hm.2⟩
  · rintro ⟨h1, h2⟩
    have : m.length ≤ n := by rw [← bL_nm h1]; exact bL_len _ _
    exact ⟨m.length, List.mem_range.2 (by omega), List.mem_filter.2 ⟨subs_mem.2 ⟨rfl, h1⟩, h2⟩⟩
theorem monos_nodup (g : Nat → Bool) (n : Nat) : (monos g n (2 ^ n)).Nodup := by
  unfold monos List.Nodup
  rw [List.pairwise_map]
  refine (List.Pairwise.filter g List.nodup_range).imp_of_mem fun {x y} hx hy h e => h ?_
  have hx := List.mem_range.1 (List.mem_filter.1 hx).1
  have hy := List.mem_range.1 (List.mem_filter.1 hy).1
  rw [← nm_bL hx, ← nm_bL hy, e]
theorem sorted_eq (g : Nat → Bool) (n : Nat) : (monos g n (2 ^ n)).mergeSort monLe = rmonos g n (n + 1) := by
  refine ext_inc (lt := fun a b => cmpZ a b < 0) (fun a h => by rw [cmpZ_self] at h; exact absurd h (by decide)) (fun a b c => cmpZ_tr) ?_ (rmonos_sorted g n (n + 1)) fun m => ?_
  · have h1 := sorted_monos (monos g n (2 ^ n))
    have h2 : ((monos g n (2 ^ n)).mergeSort monLe).Nodup := (List.mergeSort_perm _ _).nodup_iff.2 (monos_nodup g n)
    exact h1.imp₂ (fun a b h h' => by
      have : cmpZ a b ≠ 0 := fun e => h' (cmpZ_zero e)
      omega) h2
  · rw [List.mem_mergeSort, monos_mem, rmonos_mem]
def nf (n : Nat) (e : Ex) : List (List Int) := rmonos (mob (fun x => tv x e) n) n (n + 1)
theorem rev_Normal_nf (n : Int) (e : Ex) (hc : cnt e < 4611686018427387904) (h : (CheckA n e).1 = 0) : rev_Normal e n = some (nf n.toNat e, 0, 0) := by
  rw [rev_Normal_ok n e hc h, sorted_eq]; rfl
end W
end

section
set_option linter.unusedSectionVars false
set_option linter.unusedVariables false
set_option maxHeartbeats 1000000
namespace W
open Go.Ql
open Go hiding Op
def allB (x : Nat) (l : List Int) : Bool := l.all fun q => x.testBit q.toNat
def stepX (o : Op) (x : Nat) : Nat := if allB x o.2.2.1 = true then x ^^^ 2 ^ o.2.2.2.1.toNat else x
def playR : Nat → List Op → Nat → Int × Int × Int
  | _, [], x => ((x : Int), 0, 0)
  | i, o :: r, x => if o.1 ≠ 2 ∨ o.2.2.2.2.2 ≠ [] then (0, 8, (i : Int)) else playR (i + 1) r (stepX o x)
def playA (c : Cir) (x : Int) : Int × Int × Int :=
  if (chk c).1 ≠ 0 then (0, chk c) else if x < 0 ∨ ((2 ^ c.1.toNat : Nat) : Int) ≤ x then (0, 18, 0) else playR 0 c.2.2 x.toNat
theorem pow_12 {q : Int} (h : 0 ≤ q ∧ q ≤ 12) : IntKind.i64.wrap ((1 : Int) * (2 : Int) ^ Min.min (Int.toNat q) (64 : Nat)) = ((2 ^ q.toNat : Nat) : Int) := by
  have : q = 0 ∨ q = 1 ∨ q = 2 ∨ q = 3 ∨ q = 4 ∨ q = 5 ∨ q = 6 ∨ q = 7 ∨ q = 8 ∨ q = 9 ∨ q = 10 ∨ q = 11 ∨ q = 12 := by omega
  rcases this with rfl | rfl | rfl | rfl | rfl | rfl | rfl | rfl | rfl | rfl | rfl | rfl | rfl <;> decide
theorem p12 {k : Nat} (h : k ≤ 12) : 2 ^ k ≤ 4096 := Nat.pow_le_pow_right (n := 2) (by decide) h
theorem stepX_lt {o : Op} {x k : Nat} (hx : x < 2 ^ k) (hq : o.2.2.2.1.toNat < k) : stepX o x < 2 ^ k := by
  unfold stepX
  split
  · exact Nat.xor_lt_two_pow hx (Nat.pow_lt_pow_right (by decide) hq)
  · exact hx
theorem xor_step {x : Nat} {q : Int} (hx : x < 4096) (hq : 0 ≤ q ∧ q < 12) :
    ibits BinOp.xor IntKind.i64 (x : Int) (IntKind.i64.wrap ((1 : Int) * (2 : Int) ^ Min.min (Int.toNat q) (64 : Nat))) = ((x ^^^ 2 ^ q.toNat : Nat) : Int) := by
  rw [pow_12 ⟨hq.1, by omega⟩]
  have := p12 (k := q.toNat) (by omega)
  exact ixori64 (by omega) (by omega)
theorem allOne_ok {x : Nat} (hx : x < 4096) (l : List Int) (hl : l.length ≤ 17592186043904) (hr : ∀ q ∈ l, 0 ≤ q ∧ q < 12) : R_allOne (x : Int) l = some (allB x l) := by
  unfold R_allOne
  have key : ∃ r, iter (fun s : Int => R_allOne.c100002 (x : Int) l s some) (0 : Int) = some r ∧ sel r (fun _ => some false) (fun _ => some true) = some (allB x l) := by
    refine iter_each (l := l) (fun pre r s => s = (pre.length : Int) ∧ allB x l = allB x r) _ ?_ ?_ ⟨rfl, rfl⟩
    · rintro pre q r s hl' ⟨rfl, he⟩
      have hq := hr q (by rw [hl']; simp)
      have hlt : pre.length < l.length := by rw [hl']; simp
      have hg : idx l (pre.length : Int) = some q := by rw [hl']; exact idx_mid
      have e : allB x (q :: r) = (x.testBit q.toNat && allB x r) := rfl
      unfold R_allOne.c100002
      rw [br_pos (by omega), hg, bnd_val, bitOf_bI (by omega) (by omega), bnd_val, bI_zero]
      cases hb : x.testBit q.toNat with
      | true =>
        refine .inl ⟨((pre ++ [q]).length : Int), ?_, rfl, by rw [he, e, hb]; rfl⟩
        rw [br_false (by rfl), wrap_i64 (by omega)]
        simp
      | false =>
        refine .inr ⟨.inl (pre.length : Int), by rw [br_true (by rfl)], ?_⟩
        rw [sel_inl, he, e, hb]; rfl
    · rintro s ⟨rfl, he⟩
      refine ⟨.inr (l.length : Int), ?_, by rw [sel_inr, he]; rfl⟩
      unfold R_allOne.c100002
      rw [br_neg (by omega)]
  obtain ⟨r, h1, h2⟩ := key
  rw [h1, bnd_val]; exact h2
theorem goodOp {c : Cir} (h : GoodC c) {o : Op} (ho : o ∈ c.2.2) : (0 ≤ o.2.2.2.1 ∧ o.2.2.2.1 < 12 ∧ o.2.2.2.1 < c.1) ∧ (∀ q ∈ o.2.2.1, 0 ≤ q ∧ q < 12) := by
  have g := goodOp_of (h.ops o ho)
  have hq := h.q
  refine ⟨⟨g.q.1, by have := g.q.2; omega, g.q.2⟩, fun q hq' => ?_⟩
  have := (ctlBad_zero.1 g.ctls).1 q hq'
  omega
def om (a : Nat) (l : List Int) : Nat := l.foldl (fun a q => a ||| 2 ^ q.toNat) a
theorem om_snoc (a : Nat) (l : List Int) (q : Int) : om a (l ++ [q]) = om a l ||| 2 ^ q.toNat := by rw [om, List.foldl_append]; rfl
theorem om_bit : ∀ (l : List Int) (a j : Nat), (om a l).testBit j = (a.testBit j || l.any fun q => decide (q.toNat = j))
  | [], a, j => by simp [om]
  | q :: l, a, j => by
    rw [show om a (q :: l) = om (a ||| 2 ^ q.toNat) l from rfl, om_bit l, Nat.testBit_or, Nat.testBit_two_pow, List.any_cons, Bool.or_assoc]
theorem om_lt {k : Nat} : ∀ (l : List Int) (a : Nat), a < 2 ^ k → (∀ q ∈ l, q.toNat < k) → om a l < 2 ^ k
  | [], a, h, _ => h
  | q :: l, a, h, hl => om_lt l _ (Nat.or_lt_two_pow h (Nat.pow_lt_pow_right (by decide) (hl q (List.mem_cons_self ..)))) fun r hr => hl r (List.mem_cons_of_mem _ hr)
theorem om_all (x : Nat) (l : List Int) : (x &&& om 0 l = om 0 l) ↔ allB x l = true := by
  unfold allB
  rw [List.all_eq_true]
  constructor
  · intro h q hq
    have := congrArg (·.testBit q.toNat) h
    simp only [Nat.testBit_and, om_bit, Nat.zero_testBit, Bool.false_or] at this
    have hany : (l.any fun r => decide (r.toNat = q.toNat)) = true := List.any_eq_true.2 ⟨q, hq, by simp⟩
    rw [hany, Bool.and_true] at this
    exact this
  · intro h
    apply Nat.eq_of_testBit_eq
    intro j
    rw [Nat.testBit_and, om_bit, Nat.zero_testBit, Bool.false_or]
    cases hany : l.any fun q => decide (q.toNat = j) with
    | false => simp
    | true =>
      obtain ⟨q, hq, e⟩ := List.any_eq_true.1 hany
      rw [← of_decide_eq_true e, h q hq]; rfl
theorem om_iter (l : List Int) (hl : l.length ≤ 17592186043904) (hr : ∀ q ∈ l, 0 ≤ q ∧ q < 12) :
    iter (fun s : Int × Int => rev_Play.c100013 (Prod.fst s) l (l.length : Int) (Prod.snd s) some) ((0 : Int), (0 : Int)) = some ((om 0 l : Int), (l.length : Int)) := by
  have key : ∃ r, iter (fun s : Int × Int => rev_Play.c100013 (Prod.fst s) l (l.length : Int) (Prod.snd s) some) ((0 : Int), (0 : Int)) = some r ∧ r = ((om 0 l : Int), (l.length : Int)) := by
    refine iter_each (l := l) (fun pre r s => s = ((om 0 pre : Int), (pre.length : Int))) _ ?_ ?_ rfl
    · rintro pre q r s hl' rfl
      have hq := hr q (by rw [hl']; simp)
      have hg : idx l (pre.length : Int) = some q := by rw [hl']; exact idx_mid
      have hlt : pre.length < l.length := by rw [hl']; simp
      have ho := om_lt (k := 12) pre 0 (by decide) fun r hr' => by have := hr r (by rw [hl']; simp [hr']); omega
      have h12 := p12 (k := q.toNat) (by omega)
      refine .inl ⟨((om 0 (pre ++ [q]) : Int), ((pre ++ [q]).length : Int)), ?_, rfl⟩
      show rev_Play.c100013 (om 0 pre : Int) l (l.length : Int) (pre.length : Int) some = _
      unfold rev_Play.c100013
      rw [br_pos (by omega), hg, bnd_val, okIf_true (decide_eq_true hq.1), bnd_val, pow_12 ⟨hq.1, by omega⟩, iori64 (by omega) (by omega), wrap_i64 (by omega), om_snoc]
      simp
    · rintro s rfl
      refine ⟨((om 0 l : Int), (l.length : Int)), ?_, rfl⟩
      show rev_Play.c100013 (om 0 l : Int) l (l.length : Int) (l.length : Int) some = _
      unfold rev_Play.c100013
      rw [br_neg (by omega)]
  obtain ⟨r, h1, rfl⟩ := key
  exact h1
theorem opStep_ok {ops : List Op} {i : Nat} (hi : i < ops.length) {x : Nat} (hx : x < 4096) (ho : WOp ops[i]) (hq : 0 ≤ (ops[i]).2.2.2.1 ∧ (ops[i]).2.2.2.1 < 12) (hr : ∀ q ∈ (ops[i]).2.2.1, 0 ≤ q ∧ q < 12) :
    rev_Play.c232803 (x : Int) ops (i : Int) some = some (if (ops[i]).1 ≠ 2 ∨ (ops[i]).2.2.2.2.2 ≠ [] then .inl (8, (i : Int)) else .inr (stepX ops[i] x : Int)) := by
  unfold rev_Play.c232803
  rw [idx_get hi, bnd_val]
  have h9 : rev_Play.c9 (ops[i]).1 (ops[i]).2.2.2.2.2 some = some (decide ((ops[i]).1 ≠ 2 ∨ (ops[i]).2.2.2.2.2 ≠ [])) := by
    unfold rev_Play.c9
    rw [br_or]
    refine some_dec ?_
    rw [Bool.or_eq_true, decide_eq_true_eq, bne_iff_ne]
    have : ((((ops[i]).2.2.2.2.2).length : Int) > 0) ↔ (ops[i]).2.2.2.2.2 ≠ [] := by
      rw [ne_eq, ← List.length_eq_zero_iff]; omega
    rw [this]
  have h9' := h9
  rw [h9', bnd_val]
  by_cases h : (ops[i]).1 ≠ 2 ∨ (ops[i]).2.2.2.2.2 ≠ []
  · rw [br_pos h, if_pos h]; rfl
  · rw [br_neg h, if_neg h, om_iter _ ho.1 hr, bnd_val]
    have hom := om_lt (k := 12) (ops[i]).2.2.1 0 (by decide) fun r hr' => by have := hr r hr'; omega
    have e : (ibits BinOp.and IntKind.i64 (x : Int) (om 0 (ops[i]).2.2.1 : Int) == (om 0 (ops[i]).2.2.1 : Int)) = allB x (ops[i]).2.2.1 := by
      rw [iandi64 (by omega) (by omega), Bool.eq_iff_iff, beq_iff_eq, ← om_all]
      omega
    have xs := xor_step hx hq
    unfold stepX
    show br (ibits BinOp.and IntKind.i64 (x : Int) (om 0 (ops[i]).2.2.1 : Int) == (om 0 (ops[i]).2.2.1 : Int)) _ _ = _
    rw [e]
    cases hb : allB x (ops[i]).2.2.1 with
    | true => rw [br_tt, okIf_true (decide_eq_true hq.1), bnd_val, xs]; rfl
    | false => rfl
theorem rstep_ok {ops : List Op} {i : Nat} (hi : i < ops.length) {x : Nat} (hx : x < 4096) (ho : WOp ops[i]) (hq : 0 ≤ (ops[i]).2.2.2.1 ∧ (ops[i]).2.2.2.1 < 12) (hr : ∀ q ∈ (ops[i]).2.2.1, 0 ≤ q ∧ q < 12) :
    R_Classical.c236878 (x : Int) (i : Int) ops some = some (if (ops[i]).1 ≠ 2 ∨ (ops[i]).2.2.2.2.2 ≠ [] then .inl (8, (i : Int)) else .inr (stepX ops[i] x : Int)) := by
  unfold R_Classical.c236878
  have h9 : R_Classical.c9 (i : Int) ops some = some (decide ((ops[i]).1 ≠ 2 ∨ (ops[i]).2.2.2.2.2 ≠ [])) := by
    unfold R_Classical.c9
    simp only [idx_get hi, bnd_val]
    rw [br_or]
    refine some_dec ?_
    rw [Bool.or_eq_true, decide_eq_true_eq, bne_iff_ne]
    have : ((((ops[i]).2.2.2.2.2).length : Int) > 0) ↔ (ops[i]).2.2.2.2.2 ≠ [] := by
      rw [ne_eq, ← List.length_eq_zero_iff]; omega
    rw [this]
  rw [h9, bnd_val]
  by_cases h : (ops[i]).1 ≠ 2 ∨ (ops[i]).2.2.2.2.2 ≠ []
  · rw [br_pos h, if_pos h]; rfl
  · rw [br_neg h, if_neg h]
    have xs := xor_step hx hq
    simp only [idx_get hi, bnd_val]
    rw [allOne_ok hx _ ho.1 hr, bnd_val]
    unfold stepX
    cases hb : allB x (ops[i]).2.2.1 with
    | true => rw [br_tt, okIf_true (decide_eq_true hq.1), bnd_val, xs]; rfl
    | false => rfl
theorem rev_Play_ok (c : Cir) (x : Int) (hc : WCir c) : rev_Play c x = some (playA c x) := by
  unfold rev_Play playA
  refine bnd_of (check_ok c hc) ?_
  by_cases h : (chk c).1 ≠ 0
  · rw [br_true (by simpa using h), if_pos h]; rfl
  rw [br_false (by simpa using h), if_neg h]
  have h0 : (chk c).1 = 0 := by simpa using h
  obtain ⟨g, he⟩ := good_of h0
  have hq := g.q
  have p := p12 (k := c.1.toNat) (by omega)
  have h4 : rev_Play.c4 x c.1 some = some (decide (x < 0 ∨ ((2 ^ c.1.toNat : Nat) : Int) ≤ x)) := by
    unfold rev_Play.c4
    rw [okIf_true (decide_eq_true (by omega)), bnd_val, pow_12 (by omega), br_or]
    refine some_dec ?_
    simp
  rw [h4, bnd_val]
  by_cases hx : x < 0 ∨ ((2 ^ c.1.toNat : Nat) : Int) ≤ x
  · rw [br_pos hx, if_pos hx]; rfl
  rw [br_neg hx, if_neg hx]
  obtain ⟨x0, rfl⟩ := Int.eq_ofNat_of_zero_le (by omega : 0 ≤ x)
  rw [Int.toNat_natCast]
  have key : ∃ r, iter (fun s : Int × Int => rev_Play.c100007 (Prod.fst s) (Prod.snd (Prod.snd c)) ((c.2.2).length : Int) (Prod.snd s) some) ((x0 : Int), (0 : Int)) = some r ∧
      sel r (fun u => some ((0 : Int), Prod.fst (Prod.snd (Prod.snd u)), Prod.snd (Prod.snd (Prod.snd u)))) (fun v => some (Prod.fst v, (0 : Int), (0 : Int))) = some (playR 0 c.2.2 x0) := by
    refine iter_each (l := c.2.2) (fun pre r s => ∃ x : Nat, s = ((x : Int), (pre.length : Int)) ∧ x < 2 ^ c.1.toNat ∧ playR 0 c.2.2 x0 = playR pre.length r x) _ ?_ ?_ ⟨x0, rfl, by omega, rfl⟩
    · rintro pre o r s hl ⟨x, rfl, hx, hp⟩
      have hlt : pre.length < c.2.2.length := by rw [hl]; simp
      have hn := g.n
      have hoi : (c.2.2)[pre.length] = o := by
        have := idx_mid (pre := pre) (a := o) (r := r)
        rw [← hl, idx_get hlt] at this
        exact Option.some.inj this
      have ho : o ∈ c.2.2 := by rw [hl]; simp
      have gq := goodOp g ho
      have hs := opStep_ok hlt (x := x) (by omega) (hoi ▸ hc.2 o ho) (by rw [hoi]; exact ⟨gq.1.1, gq.1.2.1⟩) (by rw [hoi]; exact gq.2)
      rw [hoi] at hs
      rw [playR] at hp
      show (∃ s', rev_Play.c100007 (x : Int) c.2.2 (c.2.2.length : Int) (pre.length : Int) some = _ ∧ _) ∨ ∃ y, rev_Play.c100007 (x : Int) c.2.2 (c.2.2.length : Int) (pre.length : Int) some = _ ∧ _
      unfold rev_Play.c100007
      rw [br_pos (by omega), hs, bnd_val]
      by_cases hb : o.1 ≠ 2 ∨ o.2.2.2.2.2 ≠ []
      · rw [if_pos hb] at hp ⊢
        refine .inr ⟨_, sel_inl, ?_⟩
        rw [sel_inl, hp]
      · rw [if_neg hb] at hp ⊢
        refine .inl ⟨_, sel_inr, stepX o x, ?_, stepX_lt hx (by have := gq.1; omega), by rw [hp]; simp⟩
        rw [wrap_i64 (by omega)]; simp
    · rintro s ⟨x, rfl, hx, hp⟩
      refine ⟨.inr ((x : Int), (c.2.2.length : Int)), ?_, by rw [sel_inr, hp]; rfl⟩
      show rev_Play.c100007 (x : Int) c.2.2 (c.2.2.length : Int) (c.2.2.length : Int) some = _
      unfold rev_Play.c100007
      rw [br_neg (by omega)]
  obtain ⟨r, h1, h2⟩ := key
  exact bnd_of h1 h2
theorem R_Classical_ok (c : Cir) (x : Int) (hc : WCir c) : R_Classical c x = some (playA c x) := by
  unfold R_Classical playA
  refine bnd_of (rcheck_ok c hc) ?_
  by_cases h : (chk c).1 ≠ 0
  · rw [br_true (by simpa using h), if_pos h]; rfl
  rw [br_false (by simpa using h), if_neg h]
  have h0 : (chk c).1 = 0 := by simpa using h
  obtain ⟨g, he⟩ := good_of h0
  have hq := g.q
  have p := p12 (k := c.1.toNat) (by omega)
  have h4 : R_Classical.c4 x c.1 some = some (decide (x < 0 ∨ ((2 ^ c.1.toNat : Nat) : Int) ≤ x)) := by
    unfold R_Classical.c4
    rw [okIf_true (decide_eq_true (by omega)), bnd_val, pow_12 (by omega), br_or]
    refine some_dec ?_
    simp
  rw [h4, bnd_val]
  by_cases hx : x < 0 ∨ ((2 ^ c.1.toNat : Nat) : Int) ≤ x
  · rw [br_pos hx, if_pos hx]; rfl
  rw [br_neg hx, if_neg hx, he]
  obtain ⟨x0, rfl⟩ := Int.eq_ofNat_of_zero_le (by omega : 0 ≤ x)
  rw [Int.toNat_natCast]
  have key : ∃ r, iter (fun s : Int × Int => R_Classical.c100007 (Prod.fst s) (Prod.snd s) (Prod.snd (Prod.snd c)) some) ((x0 : Int), (0 : Int)) = some r ∧
      sel r (fun u => some ((0 : Int), Prod.fst (Prod.snd (Prod.snd u)), Prod.snd (Prod.snd (Prod.snd u)))) (fun v => bnd (R_Classical.c13 some) fun _ => some (Prod.fst v, (0 : Int), (0 : Int))) = some (playR 0 c.2.2 x0) := by
    refine iter_each (l := c.2.2) (fun pre r s => ∃ x : Nat, s = ((x : Int), (pre.length : Int)) ∧ x < 2 ^ c.1.toNat ∧ playR 0 c.2.2 x0 = playR pre.length r x) _ ?_ ?_ ⟨x0, rfl, by omega, rfl⟩
    · rintro pre o r s hl ⟨x, rfl, hx, hp⟩
      have hlt : pre.length < c.2.2.length := by rw [hl]; simp
      have hn := g.n
      have hoi : (c.2.2)[pre.length] = o := by
        have := idx_mid (pre := pre) (a := o) (r := r)
        rw [← hl, idx_get hlt] at this
        exact Option.some.inj this
      have ho : o ∈ c.2.2 := by rw [hl]; simp
      have gq := goodOp g ho
      have hs := rstep_ok hlt (x := x) (by omega) (hoi ▸ hc.2 o ho) (by rw [hoi]; exact ⟨gq.1.1, gq.1.2.1⟩) (by rw [hoi]; exact gq.2)
      rw [hoi] at hs
      rw [playR] at hp
      show (∃ s', R_Classical.c100007 (x : Int) (pre.length : Int) c.2.2 some = _ ∧ _) ∨ ∃ y, R_Classical.c100007 (x : Int) (pre.length : Int) c.2.2 some = _ ∧ _
      unfold R_Classical.c100007
      rw [br_pos (by omega), hs, bnd_val]
      by_cases hb : o.1 ≠ 2 ∨ o.2.2.2.2.2 ≠ []
      · rw [if_pos hb] at hp ⊢
        refine .inr ⟨_, sel_inl, ?_⟩
        rw [sel_inl, hp]
      · rw [if_neg hb] at hp ⊢
        refine .inl ⟨_, sel_inr, stepX o x, ?_, stepX_lt hx (by have := gq.1; omega), by rw [hp]; simp⟩
        rw [wrap_i64 (by omega)]; simp
    · rintro s ⟨x, rfl, hx, hp⟩
      refine ⟨.inr ((x : Int), (c.2.2.length : Int)), ?_, by rw [sel_inr, hp]; rfl⟩
      show R_Classical.c100007 (x : Int) (c.2.2.length : Int) c.2.2 some = _
      unfold R_Classical.c100007
      rw [br_neg (by omega)]
  obtain ⟨r, h1, h2⟩ := key
  exact bnd_of h1 h2
def Xs (l : List Op) : Prop := ∀ o ∈ l, o.1 = 2 ∧ o.2.2.2.2.2 = []
def runX (l : List Op) (x : Nat) : Nat := l.foldl (fun x o => stepX o x) x
theorem playR_run : ∀ {l : List Op} {i x : Nat}, Xs l → playR i l x = ((runX l x : Int), 0, 0)
  | [], _, _, _ => rfl
  | o :: r, i, x, h => by
    have ho := h o (List.mem_cons_self ..)
    rw [playR, if_neg (by simp [ho.1, ho.2]), playR_run fun p hp => h p (List.mem_cons_of_mem _ hp)]
    rfl
theorem playA_run {c : Cir} (g : GoodC c) (hX : Xs c.2.2) {x : Nat} (hx : x < 2 ^ c.1.toNat) : playA c x = ((runX c.2.2 x : Int), 0, 0) := by
  unfold playA
  rw [g.chk, if_neg (by simp), if_neg (by omega), Int.toNat_natCast, playR_run hX]
end W
end

section
set_option linter.unusedSectionVars false
set_option linter.unusedVariables false
set_option maxHeartbeats 1000000
namespace W
open Go.Ql
open Go hiding Op
def tr (i : Nat) (g : Nat → Bool) (x : Nat) : Bool := if x.testBit i = true then (g x != g (x ^^^ 2 ^ i)) else g x
theorem xor_xor (x a : Nat) : x ^^^ a ^^^ a = x := by rw [Nat.xor_assoc, Nat.xor_self, Nat.xor_zero]
def lx {α : Type} (p : α → Bool) : List α → Bool
  | [] => false
  | a :: l => p a != lx p l
theorem lx_app {α : Type} (p : α → Bool) (m : List α) : ∀ l, lx p (l ++ m) = (lx p l != lx p m)
  | [] => by rw [List.nil_append, lx]; cases lx p m <;> rfl
  | a :: l => by rw [List.cons_append, lx, lx, lx_app p m l]; cases p a <;> cases lx p l <;> cases lx p m <;> rfl
theorem tv_congr (n : Int) {x y : Nat} (hxy : ∀ j : Nat, (j : Int) < n → x.testBit j = y.testBit j) : ∀ (m : Nat) (e : Ex), sizeOf e ≤ m → Good1 n e → tv x e = tv y e
  | 0, e, h, _ => absurd (size_pos e) (by omega)
  | m + 1, .mk (k, v) ks, h, hg => by
    obtain ⟨hk, hl, hv⟩ := hg.root
    rw [tv_eq, tv_eq]
    have e : tvs x ks = tvs y ks := by
      rw [tvs_map, tvs_map]
      refine List.map_congr_left fun z hz => tv_congr n hxy m z (by have := size_kid (e := .mk (k, v) ks) hz; omega) (hg.kid hz)
    rw [e]
    unfold tvOf
    by_cases h1 : k = 1
    · have := hv h1
      rw [if_pos h1, if_pos h1]
      exact hxy v.toNat (by omega)
    · rw [if_neg h1, if_neg h1]
def opF (n : Int) (m : List Int) : Op := (2, 0, m, n, 0, [])
theorem okOps {l : List Op} (h : l.length ≤ 100000) : okIf (decide ((l.length + (1 : Nat)) * (80 : Nat) ≤ (140737488355328 : Nat)) && decide (l.length + (1 : Nat) ≤ (140737488355328 : Nat))) = some () := okIf_len (by omega)
theorem opF_bad {q N : Int} {ctl : List Int} (hq : 0 ≤ q ∧ q < N) (hc : ∀ c ∈ ctl, 0 ≤ c ∧ c < N ∧ c ≠ q) (hn : ctl.Nodup) : opBad (opF q ctl) N 0 = 0 := by
  refine GoodOp.bad (o := opF q ctl) (qn := N) (bn := 0) { kind := ?_, k := ?_, k0 := ?_, q := hq, q0 := ?_, ctl := .inr (.inl rfl), ctls := ?_, bit := ?_, ifs := ?_, cond := ?_ }
  · show (1 : Int) ≤ 2 ∧ (2 : Int) ≤ 6; decide
  · show (0 : Int) ≤ 0 ∧ (0 : Int) ≤ 15; decide
  · exact .inr rfl
  · intro h
    have h : (2 : Int) = 1 := h
    cases h
  · show ctlBad q N [] ctl = 0
    rw [ctlBad_zero]
    refine ⟨fun c h => ?_, hn⟩
    have := hc c h
    exact ⟨this.1, this.2.1, this.2.2, by simp⟩
  · refine .inr ⟨?_, rfl⟩
    show (2 : Int) ≠ 5; decide
  · show ([] : List Int).length ≤ 24; decide
  · rintro ⟨v, hv, _⟩; cases hv
end W
end
