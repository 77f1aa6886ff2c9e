/- Plain laws: circuits checked; words of letters; codes checked. -/
import Derived.Test.YtjlbeiadpdgchaaWc
import Derived.Test.YtjlbeiadpdgchaaPa
import Derived.Test.YtjlbeiadpdgchaaGa
set_option linter.all false
section
section
namespace Go.Ql
abbrev Op := Int × Int × List Int × Int × Int × List Int
abbrev Cir := Int × Int × List Op
def WOp (o : Op) : Prop := o.2.2.1.length ≤ 17592186043904 ∧ o.2.2.2.2.2.length ≤ 17592186043904
def WCir (c : Cir) : Prop := c.2.2.length ≤ 1759218604390 ∧ ∀ o ∈ c.2.2, WOp o
def ctlBad (q0 qn : Int) : List Int → List Int → Int
  | _, [] => 0
  | pre, q :: r => if q < 0 ∨ qn ≤ q then 10 else if q = q0 ∨ q ∈ pre then 12 else ctlBad q0 qn (pre ++ [q]) r
def ifBad (bn : Int) (l : List Int) : Prop := ∃ v ∈ l, v = 0 ∨ bn < v ∨ v < -bn
instance (bn : Int) (l : List Int) : Decidable (ifBad bn l) := by unfold ifBad; infer_instance
def opBad (o : Op) (qn bn : Int) : Int :=
  if o.1 < 1 ∨ 6 < o.1 then 8
  else if o.2.1 < 0 ∨ 15 < o.2.1 ∨ (¬ (o.1 = 1 ∨ o.1 = 4) ∧ o.2.1 ≠ 0) then 9
  else if o.2.2.2.1 < 0 ∨ qn ≤ o.2.2.2.1 ∨ (o.1 = 1 ∧ o.2.2.2.1 ≠ 0) then 10
  else if o.2.2.1 ≠ [] ∧ ¬ (o.1 = 2 ∨ o.1 = 3 ∨ o.1 = 4) then 11
  else if ctlBad o.2.2.2.1 qn [] o.2.2.1 ≠ 0 then ctlBad o.2.2.2.1 qn [] o.2.2.1
  else if (o.1 = 5 ∧ (o.2.2.2.2.1 < 0 ∨ bn ≤ o.2.2.2.2.1)) ∨ (o.1 ≠ 5 ∧ o.2.2.2.2.1 ≠ 0) then 13
  else if 24 < o.2.2.2.2.2.length then 14
  else if ifBad bn o.2.2.2.2.2 then 14 else 0
theorem one_c1 (k : Int) : W.circ_one.c1 k some = some (decide (k < 1 ∨ 6 < k)) := by
  simp only [W.circ_one.c1, br_or]; exact some_dec (by simp)
theorem turns_ok (k : Int) : W.circ_turns k = some (decide (k = 1 ∨ k = 4)) := by
  simp only [W.circ_turns, W.circ_turns.c1, br_or, bnd_val]; exact some_dec (by simp)
theorem gate_ok (k : Int) : W.circ_gate k = some (decide (k = 2 ∨ k = 3 ∨ k = 4)) := by
  simp only [W.circ_gate, W.circ_gate.c1, br_or, bnd_val]; exact some_dec (by simp)
theorem one_c3 (k a : Int) : W.circ_one.c3 k a some = some (decide (a < 0 ∨ 15 < a ∨ (¬ (k = 1 ∨ k = 4) ∧ a ≠ 0))) := by
  simp only [W.circ_one.c3, turns_ok, br_or, br_and, bnd_val]; exact some_dec (by simp)
theorem one_c5 (k q qn : Int) : W.circ_one.c5 k q qn some = some (decide (q < 0 ∨ qn ≤ q ∨ (k = 1 ∧ q ≠ 0))) := by
  simp only [W.circ_one.c5, br_or, br_and]; exact some_dec (by simp)
theorem one_c7 (k : Int) (l : List Int) : W.circ_one.c7 k l some = some (decide (l ≠ [] ∧ ¬ (k = 2 ∨ k = 3 ∨ k = 4))) := by
  simp only [W.circ_one.c7, gate_ok, br_or, br_and, bnd_val]; exact some_dec (by cases l <;> simp)
theorem one_c14 (q qn : Int) : W.circ_one.c14 q qn some = some (decide (q < 0 ∨ qn ≤ q)) := by
  simp only [W.circ_one.c14, br_or]; exact some_dec (by simp)
theorem one_c20 (k b bn : Int) : W.circ_one.c20 k b bn some = some (decide ((k = 5 ∧ (b < 0 ∨ bn ≤ b)) ∨ (k ≠ 5 ∧ b ≠ 0))) := by
  by_cases hk : k = 5
  · subst hk
    simp only [W.circ_one.c20, beq_self_eq_true, bne_self_eq_false, br_tt, br_ff, br_or]; exact some_dec (by simp)
  · simp only [W.circ_one.c20, beq_eq_false_iff_ne.2 hk, bne_iff_ne.2 hk, br_tt, br_ff]; exact some_dec (by simp [hk])
theorem one_c27 (v bn : Int) (h : 0 ≤ bn ∧ bn ≤ 12) : W.circ_one.c27 v bn some = some (decide (v = 0 ∨ bn < v ∨ v < -bn)) := by
  simp only [W.circ_one.c27, br_or]
  rw [wrap_i64 (by omega)]
  exact some_dec (by simp)
theorem one_ctl (q0 qn : Int) (h0 : 0 ≤ q0 ∧ q0 < 12) (hn : qn ≤ 12) (l : List Int) (hl : l.length ≤ 17592186043904) :
    ∃ r, iter (fun s : Int × List Bool ↦ W.circ_one.c100012 l (l.length : Int) s.1 s.2 qn some) ((0 : Int), List.set (List.replicate 12 false) q0.toNat true) = some r ∧
      ((∃ u v, r = .inl (ctlBad q0 qn [] l, u, v) ∧ ctlBad q0 qn [] l ≠ 0) ∨ ∃ u, r = .inr u ∧ ctlBad q0 qn [] l = 0) := by
  refine iter_each (l := l) (fun pre r s => s.1 = (pre.length : Int) ∧ s.2.length = 12 ∧ (∀ j : Nat, j < 12 → s.2[j]? = some (decide ((j : Int) = q0 ∨ (j : Int) ∈ pre))) ∧ ctlBad q0 qn [] l = ctlBad q0 qn pre r) _ ?_ ?_ ?_
  · rintro pre a r ⟨i, seen⟩ rfl ⟨rfl, h1, h2, h3⟩
    simp only at h1 h2 ⊢
    simp only [List.length_append, List.length_cons] at hl
    simp only [W.circ_one.c100012, br_if, idx_mid, bnd_val, one_c14]
    rw [if_pos lt_app]
    rw [h3]
    by_cases ha : a < 0 ∨ qn ≤ a
    · rw [if_pos (by simpa using ha)]
      exact .inr ⟨_, rfl, .inl ⟨_, _, by rw [ctlBad, if_pos ha], by rw [ctlBad, if_pos ha]; decide⟩⟩
    · rw [if_neg (by simpa using ha)]
      obtain ⟨n, rfl⟩ := Int.eq_ofNat_of_zero_le (show 0 ≤ a by omega)
      have hn' : n < 12 := by omega
      rw [okIf_true (by simp; omega), inR_at (by omega), idx_at, h2 n hn']
      simp only [bnd_val]
      by_cases hb : (n : Int) = q0 ∨ (n : Int) ∈ pre
      · rw [if_pos (by simpa using hb)]
        exact .inr ⟨_, rfl, .inl ⟨_, _, by rw [ctlBad, if_neg ha, if_pos hb], by rw [ctlBad, if_neg ha, if_pos hb]; decide⟩⟩
      · rw [if_neg (by simpa using hb), wrap_i64 (by omega)]
        refine .inl ⟨_, rfl, by simp, by simp [h1], ?_, ?_⟩
        · intro j hj
          simp only [Int.toNat_natCast]
          rw [List.getElem?_set]
          by_cases hjn : n = j
          · subst hjn; simp [h1, hn']
          · rw [if_neg hjn, h2 j hj]
            simp only [List.mem_append, List.mem_singleton]
            congr 1
            simp only [decide_eq_decide]
            have : (j : Int) ≠ n := by omega
            simp [this]
        · show ctlBad q0 qn pre (_ :: r) = _
          rw [ctlBad, if_neg ha, if_neg hb]
  · rintro ⟨i, seen⟩ ⟨rfl, h1, h2, h3⟩
    simp only [W.circ_one.c100012, br_if]
    rw [if_neg (by simp)]
    exact ⟨_, rfl, .inr ⟨_, rfl, by rw [h3]; rfl⟩⟩
  · refine ⟨rfl, by simp, fun j hj => ?_, rfl⟩
    rw [List.getElem?_set]
    by_cases hq : q0.toNat = j
    · subst hq
      simp
      omega
    · rw [if_neg hq]
      have : (j : Int) ≠ q0 := by omega
      rw [List.getElem?_replicate, if_pos hj]
      simp [this]
theorem one_if (bn : Int) (h : 0 ≤ bn ∧ bn ≤ 12) (l : List Int) (hl : l.length ≤ 17592186043904) :
    ∃ r, iter (fun s : Int ↦ W.circ_one.c100025 l (l.length : Int) s bn some) (0 : Int) = some r ∧
      ((∃ u, r = .inl u ∧ ifBad bn l) ∨ ∃ u, r = .inr u ∧ ¬ ifBad bn l) := by
  refine iter_each (l := l) (fun pre r s => s = (pre.length : Int) ∧ ∀ v ∈ pre, ¬ (v = 0 ∨ bn < v ∨ v < -bn)) _ ?_ ?_ ?_
  · rintro pre a r i rfl ⟨rfl, h1⟩
    simp only [List.length_append, List.length_cons] at hl
    simp only [W.circ_one.c100025, br_if, idx_mid, bnd_val, one_c27 _ _ h]
    rw [if_pos lt_app]
    by_cases ha : a = 0 ∨ bn < a ∨ a < -bn
    · rw [if_pos (by simpa using ha)]
      exact .inr ⟨_, rfl, .inl ⟨_, rfl, a, by simp, ha⟩⟩
    · rw [if_neg (by simpa using ha), wrap_i64 (by omega)]
      refine .inl ⟨_, rfl, by simp, fun v hv => ?_⟩
      rcases List.mem_append.1 hv with hv | hv
      · exact h1 v hv
      · rw [List.mem_singleton.1 hv]; exact ha
  · rintro i ⟨rfl, h1⟩
    simp only [W.circ_one.c100025, br_if]
    rw [if_neg (by simp)]
    exact ⟨_, rfl, .inr ⟨_, rfl, fun ⟨v, hv, hb⟩ => h1 v hv hb⟩⟩
  · exact ⟨rfl, fun v hv => by cases hv⟩
theorem one_ok (o : Op) (qn bn : Int) (ops : List Op) (ho : WOp o) (hq : 1 ≤ qn ∧ qn ≤ 12) (hb : 0 ≤ bn ∧ bn ≤ 12) :
    W.circ_one o qn bn ops = some (opBad o qn bn, qn, bn, ops, ()) := by
  obtain ⟨k, a, ctl, q, bit, cond⟩ := o
  obtain ⟨ho1, ho2⟩ := ho
  simp only at ho1 ho2
  simp only [W.circ_one, one_c1, one_c3, one_c5, one_c7, bnd_val, br_if, opBad, decide_eq_true_eq]
  split
  · rfl
  · split
    · rfl
    · split
      · rfl
      · rename_i h1 h2 h3
        split
        · rfl
        · obtain ⟨n, rfl⟩ := Int.eq_ofNat_of_zero_le (show 0 ≤ q by omega)
          have hn' : n < 12 := by omega
          rw [okIf_true (by simp; omega), inR_at (by simpa using hn'), idx_at]
          simp only [bnd_val, List.getElem?_replicate, hn', if_true]
          obtain ⟨r, hr, hr'⟩ := one_ctl n qn (by omega) hq.2 ctl ho1
          rw [hr, bnd_val]
          rcases hr' with ⟨u, v, rfl, h⟩ | ⟨u, rfl, h⟩
          · rw [sel_inl, if_pos h]
          · rw [sel_inr, if_neg (show ¬ (ctlBad (n : Int) qn [] ctl ≠ 0) by simp [h])]
            simp only [one_c20, bnd_val, decide_eq_true_eq]
            split
            · rfl
            · by_cases h24 : 24 < cond.length
              · rw [if_pos (by omega), if_pos h24]
              · rw [if_neg (by omega), if_neg h24]
                obtain ⟨r, hr, hr'⟩ := one_if bn hb cond ho2
                rw [hr, bnd_val]
                rcases hr' with ⟨u, rfl, h⟩ | ⟨u, rfl, h⟩
                · rw [sel_inl, if_pos h]
                · rw [sel_inr, if_neg h]
end Go.Ql
end

section
namespace Go.Ql
theorem member_ok (l : List Int) (x : Int) (hl : l.length ≤ 17592186043904) : W.R_member l x = some (decide (x ∈ l)) := by
  have h : ∃ r, iter (fun s : Int ↦ W.R_member.c100002 l x s some) (0 : Int) = some r ∧ ((∃ u, r = .inl u ∧ x ∈ l) ∨ ∃ u, r = .inr u ∧ x ∉ l) := by
    refine iter_each (l := l) (fun pre r s => s = (pre.length : Int) ∧ x ∉ pre) _ ?_ ?_ ⟨rfl, by simp⟩
    · rintro pre a r i rfl ⟨rfl, h1⟩
      simp only [List.length_append, List.length_cons] at hl
      simp only [W.R_member.c100002, br_if, idx_mid, bnd_val]
      rw [if_pos lt_app]
      by_cases ha : a = x
      · rw [if_pos (by simpa using ha)]
        exact .inr ⟨_, rfl, .inl ⟨_, rfl, by simp [ha]⟩⟩
      · rw [if_neg (by simpa using ha), wrap_i64 (by omega)]
        exact .inl ⟨_, rfl, by simp, by simp [h1, Ne.symm ha]⟩
    · rintro i ⟨rfl, h1⟩
      simp only [W.R_member.c100002, br_if]
      rw [if_neg (by simp)]
      exact ⟨_, rfl, .inr ⟨_, rfl, h1⟩⟩
  obtain ⟨r, hr, h⟩ := h
  simp only [W.R_member, hr, bnd_val]
  rcases h with ⟨u, rfl, h⟩ | ⟨u, rfl, h⟩
  · simp [sel_inl, h]
  · simp [sel_inr, h]
theorem rbad_c1 (k : Int) : W.R_badOp.c1 k some = some (decide (k < 1 ∨ 6 < k)) := by
  simp only [W.R_badOp.c1, br_or, br_and]; exact some_dec (by simp)
theorem rbad_c3 (k : Int) : W.R_badOp.c3 k some = some (decide (k = 1 ∨ k = 4)) := by
  simp only [W.R_badOp.c3, br_or, br_and]; exact some_dec (by simp)
theorem rbad_c4 (k a : Int) : W.R_badOp.c4 (decide (k = 1 ∨ k = 4)) a some = some (decide (a < 0 ∨ 15 < a ∨ (¬ (k = 1 ∨ k = 4) ∧ a ≠ 0))) := by
  simp only [W.R_badOp.c4, br_or, br_and]; exact some_dec (by simp; omega)
theorem rbad_c6 (k q qn : Int) : W.R_badOp.c6 qn k q some = some (decide (q < 0 ∨ qn ≤ q ∨ (k = 1 ∧ q ≠ 0))) := by
  simp only [W.R_badOp.c6, br_or, br_and]; exact some_dec (by simp; omega)
theorem rbad_c8 (k : Int) (l : List Int) : W.R_badOp.c8 k l some = some (decide (l ≠ [] ∧ ¬ (k = 2 ∨ k = 3 ∨ k = 4))) := by
  simp only [W.R_badOp.c8, br_or, br_and]; exact some_dec (by cases l <;> simp)
theorem rbad_bit (k b bn : Int) : ∃ r, W.R_badOp.c269649 bn k b some = some r ∧ ((r = .inl () ∧ ((k = 5 ∧ (b < 0 ∨ bn ≤ b)) ∨ (k ≠ 5 ∧ b ≠ 0))) ∨ (r = .inr () ∧ ¬ ((k = 5 ∧ (b < 0 ∨ bn ≤ b)) ∨ (k ≠ 5 ∧ b ≠ 0)))) := by
  have h : W.R_badOp.c18 bn b some = some (decide (b < 0 ∨ bn ≤ b)) := by
    simp only [W.R_badOp.c18, br_or]; exact some_dec (by simp)
  by_cases hk : k = 5
  · subst hk
    simp only [W.R_badOp.c269649, beq_self_eq_true, br_tt, h, bnd_val]
    by_cases hb : b < 0 ∨ bn ≤ b
    · rw [br_pos hb]; exact ⟨_, rfl, .inl ⟨rfl, .inl ⟨trivial, hb⟩⟩⟩
    · rw [br_neg hb]; exact ⟨_, rfl, .inr ⟨rfl, by omega⟩⟩
  · simp only [W.R_badOp.c269649, beq_eq_false_iff_ne.2 hk, br_ff]
    by_cases hb : b = 0
    · rw [br_false (by simpa using hb)]; exact ⟨_, rfl, .inr ⟨rfl, by omega⟩⟩
    · rw [br_true (by simpa using hb)]; exact ⟨_, rfl, .inl ⟨rfl, by omega⟩⟩
theorem rbad_ctl (q0 qn : Int) (l : List Int) (hl : l.length ≤ 17592186043904) :
    ∃ r, iter (fun s : Int ↦ W.R_badOp.c100011 qn s l q0 some) (0 : Int) = some r ∧
      ((∃ u, r = .inl (ctlBad q0 qn [] l, u) ∧ ctlBad q0 qn [] l ≠ 0) ∨ ∃ u, r = .inr u ∧ ctlBad q0 qn [] l = 0) := by
  refine iter_each (l := l) (fun pre r s => s = (pre.length : Int) ∧ ctlBad q0 qn [] l = ctlBad q0 qn pre r) _ ?_ ?_ ⟨rfl, rfl⟩
  · rintro pre a r i rfl ⟨rfl, h3⟩
    simp only [List.length_append, List.length_cons] at hl
    have h13 : W.R_badOp.c13 qn (pre.length : Int) (pre ++ a :: r) some = some (decide (a < 0 ∨ qn ≤ a)) := by
      simp only [W.R_badOp.c13, br_or, idx_mid, bnd_val]; exact some_dec (by simp)
    have h15 : W.R_badOp.c15 (pre.length : Int) (pre ++ a :: r) q0 some = some (decide (a = q0 ∨ a ∈ pre)) := by
      simp only [W.R_badOp.c15, idx_mid, bnd_val]
      rw [okIf_true (by simp; omega), bnd_val]
      simp only [Int.toNat_natCast, List.take_left, member_ok _ _ (show pre.length ≤ 17592186043904 by omega), bnd_val, br_or]
      exact some_dec (by simp)
    simp only [W.R_badOp.c100011, br_if, h13, h15, bnd_val]
    rw [if_pos lt_app]
    rw [h3]
    by_cases ha : a < 0 ∨ qn ≤ a
    · rw [if_pos (by simpa using ha)]
      exact .inr ⟨_, rfl, .inl ⟨_, by rw [ctlBad, if_pos ha], by rw [ctlBad, if_pos ha]; decide⟩⟩
    · rw [if_neg (by simpa using ha)]
      by_cases hb : a = q0 ∨ a ∈ pre
      · rw [if_pos (by simpa using hb)]
        exact .inr ⟨_, rfl, .inl ⟨_, by rw [ctlBad, if_neg ha, if_pos hb], by rw [ctlBad, if_neg ha, if_pos hb]; decide⟩⟩
      · rw [if_neg (by simpa using hb), wrap_i64 (by omega)]
        refine .inl ⟨_, rfl, by simp, ?_⟩
        show ctlBad q0 qn pre (_ :: r) = _
        rw [ctlBad, if_neg ha, if_neg hb]
  · rintro i ⟨rfl, h3⟩
    simp only [W.R_badOp.c100011, br_if]
    rw [if_neg (by simp)]
    exact ⟨_, rfl, .inr ⟨_, rfl, by rw [h3]; rfl⟩⟩
theorem rbad_if (bn : Int) (h : 0 ≤ bn ∧ bn ≤ 12) (l : List Int) (hl : l.length ≤ 17592186043904) :
    ∃ r, iter (fun s : Int ↦ W.R_badOp.c100025 bn s l some) (0 : Int) = some r ∧
      ((∃ u, r = .inl u ∧ ifBad bn l) ∨ ∃ u, r = .inr u ∧ ¬ ifBad bn l) := by
  refine iter_each (l := l) (fun pre r s => s = (pre.length : Int) ∧ ∀ v ∈ pre, ¬ (v = 0 ∨ bn < v ∨ v < -bn)) _ ?_ ?_ ⟨rfl, fun v hv => by cases hv⟩
  · rintro pre a r i rfl ⟨rfl, h1⟩
    simp only [List.length_append, List.length_cons] at hl
    have h27 : W.R_badOp.c27 bn (pre.length : Int) (pre ++ a :: r) some = some (decide (a = 0 ∨ bn < a ∨ a < -bn)) := by
      simp only [W.R_badOp.c27, br_or, idx_mid, bnd_val]
      rw [wrap_i64 (by omega)]; exact some_dec (by simp)
    simp only [W.R_badOp.c100025, br_if, h27, bnd_val]
    rw [if_pos lt_app]
    by_cases ha : a = 0 ∨ bn < a ∨ a < -bn
    · rw [if_pos (by simpa using ha)]
      exact .inr ⟨_, rfl, .inl ⟨_, rfl, a, by simp, ha⟩⟩
    · rw [if_neg (by simpa using ha), wrap_i64 (by omega)]
      refine .inl ⟨_, rfl, by simp, fun v hv => ?_⟩
      rcases List.mem_append.1 hv with hv | hv
      · exact h1 v hv
      · rw [List.mem_singleton.1 hv]; exact ha
  · rintro i ⟨rfl, h1⟩
    simp only [W.R_badOp.c100025, br_if]
    rw [if_neg (by simp)]
    exact ⟨_, rfl, .inr ⟨_, rfl, fun ⟨v, hv, hb⟩ => h1 v hv hb⟩⟩
theorem badOp_ok (o : Op) (qn bn : Int) (ho : WOp o) (hb : 0 ≤ bn ∧ bn ≤ 12) : W.R_badOp o qn bn = some (opBad o qn bn) := by
  obtain ⟨k, a, ctl, q, bit, cond⟩ := o
  obtain ⟨ho1, ho2⟩ := ho
  simp only at ho1 ho2
  simp only [W.R_badOp, rbad_c1, rbad_c3, rbad_c4, rbad_c6, rbad_c8, bnd_val, br_if, opBad, decide_eq_true_eq]
  split
  · rfl
  · split
    · rfl
    · split
      · rfl
      · split
        · rfl
        · obtain ⟨r, hr, hr'⟩ := rbad_ctl q qn ctl ho1
          rw [hr, bnd_val]
          rcases hr' with ⟨u, rfl, h⟩ | ⟨u, rfl, h⟩
          · rw [sel_inl, if_pos h]
          · rw [sel_inr, if_neg (show ¬ (ctlBad q qn [] ctl ≠ 0) by simp [h])]
            obtain ⟨r, hr, hr'⟩ := rbad_bit k bit bn
            rw [hr, bnd_val]
            rcases hr' with ⟨rfl, h⟩ | ⟨rfl, h⟩
            · rw [sel_inl, if_pos h]
            · rw [sel_inr, if_neg h]
              by_cases h24 : 24 < cond.length
              · rw [if_pos (by omega), if_pos h24]
              · rw [if_neg (by omega), if_neg h24]
                obtain ⟨r, hr, hr'⟩ := rbad_if bn hb cond ho2
                rw [hr, bnd_val]
                rcases hr' with ⟨u, rfl, h⟩ | ⟨u, rfl, h⟩
                · rw [sel_inl, if_pos h]
                · rw [sel_inr, if_neg h]
def opsBad (qn bn : Int) : Nat → List Op → Int × Int
  | _, [] => (0, 0)
  | i, o :: r => if opBad o qn bn = 0 then opsBad qn bn (i + 1) r else (opBad o qn bn, i)
def chk (c : Cir) : Int × Int :=
  if c.1 < 1 ∨ 12 < c.1 then (6, 0) else if c.2.1 < 0 ∨ 12 < c.2.1 then (7, 0) else if 4096 < c.2.2.length then (2, 0) else opsBad c.1 c.2.1 0 c.2.2
theorem WOp.eta (o : Op) : (o.1, o.2.1, o.2.2.1, o.2.2.2.1, o.2.2.2.2.1, o.2.2.2.2.2) = o := rfl
theorem fault_ok (a b : Int) : W.circ_fault a b = some (a, b) := rfl
theorem rfault_ok (a b : Int) : W.R_rfault a b = some (a, b) := rfl
theorem check_ok (c : Cir) (hc : WCir c) : W.circ_Check c = some (chk c) := by
  obtain ⟨qn, bn, ops⟩ := c
  obtain ⟨hl, hw⟩ := hc
  simp only at hl hw
  simp only [W.circ_Check, W.circ_Check.c1, W.circ_Check.c3, br_if, fault_ok, bnd_val, chk]
  by_cases h1 : qn < 1 ∨ 12 < qn
  · rw [if_pos h1]
    by_cases h : qn < 1
    · simp [h, bnd_val]
    · have : 12 < qn := by omega
      simp [h, this, bnd_val]
  · have h1a : ¬ qn < 1 := by omega
    have h1b : ¬ 12 < qn := by omega
    simp only [h1a, h1b, bnd_val, decide_false, Bool.false_eq_true, if_false, gt_iff_lt, or_self]
    by_cases h2 : bn < 0 ∨ 12 < bn
    · rw [if_pos h2]
      by_cases h : bn < 0
      · simp [h, bnd_val]
      · have : 12 < bn := by omega
        simp [h, this, bnd_val]
    · have h2a : ¬ bn < 0 := by omega
      have h2b : ¬ 12 < bn := by omega
      simp only [h2a, h2b, bnd_val, decide_false, Bool.false_eq_true, if_false, or_self]
      by_cases h3 : 4096 < ops.length
      · rw [if_pos h3, if_pos (by simp; omega)]
      · rw [if_neg h3, if_neg (by simp; omega)]
        have key : ∃ r, iter (fun s : Int × Int × Int × List Op ↦ W.circ_Check.c100008 ops (ops.length : Int) s.1 s.2.1 s.2.2.1 s.2.2.2 some) ((0 : Int), qn, bn, ops) = some r ∧
            ((∃ u, r = .inl u ∧ (u.2.2.2.2.1, u.2.2.2.2.2) = opsBad qn bn 0 ops) ∨ ∃ u, r = .inr u ∧ (0, 0) = opsBad qn bn 0 ops) := by
          refine iter_each (l := ops) (fun pre r s => s = ((pre.length : Int), qn, bn, ops) ∧ opsBad qn bn pre.length r = opsBad qn bn 0 ops) _ ?_ ?_ ⟨rfl, rfl⟩
          · rintro pre o r s rfl ⟨rfl, h4⟩
            simp only [List.length_append, List.length_cons] at hl
            simp only [W.circ_Check.c100008, br_if, idx_mid, bnd_val, WOp.eta, one_ok o qn bn _ (hw o (by simp)) (by omega) (by omega), fault_ok]
            rw [if_pos lt_app]
            rw [opsBad] at h4
            by_cases ho : opBad o qn bn = 0
            · rw [if_pos ho] at h4
              rw [if_neg (by simp [ho]), wrap_i64 (by omega)]
              exact .inl ⟨_, rfl, by simp, by simpa using h4⟩
            · rw [if_neg ho] at h4
              rw [if_pos (by simp [ho])]
              exact .inr ⟨_, rfl, .inl ⟨_, rfl, h4⟩⟩
          · rintro s ⟨rfl, h4⟩
            simp only [W.circ_Check.c100008, br_if]
            rw [if_neg (by simp)]
            exact ⟨_, rfl, .inr ⟨_, rfl, h4⟩⟩
        obtain ⟨r, hr, h⟩ := key
        rw [hr, bnd_val]
        rcases h with ⟨u, rfl, h⟩ | ⟨u, rfl, h⟩
        · rw [sel_inl, ← h]
        · rw [sel_inr, ← h]
theorem rcheck_ok (c : Cir) (hc : WCir c) : W.R_Check c = some (chk c) := by
  obtain ⟨qn, bn, ops⟩ := c
  obtain ⟨hl, hw⟩ := hc
  simp only at hl hw
  simp only [W.R_Check, W.R_Check.c1, W.R_Check.c3, br_if, rfault_ok, bnd_val, chk]
  by_cases h1 : qn < 1 ∨ 12 < qn
  · rw [if_pos h1]
    by_cases h : qn < 1
    · simp [h, bnd_val]
    · have : 12 < qn := by omega
      simp [h, this, bnd_val]
  · have h1a : ¬ qn < 1 := by omega
    have h1b : ¬ 12 < qn := by omega
    simp only [h1a, h1b, bnd_val, decide_false, Bool.false_eq_true, if_false, gt_iff_lt, or_self]
    by_cases h2 : bn < 0 ∨ 12 < bn
    · rw [if_pos h2]
      by_cases h : bn < 0
      · simp [h, bnd_val]
      · have : 12 < bn := by omega
        simp [h, this, bnd_val]
    · have h2a : ¬ bn < 0 := by omega
      have h2b : ¬ 12 < bn := by omega
      simp only [h2a, h2b, bnd_val, decide_false, Bool.false_eq_true, if_false, or_self]
      by_cases h3 : 4096 < ops.length
      · rw [if_pos h3, if_pos (by simp; omega)]
      · rw [if_neg h3, if_neg (by simp; omega)]
        have key : ∃ r, iter (fun s : Int ↦ W.R_Check.c100008 s qn bn ops some) (0 : Int) = some r ∧
            ((∃ u, r = .inl u ∧ (u.2.1, u.2.2) = opsBad qn bn 0 ops) ∨ ∃ u, r = .inr u ∧ (0, 0) = opsBad qn bn 0 ops) := by
          refine iter_each (l := ops) (fun pre r s => s = (pre.length : Int) ∧ opsBad qn bn pre.length r = opsBad qn bn 0 ops) _ ?_ ?_ ⟨rfl, rfl⟩
          · rintro pre o r s rfl ⟨rfl, h4⟩
            simp only [List.length_append, List.length_cons] at hl
            simp only [W.R_Check.c100008, W.R_Check.c10, br_if, idx_mid, bnd_val, badOp_ok o qn bn (hw o (by simp)) (by omega), rfault_ok]
            rw [if_pos lt_app]
            rw [opsBad] at h4
            by_cases ho : opBad o qn bn = 0
            · rw [if_pos ho] at h4
              rw [if_neg (by simp [ho]), wrap_i64 (by omega)]
              exact .inl ⟨_, rfl, by simp, by simpa using h4⟩
            · rw [if_neg ho] at h4
              rw [if_pos (by simp [ho])]
              exact .inr ⟨_, rfl, .inl ⟨_, rfl, h4⟩⟩
          · rintro s ⟨rfl, h4⟩
            simp only [W.R_Check.c100008, br_if]
            rw [if_neg (by simp)]
            exact ⟨_, rfl, .inr ⟨_, rfl, h4⟩⟩
        obtain ⟨r, hr, h⟩ := key
        rw [hr, bnd_val]
        rcases h with ⟨u, rfl, h⟩ | ⟨u, rfl, h⟩
        · rw [sel_inl, ← h]
        · rw [sel_inr, ← h]
end Go.Ql
end

section
namespace Go.Ql
instance dec3 : DecidableEq (Int × Int × List Int) := inferInstance
instance dec4 : DecidableEq (List Int × Int × Int × List Int) := inferInstance
instance dec6 : DecidableEq Op := instDecidableEqProd
instance decC : DecidableEq Cir := instDecidableEqProd
def notPure : Nat → List Op → Int × Int
  | _, [] => (0, 0)
  | i, o :: r => if o.1 = 5 ∨ o.1 = 6 ∨ o.2.2.2.2.2 ≠ [] then (15, i) else notPure (i + 1) r
def pur (c : Cir) : Int × Int := if (chk c).1 ≠ 0 then chk c else notPure 0 c.2.2
theorem opsBad_zero {qn bn : Int} : ∀ {l : List Op} {i : Nat}, (opsBad qn bn i l).1 = 0 → (∀ o ∈ l, opBad o qn bn = 0) ∧ opsBad qn bn i l = (0, 0)
  | [], _, _ => ⟨(fun _ h => by cases h), rfl⟩
  | o :: l, i, h => by
    rw [opsBad] at h ⊢
    by_cases ho : opBad o qn bn = 0
    · rw [if_pos ho] at h ⊢
      have := opsBad_zero h
      exact ⟨fun o' h' => by
        rcases List.mem_cons.1 h' with rfl | h'
        · exact ho
        · exact this.1 o' h', this.2⟩
    · rw [if_neg ho] at h
      exact absurd h ho
structure GoodC (c : Cir) : Prop where
  q : 1 ≤ c.1 ∧ c.1 ≤ 12
  b : 0 ≤ c.2.1 ∧ c.2.1 ≤ 12
  n : c.2.2.length ≤ 4096
  ops : ∀ o ∈ c.2.2, opBad o c.1 c.2.1 = 0
theorem good_of {c : Cir} (h : (chk c).1 = 0) : GoodC c ∧ chk c = (0, 0) := by
  unfold chk at h ⊢
  by_cases h1 : c.1 < 1 ∨ 12 < c.1
  · rw [if_pos h1] at h; cases h
  · rw [if_neg h1] at h ⊢
    by_cases h2 : c.2.1 < 0 ∨ 12 < c.2.1
    · rw [if_pos h2] at h; cases h
    · rw [if_neg h2] at h ⊢
      by_cases h3 : 4096 < c.2.2.length
      · rw [if_pos h3] at h; cases h
      · rw [if_neg h3] at h ⊢
        have := opsBad_zero h
        exact ⟨⟨by omega, by omega, by omega, this.1⟩, this.2⟩
theorem opsBad_good {qn bn : Int} : ∀ {l : List Op} {i : Nat}, (∀ o ∈ l, opBad o qn bn = 0) → opsBad qn bn i l = (0, 0)
  | [], _, _ => rfl
  | o :: l, i, h => by
    rw [opsBad, if_pos (h o (by simp))]
    exact opsBad_good (fun o' h' => h o' (List.mem_cons_of_mem _ h'))
theorem GoodC.chk {c : Cir} (h : GoodC c) : chk c = (0, 0) := by
  have := h.q; have := h.b; have := h.n
  unfold Ql.chk
  rw [if_neg (by omega), if_neg (by omega), if_neg (by omega)]
  exact opsBad_good h.ops
structure GoodOp (o : Op) (qn bn : Int) : Prop where
  kind : 1 ≤ o.1 ∧ o.1 ≤ 6
  k : 0 ≤ o.2.1 ∧ o.2.1 ≤ 15
  k0 : (o.1 = 1 ∨ o.1 = 4) ∨ o.2.1 = 0
  q : 0 ≤ o.2.2.2.1 ∧ o.2.2.2.1 < qn
  q0 : o.1 = 1 → o.2.2.2.1 = 0
  ctl : o.2.2.1 = [] ∨ (o.1 = 2 ∨ o.1 = 3 ∨ o.1 = 4)
  ctls : ctlBad o.2.2.2.1 qn [] o.2.2.1 = 0
  bit : (o.1 = 5 ∧ 0 ≤ o.2.2.2.2.1 ∧ o.2.2.2.2.1 < bn) ∨ (o.1 ≠ 5 ∧ o.2.2.2.2.1 = 0)
  ifs : o.2.2.2.2.2.length ≤ 24
  cond : ¬ ifBad bn o.2.2.2.2.2
theorem goodOp_of {o : Op} {qn bn : Int} (h : opBad o qn bn = 0) : GoodOp o qn bn := by
  unfold opBad at h
  by_cases h1 : o.1 < 1 ∨ 6 < o.1
  · rw [if_pos h1] at h; cases h
  rw [if_neg h1] at h
  by_cases h2 : o.2.1 < 0 ∨ 15 < o.2.1 ∨ (¬ (o.1 = 1 ∨ o.1 = 4) ∧ o.2.1 ≠ 0)
  · rw [if_pos h2] at h; cases h
  rw [if_neg h2] at h
  by_cases h3 : o.2.2.2.1 < 0 ∨ qn ≤ o.2.2.2.1 ∨ (o.1 = 1 ∧ o.2.2.2.1 ≠ 0)
  · rw [if_pos h3] at h; cases h
  rw [if_neg h3] at h
  by_cases h4 : o.2.2.1 ≠ [] ∧ ¬ (o.1 = 2 ∨ o.1 = 3 ∨ o.1 = 4)
  · rw [if_pos h4] at h; cases h
  rw [if_neg h4] at h
  by_cases h5 : ctlBad o.2.2.2.1 qn [] o.2.2.1 ≠ 0
  · rw [if_pos h5] at h; exact absurd h h5
  rw [if_neg h5] at h
  by_cases h6 : (o.1 = 5 ∧ (o.2.2.2.2.1 < 0 ∨ bn ≤ o.2.2.2.2.1)) ∨ (o.1 ≠ 5 ∧ o.2.2.2.2.1 ≠ 0)
  · rw [if_pos h6] at h; cases h
  rw [if_neg h6] at h
  by_cases h7 : 24 < o.2.2.2.2.2.length
  · rw [if_pos h7] at h; cases h
  rw [if_neg h7] at h
  by_cases h8 : ifBad bn o.2.2.2.2.2
  · rw [if_pos h8] at h; cases h
  exact ⟨by omega, by omega, by omega, by omega, by omega, by by_cases h : o.2.2.1 = [] <;> simp_all; omega, by omega, by omega, by omega, h8⟩
theorem ctlBad_zero {q0 qn : Int} : ∀ {r pre : List Int}, ctlBad q0 qn pre r = 0 ↔ (∀ q ∈ r, 0 ≤ q ∧ q < qn ∧ q ≠ q0 ∧ q ∉ pre) ∧ r.Nodup
  | [], _ => by simp [ctlBad]
  | q :: r, pre => by
    rw [ctlBad]
    by_cases h1 : q < 0 ∨ qn ≤ q
    · rw [if_pos h1]
      constructor
      · intro h; cases h
      · intro h; have := h.1 q (by simp); omega
    · rw [if_neg h1]
      by_cases h2 : q = q0 ∨ q ∈ pre
      · rw [if_pos h2]
        constructor
        · intro h; cases h
        · intro h; have := h.1 q (by simp); rcases h2 with h2 | h2
          · exact absurd h2 this.2.2.1
          · exact absurd h2 this.2.2.2
      · rw [if_neg h2, ctlBad_zero]
        have h1a : 0 ≤ q := by omega
        have h1b : q < qn := by omega
        simp only [not_or] at h2
        simp only [List.mem_cons, forall_eq_or_imp, List.nodup_cons, List.mem_append, List.mem_singleton, not_or]
        constructor
        · rintro ⟨h3, h4⟩
          exact ⟨⟨⟨h1a, h1b, h2.1, h2.2⟩, fun a ha => ⟨(h3 a ha).1, (h3 a ha).2.1, (h3 a ha).2.2.1, (h3 a ha).2.2.2.1⟩⟩, fun hq => (h3 q hq).2.2.2.2.1 rfl, h4⟩
        · rintro ⟨⟨_, h3⟩, h4, h5⟩
          exact ⟨fun a ha => ⟨(h3 a ha).1, (h3 a ha).2.1, (h3 a ha).2.2.1, (h3 a ha).2.2.2, ⟨fun e => h4 (e ▸ ha), by simp⟩⟩, h5⟩

theorem pure_c7 (k : Int) (l : List Int) : W.circ_pure.c7 k l some = some (decide (k = 5 ∨ k = 6 ∨ l ≠ [])) := by
  simp only [W.circ_pure.c7, br_or]; exact some_dec (by cases l <;> simp)
theorem pure_ok (c : Cir) (hc : WCir c) : W.circ_pure c = some (pur c) := by
  obtain ⟨qn, bn, ops⟩ := c
  have hl := hc.1
  simp only at hl
  simp only [W.circ_pure, check_ok _ hc, bnd_val, br_if, pur]
  by_cases h1 : (chk (qn, bn, ops)).1 = 0
  · rw [if_neg (by simp [h1]), if_neg (by simp [h1])]
    have key : ∃ r, iter (fun s : Int ↦ W.circ_pure.c100005 ops (ops.length : Int) s some) (0 : Int) = some r ∧
        ((∃ u, r = .inl u ∧ (u.2.1, u.2.2) = notPure 0 ops) ∨ ∃ u, r = .inr u ∧ (0, 0) = notPure 0 ops) := by
      refine iter_each (l := ops) (fun pre r s => s = (pre.length : Int) ∧ notPure pre.length r = notPure 0 ops) _ ?_ ?_ ⟨rfl, rfl⟩
      · rintro pre o r s rfl ⟨rfl, h4⟩
        simp only [List.length_append, List.length_cons] at hl
        simp only [W.circ_pure.c100005, br_if, idx_mid, bnd_val, pure_c7, fault_ok]
        rw [if_pos lt_app]
        rw [notPure] at h4
        by_cases ho : o.1 = 5 ∨ o.1 = 6 ∨ o.2.2.2.2.2 ≠ []
        · rw [if_pos ho] at h4
          rw [if_pos (by simpa using ho)]
          exact .inr ⟨_, rfl, .inl ⟨_, rfl, h4⟩⟩
        · rw [if_neg ho] at h4
          rw [if_neg (by simpa using ho), wrap_i64 (by omega)]
          exact .inl ⟨_, rfl, by simp, by simpa using h4⟩
      · rintro s ⟨rfl, h4⟩
        simp only [W.circ_pure.c100005, br_if]
        rw [if_neg (by simp)]
        exact ⟨_, rfl, .inr ⟨_, rfl, h4⟩⟩
    obtain ⟨r, hr, h⟩ := key
    rw [hr, bnd_val]
    rcases h with ⟨u, rfl, h⟩ | ⟨u, rfl, h⟩
    · rw [sel_inl, ← h]
    · rw [sel_inr, ← h]
  · rw [if_pos (by simp [h1]), if_pos (by simp [h1])]
theorem rpure_ok (c : Cir) (hc : WCir c) : W.R_Pure c = some (pur c) := by
  obtain ⟨qn, bn, ops⟩ := c
  have hl := hc.1
  simp only at hl
  simp only [W.R_Pure, rcheck_ok _ hc, bnd_val, br_if, pur]
  by_cases h1 : (chk (qn, bn, ops)).1 = 0
  · obtain ⟨hg, h0⟩ := good_of h1
    rw [if_neg (by simp [h1]), if_neg (by simp [h1])]
    have key : ∃ r, iter (fun s : Int ↦ W.R_Pure.c100005 s ops some) (0 : Int) = some r ∧
        ((∃ u, r = .inl u ∧ (u.2.1, u.2.2) = notPure 0 ops) ∨ ∃ u, r = .inr u ∧ (0, 0) = notPure 0 ops) := by
      refine iter_each (l := ops) (fun pre r s => s = (pre.length : Int) ∧ notPure pre.length r = notPure 0 ops) _ ?_ ?_ ⟨rfl, rfl⟩
      · rintro pre o r s rfl ⟨rfl, h4⟩
        simp only [List.length_append, List.length_cons] at hl
        have hk := (goodOp_of (hg.ops o (by simp))).kind
        have h7 : W.R_Pure.c7 (pre.length : Int) (pre ++ o :: r) some = some (decide (o.1 = 5 ∨ o.1 = 6 ∨ o.2.2.2.2.2 ≠ [])) := by
          simp only [W.R_Pure.c7, br_if, idx_mid, bnd_val]
          by_cases h5 : 5 ≤ o.1
          · rw [if_pos (by simpa using h5)]
            have : o.1 = 5 ∨ o.1 = 6 := by omega
            rcases this with h | h <;> simp [h]
          · rw [if_neg (by simpa using h5)]
            have h5a : o.1 ≠ 5 := by omega
            have h5b : o.1 ≠ 6 := by omega
            simp only [h5a, h5b, false_or]
            cases o.2.2.2.2.2 <;> simp
        simp only [W.R_Pure.c100005, br_if, h7, bnd_val, rfault_ok]
        rw [if_pos lt_app]
        rw [notPure] at h4
        by_cases ho : o.1 = 5 ∨ o.1 = 6 ∨ o.2.2.2.2.2 ≠ []
        · rw [if_pos ho] at h4
          rw [if_pos (by simpa using ho)]
          exact .inr ⟨_, rfl, .inl ⟨_, rfl, h4⟩⟩
        · rw [if_neg ho] at h4
          rw [if_neg (by simpa using ho), wrap_i64 (by omega)]
          exact .inl ⟨_, rfl, by simp, by simpa using h4⟩
      · rintro s ⟨rfl, h4⟩
        simp only [W.R_Pure.c100005, br_if]
        rw [if_neg (by simp)]
        exact ⟨_, rfl, .inr ⟨_, rfl, h4⟩⟩
    obtain ⟨r, hr, h⟩ := key
    rw [hr, bnd_val]
    rcases h with ⟨u, rfl, h⟩ | ⟨u, rfl, h⟩
    · rw [sel_inl, ← h]
    · rw [sel_inr, ← h, h0]
  · rw [if_pos (by simp [h1]), if_pos (by simp [h1])]

theorem rcopyInts_ok (l : List Int) (hl : l.length ≤ 17592186043904) : W.R_copyInts l = some l := by
  have h : ∃ r, iter (fun s : Int × List Int ↦ W.R_copyInts.c100003 l s.1 s.2 some) ((0 : Int), []) = some r ∧ r.2 = l := by
    refine iter_each (l := l) (fun pre r s => s = ((pre.length : Int), pre)) _ ?_ ?_ rfl
    · rintro pre a r s rfl rfl
      simp only [List.length_append, List.length_cons] at hl
      simp only [W.R_copyInts.c100003, br_if, idx_mid, bnd_val]
      rw [if_pos lt_app, okIf_true (by simp; omega), wrap_i64 (by omega)]
      exact .inl ⟨_, rfl, by simp⟩
    · rintro s rfl
      simp only [W.R_copyInts.c100003, br_if]
      rw [if_neg (by simp)]
      exact ⟨_, rfl, rfl⟩
  obtain ⟨r, hr, h⟩ := h
  simp only [W.R_copyInts, hr, bnd_val, h]
theorem rcopyOp_ok (o : Op) (ho : WOp o) : W.R_copyOp o = some o := by
  simp only [W.R_copyOp, rcopyInts_ok _ ho.1, rcopyInts_ok _ ho.2, bnd_val]
theorem copyCircuit_ok (c : Cir) (hc : WCir c) : W.R_CopyCircuit c = some c := by
  obtain ⟨qn, bn, ops⟩ := c
  obtain ⟨hl, hw⟩ := hc
  simp only at hl hw
  have h : ∃ r, iter (fun s : Int × List Op ↦ W.R_CopyCircuit.c100003 s.1 ops s.2 some) ((0 : Int), []) = some r ∧ r.2 = ops := by
    refine iter_each (l := ops) (fun pre r s => s = ((pre.length : Int), pre)) _ ?_ ?_ rfl
    · rintro pre a r s rfl rfl
      simp only [List.length_append, List.length_cons] at hl
      simp only [W.R_CopyCircuit.c100003, W.R_CopyCircuit.c5, br_if, idx_mid, bnd_val, rcopyOp_ok a (hw a (by simp))]
      rw [if_pos lt_app, okIf_true (by simp; omega), wrap_i64 (by omega)]
      exact .inl ⟨_, rfl, by simp⟩
    · rintro s rfl
      simp only [W.R_CopyCircuit.c100003, br_if]
      rw [if_neg (by simp)]
      exact ⟨_, rfl, rfl⟩
  obtain ⟨r, hr, h⟩ := h
  simp only [W.R_CopyCircuit, hr, bnd_val, h]
end Go.Ql
end

section
namespace Go.Ql
def invOp (o : Op) : Op := (o.1, (16 - o.2.1) % 16, o.2.2.1, o.2.2.2.1, o.2.2.2.2.1, o.2.2.2.2.2)
abbrev nix : Cir := (0, 0, [])
def inv (c : Cir) : Cir := (c.1, c.2.1, (c.2.2.map invOp).reverse)
theorem notPure_zero : ∀ {l : List Op} {i : Nat}, (notPure i l).1 = 0 → (∀ o ∈ l, ¬ (o.1 = 5 ∨ o.1 = 6 ∨ o.2.2.2.2.2 ≠ [])) ∧ notPure i l = (0, 0)
  | [], _, _ => ⟨(fun _ h => by cases h), rfl⟩
  | o :: l, i, h => by
    rw [notPure] at h ⊢
    by_cases ho : o.1 = 5 ∨ o.1 = 6 ∨ o.2.2.2.2.2 ≠ []
    · rw [if_pos ho] at h; cases h
    · rw [if_neg ho] at h ⊢
      have := notPure_zero h
      exact ⟨fun o' h' => by
        rcases List.mem_cons.1 h' with rfl | h'
        · exact ho
        · exact this.1 o' h', this.2⟩
theorem pur_zero {c : Cir} (h : (pur c).1 = 0) : GoodC c ∧ pur c = (0, 0) ∧ ∀ o ∈ c.2.2, ¬ (o.1 = 5 ∨ o.1 = 6 ∨ o.2.2.2.2.2 ≠ []) := by
  unfold pur at h ⊢
  by_cases h1 : (chk c).1 = 0
  · rw [if_neg (by simp [h1])] at h ⊢
    have := notPure_zero h
    exact ⟨(good_of h1).1, this.2, this.1⟩
  · rw [if_pos h1] at h
    exact absurd h h1
theorem WCir.eta (c : Cir) : (c.1, c.2.1, c.2.2) = c := rfl
def base (c : Cir) (n : Int) : List Op := if n < 0 then (inv c).2.2 else c.2.2
def power (c : Cir) (n : Int) : Cir × Int × Int :=
  if (pur c).1 ≠ 0 then (nix, pur c) else if 4096 < n.natAbs * c.2.2.length then (nix, (2, 0)) else ((c.1, c.2.1, (List.replicate n.natAbs (base c n)).flatten), (0, 0))
end Go.Ql
end

section
namespace Go.Ql
end Go.Ql
end

section
namespace Go.Ql
abbrev opTy : Ty := .st (.pair (.int .i64) (.pair (.int .i64) (.pair (.sl (.int .i64)) (.pair (.int .i64) (.pair (.int .i64) (.sl (.int .i64)))))))
abbrev cirTy : Ty := .st (.pair (.int .i64) (.pair (.int .i64) (.sl opTy)))
theorem op_bytes : opTy.bytes = 80 := by decide
theorem int_bytes : (Ty.int .i64).bytes = 8 := by decide
theorem wcir_of {c : Cir} (h : Wf cirTy c) : WCir c := by
  obtain ⟨_, _, h1, _, h2⟩ := h
  refine ⟨?_, fun o ho => ?_⟩
  · rw [op_bytes] at h1
    have : c.2.2.length * 80 ≤ 140737488351232 := h1
    omega
  · obtain ⟨_, _, ⟨h3, _⟩, _, _, h4, _⟩ := h2 o ho
    rw [int_bytes] at h3 h4
    have h3 : o.2.2.1.length * 8 ≤ 140737488351232 := h3
    have h4 : o.2.2.2.2.2.length * 8 ≤ 140737488351232 := h4
    exact ⟨by omega, by omega⟩
end Go.Ql
end
end

section
section
set_option linter.unusedSectionVars false
set_option maxHeartbeats 1000000
namespace Go.Ql
abbrev Tx := List UInt8
abbrev Lt := Bool × Bool
abbrev Wd := List Lt
def dec (u : UInt8) : Lt := (u == 88 || u == 89, u == 90 || u == 89)
def enc : Lt → UInt8
  | (false, false) => 73
  | (true, false) => 88
  | (false, true) => 90
  | (true, true) => 89
def okL (u : UInt8) : Bool := u == 73 || u == 88 || u == 89 || u == 90
theorem okL_iff {u : UInt8} : okL u = true ↔ u = 73 ∨ u = 88 ∨ u = 89 ∨ u = 90 := by simp [okL, or_assoc]
theorem enc_dec {u : UInt8} (h : okL u = true) : enc (dec u) = u := by
  rcases okL_iff.1 h with rfl | rfl | rfl | rfl <;> rfl
theorem ok_enc : ∀ a : Lt, okL (enc a) = true
  | (false, false) => rfl
  | (true, false) => rfl
  | (false, true) => rfl
  | (true, true) => rfl
theorem map_enc_dec {l : Tx} (h : l.all okL = true) : (l.map dec).map enc = l := by
  induction l with
  | nil => rfl
  | cons a l ih =>
    simp only [List.all_cons, Bool.and_eq_true] at h
    simp only [List.map_cons, enc_dec h.1, ih h.2]
theorem all_enc (w : Wd) : (w.map enc).all okL = true := by
  induction w with
  | nil => rfl
  | cons a l ih => simp only [List.map_cons, List.all_cons, ok_enc, ih]; rfl
def xl (w : Wd) : List Bool := w.map (·.1)
def zl (w : Wd) : List Bool := w.map (·.2)
def xs (w : Wd) : Nat := pack (xl w)
def zs (w : Wd) : Nat := pack (zl w)
theorem xs_lt (w : Wd) : xs w < 2 ^ w.length := by simpa [xs, xl] using pack_lt (xl w)
theorem zs_lt (w : Wd) : zs w < 2 ^ w.length := by simpa [zs, zl] using pack_lt (zl w)
theorem xs_snoc (w : Wd) (a : Lt) : xs (w ++ [a]) = xs w + 2 ^ w.length * a.1.toNat := by
  simp [xs, xl, pack_app, pack]
theorem zs_snoc (w : Wd) (a : Lt) : zs (w ++ [a]) = zs w + 2 ^ w.length * a.2.toNat := by
  simp [zs, zl, pack_app, pack]
theorem u8_eq {u : UInt8} (k : Nat) (hk : k < 256) : (((u.toNat : Nat) : Int) == (k : Int)) = (u == UInt8.ofNat k) := by
  rw [Bool.eq_iff_iff]
  simp only [beq_iff_eq]
  constructor
  · intro h
    rw [← Int.ofNat_inj.1 h, UInt8.ofNat_toNat]
  · rintro rfl
    simp [Nat.mod_eq_of_lt hk]
theorem u8_43 {u : UInt8} : (((u.toNat : Nat) : Int) == 43) = (u == 43) := u8_eq 43 (by decide)
theorem u8_45 {u : UInt8} : (((u.toNat : Nat) : Int) == 45) = (u == 45) := u8_eq 45 (by decide)
theorem u8_73 {u : UInt8} : (((u.toNat : Nat) : Int) == 73) = (u == 73) := u8_eq 73 (by decide)
theorem u8_88 {u : UInt8} : (((u.toNat : Nat) : Int) == 88) = (u == 88) := u8_eq 88 (by decide)
theorem u8_89 {u : UInt8} : (((u.toNat : Nat) : Int) == 89) = (u == 89) := u8_eq 89 (by decide)
theorem u8_90 {u : UInt8} : (((u.toNat : Nat) : Int) == 90) = (u == 90) := u8_eq 90 (by decide)
theorem u8_back {u : UInt8} : (((u.toNat : Nat) : Int)).toNat.toUInt8 = u := by
  rw [Int.toNat_natCast]; exact UInt8.ofNat_toNat
theorem bne_not {α : Type} [BEq α] {a b : α} : (a != b) = !(a == b) := rfl

def sgn (s : Tx) : Bool := s.getD 0 0 == 45
def isP (s : Tx) (n : Nat) : Bool := decide (s.length = n + 1) && (s.getD 0 0 == 43 || s.getD 0 0 == 45) && (s.drop 1).all okL
def wd (s : Tx) : Wd := (s.drop 1).map dec
theorem isP_len {s : Tx} {n : Nat} (h : isP s n = true) : s.length = n + 1 ∧ (s.drop 1).length = n ∧ (wd s).length = n ∧ (s.drop 1).all okL = true := by
  simp only [isP, Bool.and_eq_true, decide_eq_true_eq] at h
  refine ⟨h.1.1, ?_, ?_, h.2⟩ <;> simp [wd, h.1.1]
theorem index_letters (c : UInt8) : Lib.indexByte [73, 88, 90, 89] c = if okL c = true then ((dec c).1.toNat : Int) + 2 * ((dec c).2.toNat : Int) else -1 := by
  by_cases h : okL c = true
  · rw [if_pos h]
    rcases okL_iff.1 h with rfl | rfl | rfl | rfl <;> rfl
  · rw [if_neg h]
    simp only [okL_iff, not_or] at h
    obtain ⟨h1, h2, h3, h4⟩ := h
    have g1 : ((73 : UInt8) == c) = false := by simpa using Ne.symm h1
    have g2 : ((88 : UInt8) == c) = false := by simpa using Ne.symm h2
    have g3 : ((89 : UInt8) == c) = false := by simpa using Ne.symm h3
    have g4 : ((90 : UInt8) == c) = false := by simpa using Ne.symm h4
    simp [Lib.indexByte, g1, g2, g3, g4]
theorem bit_or {p q : Nat} (h : p < 2 ^ q) (hq : q < 12) (b : Bool) : ibits BinOp.or IntKind.u64 (p : Int) (IntKind.u64.wrap (IntKind.u64.wrap (b.toNat : Int) * (2 : Int) ^ Min.min (Int.toNat (q : Int)) 64)) = ((p + 2 ^ q * b.toNat : Nat) : Int) := by
  have hq2 : (2 : Nat) ^ q < 2 ^ 12 := Nat.pow_lt_pow_right (by decide) hq
  have e : IntKind.u64.wrap (IntKind.u64.wrap (b.toNat : Int) * (2 : Int) ^ Min.min (Int.toNat (q : Int)) 64) = ((b.toNat * 2 ^ q : Nat) : Int) := by
    rw [Int.toNat_natCast, Nat.min_eq_left (by omega), wrap_u64 (x := (b.toNat : Int)) (by cases b <;> simp), wrap_u64]
    · simp
    · cases b
      · simp
      · simp only [Bool.toNat_true, Int.natCast_one, Int.one_mul]
        have : ((2 : Int) ^ q) = ((2 ^ q : Nat) : Int) := by simp
        omega
  rw [e, ior64 (by omega) (by cases b <;> simp <;> omega), or_high h]
theorem xs_take {w : Wd} {i : Nat} (h : i < w.length) : xs (w.take (i + 1)) = xs (w.take i) + 2 ^ i * (w[i]).1.toNat := by
  rw [List.take_succ_eq_append_getElem h, xs_snoc, List.length_take, Nat.min_eq_left (by omega)]
theorem zs_take {w : Wd} {i : Nat} (h : i < w.length) : zs (w.take (i + 1)) = zs (w.take i) + 2 ^ i * (w[i]).2.toNat := by
  rw [List.take_succ_eq_append_getElem h, zs_snoc, List.length_take, Nat.min_eq_left (by omega)]
def pl (w : Wd) (m : Bool) : Int × Int × Bool := ((xs w : Int), (zs w : Int), m)
theorem bits_of (a b : Bool) : ibits BinOp.and IntKind.i64 ((a.toNat : Int) + 2 * (b.toNat : Int)) 1 = (a.toNat : Int) ∧ Int.fdiv ((a.toNat : Int) + 2 * (b.toNat : Int)) ((2 : Int) ^ 1) = (b.toNat : Int) := by
  cases a <;> cases b <;> decide
theorem tread_ok (s : Tx) (n : Nat) (hn : 1 ≤ n ∧ n ≤ 12) : (isP s n = true ∧ W.tableau_Read s n = some (pl (wd s) (sgn s), true)) ∨ (isP s n = false ∧ ∃ r, W.tableau_Read s n = some (r, false)) := by
  have hc2 : W.tableau_read.c2 s n some = some (!(decide (s.length = n + 1) && (s.getD 0 0 == 43 || s.getD 0 0 == 45))) := by
    simp only [W.tableau_read.c2, wrap_i64 (show -9223372036854775808 ≤ (n : Int) + 1 ∧ (n : Int) + 1 ≤ 9223372036854775807 by omega), br_if]
    by_cases hl : s.length = n + 1
    · rw [if_neg (by simp [hl])]
      cases s with
      | nil => simp at hl
      | cons a s =>
        simp only [show idx (a :: s) 0 = some a from rfl, bnd_val, bne_not, u8_43, u8_45, List.getD_cons_zero, hl, decide_true, Bool.true_and]
        cases a == 43 <;> simp
    · rw [if_pos (by simp; omega)]
      simp [hl]
  unfold W.tableau_Read W.tableau_read
  simp only [hc2, bnd_val, br_if]
  cases hA : (decide (s.length = n + 1) && (s.getD 0 0 == 43 || s.getD 0 0 == 45)) with
  | false =>
    rw [if_pos (by simp)]
    exact .inr ⟨by rw [isP, hA]; rfl, _, rfl⟩
  | true =>
    rw [if_neg (by simp)]
    have hA' := hA
    simp only [Bool.and_eq_true, decide_eq_true_eq] at hA
    have hl := hA.1
    have h0 : idx s 0 = some (s.getD 0 0) := by cases s <;> simp [idx] at hl ⊢
    have hw : (wd s).length = n := by simp [wd, hl]
    have key := iter_first (f := fun s_1 : Int × Int × Int ↦ W.tableau_read.c100006 s n (Prod.fst s_1) (Prod.fst (Prod.snd s_1)) (Prod.snd (Prod.snd s_1)) some)
      (P := fun i st => st = ((i : Int), (xs ((wd s).take i) : Int), (zs ((wd s).take i) : Int))) n (fun i => !okL (s.getD (i + 1) 0)) (X := fun _ _ => True)
      (Q := fun r => r = ((n : Int), (xs (wd s) : Int), (zs (wd s) : Int))) (s := ((0 : Int), (0 : Int), (0 : Int)))
      (by
        intro i st hi hs hp
        subst hs
        have hi' : i + 1 < s.length := by omega
        have hp : okL s[i + 1] = false := by simpa [List.getD, List.getElem?_eq_getElem hi'] using hp
        simp only [W.tableau_read.c100006, br_if]
        rw [if_pos (by simp; omega), wrap_i64 (by omega), show ((i : Int) + 1) = ((i + 1 : Nat) : Int) by omega, idx_get hi', bnd_val]
        simp only [W.strings_IndexByte, u8_back, bnd_val, index_letters, hp]
        exact ⟨_, rfl, trivial⟩)
      (by
        intro i st hi hs hp
        subst hs
        have hi' : i + 1 < s.length := by omega
        have hp : okL s[i + 1] = true := by simpa [List.getD, List.getElem?_eq_getElem hi'] using hp
        have hd : (wd s)[i]'(by omega) = dec s[i + 1] := by simp [wd, Nat.add_comm]
        have hx := xs_lt ((wd s).take i)
        have hz := zs_lt ((wd s).take i)
        rw [List.length_take, hw, Nat.min_eq_left (by omega)] at hx hz
        simp only [W.tableau_read.c100006, br_if]
        rw [if_pos (by simp; omega), wrap_i64 (by omega), show ((i : Int) + 1) = ((i + 1 : Nat) : Int) by omega, idx_get hi', bnd_val]
        simp only [W.strings_IndexByte, u8_back, bnd_val, index_letters, hp, if_true]
        rw [if_neg (by cases (dec s[i + 1]).1 <;> cases (dec s[i + 1]).2 <;> simp), W.tableau_read.c11, W.tableau_read.c12, okIf_true (by simp)]
        simp only [bnd_val]
        rw [(bits_of _ _).1, (bits_of _ _).2, bit_or hx (by omega), bit_or hz (by omega)]
        refine ⟨_, rfl, ?_⟩
        rw [xs_take (by omega), zs_take (by omega), hd])
      (by
        intro st hs
        subst hs
        simp only [W.tableau_read.c100006, br_if]
        rw [if_neg (by simp)]
        refine ⟨_, rfl, ?_⟩
        rw [List.take_of_length_le (by omega)])
      rfl
    rcases key with ⟨i, e, h1, h2, _⟩ | ⟨r, h1, h2, h3⟩
    · right
      rw [h2, h0]
      refine ⟨?_, _, rfl⟩
      obtain ⟨_, g1, g2, _⟩ := fstF_some h1
      rw [isP, hA', Bool.true_and]
      simp only [Bool.not_eq_true'] at g2
      have hi : i + 1 < s.length := by omega
      rw [Bool.eq_false_iff]
      intro hall
      have := List.all_eq_true.1 hall (s[i + 1]) (by rw [List.mem_iff_getElem?]; exact ⟨i, by simp [hi, Nat.add_comm]⟩)
      rw [List.getD, List.getElem?_eq_getElem hi, Option.getD_some] at g2
      rw [this] at g2; cases g2
    · left
      rw [h2, h0, h3]
      refine ⟨?_, ?_⟩
      · rw [isP, hA', Bool.true_and, List.all_eq_true]
        intro u hu
        obtain ⟨i, hi⟩ := List.mem_iff_getElem?.1 hu
        have hi' : i < n := by
          have := (List.getElem?_eq_some_iff.1 hi).1
          simp at this; omega
        have := fstF_none.1 h1 i (by omega) (by omega)
        simp only [Bool.not_eq_false'] at this
        rw [List.getElem?_drop, Nat.add_comm] at hi
        rw [List.getD, hi] at this
        exact this
      · simp only [bnd_val, sel_inr, u8_45]
        rfl
end Go.Ql
end

section
namespace Go.Ql
end Go.Ql
end

section
set_option linter.unusedSectionVars false
set_option maxHeartbeats 1000000
namespace Go.Ql
theorem xl_len (w : Wd) : (xl w).length = w.length := by simp [xl]
theorem zl_len (w : Wd) : (zl w).length = w.length := by simp [zl]
theorem ispauli_ok (s : Tx) (n : Int) (hs : s.length ≤ 140737488355328) (hn : n < 9223372036854775808) :
    W.R_IsPauli s n = some (if (decide (1 ≤ n) && isP s n.toNat) = true then ((sgn s, s.drop 1), true) else ((false, []), false)) := by
  have hc1 : W.R_IsPauli.c1 s n some = some (!(decide (1 ≤ n) && (decide (s.length = n.toNat + 1) && (s.getD 0 0 == 43 || s.getD 0 0 == 45)))) := by
    simp only [W.R_IsPauli.c1, br_if]
    by_cases h1 : n < 1
    · rw [if_pos (by simpa using h1)]
      have : ¬ (1 ≤ n) := by omega
      simp [this]
    · rw [if_neg (by simpa using h1)]
      have h2 : 1 ≤ n := by omega
      have hw : (((s.length : Nat) : Int) != IntKind.i64.wrap (n + 1)) = !decide (s.length = n.toNat + 1) := by
        rw [bne_not]
        congr 1
        rw [Bool.eq_iff_iff]
        simp only [beq_iff_eq, decide_eq_true_eq]
        by_cases hb : n < 9223372036854775807
        · rw [wrap_i64 (by omega)]; omega
        · have : n = 9223372036854775807 := by omega
          subst this
          rw [show IntKind.i64.wrap (9223372036854775807 + 1) = -9223372036854775808 by decide]
          omega
      rw [hw]
      cases hd : decide (s.length = n.toNat + 1) with
      | false => rw [if_pos (by simp)]; simp
      | true =>
        rw [if_neg (by simp)]
        cases s with
        | nil => simp at hd
        | cons a s =>
          simp only [show idx (a :: s) 0 = some a from rfl, bnd_val, bne_not, u8_43, u8_45, List.getD_cons_zero, h2, decide_true, Bool.true_and]
          cases a == 43 <;> simp
  unfold W.R_IsPauli
  simp only [hc1, bnd_val, br_if]
  cases hA : (decide (1 ≤ n) && (decide (s.length = n.toNat + 1) && (s.getD 0 0 == 43 || s.getD 0 0 == 45))) with
  | false =>
    rw [if_pos (by simp), if_neg]
    rw [isP, ← Bool.and_assoc, hA]
    simp
  | true =>
    rw [if_neg (by simp)]
    have hA' := hA
    simp only [Bool.and_eq_true, decide_eq_true_eq] at hA
    obtain ⟨h1, hl, h43⟩ := hA
    obtain ⟨m, rfl⟩ := Int.eq_ofNat_of_zero_le (show 0 ≤ n by omega)
    rw [Int.toNat_natCast] at hl
    have hc6 : ∀ i, i + 1 < s.length → W.R_IsPauli.c6 s ((i + 1 : Nat) : Int) some = some (!okL (s.getD (i + 1) 0)) := by
      intro i hi
      simp only [W.R_IsPauli.c6, idx_get hi, bnd_val, bne_not, u8_73, u8_88, u8_89, u8_90, br_if, okL, List.getD, List.getElem?_eq_getElem hi, Option.getD_some]
      generalize s[i + 1] = u
      cases u == 73 <;> cases u == 88 <;> cases u == 89 <;> simp
    have key := iter_first (f := fun s_1 : Int ↦ W.R_IsPauli.c100004 s (m : Int) s_1 some)
      (P := fun i st => st = ((i + 1 : Nat) : Int)) m (fun i => !okL (s.getD (i + 1) 0)) (X := fun _ _ => True) (Q := fun _ => True) (s := (1 : Int))
      (by
        intro i st hi hs hp
        subst hs
        simp only [W.R_IsPauli.c100004, br_if, hc6 i (by omega), bnd_val]
        rw [if_pos (by simp; omega), if_pos hp]
        exact ⟨_, rfl, trivial⟩)
      (by
        intro i st hi hs hp
        subst hs
        simp only [W.R_IsPauli.c100004, br_if, hc6 i (by omega), bnd_val]
        rw [if_pos (by simp; omega), if_neg (by simpa using hp), wrap_i64 (by omega)]
        exact ⟨_, rfl, by omega⟩)
      (by
        intro st hs
        subst hs
        simp only [W.R_IsPauli.c100004, br_if]
        rw [if_neg (by simp; omega)]
        exact ⟨_, rfl, trivial⟩)
      rfl
    have hall : isP s m = (s.drop 1).all okL := by
      rw [isP, show (decide (s.length = m + 1) && (s.getD 0 0 == 43 || s.getD 0 0 == 45)) = true by simpa [hl] using h43, Bool.true_and]
    rcases key with ⟨i, e, g1, g2, _⟩ | ⟨r, g1, g2, _⟩
    · rw [g2]
      obtain ⟨_, g3, g4, _⟩ := fstF_some g1
      rw [bnd_val, sel_inl, if_neg]
      rw [Int.toNat_natCast, hall]
      intro hh
      simp only [Bool.and_eq_true] at hh
      simp only [Bool.not_eq_true'] at g4
      have hi : i + 1 < s.length := by omega
      have := List.all_eq_true.1 hh.2 (s[i + 1]) (by rw [List.mem_iff_getElem?]; exact ⟨i, by simp [hi, Nat.add_comm]⟩)
      rw [List.getD, List.getElem?_eq_getElem hi, Option.getD_some] at g4
      rw [this] at g4; cases g4
    · rw [g2, bnd_val, sel_inr]
      have h0 : idx s 0 = some (s.getD 0 0) := by cases s <;> simp [idx] at hl ⊢
      have : (s.drop 1).all okL = true := by
        rw [List.all_eq_true]
        intro u hu
        obtain ⟨i, hi⟩ := List.mem_iff_getElem?.1 hu
        have hi' : i < m := by
          have := (List.getElem?_eq_some_iff.1 hi).1
          simp at this; omega
        have := fstF_none.1 g1 i (by omega) (by omega)
        simp only [Bool.not_eq_false'] at this
        rw [List.getElem?_drop, Nat.add_comm] at hi
        rw [List.getD, hi] at this
        exact this
      rw [if_pos (by rw [Int.toNat_natCast, hall, this]; simp; omega)]
      simp only [W.R_IsPauli.c8, h0, bnd_val, u8_45]
      rw [okIf_true (by simp; omega)]
      simp only [bnd_val, sgn, Int.toNat_natCast, List.take_length]
end Go.Ql
end

section
set_option linter.unusedSectionVars false
set_option maxHeartbeats 1000000
namespace Go.Ql
def sp : List Nat → Nat → Bool
  | [], x => x == 0
  | v :: vs, x => sp vs x || sp vs (x ^^^ v)
theorem xx_self (x y : Nat) : x ^^^ y ^^^ y = x := by rw [Nat.xor_assoc, Nat.xor_self, Nat.xor_zero]
def bl (x : Nat) : Nat := if x = 0 then 0 else x.log2 + 1
theorem bl_le {x k : Nat} : bl x ≤ k ↔ x < 2 ^ k := by
  unfold bl
  by_cases h : x = 0
  · subst h; simp; exact Nat.two_pow_pos k
  · rw [if_neg h, ← Nat.log2_lt h]; omega
theorem bl_ge {x k : Nat} (h : bl x = k + 1) : 2 ^ k ≤ x := by
  rcases Nat.lt_or_ge x (2 ^ k) with h1 | h1
  · have := bl_le.2 h1
    omega
  · exact h1
theorem bl_bit {x k : Nat} (h : bl x = k + 1) : x.testBit k = true :=
  Nat.testBit_of_two_pow_le_and_two_pow_add_one_gt (bl_ge h) (bl_le.1 (by omega))
theorem bl_diff {x y : Nat} (h : bl x < bl y) : bl (x ^^^ y) = bl y := by
  obtain ⟨k, hk⟩ : ∃ k, bl y = k + 1 := ⟨bl y - 1, by omega⟩
  have h1 : x < 2 ^ k := bl_le.1 (by omega)
  have h2 : y < 2 ^ (k + 1) := bl_le.1 (by omega)
  have h3 : x ^^^ y < 2 ^ (k + 1) := Nat.xor_lt_two_pow (Nat.lt_of_lt_of_le h1 (Nat.pow_le_pow_right (by decide) (by omega))) h2
  have h4 : (x ^^^ y).testBit k = true := by rw [Nat.testBit_xor, Nat.testBit_lt_two_pow h1, bl_bit hk]; rfl
  have h5 : ¬ bl (x ^^^ y) ≤ k := fun hh => by
    rw [Nat.testBit_lt_two_pow (bl_le.1 hh)] at h4; cases h4
  have := bl_le.2 h3
  omega
def Ech : List Nat → Prop
  | [] => True
  | w :: r => w ≠ 0 ∧ w < 2 ^ 28 ∧ (∀ u ∈ r, bl u ≠ bl w) ∧ Ech r
theorem Ech.snoc : ∀ {es : List Nat} {r : Nat}, Ech es → r ≠ 0 → r < 2 ^ 28 → (∀ w ∈ es, bl w ≠ bl r) → Ech (es ++ [r])
  | [], r, _, h1, h2, _ => ⟨h1, h2, (fun _ h => nomatch h), trivial⟩
  | w :: es, r, h, h1, h2, h3 => ⟨h.1, h.2.1, fun u hu => by
      rcases List.mem_append.1 hu with hu | hu
      · exact h.2.2.1 u hu
      · rw [List.mem_singleton.1 hu]
        exact Ne.symm (h3 w (List.mem_cons_self ..)), h.2.2.2.snoc h1 h2 fun u hu => h3 u (List.mem_cons_of_mem _ hu)⟩
theorem Ech.lead : ∀ {es : List Nat} {x : Nat}, Ech es → sp es x = true → x ≠ 0 → ∃ w ∈ es, bl w = bl x
  | [], x, _, h, hx => by simp [sp] at h; exact absurd h hx
  | w :: es, x, he, h, hx => by
    simp only [sp, Bool.or_eq_true] at h
    rcases h with h | h
    · obtain ⟨u, h1, h2⟩ := Ech.lead he.2.2.2 h hx
      exact ⟨u, List.mem_cons_of_mem _ h1, h2⟩
    · by_cases h0 : x ^^^ w = 0
      · have : x = w := by have := xx_self x w; rw [h0, Nat.zero_xor] at this; exact this.symm
        exact ⟨w, List.mem_cons_self .., by rw [this]⟩
      · obtain ⟨u, h1, h2⟩ := Ech.lead he.2.2.2 h h0
        have h3 := he.2.2.1 u h1
        have hx' : x = (x ^^^ w) ^^^ w := (xx_self x w).symm
        rcases Nat.lt_or_ge (bl (x ^^^ w)) (bl w) with h4 | h4
        · exact ⟨w, List.mem_cons_self .., by rw [hx', bl_diff h4]⟩
        · refine ⟨u, List.mem_cons_of_mem _ h1, ?_⟩
          rw [hx', Nat.xor_comm, bl_diff (by omega), h2]

end Go.Ql
end

section
set_option linter.unusedSectionVars false
set_option maxHeartbeats 1000000
namespace Go.Ql
def mul1 (a b : Lt) : Lt := (a.1 != b.1, a.2 != b.2)
def mul (w v : Wd) : Wd := List.zipWith mul1 w v
def one (n : Nat) : Wd := List.replicate n (false, false)
def txt (w : Wd) : Tx := w.map enc
theorem txt_len (w : Wd) : (txt w).length = w.length := by simp [txt]
theorem txt_ok (w : Wd) : (txt w).all okL = true := all_enc w
end Go.Ql
end

section
set_option linter.unusedSectionVars false
set_option maxHeartbeats 1000000
namespace Go.Ql
theorem getD_of {A : Type} {l : List A} {i : Nat} {d : A} (h : i < l.length) : l.getD i d = l[i] := by
  rw [List.getD, List.getElem?_eq_getElem h, Option.getD_some]
end Go.Ql
end

section
set_option linter.unusedSectionVars false
set_option maxHeartbeats 1000000
namespace Go.Ql
end Go.Ql
end

section
set_option linter.unusedSectionVars false
set_option maxHeartbeats 1000000
namespace Go.Ql
theorem sameTexts_self (a : List Tx) (ha : a.length ≤ 8796093022208) : W.R_SameTexts a a = some true := by
  simp only [W.R_SameTexts, br_if]
  rw [if_neg (by simp), iter_count (s0 := (0 : Int)) a.length (fun k => (k : Int)) (.inr (a.length : Int))]
  · rfl
  · intro i hi
    simp only [W.R_SameTexts.c100004, W.R_SameTexts.c6, br_if, idx_get hi, bnd_val]
    rw [if_pos (by simpa using hi), if_neg (by simp), wrap_i64 (by omega)]
    rfl
  · simp only [W.R_SameTexts.c100004, br_if]
    rw [if_neg (by simp)]
  · rfl
theorem eqT_pair (f g : Int × Int) : Ty.eqT (Ty.pair (Ty.int IntKind.i64) (Ty.int IntKind.i64)) f g = decide (f = g) := by
  obtain ⟨a, b⟩ := f
  obtain ⟨c, d⟩ := g
  rw [Bool.eq_iff_iff]
  simp [Ty.eqT]
theorem isP_txt {s : Tx} {n : Nat} (h : isP s n = true) : s.drop 1 = txt (wd s) := (map_enc_dec (isP_len h).2.2.2).symm
end Go.Ql
end

section
set_option linter.unusedSectionVars false
set_option maxHeartbeats 1000000
namespace Go.Ql
end Go.Ql
end

section
set_option linter.unusedSectionVars false
set_option maxHeartbeats 1000000
namespace Go.Ql
end Go.Ql
end

section
set_option linter.unusedSectionVars false
set_option maxHeartbeats 1000000
namespace Go.Ql
theorem bit_of {l : List Bool} {q : Nat} (h : q < l.length) (hl : l.length ≤ 12) : ibits BinOp.and IntKind.u64 (Int.fdiv (pack l : Int) ((2 : Int) ^ Min.min (Int.toNat (q : Int)) 64)) 1 = ((l[q].toNat : Nat) : Int) := by
  have two : (2 : Nat) ^ l.length ≤ 2 ^ 12 := Nat.pow_le_pow_right (by decide) hl
  have hp := pack_lt l
  have hp2 : pack l < 4096 := by omega
  have hq : pack l / 2 ^ q < 2 ^ 64 := Nat.lt_of_le_of_lt (Nat.div_le_self _ _) (Nat.lt_trans hp2 (by decide))
  have h64 : min q 64 = q := Nat.min_eq_left (by omega)
  rw [Int.toNat_natCast, h64, Int.fdiv_eq_ediv_of_nonneg _ (by exact Int.le_of_lt (Int.pow_pos (by decide))), show ((pack l : Int) / 2 ^ q) = ((pack l / 2 ^ q : Nat) : Int) by simp,
    show (1 : Int) = ((1 : Nat) : Int) from rfl, iand64 hq (by decide), Nat.and_one_is_mod]
  have := pack_bit l q
  rw [Nat.testBit_eq_decide_div_mod_eq, getD_of h] at this
  have h2 := Nat.mod_two_eq_zero_or_one (pack l / 2 ^ q)
  cases hb : l[q] with
  | true => rw [hb, decide_eq_true_eq] at this; rw [this]; rfl
  | false =>
    rw [hb, decide_eq_false_iff_not] at this
    rw [show pack l / 2 ^ q % 2 = 0 by omega]; rfl
theorem letter_bits (a b : Bool) : idx (Array.toList (ByteArray.data (ByteArray.mk #[(73 : UInt8), (88 : UInt8), (90 : UInt8), (89 : UInt8)]))) (ibits BinOp.or IntKind.u64 ((a.toNat : Nat) : Int) (IntKind.u64.wrap (((b.toNat : Nat) : Int) * (2 : Int) ^ (1 : Nat)))) = some (enc (a, b)) := by
  cases a <;> cases b <;> rfl
end Go.Ql
end

section
set_option linter.unusedSectionVars false
set_option maxHeartbeats 1000000
namespace Go.Ql
end Go.Ql
end

section
set_option linter.unusedSectionVars false
set_option maxHeartbeats 1000000
namespace Go.Ql
end Go.Ql
end
end
