/- Plain laws: what is wrong with a circuit; the gates of Base. -/
import Derived.Test.YtbaankfibhmcaaaWb
import Derived.Test.YtbaankfibhmcaaaPa
import Derived.Test.YtbaankfibhmcaaaGa
section
section
namespace Go.Ql
abbrev Op := Int × Int × List Int × Int × Int × List Int
abbrev Cir := Int × Int × List Op
def WOp (o : Op) : Prop := o.2.2.1.length ≤ 17592186043904 ∧ o.2.2.2.2.2.length ≤ 17592186043904
def WCir (c : Cir) : Prop := c.2.2.length ≤ 1759218604390 ∧ ∀ o ∈ c.2.2, WOp o
def ctlBad (q0 qn : Int) : List Int → List Int → Int
  | _, [] => 0
  | pre, q :: r => if q < 0 ∨ qn ≤ q then 10 else if q = q0 ∨ q ∈ pre then 12 else ctlBad q0 qn (pre ++ [q]) r
def ifBad (bn : Int) (l : List Int) : Prop := ∃ v ∈ l, v = 0 ∨ bn < v ∨ v < -bn
instance (bn : Int) (l : List Int) : Decidable (ifBad bn l) := by unfold ifBad; infer_instance
def opBad (o : Op) (qn bn : Int) : Int :=
  if o.1 < 1 ∨ 6 < o.1 then 8
  else if o.2.1 < 0 ∨ 15 < o.2.1 ∨ (¬ (o.1 = 1 ∨ o.1 = 4) ∧ o.2.1 ≠ 0) then 9
  else if o.2.2.2.1 < 0 ∨ qn ≤ o.2.2.2.1 ∨ (o.1 = 1 ∧ o.2.2.2.1 ≠ 0) then 10
  else if o.2.2.1 ≠ [] ∧ ¬ (o.1 = 2 ∨ o.1 = 3 ∨ o.1 = 4) then 11
  else if ctlBad o.2.2.2.1 qn [] o.2.2.1 ≠ 0 then ctlBad o.2.2.2.1 qn [] o.2.2.1
  else if (o.1 = 5 ∧ (o.2.2.2.2.1 < 0 ∨ bn ≤ o.2.2.2.2.1)) ∨ (o.1 ≠ 5 ∧ o.2.2.2.2.1 ≠ 0) then 13
  else if 24 < o.2.2.2.2.2.length then 14
  else if ifBad bn o.2.2.2.2.2 then 14 else 0
theorem one_c1 (k : Int) : W.circ_one.c1 k some = some (decide (k < 1 ∨ 6 < k)) := by
  simp only [W.circ_one.c1, br_or]; exact some_dec (by simp)
theorem turns_ok (k : Int) : W.circ_turns k = some (decide (k = 1 ∨ k = 4)) := by
  simp only [W.circ_turns, W.circ_turns.c1, br_or, bnd_val]; exact some_dec (by simp)
theorem gate_ok (k : Int) : W.circ_gate k = some (decide (k = 2 ∨ k = 3 ∨ k = 4)) := by
  simp only [W.circ_gate, W.circ_gate.c1, br_or, bnd_val]; exact some_dec (by simp)
theorem one_c3 (k a : Int) : W.circ_one.c3 k a some = some (decide (a < 0 ∨ 15 < a ∨ (¬ (k = 1 ∨ k = 4) ∧ a ≠ 0))) := by
  simp only [W.circ_one.c3, turns_ok, br_or, br_and, bnd_val]; exact some_dec (by simp)
theorem one_c5 (k q qn : Int) : W.circ_one.c5 k q qn some = some (decide (q < 0 ∨ qn ≤ q ∨ (k = 1 ∧ q ≠ 0))) := by
  simp only [W.circ_one.c5, br_or, br_and]; exact some_dec (by simp)
theorem one_c7 (k : Int) (l : List Int) : W.circ_one.c7 k l some = some (decide (l ≠ [] ∧ ¬ (k = 2 ∨ k = 3 ∨ k = 4))) := by
  simp only [W.circ_one.c7, gate_ok, br_or, br_and, bnd_val]; exact some_dec (by cases l <;> simp)
theorem one_c14 (q qn : Int) : W.circ_one.c14 q qn some = some (decide (q < 0 ∨ qn ≤ q)) := by
  simp only [W.circ_one.c14, br_or]; exact some_dec (by simp)
theorem one_c20 (k b bn : Int) : W.circ_one.c20 k b bn some = some (decide ((k = 5 ∧ (b < 0 ∨ bn ≤ b)) ∨ (k ≠ 5 ∧ b ≠ 0))) := by
  by_cases hk : k = 5
  · subst hk
    simp only [W.circ_one.c20, beq_self_eq_true, bne_self_eq_false, br_tt, br_ff, br_or]; exact some_dec (by simp)
  · simp only [W.circ_one.c20, beq_eq_false_iff_ne.2 hk, bne_iff_ne.2 hk, br_tt, br_ff]; exact some_dec (by simp [hk])
theorem one_c27 (v bn : Int) (h : 0 ≤ bn ∧ bn ≤ 12) : W.circ_one.c27 v bn some = some (decide (v = 0 ∨ bn < v ∨ v < -bn)) := by
  simp only [W.circ_one.c27, br_or]
  rw [wrap_i64 (by omega)]
  exact some_dec (by simp)
theorem one_ctl (q0 qn : Int) (h0 : 0 ≤ q0 ∧ q0 < 12) (hn : qn ≤ 12) (l : List Int) (hl : l.length ≤ 17592186043904) :
    ∃ r, iter (fun s : Int × List Bool ↦ W.circ_one.c100012 l (l.length : Int) s.1 s.2 qn some) ((0 : Int), List.set (List.replicate 12 false) q0.toNat true) = some r ∧
      ((∃ u v, r = .inl (ctlBad q0 qn [] l, u, v) ∧ ctlBad q0 qn [] l ≠ 0) ∨ ∃ u, r = .inr u ∧ ctlBad q0 qn [] l = 0) := by
  refine iter_each (l := l) (fun pre r s => s.1 = (pre.length : Int) ∧ s.2.length = 12 ∧ (∀ j : Nat, j < 12 → s.2[j]? = some (decide ((j : Int) = q0 ∨ (j : Int) ∈ pre))) ∧ ctlBad q0 qn [] l = ctlBad q0 qn pre r) _ ?_ ?_ ?_
  · rintro pre a r ⟨i, seen⟩ rfl ⟨rfl, h1, h2, h3⟩
    simp only at h1 h2 ⊢
    simp only [List.length_append, List.length_cons] at hl
    simp only [W.circ_one.c100012, br_if, idx_mid, bnd_val, one_c14]
    rw [if_pos lt_app]
    rw [h3]
    by_cases ha : a < 0 ∨ qn ≤ a
    · rw [if_pos (by simpa using ha)]
      exact .inr ⟨_, rfl, .inl ⟨_, _, by rw [ctlBad, if_pos ha], by rw [ctlBad, if_pos ha]; decide⟩⟩
    · rw [if_neg (by simpa using ha)]
      obtain ⟨n, rfl⟩ := Int.eq_ofNat_of_zero_le (show 0 ≤ a by omega)
      have hn' : n < 12 := by omega
      rw [okIf_true (by simp; omega), inR_at (by omega), idx_at, h2 n hn']
      simp only [bnd_val]
      by_cases hb : (n : Int) = q0 ∨ (n : Int) ∈ pre
      · rw [if_pos (by simpa using hb)]
        exact .inr ⟨_, rfl, .inl ⟨_, _, by rw [ctlBad, if_neg ha, if_pos hb], by rw [ctlBad, if_neg ha, if_pos hb]; decide⟩⟩
      · rw [if_neg (by simpa using hb), wrap_i64 (by omega)]
        refine .inl ⟨_, rfl, by simp, by simp [h1], ?_, ?_⟩
        · intro j hj
          simp only [Int.toNat_natCast]
          rw [List.getElem?_set]
          by_cases hjn : n = j
          · subst hjn; simp [h1, hn']
          · rw [if_neg hjn, h2 j hj]
            simp only [List.mem_append, List.mem_singleton]
            congr 1
            simp only [decide_eq_decide]
            have : (j : Int) ≠ n := by omega
            simp [this]
        · show ctlBad q0 qn pre (_ :: r) = _
          rw [ctlBad, if_neg ha, if_neg hb]
  · rintro ⟨i, seen⟩ ⟨rfl, h1, h2, h3⟩
    simp only [W.circ_one.c100012, br_if]
    rw [if_neg (by simp)]
    exact ⟨_, rfl, .inr ⟨_, rfl, by rw [h3]; rfl⟩⟩
  · refine ⟨rfl, by simp, fun j hj => ?_, rfl⟩
    rw [List.getElem?_set]
    by_cases hq : q0.toNat = j
    · subst hq
      simp
      omega
    · rw [if_neg hq]
      have : (j : Int) ≠ q0 := by omega
      rw [List.getElem?_replicate, if_pos hj]
      simp [this]
theorem one_if (bn : Int) (h : 0 ≤ bn ∧ bn ≤ 12) (l : List Int) (hl : l.length ≤ 17592186043904) :
    ∃ r, iter (fun s : Int ↦ W.circ_one.c100025 l (l.length : Int) s bn some) (0 : Int) = some r ∧
      ((∃ u, r = .inl u ∧ ifBad bn l) ∨ ∃ u, r = .inr u ∧ ¬ ifBad bn l) := by
  refine iter_each (l := l) (fun pre r s => s = (pre.length : Int) ∧ ∀ v ∈ pre, ¬ (v = 0 ∨ bn < v ∨ v < -bn)) _ ?_ ?_ ?_
  · rintro pre a r i rfl ⟨rfl, h1⟩
    simp only [List.length_append, List.length_cons] at hl
    simp only [W.circ_one.c100025, br_if, idx_mid, bnd_val, one_c27 _ _ h]
    rw [if_pos lt_app]
    by_cases ha : a = 0 ∨ bn < a ∨ a < -bn
    · rw [if_pos (by simpa using ha)]
      exact .inr ⟨_, rfl, .inl ⟨_, rfl, a, by simp, ha⟩⟩
    · rw [if_neg (by simpa using ha), wrap_i64 (by omega)]
      refine .inl ⟨_, rfl, by simp, fun v hv => ?_⟩
      rcases List.mem_append.1 hv with hv | hv
      · exact h1 v hv
      · rw [List.mem_singleton.1 hv]; exact ha
  · rintro i ⟨rfl, h1⟩
    simp only [W.circ_one.c100025, br_if]
    rw [if_neg (by simp)]
    exact ⟨_, rfl, .inr ⟨_, rfl, fun ⟨v, hv, hb⟩ => h1 v hv hb⟩⟩
  · exact ⟨rfl, fun v hv => by cases hv⟩
theorem one_ok (o : Op) (qn bn : Int) (ops : List Op) (ho : WOp o) (hq : 1 ≤ qn ∧ qn ≤ 12) (hb : 0 ≤ bn ∧ bn ≤ 12) :
    W.circ_one o qn bn ops = some (opBad o qn bn, qn, bn, ops, ()) := by
  obtain ⟨k, a, ctl, q, bit, cond⟩ := o
  obtain ⟨ho1, ho2⟩ := ho
  simp only at ho1 ho2
  simp only [W.circ_one, one_c1, one_c3, one_c5, one_c7, bnd_val, br_if, opBad, decide_eq_true_eq]
  split
  · rfl
  · split
    · rfl
    · split
      · rfl
      · rename_i h1 h2 h3
        split
        · rfl
        · obtain ⟨n, rfl⟩ := Int.eq_ofNat_of_zero_le (show 0 ≤ q by omega)
          have hn' : n < 12 := by omega
          rw [okIf_true (by simp; omega), inR_at (by simpa using hn'), idx_at]
          simp only [bnd_val, List.getElem?_replicate, hn', if_true]
          obtain ⟨r, hr, hr'⟩ := one_ctl n qn (by omega) hq.2 ctl ho1
          rw [hr, bnd_val]
          rcases hr' with ⟨u, v, rfl, h⟩ | ⟨u, rfl, h⟩
          · rw [sel_inl, if_pos h]
          · rw [sel_inr, if_neg (show ¬ (ctlBad (n : Int) qn [] ctl ≠ 0) by simp [h])]
            simp only [one_c20, bnd_val, decide_eq_true_eq]
            split
            · rfl
            · by_cases h24 : 24 < cond.length
              · rw [if_pos (by omega), if_pos h24]
              · rw [if_neg (by omega), if_neg h24]
                obtain ⟨r, hr, hr'⟩ := one_if bn hb cond ho2
                rw [hr, bnd_val]
                rcases hr' with ⟨u, rfl, h⟩ | ⟨u, rfl, h⟩
                · rw [sel_inl, if_pos h]
                · rw [sel_inr, if_neg h]
end Go.Ql
end

section
namespace Go.Ql
theorem member_ok (l : List Int) (x : Int) (hl : l.length ≤ 17592186043904) : W.R_member l x = some (decide (x ∈ l)) := by
  have h : ∃ r, iter (fun s : Int ↦ W.R_member.c100002 l x s some) (0 : Int) = some r ∧ ((∃ u, r = .inl u ∧ x ∈ l) ∨ ∃ u, r = .inr u ∧ x ∉ l) := by
    refine iter_each (l := l) (fun pre r s => s = (pre.length : Int) ∧ x ∉ pre) _ ?_ ?_ ⟨rfl, by simp⟩
    · rintro pre a r i rfl ⟨rfl, h1⟩
      simp only [List.length_append, List.length_cons] at hl
      simp only [W.R_member.c100002, br_if, idx_mid, bnd_val]
      rw [if_pos lt_app]
      by_cases ha : a = x
      · rw [if_pos (by simpa using ha)]
        exact .inr ⟨_, rfl, .inl ⟨_, rfl, by simp [ha]⟩⟩
      · rw [if_neg (by simpa using ha), wrap_i64 (by omega)]
        exact .inl ⟨_, rfl, by simp, by simp [h1, Ne.symm ha]⟩
    · rintro i ⟨rfl, h1⟩
      simp only [W.R_member.c100002, br_if]
      rw [if_neg (by simp)]
      exact ⟨_, rfl, .inr ⟨_, rfl, h1⟩⟩
  obtain ⟨r, hr, h⟩ := h
  simp only [W.R_member, hr, bnd_val]
  rcases h with ⟨u, rfl, h⟩ | ⟨u, rfl, h⟩
  · simp [sel_inl, h]
  · simp [sel_inr, h]
theorem rbad_c1 (k : Int) : W.R_badOp.c1 k some = some (decide (k < 1 ∨ 6 < k)) := by
  simp only [W.R_badOp.c1, br_or, br_and]; exact some_dec (by simp)
theorem rbad_c3 (k : Int) : W.R_badOp.c3 k some = some (decide (k = 1 ∨ k = 4)) := by
  simp only [W.R_badOp.c3, br_or, br_and]; exact some_dec (by simp)
theorem rbad_c4 (k a : Int) : W.R_badOp.c4 (decide (k = 1 ∨ k = 4)) a some = some (decide (a < 0 ∨ 15 < a ∨ (¬ (k = 1 ∨ k = 4) ∧ a ≠ 0))) := by
  simp only [W.R_badOp.c4, br_or, br_and]; exact some_dec (by simp; omega)
theorem rbad_c6 (k q qn : Int) : W.R_badOp.c6 qn k q some = some (decide (q < 0 ∨ qn ≤ q ∨ (k = 1 ∧ q ≠ 0))) := by
  simp only [W.R_badOp.c6, br_or, br_and]; exact some_dec (by simp; omega)
theorem rbad_c8 (k : Int) (l : List Int) : W.R_badOp.c8 k l some = some (decide (l ≠ [] ∧ ¬ (k = 2 ∨ k = 3 ∨ k = 4))) := by
  simp only [W.R_badOp.c8, br_or, br_and]; exact some_dec (by cases l <;> simp)
theorem rbad_bit (k b bn : Int) : ∃ r, W.R_badOp.c269649 bn k b some = some r ∧ ((r = .inl () ∧ ((k = 5 ∧ (b < 0 ∨ bn ≤ b)) ∨ (k ≠ 5 ∧ b ≠ 0))) ∨ (r = .inr () ∧ ¬ ((k = 5 ∧ (b < 0 ∨ bn ≤ b)) ∨ (k ≠ 5 ∧ b ≠ 0)))) := by
  have h : W.R_badOp.c18 bn b some = some (decide (b < 0 ∨ bn ≤ b)) := by
    simp only [W.R_badOp.c18, br_or]; exact some_dec (by simp)
  by_cases hk : k = 5
  · subst hk
    simp only [W.R_badOp.c269649, beq_self_eq_true, br_tt, h, bnd_val]
    by_cases hb : b < 0 ∨ bn ≤ b
    · rw [br_pos hb]; exact ⟨_, rfl, .inl ⟨rfl, .inl ⟨trivial, hb⟩⟩⟩
    · rw [br_neg hb]; exact ⟨_, rfl, .inr ⟨rfl, by omega⟩⟩
  · simp only [W.R_badOp.c269649, beq_eq_false_iff_ne.2 hk, br_ff]
    by_cases hb : b = 0
    · rw [br_false (by simpa using hb)]; exact ⟨_, rfl, .inr ⟨rfl, by omega⟩⟩
    · rw [br_true (by simpa using hb)]; exact ⟨_, rfl, .inl ⟨rfl, by omega⟩⟩
theorem rbad_ctl (q0 qn : Int) (l : List Int) (hl : l.length ≤ 17592186043904) :
    ∃ r, iter (fun s : Int ↦ W.R_badOp.c100011 qn s l q0 some) (0 : Int) = some r ∧
      ((∃ u, r = .inl (ctlBad q0 qn [] l, u) ∧ ctlBad q0 qn [] l ≠ 0) ∨ ∃ u, r = .inr u ∧ ctlBad q0 qn [] l = 0) := by
  refine iter_each (l := l) (fun pre r s => s = (pre.length : Int) ∧ ctlBad q0 qn [] l = ctlBad q0 qn pre r) _ ?_ ?_ ⟨rfl, rfl⟩
  · rintro pre a r i rfl ⟨rfl, h3⟩
    simp only [List.length_append, List.length_cons] at hl
    have h13 : W.R_badOp.c13 qn (pre.length : Int) (pre ++ a :: r) some = some (decide (a < 0 ∨ qn ≤ a)) := by
      simp only [W.R_badOp.c13, br_or, idx_mid, bnd_val]; exact some_dec (by simp)
    have h15 : W.R_badOp.c15 (pre.length : Int) (pre ++ a :: r) q0 some = some (decide (a = q0 ∨ a ∈ pre)) := by
      simp only [W.R_badOp.c15, idx_mid, bnd_val]
      rw [okIf_true (by simp; omega), bnd_val]
      simp only [Int.toNat_natCast, List.take_left, member_ok _ _ (show pre.length ≤ 17592186043904 by omega), bnd_val, br_or]
      exact some_dec (by simp)
    simp only [W.R_badOp.c100011, br_if, h13, h15, bnd_val]
    rw [if_pos lt_app]
    rw [h3]
    by_cases ha : a < 0 ∨ qn ≤ a
    · rw [if_pos (by simpa using ha)]
      exact .inr ⟨_, rfl, .inl ⟨_, by rw [ctlBad, if_pos ha], by rw [ctlBad, if_pos ha]; decide⟩⟩
    · rw [if_neg (by simpa using ha)]
      by_cases hb : a = q0 ∨ a ∈ pre
      · rw [if_pos (by simpa using hb)]
        exact .inr ⟨_, rfl, .inl ⟨_, by rw [ctlBad, if_neg ha, if_pos hb], by rw [ctlBad, if_neg ha, if_pos hb]; decide⟩⟩
      · rw [if_neg (by simpa using hb), wrap_i64 (by omega)]
        refine .inl ⟨_, rfl, by simp, ?_⟩
        show ctlBad q0 qn pre (_ :: r) = _
        rw [ctlBad, if_neg ha, if_neg hb]
  · rintro i ⟨rfl, h3⟩
    simp only [W.R_badOp.c100011, br_if]
    rw [if_neg (by simp)]
    exact ⟨_, rfl, .inr ⟨_, rfl, by rw [h3]; rfl⟩⟩
theorem rbad_if (bn : Int) (h : 0 ≤ bn ∧ bn ≤ 12) (l : List Int) (hl : l.length ≤ 17592186043904) :
    ∃ r, iter (fun s : Int ↦ W.R_badOp.c100025 bn s l some) (0 : Int) = some r ∧
      ((∃ u, r = .inl u ∧ ifBad bn l) ∨ ∃ u, r = .inr u ∧ ¬ ifBad bn l) := by
  refine iter_each (l := l) (fun pre r s => s = (pre.length : Int) ∧ ∀ v ∈ pre, ¬ (v = 0 ∨ bn < v ∨ v < -bn)) _ ?_ ?_ ⟨rfl, fun v hv => by cases hv⟩
  · rintro pre a r i rfl ⟨rfl, h1⟩
    simp only [List.length_append, List.length_cons] at hl
    have h27 : W.R_badOp.c27 bn (pre.length : Int) (pre ++ a :: r) some = some (decide (a = 0 ∨ bn < a ∨ a < -bn)) := by
      simp only [W.R_badOp.c27, br_or, idx_mid, bnd_val]
      rw [wrap_i64 (by omega)]; exact some_dec (by simp)
    simp only [W.R_badOp.c100025, br_if, h27, bnd_val]
    rw [if_pos lt_app]
    by_cases ha : a = 0 ∨ bn < a ∨ a < -bn
    · rw [if_pos (by simpa using ha)]
      exact .inr ⟨_, rfl, .inl ⟨_, rfl, a, by simp, ha⟩⟩
    · rw [if_neg (by simpa using ha), wrap_i64 (by omega)]
      refine .inl ⟨_, rfl, by simp, fun v hv => ?_⟩
      rcases List.mem_append.1 hv with hv | hv
      · exact h1 v hv
      · rw [List.mem_singleton.1 hv]; exact ha
  · rintro i ⟨rfl, h1⟩
    simp only [W.R_badOp.c100025, br_if]
    rw [if_neg (by simp)]
    exact ⟨_, rfl, .inr ⟨_, rfl, fun ⟨v, hv, hb⟩ => h1 v hv hb⟩⟩
theorem badOp_ok (o : Op) (qn bn : Int) (ho : WOp o) (hb : 0 ≤ bn ∧ bn ≤ 12) : W.R_badOp o qn bn = some (opBad o qn bn) := by
  obtain ⟨k, a, ctl, q, bit, cond⟩ := o
  obtain ⟨ho1, ho2⟩ := ho
  simp only at ho1 ho2
  simp only [W.R_badOp, rbad_c1, rbad_c3, rbad_c4, rbad_c6, rbad_c8, bnd_val, br_if, opBad, decide_eq_true_eq]
  split
  · rfl
  · split
    · rfl
    · split
      · rfl
      · split
        · rfl
        · obtain ⟨r, hr, hr'⟩ := rbad_ctl q qn ctl ho1
          rw [hr, bnd_val]
          rcases hr' with ⟨u, rfl, h⟩ | ⟨u, rfl, h⟩
          · rw [sel_inl, if_pos h]
          · rw [sel_inr, if_neg (show ¬ (ctlBad q qn [] ctl ≠ 0) by simp [h])]
            obtain ⟨r, hr, hr'⟩ := rbad_bit k bit bn
            rw [hr, bnd_val]
            rcases hr' with ⟨rfl, h⟩ | ⟨rfl, h⟩
            · rw [sel_inl, if_pos h]
            · rw [sel_inr, if_neg h]
              by_cases h24 : 24 < cond.length
              · rw [if_pos (by omega), if_pos h24]
              · rw [if_neg (by omega), if_neg h24]
                obtain ⟨r, hr, hr'⟩ := rbad_if bn hb cond ho2
                rw [hr, bnd_val]
                rcases hr' with ⟨u, rfl, h⟩ | ⟨u, rfl, h⟩
                · rw [sel_inl, if_pos h]
                · rw [sel_inr, if_neg h]
def opsBad (qn bn : Int) : Nat → List Op → Int × Int
  | _, [] => (0, 0)
  | i, o :: r => if opBad o qn bn = 0 then opsBad qn bn (i + 1) r else (opBad o qn bn, i)
def chk (c : Cir) : Int × Int :=
  if c.1 < 1 ∨ 12 < c.1 then (6, 0) else if c.2.1 < 0 ∨ 12 < c.2.1 then (7, 0) else if 4096 < c.2.2.length then (2, 0) else opsBad c.1 c.2.1 0 c.2.2
theorem WOp.eta (o : Op) : (o.1, o.2.1, o.2.2.1, o.2.2.2.1, o.2.2.2.2.1, o.2.2.2.2.2) = o := rfl
theorem fault_ok (a b : Int) : W.circ_fault a b = some (a, b) := rfl
theorem rfault_ok (a b : Int) : W.R_rfault a b = some (a, b) := rfl
theorem check_ok (c : Cir) (hc : WCir c) : W.circ_Check c = some (chk c) := by
  obtain ⟨qn, bn, ops⟩ := c
  obtain ⟨hl, hw⟩ := hc
  simp only at hl hw
  simp only [W.circ_Check, W.circ_Check.c1, W.circ_Check.c3, br_if, fault_ok, bnd_val, chk]
  by_cases h1 : qn < 1 ∨ 12 < qn
  · rw [if_pos h1]
    by_cases h : qn < 1
    · simp [h, bnd_val]
    · have : 12 < qn := by omega
      simp [h, this, bnd_val]
  · have h1a : ¬ qn < 1 := by omega
    have h1b : ¬ 12 < qn := by omega
    simp only [h1a, h1b, bnd_val, decide_false, Bool.false_eq_true, if_false, gt_iff_lt, or_self]
    by_cases h2 : bn < 0 ∨ 12 < bn
    · rw [if_pos h2]
      by_cases h : bn < 0
      · simp [h, bnd_val]
      · have : 12 < bn := by omega
        simp [h, this, bnd_val]
    · have h2a : ¬ bn < 0 := by omega
      have h2b : ¬ 12 < bn := by omega
      simp only [h2a, h2b, bnd_val, decide_false, Bool.false_eq_true, if_false, or_self]
      by_cases h3 : 4096 < ops.length
      · rw [if_pos h3, if_pos (by simp; omega)]
      · rw [if_neg h3, if_neg (by simp; omega)]
        have key : ∃ r, iter (fun s : Int × Int × Int × List Op ↦ W.circ_Check.c100008 ops (ops.length : Int) s.1 s.2.1 s.2.2.1 s.2.2.2 some) ((0 : Int), qn, bn, ops) = some r ∧
            ((∃ u, r = .inl u ∧ (u.2.2.2.2.1, u.2.2.2.2.2) = opsBad qn bn 0 ops) ∨ ∃ u, r = .inr u ∧ (0, 0) = opsBad qn bn 0 ops) := by
          refine iter_each (l := ops) (fun pre r s => s = ((pre.length : Int), qn, bn, ops) ∧ opsBad qn bn pre.length r = opsBad qn bn 0 ops) _ ?_ ?_ ⟨rfl, rfl⟩
          · rintro pre o r s rfl ⟨rfl, h4⟩
            simp only [List.length_append, List.length_cons] at hl
            simp only [W.circ_Check.c100008, br_if, idx_mid, bnd_val, WOp.eta, one_ok o qn bn _ (hw o (by simp)) (by omega) (by omega), fault_ok]
            rw [if_pos lt_app]
            rw [opsBad] at h4
            by_cases ho : opBad o qn bn = 0
            · rw [if_pos ho] at h4
              rw [if_neg (by simp [ho]), wrap_i64 (by omega)]
              exact .inl ⟨_, rfl, by simp, by simpa using h4⟩
            · rw [if_neg ho] at h4
              rw [if_pos (by simp [ho])]
              exact .inr ⟨_, rfl, .inl ⟨_, rfl, h4⟩⟩
          · rintro s ⟨rfl, h4⟩
            simp only [W.circ_Check.c100008, br_if]
            rw [if_neg (by simp)]
            exact ⟨_, rfl, .inr ⟨_, rfl, h4⟩⟩
        obtain ⟨r, hr, h⟩ := key
        rw [hr, bnd_val]
        rcases h with ⟨u, rfl, h⟩ | ⟨u, rfl, h⟩
        · rw [sel_inl, ← h]
        · rw [sel_inr, ← h]
theorem rcheck_ok (c : Cir) (hc : WCir c) : W.R_Check c = some (chk c) := by
  obtain ⟨qn, bn, ops⟩ := c
  obtain ⟨hl, hw⟩ := hc
  simp only at hl hw
  simp only [W.R_Check, W.R_Check.c1, W.R_Check.c3, br_if, rfault_ok, bnd_val, chk]
  by_cases h1 : qn < 1 ∨ 12 < qn
  · rw [if_pos h1]
    by_cases h : qn < 1
    · simp [h, bnd_val]
    · have : 12 < qn := by omega
      simp [h, this, bnd_val]
  · have h1a : ¬ qn < 1 := by omega
    have h1b : ¬ 12 < qn := by omega
    simp only [h1a, h1b, bnd_val, decide_false, Bool.false_eq_true, if_false, gt_iff_lt, or_self]
    by_cases h2 : bn < 0 ∨ 12 < bn
    · rw [if_pos h2]
      by_cases h : bn < 0
      · simp [h, bnd_val]
      · have : 12 < bn := by omega
        simp [h, this, bnd_val]
    · have h2a : ¬ bn < 0 := by omega
      have h2b : ¬ 12 < bn := by omega
      simp only [h2a, h2b, bnd_val, decide_false, Bool.false_eq_true, if_false, or_self]
      by_cases h3 : 4096 < ops.length
      · rw [if_pos h3, if_pos (by simp; omega)]
      · rw [if_neg h3, if_neg (by simp; omega)]
        have key : ∃ r, iter (fun s : Int ↦ W.R_Check.c100008 s qn bn ops some) (0 : Int) = some r ∧
            ((∃ u, r = .inl u ∧ (u.2.1, u.2.2) = opsBad qn bn 0 ops) ∨ ∃ u, r = .inr u ∧ (0, 0) = opsBad qn bn 0 ops) := by
          refine iter_each (l := ops) (fun pre r s => s = (pre.length : Int) ∧ opsBad qn bn pre.length r = opsBad qn bn 0 ops) _ ?_ ?_ ⟨rfl, rfl⟩
          · rintro pre o r s rfl ⟨rfl, h4⟩
            simp only [List.length_append, List.length_cons] at hl
            simp only [W.R_Check.c100008, W.R_Check.c10, br_if, idx_mid, bnd_val, badOp_ok o qn bn (hw o (by simp)) (by omega), rfault_ok]
            rw [if_pos lt_app]
            rw [opsBad] at h4
            by_cases ho : opBad o qn bn = 0
            · rw [if_pos ho] at h4
              rw [if_neg (by simp [ho]), wrap_i64 (by omega)]
              exact .inl ⟨_, rfl, by simp, by simpa using h4⟩
            · rw [if_neg ho] at h4
              rw [if_pos (by simp [ho])]
              exact .inr ⟨_, rfl, .inl ⟨_, rfl, h4⟩⟩
          · rintro s ⟨rfl, h4⟩
            simp only [W.R_Check.c100008, br_if]
            rw [if_neg (by simp)]
            exact ⟨_, rfl, .inr ⟨_, rfl, h4⟩⟩
        obtain ⟨r, hr, h⟩ := key
        rw [hr, bnd_val]
        rcases h with ⟨u, rfl, h⟩ | ⟨u, rfl, h⟩
        · rw [sel_inl, ← h]
        · rw [sel_inr, ← h]
end Go.Ql
end

section
namespace Go.Ql
instance dec3 : DecidableEq (Int × Int × List Int) := inferInstance
instance dec4 : DecidableEq (List Int × Int × Int × List Int) := inferInstance
instance dec6 : DecidableEq Op := instDecidableEqProd
instance decC : DecidableEq Cir := instDecidableEqProd
theorem opsBad_zero {qn bn : Int} : ∀ {l : List Op} {i : Nat}, (opsBad qn bn i l).1 = 0 → (∀ o ∈ l, opBad o qn bn = 0) ∧ opsBad qn bn i l = (0, 0)
  | [], _, _ => ⟨(fun _ h => by cases h), rfl⟩
  | o :: l, i, h => by
    rw [opsBad] at h ⊢
    by_cases ho : opBad o qn bn = 0
    · rw [if_pos ho] at h ⊢
      have := opsBad_zero h
      exact ⟨fun o' h' => by
        rcases List.mem_cons.1 h' with rfl | h'
        · exact ho
        · exact this.1 o' h', this.2⟩
    · rw [if_neg ho] at h
      exact absurd h ho
structure GoodC (c : Cir) : Prop where
  q : 1 ≤ c.1 ∧ c.1 ≤ 12
  b : 0 ≤ c.2.1 ∧ c.2.1 ≤ 12
  n : c.2.2.length ≤ 4096
  ops : ∀ o ∈ c.2.2, opBad o c.1 c.2.1 = 0
theorem good_of {c : Cir} (h : (chk c).1 = 0) : GoodC c ∧ chk c = (0, 0) := by
  unfold chk at h ⊢
  by_cases h1 : c.1 < 1 ∨ 12 < c.1
  · rw [if_pos h1] at h; cases h
  · rw [if_neg h1] at h ⊢
    by_cases h2 : c.2.1 < 0 ∨ 12 < c.2.1
    · rw [if_pos h2] at h; cases h
    · rw [if_neg h2] at h ⊢
      by_cases h3 : 4096 < c.2.2.length
      · rw [if_pos h3] at h; cases h
      · rw [if_neg h3] at h ⊢
        have := opsBad_zero h
        exact ⟨⟨by omega, by omega, by omega, this.1⟩, this.2⟩
theorem opsBad_good {qn bn : Int} : ∀ {l : List Op} {i : Nat}, (∀ o ∈ l, opBad o qn bn = 0) → opsBad qn bn i l = (0, 0)
  | [], _, _ => rfl
  | o :: l, i, h => by
    rw [opsBad, if_pos (h o (by simp))]
    exact opsBad_good (fun o' h' => h o' (List.mem_cons_of_mem _ h'))
theorem GoodC.chk {c : Cir} (h : GoodC c) : chk c = (0, 0) := by
  have := h.q; have := h.b; have := h.n
  unfold Ql.chk
  rw [if_neg (by omega), if_neg (by omega), if_neg (by omega)]
  exact opsBad_good h.ops
structure GoodOp (o : Op) (qn bn : Int) : Prop where
  kind : 1 ≤ o.1 ∧ o.1 ≤ 6
  k : 0 ≤ o.2.1 ∧ o.2.1 ≤ 15
  k0 : (o.1 = 1 ∨ o.1 = 4) ∨ o.2.1 = 0
  q : 0 ≤ o.2.2.2.1 ∧ o.2.2.2.1 < qn
  q0 : o.1 = 1 → o.2.2.2.1 = 0
  ctl : o.2.2.1 = [] ∨ (o.1 = 2 ∨ o.1 = 3 ∨ o.1 = 4)
  ctls : ctlBad o.2.2.2.1 qn [] o.2.2.1 = 0
  bit : (o.1 = 5 ∧ 0 ≤ o.2.2.2.2.1 ∧ o.2.2.2.2.1 < bn) ∨ (o.1 ≠ 5 ∧ o.2.2.2.2.1 = 0)
  ifs : o.2.2.2.2.2.length ≤ 24
  cond : ¬ ifBad bn o.2.2.2.2.2
theorem goodOp_of {o : Op} {qn bn : Int} (h : opBad o qn bn = 0) : GoodOp o qn bn := by
  unfold opBad at h
  by_cases h1 : o.1 < 1 ∨ 6 < o.1
  · rw [if_pos h1] at h; cases h
  rw [if_neg h1] at h
  by_cases h2 : o.2.1 < 0 ∨ 15 < o.2.1 ∨ (¬ (o.1 = 1 ∨ o.1 = 4) ∧ o.2.1 ≠ 0)
  · rw [if_pos h2] at h; cases h
  rw [if_neg h2] at h
  by_cases h3 : o.2.2.2.1 < 0 ∨ qn ≤ o.2.2.2.1 ∨ (o.1 = 1 ∧ o.2.2.2.1 ≠ 0)
  · rw [if_pos h3] at h; cases h
  rw [if_neg h3] at h
  by_cases h4 : o.2.2.1 ≠ [] ∧ ¬ (o.1 = 2 ∨ o.1 = 3 ∨ o.1 = 4)
  · rw [if_pos h4] at h; cases h
  rw [if_neg h4] at h
  by_cases h5 : ctlBad o.2.2.2.1 qn [] o.2.2.1 ≠ 0
  · rw [if_pos h5] at h; exact absurd h h5
  rw [if_neg h5] at h
  by_cases h6 : (o.1 = 5 ∧ (o.2.2.2.2.1 < 0 ∨ bn ≤ o.2.2.2.2.1)) ∨ (o.1 ≠ 5 ∧ o.2.2.2.2.1 ≠ 0)
  · rw [if_pos h6] at h; cases h
  rw [if_neg h6] at h
  by_cases h7 : 24 < o.2.2.2.2.2.length
  · rw [if_pos h7] at h; cases h
  rw [if_neg h7] at h
  by_cases h8 : ifBad bn o.2.2.2.2.2
  · rw [if_pos h8] at h; cases h
  exact ⟨by omega, by omega, by omega, by omega, by omega, by by_cases h : o.2.2.1 = [] <;> simp_all; omega, by omega, by omega, by omega, h8⟩
theorem GoodOp.bad {o : Op} {qn bn : Int} (h : GoodOp o qn bn) : opBad o qn bn = 0 := by
  obtain ⟨h1, h2, h3, h4, h5, h6, h7, h8, h9, h10⟩ := h
  unfold opBad
  rw [if_neg (by omega), if_neg (by omega), if_neg (by omega), if_neg (by rcases h6 with h | h <;> simp [h]), if_neg (by simp [h7]), if_neg (by omega), if_neg (by omega), if_neg h10]
theorem ctlBad_zero {q0 qn : Int} : ∀ {r pre : List Int}, ctlBad q0 qn pre r = 0 ↔ (∀ q ∈ r, 0 ≤ q ∧ q < qn ∧ q ≠ q0 ∧ q ∉ pre) ∧ r.Nodup
  | [], _ => by simp [ctlBad]
  | q :: r, pre => by
    rw [ctlBad]
    by_cases h1 : q < 0 ∨ qn ≤ q
    · rw [if_pos h1]
      constructor
      · intro h; cases h
      · intro h; have := h.1 q (by simp); omega
    · rw [if_neg h1]
      by_cases h2 : q = q0 ∨ q ∈ pre
      · rw [if_pos h2]
        constructor
        · intro h; cases h
        · intro h; have := h.1 q (by simp); rcases h2 with h2 | h2
          · exact absurd h2 this.2.2.1
          · exact absurd h2 this.2.2.2
      · rw [if_neg h2, ctlBad_zero]
        have h1a : 0 ≤ q := by omega
        have h1b : q < qn := by omega
        simp only [not_or] at h2
        simp only [List.mem_cons, forall_eq_or_imp, List.nodup_cons, List.mem_append, List.mem_singleton, not_or]
        constructor
        · rintro ⟨h3, h4⟩
          exact ⟨⟨⟨h1a, h1b, h2.1, h2.2⟩, fun a ha => ⟨(h3 a ha).1, (h3 a ha).2.1, (h3 a ha).2.2.1, (h3 a ha).2.2.2.1⟩⟩, fun hq => (h3 q hq).2.2.2.2.1 rfl, h4⟩
        · rintro ⟨⟨_, h3⟩, h4, h5⟩
          exact ⟨fun a ha => ⟨(h3 a ha).1, (h3 a ha).2.1, (h3 a ha).2.2.1, (h3 a ha).2.2.2, ⟨fun e => h4 (e ▸ ha), by simp⟩⟩, h5⟩

theorem rcopyInts_ok (l : List Int) (hl : l.length ≤ 17592186043904) : W.R_copyInts l = some l := by
  have h : ∃ r, iter (fun s : Int × List Int ↦ W.R_copyInts.c100003 l s.1 s.2 some) ((0 : Int), []) = some r ∧ r.2 = l := by
    refine iter_each (l := l) (fun pre r s => s = ((pre.length : Int), pre)) _ ?_ ?_ rfl
    · rintro pre a r s rfl rfl
      simp only [List.length_append, List.length_cons] at hl
      simp only [W.R_copyInts.c100003, br_if, idx_mid, bnd_val]
      rw [if_pos lt_app, okIf_true (by simp; omega), wrap_i64 (by omega)]
      exact .inl ⟨_, rfl, by simp⟩
    · rintro s rfl
      simp only [W.R_copyInts.c100003, br_if]
      rw [if_neg (by simp)]
      exact ⟨_, rfl, rfl⟩
  obtain ⟨r, hr, h⟩ := h
  simp only [W.R_copyInts, hr, bnd_val, h]
theorem rcopyOp_ok (o : Op) (ho : WOp o) : W.R_copyOp o = some o := by
  simp only [W.R_copyOp, rcopyInts_ok _ ho.1, rcopyInts_ok _ ho.2, bnd_val]
theorem copyCircuit_ok (c : Cir) (hc : WCir c) : W.R_CopyCircuit c = some c := by
  obtain ⟨qn, bn, ops⟩ := c
  obtain ⟨hl, hw⟩ := hc
  simp only at hl hw
  have h : ∃ r, iter (fun s : Int × List Op ↦ W.R_CopyCircuit.c100003 s.1 ops s.2 some) ((0 : Int), []) = some r ∧ r.2 = ops := by
    refine iter_each (l := ops) (fun pre r s => s = ((pre.length : Int), pre)) _ ?_ ?_ rfl
    · rintro pre a r s rfl rfl
      simp only [List.length_append, List.length_cons] at hl
      simp only [W.R_CopyCircuit.c100003, W.R_CopyCircuit.c5, br_if, idx_mid, bnd_val, rcopyOp_ok a (hw a (by simp))]
      rw [if_pos lt_app, okIf_true (by simp; omega), wrap_i64 (by omega)]
      exact .inl ⟨_, rfl, by simp⟩
    · rintro s rfl
      simp only [W.R_CopyCircuit.c100003, br_if]
      rw [if_neg (by simp)]
      exact ⟨_, rfl, rfl⟩
  obtain ⟨r, hr, h⟩ := h
  simp only [W.R_CopyCircuit, hr, bnd_val, h]
theorem sameInts_ok (a b : List Int) (ha : a.length ≤ 17592186043904) : W.R_SameInts a b = some (decide (a = b)) := by
  simp only [W.R_SameInts, br_if]
  by_cases hlen : a.length = b.length
  · rw [if_neg (by simp [hlen])]
    have h : ∃ r, iter (fun s : Int ↦ W.R_SameInts.c100004 a b s some) (0 : Int) = some r ∧ ((∃ u, r = .inl u ∧ a ≠ b) ∨ ∃ u, r = .inr u ∧ a = b) := by
      refine iter_upto a.length (fun i s => s = (i : Int) ∧ a.take i = b.take i) _ ?_ ?_ ⟨rfl, rfl⟩
      · rintro i s hi ⟨rfl, h1⟩
        have h6 : W.R_SameInts.c6 a b (i : Int) some = some (decide (a[i] ≠ b[i]'(by omega))) := by
          simp only [W.R_SameInts.c6, idx_get hi, idx_get (show i < b.length by omega), bnd_val]
          exact some_dec (by simp)
        simp only [W.R_SameInts.c100004, br_if, h6, bnd_val]
        rw [if_pos (by simpa using hi)]
        by_cases hd : a[i] = b[i]'(by omega)
        · rw [if_neg (by simpa using hd), wrap_i64 (by omega)]
          exact .inl ⟨_, rfl, by simp, by rw [List.take_succ_eq_append_getElem hi, List.take_succ_eq_append_getElem (by omega), h1, hd]⟩
        · rw [if_pos (by simpa using hd)]
          exact .inr ⟨_, rfl, .inl ⟨_, rfl, fun e => hd (by subst e; rfl)⟩⟩
      · rintro s ⟨rfl, h1⟩
        simp only [W.R_SameInts.c100004, br_if]
        rw [if_neg (by simp)]
        rw [List.take_length, hlen, List.take_length] at h1
        exact ⟨_, rfl, .inr ⟨_, rfl, h1⟩⟩
    obtain ⟨r, hr, h⟩ := h
    rw [hr, bnd_val]
    rcases h with ⟨u, rfl, h⟩ | ⟨u, rfl, h⟩
    · rw [sel_inl]; simp [h]
    · rw [sel_inr]; simp [h]
  · rw [if_pos (by simp; omega)]
    have : a ≠ b := fun e => hlen (by rw [e])
    simp [this]
end Go.Ql
end
end

section
namespace Go.Ql
theorem bit_at (s i : Nat) (hs : s < 2 ^ 63) (hi : i < 64) : (ibits .and .i64 (Int.fdiv (s : Int) ((2 : Int) ^ Min.min (Int.toNat (i : Int)) (64 : Nat))) (1 : Int) == (1 : Int)) = s.testBit i := by
  have h1 : Int.fdiv (s : Int) ((2 : Int) ^ Min.min (Int.toNat (i : Int)) (64 : Nat)) = ((s / 2 ^ i : Nat) : Int) := by
    rw [Int.toNat_natCast, Nat.min_eq_left (by omega), Int.fdiv_eq_ediv_of_nonneg _ (by have : (0 : Int) ≤ ((2 ^ i : Nat) : Int) := Int.natCast_nonneg _; simpa using this)]
    norm_cast
  rw [h1]
  have h2 := iandi64 (a := s / 2 ^ i) (b := 1) (Nat.lt_of_le_of_lt (Nat.div_le_self _ _) hs) (by decide)
  rw [show ((1 : Nat) : Int) = 1 from rfl] at h2
  rw [h2, Nat.testBit, Nat.shiftRight_eq_div_pow, Nat.and_comm 1]
  have h3 : s / 2 ^ i &&& 1 = s / 2 ^ i % 2 := Nat.and_one_is_mod _
  rw [h3]
  have : s / 2 ^ i % 2 = 0 ∨ s / 2 ^ i % 2 = 1 := by omega
  rcases this with h | h <;> rw [h] <;> rfl

def turnL (on : List Int) (q k : Int) : List Op :=
  if Int.tmod (Int.tmod k 16 + 16) 16 = 0 then [] else [(4, Int.tmod (Int.tmod k 16 + 16) 16, [], q, 0, on)]
def fanL (on : List Int) (s : Nat) (last : Int) : Nat → List Int → List Op
  | _, [] => []
  | i, q :: t => (if s.testBit i = true ∧ q ≠ last then [(2, 0, [q], last, 0, on)] else []) ++ fanL on s last (i + 1) t
def lastL (s : Nat) : Nat → List Int → Nat × Int → Nat × Int
  | _, [], x => x
  | i, q :: t, x => lastL s (i + 1) t (if s.testBit i = true then (x.1 + 1, q) else x)
def setL (on qs : List Int) (k : Int) (s : Nat) : List Op :=
  let x := lastL s 0 qs (0, -1)
  fanL on s x.2 0 qs ++ (turnL on x.2 (if x.1 % 2 = 1 then k else - k) ++ fanL on s x.2 0 qs)
def setsL (on qs : List Int) (k : Int) : Nat → List Op
  | 0 => []
  | n + 1 => setsL on qs k n ++ setL on qs k (n + 1)
def parL (on qs : List Int) (k : Int) : List Op := setsL on qs (Int.tdiv k ((2 : Int) ^ (qs.length - 1))) (2 ^ qs.length - 1)
def hL (on : List Int) (q : Int) : List Op := [(3, 0, [], q, 0, on)]
def cxL (on : List Int) (a q : Int) : List Op := [(2, 0, [a], q, 0, on)]
def andL (on : List Int) (a b s : Int) : List Op := hL on s ++ (parL on [a, b, s] 8 ++ hL on s)
def prodL (on : List Int) (first : Int) (k : Int) : Nat → List Int → List Op
  | 0, qs => parL on qs k
  | j + 1, qs => andL on (qs.getD 0 0) (qs.getD 1 0) (first + j) ++ (prodL on first k j ((first + j) :: qs.drop 2) ++ andL on (qs.getD 0 0) (qs.getD 1 0) (first + j))
def flipL (on : List Int) (first : Int) (o : Op) (n : Nat) : List Op :=
  if o.2.2.1.length = 1 then cxL on (o.2.2.1.getD 0 0) o.2.2.2.1
  else hL on o.2.2.2.1 ++ (prodL on first 8 n (o.2.2.1 ++ [o.2.2.2.1]) ++ hL on o.2.2.2.1)
def spG (k : Int) : Nat → Nat
  | 0 => 0
  | L + 1 => if Int.tmod k ((2 : Int) ^ (L + 1)) = 0 then 0 else spG k L + 1
def opK (o : Op) : Int := if o.1 = 4 then o.2.1 else 8
def spO (o : Op) : Nat := spG (opK o) o.2.2.1.length
def opL (first : Int) (o : Op) : List Op :=
  if o.2.2.1.length = 0 then [o]
  else if o.1 = 4 ∧ o.2.1 = 0 then []
  else if o.1 = 4 then prodL o.2.2.2.2.2 first o.2.1 (spO o) (o.2.2.1 ++ [o.2.2.2.1])
  else if o.1 = 2 then flipL o.2.2.2.2.2 first o (spO o)
  else turnL o.2.2.2.2.2 o.2.2.2.1 4 ++ (hL o.2.2.2.2.2 o.2.2.2.1 ++ (turnL o.2.2.2.2.2 o.2.2.2.1 2 ++ (flipL o.2.2.2.2.2 first o (spO o) ++ (turnL o.2.2.2.2.2 o.2.2.2.1 (-2) ++ (hL o.2.2.2.2.2 o.2.2.2.1 ++ turnL o.2.2.2.2.2 o.2.2.2.1 (-4))))))

section
variable {f Q B : Int} {on : List Int} {ops : List Op}
theorem put_ok (o : Op) (hn : on.length ≤ 24) (hl : ops.length ≤ 1000000) :
    W.lower_maker_put o f on Q B ops = some (ops ++ [(o.1, o.2.1, o.2.2.1, o.2.2.2.1, o.2.2.2.2.1, on)], Q, B, f, on, ()) := by
  simp only [W.lower_maker_put, W.lower_maker_put.c2, okIf_len (n := 0 + on.length) (k := 8) ⟨by omega, by omega⟩, okIf_len (n := ops.length + 1) (k := 80) ⟨by omega, by omega⟩, bnd_val, uP]
theorem turn_ok (q k : Int) (hn : on.length ≤ 24) (hl : ops.length ≤ 1000000) :
    W.lower_maker_turn q k f on Q B ops = some (ops ++ turnL on q k, Q, B, f, on, ()) := by
  have h1 := Int.tmod_lt_of_pos k (show (0 : Int) < 16 by omega)
  have h2 : -16 < Int.tmod k 16 := by
    have := Int.tmod_lt_of_pos (-k) (show (0 : Int) < 16 by omega)
    rw [Int.neg_tmod] at this; omega
  simp only [W.lower_maker_turn, turnL, put_ok _ hn hl, bnd_val, wrap_i64 (x := Int.tmod k 16 + 16) (by omega)]
  by_cases h : Int.tmod (Int.tmod k 16 + 16) 16 = 0
  · rw [br_false (by simp [h]), if_pos h, List.append_nil]
  · rw [br_true (by simp [h]), if_neg h]
theorem h_ok (q : Int) (hn : on.length ≤ 24) (hl : ops.length ≤ 1000000) :
    W.lower_maker_h q f on Q B ops = some (ops ++ hL on q, Q, B, f, on, ()) := by
  simp only [W.lower_maker_h, put_ok _ hn hl, bnd_val, hL]
theorem cx_ok (a q : Int) (hn : on.length ≤ 24) (hl : ops.length ≤ 1000000) :
    W.lower_maker_cx a q f on Q B ops = some (ops ++ cxL on a q, Q, B, f, on, ()) := by
  simp only [W.lower_maker_cx, put_ok _ hn hl, bnd_val, cxL]
theorem fanL_app (s : Nat) (last : Int) : ∀ (l : List Int) (i : Nat) (r : List Int), fanL on s last i (l ++ r) = fanL on s last i l ++ fanL on s last (i + l.length) r
  | [], i, r => by simp [fanL]
  | q :: l, i, r => by
    simp only [List.cons_append, fanL, fanL_app s last l (i + 1) r, List.append_assoc, List.length_cons]
    rw [show i + 1 + l.length = i + (l.length + 1) by omega]
theorem fanL_len (s : Nat) (last : Int) : ∀ (l : List Int) (i : Nat), (fanL on s last i l).length ≤ l.length
  | [], i => by simp [fanL]
  | q :: l, i => by
    have := fanL_len s last l (i + 1)
    simp only [fanL, List.length_append, List.length_cons]
    split <;> simp <;> omega
theorem fan_ok (qs : List Int) (s : Nat) (last : Int) (hn : on.length ≤ 24) (hq : qs.length ≤ 12) (hs : s < 2 ^ 63) (hl : ops.length + 12 ≤ 1000000) :
    W.lower_maker_parities_1 qs (s : Int) last f on Q B ops = some (ops ++ fanL on s last 0 qs, Q, B, f, on, last, (s : Int), qs, ()) := by
  unfold W.lower_maker_parities_1
  obtain ⟨x, h1, h2⟩ := iter_each (l := qs) (f := fun s_ => W.lower_maker_parities_1.c100001 qs (↑(List.length qs) : Int) (Prod.fst s_) (s : Int) last (Prod.fst (Prod.snd s_)) (Prod.fst (Prod.snd (Prod.snd s_))) (Prod.fst (Prod.snd (Prod.snd (Prod.snd s_)))) (Prod.fst (Prod.snd (Prod.snd (Prod.snd (Prod.snd s_))))) (Prod.snd (Prod.snd (Prod.snd (Prod.snd (Prod.snd s_))))) some)
    (fun pre r x => x = ((pre.length : Int), f, on, Q, B, ops ++ fanL on s last 0 pre))
    (fun x => x = ((qs.length : Int), f, on, Q, B, ops ++ fanL on s last 0 qs))
    (by
      intro pre a r x hx hp
      subst hp
      left
      have hlen : qs.length = pre.length + (r.length + 1) := by rw [hx]; simp
      refine ⟨_, ?_, rfl⟩
      have hlt : decide ((pre.length : Int) < (qs.length : Int)) = true := by rw [hlen]; simp; omega
      have hidx : idx qs (pre.length : Int) = some a := by rw [hx]; exact idx_mid
      have hfl := fanL_len (on := on) s last pre 0
      have hcx := cx_ok (f := f) (Q := Q) (B := B) (on := on) (ops := ops ++ fanL on s last 0 pre) a last hn (by rw [List.length_append]; omega)
      have hw : IntKind.i64.wrap ((pre.length : Int) + 1) = ((pre ++ [a]).length : Int) := by rw [wrap_i64 (by omega)]; simp
      have h0 : decide ((0 : Int) ≤ (pre.length : Int)) = true := by simp
      rw [fanL_app]
      simp only [W.lower_maker_parities_1.c100001, W.lower_maker_parities_1.c208200, W.lower_maker_parities_1.c3, hlt, hidx, bnd_val, br_tt, h0, okIf_true, bit_at s pre.length hs (by omega), hw]
      by_cases hb : s.testBit pre.length = true
      · rw [br_true hb]
        by_cases hd : a = last
        · rw [bnd_val, br_false (by simp [hd])]
          simp [bnd_val, fanL, hd]
        · rw [bnd_val, br_true (by simp [hd]), hcx]
          simp [bnd_val, fanL, hd, hb, cxL]
      · rw [br_false (by simpa using hb), bnd_val, br_ff]
        simp [bnd_val, fanL, hb])
    (by
      intro x hp
      subst hp
      exact ⟨_, by simp only [W.lower_maker_parities_1.c100001, show decide ((qs.length : Int) < (qs.length : Int)) = false by simp, br_ff], rfl⟩)
    (s := ((0 : Int), f, on, Q, B, ops)) (by simp [fanL])
  subst h2
  rw [h1]
  simp only [bnd_val]
theorem lastL_app (s : Nat) : ∀ (l : List Int) (i : Nat) (r : List Int) (x : Nat × Int), lastL s i (l ++ r) x = lastL s (i + l.length) r (lastL s i l x)
  | [], i, r, x => by simp [lastL]
  | q :: l, i, r, x => by
    simp only [List.cons_append, lastL, lastL_app s l (i + 1) r, List.length_cons]
    rw [show i + 1 + l.length = i + (l.length + 1) by omega]
theorem lastL_le (s : Nat) : ∀ (l : List Int) (i : Nat) (x : Nat × Int), (lastL s i l x).1 ≤ x.1 + l.length
  | [], i, x => by simp [lastL]
  | q :: l, i, x => by
    have := lastL_le s l (i + 1) (if s.testBit i = true then (x.1 + 1, q) else x)
    simp only [lastL, List.length_cons]
    split at this <;> rename_i hh <;> simp only [hh, if_true, if_false] <;> simp_all <;> omega
theorem last_ok (qs : List Int) (s : Nat) (hq : qs.length ≤ 12) (hs : s < 2 ^ 63) :
    iter (fun s_ ↦ W.lower_maker_parities.c100007 (Prod.fst s_) qs (↑(List.length qs) : Int) (Prod.fst (Prod.snd s_)) (s : Int) (Prod.snd (Prod.snd s_)) some) ((0 : Int), (0 : Int), (-1 : Int))
      = some (((lastL s 0 qs (0, -1)).1 : Int), (qs.length : Int), (lastL s 0 qs (0, -1)).2) := by
  obtain ⟨x, h1, h2⟩ := iter_each (l := qs) (f := fun s_ => W.lower_maker_parities.c100007 (Prod.fst s_) qs (↑(List.length qs) : Int) (Prod.fst (Prod.snd s_)) (s : Int) (Prod.snd (Prod.snd s_)) some)
    (fun pre r x => x = (((lastL s 0 pre (0, -1)).1 : Int), (pre.length : Int), (lastL s 0 pre (0, -1)).2))
    (fun x => x = (((lastL s 0 qs (0, -1)).1 : Int), (qs.length : Int), (lastL s 0 qs (0, -1)).2))
    (by
      intro pre a r x hx hp
      subst hp
      left
      have hlen : qs.length = pre.length + (r.length + 1) := by rw [hx]; simp
      refine ⟨_, ?_, rfl⟩
      have hlt : decide ((pre.length : Int) < (qs.length : Int)) = true := by rw [hlen]; simp; omega
      have hidx : idx qs (pre.length : Int) = some a := by rw [hx]; exact idx_mid
      have hw : IntKind.i64.wrap ((pre.length : Int) + 1) = ((pre ++ [a]).length : Int) := by rw [wrap_i64 (by omega)]; simp
      have h0 : decide ((0 : Int) ≤ (pre.length : Int)) = true := by simp
      have hle := lastL_le s pre 0 (0, -1)
      simp only [Nat.zero_add] at hle
      rw [lastL_app]
      simp only [W.lower_maker_parities.c100007, W.lower_maker_parities.c232778, hlt, hidx, bnd_val, br_tt, h0, okIf_true, bit_at s pre.length hs (by omega), hw]
      by_cases hb : s.testBit pre.length = true
      · rw [br_true hb, bnd_val]
        simp only [lastL, Nat.zero_add, hb, if_true]
        rw [wrap_i64 (by omega)]
        simp
      · rw [br_false (by simpa using hb), bnd_val]
        simp [lastL, hb])
    (by
      intro x hp
      subst hp
      exact ⟨_, by simp only [W.lower_maker_parities.c100007, show decide ((qs.length : Int) < (qs.length : Int)) = false by simp, br_ff], rfl⟩)
    (s := ((0 : Int), (0 : Int), (-1 : Int))) (by simp [lastL])
  subst h2
  rw [h1]
end
end Go.Ql
end

section
namespace Go.Ql
section
variable {f Q B : Int} {on : List Int} {ops : List Op}
theorem turnL_len (q k : Int) : (turnL on q k).length ≤ 1 := by unfold turnL; split <;> simp
theorem setL_len (qs : List Int) (k : Int) (s : Nat) : (setL on qs k s).length ≤ 2 * qs.length + 1 := by
  have h1 := fanL_len (on := on) s (lastL s 0 qs (0, -1)).2 qs 0
  have h2 := turnL_len (on := on) (lastL s 0 qs (0, -1)).2 (if (lastL s 0 qs (0, -1)).1 % 2 = 1 then k else - k)
  simp only [setL, List.length_append]
  omega
theorem setsL_len (qs : List Int) (k : Int) : ∀ n : Nat, (setsL on qs k n).length ≤ n * (2 * qs.length + 1)
  | 0 => by simp [setsL]
  | n + 1 => by
    have h1 := setsL_len qs k n
    have h2 := setL_len (on := on) qs k (n + 1)
    simp only [setsL, List.length_append, Nat.add_mul]
    omega
theorem pow_min (n : Nat) (h : n ≤ 62) : IntKind.i64.wrap ((1 : Int) * (2 : Int) ^ Min.min (Int.toNat (n : Int)) (64 : Nat)) = (2 : Int) ^ n := by
  rw [Int.toNat_natCast, Nat.min_eq_left (by omega), Int.one_mul]
  have h1 : (2 : Nat) ^ n ≤ 2 ^ 62 := Nat.pow_le_pow_right (by omega) h
  have h2 : ((2 ^ n : Nat) : Int) = (2 : Int) ^ n := by simp
  have h3 : (2 : Nat) ^ 62 = 4611686018427387904 := by decide
  rw [h3] at h1
  rw [← h2, wrap_i64 (by have := Int.natCast_nonneg (2 ^ n); omega)]
theorem turnif (k last : Int) (n : Nat) (hn : on.length ≤ 24) (hl : ops.length ≤ 1000000) (hk : -1000 ≤ k ∧ k ≤ 1000) :
    W.lower_maker_parities.c261445 k (n : Int) last f on Q B ops some = some (f, on, Q, B, ops ++ turnL on last (if n % 2 = 1 then k else - k)) := by
  simp only [W.lower_maker_parities.c261445, turn_ok _ _ hn hl, bnd_val, wrap_i64 (x := 0 - k) (by omega)]
  have h : Int.tmod (n : Int) 2 = ((n % 2 : Nat) : Int) := by
    rw [Int.tmod_eq_emod_of_nonneg (by omega)]; omega
  rw [h]
  by_cases h1 : n % 2 = 1
  · rw [br_true (by simp [h1]), if_pos h1]
  · rw [br_false (by simp; omega), if_neg h1, Int.zero_sub]
theorem par_ok (qs : List Int) (k : Int) (hn : on.length ≤ 24) (hq : 1 ≤ qs.length ∧ qs.length ≤ 4) (hk : -1000 ≤ k ∧ k ≤ 1000) (hl : ops.length + 200 ≤ 1000000) :
    W.lower_maker_parities qs k f on Q B ops = some (ops ++ parL on qs k, Q, B, f, on, ()) := by
  have hp : (2 : Nat) ^ qs.length ≤ 16 := Nat.le_trans (Nat.pow_le_pow_right (by omega) hq.2) (by decide)
  have hp0 : 0 < (2 : Nat) ^ qs.length := Nat.pow_pos (by omega)
  have hd : -1000 ≤ Int.tdiv k ((2 : Int) ^ (qs.length - 1)) ∧ Int.tdiv k ((2 : Int) ^ (qs.length - 1)) ≤ 1000 := by
    have h1 : (Int.tdiv k ((2 : Int) ^ (qs.length - 1))).natAbs ≤ k.natAbs := by
      rw [Int.natAbs_tdiv]; exact Nat.div_le_self _ _
    omega
  have hw1 : IntKind.i64.wrap ((qs.length : Int) - 1) = ((qs.length - 1 : Nat) : Int) := by rw [wrap_i64 (by omega)]; omega
  have hpow1 := pow_min (qs.length - 1) (by omega)
  have hpos : (2 : Int) ^ (qs.length - 1) ≠ 0 := by
    have : (0 : Int) < ((2 ^ (qs.length - 1) : Nat) : Int) := by have := Nat.pow_pos (n := qs.length - 1) (show 0 < 2 by omega); omega
    have h2 : ((2 ^ (qs.length - 1) : Nat) : Int) = (2 : Int) ^ (qs.length - 1) := by simp
    omega
  have hpow2 := pow_min qs.length (by omega)
  have hcast : (2 : Int) ^ qs.length = ((2 ^ qs.length : Nat) : Int) := by simp
  simp only [W.lower_maker_parities, hw1, hpow1]
  rw [okIf_true (by simp), bnd_val, okIf_true (by simpa using hpos), bnd_val]
  rw [wrap_i64 (x := Int.tdiv k ((2 : Int) ^ (qs.length - 1))) (by omega)]
  rw [iter_count (2 ^ qs.length - 1) (fun i => (qs, ((i + 1 : Nat) : Int), f, on, Q, B, ops ++ setsL on qs (Int.tdiv k ((2 : Int) ^ (qs.length - 1))) i))
    (qs, (((2 ^ qs.length - 1) + 1 : Nat) : Int), f, on, Q, B, ops ++ parL on qs k) ?step ?done (by simp [setsL])]
  · simp only [bnd_val]
  case step =>
    intro i hi
    have hsl := setsL_len (on := on) qs (Int.tdiv k ((2 : Int) ^ (qs.length - 1))) i
    have hsl2 : (setsL on qs (Int.tdiv k ((2 : Int) ^ (qs.length - 1))) i).length ≤ 135 := by
      refine Nat.le_trans hsl ?_
      exact Nat.le_trans (Nat.mul_le_mul (show i ≤ 15 by omega) (show 2 * qs.length + 1 ≤ 9 by omega)) (by decide)
    have hfl := fanL_len (on := on) (i + 1) (lastL (i + 1) 0 qs (0, -1)).2 qs 0
    have htl := turnL_len (on := on) (lastL (i + 1) 0 qs (0, -1)).2 (if (lastL (i + 1) 0 qs (0, -1)).1 % 2 = 1 then Int.tdiv k ((2 : Int) ^ (qs.length - 1)) else - Int.tdiv k ((2 : Int) ^ (qs.length - 1)))
    have hlt : decide (((i + 1 : Nat) : Int) < (2 : Int) ^ qs.length) = true := by rw [hcast]; simp; omega
    simp only [W.lower_maker_parities.c100003, W.lower_maker_parities.c3, hpow2]
    rw [okIf_true (by simp), bnd_val, bnd_val, hlt, br_tt, last_ok qs (i + 1) (by omega) (by omega), bnd_val]
    simp only
    rw [fan_ok qs (i + 1) _ hn (by omega) (by omega) (by rw [List.length_append]; omega), bnd_val]
    simp only
    rw [turnif _ _ _ hn (by simp only [List.length_append]; omega) hd, bnd_val]
    simp only
    rw [fan_ok qs (i + 1) _ hn (by omega) (by omega) (by simp only [List.length_append]; omega), bnd_val]
    simp only
    rw [wrap_i64 (by omega)]
    simp only [setsL, setL, List.append_assoc]
    congr 1
  case done =>
    have hge : decide ((((2 ^ qs.length - 1) + 1 : Nat) : Int) < (2 : Int) ^ qs.length) = false := by rw [hcast]; simp; omega
    simp only [W.lower_maker_parities.c100003, W.lower_maker_parities.c3, hpow2]
    rw [okIf_true (by simp), bnd_val, bnd_val, hge, br_ff]
    rfl
theorem parL_len (qs : List Int) (k : Int) (hq : qs.length ≤ 4) : (parL on qs k).length ≤ 135 := by
  have hp : (2 : Nat) ^ qs.length ≤ 16 := Nat.le_trans (Nat.pow_le_pow_right (by omega) hq) (by decide)
  refine Nat.le_trans (setsL_len _ _ _) ?_
  exact Nat.le_trans (Nat.mul_le_mul (show 2 ^ qs.length - 1 ≤ 15 by omega) (show 2 * qs.length + 1 ≤ 9 by omega)) (by decide)
theorem andL_len (a b s : Int) : (andL on a b s).length ≤ 137 := by
  have := parL_len (on := on) [a, b, s] 8 (by simp)
  simp only [andL, hL, List.length_append, List.length_singleton]
  omega
theorem and_ok (qs : List Int) (s : Int) (hn : on.length ≤ 24) (hq : 2 ≤ qs.length) (hl : ops.length + 400 ≤ 1000000) :
    W.lower_maker_product_1 f on Q B ops s qs = some (qs, s, ops ++ andL on (qs.getD 0 0) (qs.getD 1 0) s, Q, B, f, on, ()) := by
  have hp := parL_len (on := on) [qs.getD 0 0, qs.getD 1 0, s] 8 (by simp)
  simp only [W.lower_maker_product_1, W.lower_maker_product_1.c1]
  rw [h_ok s hn (by omega), bnd_val]
  simp only
  rw [idx_of 0 (by rfl) (by omega), bnd_val, idx_of 1 (by rfl) (by omega), bnd_val]
  rw [par_ok _ _ hn (by simp) (by omega) (by simp only [hL, List.length_append, List.length_singleton]; omega), bnd_val]
  simp only
  rw [bnd_val]
  simp only
  rw [h_ok s hn (by simp only [hL, List.length_append, List.length_singleton]; omega), bnd_val]
  simp only [andL, List.append_assoc]
theorem prodL_len (first k : Int) : ∀ (j : Nat) (qs : List Int), qs.length ≤ j + 4 → (prodL on first k j qs).length ≤ 274 * j + 135
  | 0, qs, h => by have := parL_len (on := on) qs k (by omega); simp only [prodL]; omega
  | j + 1, qs, h => by
    have h1 := andL_len (on := on) (qs.getD 0 0) (qs.getD 1 0) (first + j)
    have h2 := prodL_len first k j ((first + j) :: qs.drop 2) (by simp; omega)
    simp only [prodL, List.length_append]
    omega
end
theorem drop_take_len {l : List Int} : List.drop 2 (List.take (Int.toNat (↑(List.length l) : Int)) l) = l.drop 2 := by simp
theorem prod_fuel {f Q B : Int} {on : List Int} (k : Int) (hn : on.length ≤ 24) (hk : -1000 ≤ k ∧ k ≤ 1000) (hf : 0 ≤ f ∧ f ≤ 1000) :
    ∀ (m j : Nat) (qs : List Int) (ops : List Op), j < m → m ≤ 16 → j + 1 ≤ qs.length → qs.length ≤ j + 4 → ops.length + 274 * j + 700 ≤ 1000000 →
      (W.lower_maker_product_b.fuel m).F (qs, k, (j : Int), f, on, Q, B, ops, ()) = some (ops ++ prodL on f k j qs, Q, B, f, on, ()) := by
  intro m
  induction m with
  | zero => intro j qs ops h; omega
  | succ m ih =>
    intro j qs ops hj hm h1 h2 hl
    have hrun : (W.lower_maker_product_b.fuel (m + 1)).F (qs, k, (j : Int), f, on, Q, B, ops, ()) = @W.lower_maker_product_b (W.lower_maker_product_b.fuel m) qs k (j : Int) f on Q B ops := rfl
    rw [hrun]
    cases j with
    | zero =>
      unfold W.lower_maker_product_b
      rw [br_true (by simp)]
      exact bnd_of (par_ok qs k hn (by omega) hk (by omega)) rfl
    | succ j =>
      have hw : IntKind.i64.wrap (IntKind.i64.wrap (f + ((j + 1 : Nat) : Int)) - 1) = f + (j : Int) := by
        rw [wrap_i64 (x := f + ((j + 1 : Nat) : Int)) (by omega), wrap_i64 (by omega)]; omega
      have hw2 : IntKind.i64.wrap (((j + 1 : Nat) : Int) - 1) = (j : Int) := by rw [wrap_i64 (by omega)]; omega
      have ha := andL_len (on := on) (qs.getD 0 0) (qs.getD 1 0) (f + j)
      have hpl := prodL_len (on := on) f k j ((f + j) :: qs.drop 2) (by simp; omega)
      have hi := ih j ((f + j) :: qs.drop 2) (ops ++ andL on (qs.getD 0 0) (qs.getD 1 0) (f + j)) (by omega) (by omega) (by simp; omega) (by simp; omega) (by rw [List.length_append]; omega)
      unfold W.lower_maker_product_b
      rw [br_false (by simp; omega), hw]
      rw [and_ok qs (f + j) hn (by omega) (by omega), bnd_val]
      simp only [W.lower_maker_product_b.c6, drop_take_len]
      rw [okIf_true (by simp; omega), bnd_val, okIf_len (by simp; omega), bnd_val, hw2]
      simp only [List.singleton_append]
      refine bnd_of (bnd_of hi rfl) ?_
      simp only
      rw [and_ok qs (f + j) hn (by omega) (by simp only [List.length_append]; omega)]
      simp only [bnd_val, prodL, List.append_assoc]
theorem prod_ok {f Q B : Int} {on : List Int} {ops : List Op} (qs : List Int) (k : Int) (j : Nat) (hn : on.length ≤ 24) (hk : -1000 ≤ k ∧ k ≤ 1000) (hf : 0 ≤ f ∧ f ≤ 1000)
    (hj : j < 16) (h1 : j + 1 ≤ qs.length) (h2 : qs.length ≤ j + 4) (hl : ops.length + 6000 ≤ 1000000) :
    W.lower_maker_product (qs, k, (j : Int), f, on, Q, B, ops, ()) = some (ops ++ prodL on f k j qs, Q, B, f, on, ()) :=
  prod_fuel k hn hk hf 16 j qs ops hj (by omega) h1 h2 (by omega)
end Go.Ql
end

section
namespace Go.Ql
theorem spG_le (k : Int) : ∀ L : Nat, spG k L ≤ L
  | 0 => Nat.le_refl 0
  | L + 1 => by have := spG_le k L; simp only [spG]; split <;> omega
theorem spG_div (k : Int) : ∀ L : Nat, Int.tmod k ((2 : Int) ^ (L - spG k L)) = 0
  | 0 => by simp [spG]
  | L + 1 => by
    simp only [spG]
    split
    · assumption
    · rw [show L + 1 - (spG k L + 1) = L - spG k L by omega]; exact spG_div k L
theorem spG_not (k : Int) : ∀ (L j : Nat), j < spG k L → Int.tmod k ((2 : Int) ^ (L - j)) ≠ 0
  | 0, j, h => by simp [spG] at h
  | L + 1, j, h => by
    simp only [spG] at h
    split at h
    · omega
    · rename_i hh
      cases j with
      | zero => exact hh
      | succ j => rw [show L + 1 - (j + 1) = L - j by omega]; exact spG_not k L j (by omega)
theorem two_ne (n : Nat) : (2 : Int) ^ n ≠ 0 := by
  have : (0 : Int) < ((2 ^ n : Nat) : Int) := by have := Nat.pow_pos (n := n) (show 0 < 2 by omega); omega
  have h2 : ((2 ^ n : Nat) : Int) = (2 : Int) ^ n := by simp
  omega
theorem spG_zero : ∀ L : Nat, spG 0 L = 0
  | 0 => rfl
  | L + 1 => by simp [spG]
theorem spares_ok (o : Op) (hl : o.2.2.1.length ≤ 12) (h1 : o.1 = 1 → o.2.2.1 = []) : W.lower_spares o = some ((spO o : Nat) : Int) := by
  have hk : W.lower_spares.c208197 8 o.1 o.2.1 some = some (opK o) := by
    simp only [W.lower_spares.c208197, opK]
    by_cases h : o.1 = 4
    · rw [br_true (by simp [h]), if_pos h]
    · rw [br_false (by simp [h]), if_neg h]
  have hw : IntKind.i64.wrap ((o.2.2.1.length : Int) + 1) = ((o.2.2.1.length + 1 : Nat) : Int) := by rw [wrap_i64 (by omega)]; omega
  unfold W.lower_spares
  rw [hk, bnd_val, hw]
  unfold W.lower_spares.c4
  by_cases ha : o.2.2.1.length = 0
  · rw [br_true (by simp [ha]), bnd_val, br_tt]; simp [spO, ha, spG]
  · rw [br_false (by simp; omega)]
    by_cases hb : opK o = 0
    · rw [br_true (by simp [hb]), bnd_val, br_tt, spO, hb, spG_zero]; rfl
    · have hc : o.1 ≠ 1 := fun h => ha (by rw [h1 h]; rfl)
      rw [br_false (by simp [hb]), bnd_val, br_false (by simp [hc])]
      rw [iter_count (s0 := (0 : Int)) (spO o) (fun i => (i : Int)) ((spO o : Nat) : Int) ?step ?done rfl, bnd_val]
      case step =>
        intro i hi
        have hle := spG_le (opK o) o.2.2.1.length
        unfold spO at hi
        have h2 : IntKind.i64.wrap (IntKind.i64.wrap (((o.2.2.1.length + 1 : Nat) : Int) - (i : Int)) - 1) = ((o.2.2.1.length - i : Nat) : Int) := by
          rw [wrap_i64 (x := ((o.2.2.1.length + 1 : Nat) : Int) - (i : Int)) (by omega), wrap_i64 (by omega)]; omega
        simp only [W.lower_spares.c100007, h2, pow_min (o.2.2.1.length - i) (by omega)]
        rw [okIf_true (by simp), bnd_val, okIf_true (by simpa using two_ne _), bnd_val, br_true (by simpa using spG_not (opK o) _ i hi), wrap_i64 (by omega)]
        rfl
      case done =>
        have hle := spG_le (opK o) o.2.2.1.length
        have h2 : IntKind.i64.wrap (IntKind.i64.wrap (((o.2.2.1.length + 1 : Nat) : Int) - ((spO o : Nat) : Int)) - 1) = ((o.2.2.1.length - spO o : Nat) : Int) := by
          unfold spO
          rw [wrap_i64 (x := ((o.2.2.1.length + 1 : Nat) : Int) - ((spG (opK o) o.2.2.1.length : Nat) : Int)) (by omega), wrap_i64 (by omega)]; omega
        simp only [W.lower_spares.c100007, h2, pow_min (o.2.2.1.length - spO o) (by omega)]
        rw [okIf_true (by simp), bnd_val, okIf_true (by simpa using two_ne _), bnd_val, br_false (by simpa [spO] using spG_div (opK o) o.2.2.1.length)]
theorem rspares_ok (o : Op) (hl : o.2.2.1.length ≤ 12) : W.R_Spares o = some ((spO o : Nat) : Int) := by
  have hk : W.R_Spares.c216389 8 o.1 o.2.1 some = some (opK o) := by
    simp only [W.R_Spares.c216389, opK]
    by_cases h : o.1 = 4
    · rw [br_true (by simp [h]), if_pos h]
    · rw [br_false (by simp [h]), if_neg h]
  have hpart : ∀ j : Nat, j ≤ o.2.2.1.length → iter (fun s ↦ W.R_Spares.c100010 (j : Int) (Prod.fst s) (Prod.snd s) o.2.2.1 some) ((1 : Int), (0 : Int)) = some ((2 : Int) ^ (o.2.2.1.length - j), ((o.2.2.1.length - j : Nat) : Int)) := by
    intro j hj
    have hw : IntKind.i64.wrap ((o.2.2.1.length : Int) - (j : Int)) = ((o.2.2.1.length - j : Nat) : Int) := by rw [wrap_i64 (by omega)]; omega
    refine iter_count (o.2.2.1.length - j) (fun i => ((2 : Int) ^ i, (i : Int))) _ ?_ ?_ rfl
    · intro i hi
      have hp : (2 : Nat) ^ i ≤ 2 ^ 12 := Nat.pow_le_pow_right (by omega) (by omega)
      have h4 : (2 : Nat) ^ 12 = 4096 := by decide
      rw [h4] at hp
      have hc : (2 : Int) ^ i = ((2 ^ i : Nat) : Int) := by simp
      have hlt : decide ((i : Int) < ((o.2.2.1.length - j : Nat) : Int)) = true := by simp; omega
      simp only [W.R_Spares.c100010, hw, hlt, br_tt]
      rw [wrap_i64 (x := (2 : Int) ^ i * 2) (by rw [hc]; have := Int.natCast_nonneg (2 ^ i); omega), wrap_i64 (by omega), Int.pow_succ]
      rfl
    · simp only [W.R_Spares.c100010, hw]
      rw [br_neg (by omega)]
  unfold W.R_Spares
  by_cases ha : o.2.2.1.length = 0
  · rw [br_true (by simp [ha])]; simp [spO, ha, spG]
  · rw [br_false (by simpa using ha), hk, bnd_val]
    have hle := spG_le (opK o) o.2.2.1.length
    rw [iter_count (s0 := (0 : Int)) (spO o) (fun i => (i : Int)) (((spO o : Nat) : Int), ((spO o : Nat) : Int)) ?step ?done rfl, bnd_val]
    case step =>
      intro i hi
      unfold spO at hi
      simp only [W.R_Spares.c100008]
      rw [hpart i (by omega), bnd_val, okIf_true (by simpa using two_ne _), bnd_val, br_false (by simpa using spG_not (opK o) _ i hi), wrap_i64 (by omega)]
      rfl
    case done =>
      simp only [W.R_Spares.c100008]
      rw [hpart (spO o) (by unfold spO; exact hle), bnd_val, okIf_true (by simpa using two_ne _), bnd_val, br_true (by simpa [spO] using spG_div (opK o) o.2.2.1.length)]
theorem spO_room (o : Op) (hk : 1 ≤ opK o ∧ opK o ≤ 15) : spO o ≤ o.2.2.1.length ∧ o.2.2.1.length ≤ spO o + 3 := by
  refine ⟨spG_le _ _, ?_⟩
  have h := spG_div (opK o) o.2.2.1.length
  by_cases hh : o.2.2.1.length ≤ spO o + 3
  · exact hh
  · exfalso
    unfold spO at hh
    have h1 : (2 : Nat) ^ 4 ≤ 2 ^ (o.2.2.1.length - spG (opK o) o.2.2.1.length) := Nat.pow_le_pow_right (by omega) (by omega)
    have h2 : (2 : Int) ^ (o.2.2.1.length - spG (opK o) o.2.2.1.length) = ((2 ^ (o.2.2.1.length - spG (opK o) o.2.2.1.length) : Nat) : Int) := by simp
    rw [h2, Int.tmod_eq_of_lt (by omega) (by omega)] at h
    omega
section
variable {f Q B : Int} {ops : List Op}
theorem flip_ok (o : Op) (n : Nat) {on : List Int} (hn : on.length ≤ 24) (hf : 0 ≤ f ∧ f ≤ 1000) (h0 : o.2.2.1.length ≠ 0) (hs : n ≤ o.2.2.1.length ∧ o.2.2.1.length ≤ n + 3) (hj : n < 16) (hl : ops.length + 6100 ≤ 1000000) :
    W.lower_maker_flip o (n : Int) f on Q B ops = some (ops ++ flipL on f o n, Q, B, f, on, ()) := by
  simp only [W.lower_maker_flip, W.lower_maker_flip.c2, W.lower_maker_flip.c4, flipL]
  by_cases h : o.2.2.1.length = 1
  · rw [br_true (by simp [h]), if_pos h, idx_of (i := 0) 0 rfl (by omega), bnd_val, cx_ok _ _ hn (by omega), bnd_val]
    rfl
  · rw [br_false (by simp; omega), if_neg h, h_ok _ hn (by omega), bnd_val]
    have hp := prodL_len (on := on) f 8 n (o.2.2.1 ++ [o.2.2.2.1]) (by simp; omega)
    simp only
    rw [okIf_len (n := 0 + o.2.2.1.length) (k := 8) ⟨by omega, by omega⟩, bnd_val, okIf_len (n := o.2.2.1.length + 1) (k := 8) ⟨by omega, by omega⟩, bnd_val]
    refine bnd_of (bnd_of (prod_ok (o.2.2.1 ++ [o.2.2.2.1]) 8 n hn (by omega) hf hj (by simp; omega) (by simp; omega) (by simp only [hL, List.length_append, List.length_singleton]; omega)) rfl) ?_
    simp only
    rw [h_ok _ hn (by simp only [hL, List.length_append, List.length_singleton]; omega), bnd_val]
    simp only [List.append_assoc]
theorem flipL_len (o : Op) (n : Nat) {on : List Int} (hs : o.2.2.1.length ≤ n + 3) (hj : n < 16) : (flipL on f o n).length ≤ 5000 := by
  simp only [flipL]
  split
  · simp [cxL]
  · have hp := prodL_len (on := on) f 8 n (o.2.2.1 ++ [o.2.2.2.1]) (by simp; omega)
    simp only [hL, List.length_append, List.length_singleton]
    omega
theorem op_ok (o : Op) (hn : o.2.2.2.2.2.length ≤ 24) (hf : 0 ≤ f ∧ f ≤ 1000) (hc : o.2.2.1.length ≤ 12) (h1 : o.1 = 1 → o.2.2.1 = []) (hk : 0 ≤ o.2.1 ∧ o.2.1 ≤ 15) (hl : ops.length + 7000 ≤ 1000000) :
    W.lower_maker_op o f o.2.2.2.2.2 Q B ops = some (ops ++ opL f o, Q, B, f, o.2.2.2.2.2, ()) := by
  simp only [W.lower_maker_op]
  rw [show (o.1, o.2.1, o.2.2.1, o.2.2.2.1, o.2.2.2.2.1, o.2.2.2.2.2) = o from rfl, spares_ok o hc h1, bnd_val]
  unfold opL
  by_cases ha : o.2.2.1.length = 0
  · rw [br_true (by simp [ha]), if_pos ha, put_ok o hn (by omega), bnd_val]
  rw [br_false (by simpa using ha), if_neg ha]
  have hc11 : W.lower_maker_op.c11 o.1 o.2.1 some = some (decide (o.1 = 4 ∧ o.2.1 = 0)) := by
    simp only [W.lower_maker_op.c11]
    by_cases h : o.1 = 4
    · rw [br_true (by simp [h])]; congr 1; by_cases h' : o.2.1 = 0 <;> simp [h, h']
    · rw [br_false (by simp [h])]; simp [h]
  rw [hc11, bnd_val]
  by_cases hb : o.1 = 4 ∧ o.2.1 = 0
  · rw [br_pos hb, if_pos hb, List.append_nil]
  rw [br_neg hb, if_neg hb]
  have hopk : 1 ≤ opK o ∧ opK o ≤ 15 := by
    unfold opK
    by_cases h : o.1 = 4
    · rw [if_pos h]; omega
    · rw [if_neg h]; omega
  have hs := spO_room o hopk
  by_cases hd : o.1 = 4
  · rw [br_true (by simp [hd]), if_pos hd]
    simp only [W.lower_maker_op.c13]
    rw [okIf_len (n := 0 + o.2.2.1.length) (k := 8) ⟨by omega, by omega⟩, bnd_val, okIf_len (n := o.2.2.1.length + 1) (k := 8) ⟨by omega, by omega⟩, bnd_val]
    exact bnd_of (bnd_of (prod_ok (o.2.2.1 ++ [o.2.2.2.1]) o.2.1 (spO o) hn (by omega) hf (by omega) (by simp; omega) (by simp; omega) (by omega)) rfl) rfl
  rw [br_false (by simp [hd]), if_neg hd]
  by_cases he : o.1 = 2
  · rw [br_true (by simp [he]), if_pos he, flip_ok o (spO o) hn hf ha hs (by omega) (by omega), bnd_val]
  rw [br_false (by simp [he]), if_neg he]
  have hfl := flipL_len (f := f) o (spO o) (on := o.2.2.2.2.2) hs.2 (by omega)
  have t1 := turnL_len (on := o.2.2.2.2.2) o.2.2.2.1 4
  have t2 := turnL_len (on := o.2.2.2.2.2) o.2.2.2.1 2
  have t3 := turnL_len (on := o.2.2.2.2.2) o.2.2.2.1 (-2)
  rw [turn_ok _ _ hn (by omega), bnd_val]
  simp only
  rw [h_ok _ hn (by simp only [List.length_append]; omega), bnd_val]
  simp only
  rw [turn_ok _ _ hn (by simp only [hL, List.length_append, List.length_singleton]; omega), bnd_val]
  simp only
  rw [flip_ok o (spO o) hn hf ha hs (by omega) (by simp only [hL, List.length_append, List.length_singleton]; omega), bnd_val]
  simp only
  rw [turn_ok _ _ hn (by simp only [hL, List.length_append, List.length_singleton]; omega), bnd_val]
  simp only
  rw [h_ok _ hn (by simp only [hL, List.length_append, List.length_singleton]; omega), bnd_val]
  simp only
  rw [turn_ok _ _ hn (by simp only [hL, List.length_append, List.length_singleton]; omega), bnd_val]
  simp only [List.append_assoc]
end
end Go.Ql
end

section
namespace Go.Ql
def Gate (Q : Int) (on : List Int) (o : Op) : Prop :=
  ((o.1 = 3 ∧ o.2.1 = 0 ∧ o.2.2.1 = []) ∨ (o.1 = 4 ∧ 0 ≤ o.2.1 ∧ o.2.1 ≤ 15 ∧ o.2.2.1 = []) ∨ (o.1 = 2 ∧ o.2.1 = 0 ∧ ∃ a, o.2.2.1 = [a] ∧ 0 ≤ a ∧ a < Q ∧ a ≠ o.2.2.2.1)) ∧
  (0 ≤ o.2.2.2.1 ∧ o.2.2.2.1 < Q) ∧ o.2.2.2.2.1 = 0 ∧ o.2.2.2.2.2 = on
def Gates (Q : Int) (on : List Int) (l : List Op) : Prop := ∀ o ∈ l, Gate Q on o
def In (Q : Int) (l : List Int) : Prop := ∀ q ∈ l, 0 ≤ q ∧ q < Q
section
variable {Q : Int} {on : List Int}
theorem Gates.app {a b : List Op} (h : Gates Q on a) (h' : Gates Q on b) : Gates Q on (a ++ b) := by
  intro o ho
  rcases List.mem_append.mp ho with h1 | h1
  · exact h o h1
  · exact h' o h1
theorem Gates.nil : Gates Q on [] := by intro o ho; cases ho
theorem gate_one {o : Op} (h : Gate Q on o) : Gates Q on [o] := by
  intro o' ho
  rw [List.mem_singleton] at ho
  rw [ho]; exact h
theorem turn_gates {q : Int} (k : Int) (hq : 0 ≤ q ∧ q < Q) : Gates Q on (turnL on q k) := by
  unfold turnL
  split
  · exact Gates.nil
  · have h1 := Int.tmod_lt_of_pos k (show (0 : Int) < 16 by omega)
    have h2 : -16 < Int.tmod k 16 := by
      have := Int.tmod_lt_of_pos (-k) (show (0 : Int) < 16 by omega)
      rw [Int.neg_tmod] at this; omega
    have h3 := Int.tmod_lt_of_pos (Int.tmod k 16 + 16) (show (0 : Int) < 16 by omega)
    have h4 : 0 ≤ Int.tmod (Int.tmod k 16 + 16) 16 := Int.tmod_nonneg _ (by omega)
    exact gate_one ⟨.inr (.inl ⟨rfl, h4, Int.le_of_lt_add_one h3, rfl⟩), hq, rfl, rfl⟩
theorem h_gates {q : Int} (hq : 0 ≤ q ∧ q < Q) : Gates Q on (hL on q) := gate_one ⟨.inl ⟨rfl, rfl, rfl⟩, hq, rfl, rfl⟩
theorem cx_gates {a q : Int} (ha : 0 ≤ a ∧ a < Q) (hq : 0 ≤ q ∧ q < Q) (h : a ≠ q) : Gates Q on (cxL on a q) :=
  gate_one ⟨.inr (.inr ⟨rfl, rfl, a, rfl, ha.1, ha.2, h⟩), hq, rfl, rfl⟩
theorem fan_gates {s : Nat} {last : Int} (h : 0 ≤ last ∧ last < Q) : ∀ (l : List Int) (i : Nat), In Q l → Gates Q on (fanL on s last i l)
  | [], _, _ => Gates.nil
  | q :: l, i, hl => by
    refine Gates.app ?_ (fan_gates h l (i + 1) (fun x hx => hl x (List.mem_cons_of_mem _ hx)))
    split
    · rename_i hh
      exact cx_gates (hl q (List.mem_cons_self ..)) h hh.2
    · exact Gates.nil
def Hit (s : Nat) : Nat → List Int → Prop
  | _, [] => False
  | i, _ :: t => s.testBit i = true ∨ Hit s (i + 1) t
theorem last_mem (s : Nat) : ∀ (l : List Int) (i : Nat) (x : Nat × Int), (Hit s i l → (lastL s i l x).2 ∈ l) ∧ (¬ Hit s i l → lastL s i l x = x)
  | [], i, x => by simp [Hit, lastL]
  | q :: l, i, x => by
    have h1 := last_mem s l (i + 1) (if s.testBit i = true then (x.1 + 1, q) else x)
    simp only [Hit, lastL]
    refine ⟨fun h => ?_, fun h => ?_⟩
    · by_cases h2 : Hit s (i + 1) l
      · exact List.mem_cons_of_mem _ (h1.1 h2)
      · rw [h1.2 h2]
        rcases h with h | h
        · rw [if_pos h]; exact List.mem_cons_self ..
        · exact absurd h h2
    · rw [h1.2 (fun h2 => h (.inr h2)), if_neg (fun h2 => h (.inl h2))]
theorem hit_of : ∀ (l : List Int) (i s : Nat), (∃ j, i ≤ j ∧ j < i + l.length ∧ s.testBit j = true) → Hit s i l
  | [], i, s, ⟨j, h1, h2, _⟩ => by simp at h2; omega
  | _ :: l, i, s, ⟨j, h1, h2, h3⟩ => by
    simp only [List.length_cons] at h2
    by_cases h : j = i
    · exact .inl (h ▸ h3)
    · exact .inr (hit_of l (i + 1) s ⟨j, by omega, by omega, h3⟩)
theorem hit_lt {l : List Int} {s : Nat} (h0 : 0 < s) (h : s < 2 ^ l.length) : Hit s 0 l := by
  obtain ⟨j, hj⟩ := Nat.exists_testBit_of_ne_zero (show s ≠ 0 by omega)
  refine hit_of l 0 s ⟨j, by omega, ?_, hj⟩
  have := Nat.ge_two_pow_of_testBit hj
  have h2 : 2 ^ j < 2 ^ l.length := by omega
  have := (Nat.pow_lt_pow_iff_right (show 1 < 2 by omega)).mp h2
  omega
def popN (s : Nat) : Nat → Nat → Nat
  | _, 0 => 0
  | i, n + 1 => (if s.testBit i = true then 1 else 0) + popN s (i + 1) n
theorem fan_pop (s : Nat) (last : Int) : ∀ (l : List Int) (i : Nat), (fanL on s last i l).length ≤ popN s i l.length
  | [], i => by simp [fanL]
  | q :: l, i => by
    have := fan_pop s last l (i + 1)
    simp only [fanL, List.length_append, List.length_cons, popN]
    by_cases h : s.testBit i = true
    · by_cases h2 : q = last <;> simp [h, h2] <;> omega
    · simp [h]; omega
theorem fan_less' (s : Nat) : ∀ (l : List Int) (i : Nat) (x : Nat × Int) (z : Int), Hit s i l → (lastL s i l x).2 = z → (fanL on s z i l).length + 1 ≤ popN s i l.length
  | [], i, x, z, h, _ => h.elim
  | q :: l, i, x, z, h, hz => by
    simp only [lastL] at hz
    simp only [fanL, List.length_append, List.length_cons, popN]
    by_cases h2 : Hit s (i + 1) l
    · have h3 := fan_less' s l (i + 1) _ z h2 hz
      by_cases h4 : s.testBit i = true
      · rw [if_pos h4]
        by_cases h5 : q = z <;> simp [h4, h5] <;> omega
      · simpa [h4] using h3
    · rcases h with h | h
      · rw [(last_mem s l (i + 1) _).2 h2, if_pos h] at hz
        simp only at hz
        subst hz
        have h3 := fan_pop (on := on) s q l (i + 1)
        simp [h]
        omega
      · exact absurd h h2
theorem fan_less (s : Nat) (l : List Int) (i : Nat) (x : Nat × Int) (h : Hit s i l) : (fanL on s (lastL s i l x).2 i l).length + 1 ≤ popN s i l.length := fan_less' s l i x _ h rfl
def cntN (n : Nat) : Nat → Nat
  | 0 => 0
  | s + 1 => cntN n s + (2 * popN (s + 1) 0 n - 1)
theorem sets_count (qs : List Int) (k : Int) : ∀ s : Nat, s < 2 ^ qs.length → (setsL on qs k s).length ≤ cntN qs.length s
  | 0, _ => by simp [setsL]
  | s + 1, h => by
    have h1 := sets_count qs k s (by omega)
    have h2 := fan_less (on := on) (s + 1) qs 0 (0, -1) (hit_lt (by omega) h)
    have h3 := turnL_len (on := on) (lastL (s + 1) 0 qs (0, -1)).2 (if (lastL (s + 1) 0 qs (0, -1)).1 % 2 = 1 then k else - k)
    simp only [setsL, setL, List.length_append, cntN]
    omega
theorem sets_gates (qs : List Int) (k : Int) (hq : In Q qs) : ∀ s : Nat, s < 2 ^ qs.length → Gates Q on (setsL on qs k s)
  | 0, _ => Gates.nil
  | s + 1, h => by
    have hin := hq _ ((last_mem (s + 1) qs 0 (0, -1)).1 (hit_lt (by omega) h))
    exact Gates.app (sets_gates qs k hq s (by omega)) (Gates.app (fan_gates hin qs 0 hq) (Gates.app (turn_gates _ hin) (fan_gates hin qs 0 hq)))
theorem par_gates (qs : List Int) (k : Int) (hq : In Q qs) : Gates Q on (parL on qs k) :=
  sets_gates qs _ hq _ (by have := Nat.pow_pos (n := qs.length) (show 0 < 2 by omega); omega)
def parN (n : Nat) : Nat := cntN n (2 ^ n - 1)
theorem par_count (qs : List Int) (k : Int) : (parL on qs k).length ≤ parN qs.length :=
  sets_count qs _ _ (by have := Nat.pow_pos (n := qs.length) (show 0 < 2 by omega); omega)
theorem and_gates {a b s : Int} (ha : 0 ≤ a ∧ a < Q) (hb : 0 ≤ b ∧ b < Q) (hs : 0 ≤ s ∧ s < Q) : Gates Q on (andL on a b s) :=
  Gates.app (h_gates hs) (Gates.app (par_gates _ _ (by intro q hq; simp at hq; rcases hq with rfl | rfl | rfl <;> assumption)) (h_gates hs))
theorem and_count (a b s : Int) : (andL on a b s).length ≤ 19 := by
  have h := par_count (on := on) [a, b, s] 8
  have h2 : parN [a, b, s].length = 17 := by simp; decide
  simp only [andL, hL, List.length_append, List.length_singleton]
  omega
theorem In.get {l : List Int} (h : In Q l) (i : Nat) (hi : i < l.length) : 0 ≤ l.getD i 0 ∧ l.getD i 0 < Q := by
  have : l.getD i 0 = l[i] := by simp [hi]
  rw [this]; exact h _ (List.getElem_mem hi)
theorem prod_gates (f k : Int) (hf : 0 ≤ f) : ∀ (j : Nat) (qs : List Int), In Q qs → j + 1 ≤ qs.length → f + j ≤ Q → Gates Q on (prodL on f k j qs)
  | 0, qs, hq, _, _ => par_gates qs k hq
  | j + 1, qs, hq, hl, hj => by
    have hs : 0 ≤ f + (j : Int) ∧ f + (j : Int) < Q := by omega
    have ha := and_gates (on := on) (hq.get 0 (by omega)) (hq.get 1 (by omega)) hs
    refine Gates.app ha (Gates.app (prod_gates f k hf j ((f + j) :: qs.drop 2) ?_ (by simp; omega) (by omega)) ha)
    intro q hm
    rcases List.mem_cons.mp hm with h | h
    · rw [h]; exact hs
    · exact hq q (List.mem_of_mem_drop h)
theorem prod_count (f k : Int) : ∀ (j : Nat) (qs : List Int), j + 1 ≤ qs.length → (prodL on f k j qs).length ≤ 38 * j + parN (qs.length - j)
  | 0, qs, _ => by simpa [prodL] using par_count (on := on) qs k
  | j + 1, qs, hl => by
    have h1 := prod_count f k j ((f + j) :: qs.drop 2) (by simp; omega)
    have h2 := and_count (on := on) (qs.getD 0 0) (qs.getD 1 0) (f + j)
    have h3 : ((f + (j : Int)) :: qs.drop 2).length - j = qs.length - (j + 1) := by simp; omega
    rw [h3] at h1
    simp only [prodL, List.length_append]
    omega
theorem parN_vals : parN 1 = 1 ∧ parN 2 = 5 ∧ parN 3 = 17 ∧ parN 4 = 49 := by decide
theorem prod_few (f k : Int) (j : Nat) (qs : List Int) (hl : j + 1 ≤ qs.length) (h4 : qs.length ≤ j + 4) (h12 : qs.length + j ≤ 12) : (prodL on f k j qs).length ≤ 201 := by
  have h1 := prod_count (on := on) f k j qs hl
  have hv := parN_vals
  have : qs.length - j = 1 ∨ qs.length - j = 2 ∨ qs.length - j = 3 ∨ qs.length - j = 4 := by omega
  rcases this with h | h | h | h <;> rw [h] at h1 <;> omega
end
end Go.Ql
end

section
namespace Go.Ql
theorem nodup_len : ∀ (n : Nat) {l : List Int}, l.Nodup → (∀ x ∈ l, 0 ≤ x ∧ x < n) → l.length ≤ n
  | 0, l, _, h => by
    cases l with
    | nil => simp
    | cons x l => have := h x (List.mem_cons_self ..); omega
  | n + 1, l, hd, h => by
    have h1 : (l.erase (n : Int)).length ≤ n := by
      refine nodup_len n (hd.erase _) (fun x hx => ?_)
      have h2 := h x (List.mem_of_mem_erase hx)
      have h3 : x ≠ n := fun he => by
        subst he
        exact (hd.not_mem_erase) hx
      omega
    have h2 : l.length ≤ (l.erase (n : Int)).length + 1 := by
      rw [List.length_erase]; split <;> omega
    omega
def Basic (o : Op) : Prop := o.2.2.1.length = 0 ∨ (o.1 = 2 ∧ o.2.2.1.length = 1)
instance (o : Op) : Decidable (Basic o) := by unfold Basic; infer_instance
theorem gate_good {Q bn : Int} {on : List Int} {o : Op} (h : Gate Q on o) (h24 : on.length ≤ 24) (hb : ¬ ifBad bn on) : GoodOp o Q bn ∧ Basic o ∧ o.1 ≤ 4 := by
  obtain ⟨h1, h2, h3, h4⟩ := h
  have hifs : o.2.2.2.2.2.length ≤ 24 ∧ ¬ ifBad bn o.2.2.2.2.2 := by rw [h4]; exact ⟨h24, hb⟩
  rcases h1 with ⟨a1, a2, a3⟩ | ⟨a1, a2, a3, a4⟩ | ⟨a1, a2, a, a3, a4, a5, a6⟩
  · exact ⟨⟨by omega, by omega, .inr a2, h2, by omega, .inl a3, by rw [a3]; rfl, .inr ⟨by omega, h3⟩, hifs.1, hifs.2⟩, .inl (by rw [a3]; rfl), by omega⟩
  · exact ⟨⟨by omega, by omega, .inl (.inr a1), h2, by omega, .inl a4, by rw [a4]; rfl, .inr ⟨by omega, h3⟩, hifs.1, hifs.2⟩, .inl (by rw [a4]; rfl), by omega⟩
  · refine ⟨⟨by omega, by omega, .inr a2, h2, by omega, .inr (.inl a1), ?_, .inr ⟨by omega, h3⟩, hifs.1, hifs.2⟩, .inr ⟨a1, by rw [a3]; rfl⟩, by omega⟩
    rw [a3, ctlBad_zero]
    refine ⟨fun q hq => ?_, by simp⟩
    rw [List.mem_singleton] at hq
    subst hq
    exact ⟨a4, a5, a6, by simp⟩
def mt : List Op → Nat
  | [] => 0
  | o :: l => (if 5 ≤ o.1 then 1 else 0) + mt l
theorem mt_app : ∀ a b : List Op, mt (a ++ b) = mt a + mt b
  | [], b => by simp [mt]
  | o :: a, b => by simp only [List.cons_append, mt, mt_app a b]; omega
theorem mt_zero : ∀ {l : List Op}, (∀ o ∈ l, o.1 ≤ 4) → mt l = 0
  | [], _ => rfl
  | o :: l, h => by
    have h1 := h o (List.mem_cons_self ..)
    simp only [mt, mt_zero (fun x hx => h x (List.mem_cons_of_mem _ hx))]
    rw [if_neg (by omega)]
def room (o : Op) : Nat := 1 + if o.2.2.1.length = 0 then 0 else 220
structure Fine (Q bn : Int) (o : Op) (e : List Op) : Prop where
  good : ∀ x ∈ e, GoodOp x Q bn ∧ Basic x
  few : e.length ≤ room o
  meets : mt e = mt [o]
theorem goodOp_nil {o : Op} {qn bn Q : Int} (h : GoodOp o qn bn) (hq : qn ≤ Q) (h0 : o.2.2.1.length = 0) : GoodOp o Q bn := by
  have h0' : o.2.2.1 = [] := List.length_eq_zero_iff.mp h0
  exact ⟨h.kind, h.k, h.k0, ⟨h.q.1, by have := h.q.2; omega⟩, h.q0, h.ctl, by rw [h0']; rfl, h.bit, h.ifs, h.cond⟩
theorem goodOp_ctl {o : Op} {qn bn : Int} (h : GoodOp o qn bn) : (o.2.2.2.1 :: o.2.2.1).Nodup ∧ In qn (o.2.2.2.1 :: o.2.2.1) := by
  have h1 := ctlBad_zero.mp h.ctls
  refine ⟨?_, ?_⟩
  · rw [List.nodup_cons]
    exact ⟨fun hm => (h1.1 _ hm).2.2.1 rfl, h1.2⟩
  · intro q hq
    rcases List.mem_cons.mp hq with hh | hh
    · rw [hh]; exact h.q
    · exact ⟨(h1.1 q hh).1, (h1.1 q hh).2.1⟩
theorem goodOp_len {o : Op} {qn bn : Int} (h : GoodOp o qn bn) : (o.2.2.1.length : Int) + 1 ≤ qn := by
  have h1 := goodOp_ctl h
  have h2 := h.q
  obtain ⟨n, hn⟩ := Int.eq_ofNat_of_zero_le (show 0 ≤ qn by omega)
  have h3 := nodup_len n h1.1 (by intro x hx; have := h1.2 x hx; omega)
  simp only [List.length_cons] at h3
  omega
theorem In.mono {Q Q' : Int} {l : List Int} (h : In Q l) (hq : Q ≤ Q') : In Q' l := fun q hm => ⟨(h q hm).1, by have := (h q hm).2; omega⟩
theorem op_fine {o : Op} {qn bn Q : Int} (h : GoodOp o qn bn) (h0 : 0 ≤ qn) (hs : qn + (spO o : Nat) ≤ Q) (hQ : Q ≤ 12) : Fine Q bn o (opL qn o) := by
  unfold opL
  by_cases ha : o.2.2.1.length = 0
  · rw [if_pos ha]
    refine ⟨fun x hx => ?_, by simp [room], rfl⟩
    rw [List.mem_singleton] at hx
    rw [hx]
    exact ⟨goodOp_nil h (by omega) ha, .inl ha⟩
  rw [if_neg ha]
  have hc : o.2.2.1 ≠ [] := fun hh => ha (by rw [hh]; rfl)
  have hkind := h.ctl.resolve_left hc
  have hmt : mt [o] = 0 := mt_zero (by intro x hx; rw [List.mem_singleton] at hx; rw [hx]; omega)
  have hlen := goodOp_len h
  have hin : In Q (o.2.2.1 ++ [o.2.2.2.1]) := by
    intro q hq
    have := (goodOp_ctl h).2.mono (show qn ≤ Q by omega)
    rcases List.mem_append.mp hq with hh | hh
    · exact this q (List.mem_cons_of_mem _ hh)
    · rw [List.mem_singleton] at hh; rw [hh]; exact this _ (List.mem_cons_self ..)
  have hqQ : 0 ≤ o.2.2.2.1 ∧ o.2.2.2.1 < Q := hin _ (by simp)
  have hroom : room o = 221 := by simp [room, ha]
  have close : ∀ e : List Op, Gates Q o.2.2.2.2.2 e → e.length ≤ 221 → Fine Q bn o e := fun e hg he =>
    ⟨fun x hx => ⟨(gate_good (hg x hx) h.ifs h.cond).1, (gate_good (hg x hx) h.ifs h.cond).2.1⟩, by rw [hroom]; exact he, by rw [hmt]; exact mt_zero (fun x hx => (gate_good (hg x hx) h.ifs h.cond).2.2)⟩
  by_cases hb : o.1 = 4 ∧ o.2.1 = 0
  · rw [if_pos hb]; exact close [] Gates.nil (by simp)
  rw [if_neg hb]
  have hopk : 1 ≤ opK o ∧ opK o ≤ 15 := by
    have := h.k
    unfold opK
    by_cases hh : o.1 = 4
    · rw [if_pos hh]; omega
    · rw [if_neg hh]; omega
  have hsp := spO_room o hopk
  have hpg : ∀ k, Gates Q o.2.2.2.2.2 (prodL o.2.2.2.2.2 qn k (spO o) (o.2.2.1 ++ [o.2.2.2.1])) := fun k => prod_gates qn k h0 _ _ hin (by simp; omega) hs
  have hpf : ∀ k, (prodL o.2.2.2.2.2 qn k (spO o) (o.2.2.1 ++ [o.2.2.2.1])).length ≤ 201 := fun k => prod_few qn k _ _ (by simp; omega) (by simp; omega) (by simp; omega)
  by_cases hd : o.1 = 4
  · rw [if_pos hd]; exact close _ (hpg _) (by have := hpf o.2.1; omega)
  rw [if_neg hd]
  have hflip : Gates Q o.2.2.2.2.2 (flipL o.2.2.2.2.2 qn o (spO o)) ∧ (flipL o.2.2.2.2.2 qn o (spO o)).length ≤ 203 := by
    unfold flipL
    by_cases he : o.2.2.1.length = 1
    · rw [if_pos he]
      have hm : o.2.2.1.getD 0 0 ∈ o.2.2.1 := by
        have : o.2.2.1.getD 0 0 = o.2.2.1[0]'(by omega) := by simp [he]
        rw [this]; exact List.getElem_mem _
      have h1 := (ctlBad_zero.mp h.ctls).1 _ hm
      exact ⟨cx_gates ⟨h1.1, by omega⟩ hqQ h1.2.2.1, by simp [cxL]⟩
    · rw [if_neg he]
      have := hpf 8
      exact ⟨Gates.app (h_gates hqQ) (Gates.app (hpg 8) (h_gates hqQ)), by simp only [hL, List.length_append, List.length_singleton]; omega⟩
  by_cases he : o.1 = 2
  · rw [if_pos he]; exact close _ hflip.1 (by omega)
  rw [if_neg he]
  refine close _ (Gates.app (turn_gates _ hqQ) (Gates.app (h_gates hqQ) (Gates.app (turn_gates _ hqQ) (Gates.app hflip.1 (Gates.app (turn_gates _ hqQ) (Gates.app (h_gates hqQ) (turn_gates _ hqQ))))))) ?_
  have t1 := turnL_len (on := o.2.2.2.2.2) o.2.2.2.1 4
  have t2 := turnL_len (on := o.2.2.2.2.2) o.2.2.2.1 2
  have t3 := turnL_len (on := o.2.2.2.2.2) o.2.2.2.1 (-2)
  have t4 := turnL_len (on := o.2.2.2.2.2) o.2.2.2.1 (-4)
  simp only [hL, List.length_append, List.length_singleton]
  omega
end Go.Ql
end

section
namespace Go.Ql
def szF : List Op → Nat
  | [] => 0
  | o :: l => (if o.2.2.1.length = 0 then 0 else 220) + szF l
def mxF : List Op → Nat
  | [] => 0
  | o :: l => Max.max (spO o) (mxF l)
theorem szF_app : ∀ a b : List Op, szF (a ++ b) = szF a + szF b
  | [], b => by simp [szF]
  | o :: a, b => by simp only [List.cons_append, szF, szF_app a b]; omega
theorem mxF_app : ∀ a b : List Op, mxF (a ++ b) = Max.max (mxF a) (mxF b)
  | [], b => by simp [mxF]
  | o :: a, b => by simp only [List.cons_append, mxF, mxF_app a b]; omega
theorem mxF_mem : ∀ {l : List Op} {o : Op}, o ∈ l → spO o ≤ mxF l
  | a :: l, o, h => by
    rcases List.mem_cons.mp h with hh | hh
    · rw [hh]; simp only [mxF]; omega
    · have := mxF_mem hh; simp only [mxF]; omega
theorem mxF_le {n : Nat} : ∀ {l : List Op}, (∀ o ∈ l, spO o ≤ n) → mxF l ≤ n
  | [], _ => by simp [mxF]
  | a :: l, h => by
    have h1 := h a (List.mem_cons_self ..)
    have h2 := mxF_le (fun x hx => h x (List.mem_cons_of_mem a hx))
    simp only [mxF]; omega
theorem szF_le : ∀ l : List Op, szF l ≤ 220 * l.length
  | [] => by simp [szF]
  | a :: l => by have := szF_le l; simp only [szF, List.length_cons]; split <;> omega
def lowF (c : Cir) : Int × Int :=
  if (chk c).1 ≠ 0 then chk c
  else if 4096 < c.2.2.length + szF c.2.2 then (21, 0)
  else if 12 < c.1 + (mxF c.2.2 : Int) then (36, 0) else (0, 0)
def baseL (c : Cir) : Cir := (c.1 + (mxF c.2.2 : Int), c.2.1, c.2.2.flatMap (opL c.1))
def baseA (c : Cir) : Cir := if (lowF c).1 ≠ 0 then (0, 0, []) else baseL c

theorem good_len {o : Op} {qn bn : Int} (h : GoodOp o qn bn) (hq : qn ≤ 12) : o.2.2.1.length ≤ 12 := by have := goodOp_len h; omega
theorem good_sp {o : Op} {qn bn : Int} (h : GoodOp o qn bn) (hq : qn ≤ 12) : spO o ≤ 12 := by
  have := good_len h hq
  have := spG_le (opK o) o.2.2.1.length
  unfold spO; omega
theorem good_one {o : Op} {qn bn : Int} (h : GoodOp o qn bn) : o.1 = 1 → o.2.2.1 = [] := fun h1 => by
  rcases h.ctl with hh | hh
  · exact hh
  · omega
section
variable {c : Cir}
theorem base_size (hg : GoodC c) :
    iter (fun s ↦ W.lower_Base.c100006 (Prod.fst s) (Prod.fst (Prod.snd s)) c.2.2 (↑(List.length c.2.2) : Int) (Prod.snd (Prod.snd s)) some) ((↑(List.length c.2.2) : Int), (0 : Int), (0 : Int))
      = some (((c.2.2.length + szF c.2.2 : Nat) : Int), ((mxF c.2.2 : Nat) : Int), (c.2.2.length : Int)) := by
  have hgo : ∀ o ∈ c.2.2, GoodOp o c.1 c.2.1 := fun o ho => goodOp_of (hg.ops o ho)
  have hn := hg.n
  obtain ⟨x, h1, h2⟩ := iter_each (l := c.2.2) (f := fun s => W.lower_Base.c100006 (Prod.fst s) (Prod.fst (Prod.snd s)) c.2.2 (↑(List.length c.2.2) : Int) (Prod.snd (Prod.snd s)) some)
    (fun pre r x => x = (((c.2.2.length + szF pre : Nat) : Int), ((mxF pre : Nat) : Int), (pre.length : Int)))
    (fun x => x = (((c.2.2.length + szF c.2.2 : Nat) : Int), ((mxF c.2.2 : Nat) : Int), (c.2.2.length : Int)))
    (by
      intro pre a r x hx hp
      subst hp
      left
      have hlen : c.2.2.length = pre.length + (r.length + 1) := by rw [hx]; simp
      refine ⟨_, ?_, rfl⟩
      have hlt : decide ((pre.length : Int) < (c.2.2.length : Int)) = true := by rw [hlen]; simp; omega
      have hidx : idx c.2.2 (pre.length : Int) = some a := by rw [hx]; exact idx_mid
      have hw : IntKind.i64.wrap ((pre.length : Int) + 1) = ((pre ++ [a]).length : Int) := by rw [wrap_i64 (by omega)]; simp
      have ha := hgo a (by rw [hx]; simp)
      have hz := szF_le pre
      simp only [W.lower_Base.c100006, hlt, br_tt, hidx, bnd_val, W.lower_Base.c232773, hw]
      rw [show (a.1, a.2.1, a.2.2.1, a.2.2.2.1, a.2.2.2.2.1, a.2.2.2.2.2) = a from rfl, spares_ok a (good_len ha hg.q.2) (good_one ha)]
      rw [szF_app, mxF_app]
      have hmax : Max.max ((mxF pre : Nat) : Int) ((spO a : Nat) : Int) = ((Max.max (mxF pre) (mxF [a]) : Nat) : Int) := by simp only [mxF]; omega
      by_cases h0 : a.2.2.1.length = 0
      · rw [br_neg (by omega), bnd_val, bnd_val, hmax]
        simp [szF, h0]
      · rw [br_pos (by omega), bnd_val, bnd_val, wrap_i64 (by omega), hmax]
        simp [szF, h0]
        omega)
    (by
      intro x hp
      subst hp
      exact ⟨_, by simp only [W.lower_Base.c100006, show decide ((c.2.2.length : Int) < (c.2.2.length : Int)) = false by simp, br_ff], rfl⟩)
    (s := ((↑(List.length c.2.2) : Int), (0 : Int), (0 : Int))) (by simp [szF, mxF])
  subst h2
  rw [h1]
theorem fault_size (hg : GoodC c) :
    iter (fun s ↦ W.R_LowerFault.c100007 (Prod.fst s) (Prod.fst (Prod.snd s)) (Prod.snd (Prod.snd s)) c.2.2 some) ((↑(List.length c.2.2) : Int), (0 : Int), (0 : Int))
      = some (((c.2.2.length + szF c.2.2 : Nat) : Int), ((mxF c.2.2 : Nat) : Int), (c.2.2.length : Int)) := by
  have hgo : ∀ o ∈ c.2.2, GoodOp o c.1 c.2.1 := fun o ho => goodOp_of (hg.ops o ho)
  have hn := hg.n
  obtain ⟨x, h1, h2⟩ := iter_each (l := c.2.2) (f := fun s => W.R_LowerFault.c100007 (Prod.fst s) (Prod.fst (Prod.snd s)) (Prod.snd (Prod.snd s)) c.2.2 some)
    (fun pre r x => x = (((c.2.2.length + szF pre : Nat) : Int), ((mxF pre : Nat) : Int), (pre.length : Int)))
    (fun x => x = (((c.2.2.length + szF c.2.2 : Nat) : Int), ((mxF c.2.2 : Nat) : Int), (c.2.2.length : Int)))
    (by
      intro pre a r x hx hp
      subst hp
      left
      have hlen : c.2.2.length = pre.length + (r.length + 1) := by rw [hx]; simp
      refine ⟨_, ?_, rfl⟩
      have hlt : decide ((pre.length : Int) < (c.2.2.length : Int)) = true := by rw [hlen]; simp; omega
      have hidx : idx c.2.2 (pre.length : Int) = some a := by rw [hx]; exact idx_mid
      have hw : IntKind.i64.wrap ((pre.length : Int) + 1) = ((pre ++ [a]).length : Int) := by rw [wrap_i64 (by omega)]; simp
      have ha := hgo a (by rw [hx]; simp)
      have hz := szF_le pre
      simp only [W.R_LowerFault.c100007, W.R_LowerFault.c236878, W.R_LowerFault.c236869, hlt, br_tt, hidx, bnd_val, hw]
      rw [rspares_ok a (good_len ha hg.q.2)]
      rw [szF_app, mxF_app]
      have hsz : (br (decide ((a.2.2.1.length : Int) > 0)) (some (IntKind.i64.wrap (((c.2.2.length + szF pre : Nat) : Int) + 220))) (some ((c.2.2.length + szF pre : Nat) : Int))) = some ((c.2.2.length + (szF pre + szF [a]) : Nat) : Int) := by
        by_cases h0 : a.2.2.1.length = 0
        · rw [br_neg (by omega)]; simp [szF, h0]
        · rw [br_pos (by omega), wrap_i64 (by omega)]; simp [szF, h0]; omega
      rw [hsz, bnd_val, bnd_val]
      by_cases h0 : mxF pre < spO a
      · rw [br_pos (by omega), bnd_val, show Max.max (mxF pre) (mxF [a]) = spO a by simp only [mxF]; omega]
      · rw [br_neg (by omega), bnd_val, show Max.max (mxF pre) (mxF [a]) = mxF pre by simp only [mxF]; omega])
    (by
      intro x hp
      subst hp
      exact ⟨_, by simp only [W.R_LowerFault.c100007, show decide ((c.2.2.length : Int) < (c.2.2.length : Int)) = false by simp, br_ff], rfl⟩)
    (s := ((↑(List.length c.2.2) : Int), (0 : Int), (0 : Int))) (by simp [szF, mxF])
  subst h2
  rw [h1]
theorem flat_few {qn bn Q : Int} (h0 : 0 ≤ qn) (hQ : Q ≤ 12) : ∀ l : List Op, (∀ o ∈ l, GoodOp o qn bn ∧ qn + (spO o : Nat) ≤ Q) →
    (l.flatMap (opL qn)).length ≤ l.length + szF l ∧ mt (l.flatMap (opL qn)) = mt l ∧ ∀ x ∈ l.flatMap (opL qn), GoodOp x Q bn ∧ Basic x
  | [], _ => by simp [szF, mt]
  | o :: l, h => by
    have h1 := flat_few h0 hQ l (fun x hx => h x (List.mem_cons_of_mem _ hx))
    have h2 := h o (List.mem_cons_self ..)
    have h3 := op_fine h2.1 h0 h2.2 hQ
    have h4 := h3.few
    have h5 := h3.meets
    simp only [List.flatMap_cons, List.length_append, List.length_cons, szF, mt_app]
    refine ⟨?_, ?_, ?_⟩
    · simp only [room] at h4; omega
    · rw [h5, h1.2.1]; simp only [mt]; omega
    · intro x hx
      rcases List.mem_append.mp hx with hh | hh
      · exact h3.good x hh
      · exact h1.2.2 x hh
theorem base_walk (hg : GoodC c) (hs : c.2.2.length + szF c.2.2 ≤ 4096) (hm : c.1 + (mxF c.2.2 : Int) ≤ 12) (Q : Int) :
    iter (fun s ↦ W.lower_Base.c100018 c.2.2 (↑(List.length c.2.2) : Int) (Prod.fst s) c.1 (Prod.fst (Prod.snd s)) (Prod.fst (Prod.snd (Prod.snd s))) (Prod.snd (Prod.snd (Prod.snd s))) some) ((0 : Int), Q, c.2.1, [])
      = some ((c.2.2.length : Int), Q, c.2.1, c.2.2.flatMap (opL c.1)) := by
  have hgo : ∀ o ∈ c.2.2, GoodOp o c.1 c.2.1 := fun o ho => goodOp_of (hg.ops o ho)
  have hq := hg.q
  obtain ⟨x, h1, h2⟩ := iter_each (l := c.2.2) (f := fun s => W.lower_Base.c100018 c.2.2 (↑(List.length c.2.2) : Int) (Prod.fst s) c.1 (Prod.fst (Prod.snd s)) (Prod.fst (Prod.snd (Prod.snd s))) (Prod.snd (Prod.snd (Prod.snd s))) some)
    (fun pre r x => x = ((pre.length : Int), Q, c.2.1, pre.flatMap (opL c.1)))
    (fun x => x = ((c.2.2.length : Int), Q, c.2.1, c.2.2.flatMap (opL c.1)))
    (by
      intro pre a r x hx hp
      subst hp
      left
      have hlen : c.2.2.length = pre.length + (r.length + 1) := by rw [hx]; simp
      refine ⟨_, ?_, rfl⟩
      have hlt : decide ((pre.length : Int) < (c.2.2.length : Int)) = true := by rw [hlen]; simp; omega
      have hidx : idx c.2.2 (pre.length : Int) = some a := by rw [hx]; exact idx_mid
      have hw : IntKind.i64.wrap ((pre.length : Int) + 1) = ((pre ++ [a]).length : Int) := by rw [wrap_i64 (by omega)]; simp
      have ha := hgo a (by rw [hx]; simp)
      have hf := flat_few (qn := c.1) (bn := c.2.1) (Q := 12) (by omega) (by omega) pre (fun o ho => ⟨hgo o (by rw [hx]; simp [ho]), by have := mxF_mem (l := c.2.2) (o := o) (by rw [hx]; simp [ho]); omega⟩)
      have hz := szF_le pre
      simp only [W.lower_Base.c100018, hlt, br_tt, hidx, bnd_val, hw]
      rw [show (a.1, a.2.1, a.2.2.1, a.2.2.2.1, a.2.2.2.2.1, a.2.2.2.2.2) = a from rfl,
        op_ok a ha.ifs (by omega) (good_len ha hg.q.2) (good_one ha) ha.k (by omega), bnd_val]
      simp)
    (by
      intro x hp
      subst hp
      exact ⟨_, by simp only [W.lower_Base.c100018, show decide ((c.2.2.length : Int) < (c.2.2.length : Int)) = false by simp, br_ff], rfl⟩)
    (s := ((0 : Int), Q, c.2.1, [])) (by simp)
  subst h2
  rw [h1]
theorem mxF_twelve (hg : GoodC c) : mxF c.2.2 ≤ 12 := mxF_le (fun o ho => good_sp (goodOp_of (hg.ops o ho)) hg.q.2)
theorem lowF_bad (h : (chk c).1 ≠ 0) : lowF c = chk c := by unfold lowF; rw [if_pos h]
theorem lowF_many (h : (chk c).1 = 0) (h1 : 4096 < c.2.2.length + szF c.2.2) : lowF c = (21, 0) := by unfold lowF; rw [if_neg (by simp [h]), if_pos h1]
theorem lowF_room (h : (chk c).1 = 0) (h1 : ¬ 4096 < c.2.2.length + szF c.2.2) (h2 : 12 < c.1 + (mxF c.2.2 : Int)) : lowF c = (36, 0) := by
  unfold lowF; rw [if_neg (by simp [h]), if_neg h1, if_pos h2]
theorem lowF_zero (h : (chk c).1 = 0) (h1 : ¬ 4096 < c.2.2.length + szF c.2.2) (h2 : ¬ 12 < c.1 + (mxF c.2.2 : Int)) : lowF c = (0, 0) := by
  unfold lowF; rw [if_neg (by simp [h]), if_neg h1, if_neg h2]
theorem base_ok (hc : WCir c) : W.lower_Base c = some (baseA c, lowF c) := by
  unfold W.lower_Base baseA
  rw [show (c.1, c.2.1, c.2.2) = c from rfl, check_ok c hc, bnd_val]
  by_cases h : (chk c).1 = 0
  · obtain ⟨hg, h0⟩ := good_of h
    have hz := szF_le c.2.2
    have hn := hg.n
    have hq := hg.q
    have hm := mxF_twelve hg
    rw [br_false (by simp [h]), base_size hg, bnd_val]
    simp only
    by_cases h1 : 4096 < c.2.2.length + szF c.2.2
    · rw [br_pos (by omega), lowF_many h h1]; rfl
    · rw [br_neg (by omega), wrap_i64 (by omega)]
      by_cases h2 : 12 < c.1 + (mxF c.2.2 : Int)
      · rw [br_pos (by omega), lowF_room h h1 h2]; rfl
      · rw [br_neg (by omega), lowF_zero h h1 h2, base_walk hg (by omega) (by omega), bnd_val]
        rfl
  · rw [br_true (by simp [h]), lowF_bad h, if_pos h]
    rfl
theorem lowerFault_ok (hc : WCir c) : W.R_LowerFault c = some (if (lowF c).1 ≠ 0 then 0 else ((mxF c.2.2 : Nat) : Int), lowF c) := by
  unfold W.R_LowerFault
  rw [show (c.1, c.2.1, c.2.2) = c from rfl, rcheck_ok c hc, bnd_val]
  by_cases h : (chk c).1 = 0
  · obtain ⟨hg, h0⟩ := good_of h
    have hz := szF_le c.2.2
    have hn := hg.n
    have hq := hg.q
    have hm := mxF_twelve hg
    rw [br_false (by simp [h]), fault_size hg, bnd_val]
    simp only
    by_cases h1 : 4096 < c.2.2.length + szF c.2.2
    · rw [br_pos (by omega), lowF_many h h1]; rfl
    · rw [br_neg (by omega), wrap_i64 (by omega)]
      by_cases h2 : 12 < c.1 + (mxF c.2.2 : Int)
      · rw [br_pos (by omega), lowF_room h h1 h2]; rfl
      · rw [br_neg (by omega), lowF_zero h h1 h2]
        rfl
  · rw [br_true (by simp [h]), lowF_bad h, if_pos h]
    rfl
theorem lowF_good (h : (lowF c).1 = 0) : GoodC c ∧ c.2.2.length + szF c.2.2 ≤ 4096 ∧ c.1 + (mxF c.2.2 : Int) ≤ 12 := by
  by_cases h0 : (chk c).1 = 0
  · by_cases h1 : 4096 < c.2.2.length + szF c.2.2
    · rw [lowF_many h0 h1] at h; simp at h
    · by_cases h2 : 12 < c.1 + (mxF c.2.2 : Int)
      · rw [lowF_room h0 h1 h2] at h; simp at h
      · exact ⟨(good_of h0).1, by omega, by omega⟩
  · rw [lowF_bad h0] at h; exact absurd h h0
theorem baseL_good (h : (lowF c).1 = 0) : GoodC (baseL c) ∧ (baseL c).2.2.length ≤ c.2.2.length + szF c.2.2 ∧ mt (baseL c).2.2 = mt c.2.2 ∧ ∀ x ∈ (baseL c).2.2, Basic x := by
  obtain ⟨hg, h1, h2⟩ := lowF_good h
  have hq := hg.q
  have hf := flat_few (qn := c.1) (bn := c.2.1) (Q := c.1 + (mxF c.2.2 : Int)) (by omega) h2 c.2.2 (fun o ho => ⟨goodOp_of (hg.ops o ho), by have := mxF_mem ho; omega⟩)
  refine ⟨⟨⟨by simp only [baseL]; omega, h2⟩, hg.b, by simp only [baseL]; omega, fun o ho => (hf.2.2 o ho).1.bad⟩, hf.1, hf.2.1, fun x hx => (hf.2.2 x hx).2⟩
end
end Go.Ql
end

section
namespace Go.Ql
theorem one_win (o : Op) (qn bn lo n_ : Int) (l : List Op) (ho : WOp o) (hq : 1 ≤ qn ∧ qn ≤ 12) (hb : 0 ≤ bn ∧ bn ≤ 12) :
    W.circ_one__win o qn bn lo n_ l = some (opBad o qn bn, qn, bn, lo, n_, l, ()) := by
  have e1 : @W.circ_one__win.c1 = @W.circ_one.c1 := rfl
  have e3 : @W.circ_one__win.c3 = @W.circ_one.c3 := rfl
  have e5 : @W.circ_one__win.c5 = @W.circ_one.c5 := rfl
  have e7 : @W.circ_one__win.c7 = @W.circ_one.c7 := rfl
  have e12 : @W.circ_one__win.c100012 = @W.circ_one.c100012 := rfl
  have e20 : @W.circ_one__win.c20 = @W.circ_one.c20 := rfl
  have e25 : @W.circ_one__win.c100025 = @W.circ_one.c100025 := rfl
  obtain ⟨k, a, ctl, q, bit, cond⟩ := o
  obtain ⟨ho1, ho2⟩ := ho
  simp only at ho1 ho2
  simp only [W.circ_one__win, e1, e3, e5, e7, e12, e20, e25, one_c1, one_c3, one_c5, one_c7, bnd_val, br_if, opBad, decide_eq_true_eq]
  split
  · rfl
  · split
    · rfl
    · split
      · rfl
      · rename_i h1 h2 h3
        split
        · rfl
        · obtain ⟨n, rfl⟩ := Int.eq_ofNat_of_zero_le (show 0 ≤ q by omega)
          have hn' : n < 12 := by omega
          rw [okIf_true (by simp; omega), inR_at (by simpa using hn'), idx_at]
          simp only [bnd_val, List.getElem?_replicate, hn', if_true]
          obtain ⟨r, hr, hr'⟩ := one_ctl n qn (by omega) hq.2 ctl ho1
          rw [hr, bnd_val]
          rcases hr' with ⟨u, v, rfl, h⟩ | ⟨u, rfl, h⟩
          · rw [sel_inl, if_pos h]
          · rw [sel_inr, if_neg (show ¬ (ctlBad (n : Int) qn [] ctl ≠ 0) by simp [h])]
            simp only [one_c20, bnd_val, decide_eq_true_eq]
            split
            · rfl
            · by_cases h24 : 24 < cond.length
              · rw [if_pos (by omega), if_pos h24]
              · rw [if_neg (by omega), if_neg h24]
                obtain ⟨r, hr, hr'⟩ := one_if bn hb cond ho2
                rw [hr, bnd_val]
                rcases hr' with ⟨u, rfl, h⟩ | ⟨u, rfl, h⟩
                · rw [sel_inl, if_pos h]
                · rw [sel_inr, if_neg h]
theorem part_one (o : Op) : part 0 1 [o] = [o] := rfl
theorem idx_one (o : Op) : idx [o] (0 + 0) = some o := rfl
theorem okIf_one : okIf (decide ((0 : Int) ≤ 0) && decide ((0 : Int) < 1)) = some () := rfl
theorem check_win (o : Op) (qn bn : Int) (h : GoodOp o qn bn) (ho : WOp o) (hq : 1 ≤ qn ∧ qn ≤ 12) (hb : 0 ≤ bn ∧ bn ≤ 12) :
    W.circ_Check__win qn bn 0 1 [o] = some ((0, 0), [o], ()) := by
  unfold W.circ_Check__win W.circ_Check__win.c1 W.circ_Check__win.c3
  rw [br_neg (by omega), bnd_val, br_neg (by omega), br_neg (by omega), bnd_val, br_neg (by omega), part_one, br_neg (by simp)]
  refine bnd_of (x := .inr (1, qn, bn, 0, 1, [o])) ?_ rfl
  refine iter_inl (s' := (1, qn, bn, 0, 1, [o])) ?_ (iter_inr ?_)
  · simp only [W.circ_Check__win.c100008]
    rw [br_pos (by simp)]
    refine bnd_of okIf_one (bnd_of (idx_one o) (bnd_of (one_win o qn bn 0 1 [o] ho hq hb) ?_))
    rw [h.bad, br_false (by rfl)]
    rfl
  · simp only [W.circ_Check__win.c100008]
    rw [br_neg (by simp)]
theorem base_win (o : Op) (qn bn : Int) (h : GoodOp o qn bn) (ho : WOp o) (hq : 1 ≤ qn ∧ qn ≤ 12) (hb : 0 ≤ bn ∧ bn ≤ 12) (hs : qn + (spO o : Nat) ≤ 12) :
    W.lower_Base__win qn bn 0 1 [o] = some ((qn + ((spO o : Nat) : Int), bn, opL qn o), (0, 0), [o], ()) := by
  have hw : IntKind.i64.wrap (0 + 1) = 1 := by decide
  have hsz : br (decide ((o.2.2.1.length : Int) > 0)) (some (IntKind.i64.wrap (1 + 220))) (some (1 : Int)) = some (if o.2.2.1.length = 0 then 1 else 221) := by
    by_cases h0 : o.2.2.1.length = 0
    · rw [br_neg (by omega), if_pos h0]
    · rw [br_pos (by omega), if_neg h0]; rfl
  unfold W.lower_Base__win
  refine bnd_of (check_win o qn bn h ho hq hb) ?_
  rw [br_false (by rfl)]
  simp only [part_one]
  refine bnd_of (x := (if o.2.2.1.length = 0 then 1 else 221, ((spO o : Nat) : Int), 1)) ?_ ?_
  · refine iter_inl (s' := (if o.2.2.1.length = 0 then 1 else 221, ((spO o : Nat) : Int), 1)) ?_ (iter_inr ?_)
    · simp only [W.lower_Base__win.c100006, W.lower_Base__win.c232773]
      rw [br_pos (by simp)]
      refine bnd_of okIf_one (bnd_of (idx_one o) (bnd_of hsz ?_))
      rw [show (o.1, o.2.1, o.2.2.1, o.2.2.2.1, o.2.2.2.2.1, o.2.2.2.2.2) = o from rfl, spares_ok o (good_len h hq.2) (good_one h), bnd_val, hw]
      have hmax : Max.max (0 : Int) ((spO o : Nat) : Int) = ((spO o : Nat) : Int) := by omega
      rw [hmax]
    · simp only [W.lower_Base__win.c100006]
      rw [br_neg (by simp)]
  · have h3 : ¬ (4096 : Int) < (if o.2.2.1.length = 0 then 1 else 221) := by split <;> omega
    simp only
    rw [br_neg h3, wrap_i64 (by omega), br_neg (by omega)]
    refine bnd_of (x := (1, qn + ((spO o : Nat) : Int), bn, opL qn o)) ?_ rfl
    refine iter_inl (s' := (1, qn + ((spO o : Nat) : Int), bn, opL qn o)) ?_ (iter_inr ?_)
    · simp only [W.lower_Base__win.c100018]
      rw [br_pos (by simp)]
      refine bnd_of okIf_one (bnd_of (idx_one o) ?_)
      rw [show (o.1, o.2.1, o.2.2.1, o.2.2.2.1, o.2.2.2.2.1, o.2.2.2.2.2) = o from rfl,
        op_ok o h.ifs (by omega) (good_len h hq.2) (good_one h) h.k (by simp), bnd_val, hw]
      rfl
    · simp only [W.lower_Base__win.c100018]
      rw [br_neg (by simp)]
def begO (k : Int) : Op := (4, k, [0], 1, 0, [])
theorem begO_good (k : Int) (h : 0 ≤ k ∧ k ≤ 15) : GoodOp (begO k) 2 0 ∧ WOp (begO k) :=
  ⟨⟨by simp [begO], h, .inl (.inr rfl), by simp [begO], by simp [begO], .inr (.inr (.inr rfl)), (by show ctlBad 1 2 [] [0] = 0; decide), .inr ⟨by simp [begO], rfl⟩, by simp [begO], (by show ¬ ifBad 0 []; decide)⟩, by simp [WOp, begO]⟩
theorem beg_vals : spO (begO 2) = 0 ∧ spO (begO 1) = 1 ∧ 1 < (opL 2 (begO 2)).length ∧ 1 < (opL 2 (begO 1)).length := by decide +kernel
theorem begun_ok : W.Law_lowerBegun = some true := by
  have hv := beg_vals
  have h2 := begO_good 2 (by omega)
  have h1 := begO_good 1 (by omega)
  have b2 := base_win (begO 2) 2 0 h2.1 h2.2 (by omega) (by omega) (by rw [hv.1]; omega)
  have b1 := base_win (begO 1) 2 0 h1.1 h1.2 (by omega) (by omega) (by rw [hv.2.1]; omega)
  rw [hv.1] at b2
  rw [hv.2.1] at b1
  unfold W.Law_lowerBegun
  refine bnd_of b2 (bnd_of (by rfl) (bnd_of (x := begO 2) (by rfl) (bnd_of b1 ?_)))
  simp only [W.Law_lowerBegun.c5]
  rw [br_true (by rfl), br_true (by rfl), br_true (by rfl), br_true (by rfl), br_pos (by omega), bnd_val]
  rw [decide_eq_true (show ((opL 2 (begO 1)).length : Int) > 1 by omega)]
end Go.Ql
end

section
namespace Go.Ql
section
variable {c : Cir}
theorem eqT_refl (x y : Int) : Ty.eqT (Ty.pair (Ty.int IntKind.i64) (Ty.int IntKind.i64)) (x, y) (x, y) = true := by
  simp [Ty.eqT]
end
end Go.Ql
end

section
namespace Go.Ql
abbrev opTy : Ty := .st (.pair (.int .i64) (.pair (.int .i64) (.pair (.sl (.int .i64)) (.pair (.int .i64) (.pair (.int .i64) (.sl (.int .i64)))))))
abbrev cirTy : Ty := .st (.pair (.int .i64) (.pair (.int .i64) (.sl opTy)))
theorem op_bytes : opTy.bytes = 80 := by decide
theorem int_bytes : (Ty.int .i64).bytes = 8 := by decide
theorem wcir_of {c : Cir} (h : Wf cirTy c) : WCir c := by
  obtain ⟨_, _, h1, _, h2⟩ := h
  refine ⟨?_, fun o ho => ?_⟩
  · rw [op_bytes] at h1
    have : c.2.2.length * 80 ≤ 140737488351232 := h1
    omega
  · obtain ⟨_, _, ⟨h3, _⟩, _, _, h4, _⟩ := h2 o ho
    rw [int_bytes] at h3 h4
    have h3 : o.2.2.1.length * 8 ≤ 140737488351232 := h3
    have h4 : o.2.2.2.2.2.length * 8 ≤ 140737488351232 := h4
    exact ⟨by omega, by omega⟩
end Go.Ql
end
