/- Plain laws: loops; numbers in texts; circuits checked, written, read. -/
import Derived.Test.YtcndclcpmelgoaaDoorWb
import Derived.IntWalk
import Derived.Test.YtcndclcpmelgoaaDoorGa
section
/- Plain laws, as far as this cut has the functions. -/
section
namespace Go.Ql
section
variable {S R : Type} {f : S → Option (S ⊕ R)}
theorem iter_inr {s : S} {r : R} (h : f s = some (.inr r)) : iter f s = some r := iter_of (n := 1) (by simp [iterN, h])
theorem iter_inl {s s' : S} {r : R} (h : f s = some (.inl s')) (h' : iter f s' = some r) : iter f s = some r := by
  obtain ⟨n, hn⟩ := iter_some h'
  exact iter_of (n := n + 1) (by simp [iterN, h, hn])
/-- A loop with a measure: from each state that keeps J a round ends it, or makes the measure less. -/
theorem iter_loop {J : S → Prop} {Q : R → Prop} (m : S → Nat) (hstep : ∀ s, J s → (∃ r, f s = some (.inr r) ∧ Q r) ∨ ∃ s', f s = some (.inl s') ∧ J s' ∧ m s' < m s) {s : S} (h : J s) : ∃ r, iter f s = some r ∧ Q r := by
  have key : ∀ (k : Nat) (s : S), m s ≤ k → J s → ∃ r, iter f s = some r ∧ Q r := by
    intro k
    induction k with
    | zero =>
      intro s hk hj
      rcases hstep s hj with ⟨r, h1, h2⟩ | ⟨s', h1, h2, h3⟩
      · exact ⟨r, iter_inr h1, h2⟩
      · omega
    | succ k ih =>
      intro s hk hj
      rcases hstep s hj with ⟨r, h1, h2⟩ | ⟨s', h1, h2, h3⟩
      · exact ⟨r, iter_inr h1, h2⟩
      · obtain ⟨r, h4, h5⟩ := ih s' (by omega) h2
        exact ⟨r, iter_inl h1 h4, h5⟩
  exact key (m s) s (Nat.le_refl _) h
end
theorem bnd_of {α β : Type} {p : Option α} {x : α} {k : α → Option β} {r : Option β} (h : p = some x) (h' : k x = r) : bnd p k = r := by rw [h]; exact h'
theorem bnd_val {α β : Type} {x : α} {k : α → Option β} : bnd (some x) k = k x := rfl
theorem br_true {α : Type} {x y : α} {b : Bool} (h : b = true) : br b x y = x := by rw [h]; rfl
theorem br_false {α : Type} {x y : α} {b : Bool} (h : b = false) : br b x y = y := by rw [h]; rfl
theorem br_pos {α : Type} {x y : α} {p : Prop} [Decidable p] (h : p) : br (decide p) x y = x := br_true (decide_eq_true h)
theorem br_neg {α : Type} {x y : α} {p : Prop} [Decidable p] (h : ¬ p) : br (decide p) x y = y := br_false (decide_eq_false h)
theorem okIf_true {b : Bool} (h : b = true) : okIf b = some () := by rw [h]; rfl
theorem idx_of {xs : List Int} {i : Int} (n : Nat) (hi : i = n) (h : n < xs.length) : idx xs i = some (xs.getD n 0) := by
  subst hi
  unfold idx
  simp [h]
theorem inR_of {n : Nat} {i : Int} (h0 : 0 ≤ i) (h : i < (n : Int)) : inR n i = some () := by
  unfold inR
  simp [h0, h]

/-! ## Wraps -/
theorem wrap_i64 {x : Int} (h : -9223372036854775808 ≤ x ∧ x ≤ 9223372036854775807) : IntKind.i64.wrap x = x := IntWalk.i64_in _ (by omega)
theorem wrap_u64 {x : Int} (h : 0 ≤ x ∧ x < 18446744073709551616) : IntKind.u64.wrap x = x := IntWalk.u64_in _ (by omega)
theorem wrap_u32 {x : Int} (h : 0 ≤ x ∧ x < 4294967296) : IntKind.u32.wrap x = x := IntWalk.u32_in _ (by omega)
theorem wrap_u32_mod {x : Int} : IntKind.u32.wrap x = x % 4294967296 := by
  simp [IntKind.wrap, IntKind.signed, IntKind.bits]

/-! ## Numbers in places -/
/-- The number that digits say in base B, the lowest first. -/
def val (B : Int) : List Int → Int
  | [] => 0
  | d :: l => d + B * val B l
def Dig (B : Int) (l : List Int) : Prop := ∀ d ∈ l, 0 ≤ d ∧ d < B

theorem val_append (B : Int) (m : List Int) : ∀ l : List Int, val B (l ++ m) = val B l + B ^ l.length * val B m
  | [] => by simp [val]
  | d :: l => by
    simp only [List.cons_append, val, val_append B m l, List.length_cons, Int.pow_succ]
    grind
theorem val_snoc (B : Int) (l : List Int) (d : Int) : val B (l ++ [d]) = val B l + B ^ l.length * d := by
  rw [val_append]; simp [val]
theorem Dig.nil {B : Int} : Dig B [] := fun _ h => by cases h
theorem Dig.cons {B d : Int} {l : List Int} (h : 0 ≤ d ∧ d < B) (hl : Dig B l) : Dig B (d :: l) := fun x hx => by
  rcases List.mem_cons.1 hx with rfl | hx
  · exact h
  · exact hl x hx
theorem Dig.append {B : Int} {l m : List Int} (hl : Dig B l) (hm : Dig B m) : Dig B (l ++ m) := fun x hx => by
  rcases List.mem_append.1 hx with hx | hx
  · exact hl x hx
  · exact hm x hx
theorem Dig.head {B d : Int} {l : List Int} (h : Dig B (d :: l)) : 0 ≤ d ∧ d < B := h d (List.mem_cons_self ..)
theorem Dig.tail {B d : Int} {l : List Int} (h : Dig B (d :: l)) : Dig B l := fun x hx => h x (List.mem_cons_of_mem _ hx)
theorem Dig.take {B : Int} {l : List Int} (h : Dig B l) (n : Nat) : Dig B (l.take n) := fun x hx => h x (List.mem_of_mem_take hx)
theorem Dig.drop {B : Int} {l : List Int} (h : Dig B l) (n : Nat) : Dig B (l.drop n) := fun x hx => h x (List.mem_of_mem_drop hx)
theorem Dig.getD {B : Int} {l : List Int} (hB : 0 < B) (h : Dig B l) (i : Nat) : 0 ≤ l.getD i 0 ∧ l.getD i 0 < B := by
  by_cases hi : i < l.length
  · simp only [List.getD, List.getElem?_eq_getElem hi, Option.getD_some]
    exact h _ (List.getElem_mem hi)
  · rw [List.getD, List.getElem?_eq_none (by omega : l.length ≤ i), Option.getD_none]
    omega
theorem Dig.set {B x : Int} {l : List Int} (h : Dig B l) (hx : 0 ≤ x ∧ x < B) (i : Nat) : Dig B (l.set i x) := fun y hy => by
  rcases List.mem_or_eq_of_mem_set hy with hy | rfl
  · exact h y hy
  · exact hx
theorem Dig.replicate {B : Int} (hB : 0 < B) (n : Nat) : Dig B (List.replicate n 0) := fun x hx => by
  rw [(List.mem_replicate.1 hx).2]; omega
theorem val_replicate (B : Int) : ∀ n : Nat, val B (List.replicate n 0) = 0
  | 0 => rfl
  | n + 1 => by simp [List.replicate_succ, val, val_replicate B n]
theorem val_nonneg {B : Int} (hB : 0 ≤ B) : ∀ {l : List Int}, Dig B l → 0 ≤ val B l
  | [], _ => Int.le_refl 0
  | d :: l, h => by
    have h1 := val_nonneg hB h.tail
    have h2 := h.head
    have h3 := Int.mul_nonneg hB h1
    simp only [val]
    omega
theorem val_lt {B : Int} (hB : 0 < B) : ∀ {l : List Int}, Dig B l → val B l < B ^ l.length
  | [], _ => by simp [val]
  | d :: l, h => by
    have h1 := val_lt hB h.tail
    have h2 := h.head
    have h3 : B * (val B l + 1) ≤ B * B ^ l.length := Int.mul_le_mul_of_nonneg_left (by omega) (by omega)
    simp only [val, List.length_cons, Int.pow_succ]
    rw [Int.mul_comm (B ^ l.length) B]
    rw [Int.mul_add] at h3
    omega
theorem val_take_succ (B : Int) : ∀ (i : Nat) (l : List Int), val B (l.take (i + 1)) = val B (l.take i) + B ^ i * l.getD i 0
  | _, [] => by simp [val]
  | 0, d :: l => by simp [val]
  | i + 1, d :: l => by
    have h := val_take_succ B i l
    simp only [List.take_succ_cons, val, List.getD_cons_succ, Int.pow_succ] at h ⊢
    rw [h]
    grind
theorem val_set (B x : Int) : ∀ (i : Nat) (l : List Int), i < l.length → val B (l.set i x) = val B l + B ^ i * (x - l.getD i 0)
  | _, [], h => by simp at h
  | 0, d :: l, _ => by simp [val]; omega
  | i + 1, d :: l, h => by
    have h := val_set B x i l (by simpa using h)
    simp only [List.set_cons_succ, val, List.getD_cons_succ, Int.pow_succ] at h ⊢
    rw [h]
    grind
theorem getD_set {l : List Int} {i j : Nat} {x : Int} (h : i < l.length) : (l.set i x).getD j 0 = if i = j then x else l.getD j 0 := by
  simp only [List.getD, List.getElem?_set]
  by_cases hij : i = j
  · subst hij; simp [h]
  · simp [hij]
theorem getD_replicate (n j : Nat) : (List.replicate n (0 : Int)).getD j 0 = 0 := by
  simp only [List.getD, List.getElem?_replicate]
  split <;> rfl
theorem pow_pos {B : Int} (hB : 0 < B) (n : Nat) : 0 < B ^ n := Int.pow_pos hB
end Go.Ql
end

section
namespace Go.Ql
section
variable {A S R : Type} {f : S → Option (S ⊕ R)}
/-- A loop over a list: what is behind, what is ahead, the state. -/
theorem iter_each {l : List A} (P : List A → List A → S → Prop) (Q : R → Prop)
    (step : ∀ pre a r s, l = pre ++ a :: r → P pre (a :: r) s → (∃ s', f s = some (.inl s') ∧ P (pre ++ [a]) r s') ∨ (∃ x, f s = some (.inr x) ∧ Q x))
    (done : ∀ s, P l [] s → ∃ x, f s = some (.inr x) ∧ Q x) {s : S} (h : P [] l s) : ∃ x, iter f s = some x ∧ Q x := by
  have key : ∀ (r pre : List A) (s : S), l = pre ++ r → P pre r s → ∃ x, iter f s = some x ∧ Q x := by
    intro r
    induction r with
    | nil =>
      intro pre s hl hp
      rw [List.append_nil] at hl
      subst hl
      obtain ⟨x, h1, h2⟩ := done s hp
      exact ⟨x, iter_inr h1, h2⟩
    | cons a r ih =>
      intro pre s hl hp
      rcases step pre a r s hl hp with ⟨s', h1, h2⟩ | ⟨x, h1, h2⟩
      · obtain ⟨x, h3, h4⟩ := ih (pre ++ [a]) s' (by simp [hl]) h2
        exact ⟨x, iter_inl h1 h3, h4⟩
      · exact ⟨x, iter_inr h1, h2⟩
  exact key l [] s rfl h
/-- A loop that counts up. -/
theorem iter_upto (n : Nat) (P : Nat → S → Prop) (Q : R → Prop)
    (step : ∀ i s, i < n → P i s → (∃ s', f s = some (.inl s') ∧ P (i + 1) s') ∨ (∃ x, f s = some (.inr x) ∧ Q x))
    (done : ∀ s, P n s → ∃ x, f s = some (.inr x) ∧ Q x) {s : S} (h : P 0 s) : ∃ x, iter f s = some x ∧ Q x := by
  have key : ∀ (k i : Nat) (s : S), i + k = n → P i s → ∃ x, iter f s = some x ∧ Q x := by
    intro k
    induction k with
    | zero =>
      intro i s hi hp
      have : i = n := by omega
      subst this
      obtain ⟨x, h1, h2⟩ := done s hp
      exact ⟨x, iter_inr h1, h2⟩
    | succ k ih =>
      intro i s hi hp
      rcases step i s (by omega) hp with ⟨s', h1, h2⟩ | ⟨x, h1, h2⟩
      · obtain ⟨x, h3, h4⟩ := ih (i + 1) s' (by omega) h2
        exact ⟨x, iter_inl h1 h3, h4⟩
      · exact ⟨x, iter_inr h1, h2⟩
  exact key n 0 s (by omega) h
end
theorem br_if {α : Type} {x y : α} {b : Bool} : br b x y = if b = true then x else y := by cases b <;> rfl
theorem bnd_none {α β : Type} {k : α → Option β} : bnd none k = none := rfl
theorem bnd_ite {α β : Type} {p : Prop} [Decidable p] {x y : Option α} {k : α → Option β} : bnd (if p then x else y) k = if p then bnd x k else bnd y k := by split <;> rfl
theorem sel_inl {α β γ : Type} {x : α} {f : α → γ} {g : β → γ} : sel (.inl x) f g = f x := rfl
theorem sel_inr {α β γ : Type} {x : β} {f : α → γ} {g : β → γ} : sel (.inr x) f g = g x := rfl
theorem okIf_if {b : Bool} : okIf b = if b = true then some () else none := by cases b <;> rfl
theorem idx_mid {α : Type} {pre : List α} {a : α} {r : List α} : idx (pre ++ a :: r) (pre.length : Int) = some a := by
  unfold idx
  simp
theorem idx_at {α : Type} {l : List α} {i : Nat} : idx l (i : Int) = l[i]? := by
  unfold idx
  simp
theorem idx_get {α : Type} {l : List α} {i : Nat} (h : i < l.length) : idx l (i : Int) = some l[i] := by
  rw [idx_at, List.getElem?_eq_getElem h]
theorem idx_int {α : Type} {l : List α} {i : Int} (h0 : 0 ≤ i) (h : i < (l.length : Int)) : idx l i = some (l[i.toNat]'(by omega)) := by
  obtain ⟨n, rfl⟩ := Int.eq_ofNat_of_zero_le h0
  rw [idx_get (by omega)]
  simp
theorem inR_at {n : Nat} {i : Nat} (h : i < n) : inR n (i : Int) = some () := inR_of (by omega) (by omega)
theorem br_or {b c : Bool} : br b (some true) (some c) = some (b || c) := by cases b <;> rfl
theorem br_and {b c : Bool} : br b (some c) (some false) = some (b && c) := by cases b <;> rfl
theorem some_dec {b : Bool} {P : Prop} [Decidable P] (h : b = true ↔ P) : some b = some (decide P) := by
  congr 1
  rw [Bool.eq_iff_iff, h]
  simp
theorem br_tt {α : Type} {x y : α} : br true x y = x := rfl
theorem br_ff {α : Type} {x y : α} : br false x y = y := rfl
theorem lt_app {α : Type} {pre : List α} {a : α} {r : List α} : decide ((pre.length : Int) < ((pre ++ a :: r).length : Int)) = true := by
  simp only [List.length_append, List.length_cons, decide_eq_true_eq]; omega
theorem both_self {α : Type} {x : Option α} : both x x = x := by simp [both]
theorem okIf_len {n k : Nat} (h : n * k ≤ 140737488355328 ∧ n ≤ 140737488355328) : okIf (decide (n * k ≤ (140737488355328 : Nat)) && decide (n ≤ (140737488355328 : Nat))) = some () :=
  okIf_true (by simp [h])
end Go.Ql
end

section
namespace Go.Ql
abbrev Op := Int × Int × List Int × Int × Int × List Int
abbrev Cir := Int × Int × List Op
/-- Lists of a length that memory has. -/
def WOp (o : Op) : Prop := o.2.2.1.length ≤ 17592186043904 ∧ o.2.2.2.2.2.length ≤ 17592186043904
def WCir (c : Cir) : Prop := c.2.2.length ≤ 1759218604390 ∧ ∀ o ∈ c.2.2, WOp o
def ctlBad (q0 qn : Int) : List Int → List Int → Int
  | _, [] => 0
  | pre, q :: r => if q < 0 ∨ qn ≤ q then 10 else if q = q0 ∨ q ∈ pre then 12 else ctlBad q0 qn (pre ++ [q]) r
def ifBad (bn : Int) (l : List Int) : Prop := ∃ v ∈ l, v = 0 ∨ bn < v ∨ v < -bn
instance (bn : Int) (l : List Int) : Decidable (ifBad bn l) := by unfold ifBad; infer_instance
def opBad (o : Op) (qn bn : Int) : Int :=
  if o.1 < 1 ∨ 6 < o.1 then 8
  else if o.2.1 < 0 ∨ 15 < o.2.1 ∨ (¬ (o.1 = 1 ∨ o.1 = 4) ∧ o.2.1 ≠ 0) then 9
  else if o.2.2.2.1 < 0 ∨ qn ≤ o.2.2.2.1 ∨ (o.1 = 1 ∧ o.2.2.2.1 ≠ 0) then 10
  else if o.2.2.1 ≠ [] ∧ ¬ (o.1 = 2 ∨ o.1 = 3 ∨ o.1 = 4) then 11
  else if ctlBad o.2.2.2.1 qn [] o.2.2.1 ≠ 0 then ctlBad o.2.2.2.1 qn [] o.2.2.1
  else if (o.1 = 5 ∧ (o.2.2.2.2.1 < 0 ∨ bn ≤ o.2.2.2.2.1)) ∨ (o.1 ≠ 5 ∧ o.2.2.2.2.1 ≠ 0) then 13
  else if 24 < o.2.2.2.2.2.length then 14
  else if ifBad bn o.2.2.2.2.2 then 14 else 0
theorem ctlBad_ne {q0 qn : Int} : ∀ (r pre : List Int), ctlBad q0 qn pre r = 0 ∨ ctlBad q0 qn pre r = 10 ∨ ctlBad q0 qn pre r = 12
  | [], _ => .inl rfl
  | q :: r, pre => by
    unfold ctlBad
    split
    · exact .inr (.inl rfl)
    · split
      · exact .inr (.inr rfl)
      · exact ctlBad_ne r _

/-! ## The program's -/
theorem one_c1 (k : Int) : W.circ_one.c1 k some = some (decide (k < 1 ∨ 6 < k)) := by
  simp only [W.circ_one.c1, br_or]; exact some_dec (by simp)
theorem turns_ok (k : Int) : W.circ_turns k = some (decide (k = 1 ∨ k = 4)) := by
  simp only [W.circ_turns, W.circ_turns.c1, br_or, bnd_val]; exact some_dec (by simp)
theorem gate_ok (k : Int) : W.circ_gate k = some (decide (k = 2 ∨ k = 3 ∨ k = 4)) := by
  simp only [W.circ_gate, W.circ_gate.c1, br_or, bnd_val]; exact some_dec (by simp)
theorem one_c3 (k a : Int) : W.circ_one.c3 k a some = some (decide (a < 0 ∨ 15 < a ∨ (¬ (k = 1 ∨ k = 4) ∧ a ≠ 0))) := by
  simp only [W.circ_one.c3, turns_ok, br_or, br_and, bnd_val]; exact some_dec (by simp)
theorem one_c5 (k q qn : Int) : W.circ_one.c5 k q qn some = some (decide (q < 0 ∨ qn ≤ q ∨ (k = 1 ∧ q ≠ 0))) := by
  simp only [W.circ_one.c5, br_or, br_and]; exact some_dec (by simp)
theorem one_c7 (k : Int) (l : List Int) : W.circ_one.c7 k l some = some (decide (l ≠ [] ∧ ¬ (k = 2 ∨ k = 3 ∨ k = 4))) := by
  simp only [W.circ_one.c7, gate_ok, br_or, br_and, bnd_val]; exact some_dec (by cases l <;> simp)
theorem one_c14 (q qn : Int) : W.circ_one.c14 q qn some = some (decide (q < 0 ∨ qn ≤ q)) := by
  simp only [W.circ_one.c14, br_or]; exact some_dec (by simp)
theorem one_c20 (k b bn : Int) : W.circ_one.c20 k b bn some = some (decide ((k = 5 ∧ (b < 0 ∨ bn ≤ b)) ∨ (k ≠ 5 ∧ b ≠ 0))) := by
  by_cases hk : k = 5
  · subst hk
    simp only [W.circ_one.c20, beq_self_eq_true, bne_self_eq_false, br_tt, br_ff, br_or]; exact some_dec (by simp)
  · simp only [W.circ_one.c20, beq_eq_false_iff_ne.2 hk, bne_iff_ne.2 hk, br_tt, br_ff]; exact some_dec (by simp [hk])
theorem one_c27 (v bn : Int) (h : 0 ≤ bn ∧ bn ≤ 12) : W.circ_one.c27 v bn some = some (decide (v = 0 ∨ bn < v ∨ v < -bn)) := by
  simp only [W.circ_one.c27, br_or]
  rw [wrap_i64 (by omega)]
  exact some_dec (by simp)
theorem one_ctl (q0 qn : Int) (h0 : 0 ≤ q0 ∧ q0 < 12) (hn : qn ≤ 12) (l : List Int) (hl : l.length ≤ 17592186043904) :
    ∃ r, iter (fun s : Int × List Bool ↦ W.circ_one.c100012 l (l.length : Int) s.1 s.2 qn some) ((0 : Int), List.set (List.replicate 12 false) q0.toNat true) = some r ∧
      ((∃ u v, r = .inl (ctlBad q0 qn [] l, u, v) ∧ ctlBad q0 qn [] l ≠ 0) ∨ ∃ u, r = .inr u ∧ ctlBad q0 qn [] l = 0) := by
  refine iter_each (l := l) (fun pre r s => s.1 = (pre.length : Int) ∧ s.2.length = 12 ∧ (∀ j : Nat, j < 12 → s.2[j]? = some (decide ((j : Int) = q0 ∨ (j : Int) ∈ pre))) ∧ ctlBad q0 qn [] l = ctlBad q0 qn pre r) _ ?_ ?_ ?_
  · rintro pre a r ⟨i, seen⟩ rfl ⟨rfl, h1, h2, h3⟩
    simp only at h1 h2 ⊢
    simp only [List.length_append, List.length_cons] at hl
    simp only [W.circ_one.c100012, br_if, idx_mid, bnd_val, one_c14]
    rw [if_pos lt_app]
    rw [h3]
    by_cases ha : a < 0 ∨ qn ≤ a
    · rw [if_pos (by simpa using ha)]
      exact .inr ⟨_, rfl, .inl ⟨_, _, by rw [ctlBad, if_pos ha], by rw [ctlBad, if_pos ha]; decide⟩⟩
    · rw [if_neg (by simpa using ha)]
      obtain ⟨n, rfl⟩ := Int.eq_ofNat_of_zero_le (show 0 ≤ a by omega)
      have hn' : n < 12 := by omega
      rw [okIf_true (by simp; omega), inR_at (by omega), idx_at, h2 n hn']
      simp only [bnd_val]
      by_cases hb : (n : Int) = q0 ∨ (n : Int) ∈ pre
      · rw [if_pos (by simpa using hb)]
        exact .inr ⟨_, rfl, .inl ⟨_, _, by rw [ctlBad, if_neg ha, if_pos hb], by rw [ctlBad, if_neg ha, if_pos hb]; decide⟩⟩
      · rw [if_neg (by simpa using hb), wrap_i64 (by omega)]
        refine .inl ⟨_, rfl, by simp, by simp [h1], ?_, ?_⟩
        · intro j hj
          simp only [Int.toNat_natCast]
          rw [List.getElem?_set]
          by_cases hjn : n = j
          · subst hjn; simp [h1, hn']
          · rw [if_neg hjn, h2 j hj]
            simp only [List.mem_append, List.mem_singleton]
            congr 1
            simp only [decide_eq_decide]
            have : (j : Int) ≠ n := by omega
            simp [this]
        · show ctlBad q0 qn pre (_ :: r) = _
          rw [ctlBad, if_neg ha, if_neg hb]
  · rintro ⟨i, seen⟩ ⟨rfl, h1, h2, h3⟩
    simp only [W.circ_one.c100012, br_if]
    rw [if_neg (by simp)]
    exact ⟨_, rfl, .inr ⟨_, rfl, by rw [h3]; rfl⟩⟩
  · refine ⟨rfl, by simp, fun j hj => ?_, rfl⟩
    rw [List.getElem?_set]
    by_cases hq : q0.toNat = j
    · subst hq
      simp
      omega
    · rw [if_neg hq]
      have : (j : Int) ≠ q0 := by omega
      rw [List.getElem?_replicate, if_pos hj]
      simp [this]
theorem one_if (bn : Int) (h : 0 ≤ bn ∧ bn ≤ 12) (l : List Int) (hl : l.length ≤ 17592186043904) :
    ∃ r, iter (fun s : Int ↦ W.circ_one.c100025 l (l.length : Int) s bn some) (0 : Int) = some r ∧
      ((∃ u, r = .inl u ∧ ifBad bn l) ∨ ∃ u, r = .inr u ∧ ¬ ifBad bn l) := by
  refine iter_each (l := l) (fun pre r s => s = (pre.length : Int) ∧ ∀ v ∈ pre, ¬ (v = 0 ∨ bn < v ∨ v < -bn)) _ ?_ ?_ ?_
  · rintro pre a r i rfl ⟨rfl, h1⟩
    simp only [List.length_append, List.length_cons] at hl
    simp only [W.circ_one.c100025, br_if, idx_mid, bnd_val, one_c27 _ _ h]
    rw [if_pos lt_app]
    by_cases ha : a = 0 ∨ bn < a ∨ a < -bn
    · rw [if_pos (by simpa using ha)]
      exact .inr ⟨_, rfl, .inl ⟨_, rfl, a, by simp, ha⟩⟩
    · rw [if_neg (by simpa using ha), wrap_i64 (by omega)]
      refine .inl ⟨_, rfl, by simp, fun v hv => ?_⟩
      rcases List.mem_append.1 hv with hv | hv
      · exact h1 v hv
      · rw [List.mem_singleton.1 hv]; exact ha
  · rintro i ⟨rfl, h1⟩
    simp only [W.circ_one.c100025, br_if]
    rw [if_neg (by simp)]
    exact ⟨_, rfl, .inr ⟨_, rfl, fun ⟨v, hv, hb⟩ => h1 v hv hb⟩⟩
  · exact ⟨rfl, fun v hv => by cases hv⟩
theorem one_ok (o : Op) (qn bn : Int) (ops : List Op) (ho : WOp o) (hq : 1 ≤ qn ∧ qn ≤ 12) (hb : 0 ≤ bn ∧ bn ≤ 12) :
    W.circ_one o qn bn ops = some (opBad o qn bn, qn, bn, ops, ()) := by
  obtain ⟨k, a, ctl, q, bit, cond⟩ := o
  obtain ⟨ho1, ho2⟩ := ho
  simp only at ho1 ho2
  simp only [W.circ_one, one_c1, one_c3, one_c5, one_c7, bnd_val, br_if, opBad, decide_eq_true_eq]
  split
  · rfl
  · split
    · rfl
    · split
      · rfl
      · rename_i h1 h2 h3
        split
        · rfl
        · obtain ⟨n, rfl⟩ := Int.eq_ofNat_of_zero_le (show 0 ≤ q by omega)
          have hn' : n < 12 := by omega
          rw [okIf_true (by simp; omega), inR_at (by simpa using hn'), idx_at]
          simp only [bnd_val, List.getElem?_replicate, hn', if_true]
          obtain ⟨r, hr, hr'⟩ := one_ctl n qn (by omega) hq.2 ctl ho1
          rw [hr, bnd_val]
          rcases hr' with ⟨u, v, rfl, h⟩ | ⟨u, rfl, h⟩
          · rw [sel_inl, if_pos h]
          · rw [sel_inr, if_neg (show ¬ (ctlBad (n : Int) qn [] ctl ≠ 0) by simp [h])]
            simp only [one_c20, bnd_val, decide_eq_true_eq]
            split
            · rfl
            · by_cases h24 : 24 < cond.length
              · rw [if_pos (by omega), if_pos h24]
              · rw [if_neg (by omega), if_neg h24]
                obtain ⟨r, hr, hr'⟩ := one_if bn hb cond ho2
                rw [hr, bnd_val]
                rcases hr' with ⟨u, rfl, h⟩ | ⟨u, rfl, h⟩
                · rw [sel_inl, if_pos h]
                · rw [sel_inr, if_neg h]
end Go.Ql
end

section
namespace Go.Ql
theorem member_ok (l : List Int) (x : Int) (hl : l.length ≤ 17592186043904) : W.R_member l x = some (decide (x ∈ l)) := by
  have h : ∃ r, iter (fun s : Int ↦ W.R_member.c100002 l x s some) (0 : Int) = some r ∧ ((∃ u, r = .inl u ∧ x ∈ l) ∨ ∃ u, r = .inr u ∧ x ∉ l) := by
    refine iter_each (l := l) (fun pre r s => s = (pre.length : Int) ∧ x ∉ pre) _ ?_ ?_ ⟨rfl, by simp⟩
    · rintro pre a r i rfl ⟨rfl, h1⟩
      simp only [List.length_append, List.length_cons] at hl
      simp only [W.R_member.c100002, br_if, idx_mid, bnd_val]
      rw [if_pos lt_app]
      by_cases ha : a = x
      · rw [if_pos (by simpa using ha)]
        exact .inr ⟨_, rfl, .inl ⟨_, rfl, by simp [ha]⟩⟩
      · rw [if_neg (by simpa using ha), wrap_i64 (by omega)]
        exact .inl ⟨_, rfl, by simp, by simp [h1, Ne.symm ha]⟩
    · rintro i ⟨rfl, h1⟩
      simp only [W.R_member.c100002, br_if]
      rw [if_neg (by simp)]
      exact ⟨_, rfl, .inr ⟨_, rfl, h1⟩⟩
  obtain ⟨r, hr, h⟩ := h
  simp only [W.R_member, hr, bnd_val]
  rcases h with ⟨u, rfl, h⟩ | ⟨u, rfl, h⟩
  · simp [sel_inl, h]
  · simp [sel_inr, h]
theorem rbad_c1 (k : Int) : W.R_badOp.c1 k some = some (decide (k < 1 ∨ 6 < k)) := by
  simp only [W.R_badOp.c1, br_or, br_and]; exact some_dec (by simp)
theorem rbad_c3 (k : Int) : W.R_badOp.c3 k some = some (decide (k = 1 ∨ k = 4)) := by
  simp only [W.R_badOp.c3, br_or, br_and]; exact some_dec (by simp)
theorem rbad_c4 (k a : Int) : W.R_badOp.c4 (decide (k = 1 ∨ k = 4)) a some = some (decide (a < 0 ∨ 15 < a ∨ (¬ (k = 1 ∨ k = 4) ∧ a ≠ 0))) := by
  simp only [W.R_badOp.c4, br_or, br_and]; exact some_dec (by simp; omega)
theorem rbad_c6 (k q qn : Int) : W.R_badOp.c6 qn k q some = some (decide (q < 0 ∨ qn ≤ q ∨ (k = 1 ∧ q ≠ 0))) := by
  simp only [W.R_badOp.c6, br_or, br_and]; exact some_dec (by simp; omega)
theorem rbad_c8 (k : Int) (l : List Int) : W.R_badOp.c8 k l some = some (decide (l ≠ [] ∧ ¬ (k = 2 ∨ k = 3 ∨ k = 4))) := by
  simp only [W.R_badOp.c8, br_or, br_and]; exact some_dec (by cases l <;> simp)
theorem rbad_bit (k b bn : Int) : ∃ r, W.R_badOp.c269649 bn k b some = some r ∧ ((r = .inl () ∧ ((k = 5 ∧ (b < 0 ∨ bn ≤ b)) ∨ (k ≠ 5 ∧ b ≠ 0))) ∨ (r = .inr () ∧ ¬ ((k = 5 ∧ (b < 0 ∨ bn ≤ b)) ∨ (k ≠ 5 ∧ b ≠ 0)))) := by
  have h : W.R_badOp.c18 bn b some = some (decide (b < 0 ∨ bn ≤ b)) := by
    simp only [W.R_badOp.c18, br_or]; exact some_dec (by simp)
  by_cases hk : k = 5
  · subst hk
    simp only [W.R_badOp.c269649, beq_self_eq_true, br_tt, h, bnd_val]
    by_cases hb : b < 0 ∨ bn ≤ b
    · rw [br_pos hb]; exact ⟨_, rfl, .inl ⟨rfl, .inl ⟨trivial, hb⟩⟩⟩
    · rw [br_neg hb]; exact ⟨_, rfl, .inr ⟨rfl, by omega⟩⟩
  · simp only [W.R_badOp.c269649, beq_eq_false_iff_ne.2 hk, br_ff]
    by_cases hb : b = 0
    · rw [br_false (by simpa using hb)]; exact ⟨_, rfl, .inr ⟨rfl, by omega⟩⟩
    · rw [br_true (by simpa using hb)]; exact ⟨_, rfl, .inl ⟨rfl, by omega⟩⟩
theorem rbad_ctl (q0 qn : Int) (l : List Int) (hl : l.length ≤ 17592186043904) :
    ∃ r, iter (fun s : Int ↦ W.R_badOp.c100011 qn s l q0 some) (0 : Int) = some r ∧
      ((∃ u, r = .inl (ctlBad q0 qn [] l, u) ∧ ctlBad q0 qn [] l ≠ 0) ∨ ∃ u, r = .inr u ∧ ctlBad q0 qn [] l = 0) := by
  refine iter_each (l := l) (fun pre r s => s = (pre.length : Int) ∧ ctlBad q0 qn [] l = ctlBad q0 qn pre r) _ ?_ ?_ ⟨rfl, rfl⟩
  · rintro pre a r i rfl ⟨rfl, h3⟩
    simp only [List.length_append, List.length_cons] at hl
    have h13 : W.R_badOp.c13 qn (pre.length : Int) (pre ++ a :: r) some = some (decide (a < 0 ∨ qn ≤ a)) := by
      simp only [W.R_badOp.c13, br_or, idx_mid, bnd_val]; exact some_dec (by simp)
    have h15 : W.R_badOp.c15 (pre.length : Int) (pre ++ a :: r) q0 some = some (decide (a = q0 ∨ a ∈ pre)) := by
      simp only [W.R_badOp.c15, idx_mid, bnd_val]
      rw [okIf_true (by simp; omega), bnd_val]
      simp only [Int.toNat_natCast, List.take_left, member_ok _ _ (show pre.length ≤ 17592186043904 by omega), bnd_val, br_or]
      exact some_dec (by simp)
    simp only [W.R_badOp.c100011, br_if, h13, h15, bnd_val]
    rw [if_pos lt_app]
    rw [h3]
    by_cases ha : a < 0 ∨ qn ≤ a
    · rw [if_pos (by simpa using ha)]
      exact .inr ⟨_, rfl, .inl ⟨_, by rw [ctlBad, if_pos ha], by rw [ctlBad, if_pos ha]; decide⟩⟩
    · rw [if_neg (by simpa using ha)]
      by_cases hb : a = q0 ∨ a ∈ pre
      · rw [if_pos (by simpa using hb)]
        exact .inr ⟨_, rfl, .inl ⟨_, by rw [ctlBad, if_neg ha, if_pos hb], by rw [ctlBad, if_neg ha, if_pos hb]; decide⟩⟩
      · rw [if_neg (by simpa using hb), wrap_i64 (by omega)]
        refine .inl ⟨_, rfl, by simp, ?_⟩
        show ctlBad q0 qn pre (_ :: r) = _
        rw [ctlBad, if_neg ha, if_neg hb]
  · rintro i ⟨rfl, h3⟩
    simp only [W.R_badOp.c100011, br_if]
    rw [if_neg (by simp)]
    exact ⟨_, rfl, .inr ⟨_, rfl, by rw [h3]; rfl⟩⟩
theorem rbad_if (bn : Int) (h : 0 ≤ bn ∧ bn ≤ 12) (l : List Int) (hl : l.length ≤ 17592186043904) :
    ∃ r, iter (fun s : Int ↦ W.R_badOp.c100025 bn s l some) (0 : Int) = some r ∧
      ((∃ u, r = .inl u ∧ ifBad bn l) ∨ ∃ u, r = .inr u ∧ ¬ ifBad bn l) := by
  refine iter_each (l := l) (fun pre r s => s = (pre.length : Int) ∧ ∀ v ∈ pre, ¬ (v = 0 ∨ bn < v ∨ v < -bn)) _ ?_ ?_ ⟨rfl, fun v hv => by cases hv⟩
  · rintro pre a r i rfl ⟨rfl, h1⟩
    simp only [List.length_append, List.length_cons] at hl
    have h27 : W.R_badOp.c27 bn (pre.length : Int) (pre ++ a :: r) some = some (decide (a = 0 ∨ bn < a ∨ a < -bn)) := by
      simp only [W.R_badOp.c27, br_or, idx_mid, bnd_val]
      rw [wrap_i64 (by omega)]; exact some_dec (by simp)
    simp only [W.R_badOp.c100025, br_if, h27, bnd_val]
    rw [if_pos lt_app]
    by_cases ha : a = 0 ∨ bn < a ∨ a < -bn
    · rw [if_pos (by simpa using ha)]
      exact .inr ⟨_, rfl, .inl ⟨_, rfl, a, by simp, ha⟩⟩
    · rw [if_neg (by simpa using ha), wrap_i64 (by omega)]
      refine .inl ⟨_, rfl, by simp, fun v hv => ?_⟩
      rcases List.mem_append.1 hv with hv | hv
      · exact h1 v hv
      · rw [List.mem_singleton.1 hv]; exact ha
  · rintro i ⟨rfl, h1⟩
    simp only [W.R_badOp.c100025, br_if]
    rw [if_neg (by simp)]
    exact ⟨_, rfl, .inr ⟨_, rfl, fun ⟨v, hv, hb⟩ => h1 v hv hb⟩⟩
theorem badOp_ok (o : Op) (qn bn : Int) (ho : WOp o) (hb : 0 ≤ bn ∧ bn ≤ 12) : W.R_badOp o qn bn = some (opBad o qn bn) := by
  obtain ⟨k, a, ctl, q, bit, cond⟩ := o
  obtain ⟨ho1, ho2⟩ := ho
  simp only at ho1 ho2
  simp only [W.R_badOp, rbad_c1, rbad_c3, rbad_c4, rbad_c6, rbad_c8, bnd_val, br_if, opBad, decide_eq_true_eq]
  split
  · rfl
  · split
    · rfl
    · split
      · rfl
      · split
        · rfl
        · obtain ⟨r, hr, hr'⟩ := rbad_ctl q qn ctl ho1
          rw [hr, bnd_val]
          rcases hr' with ⟨u, rfl, h⟩ | ⟨u, rfl, h⟩
          · rw [sel_inl, if_pos h]
          · rw [sel_inr, if_neg (show ¬ (ctlBad q qn [] ctl ≠ 0) by simp [h])]
            obtain ⟨r, hr, hr'⟩ := rbad_bit k bit bn
            rw [hr, bnd_val]
            rcases hr' with ⟨rfl, h⟩ | ⟨rfl, h⟩
            · rw [sel_inl, if_pos h]
            · rw [sel_inr, if_neg h]
              by_cases h24 : 24 < cond.length
              · rw [if_pos (by omega), if_pos h24]
              · rw [if_neg (by omega), if_neg h24]
                obtain ⟨r, hr, hr'⟩ := rbad_if bn hb cond ho2
                rw [hr, bnd_val]
                rcases hr' with ⟨u, rfl, h⟩ | ⟨u, rfl, h⟩
                · rw [sel_inl, if_pos h]
                · rw [sel_inr, if_neg h]
/-! ## Check -/
def opsBad (qn bn : Int) : Nat → List Op → Int × Int
  | _, [] => (0, 0)
  | i, o :: r => if opBad o qn bn = 0 then opsBad qn bn (i + 1) r else (opBad o qn bn, i)
def chk (c : Cir) : Int × Int :=
  if c.1 < 1 ∨ 12 < c.1 then (6, 0) else if c.2.1 < 0 ∨ 12 < c.2.1 then (7, 0) else if 4096 < c.2.2.length then (2, 0) else opsBad c.1 c.2.1 0 c.2.2
theorem WOp.eta (o : Op) : (o.1, o.2.1, o.2.2.1, o.2.2.2.1, o.2.2.2.2.1, o.2.2.2.2.2) = o := rfl
theorem fault_ok (a b : Int) : W.circ_fault a b = some (a, b) := rfl
theorem rfault_ok (a b : Int) : W.R_rfault a b = some (a, b) := rfl
theorem check_ok (c : Cir) (hc : WCir c) : W.circ_Check c = some (chk c) := by
  obtain ⟨qn, bn, ops⟩ := c
  obtain ⟨hl, hw⟩ := hc
  simp only at hl hw
  simp only [W.circ_Check, W.circ_Check.c1, W.circ_Check.c3, br_if, fault_ok, bnd_val, chk]
  by_cases h1 : qn < 1 ∨ 12 < qn
  · rw [if_pos h1]
    by_cases h : qn < 1
    · simp [h, bnd_val]
    · have : 12 < qn := by omega
      simp [h, this, bnd_val]
  · have h1a : ¬ qn < 1 := by omega
    have h1b : ¬ 12 < qn := by omega
    simp only [h1a, h1b, bnd_val, decide_false, Bool.false_eq_true, if_false, gt_iff_lt, or_self]
    by_cases h2 : bn < 0 ∨ 12 < bn
    · rw [if_pos h2]
      by_cases h : bn < 0
      · simp [h, bnd_val]
      · have : 12 < bn := by omega
        simp [h, this, bnd_val]
    · have h2a : ¬ bn < 0 := by omega
      have h2b : ¬ 12 < bn := by omega
      simp only [h2a, h2b, bnd_val, decide_false, Bool.false_eq_true, if_false, or_self]
      by_cases h3 : 4096 < ops.length
      · rw [if_pos h3, if_pos (by simp; omega)]
      · rw [if_neg h3, if_neg (by simp; omega)]
        have key : ∃ r, iter (fun s : Int × Int × Int × List Op ↦ W.circ_Check.c100008 ops (ops.length : Int) s.1 s.2.1 s.2.2.1 s.2.2.2 some) ((0 : Int), qn, bn, ops) = some r ∧
            ((∃ u, r = .inl u ∧ (u.2.2.2.2.1, u.2.2.2.2.2) = opsBad qn bn 0 ops) ∨ ∃ u, r = .inr u ∧ (0, 0) = opsBad qn bn 0 ops) := by
          refine iter_each (l := ops) (fun pre r s => s = ((pre.length : Int), qn, bn, ops) ∧ opsBad qn bn pre.length r = opsBad qn bn 0 ops) _ ?_ ?_ ⟨rfl, rfl⟩
          · rintro pre o r s rfl ⟨rfl, h4⟩
            simp only [List.length_append, List.length_cons] at hl
            simp only [W.circ_Check.c100008, br_if, idx_mid, bnd_val, WOp.eta, one_ok o qn bn _ (hw o (by simp)) (by omega) (by omega), fault_ok]
            rw [if_pos lt_app]
            rw [opsBad] at h4
            by_cases ho : opBad o qn bn = 0
            · rw [if_pos ho] at h4
              rw [if_neg (by simp [ho]), wrap_i64 (by omega)]
              exact .inl ⟨_, rfl, by simp, by simpa using h4⟩
            · rw [if_neg ho] at h4
              rw [if_pos (by simp [ho])]
              exact .inr ⟨_, rfl, .inl ⟨_, rfl, h4⟩⟩
          · rintro s ⟨rfl, h4⟩
            simp only [W.circ_Check.c100008, br_if]
            rw [if_neg (by simp)]
            exact ⟨_, rfl, .inr ⟨_, rfl, h4⟩⟩
        obtain ⟨r, hr, h⟩ := key
        rw [hr, bnd_val]
        rcases h with ⟨u, rfl, h⟩ | ⟨u, rfl, h⟩
        · rw [sel_inl, ← h]
        · rw [sel_inr, ← h]
theorem rcheck_ok (c : Cir) (hc : WCir c) : W.R_Check c = some (chk c) := by
  obtain ⟨qn, bn, ops⟩ := c
  obtain ⟨hl, hw⟩ := hc
  simp only at hl hw
  simp only [W.R_Check, W.R_Check.c1, W.R_Check.c3, br_if, rfault_ok, bnd_val, chk]
  by_cases h1 : qn < 1 ∨ 12 < qn
  · rw [if_pos h1]
    by_cases h : qn < 1
    · simp [h, bnd_val]
    · have : 12 < qn := by omega
      simp [h, this, bnd_val]
  · have h1a : ¬ qn < 1 := by omega
    have h1b : ¬ 12 < qn := by omega
    simp only [h1a, h1b, bnd_val, decide_false, Bool.false_eq_true, if_false, gt_iff_lt, or_self]
    by_cases h2 : bn < 0 ∨ 12 < bn
    · rw [if_pos h2]
      by_cases h : bn < 0
      · simp [h, bnd_val]
      · have : 12 < bn := by omega
        simp [h, this, bnd_val]
    · have h2a : ¬ bn < 0 := by omega
      have h2b : ¬ 12 < bn := by omega
      simp only [h2a, h2b, bnd_val, decide_false, Bool.false_eq_true, if_false, or_self]
      by_cases h3 : 4096 < ops.length
      · rw [if_pos h3, if_pos (by simp; omega)]
      · rw [if_neg h3, if_neg (by simp; omega)]
        have key : ∃ r, iter (fun s : Int ↦ W.R_Check.c100008 s qn bn ops some) (0 : Int) = some r ∧
            ((∃ u, r = .inl u ∧ (u.2.1, u.2.2) = opsBad qn bn 0 ops) ∨ ∃ u, r = .inr u ∧ (0, 0) = opsBad qn bn 0 ops) := by
          refine iter_each (l := ops) (fun pre r s => s = (pre.length : Int) ∧ opsBad qn bn pre.length r = opsBad qn bn 0 ops) _ ?_ ?_ ⟨rfl, rfl⟩
          · rintro pre o r s rfl ⟨rfl, h4⟩
            simp only [List.length_append, List.length_cons] at hl
            simp only [W.R_Check.c100008, W.R_Check.c10, br_if, idx_mid, bnd_val, badOp_ok o qn bn (hw o (by simp)) (by omega), rfault_ok]
            rw [if_pos lt_app]
            rw [opsBad] at h4
            by_cases ho : opBad o qn bn = 0
            · rw [if_pos ho] at h4
              rw [if_neg (by simp [ho]), wrap_i64 (by omega)]
              exact .inl ⟨_, rfl, by simp, by simpa using h4⟩
            · rw [if_neg ho] at h4
              rw [if_pos (by simp [ho])]
              exact .inr ⟨_, rfl, .inl ⟨_, rfl, h4⟩⟩
          · rintro s ⟨rfl, h4⟩
            simp only [W.R_Check.c100008, br_if]
            rw [if_neg (by simp)]
            exact ⟨_, rfl, .inr ⟨_, rfl, h4⟩⟩
        obtain ⟨r, hr, h⟩ := key
        rw [hr, bnd_val]
        rcases h with ⟨u, rfl, h⟩ | ⟨u, rfl, h⟩
        · rw [sel_inl, ← h]
        · rw [sel_inr, ← h]
end Go.Ql
end

section
namespace Go.Ql
instance dec3 : DecidableEq (Int × Int × List Int) := inferInstance
instance dec4 : DecidableEq (List Int × Int × Int × List Int) := inferInstance
instance dec6 : DecidableEq Op := instDecidableEqProd
instance decC : DecidableEq Cir := instDecidableEqProd
def notPure : Nat → List Op → Int × Int
  | _, [] => (0, 0)
  | i, o :: r => if o.1 = 5 ∨ o.1 = 6 ∨ o.2.2.2.2.2 ≠ [] then (15, i) else notPure (i + 1) r
def pur (c : Cir) : Int × Int := if (chk c).1 ≠ 0 then chk c else notPure 0 c.2.2
theorem opsBad_zero {qn bn : Int} : ∀ {l : List Op} {i : Nat}, (opsBad qn bn i l).1 = 0 → (∀ o ∈ l, opBad o qn bn = 0) ∧ opsBad qn bn i l = (0, 0)
  | [], _, _ => ⟨(fun _ h => by cases h), rfl⟩
  | o :: l, i, h => by
    rw [opsBad] at h ⊢
    by_cases ho : opBad o qn bn = 0
    · rw [if_pos ho] at h ⊢
      have := opsBad_zero h
      exact ⟨fun o' h' => by
        rcases List.mem_cons.1 h' with rfl | h'
        · exact ho
        · exact this.1 o' h', this.2⟩
    · rw [if_neg ho] at h
      exact absurd h ho
/-- What holds of a circuit that can be. -/
structure GoodC (c : Cir) : Prop where
  q : 1 ≤ c.1 ∧ c.1 ≤ 12
  b : 0 ≤ c.2.1 ∧ c.2.1 ≤ 12
  n : c.2.2.length ≤ 4096
  ops : ∀ o ∈ c.2.2, opBad o c.1 c.2.1 = 0
theorem good_of {c : Cir} (h : (chk c).1 = 0) : GoodC c ∧ chk c = (0, 0) := by
  unfold chk at h ⊢
  by_cases h1 : c.1 < 1 ∨ 12 < c.1
  · rw [if_pos h1] at h; cases h
  · rw [if_neg h1] at h ⊢
    by_cases h2 : c.2.1 < 0 ∨ 12 < c.2.1
    · rw [if_pos h2] at h; cases h
    · rw [if_neg h2] at h ⊢
      by_cases h3 : 4096 < c.2.2.length
      · rw [if_pos h3] at h; cases h
      · rw [if_neg h3] at h ⊢
        have := opsBad_zero h
        exact ⟨⟨by omega, by omega, by omega, this.1⟩, this.2⟩
theorem opsBad_good {qn bn : Int} : ∀ {l : List Op} {i : Nat}, (∀ o ∈ l, opBad o qn bn = 0) → opsBad qn bn i l = (0, 0)
  | [], _, _ => rfl
  | o :: l, i, h => by
    rw [opsBad, if_pos (h o (by simp))]
    exact opsBad_good (fun o' h' => h o' (List.mem_cons_of_mem _ h'))
theorem GoodC.chk {c : Cir} (h : GoodC c) : chk c = (0, 0) := by
  have := h.q; have := h.b; have := h.n
  unfold Ql.chk
  rw [if_neg (by omega), if_neg (by omega), if_neg (by omega)]
  exact opsBad_good h.ops
/-- What holds of an operation that can be. -/
structure GoodOp (o : Op) (qn bn : Int) : Prop where
  kind : 1 ≤ o.1 ∧ o.1 ≤ 6
  k : 0 ≤ o.2.1 ∧ o.2.1 ≤ 15
  k0 : (o.1 = 1 ∨ o.1 = 4) ∨ o.2.1 = 0
  q : 0 ≤ o.2.2.2.1 ∧ o.2.2.2.1 < qn
  q0 : o.1 = 1 → o.2.2.2.1 = 0
  ctl : o.2.2.1 = [] ∨ (o.1 = 2 ∨ o.1 = 3 ∨ o.1 = 4)
  ctls : ctlBad o.2.2.2.1 qn [] o.2.2.1 = 0
  bit : (o.1 = 5 ∧ 0 ≤ o.2.2.2.2.1 ∧ o.2.2.2.2.1 < bn) ∨ (o.1 ≠ 5 ∧ o.2.2.2.2.1 = 0)
  ifs : o.2.2.2.2.2.length ≤ 24
  cond : ¬ ifBad bn o.2.2.2.2.2
theorem goodOp_of {o : Op} {qn bn : Int} (h : opBad o qn bn = 0) : GoodOp o qn bn := by
  unfold opBad at h
  by_cases h1 : o.1 < 1 ∨ 6 < o.1
  · rw [if_pos h1] at h; cases h
  rw [if_neg h1] at h
  by_cases h2 : o.2.1 < 0 ∨ 15 < o.2.1 ∨ (¬ (o.1 = 1 ∨ o.1 = 4) ∧ o.2.1 ≠ 0)
  · rw [if_pos h2] at h; cases h
  rw [if_neg h2] at h
  by_cases h3 : o.2.2.2.1 < 0 ∨ qn ≤ o.2.2.2.1 ∨ (o.1 = 1 ∧ o.2.2.2.1 ≠ 0)
  · rw [if_pos h3] at h; cases h
  rw [if_neg h3] at h
  by_cases h4 : o.2.2.1 ≠ [] ∧ ¬ (o.1 = 2 ∨ o.1 = 3 ∨ o.1 = 4)
  · rw [if_pos h4] at h; cases h
  rw [if_neg h4] at h
  by_cases h5 : ctlBad o.2.2.2.1 qn [] o.2.2.1 ≠ 0
  · rw [if_pos h5] at h; exact absurd h h5
  rw [if_neg h5] at h
  by_cases h6 : (o.1 = 5 ∧ (o.2.2.2.2.1 < 0 ∨ bn ≤ o.2.2.2.2.1)) ∨ (o.1 ≠ 5 ∧ o.2.2.2.2.1 ≠ 0)
  · rw [if_pos h6] at h; cases h
  rw [if_neg h6] at h
  by_cases h7 : 24 < o.2.2.2.2.2.length
  · rw [if_pos h7] at h; cases h
  rw [if_neg h7] at h
  by_cases h8 : ifBad bn o.2.2.2.2.2
  · rw [if_pos h8] at h; cases h
  exact ⟨by omega, by omega, by omega, by omega, by omega, by by_cases h : o.2.2.1 = [] <;> simp_all; omega, by omega, by omega, by omega, h8⟩
theorem GoodOp.bad {o : Op} {qn bn : Int} (h : GoodOp o qn bn) : opBad o qn bn = 0 := by
  obtain ⟨h1, h2, h3, h4, h5, h6, h7, h8, h9, h10⟩ := h
  unfold opBad
  rw [if_neg (by omega), if_neg (by omega), if_neg (by omega), if_neg (by rcases h6 with h | h <;> simp [h]), if_neg (by simp [h7]), if_neg (by omega), if_neg (by omega), if_neg h10]
theorem ctlBad_zero {q0 qn : Int} : ∀ {r pre : List Int}, ctlBad q0 qn pre r = 0 ↔ (∀ q ∈ r, 0 ≤ q ∧ q < qn ∧ q ≠ q0 ∧ q ∉ pre) ∧ r.Nodup
  | [], _ => by simp [ctlBad]
  | q :: r, pre => by
    rw [ctlBad]
    by_cases h1 : q < 0 ∨ qn ≤ q
    · rw [if_pos h1]
      constructor
      · intro h; cases h
      · intro h; have := h.1 q (by simp); omega
    · rw [if_neg h1]
      by_cases h2 : q = q0 ∨ q ∈ pre
      · rw [if_pos h2]
        constructor
        · intro h; cases h
        · intro h; have := h.1 q (by simp); rcases h2 with h2 | h2
          · exact absurd h2 this.2.2.1
          · exact absurd h2 this.2.2.2
      · rw [if_neg h2, ctlBad_zero]
        have h1a : 0 ≤ q := by omega
        have h1b : q < qn := by omega
        simp only [not_or] at h2
        simp only [List.mem_cons, forall_eq_or_imp, List.nodup_cons, List.mem_append, List.mem_singleton, not_or]
        constructor
        · rintro ⟨h3, h4⟩
          exact ⟨⟨⟨h1a, h1b, h2.1, h2.2⟩, fun a ha => ⟨(h3 a ha).1, (h3 a ha).2.1, (h3 a ha).2.2.1, (h3 a ha).2.2.2.1⟩⟩, fun hq => (h3 q hq).2.2.2.2.1 rfl, h4⟩
        · rintro ⟨⟨_, h3⟩, h4, h5⟩
          exact ⟨fun a ha => ⟨(h3 a ha).1, (h3 a ha).2.1, (h3 a ha).2.2.1, (h3 a ha).2.2.2, ⟨fun e => h4 (e ▸ ha), by simp⟩⟩, h5⟩

/-! ## Pure -/
theorem rcopyInts_ok (l : List Int) (hl : l.length ≤ 17592186043904) : W.R_copyInts l = some l := by
  have h : ∃ r, iter (fun s : Int × List Int ↦ W.R_copyInts.c100003 l s.1 s.2 some) ((0 : Int), []) = some r ∧ r.2 = l := by
    refine iter_each (l := l) (fun pre r s => s = ((pre.length : Int), pre)) _ ?_ ?_ rfl
    · rintro pre a r s rfl rfl
      simp only [List.length_append, List.length_cons] at hl
      simp only [W.R_copyInts.c100003, br_if, idx_mid, bnd_val]
      rw [if_pos lt_app, okIf_true (by simp; omega), wrap_i64 (by omega)]
      exact .inl ⟨_, rfl, by simp⟩
    · rintro s rfl
      simp only [W.R_copyInts.c100003, br_if]
      rw [if_neg (by simp)]
      exact ⟨_, rfl, rfl⟩
  obtain ⟨r, hr, h⟩ := h
  simp only [W.R_copyInts, hr, bnd_val, h]
theorem rcopyOp_ok (o : Op) (ho : WOp o) : W.R_copyOp o = some o := by
  simp only [W.R_copyOp, rcopyInts_ok _ ho.1, rcopyInts_ok _ ho.2, bnd_val]
theorem copyCircuit_ok (c : Cir) (hc : WCir c) : W.R_CopyCircuit c = some c := by
  obtain ⟨qn, bn, ops⟩ := c
  obtain ⟨hl, hw⟩ := hc
  simp only at hl hw
  have h : ∃ r, iter (fun s : Int × List Op ↦ W.R_CopyCircuit.c100003 s.1 ops s.2 some) ((0 : Int), []) = some r ∧ r.2 = ops := by
    refine iter_each (l := ops) (fun pre r s => s = ((pre.length : Int), pre)) _ ?_ ?_ rfl
    · rintro pre a r s rfl rfl
      simp only [List.length_append, List.length_cons] at hl
      simp only [W.R_CopyCircuit.c100003, W.R_CopyCircuit.c5, br_if, idx_mid, bnd_val, rcopyOp_ok a (hw a (by simp))]
      rw [if_pos lt_app, okIf_true (by simp; omega), wrap_i64 (by omega)]
      exact .inl ⟨_, rfl, by simp⟩
    · rintro s rfl
      simp only [W.R_CopyCircuit.c100003, br_if]
      rw [if_neg (by simp)]
      exact ⟨_, rfl, rfl⟩
  obtain ⟨r, hr, h⟩ := h
  simp only [W.R_CopyCircuit, hr, bnd_val, h]
theorem sameInts_ok (a b : List Int) (ha : a.length ≤ 17592186043904) : W.R_SameInts a b = some (decide (a = b)) := by
  simp only [W.R_SameInts, br_if]
  by_cases hlen : a.length = b.length
  · rw [if_neg (by simp [hlen])]
    have h : ∃ r, iter (fun s : Int ↦ W.R_SameInts.c100004 a b s some) (0 : Int) = some r ∧ ((∃ u, r = .inl u ∧ a ≠ b) ∨ ∃ u, r = .inr u ∧ a = b) := by
      refine iter_upto a.length (fun i s => s = (i : Int) ∧ a.take i = b.take i) _ ?_ ?_ ⟨rfl, rfl⟩
      · rintro i s hi ⟨rfl, h1⟩
        have h6 : W.R_SameInts.c6 a b (i : Int) some = some (decide (a[i] ≠ b[i]'(by omega))) := by
          simp only [W.R_SameInts.c6, idx_get hi, idx_get (show i < b.length by omega), bnd_val]
          exact some_dec (by simp)
        simp only [W.R_SameInts.c100004, br_if, h6, bnd_val]
        rw [if_pos (by simpa using hi)]
        by_cases hd : a[i] = b[i]'(by omega)
        · rw [if_neg (by simpa using hd), wrap_i64 (by omega)]
          exact .inl ⟨_, rfl, by simp, by rw [List.take_succ_eq_append_getElem hi, List.take_succ_eq_append_getElem (by omega), h1, hd]⟩
        · rw [if_pos (by simpa using hd)]
          exact .inr ⟨_, rfl, .inl ⟨_, rfl, fun e => hd (by subst e; rfl)⟩⟩
      · rintro s ⟨rfl, h1⟩
        simp only [W.R_SameInts.c100004, br_if]
        rw [if_neg (by simp)]
        rw [List.take_length, hlen, List.take_length] at h1
        exact ⟨_, rfl, .inr ⟨_, rfl, h1⟩⟩
    obtain ⟨r, hr, h⟩ := h
    rw [hr, bnd_val]
    rcases h with ⟨u, rfl, h⟩ | ⟨u, rfl, h⟩
    · rw [sel_inl]; simp [h]
    · rw [sel_inr]; simp [h]
  · rw [if_pos (by simp; omega)]
    have : a ≠ b := fun e => hlen (by rw [e])
    simp [this]
theorem sameCircuit_ok (a b : Cir) (ha : WCir a) : W.R_SameCircuit a b = some (decide (a = b)) := by
  obtain ⟨q1, b1, l1⟩ := a
  obtain ⟨q2, b2, l2⟩ := b
  obtain ⟨hl, hw⟩ := ha
  simp only at hl hw
  have h1 : W.R_SameCircuit.c1 q1 b1 l1 q2 b2 l2 some = some (decide (q1 ≠ q2 ∨ b1 ≠ b2 ∨ l1.length ≠ l2.length)) := by
    simp only [W.R_SameCircuit.c1, br_or]; exact some_dec (by simp; try omega)
  simp only [W.R_SameCircuit, h1, bnd_val, br_if, decide_eq_true_eq]
  by_cases h0 : q1 ≠ q2 ∨ b1 ≠ b2 ∨ l1.length ≠ l2.length
  · rw [if_pos h0]
    have : (q1, b1, l1) ≠ (q2, b2, l2) := by
      intro e
      injection e with e1 e
      injection e with e2 e
      subst e1; subst e2; subst e
      simp at h0
    simp [this]
  · rw [if_neg h0]
    simp only [not_or, Decidable.not_not] at h0
    obtain ⟨rfl, rfl, hlen⟩ := h0
    have h : ∃ r, iter (fun s : Int ↦ W.R_SameCircuit.c100004 s l1 l2 some) (0 : Int) = some r ∧ ((∃ u, r = .inl u ∧ l1 ≠ l2) ∨ ∃ u, r = .inr u ∧ l1 = l2) := by
      refine iter_upto l1.length (fun i s => s = (i : Int) ∧ l1.take i = l2.take i) _ ?_ ?_ ⟨rfl, rfl⟩
      · rintro i s hi ⟨rfl, h1⟩
        have hwi := hw _ (List.getElem_mem hi)
        have hi2 : i < l2.length := by omega
        have h8 : ∀ x y : Op, WOp x → W.R_SameCircuit.c8 x.1 x.2.1 x.2.2.1 x.2.2.2.1 x.2.2.2.2.1 x.2.2.2.2.2 y.1 y.2.1 y.2.2.1 y.2.2.2.1 y.2.2.2.2.1 y.2.2.2.2.2 some = some (decide (x ≠ y)) := by
          rintro ⟨x0, x1, x2, x3, x4, x5⟩ ⟨y0, y1, y2, y3, y4, y5⟩ hx
          simp only [W.R_SameCircuit.c8, br_or, sameInts_ok _ _ hx.1, sameInts_ok _ _ hx.2, bnd_val]
          exact some_dec (by simp; grind)
        simp only [W.R_SameCircuit.c100004, br_if, idx_get hi, idx_get hi2, bnd_val, h8 _ _ hwi]
        rw [if_pos (by simpa using hi)]
        by_cases hd : l1[i] = l2[i]
        · rw [if_neg (by simpa using hd), wrap_i64 (by omega)]
          exact .inl ⟨_, rfl, by simp, by rw [List.take_succ_eq_append_getElem hi, List.take_succ_eq_append_getElem hi2, h1, hd]⟩
        · rw [if_pos (by simpa using hd)]
          exact .inr ⟨_, rfl, .inl ⟨_, rfl, fun e => hd (by subst e; rfl)⟩⟩
      · rintro s ⟨rfl, h1⟩
        simp only [W.R_SameCircuit.c100004, br_if]
        rw [if_neg (by simp)]
        rw [List.take_length, hlen, List.take_length] at h1
        exact ⟨_, rfl, .inr ⟨_, rfl, h1⟩⟩
    obtain ⟨r, hr, h⟩ := h
    rw [hr, bnd_val]
    rcases h with ⟨u, rfl, h⟩ | ⟨u, rfl, h⟩
    · rw [sel_inl]; simp [h]
    · rw [sel_inr]; simp [h]
end Go.Ql
end

section
namespace Go.Ql
def invOp (o : Op) : Op := (o.1, (16 - o.2.1) % 16, o.2.2.1, o.2.2.2.1, o.2.2.2.2.1, o.2.2.2.2.2)
abbrev nix : Cir := (0, 0, [])
def inv (c : Cir) : Cir := (c.1, c.2.1, (c.2.2.map invOp).reverse)
def inverse (c : Cir) : Cir × Int × Int := if (pur c).1 ≠ 0 then (nix, pur c) else (inv c, (0, 0))
theorem invOp_w {o : Op} (h : WOp o) : WOp (invOp o) := h
theorem notPure_zero : ∀ {l : List Op} {i : Nat}, (notPure i l).1 = 0 → (∀ o ∈ l, ¬ (o.1 = 5 ∨ o.1 = 6 ∨ o.2.2.2.2.2 ≠ [])) ∧ notPure i l = (0, 0)
  | [], _, _ => ⟨(fun _ h => by cases h), rfl⟩
  | o :: l, i, h => by
    rw [notPure] at h ⊢
    by_cases ho : o.1 = 5 ∨ o.1 = 6 ∨ o.2.2.2.2.2 ≠ []
    · rw [if_pos ho] at h; cases h
    · rw [if_neg ho] at h ⊢
      have := notPure_zero h
      exact ⟨fun o' h' => by
        rcases List.mem_cons.1 h' with rfl | h'
        · exact ho
        · exact this.1 o' h', this.2⟩
theorem notPure_of : ∀ {l : List Op} {i : Nat}, (∀ o ∈ l, ¬ (o.1 = 5 ∨ o.1 = 6 ∨ o.2.2.2.2.2 ≠ [])) → notPure i l = (0, 0)
  | [], _, _ => rfl
  | o :: l, i, h => by
    rw [notPure, if_neg (h o (by simp))]
    exact notPure_of (fun o' h' => h o' (List.mem_cons_of_mem _ h'))
theorem pur_zero {c : Cir} (h : (pur c).1 = 0) : GoodC c ∧ pur c = (0, 0) ∧ ∀ o ∈ c.2.2, ¬ (o.1 = 5 ∨ o.1 = 6 ∨ o.2.2.2.2.2 ≠ []) := by
  unfold pur at h ⊢
  by_cases h1 : (chk c).1 = 0
  · rw [if_neg (by simp [h1])] at h ⊢
    have := notPure_zero h
    exact ⟨(good_of h1).1, this.2, this.1⟩
  · rw [if_pos h1] at h
    exact absurd h h1
theorem pur_of {c : Cir} (h : GoodC c) (h' : ∀ o ∈ c.2.2, ¬ (o.1 = 5 ∨ o.1 = 6 ∨ o.2.2.2.2.2 ≠ [])) : pur c = (0, 0) := by
  unfold pur
  rw [h.chk, if_neg (by simp)]
  exact notPure_of h'
theorem WCir.eta (c : Cir) : (c.1, c.2.1, c.2.2) = c := rfl
def base (c : Cir) (n : Int) : List Op := if n < 0 then (inv c).2.2 else c.2.2
def power (c : Cir) (n : Int) : Cir × Int × Int :=
  if (pur c).1 ≠ 0 then (nix, pur c) else if 4096 < n.natAbs * c.2.2.length then (nix, (2, 0)) else ((c.1, c.2.1, (List.replicate n.natAbs (base c n)).flatten), (0, 0))
theorem base_len (c : Cir) (n : Int) : (base c n).length = c.2.2.length := by unfold base; split <;> simp [inv]
theorem base_w {c : Cir} (hc : WCir c) (n : Int) : ∀ o ∈ base c n, WOp o := by
  intro o ho
  unfold base at ho
  split at ho
  · simp only [inv, List.mem_reverse, List.mem_map] at ho
    obtain ⟨o', h1, rfl⟩ := ho
    exact invOp_w (hc.2 o' h1)
  · exact hc.2 o ho
theorem flat_len (k : Nat) (l : List Op) : (List.replicate k l).flatten.length = k * l.length := by
  induction k with
  | zero => simp
  | succ k ih => simp [List.replicate_succ, Nat.succ_mul, Nat.add_comm, ih]
theorem flat_snoc (k : Nat) (l : List Op) : (List.replicate k l).flatten ++ l = (List.replicate (k + 1) l).flatten := by
  rw [List.replicate_succ', List.flatten_append]; simp
theorem mul_gt {s l : Nat} (hl : 0 < l) : 4096 / l < s ↔ 4096 < s * l := by
  rw [Nat.div_lt_iff_lt_mul hl]
end Go.Ql
end

section
namespace Go.Ql
def thenF (a b : Cir) : Int × Int :=
  if (chk a).1 ≠ 0 then chk a else if (chk b).1 ≠ 0 then chk b else if a.1 ≠ b.1 ∨ a.2.1 ≠ b.2.1 then (16, 0) else if 4096 < a.2.2.length + b.2.2.length then (2, 0) else (0, 0)
def thenC (a b : Cir) : Cir × Int × Int := if (thenF a b).1 ≠ 0 then (nix, thenF a b) else ((a.1, a.2.1, a.2.2 ++ b.2.2), (0, 0))
end Go.Ql
end

section
namespace Go.Ql
def dtx (n : Nat) : List UInt8 := if n < 10 then [UInt8.ofNat (48 + n)] else [UInt8.ofNat (48 + n / 10), UInt8.ofNat (48 + n % 10)]
def decI (n : Int) : List UInt8 := dtx n.toNat
theorem dtx_len (n : Nat) : (dtx n).length ≤ 2 := by unfold dtx; split <;> simp
set_option maxRecDepth 100000 in
theorem itoa_nat : ∀ n : Nat, n < 100 → W.strconv_Itoa (n : Int) = some (dtx n) := by decide +kernel
theorem itoa_ok {n : Int} (h : 0 ≤ n ∧ n < 100) : W.strconv_Itoa n = some (decI n) := by
  obtain ⟨k, rfl⟩ := Int.eq_ofNat_of_zero_le h.1
  exact itoa_nat k (by omega)
/-- Bytes as a builder holds them. -/
def ints (l : List UInt8) : List Int := l.map fun b => (b.toNat : Int)
theorem ints_append (a b : List UInt8) : ints (a ++ b) = ints a ++ ints b := List.map_append
theorem ints_len (a : List UInt8) : (ints a).length = a.length := List.length_map ..
theorem writeString_ok (s : List UInt8) (t : List Int) (h : t.length + s.length ≤ 140737488355328) : W.strings_Builder_WriteString s t = some ((s.length : Int), (), t ++ ints s, ()) := by
  simp only [W.strings_Builder_WriteString, W.strings_Builder_copyCheck, bnd_val]
  rw [okIf_true (by simpa using h)]
  rfl
theorem writeByte_ok (c : Int) (t : List Int) (h : t.length + 1 ≤ 140737488355328) : W.strings_Builder_WriteByte c t = some ((), t ++ [c], ()) := by
  simp only [W.strings_Builder_WriteByte, W.strings_Builder_copyCheck, bnd_val]
  rw [okIf_true (by simpa using h)]
  rfl
def word (k : Int) : List UInt8 := if k = 1 then [112, 104, 97, 115, 101] else if k = 2 then [120] else if k = 3 then [104] else if k = 4 then [112] else if k = 5 then [109, 101, 97, 115, 117, 114, 101] else [114, 101, 115, 101, 116]
theorem word_len (k : Int) : (word k).length ≤ 7 := by
  unfold word
  repeat' split
  all_goals decide
theorem word_ok (k : Int) : W.circ_word k = some (word k) := by
  simp only [W.circ_word, br_if, word, beq_iff_eq]
  repeat' split
  all_goals rfl
def sp (n : Int) : List UInt8 := 32 :: decI n
theorem sp_len (n : Int) : (sp n).length ≤ 3 := by unfold sp decI; have := dtx_len n.toNat; simp; omega
def spv (v : Int) : List UInt8 := if v < 0 then 32 :: 33 :: decI (-v - 1) else sp (v - 1)
theorem spv_len (n : Int) : (spv n).length ≤ 4 := by
  unfold spv
  split
  · unfold decI; have := dtx_len (-n - 1).toNat; simp only [List.length_cons]; omega
  · have := sp_len (n - 1); omega
theorem flatMap_len {α : Type} (f : α → List UInt8) (k : Nat) (hf : ∀ a, (f a).length ≤ k) : ∀ l : List α, (l.flatMap f).length ≤ k * l.length
  | [] => by simp
  | a :: l => by
    have := flatMap_len f k hf l
    have := hf a
    simp only [List.flatMap_cons, List.length_append, List.length_cons, Nat.mul_succ]
    omega
def lineT (o : Op) : List UInt8 :=
  word o.1 ++ (if o.1 = 1 ∨ o.1 = 4 then sp o.2.1 else []) ++ (if o.1 ≠ 1 then sp o.2.2.2.1 else []) ++ (if o.2.2.1 ≠ [] then [32, 111, 110] ++ o.2.2.1.flatMap sp else [])
    ++ (if o.1 = 5 then [32, 116, 111] ++ sp o.2.2.2.2.1 else []) ++ (if o.2.2.2.2.2 ≠ [] then [32, 105, 102] ++ o.2.2.2.2.2.flatMap spv else []) ++ [10]
theorem if_len {p : Prop} [Decidable p] {a : List UInt8} {k : Nat} (h : a.length ≤ k) : (if p then a else []).length ≤ k := by
  split
  · exact h
  · exact Nat.zero_le _
theorem lineT_len (o : Op) : (lineT o).length ≤ 30 + 3 * o.2.2.1.length + 4 * o.2.2.2.2.2.length := by
  have h1 := word_len o.1
  have h2 := if_len (p := o.1 = 1 ∨ o.1 = 4) (sp_len o.2.1)
  have h3 := if_len (p := o.1 ≠ 1) (sp_len o.2.2.2.1)
  have h4 := if_len (p := o.2.2.1 ≠ []) (a := [32, 111, 110] ++ o.2.2.1.flatMap sp) (k := 3 + 3 * o.2.2.1.length) (by have := flatMap_len sp 3 sp_len o.2.2.1; simp only [List.length_append, List.length_cons, List.length_nil]; omega)
  have h5 := if_len (p := o.1 = 5) (a := [32, 116, 111] ++ sp o.2.2.2.2.1) (k := 6) (by have := sp_len o.2.2.2.2.1; simp; omega)
  have h6 := if_len (p := o.2.2.2.2.2 ≠ []) (a := [32, 105, 102] ++ o.2.2.2.2.2.flatMap spv) (k := 3 + 4 * o.2.2.2.2.2.length) (by have := flatMap_len spv 4 spv_len o.2.2.2.2.2; simp only [List.length_append, List.length_cons, List.length_nil]; omega)
  unfold lineT
  simp only [List.length_append, List.length_cons, List.length_nil]
  omega
/-- Unlike numbers of a range are no more than it has. -/
theorem nodup_len : ∀ (n : Nat) {l : List Int}, l.Nodup → (∀ x ∈ l, 0 ≤ x ∧ x < n) → l.length ≤ n
  | 0, l, _, h => by
    cases l with
    | nil => exact Nat.le_refl 0
    | cons a l => have := h a (by simp); omega
  | n + 1, l, hd, h => by
    by_cases hm : (n : Int) ∈ l
    · have h1 := nodup_len n (l := l.erase n) (hd.erase _) (fun x hx => by
        have hx' := List.mem_of_mem_erase hx
        have h2 := h x hx'
        have h3 : x ≠ n := fun e => by subst e; exact (List.Nodup.not_mem_erase hd) hx
        omega)
      rw [List.length_erase_of_mem hm] at h1
      omega
    · have := nodup_len n hd (fun x hx => by
        have h2 := h x hx
        have h3 : x ≠ n := fun e => hm (e ▸ hx)
        omega)
      omega
theorem GoodOp.len {o : Op} {qn bn : Int} (h : GoodOp o qn bn) (hq : qn ≤ 12) : (lineT o).length ≤ 200 ∧ o.2.2.1.length ≤ 12 := by
  have h1 := (ctlBad_zero.1 h.ctls)
  have h2 := nodup_len 12 h1.2 (fun x hx => by have := h1.1 x hx; omega)
  have h3 := lineT_len o
  have h4 := h.ifs
  exact ⟨by omega, h2⟩
theorem line1_ok (ns : List Int) (t : List Int) (hn : ∀ n ∈ ns, 0 ≤ n ∧ n < 100) (hl : ns.length ≤ 1000) (ht : t.length ≤ 100000000) : W.circ_line_1 ns t = some (t ++ ints (ns.flatMap sp), ()) := by
  have h : ∃ r, iter (fun s : Int × List Int ↦ W.circ_line_1.c100001 ns (ns.length : Int) s.1 s.2 some) ((0 : Int), t) = some r ∧ r.2 = t ++ ints (ns.flatMap sp) := by
    refine iter_each (l := ns) (fun pre r s => s = ((pre.length : Int), t ++ ints (pre.flatMap sp))) _ ?_ ?_ (by simp [ints])
    · rintro pre a r s rfl rfl
      have hp := flatMap_len sp 3 sp_len pre
      have ha := dtx_len a.toNat
      simp only [List.length_append, List.length_cons] at hl
      have h3 : W.circ_line_1.c3 a (t ++ ints (pre.flatMap sp)) some = some (t ++ ints ((pre ++ [a]).flatMap sp)) := by
        simp only [W.circ_line_1.c3, itoa_ok (hn a (by simp)), bnd_val]
        rw [okIf_true (by simp [decI]; omega), bnd_val, writeString_ok _ _ (by try simp only [List.length_append, List.length_cons, List.length_nil, ints_len, decI]; omega)]
        simp [bnd_val, sp, ints]
      simp only [W.circ_line_1.c100001, br_if, idx_mid, bnd_val, h3]
      rw [if_pos lt_app, wrap_i64 (by omega)]
      exact .inl ⟨_, rfl, by simp⟩
    · rintro s rfl
      simp only [W.circ_line_1.c100001, br_if]
      rw [if_neg (by simp)]
      exact ⟨_, rfl, rfl⟩
  obtain ⟨r, hr, h⟩ := h
  simp only [W.circ_line_1, hr, bnd_val, h]
theorem ifBad_not {bn : Int} {l : List Int} (h : ¬ ifBad bn l) : ∀ v ∈ l, v ≠ 0 ∧ v ≤ bn ∧ -bn ≤ v := by
  intro v hv
  have : ¬ (v = 0 ∨ bn < v ∨ v < -bn) := fun hb => h ⟨v, hv, hb⟩
  omega
theorem line_ok (o : Op) (qn bn : Int) (t : List Int) (h : GoodOp o qn bn) (hq : qn ≤ 12) (hb : bn ≤ 12) (ht : t.length ≤ 10000000) : W.circ_line o t = some (t ++ ints (lineT o), ()) := by
  have hlen := h.len hq
  have hll := lineT_len o
  obtain ⟨k, a, ctl, q, bit, cond⟩ := o
  obtain ⟨h1, h2, h3, h4, h5, h6, h7, h8, h9, h10⟩ := h
  simp only at h1 h2 h3 h4 h5 h6 h7 h8 h9 h10 hlen hll
  have hctl := (ctlBad_zero.1 h7).1
  have hcond := ifBad_not h10
  have c2 : W.circ_line.c2 k t some = some (t ++ ints (word k)) := by
    have := word_len k
    simp only [W.circ_line.c2, word_ok, bnd_val]
    rw [writeString_ok _ _ (by omega)]
    rfl
  have c12 : ∀ t : List Int, t.length ≤ 20000000 → W.circ_line.c212293 k a t some = some (t ++ ints (if k = 1 ∨ k = 4 then sp a else [])) := by
    intro t ht
    simp only [W.circ_line.c212293, turns_ok, bnd_val]
    by_cases hk : k = 1 ∨ k = 4
    · rw [br_pos hk, line1_ok [a] t (by simpa using ⟨h2.1, by omega⟩) (by simp) (by omega), if_pos hk]
      simp [bnd_val]
    · rw [br_neg hk, if_neg hk]
      simp [ints]
  have c20 : ∀ t : List Int, t.length ≤ 20000000 → W.circ_line.c220485 k q t some = some (t ++ ints (if k ≠ 1 then sp q else [])) := by
    intro t ht
    simp only [W.circ_line.c220485]
    by_cases hk : k ≠ 1
    · rw [br_true (by simpa using hk), line1_ok [q] t (by simpa using ⟨h4.1, by omega⟩) (by simp) (by omega), if_pos hk]
      simp [bnd_val]
    · rw [br_false (by simpa using hk), if_neg hk]
      simp [ints]
  have c28 : ∀ t : List Int, t.length ≤ 20000000 → W.circ_line.c228679 ctl t some = some (t ++ ints (if ctl ≠ [] then [32, 111, 110] ++ ctl.flatMap sp else [])) := by
    intro t ht
    simp only [W.circ_line.c228679]
    by_cases hk : ctl ≠ []
    · rw [br_true (by cases ctl <;> simp_all), writeString_ok _ _ (by try simp only [List.length_append, List.length_cons, List.length_nil, ints_len, decI]; omega), bnd_val, line1_ok ctl _ (fun n hn => by have := hctl n hn; omega) (by omega) (by try simp only [List.length_append, List.length_cons, List.length_nil, ints_len, decI]; omega), if_pos hk]
      simp [bnd_val, ints]
    · rw [br_false (by cases ctl <;> simp_all), if_neg hk]
      simp [ints]
  have c40 : ∀ t : List Int, t.length ≤ 20000000 → W.circ_line.c240967 k bit t some = some (t ++ ints (if k = 5 then [32, 116, 111] ++ sp bit else [])) := by
    intro t ht
    simp only [W.circ_line.c240967]
    by_cases hk : k = 5
    · rw [br_true (by simpa using hk), writeString_ok _ _ (by try simp only [List.length_append, List.length_cons, List.length_nil, ints_len, decI]; omega), bnd_val, line1_ok [bit] _ (by simp; omega) (by simp) (by try simp only [List.length_append, List.length_cons, List.length_nil, ints_len, decI]; omega), if_pos hk]
      simp [bnd_val, ints]
    · rw [br_false (by simpa using hk), if_neg hk]
      simp [ints]
  have c53 : ∀ t : List Int, t.length ≤ 20000000 → W.circ_line.c253274 cond t some = some (t ++ ints (if cond ≠ [] then [32, 105, 102] ++ cond.flatMap spv else [])) := by
    intro t ht
    simp only [W.circ_line.c253274]
    by_cases hk : cond ≠ []
    · rw [br_true (by cases cond <;> simp_all), writeString_ok _ _ (by try simp only [List.length_append, List.length_cons, List.length_nil, ints_len, decI]; omega), bnd_val, if_pos hk]
      have h : ∃ r, iter (fun s : Int × List Int ↦ W.circ_line.c100016 cond (cond.length : Int) s.1 s.2 some) ((0 : Int), t ++ ints [32, 105, 102]) = some r ∧ r.2 = t ++ ints [32, 105, 102] ++ ints (cond.flatMap spv) := by
        refine iter_each (l := cond) (fun pre r s => s = ((pre.length : Int), t ++ ints [32, 105, 102] ++ ints (pre.flatMap spv))) _ ?_ ?_ (by simp [ints])
        · rintro pre v r s rfl rfl
          have hp := flatMap_len spv 4 spv_len pre
          simp only [List.length_append, List.length_cons] at h9
          have hv := hcond v (by simp)
          have ha := dtx_len (-v - 1).toNat
          have h3 : W.circ_line.c269640 (pre ++ v :: r) (pre.length : Int) (t ++ ints [32, 105, 102] ++ ints (pre.flatMap spv)) some = some (t ++ ints [32, 105, 102] ++ ints ((pre ++ [v]).flatMap spv)) := by
            simp only [W.circ_line.c269640, idx_mid, bnd_val]
            by_cases hv0 : v < 0
            · rw [br_pos hv0]
              simp only [W.circ_line.c19]
              rw [wrap_i64 (x := 0 - v) (by omega), wrap_i64 (by omega), itoa_ok (by omega), bnd_val, okIf_true (by unfold decI; have := dtx_len (0 - v - 1).toNat; rw [decide_eq_true_eq]; show 2 + _ ≤ _; omega), bnd_val, writeString_ok _ _ (by have := dtx_len (0 - v - 1).toNat; try simp only [List.length_append, List.length_cons, List.length_nil, ints_len, decI]; omega)]
              simp [bnd_val, spv, hv0, ints]
            · rw [br_neg hv0, wrap_i64 (by omega), line1_ok [v - 1] _ (by simp; omega) (by simp) (by try simp only [List.length_append, List.length_cons, List.length_nil, ints_len, decI]; omega)]
              simp [bnd_val, spv, hv0, ints]
          simp only [W.circ_line.c100016, br_if, bnd_val, h3]
          rw [if_pos lt_app, wrap_i64 (by omega)]
          exact .inl ⟨_, rfl, by simp⟩
        · rintro s rfl
          simp only [W.circ_line.c100016, br_if]
          rw [if_neg (by simp)]
          exact ⟨_, rfl, rfl⟩
      obtain ⟨r, hr, h⟩ := h
      show bnd (iter (fun s : Int × List Int ↦ W.circ_line.c100016 cond (cond.length : Int) s.1 s.2 some) ((0 : Int), t ++ ints [32, 105, 102])) _ = _
      rw [hr, bnd_val, h, ints_append, List.append_assoc]
    · rw [br_false (by cases cond <;> simp_all), if_neg hk]
      simp [ints]
  simp only [lineT, List.length_append, List.length_cons, List.length_nil] at hlen
  simp only [W.circ_line, c2, bnd_val]
  rw [c12 _ (by try simp only [List.length_append, List.length_cons, List.length_nil, ints_len, decI]; omega), bnd_val, c20 _ (by try simp only [List.length_append, List.length_cons, List.length_nil, ints_len, decI]; omega), bnd_val, c28 _ (by try simp only [List.length_append, List.length_cons, List.length_nil, ints_len, decI]; omega), bnd_val, c40 _ (by try simp only [List.length_append, List.length_cons, List.length_nil, ints_len, decI]; omega), bnd_val, c53 _ (by try simp only [List.length_append, List.length_cons, List.length_nil, ints_len, decI]; omega), bnd_val]
  rw [writeByte_ok _ _ (by try simp only [List.length_append, List.length_cons, List.length_nil, ints_len, decI]; omega)]
  simp [bnd_val, lineT, ints]
end Go.Ql
end

section
namespace Go.Ql
def headT (q b : Int) : List UInt8 := [113, 117, 98, 105, 116, 115, 32] ++ decI q ++ [32, 98, 105, 116, 115, 32] ++ decI b ++ [10]
def printT (c : Cir) : List UInt8 := headT c.1 c.2.1 ++ c.2.2.flatMap lineT
theorem ints_back (l : List UInt8) : (ints l).map (fun n => UInt8.ofNat n.toNat) = l := by
  unfold ints
  rw [List.map_map]
  conv => rhs; rw [← List.map_id l]
  apply List.map_congr_left
  intro b _
  simp
theorem string_ok (l : List UInt8) (h : l ≠ []) : W.strings_Builder_String (ints l) = some (l, ()) := by
  unfold W.strings_Builder_String
  have h1 : (!List.isEmpty (ints l) && List.all (ints l) (fun n => decide (0 ≤ n) && decide (n < 256))) = true := by
    rw [Bool.and_eq_true]
    refine ⟨by cases l <;> simp_all [ints], ?_⟩
    rw [List.all_eq_true]
    intro n hn
    obtain ⟨b, _, rfl⟩ := List.mem_map.1 hn
    have := b.toNat_lt
    simp only [Bool.and_eq_true, decide_eq_true_eq]
    omega
  rw [h1, ints_back]
  rfl
theorem decI_len (n : Int) : (decI n).length ≤ 2 := dtx_len _
theorem print_ok (c : Cir) (hc : WCir c) : W.circ_Print c = some (if (chk c).1 ≠ 0 then ([], chk c) else (printT c, (0, 0))) := by
  simp only [W.circ_Print, W.circ_Print.c3, WCir.eta, check_ok c hc, bnd_val]
  by_cases h1 : (chk c).1 = 0
  · obtain ⟨hg, hz⟩ := good_of h1
    rw [br_false (by simp [h1]), if_neg (by simp [h1])]
    obtain ⟨q, b, ops⟩ := c
    have hq := hg.q
    have hb := hg.b
    have hn := hg.n
    have hops := hg.ops
    simp only at hq hb hn hops
    have l1 := decI_len q
    have l2 := decI_len b
    have c5 : W.circ_Print.c5 q b [] some = some (ints (headT q b)) := by
      simp only [W.circ_Print.c5]
      rw [itoa_ok (by omega), bnd_val, okIf_true (by rw [decide_eq_true_eq]; show 7 + _ ≤ _; omega), bnd_val]
      rw [okIf_true (by rw [decide_eq_true_eq, List.length_append]; show 7 + _ + 6 ≤ _; omega), bnd_val, itoa_ok (by omega), bnd_val]
      rw [okIf_true (by rw [decide_eq_true_eq, List.length_append, List.length_append]; show 7 + _ + 6 + _ ≤ _; omega), bnd_val]
      rw [okIf_true (by rw [decide_eq_true_eq, List.length_append, List.length_append, List.length_append]; show 7 + _ + 6 + _ + 1 ≤ _; omega), bnd_val]
      rw [writeString_ok _ _ (by
        show 0 + _ ≤ _
        rw [List.length_append, List.length_append, List.length_append, List.length_append]
        show 0 + (7 + _ + 6 + _ + 1) ≤ _; omega)]
      rfl
    have key : ∃ r, iter (fun s : Int × List Int ↦ W.circ_Print.c100007 ops (ops.length : Int) s.1 s.2 some) ((0 : Int), ints (headT q b)) = some r ∧ r.2 = ints (printT (q, b, ops)) := by
      refine iter_each (l := ops) (fun pre r s => s = ((pre.length : Int), ints (headT q b ++ pre.flatMap lineT)) ∧ (pre.flatMap lineT).length ≤ 200 * pre.length) _ ?_ ?_ (by simp)
      · rintro pre o r s rfl ⟨rfl, hl⟩
        simp only [List.length_append, List.length_cons] at hn
        have ho := goodOp_of (hops o (by simp))
        have hlo := (ho.len hq.2).1
        simp only [W.circ_Print.c100007, br_if, idx_mid, bnd_val, WOp.eta]
        rw [if_pos lt_app, line_ok o q b _ ho hq.2 hb.2 (by rw [ints_len, List.length_append]; have : (headT q b).length ≤ 20 := by (unfold headT; simp only [List.length_append, List.length_cons, List.length_nil]; omega)
                                                            omega), wrap_i64 (by omega)]
        refine .inl ⟨_, rfl, ?_, ?_⟩
        · simp only [bnd_val, ← ints_append, List.append_assoc]
          simp
        · simp only [List.flatMap_append, List.length_append, List.flatMap_cons, List.flatMap_nil, List.append_nil, List.length_cons, List.length_nil]
          omega
      · rintro s ⟨rfl, hl⟩
        simp only [W.circ_Print.c100007, br_if]
        rw [if_neg (by simp)]
        exact ⟨_, rfl, rfl⟩
    obtain ⟨r, hr, h⟩ := key
    rw [c5]
    simp only [bnd_val]
    rw [hr, bnd_val, h, string_ok _ (by unfold printT headT; simp)]
    rfl
  · rw [br_true (by simp [h1]), if_pos h1]
abbrev smallC : Cir := (2, 1, [(3, 0, [], 0, 0, []), (2, 0, [0], 1, 0, []), (5, 0, [], 1, 0, [-1])])
theorem small_w : WCir smallC := ⟨by decide, by
  intro o ho
  simp only [smallC, List.mem_cons, List.mem_nil_iff, or_false] at ho
  rcases ho with rfl | rfl | rfl <;> exact ⟨by decide, by decide⟩⟩
theorem small_chk : chk smallC = (0, 0) := by decide +kernel
theorem begun_ok : W.Law_circBegun = some true := by
  have h1 : W.Law_small = some smallC := rfl
  simp only [W.Law_circBegun, h1, bnd_val, print_ok _ small_w, small_chk]
  decide +kernel
/-! ## Laws -/
theorem power_w {c : Cir} (hc : WCir c) (n : Int) : WCir (power c n).1 := by
  unfold power
  split
  · exact ⟨Nat.zero_le _, fun o h => by cases h⟩
  · split
    · exact ⟨Nat.zero_le _, fun o h => by cases h⟩
    · rename_i h2
      refine ⟨?_, fun o ho => ?_⟩
      · show (List.replicate n.natAbs (base c n)).flatten.length ≤ _
        rw [flat_len, base_len]
        omega
      · simp only [List.mem_flatten, List.mem_replicate] at ho
        obtain ⟨l, ⟨_, rfl⟩, ho⟩ := ho
        exact base_w hc n o ho
theorem then_w {a b : Cir} (ha : WCir a) (hb : WCir b) : WCir (thenC a b).1 := by
  unfold thenC
  split
  · exact ⟨Nat.zero_le _, fun o h => by cases h⟩
  · rename_i h
    refine ⟨?_, fun o ho => ?_⟩
    · show (a.2.2 ++ b.2.2).length ≤ _
      rw [List.length_append]
      simp only [ne_eq, Decidable.not_not] at h
      unfold thenF at h
      by_cases h1 : (chk a).1 = 0
      · by_cases h2 : (chk b).1 = 0
        · have := (good_of h1).1.n
          have := (good_of h2).1.n
          omega
        · rw [if_neg (by simp [h1]), if_pos h2] at h; exact absurd h h2
      · rw [if_pos h1] at h; exact absurd h h1
    · rcases List.mem_append.1 ho with ho | ho
      · exact ha.2 o ho
      · exact hb.2 o ho
end Go.Ql
end

section
namespace Go.Ql
abbrev opTy : Ty := .st (.pair (.int .i64) (.pair (.int .i64) (.pair (.sl (.int .i64)) (.pair (.int .i64) (.pair (.int .i64) (.sl (.int .i64)))))))
abbrev cirTy : Ty := .st (.pair (.int .i64) (.pair (.int .i64) (.sl opTy)))
theorem op_bytes : opTy.bytes = 80 := by decide
theorem int_bytes : (Ty.int .i64).bytes = 8 := by decide
theorem wcir_of {c : Cir} (h : Wf cirTy c) : WCir c := by
  obtain ⟨_, _, h1, _, h2⟩ := h
  refine ⟨?_, fun o ho => ?_⟩
  · rw [op_bytes] at h1
    have : c.2.2.length * 80 ≤ 140737488351232 := h1
    omega
  · obtain ⟨_, _, ⟨h3, _⟩, _, _, h4, _⟩ := h2 o ho
    rw [int_bytes] at h3 h4
    have h3 : o.2.2.1.length * 8 ≤ 140737488351232 := h3
    have h4 : o.2.2.2.2.2.length * 8 ≤ 140737488351232 := h4
    exact ⟨by omega, by omega⟩
theorem int_of_wf {n : Int} (h : Wf (.int .i64) n) : -9223372036854775808 ≤ n ∧ n ≤ 9223372036854775807 := by
  have h : (Lit.int .i64 n).wf = true := h
  simp only [Lit.wf, Bool.and_eq_true, decide_eq_true_eq] at h
  exact ⟨h.1, h.2⟩
end Go.Ql
end

section
section
namespace Go.Ql
/-- A sign and digits that say the number v, in the one way. -/
structure Rep (B : Int) (x : Bool × List Int) (v : Int) : Prop where
  dig : Dig B x.2
  last : x.2 ≠ [] → x.2.getD (x.2.length - 1) 0 ≠ 0
  neg : x.1 = true → x.2 ≠ []
  val : v = if x.1 then - val B x.2 else val B x.2

theorem val_take_len (B : Int) {l : List Int} {n : Nat} (h : l.length ≤ n) : val B (l.take n) = val B l := by rw [List.take_of_length_le h]

theorem zmade_ok {B : Int} (neg : Bool) (mag : List Int) (h : Dig B mag) (hl : mag.length < 1000000000000) :
    ∃ r, W.R_zmade neg mag = some r ∧ Rep B r (if neg then - val B mag else val B mag) ∧ r.2.length ≤ mag.length := by
  obtain ⟨n, h1, k, rfl, hk, hv, hz⟩ := iter_loop (f := fun s ↦ W.R_zmade.c100002 mag s Option.some)
    (J := fun n : Int => ∃ k : Nat, n = k ∧ k ≤ mag.length ∧ val B (mag.take k) = val B mag)
    (Q := fun n : Int => ∃ k : Nat, n = k ∧ k ≤ mag.length ∧ val B (mag.take k) = val B mag ∧ (k ≠ 0 → mag.getD (k - 1) 0 ≠ 0))
    Int.toNat (fun s ⟨k, hs, hk, hv⟩ => by
      subst hs
      simp only [W.R_zmade.c100002, W.R_zmade.c2]
      by_cases h0 : k = 0
      · subst h0
        exact Or.inl ⟨_, by simp [br_ff, bnd_val], 0, rfl, hk, hv, fun h => absurd rfl h⟩
      · have hw : IntKind.i64.wrap ((k : Int) - 1) = ((k - 1 : Nat) : Int) := by rw [wrap_i64 (by omega)]; omega
        have e1 := idx_of (xs := mag) (k - 1) hw (by omega)
        rw [e1, hw]
        simp only [bnd_val, decide_eq_true (by omega : (k : Int) > 0), br_tt]
        by_cases hz : mag.getD (k - 1) 0 = 0
        · refine Or.inr ⟨_, by rw [hz]; rfl, ⟨k - 1, rfl, by omega, ?_⟩, by omega⟩
          have := val_take_succ B (k - 1) mag
          rw [hz, show k - 1 + 1 = k by omega, Int.mul_zero] at this
          omega
        · exact Or.inl ⟨_, by rw [beq_false_of_ne hz]; rfl, k, rfl, hk, hv, fun _ => hz⟩)
    (s := (mag.length : Int)) ⟨mag.length, rfl, Nat.le_refl _, val_take_len B (Nat.le_refl _)⟩
  unfold W.R_zmade
  rw [h1]
  simp only [bnd_val]
  by_cases h0 : k = 0
  · subst h0
    refine ⟨(false, []), by simp [br_tt], ⟨Dig.nil, by simp, by simp, ?_⟩, by simp⟩
    simp only [List.take_zero, val] at hv
    rw [← hv]; simp [val]
  · refine ⟨(neg, mag.take k), ?_, ⟨h.take k, fun _ => ?_, fun _ e => ?_, ?_⟩, by simp only [List.length_take]; omega⟩
    · have : ((k : Int) == 0) = false := beq_false_of_ne (by omega)
      simp only [this, br_ff]
      rw [okIf_true (by simp; omega)]
      rfl
    · have hlen : (mag.take k).length = k := by rw [List.length_take]; omega
      have := hz h0
      rw [hlen]
      simp only [List.getD, List.getElem?_take] at this ⊢
      rw [if_pos (by omega)]
      exact this
    · have : (mag.take k).length = 0 := congrArg List.length e
      rw [List.length_take] at this
      omega
    · simp only [hv]
end Go.Ql
end

section
namespace Go.Ql
end Go.Ql
end

section
namespace Go.Ql
theorem tdiv_pos {x d : Int} (h : 0 ≤ x) : Int.tdiv x d = x / d := Int.tdiv_eq_ediv_of_nonneg h
theorem tmod_pos {x d : Int} (h : 0 ≤ x) : Int.tmod x d = x % d := Int.tmod_eq_emod_of_nonneg h
theorem getD_out {l : List Int} {i : Nat} (h : l.length ≤ i) : l.getD i 0 = 0 := by rw [List.getD, List.getElem?_eq_none h]; rfl

end Go.Ql
end

section
namespace Go.Ql
theorem bv_back (a : BitVec 32) : BitVec.ofInt IntKind.u32.bits ((a.toNat : Nat) : Int) = a := by
  show BitVec.ofInt 32 ((a.toNat : Nat) : Int) = a
  rw [BitVec.ofInt_natCast, BitVec.ofNat_toNat, BitVec.setWidth_eq]
theorem wrap_bv (a : BitVec 32) : IntKind.u32.wrap ((a.toNat : Nat) : Int) = a.toNat := wrap_u32 (by have := a.isLt; omega)
theorem ior32 (a b : BitVec 32) : ibits .or .u32 (a.toNat : Int) (b.toNat : Int) = ((a ||| b).toNat : Int) := by
  simp only [ibits, bv_back]; exact wrap_bv (a ||| b)
theorem iand32 (a b : BitVec 32) : ibits .and .u32 (a.toNat : Int) (b.toNat : Int) = ((a &&& b).toNat : Int) := by
  simp only [ibits, bv_back]; exact wrap_bv (a &&& b)
theorem ixor32 (a b : BitVec 32) : ibits .xor .u32 (a.toNat : Int) (b.toNat : Int) = ((a ^^^ b).toNat : Int) := by
  simp only [ibits, bv_back]; exact wrap_bv (a ^^^ b)
theorem msb_top (a : BitVec 32) : a.toNat / 2147483648 = a.msb.toNat := by
  rw [BitVec.msb_eq_decide]
  have := a.isLt
  by_cases h : 2 ^ (32 - 1) ≤ a.toNat
  · simp only [h, decide_true, Bool.toNat_true]; omega
  · simp only [h, decide_false, Bool.toNat_false]; omega

end Go.Ql
end

section
namespace Go.Ql
def Trim (l : List Int) : Prop := l ≠ [] → l.getD (l.length - 1) 0 ≠ 0
theorem val_ge {B : Int} (hB : 1 < B) {l : List Int} (h : Dig B l) (ht : Trim l) (hn : l ≠ []) : B ^ (l.length - 1) ≤ val B l := by
  have h0 : l.length ≠ 0 := fun e => hn (List.eq_nil_of_length_eq_zero e)
  have h1 := val_take_succ B (l.length - 1) l
  rw [show l.length - 1 + 1 = l.length by omega, List.take_length] at h1
  have h2 := h.getD (by omega) (l.length - 1)
  have h3 := ht hn
  have h4 := val_nonneg (by omega) (h.take (l.length - 1))
  have h5 : B ^ (l.length - 1) * 1 ≤ B ^ (l.length - 1) * l.getD (l.length - 1) 0 := Int.mul_le_mul_of_nonneg_left (by omega) (Int.le_of_lt (Int.pow_pos (by omega)))
  omega
theorem pow_le {B : Int} (hB : 1 < B) {m n : Nat} (h : m ≤ n) : B ^ m ≤ B ^ n := by
  induction n with
  | zero => rw [show m = 0 by omega]; exact Int.le_refl _
  | succ n ih =>
    by_cases e : m = n + 1
    · rw [e]; exact Int.le_refl _
    · have h1 := ih (by omega)
      have h2 : 0 < B ^ n := Int.pow_pos (by omega)
      rw [Int.pow_succ]
      have h3 : B ^ n * 1 ≤ B ^ n * B := Int.mul_le_mul_of_nonneg_left (by omega) (by omega)
      omega
theorem val_lt_of_len {B : Int} (hB : 1 < B) {a b : List Int} (ha : Dig B a) (hb : Dig B b) (tb : Trim b) (h : a.length < b.length) : val B a < val B b := by
  have h1 := val_lt (by omega) ha
  have h2 := val_ge hB hb tb (by intro e; rw [e] at h; simp at h)
  have h3 := pow_le hB (show a.length ≤ b.length - 1 by omega)
  omega
theorem len_le {B : Int} (hB : 1 < B) {a b : List Int} (ha : Dig B a) (hb : Dig B b) (tb : Trim b) (h : val B b ≤ val B a) : b.length ≤ a.length := by
  by_cases h1 : b.length ≤ a.length
  · exact h1
  · have := val_lt_of_len hB ha hb tb (by omega); omega
/-- The highest place at which two numbers differ tells which is less. -/
theorem top_lt {B : Int} (hB : 1 < B) {a b : List Int} (ha : Dig B a) (hb : Dig B b) (k : Nat) (h : a.getD k 0 < b.getD k 0) : val B (a.take (k + 1)) < val B (b.take (k + 1)) := by
  have h1 := val_take_succ B k a
  have h2 := val_take_succ B k b
  have h3 := val_lt (by omega) (ha.take k)
  have h4 := val_nonneg (by omega) (hb.take k)
  have h5 := pow_le hB (show (a.take k).length ≤ k by rw [List.length_take]; omega)
  have h6 : B ^ k * (a.getD k 0 + 1) ≤ B ^ k * b.getD k 0 := Int.mul_le_mul_of_nonneg_left (by omega) (Int.le_of_lt (Int.pow_pos (by omega)))
  rw [Int.mul_add] at h6
  omega

def Ordered (x y c : Int) : Prop := (c = -1 ∧ x < y) ∨ (c = 0 ∧ x = y) ∨ (c = 1 ∧ y < x)

end Go.Ql
end

section
namespace Go.Ql
def sgn (v : Int) : Int := if v < 0 then -1 else if v = 0 then 0 else 1
theorem Rep.pos {B : Int} (hB : 1 < B) {x : Bool × List Int} {v : Int} (h : Rep B x v) (hn : x.2 ≠ []) : 0 < Ql.val B x.2 := by
  have h1 := val_ge hB h.dig h.last hn
  have h2 : 0 < B ^ (x.2.length - 1) := Int.pow_pos (by omega)
  omega
theorem Rep.sgn {B : Int} (hB : 1 < B) {x : Bool × List Int} {v : Int} (h : Rep B x v) :
    sgn v = if x.2.length = 0 then 0 else if x.1 then -1 else 1 := by
  by_cases hn : x.2 = []
  · have h1 := h.val
    rw [hn] at h1 ⊢
    have : v = 0 := by rw [h1]; simp [Ql.val]
    simp [this, Ql.sgn]
  · have h1 := h.pos hB hn
    have h2 : x.2.length ≠ 0 := fun e => hn (List.eq_nil_of_length_eq_zero e)
    have h3 := h.val
    rw [if_neg h2]
    unfold Ql.sgn
    cases hx : x.1 <;> simp only [hx, Bool.false_eq_true, if_false, if_true] at h3 ⊢ <;> split <;> (try split) <;> omega
end Go.Ql
end

section
namespace Go.Ql
theorem mul_le {a b A : Int} (h0 : 0 ≤ a) (h1 : a ≤ A) (k0 : 0 ≤ b) (k1 : b ≤ A) : 0 ≤ a * b ∧ a * b ≤ A * A :=
  ⟨Int.mul_nonneg h0 k0, Int.le_trans (Int.mul_le_mul_of_nonneg_right h1 k0) (Int.mul_le_mul_of_nonneg_left k1 (by omega))⟩

end Go.Ql
end

section
namespace Go.Ql
end Go.Ql
end

section
namespace Go.Ql
theorem hasPrefix1 (s : List UInt8) (c : UInt8) : W.strings_HasPrefix s [c] = some (s.head? == some c) := by
  unfold W.strings_HasPrefix W.stringslite_HasPrefix W.stringslite_HasPrefix.c1
  cases s with
  | nil => rfl
  | cons d l =>
    rw [br_pos (by simp; omega), okIf_true (by simp; omega), bnd_val, bnd_val, bnd_val]
    simp

def isDigit (c : UInt8) : Bool := decide (48 ≤ c.toNat) && decide (c.toNat ≤ 57)
theorem idx_text (text : List UInt8) (k : Nat) (h : k < text.length) : idx text (k : Int) = some text[k] := by
  unfold idx; simp [h]

/-- What is read as a whole number: a sign, digits; nought alone begins by nought. -/
def Canon (text : List UInt8) : Prop := text = [48] ∨ ∃ (neg : Bool) (ds : List UInt8), ds ≠ [] ∧ (∀ c ∈ ds, isDigit c = true) ∧ ds.head? ≠ some 48 ∧ text = (if neg then [45] else []) ++ ds

end Go.Ql
end

section
namespace Go.Ql
def dg (c : UInt8) : Int := (c.toNat : Int) - 48
def dec (l : List UInt8) : Int := l.foldl (fun n c => n * 10 + dg c) 0
theorem dec_from (n : Int) (l : List UInt8) : l.foldl (fun n c => n * 10 + dg c) n = n * 10 ^ l.length + dec l := by
  induction l generalizing n with
  | nil => simp [dec]
  | cons c l ih =>
    have h1 := ih (n * 10 + dg c)
    have h2 := ih (0 * 10 + dg c)
    simp only [dec, List.foldl_cons, List.length_cons, Int.pow_succ] at h1 h2 ⊢
    rw [h1, h2]
    grind
theorem dec_append (l m : List UInt8) : dec (l ++ m) = dec l * 10 ^ m.length + dec m := by
  unfold dec
  rw [List.foldl_append, dec_from]; rfl
theorem dec_snoc (l : List UInt8) (c : UInt8) : dec (l ++ [c]) = dec l * 10 + dg c := by
  rw [dec_append]; simp [dec]
def Digits (l : List UInt8) : Prop := ∀ c ∈ l, isDigit c = true
theorem dg_of {c : UInt8} (h : isDigit c = true) : 0 ≤ dg c ∧ dg c ≤ 9 := by
  simp only [isDigit, Bool.and_eq_true, decide_eq_true_eq] at h
  unfold dg; omega
theorem dec_bound : ∀ {l : List UInt8}, Digits l → 0 ≤ dec l ∧ dec l < 10 ^ l.length
  | [], _ => by simp [dec]
  | c :: l, h => by
    have h1 := dec_bound (l := l) (fun x hx => h x (List.mem_cons_of_mem _ hx))
    have h2 := dg_of (h c (List.mem_cons_self ..))
    have h3 := dec_append [c] l
    have h4 : dec [c] = dg c := by simp [dec]
    rw [List.singleton_append, h4] at h3
    have h5 : 0 < (10 : Int) ^ l.length := Int.pow_pos (by decide)
    have h6 : dg c * 10 ^ l.length ≤ 9 * 10 ^ l.length := Int.mul_le_mul_of_nonneg_right h2.2 (by omega)
    have h7 : 0 ≤ dg c * 10 ^ l.length := Int.mul_nonneg h2.1 (by omega)
    simp only [List.length_cons, Int.pow_succ]
    omega
theorem take_snoc {α : Type} {l : List α} {k : Nat} (h : k < l.length) : l.take (k + 1) = l.take k ++ [l[k]] := by
  rw [List.take_add_one, List.getElem?_eq_getElem h]; rfl

end Go.Ql
end

section
namespace Go.Ql
end Go.Ql
end

section
namespace Go.Ql
end Go.Ql
end

section
namespace Go.Ql
end Go.Ql
end

section
namespace Go.Ql
theorem Canon.parts {text : List UInt8} (h : Canon text) : ∃ (neg : Bool) (ds : List UInt8), ds ≠ [] ∧ Digits ds ∧ text = (if neg then [45] else []) ++ ds := by
  rcases h with rfl | ⟨neg, ds, h1, h2, _, h4⟩
  · exact ⟨false, [48], by simp, fun c hc => by simp at hc; subst hc; rfl, rfl⟩
  · exact ⟨neg, ds, h1, h2, h4⟩
theorem head_digit {ds : List UInt8} (h : Digits ds) : ds.head? ≠ some 45 := by
  intro e
  cases ds with
  | nil => simp at e
  | cons c l =>
    simp at e
    have := h c (List.mem_cons_self ..)
    rw [e] at this
    exact absurd this (by decide)
end Go.Ql
end

section
namespace Go.Ql
theorem dg_inj {c d : UInt8} (h : dg c = dg d) : c = d := by
  apply UInt8.toNat_inj.1
  unfold dg at h; omega
theorem dec_cons (c : UInt8) (l : List UInt8) : dec (c :: l) = dg c * 10 ^ l.length + dec l := by
  have h3 := dec_append [c] l
  have h4 : dec [c] = dg c := by simp [dec]
  rw [List.singleton_append, h4] at h3
  exact h3
theorem dec_inj : ∀ {l m : List UInt8}, Digits l → Digits m → l.length = m.length → dec l = dec m → l = m
  | [], [], _, _, _, _ => rfl
  | c :: l, d :: m, hl, hm, e, h => by
    have hl' : Digits l := fun x hx => hl x (List.mem_cons_of_mem _ hx)
    have hm' : Digits m := fun x hx => hm x (List.mem_cons_of_mem _ hx)
    have e' : l.length = m.length := by simpa using e
    have b1 := dec_bound hl'
    have b2 := dec_bound hm'
    rw [dec_cons, dec_cons, e'] at h
    rw [e'] at b1
    have hP : (0 : Int) < 10 ^ m.length := Int.pow_pos (by decide)
    have hc : dg c = dg d := by
      rcases Int.lt_trichotomy (dg c) (dg d) with h1 | h1 | h1
      · have := Int.mul_le_mul_of_nonneg_right (show dg c + 1 ≤ dg d by omega) (Int.le_of_lt hP)
        rw [Int.add_mul] at this; omega
      · exact h1
      · have := Int.mul_le_mul_of_nonneg_right (show dg d + 1 ≤ dg c by omega) (Int.le_of_lt hP)
        rw [Int.add_mul] at this; omega
    rw [hc] at h
    rw [dg_inj hc, dec_inj hl' hm' e' (by omega)]
  | [], _ :: _, _, _, e, _ => by simp at e
  | _ :: _, [], _, _, e, _ => by simp at e
theorem dec_ge {l : List UInt8} (h : Digits l) (hn : l ≠ []) (h0 : l.head? ≠ some 48) : 10 ^ (l.length - 1) ≤ dec l := by
  cases l with
  | nil => exact absurd rfl hn
  | cons c l =>
    have hl' : Digits l := fun x hx => h x (List.mem_cons_of_mem _ hx)
    have b1 := dec_bound hl'
    have hd := dg_of (h c (List.mem_cons_self ..))
    have h1 : dg c ≠ 0 := fun e => h0 (by
      have : dg c = dg 48 := by rw [e]; rfl
      rw [dg_inj this]; rfl)
    rw [dec_cons]
    have hP : (0 : Int) < 10 ^ l.length := Int.pow_pos (by decide)
    have := Int.mul_le_mul_of_nonneg_right (show 1 ≤ dg c by omega) (Int.le_of_lt hP)
    simp only [List.length_cons, Nat.add_sub_cancel]
    omega
/-- Digits without a nought ahead: the number tells them. -/
theorem dec_one {l m : List UInt8} (hl : Digits l) (hm : Digits m) (nl : l ≠ []) (nm : m ≠ []) (l0 : l.head? ≠ some 48) (m0 : m.head? ≠ some 48) (h : dec l = dec m) : l = m := by
  have ll : l.length ≠ 0 := fun e => nl (List.eq_nil_of_length_eq_zero e)
  have lm : m.length ≠ 0 := fun e => nm (List.eq_nil_of_length_eq_zero e)
  have g1 := dec_ge hl nl l0
  have g2 := dec_ge hm nm m0
  have b1 := (dec_bound hl).2
  have b2 := (dec_bound hm).2
  refine dec_inj hl hm ?_ h
  rcases Nat.lt_trichotomy l.length m.length with e | e | e
  · have := pow_le (B := 10) (by decide) (show l.length ≤ m.length - 1 by omega); omega
  · exact e
  · have := pow_le (B := 10) (by decide) (show m.length ≤ l.length - 1 by omega); omega
end Go.Ql
end

section
namespace Go.Ql
theorem val_drop (B : Int) : ∀ (i : Nat) (l : List Int), i < l.length → val B (l.drop i) = l.getD i 0 + B * val B (l.drop (i + 1))
  | _, [], h => by simp at h
  | 0, d :: l, _ => by simp [val]
  | i + 1, d :: l, h => by
    have := val_drop B i l (by simpa using h)
    simpa using this
/-- Bytes out of numbers. -/
def bytes (l : List Int) : List UInt8 := l.map fun n ↦ UInt8.ofNat (Int.toNat n)
theorem byte_dg {d : Int} (h : 0 ≤ d ∧ d ≤ 9) : isDigit (UInt8.ofNat (Int.toNat (48 + d))) = true ∧ dg (UInt8.ofNat (Int.toNat (48 + d))) = d := by
  have h1 : (UInt8.ofNat (Int.toNat (48 + d))).toNat = Int.toNat (48 + d) := by
    rw [UInt8.toNat_ofNat']; omega
  unfold isDigit dg
  rw [h1]
  constructor
  · simp; omega
  · omega
/-- The decimal text of a number that is not negative, by its digits. -/
def IsDec (l : List UInt8) (v : Int) : Prop := Digits l ∧ l ≠ [] ∧ l.head? ≠ some 48 ∧ dec l = v
def four (d : Int) : List Int := [48 + d / 1000, 48 + d / 100 % 10, 48 + d / 10 % 10, 48 + d % 10]
theorem four_digits {d : Int} (h : 0 ≤ d ∧ d < 10000) : Digits (bytes (four d)) ∧ dec (bytes (four d)) = d := by
  have a := byte_dg (d := d / 1000) (by omega)
  have b := byte_dg (d := d / 100 % 10) (by omega)
  have c := byte_dg (d := d / 10 % 10) (by omega)
  have e := byte_dg (d := d % 10) (by omega)
  constructor
  · intro x hx
    simp only [bytes, four, List.map_cons, List.map_nil, List.mem_cons, List.not_mem_nil, or_false] at hx
    rcases hx with rfl | rfl | rfl | rfl
    · exact a.1
    · exact b.1
    · exact c.1
    · exact e.1
  · simp only [bytes, four, List.map_cons, List.map_nil, dec, List.foldl_cons, List.foldl_nil, a.2, b.2, c.2, e.2]
    omega
theorem c9_ok {a1 : List Int} (h : Dig 10000 a1) (i : Nat) (hi : i < a1.length) : W.R_ZText.c9 (i : Int) a1 Option.some = some (four (a1.getD i 0)) := by
  have hd := h.getD (by decide) i
  unfold W.R_ZText.c9
  rw [idx_of i rfl hi]
  simp only [bnd_val]
  generalize a1.getD i 0 = d at *
  rw [tdiv_pos hd.1, tdiv_pos hd.1, tdiv_pos hd.1, wrap_i64 (x := d / 1000) (by omega), wrap_i64 (x := d / 100) (by omega), wrap_i64 (x := d / 10) (by omega), tmod_pos (by omega), tmod_pos (by omega), tmod_pos (by omega)]
  rw [wrap_i64 (x := 48 + d / 1000) (by omega), wrap_i64 (x := 48 + d / 100 % 10) (by omega), wrap_i64 (x := 48 + d / 10 % 10) (by omega), wrap_i64 (x := 48 + d % 10) (by omega)]
  rw [IntWalk.u8_in (48 + d / 1000) (by omega), IntWalk.u8_in (48 + d / 100 % 10) (by omega), IntWalk.u8_in (48 + d / 10 % 10) (by omega), IntWalk.u8_in (48 + d % 10) (by omega)]
  rfl
end Go.Ql
end

section
namespace Go.Ql
/-- Noughts ahead of the highest four are left out. -/
theorem strip_ok (a1 : List Int) (i : Nat) (hi : i < a1.length) (hL : a1.length < 1000000) (F : List Int) (hF : F.length = 4) :
    ∃ k : Nat, iter (fun s ↦ W.R_ZText.c100011 (i : Int) F s a1 Option.some) (0 : Int) = some (k : Int) ∧ k ≤ 3 ∧ (i + 1 ≠ a1.length → k = 0) ∧ (∀ j, j < k → F.getD j 0 = 48) ∧ (i + 1 = a1.length → k < 3 → F.getD k 0 ≠ 48) := by
  obtain ⟨r, h1, k, h2, h3⟩ := iter_loop (f := fun s : Int ↦ W.R_ZText.c100011 (i : Int) F s a1 Option.some)
    (J := fun s => ∃ k : Nat, s = k ∧ k ≤ 3 ∧ (i + 1 ≠ a1.length → k = 0) ∧ (∀ j, j < k → F.getD j 0 = 48))
    (Q := fun s => ∃ k : Nat, s = k ∧ k ≤ 3 ∧ (i + 1 ≠ a1.length → k = 0) ∧ (∀ j, j < k → F.getD j 0 = 48) ∧ (i + 1 = a1.length → k < 3 → F.getD k 0 ≠ 48))
    (fun s => 3 - s.toNat) (fun s ⟨k, hs, hk, hk0, hz⟩ => by
      subst hs
      simp only [W.R_ZText.c100011]
      have e : W.R_ZText.c11 (i : Int) F (k : Int) a1 Option.some = some (decide (i + 1 = a1.length ∧ k < 3 ∧ F.getD k 0 = 48)) := by
        unfold W.R_ZText.c11
        rw [wrap_i64 (by omega)]
        by_cases h : i + 1 = a1.length
        · rw [br_true (beq_iff_eq.2 (by omega))]
          by_cases h4 : k < 3
          · rw [br_pos (by omega), idx_of k rfl (by omega), bnd_val]
            congr 1
            by_cases h5 : F.getD k 0 = 48
            · rw [h5]; simp [h, h4]
            · rw [beq_false_of_ne h5, decide_eq_false (fun h6 => h5 h6.2.2)]
          · rw [br_neg (by omega), decide_eq_false (by omega)]
        · rw [br_false (beq_false_of_ne (by omega)), decide_eq_false (by omega)]
      rw [e, bnd_val]
      by_cases h : i + 1 = a1.length ∧ k < 3 ∧ F.getD k 0 = 48
      · rw [br_pos h]
        refine Or.inr ⟨((k + 1 : Nat) : Int), by rw [wrap_i64 (by omega)]; rfl, ⟨k + 1, rfl, by omega, fun h' => absurd h.1 h', fun j hj => ?_⟩, by omega⟩
        by_cases h8 : j = k
        · subst h8; exact h.2.2
        · exact hz j (by omega)
      · rw [br_neg h]
        exact Or.inl ⟨_, rfl, k, rfl, hk, hk0, hz, fun h1 h2 h3 => h ⟨h1, h2, h3⟩⟩)
    (s := (0 : Int)) ⟨0, rfl, by omega, fun _ => rfl, fun j hj => by omega⟩
  exact ⟨k, by rw [h1, h2], h3⟩
end Go.Ql
end

section
namespace Go.Ql
theorem bytes_drop (l : List Int) (k : Nat) : bytes (l.drop k) = (bytes l).drop k := by simp [bytes]
theorem bytes_len (l : List Int) : (bytes l).length = l.length := by simp [bytes]
/-- Behind noughts the same number. -/
theorem dec_skip : ∀ (k : Nat) (l : List UInt8), (∀ j (h : j < l.length), j < k → l[j] = 48) → dec (l.drop k) = dec l
  | 0, _, _ => rfl
  | k + 1, [], _ => by simp
  | k + 1, c :: l, h => by
    have h0 : c = 48 := h 0 (by simp) (by omega)
    rw [List.drop_succ_cons, dec_skip k l (fun j hj hk => h (j + 1) (by simpa using hj) (by omega)), dec_cons, h0]
    simp [dg]
theorem IsDec.snoc {l : List UInt8} {v d : Int} (h : IsDec l v) (hd : 0 ≤ d ∧ d < 10000) : IsDec (l ++ bytes (four d)) (d + 10000 * v) := by
  obtain ⟨h1, h2, h3, h4⟩ := h
  have hf := four_digits hd
  refine ⟨fun c hc => ?_, by simp [h2], ?_, ?_⟩
  · rcases List.mem_append.1 hc with hc | hc
    · exact h1 c hc
    · exact hf.1 c hc
  · cases l with
    | nil => exact absurd rfl h2
    | cons c l => exact h3
  · rw [dec_append, hf.2, h4, bytes_len]
    show v * 10 ^ 4 + d = _
    omega
theorem getD_byte (F : List Int) (j : Nat) (h : j < (bytes F).length) : (bytes F)[j] = UInt8.ofNat (F.getD j 0).toNat := by
  have h' : j < F.length := by rwa [bytes_len] at h
  simp [bytes, List.getD, h']
theorem IsDec.first {d : Int} (hd : 0 ≤ d ∧ d < 10000) (h0 : d ≠ 0) {k : Nat} (hk : k ≤ 3) (hz : ∀ j, j < k → (four d).getD j 0 = 48) (hn : k < 3 → (four d).getD k 0 ≠ 48) : IsDec ((bytes (four d)).drop k) d := by
  have hf := four_digits hd
  have hl : (bytes (four d)).length = 4 := by rw [bytes_len]; rfl
  have hdec : dec ((bytes (four d)).drop k) = d := by
    rw [dec_skip k _ (fun j hj hjk => by rw [getD_byte, hz j hjk]; rfl), hf.2]
  have hne : (bytes (four d)).drop k ≠ [] := by
    intro e
    have := congrArg List.length e
    rw [List.length_drop, hl] at this
    simp at this; omega
  refine ⟨fun c hc => hf.1 c (List.mem_of_mem_drop hc), hne, fun e => ?_, hdec⟩
  by_cases h3 : k < 3
  · rw [List.head?_drop, List.getElem?_eq_getElem (by omega), getD_byte] at e
    have h5 := Option.some.inj e
    have hg : 48 ≤ (four d).getD k 0 ∧ (four d).getD k 0 ≤ 57 := by
      rcases (by omega : k = 0 ∨ k = 1 ∨ k = 2) with rfl | rfl | rfl <;> simp [four] <;> omega
    apply hn h3
    have h6 := congrArg UInt8.toNat h5
    rw [UInt8.toNat_ofNat'] at h6
    have h7 : (48 : UInt8).toNat = 48 := rfl
    rw [h7] at h6
    omega
  · have : ∃ c, (bytes (four d)).drop k = [c] := by
      have hx : ((bytes (four d)).drop k).length = 1 := by rw [List.length_drop, hl]; omega
      exact List.length_eq_one_iff.1 hx
    obtain ⟨c, hc⟩ := this
    rw [hc] at e hdec
    simp at e
    rw [e] at hdec
    apply h0
    rw [← hdec]; rfl
/-- The decimal text of a number. -/
def Txt (v : Int) (l : List UInt8) : Prop := (v = 0 ∧ l = [48]) ∨ (v ≠ 0 ∧ ∃ D, IsDec D (v.natAbs : Int) ∧ l = (if v < 0 then [45] else []) ++ D)
theorem Txt.one {v : Int} {l m : List UInt8} (h : Txt v l) (k : Txt v m) : l = m := by
  rcases h with ⟨h1, h2⟩ | ⟨h1, D, h2, h3⟩ <;> rcases k with ⟨k1, k2⟩ | ⟨k1, E, k2, k3⟩
  · rw [h2, k2]
  · exact absurd h1 k1
  · exact absurd k1 h1
  · rw [h3, k3, dec_one h2.1 k2.1 h2.2.1 k2.2.1 h2.2.2.1 k2.2.2.1 (h2.2.2.2.trans k2.2.2.2.symm)]
end Go.Ql
end

section
namespace Go.Ql
theorem ztext_loop (sg : List UInt8) (a1 : List Int) (hd : Dig 10000 a1) (ht : Trim a1) (hn : a1 ≠ []) (hL : a1.length < 1000000) (hs : sg.length ≤ 1) :
    ∃ r : List UInt8 × Int, iter (fun s : List UInt8 × Int ↦ W.R_ZText.c100007 (Prod.fst s) (Prod.snd s) a1 Option.some) (sg, (a1.length : Int) - 1) = some r ∧ ∃ l, r.1 = sg ++ l ∧ IsDec l (val 10000 a1) := by
  have hlen : a1.length ≠ 0 := fun e => hn (List.eq_nil_of_length_eq_zero e)
  exact iter_loop (f := fun s : List UInt8 × Int ↦ W.R_ZText.c100007 (Prod.fst s) (Prod.snd s) a1 Option.some)
    (J := fun s => ∃ k : Nat, s.2 = (k : Int) - 1 ∧ k ≤ a1.length ∧ ∃ l, s.1 = sg ++ l ∧ l.length ≤ 4 * (a1.length - k) ∧ ((k = a1.length ∧ l = []) ∨ (k < a1.length ∧ IsDec l (val 10000 (a1.drop k)))))
    (Q := fun r => ∃ l, r.1 = sg ++ l ∧ IsDec l (val 10000 a1))
    (fun s => (s.2 + 1).toNat) (fun ⟨text, i'⟩ ⟨k, hi, hk, l, hl, hll, hc⟩ => by
      simp only at hi hl ⊢
      subst hi
      simp only [W.R_ZText.c100007]
      by_cases h0 : k = 0
      · subst h0
        rw [br_neg (by omega)]
        rcases hc with ⟨h1, _⟩ | ⟨h1, h2⟩
        · omega
        · exact Or.inl ⟨(_, _), rfl, l, hl, h2⟩
      · obtain ⟨i, rfl⟩ : ∃ i : Nat, k = i + 1 := ⟨k - 1, by omega⟩
        have hi : i < a1.length := by omega
        have hdi := hd.getD (by decide) i
        obtain ⟨t, h1, h2, h3, h4, h5⟩ := strip_ok a1 i hi hL (four (a1.getD i 0)) rfl
        rw [br_pos (by omega), show ((i + 1 : Nat) : Int) - 1 = (i : Int) by omega, c9_ok hd i hi, bnd_val, h1, bnd_val]
        have e4 : (four (a1.getD i 0)).length = 4 := rfl
        rw [okIf_true (by rw [e4]; simp; omega), bnd_val, Int.toNat_natCast, Int.toNat_natCast, List.take_length]
        have hpl : (List.map (fun n ↦ UInt8.ofNat (Int.toNat n)) (List.drop t (four (a1.getD i 0)))).length ≤ 4 := by
          rw [List.length_map, List.length_drop, e4]; omega
        have htl : text.length ≤ 1 + 4 * a1.length := by rw [hl, List.length_append]; omega
        rw [okIf_true (by simp only [decide_eq_true_eq]; omega), bnd_val, wrap_i64 (by omega)]
        refine Or.inr ⟨(_, _), rfl, ⟨i, rfl, by omega, l ++ (bytes (four (a1.getD i 0))).drop t, ?_, ?_, Or.inr ⟨hi, ?_⟩⟩, by simp only; omega⟩
        · simp only
          rw [hl, ← bytes_drop, List.append_assoc]; rfl
        · rw [List.length_append, List.length_drop, bytes_len, e4]; omega
        · rw [val_drop 10000 i a1 hi]
          rcases hc with ⟨h6, h7⟩ | ⟨h6, h7⟩
          · have hd0 : a1.getD i 0 ≠ 0 := by
              have := ht hn
              rwa [show a1.length - 1 = i by omega] at this
            have h8 : a1.drop (i + 1) = [] := List.drop_of_length_le (by omega)
            rw [h8, h7, List.nil_append]
            have := IsDec.first hdi hd0 h2 h4 (h5 h6)
            simpa [val] using this
          · have h9 := h3 (by omega)
            subst h9
            rw [List.drop_zero]
            exact h7.snoc hdi)
    (s := (sg, (a1.length : Int) - 1)) ⟨a1.length, rfl, Nat.le_refl _, [], by simp, by simp, Or.inl ⟨rfl, rfl⟩⟩

theorem ztext_ok {a : Bool × List Int} {v : Int} (ha : Rep 10000 a v) (la : a.2.length < 1000000) : ∃ l, W.R_ZText a = some l ∧ Txt v l := by
  unfold W.R_ZText
  by_cases h0 : a.2 = []
  · rw [h0]
    refine ⟨[48], rfl, Or.inl ⟨?_, rfl⟩⟩
    rw [ha.val, h0]; simp [val]
  · have hn : a.2.length ≠ 0 := fun e => h0 (List.eq_nil_of_length_eq_zero e)
    rw [br_false (beq_false_of_ne (by omega))]
    have e1 : W.R_ZText.c216389 (Array.toList (ByteArray.data (ByteArray.mk #[]))) a.1 Option.some = some (if a.1 then [45] else []) := by
      unfold W.R_ZText.c216389
      cases a.1 <;> rfl
    obtain ⟨r, h1, l, h2, h3⟩ := ztext_loop (if a.1 then [45] else []) a.2 ha.dig ha.last h0 la (by split <;> simp)
    rw [e1, bnd_val, wrap_i64 (by omega), h1, bnd_val]
    have hp := ha.pos (by decide) h0
    have hv := ha.val
    refine ⟨_, rfl, Or.inr ⟨?_, l, ?_, ?_⟩⟩
    · cases hx : a.1 <;> simp only [hx, Bool.false_eq_true, if_false, if_true] at hv <;> omega
    · have : (v.natAbs : Int) = val 10000 a.2 := by
        cases hx : a.1 <;> simp only [hx, Bool.false_eq_true, if_false, if_true] at hv <;> omega
      rw [this]; exact h3
    · rw [h2]
      congr 1
      cases hx : a.1 <;> simp only [hx, Bool.false_eq_true, if_false, if_true] at hv ⊢
      · rw [if_neg (by omega)]
      · rw [if_pos (by omega)]
end Go.Ql
end

section
namespace Go.Ql
theorem or_add {p w : Int} (hp : 0 ≤ p ∧ p < 4294967296) (hw : 0 ≤ w ∧ w < 4294967296) : ibits Go.BinOp.or Go.IntKind.u64 (IntKind.u64.wrap (p * (2 : Int) ^ (32 : Nat))) (IntKind.u64.wrap w) = p * 4294967296 + w := by
  rw [show (2 : Int) ^ 32 = 4294967296 from rfl, wrap_u64 (x := w) (by omega), wrap_u64 (x := p * 4294967296) (by omega)]
  obtain ⟨a, rfl⟩ : ∃ a : Nat, p = a := ⟨p.toNat, by omega⟩
  obtain ⟨b, rfl⟩ : ∃ b : Nat, w = b := ⟨w.toNat, by omega⟩
  have h : (BitVec.ofInt IntKind.u64.bits ((a : Int) * 4294967296) ||| BitVec.ofInt IntKind.u64.bits (b : Int)).toNat = a * 4294967296 + b := by
    rw [BitVec.toNat_or, BitVec.toNat_ofInt, BitVec.toNat_ofInt]
    have e1 : ((a : Int) * 4294967296 % ((2 ^ IntKind.u64.bits : Nat) : Int)).toNat = 2 ^ 32 * a := by
      show ((a : Int) * 4294967296 % 18446744073709551616).toNat = 4294967296 * a
      omega
    have e2 : ((b : Int) % ((2 ^ IntKind.u64.bits : Nat) : Int)).toNat = b := by
      show ((b : Int) % 18446744073709551616).toNat = b
      omega
    rw [e1, e2, ← Nat.two_pow_add_eq_or_of_lt (by omega)]
    omega
  show IntKind.u64.wrap ((BitVec.ofInt IntKind.u64.bits ((a : Int) * 4294967296) ||| BitVec.ofInt IntKind.u64.bits (b : Int)).toNat : Int) = _
  rw [h, wrap_u64 (by omega)]
  omega
theorem trim_of_val {B : Int} (hB : 0 < B) {l : List Int} (h : Dig B l) (hv : B ^ (l.length - 1) ≤ val B l) : Trim l := by
  intro hn h0
  have h0' : l.length ≠ 0 := fun e => hn (List.eq_nil_of_length_eq_zero e)
  have h1 := val_take_succ B (l.length - 1) l
  rw [show l.length - 1 + 1 = l.length by omega, List.take_length, h0] at h1
  have h2 := val_lt hB (h.take (l.length - 1))
  rw [show (l.take (l.length - 1)).length = l.length - 1 by rw [List.length_take]; omega] at h2
  simp at h1
  omega
end Go.Ql
end

section
namespace Go.Ql
def chr (ds : List Int) : List Int := ds.map fun d => 48 + d
theorem chr_append (a b : List Int) : chr (a ++ b) = chr a ++ chr b := by simp [chr]
theorem chr_len (a : List Int) : (chr a).length = a.length := by simp [chr]
end Go.Ql
end

section
namespace Go.Ql
theorem dec_rev : ∀ (ds : List Int), Dig 10 ds → Digits (bytes (chr ds).reverse) ∧ dec (bytes (chr ds).reverse) = val 10 ds
  | [], _ => ⟨fun c hc => by simp [chr, bytes] at hc, rfl⟩
  | d :: ds, h => by
    obtain ⟨h1, h2⟩ := dec_rev ds h.tail
    have hb := byte_dg (d := d) (by have := h.head; omega)
    have e : bytes (chr (d :: ds)).reverse = bytes (chr ds).reverse ++ [UInt8.ofNat (Int.toNat (48 + d))] := by simp [chr, bytes]
    rw [e]
    refine ⟨fun c hc => ?_, ?_⟩
    · rcases List.mem_append.1 hc with hc | hc
      · exact h1 c hc
      · rw [List.mem_singleton.1 hc]; exact hb.1
    · rw [dec_snoc, h2, hb.2]
      simp only [val]; omega
theorem isDec_rev {ds : List Int} (h : Dig 10 ds) (ht : Trim ds) (hn : ds ≠ []) : IsDec (bytes (chr ds).reverse) (val 10 ds) := by
  obtain ⟨h1, h2⟩ := dec_rev ds h
  have h0 : ds.length ≠ 0 := fun e => hn (List.eq_nil_of_length_eq_zero e)
  refine ⟨h1, fun e => ?_, fun e => ?_, h2⟩
  · have := congrArg List.length e
    simp [bytes, chr] at this
    exact hn this
  · have h3 : (bytes (chr ds).reverse).head? = some (UInt8.ofNat (Int.toNat (48 + ds.getD (ds.length - 1) 0))) := by
      simp [bytes, chr, List.getLast?_eq_getElem?, List.getD, show ds.length - 1 < ds.length by omega]
    rw [h3] at e
    have h4 := Option.some.inj e
    have hd := h.getD (by decide) (ds.length - 1)
    have hb := (byte_dg (d := ds.getD (ds.length - 1) 0) (by omega)).2
    rw [h4] at hb
    exact ht hn hb.symm
end Go.Ql
end

section
namespace Go.Ql
theorem u64_mod {x : Int} : IntKind.u64.wrap x = x % 18446744073709551616 := by
  simp [IntKind.wrap, IntKind.signed, IntKind.bits]
theorem pair_eta {α β : Type} (p : α × β) : (p.1, p.2) = p := rfl
theorem eqT_ff (f : Int × Int) : Ty.eqT (Ty.pair (Ty.int Go.IntKind.i64) (Ty.int Go.IntKind.i64)) f f = true := by
  simp [Ty.eqT]
end Go.Ql
end

section
namespace Go.Ql
theorem or32 (m : Nat) {a x q : Int} (ha : 0 ≤ a ∧ a < 2 ^ m) (hx : x = 2 ^ m * q) (hq : 0 ≤ q) (hb : a + x < 4294967296) : ibits Go.BinOp.or Go.IntKind.u32 a x = a + x := by
  obtain ⟨a, rfl⟩ : ∃ n : Nat, a = n := ⟨a.toNat, by omega⟩
  obtain ⟨q, rfl⟩ : ∃ n : Nat, q = n := ⟨q.toNat, by omega⟩
  have hx2 : x = ((2 ^ m * q : Nat) : Int) := by rw [hx]; simp
  have ham : a < 2 ^ m := by
    have := ha.2
    rw [show ((2 : Int) ^ m) = ((2 ^ m : Nat) : Int) by simp] at this
    omega
  have h : (BitVec.ofInt IntKind.u32.bits (a : Int) ||| BitVec.ofInt IntKind.u32.bits ((2 ^ m * q : Nat) : Int)).toNat = a + 2 ^ m * q := by
    rw [BitVec.toNat_or, BitVec.toNat_ofInt, BitVec.toNat_ofInt]
    have e1 : ((a : Int) % ((2 ^ IntKind.u32.bits : Nat) : Int)).toNat = a := by
      show ((a : Int) % 4294967296).toNat = a
      omega
    have e2 : (((2 ^ m * q : Nat) : Int) % ((2 ^ IntKind.u32.bits : Nat) : Int)).toNat = 2 ^ m * q := by
      show (((2 ^ m * q : Nat) : Int) % 4294967296).toNat = 2 ^ m * q
      omega
    rw [e1, e2, Nat.or_comm, ← Nat.two_pow_add_eq_or_of_lt ham]
    omega
  show IntKind.u32.wrap ((BitVec.ofInt IntKind.u32.bits (a : Int) ||| BitVec.ofInt IntKind.u32.bits x).toNat : Int) = _
  rw [hx2, h, wrap_u32 (by omega)]
  omega
theorem two_parts (m : Nat) (hm : m < 32) : (0 : Int) < 2 ^ m ∧ (2 : Int) ^ m ≤ 2147483648 ∧ (2 : Int) ^ m * 2 ^ (32 - m) = 4294967296 ∧ (0 : Int) < 2 ^ (32 - m) := by
  have h1 : (0 : Int) < 2 ^ m := Int.pow_pos (by decide)
  have h2 : (2 : Int) ^ m ≤ 2 ^ 31 := pow_le (by decide) (by omega)
  have h3 : (2 : Int) ^ m * 2 ^ (32 - m) = 2 ^ 32 := by rw [← Int.pow_add]; congr 1; omega
  exact ⟨h1, h2, h3, Int.pow_pos (by decide)⟩
theorem pow_split (n : Nat) : (2 : Int) ^ n = 4294967296 ^ (n / 32) * 2 ^ (n % 32) := by
  have h : (4294967296 : Int) = 2 ^ 32 := rfl
  rw [h, ← Int.pow_mul, ← Int.pow_add]
  congr 1
  omega
end Go.Ql
end

section
namespace Go.Ql
theorem getD_drop (l : List Int) (k i : Nat) : (l.drop k).getD i 0 = l.getD (k + i) 0 := by
  simp [List.getD, List.getElem?_drop]
theorem val_cut (B : Int) (l : List Int) (k : Nat) (h : k ≤ l.length) : val B l = val B (l.take k) + B ^ k * val B (l.drop k) := by
  have := val_append B (l.drop k) (l.take k)
  rw [List.take_append_drop, show (l.take k).length = k by rw [List.length_take]; omega] at this
  exact this
end Go.Ql
end

section
namespace Go.Ql
theorem and_low {x : Int} (h : 0 ≤ x ∧ x < 18446744073709551616) : ibits Go.BinOp.and Go.IntKind.u64 x 4294967295 = x % 4294967296 := by
  obtain ⟨a, rfl⟩ : ∃ n : Nat, x = n := ⟨x.toNat, by omega⟩
  have e : (BitVec.ofInt IntKind.u64.bits (a : Int) &&& BitVec.ofInt IntKind.u64.bits (4294967295 : Int)).toNat = a % 4294967296 := by
    rw [BitVec.toNat_and, BitVec.toNat_ofInt, BitVec.toNat_ofInt]
    have e1 : ((a : Int) % ((2 ^ IntKind.u64.bits : Nat) : Int)).toNat = a := by
      show ((a : Int) % 18446744073709551616).toNat = a
      omega
    have e2 : ((4294967295 : Int) % ((2 ^ IntKind.u64.bits : Nat) : Int)).toNat = 2 ^ 32 - 1 := by decide
    rw [e1, e2, Nat.and_two_pow_sub_one_eq_mod]
  show IntKind.u64.wrap ((BitVec.ofInt IntKind.u64.bits (a : Int) &&& BitVec.ofInt IntKind.u64.bits (4294967295 : Int)).toNat : Int) = _
  rw [e, wrap_u64 (by omega)]
  omega
end Go.Ql
end

section
namespace Go.Ql
section
variable {W V P top v2 vl head x0 wl : Int}
/-- What is known of a digit's place: the divisor's two highest digits, the three highest of what is left. -/
structure Place (W V P top v2 vl head x0 wl : Int) : Prop where
  P0 : 0 < P
  hV : V = (top * 4294967296 + v2) * P + vl
  hW : W = (head * 4294967296 + x0) * P + wl
  top0 : 2147483648 ≤ top
  top1 : top < 4294967296
  v20 : 0 ≤ v2
  v21 : v2 < 4294967296
  vl0 : 0 ≤ vl
  vl1 : vl < P
  head0 : 0 ≤ head
  x00 : 0 ≤ x0
  x01 : x0 < 4294967296
  wl0 : 0 ≤ wl
  wl1 : wl < P
  hlt : W < V * 4294967296
theorem Place.Vpos (h : Place W V P top v2 vl head x0 wl) : 0 < V := by
  have h1 : 1 * P ≤ (top * 4294967296 + v2) * P := Int.mul_le_mul_of_nonneg_right (by have := h.top0; have := h.v20; omega) (by have := h.P0; omega)
  have := h.hV; have := h.P0; have := h.vl0
  omega
theorem lt_of_mul {a b P : Int} (hP : 0 < P) (h : a * P < b * P) : a < b := Int.lt_of_mul_lt_mul_right h (Int.le_of_lt hP)
theorem Place.head_le (h : Place W V P top v2 vl head x0 wl) : head ≤ 4294967296 * top + 4294967295 := by
  obtain ⟨P0, hV, hW, top0, top1, v20, v21, vl0, vl1, head0, x00, x01, wl0, wl1, hlt⟩ := h
  have h1 : V < (top * 4294967296 + v2 + 1) * P := by rw [hV, Int.add_mul _ 1]; omega
  have h2 : (head * 4294967296 + x0) * P < ((top * 4294967296 + v2 + 1) * 4294967296) * P := by
    have : V * 4294967296 ≤ (top * 4294967296 + v2 + 1) * P * 4294967296 := by omega
    have e : (top * 4294967296 + v2 + 1) * P * 4294967296 = ((top * 4294967296 + v2 + 1) * 4294967296) * P := by grind
    omega
  have h3 := lt_of_mul P0 h2
  omega
theorem Place.first (h : Place W V P top v2 vl head x0 wl) : W / V ≤ head / top := by
  have hVp := h.Vpos
  obtain ⟨P0, hV, hW, top0, top1, v20, v21, vl0, vl1, head0, x00, x01, wl0, wl1, hlt⟩ := h
  have h0 : 0 ≤ W := by rw [hW]; have := Int.mul_nonneg (show 0 ≤ head * 4294967296 + x0 by omega) (Int.le_of_lt P0); omega
  have hq : 0 ≤ W / V := Int.ediv_nonneg h0 (by omega)
  have hqV := Int.ediv_mul_le W (show V ≠ 0 by omega)
  generalize W / V = q at *
  apply Int.le_ediv_of_mul_le (by omega)
  have h1 : q * ((top * 4294967296) * P) ≤ q * V := Int.mul_le_mul_of_nonneg_left (by rw [hV, Int.add_mul]; have := Int.mul_nonneg v20 (Int.le_of_lt P0); omega) hq
  have h2 : W < (head * 4294967296 + x0 + 1) * P := by rw [hW, Int.add_mul _ 1]; omega
  have h3 : (q * top * 4294967296) * P < (head * 4294967296 + x0 + 1) * P := by
    have e : q * ((top * 4294967296) * P) = (q * top * 4294967296) * P := by grind
    omega
  have h4 := lt_of_mul P0 h3
  omega
theorem Place.less (h : Place W V P top v2 vl head x0 wl) {g rest : Int} (hg : 0 ≤ g) (hr : g * top + rest = head) (hc : rest * 4294967296 + x0 < g * v2) : W / V ≤ g - 1 := by
  have hVp := h.Vpos
  obtain ⟨P0, hV, hW, top0, top1, v20, v21, vl0, vl1, head0, x00, x01, wl0, wl1, hlt⟩ := h
  have h1 : (head * 4294967296 + x0 + 1) * P ≤ (g * (top * 4294967296 + v2)) * P := by
    apply Int.mul_le_mul_of_nonneg_right _ (Int.le_of_lt P0)
    rw [← hr, Int.mul_add]
    have : g * (top * 4294967296) = g * top * 4294967296 := by grind
    omega
  have h2 : W < (head * 4294967296 + x0 + 1) * P := by rw [hW, Int.add_mul _ 1]; omega
  have h3 : g * V = (g * (top * 4294967296 + v2)) * P + g * vl := by rw [hV]; grind
  have h5 := Int.mul_nonneg hg vl0
  have h4 : W / V < g := Int.ediv_lt_of_lt_mul hVp (by omega)
  omega
theorem Place.last (h : Place W V P top v2 vl head x0 wl) {g rest : Int} (hg : 0 ≤ g) (hg1 : g < 4294967296) (hr : g * top + rest = head) (hc : g * v2 ≤ rest * 4294967296 + x0) : g ≤ W / V + 1 := by
  have hVp := h.Vpos
  obtain ⟨P0, hV, hW, top0, top1, v20, v21, vl0, vl1, head0, x00, x01, wl0, wl1, hlt⟩ := h
  have h1 : (g * (top * 4294967296 + v2)) * P ≤ (head * 4294967296 + x0) * P := by
    apply Int.mul_le_mul_of_nonneg_right _ (Int.le_of_lt P0)
    rw [← hr, Int.mul_add]
    have : g * (top * 4294967296) = g * top * 4294967296 := by grind
    omega
  have h2 : g * vl ≤ 4294967295 * P := Int.mul_le_mul (by omega) (by omega) vl0 (by omega)
  have h3 : (2147483648 * 4294967296) * P ≤ (top * 4294967296 + v2) * P := Int.mul_le_mul_of_nonneg_right (by omega) (by omega)
  have h4 : g * V = (g * (top * 4294967296 + v2)) * P + g * vl := by rw [hV]; grind
  have h5 : (g - 1) * V ≤ W := by
    rw [Int.sub_mul]; omega
  have := Int.le_ediv_of_mul_le hVp h5
  omega
end
end Go.Ql
end

section
namespace Go.Ql
end Go.Ql
end

section
namespace Go.Ql
theorem val_zero {B : Int} (hB : 0 < B) : ∀ {l : List Int}, Dig B l → val B l = 0 → ∀ x, l.getD x 0 = 0
  | [], _, _, x => by simp
  | d :: l, h, hv, x => by
    have h1 := val_nonneg (by omega) h.tail
    have h2 := h.head
    have h3 := Int.mul_nonneg (Int.le_of_lt hB) h1
    simp only [val] at hv
    have h4 : B * val B l = 0 := by omega
    have h5 : val B l = 0 := by
      rcases Int.mul_eq_zero.1 h4 with h | h
      · omega
      · exact h
    cases x with
    | zero => simp; omega
    | succ x => simpa using val_zero hB h.tail h5 x
theorem val_above {B : Int} (hB : 0 < B) {l : List Int} (h : Dig B l) {k : Nat} (hv : val B l < B ^ k) : val B (l.drop k) = 0 := by
  by_cases hk : k ≤ l.length
  · have h1 := val_cut B l k hk
    have h2 := val_nonneg (by omega) (h.take k)
    have h3 := val_nonneg (by omega) (h.drop k)
    have h4 : B ^ k * val B (l.drop k) < B ^ k * 1 := by omega
    have := Int.lt_of_mul_lt_mul_left h4 (Int.le_of_lt (pow_pos hB k))
    omega
  · rw [List.drop_eq_nil_of_le (by omega)]; rfl
theorem val_upto {B : Int} (hB : 0 < B) {l : List Int} (h : Dig B l) {k : Nat} (hk : k ≤ l.length) (hv : val B l < B ^ k) : val B l = val B (l.take k) := by
  have := val_cut B l k hk
  rw [val_above hB h hv] at this
  simpa using this
theorem same_above {B : Int} (hB : 0 < B) {t t1 : List Int} {k : Nat} (ht : Dig B t) (h1 : Dig B t1) (hl : t1.length = t.length) (hk : k ≤ t.length) (hs : ∀ x, k ≤ x → t1.getD x 0 = t.getD x 0) (hv : val B t < B ^ k) : val B t1 < B ^ k := by
  have hz := val_above hB ht hv
  have hcut1 := val_cut B t1 k (by omega)
  have e : t1.drop k = t.drop k := by
    apply List.ext_getElem (by simp only [List.length_drop]; omega)
    intro i h1 h2
    have := hs (k + i) (by omega)
    rw [List.length_drop] at h1 h2
    simp only [List.getElem_drop]
    simp only [List.getD, List.getElem?_eq_getElem (show k + i < t1.length by omega), List.getElem?_eq_getElem (show k + i < t.length by omega), Option.getD_some] at this
    exact this
  have := val_lt hB (h1.take k)
  rw [show (t1.take k).length = k by rw [List.length_take]; omega] at this
  rw [e, hz] at hcut1
  omega
end Go.Ql
end

section
namespace Go.Ql
theorem u8_small {x : Int} (h : 0 ≤ x ∧ x < 256) : IntKind.u8.wrap x = x := IntWalk.u8_in _ (by omega)
def lens : List UInt8 := (List.range 256).map fun n => UInt8.ofNat (if n = 0 then 0 else Nat.log2 n + 1)
theorem lens_ok : ∀ n : Fin 256, 0 < n.val → ∃ k : Fin 9, lens[n.val]? = some (UInt8.ofNat k.val) ∧ 1 ≤ k.val ∧ 2 ^ (k.val - 1) ≤ n.val ∧ n.val < 2 ^ k.val := by decide +kernel
theorem idx_nat {α : Type} {xs : List α} {i : Int} (n : Nat) (hi : i = n) {x : α} (h : xs[n]? = some x) : idx xs i = some x := by
  subst hi; unfold idx; simp [h]
end Go.Ql
end

section
namespace Go.Ql
theorem Rep.nil {B : Int} : Rep B (false, []) 0 := ⟨Dig.nil, by simp, by simp, by simp [Ql.val]⟩
theorem Rep.absval {B : Int} (hB : 0 ≤ B) {x : Bool × List Int} {v : Int} (h : Rep B x v) : Ql.val B x.2 = (v.natAbs : Int) := by
  have h1 := val_nonneg hB h.dig
  have h2 := h.val
  cases h0 : x.1 <;> simp only [h0, Bool.false_eq_true, if_false, if_true] at h2 <;> omega
theorem Rep.zero_iff {B : Int} (hB : 1 < B) {x : Bool × List Int} {v : Int} (h : Rep B x v) : x.2 = [] ↔ v = 0 := by
  constructor
  · intro h0
    have := h.absval (by omega)
    rw [h0] at this
    simp only [Ql.val] at this
    omega
  · intro h0
    rcases Classical.em (x.2 = []) with h1 | h1
    · exact h1
    · have := h.pos hB h1
      have := h.absval (by omega)
      omega
/-- A number that is no greater has no more places. -/
theorem Rep.short {B : Int} (hB : 1 < B) {x y : Bool × List Int} {u v : Int} (hx : Rep B x u) (hy : Rep B y v) (h : u.natAbs ≤ v.natAbs) : x.2.length ≤ y.2.length := by
  apply len_le hB hy.dig hx.dig hx.last
  rw [hx.absval (by omega), hy.absval (by omega)]
  omega
theorem Rep.eq_of {B : Int} {x : Bool × List Int} {u v : Int} (h : Rep B x u) (e : u = v) : Rep B x v := e ▸ h
theorem ediv_unique {a b q r : Int} (hb : 0 < b) (h : a = b * q + r) (h0 : 0 ≤ r) (h1 : r < b) : a / b = q ∧ a % b = r := by
  subst h
  constructor
  · rw [Int.add_comm, Int.add_mul_ediv_left _ _ (by omega), Int.ediv_eq_zero_of_lt h0 h1]; omega
  · rw [Int.add_comm, Int.add_mul_emod_self_left, Int.emod_eq_of_lt h0 h1]
/-- What the division without signs answers, and what it is with the signs. -/
theorem div_signs {A V : Int} (hA : 0 ≤ A) (hV : 0 < V) (sa sb : Bool) :
    (if sa then -A else A) / (if sb then -V else V) = (if sa != sb then -(if sa && decide (A % V ≠ 0) then A / V + 1 else A / V) else (if sa && decide (A % V ≠ 0) then A / V + 1 else A / V)) ∧
    (if sa then -A else A) % (if sb then -V else V) = (if sa && decide (A % V ≠ 0) then V - A % V else A % V) := by
  have hdm := Int.mul_ediv_add_emod A V
  have h0 := Int.emod_nonneg A (show V ≠ 0 by omega)
  have h1 := Int.emod_lt_of_pos A hV
  by_cases hr : A % V = 0
  · obtain ⟨e1, e2⟩ := ediv_unique (a := -A) (b := V) (q := -(A / V)) (r := 0) hV (by rw [Int.mul_neg]; omega) (by omega) hV
    cases sa <;> cases sb <;> simp [hr, Int.ediv_neg, Int.emod_neg, e1, e2]
  · obtain ⟨e1, e2⟩ := ediv_unique (a := -A) (b := V) (q := -(A / V + 1)) (r := V - A % V) hV (by rw [Int.mul_neg, Int.mul_add]; omega) (by omega) (by omega)
    cases sa <;> cases sb <;> simp [hr, Int.ediv_neg, Int.emod_neg, e1, e2]
end Go.Ql
end

section
namespace Go.Ql
theorem gcd_step (u v : Int) : Int.gcd v (u % v) = Int.gcd u v := by
  have h := Int.mul_ediv_add_emod u v
  have e : u % v = u - v * (u / v) := by omega
  rw [e, Int.gcd_sub_mul_left_right, Int.gcd_comm]
theorem Rep.pos_of {B : Int} (hB : 1 < B) {x : Bool × List Int} {v : Int} (h : Rep B x v) : (x.2.length : Int) > 0 ↔ v ≠ 0 := by
  constructor
  · intro h1 h2
    rw [(h.zero_iff hB).2 h2] at h1
    simp at h1
  · intro h1
    have : x.2.length ≠ 0 := fun e => h1 ((h.zero_iff hB).1 (List.eq_nil_of_length_eq_zero e))
    omega
theorem mod_less (u : Int) {v : Int} (h : v ≠ 0) : (u % v).natAbs < v.natAbs := by
  have h1 := Int.emod_nonneg u h
  have h2 := Int.emod_lt u h
  omega
end Go.Ql
end

section
namespace Go.Ql
theorem zof_ok {n : Int} (h : -9223372036854775808 ≤ n ∧ n ≤ 9223372036854775807) :
    ∃ r, W.R_ZOf n = some r ∧ Rep 10000 r n ∧ r.2.length ≤ 5 := by
  unfold W.R_ZOf
  have e : W.R_ZOf.c208197 n (IntKind.u64.wrap n) Option.some = some (n.natAbs : Int) := by
    unfold W.R_ZOf.c208197
    by_cases h0 : n < 0
    · rw [br_pos h0, u64_mod, u64_mod]; congr 1; omega
    · rw [br_neg h0, u64_mod]; congr 1; omega
  rw [e, bnd_val]
  have hB : (0 : Int) < 10000 := by decide
  obtain ⟨⟨u, d⟩, l1, l2, l3, l4⟩ := iter_loop
    (f := fun s : Int × List Int ↦ W.R_ZOf.c100005 (Prod.fst s) (Prod.snd s) Option.some)
    (J := fun s => 0 ≤ s.1 ∧ s.1 < 10000 ^ (5 - s.2.length) ∧ s.2.length ≤ 5 ∧ Dig 10000 s.2 ∧ val 10000 s.2 + 10000 ^ s.2.length * s.1 = (n.natAbs : Int))
    (Q := fun s => s.2.length ≤ 5 ∧ Dig 10000 s.2 ∧ val 10000 s.2 = (n.natAbs : Int))
    (fun s => s.1.toNat) (fun ⟨u, d⟩ ⟨h1, h2, h3, h4, h5⟩ => by
      simp only at h1 h2 h3 h4 h5 ⊢
      unfold W.R_ZOf.c100005
      by_cases h0 : u > 0
      · have hl : d.length ≠ 5 := fun e => by rw [e] at h2; simp at h2; omega
        rw [br_pos h0, tmod_pos h1, tdiv_pos h1, wrap_i64 (by omega), wrap_u64 (by
          have : (10000 : Int) ^ (5 - d.length) ≤ 10000 ^ 5 := pow_le (by decide) (by omega)
          rw [show (10000 : Int) ^ 5 = 100000000000000000000 from rfl] at this
          have h7 : u ≤ (n.natAbs : Int) := by
            have : 1 * u ≤ 10000 ^ d.length * u := Int.mul_le_mul_of_nonneg_right (by have := pow_pos hB d.length; omega) h1
            have := val_nonneg (B := 10000) (by decide) h4
            omega
          omega), okIf_true (by simp; omega), bnd_val]
        refine Or.inr ⟨(_, _), rfl, ⟨by simp only; omega, ?_, by simp; omega, h4.append (Dig.cons (by omega) Dig.nil), ?_⟩, by simp only; omega⟩
        · simp only [List.length_append, List.length_cons, List.length_nil]
          have e5 : 5 - d.length = (5 - (d.length + (0 + 1))) + 1 := by omega
          rw [e5, Int.pow_succ] at h2
          omega
        · simp only [List.length_append, List.length_cons, List.length_nil]
          rw [val_snoc, Int.pow_succ, ← h5]
          have : u = 10000 * (u / 10000) + u % 10000 := by omega
          generalize u / 10000 = q at *
          generalize u % 10000 = r at *
          subst this
          grind
      · rw [br_neg h0]
        have : u = 0 := by omega
        subst this
        exact Or.inl ⟨(_, _), rfl, h3, h4, by simpa using h5⟩)
    (s := ((n.natAbs : Int), [])) ⟨by simp, by simp only [List.length_nil]; rw [show (10000 : Int) ^ (5 - 0) = 100000000000000000000 from rfl]; omega, by simp, Dig.nil, by simp [val]⟩
  simp only at l2 l3 l4
  obtain ⟨r, r1, r2, r3⟩ := zmade_ok (B := 10000) (decide (n < 0)) d l3 (by omega)
  rw [l1, bnd_val, r1]
  refine ⟨r, rfl, r2.eq_of ?_, by omega⟩
  rw [l4]
  by_cases h0 : n < 0
  · rw [if_pos (decide_eq_true h0)]; omega
  · rw [if_neg (by simpa using h0)]; omega
/-- A number below a power of two has few places. -/
theorem Rep.few {B : Int} (hB : 1 < B) {x : Bool × List Int} {e : Nat} (h : Rep B x (2 ^ e)) : x.2.length ≤ e + 1 := by
  have h2 : (0 : Int) < 2 ^ e := Int.pow_pos (by decide)
  have hn : x.2 ≠ [] := fun h0 => by have := (h.zero_iff hB).1 h0; omega
  have h1 := val_ge hB h.dig h.last hn
  rw [h.absval (by omega)] at h1
  rcases Nat.lt_or_ge e (x.2.length - 1) with hc | hc
  · have h3 : (2 : Int) ^ (x.2.length - 1) ≤ B ^ (x.2.length - 1) := by
      have : ∀ k : Nat, (2 : Int) ^ k ≤ B ^ k := by
        intro k
        induction k with
        | zero => simp
        | succ k ih =>
          rw [Int.pow_succ, Int.pow_succ]
          exact Int.mul_le_mul ih (by omega) (by decide) (Int.le_of_lt (pow_pos (by omega) k))
      exact this _
    have h4 : (2 : Int) ^ (e + 1) ≤ 2 ^ (x.2.length - 1) := pow_le (by decide) (by omega)
    rw [Int.pow_succ] at h4
    omega
  · omega
end Go.Ql
end
end

section
namespace Go.Ql
/-- A text cut at each byte c. -/
def cut (c : UInt8) : List UInt8 → List (List UInt8)
  | [] => [[]]
  | b :: l => if b = c then [] :: cut c l else match cut c l with
    | [] => [[b]]
    | w :: ws => (b :: w) :: ws
theorem cut_ne (c : UInt8) : ∀ l : List UInt8, cut c l ≠ []
  | [] => by simp [cut]
  | b :: l => by
    unfold cut
    split
    · simp
    · split <;> simp
theorem cut_none {c : UInt8} : ∀ {l : List UInt8}, c ∉ l → cut c l = [l]
  | [], _ => rfl
  | b :: l, h => by
    simp only [List.mem_cons, not_or] at h
    rw [cut, if_neg (Ne.symm h.1), cut_none h.2]
theorem cut_app {c : UInt8} : ∀ {w : List UInt8} (l : List UInt8), c ∉ w → cut c (w ++ c :: l) = w :: cut c l
  | [], l, _ => by simp [cut]
  | b :: w, l, h => by
    simp only [List.mem_cons, not_or] at h
    rw [List.cons_append, cut, if_neg (Ne.symm h.1), cut_app l h.2]
theorem cut_len (c : UInt8) : ∀ l : List UInt8, (cut c l).length = l.count c + 1
  | [] => rfl
  | b :: l => by
    have ih := cut_len c l
    by_cases h : b = c
    · rw [cut, if_pos h, List.length_cons, ih, h, List.count_cons_self]
    · rw [cut, if_neg h, List.count_cons_of_ne h]
      split
      · rename_i he; exact absurd he (cut_ne c l)
      · rename_i w ws he
        rw [he] at ih
        simpa using ih
theorem count_le (c : UInt8) (l : List UInt8) : l.count c ≤ l.length := List.count_le_length
/-- Where a byte stands first. -/
theorem index_split (c : UInt8) : ∀ l : List UInt8, (Lib.indexByte l c = -1 ∧ c ∉ l) ∨ ∃ w r, l = w ++ c :: r ∧ c ∉ w ∧ Lib.indexByte l c = (w.length : Int)
  | [] => .inl ⟨rfl, by simp⟩
  | b :: l => by
    by_cases h : b = c
    · subst h
      exact .inr ⟨[], l, rfl, by simp, by simp [Lib.indexByte]⟩
    · have hb : (b == c) = false := by simpa using h
      rcases index_split c l with ⟨h1, h2⟩ | ⟨w, r, rfl, h1, h2⟩
      · exact .inl ⟨by simp [Lib.indexByte, hb, h1], by simp [Ne.symm h, h2]⟩
      · refine .inr ⟨b :: w, r, rfl, by simp [Ne.symm h, h1], ?_⟩
        have hne : ((w.length : Int) == -1) = false := by rw [beq_eq_false_iff_ne]; omega
        simp only [Lib.indexByte, hb, h2, hne]
        simp
theorem count_none {c : UInt8} {l : List UInt8} (h : c ∉ l) : l.count c = 0 := List.count_eq_zero.2 h
end Go.Ql
end

section
namespace Go.Ql
theorem genSplit_ok (s : List UInt8) (c : UInt8) (hs : s.length ≤ 100000000) : W.strings_genSplit s [c] 0 (-1) = some (cut c s, ()) := by
  have hcnt := count_le c s
  have hc : W.strings_genSplit.c220485 s [c] (-1) some = some ((s.count c : Nat) + 1 : Int) := by
    simp only [W.strings_genSplit.c220485, W.strings_Count, Lib.countByte]
    rw [br_pos (by decide), bnd_val, wrap_i64 (by omega)]
  have hmin : min ((s.count c : Nat) + 1 : Int) (IntKind.wrap IntKind.i64 ((s.length : Int) + 1)) = ((s.count c + 1 : Nat) : Int) := by
    rw [wrap_i64 (by omega)]; omega
  simp only [W.strings_genSplit, hc, bnd_val, hmin]
  rw [br_false (by decide), br_false (by simp), okIf_true (by simp; omega), bnd_val, wrap_i64 (x := ((s.count c + 1 : Nat) : Int) - 1) (by omega), show ((s.count c + 1 : Nat) : Int) - 1 = ((s.count c : Nat) : Int) by omega, Int.toNat_natCast]
  have key : ∃ r, iter (fun t : List UInt8 × Int × List (List UInt8) ↦ W.strings_genSplit.c100011 t.1 [c] 0 ((s.count c : Nat) : Int) t.2.1 t.2.2 some) (s, (0 : Int), List.replicate (s.count c + 1) []) = some r ∧
      ∃ i : Nat, r.2.1 = (i : Int) ∧ i < r.2.2.length ∧ r.2.2.length = s.count c + 1 ∧ cut c s = r.2.2.take i ++ [r.1] := by
    refine iter_upto (s.count c) (fun i t => t.2.1 = (i : Int) ∧ t.2.2.length = s.count c + 1 ∧ cut c s = t.2.2.take i ++ cut c t.1 ∧ t.1.count c + i = s.count c ∧ t.1.length ≤ s.length) _ ?_ ?_ ⟨rfl, by simp, by simp, by simp, Nat.le_refl _⟩
    · rintro i ⟨t, j, a⟩ hi ⟨h1, h2, h3, h4, h5⟩
      simp only at h1 h2 h3 h4 h5
      subst h1
      simp only [W.strings_genSplit.c100011, W.strings_Index, bnd_val]
      rw [br_pos (by omega)]
      rcases index_split c t with ⟨h6, h7⟩ | ⟨w, r, rfl, h6, h7⟩
      · rw [count_none h7] at h4
        omega
      · rw [h7, br_neg (by omega)]
        simp only [List.length_append, List.length_cons] at h5
        rw [wrap_i64 (x := (w.length : Int) + 0) (by omega), show ([c] : List UInt8).length = 1 from rfl, wrap_i64 (x := (w.length : Int) + ((1 : Nat) : Int)) (by omega)]
        rw [okIf_true (by simp; omega), bnd_val, inR_at (by omega), bnd_val, idx_get (by omega), bnd_val, okIf_true (by simp; omega), bnd_val, wrap_i64 (by omega)]
        refine .inl ⟨_, rfl, by simp, by simpa using h2, ?_, ?_, ?_⟩
        · simp only
          rw [h3, cut_app _ h6]
          have e1 : ((w.length : Int) + ((1 : Nat) : Int)).toNat = w.length + 1 := by omega
          have e2 : ((w.length : Int) + 0).toNat = w.length := by omega
          rw [e1, e2, Int.toNat_natCast, Int.toNat_natCast, List.take_length]
          have e3 : (w ++ c :: r).take w.length = w := by simp
          have e4 : (w ++ c :: r).drop (w.length + 1) = r := by
            rw [List.drop_append]; simp
          rw [e3, e4]
          have hil : i < (a.set i w).length := by simp; omega
          rw [List.take_succ_eq_append_getElem hil]
          simp [List.take_set_of_le]
        · simp only
          have e1 : ((w.length : Int) + ((1 : Nat) : Int)).toNat = w.length + 1 := by omega
          rw [e1, Int.toNat_natCast, List.take_length]
          have e4 : (w ++ c :: r).drop (w.length + 1) = r := by
            rw [List.drop_append]; simp
          rw [e4]
          rw [List.count_append, count_none h6, List.count_cons_self] at h4
          omega
        · have e1 : ((w.length : Int) + ((1 : Nat) : Int)).toNat = w.length + 1 := by omega
          rw [e1]
          simp only [List.length_drop, List.length_take, Int.toNat_natCast, List.length_append, List.length_cons]
          omega
    · rintro ⟨t, j, a⟩ ⟨h1, h2, h3, h4, h5⟩
      simp only at h1 h2 h3 h4 h5
      subst h1
      simp only [W.strings_genSplit.c100011]
      rw [br_neg (by omega)]
      refine ⟨_, rfl, s.count c, rfl, by simp only; omega, h2, ?_⟩
      have : c ∉ t := by
        intro hm
        have := List.count_pos_iff.2 hm
        omega
      rw [h3, cut_none this]
  obtain ⟨⟨t, j, a⟩, hr, i, h1, h2, h3, h4⟩ := key
  simp only at h1 h2 h3 h4
  subst h1
  rw [hr]
  simp only [bnd_val]
  rw [inR_at h2, bnd_val, idx_get h2, bnd_val, wrap_i64 (by omega), okIf_true (by simp; omega), bnd_val]
  have e1 : ((i : Int) + 1).toNat = i + 1 := by omega
  rw [e1, Int.toNat_natCast]
  have hil : i < (a.set i t).length := by simpa using h2
  rw [List.take_succ_eq_append_getElem hil]
  simp [List.take_set_of_le, h4]
theorem split_ok (s : List UInt8) (c : UInt8) (hs : s.length ≤ 100000000) : W.strings_Split s [c] = some (cut c s, ()) := by
  simp only [W.strings_Split, genSplit_ok s c hs, bnd_val]

/-! ## Numbers -/
def isDig (b : UInt8) : Prop := 48 ≤ b.toNat ∧ b.toNat ≤ 57
instance (b : UInt8) : Decidable (isDig b) := by unfold isDig; infer_instance
def numV (w : List UInt8) : Int := w.foldl (fun n b => n * 10 + ((b.toNat : Int) - 48)) 0
/-- May a word be a number? -/
def numOk (w : List UInt8) : Prop := w ≠ [] ∧ w.length ≤ 9 ∧ ¬ (w.head? = some 48 ∧ 1 < w.length) ∧ ∀ b ∈ w, isDig b
instance (w : List UInt8) : Decidable (numOk w) := by unfold numOk; infer_instance
def numS (w : List UInt8) : Int × Bool := if numOk w then (numV w, true) else (0, false)
theorem numV_snoc (w : List UInt8) (b : UInt8) : numV (w ++ [b]) = numV w * 10 + ((b.toNat : Int) - 48) := by
  unfold numV; simp
theorem numF_bound : ∀ (w : List UInt8) (n : Int), (∀ b ∈ w, isDig b) → 0 ≤ n → 0 ≤ w.foldl (fun n b => n * 10 + ((b.toNat : Int) - 48)) n ∧ w.foldl (fun n b => n * 10 + ((b.toNat : Int) - 48)) n < (n + 1) * 10 ^ w.length
  | [], n, _, hn => by simp; omega
  | b :: w, n, h, hn => by
    have h2 : isDig b := h b (by simp)
    unfold isDig at h2
    have h1 := numF_bound w (n * 10 + ((b.toNat : Int) - 48)) (fun x hx => h x (List.mem_cons_of_mem _ hx)) (by omega)
    refine ⟨h1.1, Int.lt_of_lt_of_le h1.2 ?_⟩
    have hp : (0 : Int) ≤ 10 ^ w.length := Int.le_of_lt (Int.pow_pos (by decide))
    have h3 := Int.mul_le_mul_of_nonneg_right (show n * 10 + ((b.toNat : Int) - 48) + 1 ≤ (n + 1) * 10 by omega) hp
    rw [List.length_cons, Int.pow_succ, Int.mul_comm (10 ^ w.length) 10, ← Int.mul_assoc]
    exact h3
theorem numV_bound {w : List UInt8} (h : ∀ b ∈ w, isDig b) : 0 ≤ numV w ∧ numV w < 10 ^ w.length := by
  have := numF_bound w 0 h (Int.le_refl 0)
  simpa [numV] using this
theorem ten_le : ∀ k : Nat, k ≤ 8 → (10 : Int) ^ k ≤ 100000000 := by decide
theorem byte_sub {b : UInt8} (h : isDig b) : IntKind.wrap IntKind.i64 (IntKind.wrap IntKind.u8 ((b.toNat : Int) - 48)) = (b.toNat : Int) - 48 := by
  unfold isDig at h
  have h1 : IntKind.wrap IntKind.u8 ((b.toNat : Int) - 48) = (b.toNat : Int) - 48 := by
    simp only [IntKind.wrap, IntKind.signed, IntKind.bits]
    simp
    omega
  rw [h1, wrap_i64 (by omega)]
theorem number_ok (w : List UInt8) (hw : w.length ≤ 100000000) : W.circ_number w = some (numS w) := by
  have h1 : W.circ_number.c1 w some = some (decide (w = [] ∨ 9 < w.length ∨ (w.head? = some 48 ∧ 1 < w.length))) := by
    cases w with
    | nil => rfl
    | cons b w =>
      simp only [W.circ_number.c1]
      have hz : idx (b :: w) (0 : Int) = some b := rfl
      rw [br_false (by simp; omega), hz]
      simp only [bnd_val, br_and, br_or]
      refine some_dec ?_
      have hb : ((b.toNat : Int) = 48) ↔ b = 48 := by
        constructor
        · intro h
          have h : b.toNat = 48 := by omega
          exact UInt8.toNat_inj.1 (by rw [h]; rfl)
        · intro h; subst h; rfl
      have e1 : (9 < (w.length : Int) + 1) ↔ 9 < w.length + 1 := by omega
      have e2 : (1 < (w.length : Int) + 1) ↔ 1 < w.length + 1 := by omega
      simp only [List.length_cons, Int.natCast_add, Int.cast_ofNat_Int, gt_iff_lt, Bool.or_eq_true, Bool.and_eq_true, decide_eq_true_eq, beq_iff_eq, hb, e1, e2, List.head?_cons, Option.some.injEq, reduceCtorEq, false_or]
  simp only [W.circ_number, h1, bnd_val]
  by_cases hbad : w = [] ∨ 9 < w.length ∨ (w.head? = some 48 ∧ 1 < w.length)
  · rw [br_pos hbad]
    have : ¬ numOk w := by
      rintro ⟨a, b, c, _⟩
      rcases hbad with h | h | h
      · exact a h
      · omega
      · exact c h
    rw [numS, if_neg this]
  · rw [br_neg hbad]
    simp only [not_or] at hbad
    obtain ⟨g1, g2, g3⟩ := hbad
    have key : ∃ r, iter (fun s : Int × Int ↦ W.circ_number.c100005 w s.1 (w.length : Int) s.2 some) ((0 : Int), (0 : Int)) = some r ∧
        ((∃ u, r = .inl u ∧ ¬ ∀ b ∈ w, isDig b) ∨ ∃ u, r = .inr (numV w, u) ∧ ∀ b ∈ w, isDig b) := by
      refine iter_each (l := w) (fun pre r s => s = (numV pre, (pre.length : Int)) ∧ ∀ b ∈ pre, isDig b) _ ?_ ?_ ⟨rfl, fun _ h => by cases h⟩
      · rintro pre b r s rfl ⟨rfl, hp⟩
        simp only [List.length_append, List.length_cons] at g2 hw
        have h7 : W.circ_number.c7 (pre ++ b :: r) (pre.length : Int) some = some (decide (¬ isDig b)) := by
          simp only [W.circ_number.c7, idx_mid, bnd_val, br_or]
          exact some_dec (by simp [isDig]; omega)
        simp only [W.circ_number.c100005, br_if, idx_mid, bnd_val, h7]
        rw [if_pos lt_app]
        by_cases hb : isDig b
        · have hv := numV_bound hp
          have hpow := ten_le pre.length (by omega)
          rw [if_neg (by simpa using hb), byte_sub hb]
          have hb' := hb
          unfold isDig at hb'
          rw [wrap_i64 (x := numV pre * 10) (by omega), wrap_i64 (by omega), wrap_i64 (by omega)]
          refine .inl ⟨_, rfl, by simp [numV_snoc], fun x hx => ?_⟩
          rcases List.mem_append.1 hx with hx | hx
          · exact hp x hx
          · rw [List.mem_singleton.1 hx]; exact hb
        · rw [if_pos (by simpa using hb)]
          exact .inr ⟨_, rfl, .inl ⟨_, rfl, fun h => hb (h b (by simp))⟩⟩
      · rintro s ⟨rfl, hp⟩
        simp only [W.circ_number.c100005, br_if]
        rw [if_neg (by simp)]
        exact ⟨_, rfl, .inr ⟨_, rfl, hp⟩⟩
    obtain ⟨r, hr, h⟩ := key
    rw [hr, bnd_val]
    rcases h with ⟨u, rfl, h⟩ | ⟨u, rfl, h⟩
    · have : ¬ numOk w := fun k => h k.2.2.2
      rw [sel_inl, numS, if_neg this]
    · have : numOk w := ⟨g1, by omega, g3, h⟩
      rw [sel_inr, numS, if_pos this]
end Go.Ql
end

section
namespace Go.Ql
/-- The window of a list that is its end. -/
structure Win (lo n : Int) (l rest : List (List UInt8)) : Prop where
  lo0 : 0 ≤ lo
  len : lo + n = l.length
  rest : l.drop lo.toNat = rest
section
variable {lo n : Int} {l rest : List (List UInt8)}
theorem Win.n0 (h : Win lo n l rest) (hb : rest ≠ [] ∨ 0 ≤ n) : n = rest.length := by
  have h1 := h.lo0; have h2 := h.len; have h3 := congrArg List.length h.rest
  rw [List.length_drop] at h3
  rcases hb with hb | hb
  · have : 0 < rest.length := List.length_pos_iff.2 hb
    omega
  · omega
end
structure Wn (lo n : Int) (l rest : List (List UInt8)) : Prop where
  lo0 : 0 ≤ lo
  n : n = rest.length
  rest : l.drop lo.toNat = rest
section
variable {lo n : Int} {l rest r : List (List UInt8)} {w : List UInt8}
theorem Wn.part (h : Wn lo n l rest) : Ql.part lo n l = rest := by
  unfold Ql.part
  rw [h.rest, h.n, Int.toNat_natCast, List.take_length]
theorem Wn.idx (h : Wn lo n l (w :: r)) : Ql.idx l (lo + 0) = some w := by
  obtain ⟨k, rfl⟩ := Int.eq_ofNat_of_zero_le h.lo0
  have h1 := h.rest
  rw [Int.toNat_natCast] at h1
  rw [Int.add_zero, idx_at]
  have : (l.drop k)[0]? = some w := by rw [h1]; rfl
  simpa [List.getElem?_drop] using this
theorem Wn.tail (h : Wn lo n l (w :: r)) : Wn (lo + 1) (n - 1) l r := by
  have h0 := h.lo0
  refine ⟨by omega, by have := h.n; simp at this; omega, ?_⟩
  have h1 := h.rest
  have e : (lo + 1).toNat = lo.toNat + 1 := by omega
  rw [e, ← List.drop_drop, h1]
  rfl
theorem Wn.set (h : Wn lo n l (w :: r)) (x : List UInt8) : Wn lo n (l.set (lo + 0).toNat x) (x :: r) := by
  refine ⟨h.lo0, by have := h.n; simpa using this, ?_⟩
  rw [Int.add_zero, List.drop_set]
  simp [h.rest]
theorem Wn.whole (l : List (List UInt8)) : Wn 0 (l.length : Int) l l := ⟨by decide, rfl, rfl⟩
theorem Wn.behind {l : List (List UInt8)} (h : l = w :: r) : Wn 1 ((l.length : Int) - 1) l r := by
  subst h
  exact ⟨by decide, by simp, rfl⟩
theorem Wn.nil (h : Wn lo n l []) : n = 0 := by simpa using h.n
theorem Wn.pos (h : Wn lo n l (w :: r)) : 0 < n := by have := h.n; simp at this; omega
end
/-- Words of which every one can be read. -/
abbrev Short (l : List (List UInt8)) : Prop := ∀ w ∈ l, w.length ≤ 100000000
def takesS : List (List UInt8) → Bool → Int × List (List UInt8) × Bool
  | [], _ => (0, [], true)
  | w :: r, bad => ((numS w).1, r, bad || !(numS w).2)
def meetsS (w : List UInt8) : List (List UInt8) → Bool × List (List UInt8)
  | [] => (false, [])
  | x :: r => if x = w then (true, r) else (false, x :: r)
def moreS : List (List UInt8) → List Int × List (List UInt8)
  | [] => ([], [])
  | w :: r => if (numS w).2 = true then ((numS w).1 :: (moreS r).1, (moreS r).2) else ([], w :: r)
def manyS (rest : List (List UInt8)) (bad : Bool) : List Int × List (List UInt8) × Bool :=
  let t := takesS rest bad
  (t.1 :: (moreS t.2.1).1, (moreS t.2.1).2, t.2.2)
def condW (w : List UInt8) : Int × Bool := if w.head? = some 33 then (-((numS w.tail).1 + 1), (numS w.tail).2) else ((numS w).1 + 1, (numS w).2)
def condsR : List (List UInt8) → Bool → List Int × Bool
  | [], bad => ([], bad)
  | w :: r, bad => ((condW w).1 :: (condsR r (bad || !(condW w).2)).1, (condsR r (bad || !(condW w).2)).2)
def condsS (rest : List (List UInt8)) (bad : Bool) : List Int × Bool := if rest = [] then ([1], true) else condsR rest bad
theorem numS_bound (w : List UInt8) : 0 ≤ (numS w).1 ∧ (numS w).1 < 1000000000 := by
  unfold numS
  split
  · rename_i h
    have h1 := numV_bound h.2.2.2
    have h2 : (10 : Int) ^ w.length ≤ 1000000000 := by
      have : ∀ k : Nat, k ≤ 9 → (10 : Int) ^ k ≤ 1000000000 := by decide
      exact this _ h.2.1
    exact ⟨h1.1, by show numV w < _; omega⟩
  · exact ⟨by decide, by decide⟩
theorem takes_ok {lo n : Int} {bad : Bool} {l rest : List (List UInt8)} (h : Wn lo n l rest) (hs : Short rest) :
    ∃ lo' n', W.circ_cursor_takes lo n bad l = some ((takesS rest bad).1, lo', n', (takesS rest bad).2.2, l, ()) ∧ Wn lo' n' l (takesS rest bad).2.1 := by
  simp only [W.circ_cursor_takes, h.part]
  cases rest with
  | nil =>
    rw [br_true (by simp)]
    exact ⟨lo, n, rfl, h⟩
  | cons w r =>
    have hp := h.pos
    rw [br_false (by simp; omega), okIf_true (by simpa using hp), bnd_val, h.idx, bnd_val, number_ok w (hs w (by simp)), bnd_val, okIf_true (by simp; omega), bnd_val]
    have h6 : W.circ_cursor_takes.c6 (numS w).2 bad some = some (bad || !(numS w).2) := by
      simp only [W.circ_cursor_takes.c6, br_or]
    rw [h6]
    exact ⟨lo + 1, n - 1, rfl, h.tail⟩
theorem meets_ok {lo n : Int} {bad : Bool} {l rest : List (List UInt8)} (w : List UInt8) (h : Wn lo n l rest) :
    ∃ lo' n', W.circ_cursor_meets w lo n bad l = some ((meetsS w rest).1, lo', n', bad, l, ()) ∧ Wn lo' n' l (meetsS w rest).2 := by
  cases rest with
  | nil =>
    have h1 : W.circ_cursor_meets.c1 w lo n l some = some false := by
      simp only [W.circ_cursor_meets.c1, h.part]
      rw [br_false (by simp)]
    simp only [W.circ_cursor_meets, h1, bnd_val]
    exact ⟨lo, n, rfl, h⟩
  | cons x r =>
    have hp := h.pos
    have h1 : W.circ_cursor_meets.c1 w lo n l some = some (decide (x = w)) := by
      simp only [W.circ_cursor_meets.c1, h.part]
      rw [br_true (by simp), okIf_true (by simpa using hp), bnd_val, h.idx, bnd_val]
      exact some_dec (by simp)
    simp only [W.circ_cursor_meets, h1, bnd_val, meetsS]
    by_cases hx : x = w
    · rw [br_pos hx, if_pos hx, okIf_true (by simp; omega), bnd_val]
      exact ⟨lo + 1, n - 1, rfl, h.tail⟩
    · rw [br_neg hx, if_neg hx]
      exact ⟨lo, n, rfl, h⟩
theorem moreS_len : ∀ r : List (List UInt8), (moreS r).1.length ≤ r.length
  | [] => Nat.le_refl _
  | w :: r => by
    unfold moreS
    split
    · have := moreS_len r; simp; omega
    · simp
theorem more_ok {l : List (List UInt8)} : ∀ (rest : List (List UInt8)) {lo n : Int} {ns : List Int}, Wn lo n l rest → Short rest → ns.length + rest.length ≤ 1000000000 →
    ∃ lo' n', iter (fun s : List Int × Int × Int ↦ W.circ_cursor_many.c100002 s.1 s.2.1 s.2.2 l some) (ns, lo, n) = some (ns ++ (moreS rest).1, lo', n') ∧ Wn lo' n' l (moreS rest).2
  | [], lo, n, ns, h, _, _ => by
    refine ⟨lo, n, ?_, h⟩
    apply iter_inr
    simp only [W.circ_cursor_many.c100002, h.part]
    rw [br_false (by simp)]
    simp [moreS]
  | w :: r, lo, n, ns, h, hs, hl => by
    have hp := h.pos
    simp only [List.length_cons] at hl
    have h0 : W.circ_cursor_many.c100002 ns lo n l some = if (numS w).2 = true then some (.inl (ns ++ [(numS w).1], lo + 1, n - 1)) else some (.inr (ns, lo, n)) := by
      simp only [W.circ_cursor_many.c100002, h.part]
      rw [br_true (by simp), okIf_true (by simpa using hp), bnd_val, h.idx, bnd_val, number_ok w (hs w (by simp)), bnd_val]
      by_cases hn : (numS w).2 = true
      · rw [br_false (by simp [hn]), if_pos hn]
        simp only [W.circ_cursor_many.c5]
        rw [okIf_true (by simp; omega), bnd_val, okIf_true (by simp; omega), bnd_val, bnd_val]
      · rw [br_true (by simpa using hn), if_neg hn]
    by_cases hn : (numS w).2 = true
    · rw [if_pos hn] at h0
      obtain ⟨lo', n', h1, h2⟩ := more_ok r (ns := ns ++ [(numS w).1]) h.tail (fun x hx => hs x (List.mem_cons_of_mem _ hx)) (by simp; omega)
      refine ⟨lo', n', ?_, by rw [moreS, if_pos hn]; exact h2⟩
      rw [iter_inl h0 h1, moreS, if_pos hn]
      simp
    · rw [if_neg hn] at h0
      refine ⟨lo, n, ?_, by rw [moreS, if_neg hn]; exact h⟩
      rw [iter_inr h0, moreS, if_neg hn]
      simp
theorem takesS_rest (rest : List (List UInt8)) (bad : Bool) : (takesS rest bad).2.1 = rest.tail := by cases rest <;> rfl
theorem short_tail {l : List (List UInt8)} (h : Short l) : Short l.tail := fun w hw => h w (List.mem_of_mem_tail hw)
theorem many_ok {lo n : Int} {bad : Bool} {l rest : List (List UInt8)} (h : Wn lo n l rest) (hs : Short rest) (hl : rest.length ≤ 100000000) :
    ∃ lo' n', W.circ_cursor_many lo n bad l = some ((manyS rest bad).1, lo', n', (manyS rest bad).2.2, l, ()) ∧ Wn lo' n' l (manyS rest bad).2.1 := by
  obtain ⟨lo1, n1, h1, h2⟩ := takes_ok (bad := bad) h hs
  simp only [W.circ_cursor_many, h1, bnd_val]
  have e := takesS_rest rest bad
  obtain ⟨lo2, n2, h3, h4⟩ := more_ok (takesS rest bad).2.1 (ns := [(takesS rest bad).1]) h2 (by rw [e]; exact short_tail hs) (by rw [e]; simp; omega)
  refine ⟨lo2, n2, ?_, h4⟩
  show bnd (iter (fun s : List Int × Int × Int ↦ W.circ_cursor_many.c100002 s.1 s.2.1 s.2.2 l some) ([(takesS rest bad).1], lo1, n1)) _ = _
  rw [h3]
  rfl
theorem prefix_ok (w : List UInt8) (hw : w.length ≤ 100000000) : W.strings_HasPrefix w [33] = some (decide (w.head? = some 33)) := by
  have h1 : W.stringslite_HasPrefix.c1 w [33] some = some (decide (w.head? = some 33)) := by
    simp only [W.stringslite_HasPrefix.c1]
    cases w with
    | nil => rw [br_false (by simp)]; rfl
    | cons b w =>
      rw [br_true (by simp; omega), okIf_true (by simp; omega), bnd_val]
      exact some_dec (by simp)
  simp only [W.strings_HasPrefix, W.stringslite_HasPrefix, h1, bnd_val]
/-- One condition. -/
theorem cond_step {lo n : Int} {bad first : Bool} {l r : List (List UInt8)} {w : List UInt8} {ns : List Int} (h : Wn lo n l (w :: r)) (hs : Short (w :: r)) (hl : ns.length ≤ 1000000000) :
    ∃ l', W.circ_cursor_conditions.c100003 first ns lo n bad l some = some (.inl (false, ns ++ [(condW w).1], lo + 1, n - 1, bad || !(condW w).2, l')) ∧ Wn (lo + 1) (n - 1) l' r := by
  have hp := h.pos
  have hw : w.length ≤ 100000000 := hs w (by simp)
  have h3 : W.circ_cursor_conditions.c3 first lo n l some = some true := by
    simp only [W.circ_cursor_conditions.c3, h.part, br_or]
    simp
  have h5 : W.circ_cursor_conditions.c5 lo n l some = some (decide (w.head? = some 33)) := by
    simp only [W.circ_cursor_conditions.c5, h.part]
    rw [br_true (by simp), okIf_true (by simpa using hp), bnd_val, h.idx, bnd_val]
    rw [prefix_ok w hw]
    rfl
  simp only [W.circ_cursor_conditions.c100003, h3, bnd_val, br_tt, h5]
  by_cases hb : w.head? = some 33
  · obtain ⟨v, rfl⟩ : ∃ v, w = 33 :: v := by
      cases w with
      | nil => simp at hb
      | cons b v => simp at hb; exact ⟨v, by rw [hb]⟩
    have h7 : W.circ_cursor_conditions.c224581 true lo n l some = some (l.set (lo + 0).toNat v) := by
      simp only [W.circ_cursor_conditions.c224581, br_tt, W.circ_cursor_conditions.c7]
      rw [okIf_true (by simpa using hp), bnd_val, h.idx, bnd_val, okIf_true (by simp; omega), bnd_val, bnd_val]
      simp [bnd_val]
    have hset := h.set v
    have hv : v.length ≤ 100000000 := by simp at hw; omega
    obtain ⟨lo', n', h8, h9⟩ := takes_ok (bad := bad) hset (fun x hx => by
      rcases List.mem_cons.1 hx with rfl | hx
      · exact hv
      · exact hs x (List.mem_cons_of_mem _ hx))
    have h10 : W.circ_cursor_takes lo n bad (l.set (lo + 0).toNat v) = some ((numS v).1, lo + 1, n - 1, bad || !(numS v).2, l.set (lo + 0).toNat v, ()) := by
      have hp' := hset.pos
      simp only [W.circ_cursor_takes, hset.part]
      rw [br_false (by simp; omega), okIf_true (by simpa using hp'), bnd_val, hset.idx, bnd_val, number_ok v hv, bnd_val, okIf_true (by simp; omega), bnd_val]
      simp only [W.circ_cursor_takes.c6, br_or, bnd_val]
    have hn := numS_bound v
    simp only [hb, decide_true, h7, bnd_val, h10]
    have h36 : W.circ_cursor_conditions.c236869 true (IntKind.wrap IntKind.i64 ((numS v).1 + 1)) some = some (-((numS v).1 + 1)) := by
      simp only [W.circ_cursor_conditions.c236869, br_tt]
      rw [wrap_i64 (x := (numS v).1 + 1) (by omega), wrap_i64 (by omega)]
      congr 1; omega
    rw [h36, bnd_val, okIf_true (by simp; omega), bnd_val]
    exact ⟨_, by simp [condW], hset.tail⟩
  · have h7 : W.circ_cursor_conditions.c224581 false lo n l some = some l := by
      simp only [W.circ_cursor_conditions.c224581, br_ff]
    have h10 : W.circ_cursor_takes lo n bad l = some ((numS w).1, lo + 1, n - 1, bad || !(numS w).2, l, ()) := by
      simp only [W.circ_cursor_takes, h.part]
      rw [br_false (by simp; omega), okIf_true (by simpa using hp), bnd_val, h.idx, bnd_val, number_ok w hw, bnd_val, okIf_true (by simp; omega), bnd_val]
      simp only [W.circ_cursor_takes.c6, br_or, bnd_val]
    have hn := numS_bound w
    simp only [hb, decide_false, h7, bnd_val, h10]
    have h36 : W.circ_cursor_conditions.c236869 false (IntKind.wrap IntKind.i64 ((numS w).1 + 1)) some = some ((numS w).1 + 1) := by
      simp only [W.circ_cursor_conditions.c236869, br_ff]
      rw [wrap_i64 (by omega)]
    rw [h36, bnd_val, okIf_true (by simp; omega), bnd_val]
    exact ⟨l, by simp [condW, hb], h.tail⟩
theorem conds_loop : ∀ (rest : List (List UInt8)) {lo n : Int} {bad : Bool} {l : List (List UInt8)} {ns : List Int}, Wn lo n l rest → Short rest → ns.length + rest.length ≤ 1000000000 →
    ∃ lo' n' l', iter (fun s : Bool × List Int × Int × Int × Bool × List (List UInt8) ↦ W.circ_cursor_conditions.c100003 s.1 s.2.1 s.2.2.1 s.2.2.2.1 s.2.2.2.2.1 s.2.2.2.2.2 some) (false, ns, lo, n, bad, l) = some (false, ns ++ (condsR rest bad).1, lo', n', (condsR rest bad).2, l') ∧ Wn lo' n' l' []
  | [], lo, n, bad, l, ns, h, _, _ => by
    refine ⟨lo, n, l, ?_, h⟩
    apply iter_inr
    have h3 : W.circ_cursor_conditions.c3 false lo n l some = some false := by
      simp only [W.circ_cursor_conditions.c3, h.part, br_ff]
      rfl
    simp only [W.circ_cursor_conditions.c100003, h3, bnd_val, br_ff]
    simp [condsR]
  | w :: r, lo, n, bad, l, ns, h, hs, hl => by
    simp only [List.length_cons] at hl
    obtain ⟨l', h1, h2⟩ := cond_step (bad := bad) (first := false) (ns := ns) h hs (by omega)
    obtain ⟨lo', n', l'', h3, h4⟩ := conds_loop r (bad := bad || !(condW w).2) (ns := ns ++ [(condW w).1]) h2 (fun x hx => hs x (List.mem_cons_of_mem _ hx)) (by simp; omega)
    refine ⟨lo', n', l'', ?_, h4⟩
    rw [iter_inl h1 h3]
    simp [condsR]
theorem conds_ok {lo n : Int} {bad : Bool} {l rest : List (List UInt8)} (h : Wn lo n l rest) (hs : Short rest) (hl : rest.length ≤ 100000000) :
    ∃ lo' n' l', W.circ_cursor_conditions lo n bad l = some ((condsS rest bad).1, lo', n', (condsS rest bad).2, l', ()) ∧ Wn lo' n' l' [] := by
  cases rest with
  | nil =>
    have h0 : W.circ_cursor_conditions.c100003 true [] lo n bad l some = some (.inl (false, [1], lo, n, true, l)) := by
      have h5 : W.circ_cursor_conditions.c5 lo n l some = some false := by
        simp only [W.circ_cursor_conditions.c5, h.part]
        rw [br_false (by simp)]
      have h10 : W.circ_cursor_takes lo n bad l = some (0, lo, n, true, l, ()) := by
        simp only [W.circ_cursor_takes, h.part]
        rw [br_true (by simp)]
      simp only [W.circ_cursor_conditions.c100003, W.circ_cursor_conditions.c3, br_tt, bnd_val, h5, W.circ_cursor_conditions.c224581, br_ff, h10, W.circ_cursor_conditions.c236869]
      rw [wrap_i64 (by decide), okIf_true (by simp), bnd_val]
      rfl
    obtain ⟨lo', n', l', h1, h2⟩ := conds_loop [] (bad := true) (ns := [1]) h (fun _ h => by cases h) (by simp)
    refine ⟨lo', n', l', ?_, h2⟩
    show bnd (iter (fun s : Bool × List Int × Int × Int × Bool × List (List UInt8) ↦ W.circ_cursor_conditions.c100003 s.1 s.2.1 s.2.2.1 s.2.2.2.1 s.2.2.2.2.1 s.2.2.2.2.2 some) (true, [], lo, n, bad, l)) _ = _
    rw [iter_inl (f := (fun s : Bool × List Int × Int × Int × Bool × List (List UInt8) ↦ W.circ_cursor_conditions.c100003 s.1 s.2.1 s.2.2.1 s.2.2.2.1 s.2.2.2.2.1 s.2.2.2.2.2 some)) (s := (true, [], lo, n, bad, l)) h0 h1]
    simp [condsS, condsR, bnd_val]
  | cons w r =>
    simp only [List.length_cons] at hl
    obtain ⟨l1, h0, h0'⟩ := cond_step (bad := bad) (first := true) (ns := []) h hs (by simp)
    obtain ⟨lo', n', l', h1, h2⟩ := conds_loop r (bad := bad || !(condW w).2) (ns := [] ++ [(condW w).1]) h0' (fun x hx => hs x (List.mem_cons_of_mem _ hx)) (by simp; omega)
    refine ⟨lo', n', l', ?_, h2⟩
    show bnd (iter (fun s : Bool × List Int × Int × Int × Bool × List (List UInt8) ↦ W.circ_cursor_conditions.c100003 s.1 s.2.1 s.2.2.1 s.2.2.2.1 s.2.2.2.2.1 s.2.2.2.2.2 some) (true, [], lo, n, bad, l)) _ = _
    rw [iter_inl (f := (fun s : Bool × List Int × Int × Int × Bool × List (List UInt8) ↦ W.circ_cursor_conditions.c100003 s.1 s.2.1 s.2.2.1 s.2.2.2.1 s.2.2.2.2.1 s.2.2.2.2.2 some)) (s := (true, [], lo, n, bad, l)) h0 h1]
    simp [condsS, condsR, bnd_val]
end Go.Ql
end

section
namespace Go.Ql
def kindS (w : List UInt8) : Int := if w = word 1 then 1 else if w = word 2 then 2 else if w = word 3 then 3 else if w = word 4 then 4 else if w = word 5 then 5 else if w = word 6 then 6 else 0
theorem kindOf_ok (w : List UInt8) : W.circ_kindOf w = some (kindS w) := by
  have key : ∃ r, iter (fun s : Int ↦ W.circ_kindOf.c100002 w s some) (1 : Int) = some r ∧ ((∃ u, r = .inl (kindS w, u)) ∨ ∃ u, r = .inr u ∧ kindS w = 0) := by
    refine iter_upto 6 (fun i s => s = ((i + 1 : Nat) : Int) ∧ ∀ k : Nat, 1 ≤ k → k ≤ i → w ≠ word k) _ ?_ ?_ ⟨rfl, fun k h1 h2 => by omega⟩
    · rintro i s hi ⟨rfl, h⟩
      simp only [W.circ_kindOf.c100002, word_ok, bnd_val]
      rw [br_pos (by omega)]
      by_cases hw : w = word ((i + 1 : Nat) : Int)
      · rw [br_true (by simp [hw])]
        refine .inr ⟨_, rfl, .inl ⟨((i + 1 : Nat) : Int), ?_⟩⟩
        have hk : kindS w = ((i + 1 : Nat) : Int) := by
          have : i = 0 ∨ i = 1 ∨ i = 2 ∨ i = 3 ∨ i = 4 ∨ i = 5 := by omega
          rcases this with rfl | rfl | rfl | rfl | rfl | rfl <;> rw [hw] <;> decide
        rw [hk]
      · rw [br_false (by simp; exact fun e => hw e.symm), wrap_i64 (by omega)]
        refine .inl ⟨_, rfl, by omega, fun k h1 h2 => ?_⟩
        by_cases hk : k = i + 1
        · subst hk; exact hw
        · exact h k h1 (by omega)
    · rintro s ⟨rfl, h⟩
      simp only [W.circ_kindOf.c100002]
      rw [br_neg (by omega)]
      refine ⟨_, rfl, .inr ⟨_, rfl, ?_⟩⟩
      have h1 := h 1 (by omega) (by omega); have h2 := h 2 (by omega) (by omega); have h3 := h 3 (by omega) (by omega)
      have h4 := h 4 (by omega) (by omega); have h5 := h 5 (by omega) (by omega); have h6 := h 6 (by omega) (by omega)
      unfold kindS
      rw [if_neg (show w ≠ word 1 from h1), if_neg (show w ≠ word 2 from h2), if_neg (show w ≠ word 3 from h3), if_neg (show w ≠ word 4 from h4), if_neg (show w ≠ word 5 from h5), if_neg (show w ≠ word 6 from h6)]
  obtain ⟨r, hr, h⟩ := key
  simp only [W.circ_kindOf, hr, bnd_val]
  rcases h with ⟨u, rfl⟩ | ⟨u, rfl, h⟩
  · rw [sel_inl]
  · rw [sel_inr, h]
abbrev wOn : List UInt8 := [111, 110]
abbrev wTo : List UInt8 := [116, 111]
abbrev wIf : List UInt8 := [105, 102]
abbrev Cu := Int × List (List UInt8) × Bool
def stK (k : Int) (r : List (List UInt8)) : Cu := if k = 1 ∨ k = 4 then takesS r false else (0, r, false)
def stQ (k : Int) (r : List (List UInt8)) (bad : Bool) : Cu := if k ≠ 1 then takesS r bad else (0, r, bad)
def stG (k : Int) (r : List (List UInt8)) : Bool × List (List UInt8) := if k = 2 ∨ k = 3 ∨ k = 4 then meetsS wOn r else (false, r)
def stC (k : Int) (r : List (List UInt8)) (bad : Bool) : List Int × List (List UInt8) × Bool := if (stG k r).1 = true then manyS (stG k r).2 bad else ([], (stG k r).2, bad)
def stB (k : Int) (r : List (List UInt8)) (bad : Bool) : Cu := if k = 5 then takesS (meetsS wTo r).2 (!(meetsS wTo r).1 || bad) else (0, r, bad)
def stF (r : List (List UInt8)) (bad : Bool) : List Int × List (List UInt8) × Bool := if (meetsS wIf r).1 = true then ((condsS (meetsS wIf r).2 bad).1, [], (condsS (meetsS wIf r).2 bad).2) else ([], (meetsS wIf r).2, bad)
def opR (k : Int) (r : List (List UInt8)) : Op × Bool :=
  let a := stK k r
  let q := stQ k a.2.1 a.2.2
  let c := stC k q.2.1 q.2.2
  let b := stB k c.2.1 c.2.2
  let f := stF b.2.1 b.2.2
  ((k, a.1, c.1, q.1, b.1, f.1), !f.2.2 && decide (f.2.1 = []))
def opW : List (List UInt8) → Op × Bool
  | [] => ((0, 0, [], 0, 0, []), false)
  | w :: r => if kindS w = 0 then ((0, 0, [], 0, 0, []), false) else opR (kindS w) r
/-- Words of a text, all of them readable, no more than so many. -/
structure Ws (l : List (List UInt8)) : Prop where
  short : Short l
  few : l.length ≤ 100000000
theorem Ws.tail {l : List (List UInt8)} (h : Ws l) : Ws l.tail := ⟨short_tail h.short, by have := h.few; simp; omega⟩
theorem Ws.takes {l : List (List UInt8)} (h : Ws l) (bad : Bool) : Ws (takesS l bad).2.1 := by rw [takesS_rest]; exact h.tail
theorem Ws.meets {l : List (List UInt8)} (h : Ws l) (w : List UInt8) : Ws (meetsS w l).2 := by
  cases l with
  | nil => exact h
  | cons x r =>
    by_cases hx : x = w
    · simp only [meetsS, if_pos hx]; exact h.tail
    · simp only [meetsS, if_neg hx]; exact h
theorem Ws.more : ∀ {l : List (List UInt8)}, Ws l → Ws (moreS l).2
  | [], h => h
  | w :: r, h => by
    unfold moreS
    split
    · exact Ws.more h.tail
    · exact h
theorem Ws.many {l : List (List UInt8)} (h : Ws l) (bad : Bool) : Ws (manyS l bad).2.1 := (h.takes bad).more
theorem cut_ws (c : UInt8) (l : List UInt8) (h : l.length ≤ 10000000) : Ws (cut c l) := by
  refine ⟨?_, by rw [cut_len]; have := count_le c l; omega⟩
  have key : ∀ l : List UInt8, ∀ w ∈ cut c l, w.length ≤ l.length := by
    intro l
    induction l with
    | nil => intro w hw; simp [cut] at hw; subst hw; exact Nat.le_refl _
    | cons b l ih =>
      intro w hw
      unfold cut at hw
      split at hw
      · rcases List.mem_cons.1 hw with rfl | hw
        · exact Nat.zero_le _
        · have := ih w hw; simp; omega
      · split at hw
        · simp at hw; subst hw; simp
        · rename_i v vs he
          rw [he] at ih
          rcases List.mem_cons.1 hw with rfl | hw
          · have := ih v (by simp); simpa using this
          · have := ih w (List.mem_cons_of_mem _ hw); simp; omega
  intro w hw
  have := key l w hw
  omega
section
variable {lo n k : Int} {bad : Bool} {l r : List (List UInt8)}
theorem stK_ok (h : Wn lo n l r) (hs : Ws r) : ∃ lo' n', W.circ_operation.c224581 lo n false k 0 l some = some (lo', n', (stK k r).2.2, (stK k r).1, l) ∧ Wn lo' n' l (stK k r).2.1 ∧ Ws (stK k r).2.1 := by
  simp only [W.circ_operation.c224581, turns_ok, bnd_val, stK]
  by_cases hk : k = 1 ∨ k = 4
  · obtain ⟨lo, n, h1, h2⟩ := takes_ok (bad := false) h hs.short
    rw [br_pos hk, if_pos hk, h1]
    exact ⟨lo, n, rfl, h2, hs.takes _⟩
  · rw [br_neg hk, if_neg hk]
    exact ⟨_, _, rfl, h, hs⟩
theorem stQ_ok (h : Wn lo n l r) (hs : Ws r) : ∃ lo' n', W.circ_operation.c232773 lo n bad k 0 l some = some (lo', n', (stQ k r bad).2.2, (stQ k r bad).1, l) ∧ Wn lo' n' l (stQ k r bad).2.1 ∧ Ws (stQ k r bad).2.1 := by
  simp only [W.circ_operation.c232773, stQ]
  by_cases hk : k ≠ 1
  · obtain ⟨lo, n, h1, h2⟩ := takes_ok (bad := bad) h hs.short
    rw [br_true (by simpa using hk), if_pos hk, h1]
    exact ⟨lo, n, rfl, h2, hs.takes _⟩
  · rw [br_false (by simpa using hk), if_neg hk]
    exact ⟨_, _, rfl, h, hs⟩
theorem stG_ok (h : Wn lo n l r) (hs : Ws r) : ∃ lo' n', W.circ_operation.c10 lo n bad k l some = some ((stG k r).1, lo', n', bad, l) ∧ Wn lo' n' l (stG k r).2 ∧ Ws (stG k r).2 := by
  simp only [W.circ_operation.c10, gate_ok, bnd_val, stG]
  by_cases hk : k = 2 ∨ k = 3 ∨ k = 4
  · obtain ⟨lo, n, h1, h2⟩ := meets_ok (bad := bad) wOn h
    rw [br_pos hk, if_pos hk]
    refine ⟨lo, n, ?_, h2, hs.meets _⟩
    show bnd (W.circ_cursor_meets wOn _ _ _ _) _ = _
    rw [h1]
    rfl
  · rw [br_neg hk, if_neg hk]
    exact ⟨_, _, rfl, h, hs⟩
theorem stC_ok (h : Wn lo n l r) (hs : Ws r) : ∃ lo' n', W.circ_operation.c240965 lo n bad k [] l some = some (lo', n', (stC k r bad).2.2, (stC k r bad).1, l) ∧ Wn lo' n' l (stC k r bad).2.1 ∧ Ws (stC k r bad).2.1 := by
  obtain ⟨lo1, n1, h1, h2, h3⟩ := stG_ok (k := k) (bad := bad) h hs
  simp only [W.circ_operation.c240965, h1, bnd_val, stC]
  by_cases hk : (stG k r).1 = true
  · obtain ⟨lo, n, h4, h5⟩ := many_ok (bad := bad) h2 h3.short h3.few
    rw [br_true hk, if_pos hk, h4]
    exact ⟨lo, n, rfl, h5, h3.many _⟩
  · rw [br_false (by simpa using hk), if_neg hk]
    exact ⟨_, _, rfl, h2, h3⟩
theorem stB_ok (h : Wn lo n l r) (hs : Ws r) : ∃ lo' n', W.circ_operation.c249159 lo n bad k 0 l some = some (lo', n', (stB k r bad).2.2, (stB k r bad).1, l) ∧ Wn lo' n' l (stB k r bad).2.1 ∧ Ws (stB k r bad).2.1 := by
  simp only [W.circ_operation.c249159, stB]
  by_cases hk : k = 5
  · obtain ⟨lo1, n1, h1, h2⟩ := meets_ok (bad := bad) wTo h
    have h13 : W.circ_operation.c13 lo n bad l some = some (lo1, n1, !(meetsS wTo r).1 || bad, l) := by
      simp only [W.circ_operation.c13]
      show bnd (W.circ_cursor_meets wTo _ _ _ _) _ = _
      rw [h1, bnd_val]
      cases (meetsS wTo r).1 <;> rfl
    obtain ⟨lo2, n2, h3, h4⟩ := takes_ok (bad := !(meetsS wTo r).1 || bad) h2 (hs.meets _).short
    rw [br_true (by simpa using hk), if_pos hk, h13]
    simp only [bnd_val, h3]
    exact ⟨lo2, n2, rfl, h4, (hs.meets _).takes _⟩
  · rw [br_false (by simpa using hk), if_neg hk]
    exact ⟨_, _, rfl, h, hs⟩
theorem stF_ok (h : Wn lo n l r) (hs : Ws r) : ∃ lo' n' l', W.circ_operation.c261445 lo n bad [] l some = some (lo', n', (stF r bad).2.2, (stF r bad).1, l') ∧ Wn lo' n' l' (stF r bad).2.1 := by
  obtain ⟨lo1, n1, h1, h2⟩ := meets_ok (bad := bad) wIf h
  simp only [W.circ_operation.c261445, stF]
  have e : ∀ k : _ → Option (Int × Int × Bool × List Int × List (List UInt8)), bnd (W.circ_cursor_meets wIf lo n bad l) k = k ((meetsS wIf r).1, lo1, n1, bad, l, ()) := fun k => by rw [h1]; rfl
  refine Exists.imp (fun lo' => Exists.imp fun n' => Exists.imp fun l' => And.imp (fun q => (e _).trans q) id) ?_
  by_cases hk : (meetsS wIf r).1 = true
  · obtain ⟨lo2, n2, l2, h3, h4⟩ := conds_ok (bad := bad) h2 (hs.meets _).short (hs.meets _).few
    rw [if_pos hk]
    refine ⟨lo2, n2, l2, ?_, h4⟩
    rw [br_true hk]
    simp only [h3, bnd_val]
  · rw [if_neg hk]
    refine ⟨lo1, n1, l, ?_, h2⟩
    rw [br_false (by simpa using hk)]
end
theorem operation_ok (text : List UInt8) (ht : text.length ≤ 10000000) : W.circ_operation text = some (opW (cut 32 text)) := by
  have hws := cut_ws 32 text ht
  simp only [W.circ_operation, split_ok text 32 (by omega), bnd_val]
  match hc : cut 32 text, cut_ne 32 text with
  | w :: r, _ =>
  rw [hc] at hws
  have hidx : idx (w :: r) (0 : Int) = some w := rfl
  have hin : inR (w :: r).length (0 : Int) = some () := inR_of (by decide) (by simp)
  simp only [hin, hidx, bnd_val, kindOf_ok]
  rw [okIf_true (by simp; omega), bnd_val]
  by_cases hk : kindS w = 0
  · rw [br_true (by simpa using hk)]
    simp [opW, hk]
  · rw [br_false (by simpa using hk)]
    have hopw : opW (w :: r) = opR (kindS w) r := by rw [opW, if_neg hk]
    rw [hopw]
    generalize kindS w = k
    obtain ⟨lo1, n1, e1, v1, w1⟩ := stK_ok (k := k) (Wn.behind (w := w) (r := r) rfl) hws.tail
    obtain ⟨lo2, n2, e2, v2, w2⟩ := stQ_ok (k := k) (bad := (stK k r).2.2) v1 w1
    obtain ⟨lo3, n3, e3, v3, w3⟩ := stC_ok (k := k) (bad := (stQ k (stK k r).2.1 (stK k r).2.2).2.2) v2 w2
    obtain ⟨lo4, n4, e4, v4, w4⟩ := stB_ok (k := k) (bad := (stC k (stQ k (stK k r).2.1 (stK k r).2.2).2.1 (stQ k (stK k r).2.1 (stK k r).2.2).2.2).2.2) v3 w3
    obtain ⟨lo5, n5, l5, e5, v5⟩ := stF_ok (bad := (stB k (stC k (stQ k (stK k r).2.1 (stK k r).2.2).2.1 (stQ k (stK k r).2.1 (stK k r).2.2).2.2).2.1 (stC k (stQ k (stK k r).2.1 (stK k r).2.2).2.1 (stQ k (stK k r).2.1 (stK k r).2.2).2.2).2.2).2.2) v4 w4
    have h17 : ∀ b : Bool, W.circ_operation.c17 lo5 n5 b l5 some = some (!b && decide ((stF (stB k (stC k (stQ k (stK k r).2.1 (stK k r).2.2).2.1 (stQ k (stK k r).2.1 (stK k r).2.2).2.2).2.1 (stC k (stQ k (stK k r).2.1 (stK k r).2.2).2.1 (stQ k (stK k r).2.1 (stK k r).2.2).2.2).2.2).2.1 (stB k (stC k (stQ k (stK k r).2.1 (stK k r).2.2).2.1 (stQ k (stK k r).2.1 (stK k r).2.2).2.2).2.1 (stC k (stQ k (stK k r).2.1 (stK k r).2.2).2.1 (stQ k (stK k r).2.1 (stK k r).2.2).2.2).2.2).2.2).2.1 = [])) := by
      intro b
      simp only [W.circ_operation.c17, v5.part, br_and]
      congr 2
      rw [Bool.eq_iff_iff]
      simp
    simp only [e1, e2, e3, e4, e5, bnd_val, h17]
    rfl
end Go.Ql
end

section
namespace Go.Ql
abbrev wQubits : List UInt8 := [113, 117, 98, 105, 116, 115]
abbrev wBits : List UInt8 := [98, 105, 116, 115]
/-- The first line: qubits, bits, is it bad? -/
def headA (ws : List (List UInt8)) : Int × List (List UInt8) × Bool := if (meetsS wQubits ws).1 = true then takesS (meetsS wQubits ws).2 false else (0, (meetsS wQubits ws).2, true)
def headB (ws : List (List UInt8)) : Int × List (List UInt8) × Bool :=
  takesS (meetsS wBits (headA ws).2.1).2 (!(meetsS wBits (headA ws).2.1).1 || (headA ws).2.2)
def headS (ws : List (List UInt8)) : Int × Int × Bool := ((headA ws).1, (headB ws).1, (headB ws).2.2 || decide ((headB ws).2.1 ≠ []))
def bodyS : Nat → List (List UInt8) → List Op ⊕ (Int × Int)
  | _, [] => .inl []
  | i, [w] => if w = [] then .inl [] else .inr (1, (i : Int) + 1)
  | i, w :: w' :: r => if (opW (cut 32 w)).2 = true then (match bodyS (i + 1) (w' :: r) with
    | .inl ops => .inl ((opW (cut 32 w)).1 :: ops)
    | .inr f => .inr f) else .inr (1, (i : Int) + 1)
def parseL : List (List UInt8) → Cir × Int × Int
  | [] => (nix, (1, 0))
  | [_] => (nix, (1, 0))
  | h :: ls => if (headS (cut 32 h)).2.2 = true then (nix, (1, 0)) else match bodyS 0 ls with
    | .inr f => (nix, f)
    | .inl ops => if (chk ((headS (cut 32 h)).1, (headS (cut 32 h)).2.1, ops)).1 ≠ 0 then (nix, chk ((headS (cut 32 h)).1, (headS (cut 32 h)).2.1, ops)) else (((headS (cut 32 h)).1, (headS (cut 32 h)).2.1, ops), (0, 0))
def parseS (text : List UInt8) : Cir × Int × Int := if 1000000 < text.length then (nix, (2, 0)) else parseL (cut 10 text)
/-! ## Lengths -/
theorem moreS_few : ∀ r : List (List UInt8), (moreS r).1.length ≤ r.length := moreS_len
theorem many_few (r : List (List UInt8)) (bad : Bool) : (manyS r bad).1.length ≤ r.length + 1 := by
  have := moreS_few (takesS r bad).2.1
  rw [takesS_rest] at this
  simp only [manyS, List.length_cons, takesS_rest]
  simp at this ⊢
  omega
theorem condsR_few : ∀ (r : List (List UInt8)) (bad : Bool), (condsR r bad).1.length = r.length
  | [], _ => rfl
  | w :: r, bad => by simp [condsR, condsR_few r]
theorem conds_few (r : List (List UInt8)) (bad : Bool) : (condsS r bad).1.length ≤ r.length + 1 := by
  unfold condsS
  split
  · simp
  · rw [condsR_few]; omega
theorem opW_w {ws : List (List UInt8)} (h : Ws ws) : WOp (opW ws).1 := by
  cases ws with
  | nil => exact ⟨by decide, by decide⟩
  | cons w r =>
    by_cases hk0 : kindS w = 0
    · simp only [opW, if_pos hk0]; exact ⟨by decide, by decide⟩
    · simp only [opW, if_neg hk0]
      generalize kindS w = k
      have w0 : Ws r := h.tail
      have w1 : Ws (stK k r).2.1 := by unfold stK; split; exact w0.takes _; exact w0
      have w2 : ∀ b, Ws (stQ k (stK k r).2.1 b).2.1 := by intro b; unfold stQ; split; exact w1.takes _; exact w1
      have w3 : ∀ b c, Ws (stC k (stQ k (stK k r).2.1 b).2.1 c).2.1 := by
        intro b c
        have : Ws (stG k (stQ k (stK k r).2.1 b).2.1).2 := by unfold stG; split; exact (w2 b).meets _; exact w2 b
        unfold stC; split; exact this.many _; exact this
      have w4 : ∀ b c d, Ws (stB k (stC k (stQ k (stK k r).2.1 b).2.1 c).2.1 d).2.1 := by
        intro b c d
        unfold stB; split; exact ((w3 b c).meets _).takes _; exact w3 b c
      refine ⟨?_, ?_⟩
      · show (stC k (stQ k (stK k r).2.1 (stK k r).2.2).2.1 (stQ k (stK k r).2.1 (stK k r).2.2).2.2).1.length ≤ _
        have hg : Ws (stG k (stQ k (stK k r).2.1 (stK k r).2.2).2.1).2 := by unfold stG; split; exact (w2 _).meets _; exact w2 _
        unfold stC
        split
        · have := many_few (stG k (stQ k (stK k r).2.1 (stK k r).2.2).2.1).2 (stQ k (stK k r).2.1 (stK k r).2.2).2.2
          have := hg.few
          omega
        · simp
      · show (stF _ _).1.length ≤ _
        have h4 := w4 (stK k r).2.2 (stQ k (stK k r).2.1 (stK k r).2.2).2.2 (stC k (stQ k (stK k r).2.1 (stK k r).2.2).2.1 (stQ k (stK k r).2.1 (stK k r).2.2).2.2).2.2
        generalize (stB k (stC k (stQ k (stK k r).2.1 (stK k r).2.2).2.1 (stQ k (stK k r).2.1 (stK k r).2.2).2.2).2.1 (stC k (stQ k (stK k r).2.1 (stK k r).2.2).2.1 (stQ k (stK k r).2.1 (stK k r).2.2).2.2).2.2) = B at *
        unfold stF
        split
        · have := conds_few (meetsS wIf B.2.1).2 B.2.2
          have := (h4.meets wIf).few
          show (condsS (meetsS wIf B.2.1).2 B.2.2).1.length ≤ _
          omega
        · simp
theorem headA_ok (ws : List (List UInt8)) (hs : Ws ws) : ∃ lo n, W.circ_Parse.c224581 false 0 ws some = some (lo, n, (headA ws).2.2, (headA ws).1, ws) ∧ Wn lo n ws (headA ws).2.1 ∧ Ws (headA ws).2.1 := by
  obtain ⟨lo1, n1, h1, h2⟩ := meets_ok (bad := false) wQubits (Wn.whole ws)
  have e : ∀ k : _ → Option (Int × Int × Bool × Int × List (List UInt8)), bnd (W.circ_cursor_meets wQubits 0 (ws.length : Int) false ws) k = k ((meetsS wQubits ws).1, lo1, n1, false, ws, ()) := fun k => by rw [h1]; rfl
  simp only [W.circ_Parse.c224581, headA]
  refine Exists.imp (fun lo' => Exists.imp fun n' => And.imp (fun q => (e _).trans q) id) ?_
  by_cases hk : (meetsS wQubits ws).1 = true
  · obtain ⟨lo2, n2, h3, h4⟩ := takes_ok (bad := false) h2 (hs.meets _).short
    rw [if_pos hk]
    refine ⟨lo2, n2, ?_, h4, (hs.meets _).takes _⟩
    rw [br_true hk]
    simp only [h3, bnd_val]
  · rw [if_neg hk]
    refine ⟨lo1, n1, ?_, h2, hs.meets _⟩
    rw [br_false (by simpa using hk)]
theorem body_loop (pre : List (List UInt8)) (head : List UInt8) : ∀ (ls done : List (List UInt8)) (ops : List Op), pre = done ++ ls → (∀ w ∈ pre, w.length ≤ 10000000) → pre.length ≤ 10000000 → ops.length = done.length → ls ≠ [] →
    ∃ r, iter (fun s : Int × List Op ↦ W.circ_Parse.c100014 (head :: pre) pre (pre.length : Int) s.1 s.2 some) ((done.length : Int), ops) = some r ∧
      match bodyS done.length ls with
      | .inl os => ∃ u, r = .inl (u, ops ++ os) ∧ pre.getLast? = some []
      | .inr f => (∃ u t, r = .inr (u, f.1, f.2, t)) ∨ (f = (1, (pre.length : Int)) ∧ ∃ u, r = .inl u ∧ ∃ w, pre.getLast? = some w ∧ w ≠ []) := by
  intro ls
  induction ls with
  | nil => intro done ops _ _ _ _ h; exact absurd rfl h
  | cons w r ih =>
    intro done ops hp hw hl ho _
    have hlen : done.length < pre.length := by rw [hp]; simp
    have hidx : idx pre (done.length : Int) = some w := by rw [hp]; exact idx_mid
    have hwl := hw w (by rw [hp]; simp)
    have h16 : W.circ_Parse.c16 (head :: pre) (done.length : Int) w some = some (decide (w = [] ∧ r = [])) := by
      simp only [W.circ_Parse.c16, br_and]
      rw [wrap_i64 (by simp; omega)]
      refine some_dec ?_
      have : ((done.length : Int) == ((head :: pre).length : Int) - 2) = decide (r = []) := by
        rw [Bool.eq_iff_iff]
        simp only [beq_iff_eq, List.length_cons, hp, List.length_append, decide_eq_true_eq]
        constructor
        · intro h; exact List.eq_nil_of_length_eq_zero (by omega)
        · intro h; rw [h]; simp; omega
      rw [this]
      simp
    have hstep : W.circ_Parse.c100014 (head :: pre) pre (pre.length : Int) (done.length : Int) ops some =
        if w = [] ∧ r = [] then some (.inr (.inl ((done.length : Int), ops))) else if (opW (cut 32 w)).2 = true then some (.inl ((done.length : Int) + 1, ops ++ [(opW (cut 32 w)).1])) else some (.inr (.inr ((done.length : Int), 1, (done.length : Int) + 1, ops))) := by
      simp only [W.circ_Parse.c100014]
      rw [br_pos (by omega), hidx, bnd_val, h16, bnd_val]
      by_cases h1 : w = [] ∧ r = []
      · rw [br_pos h1, if_pos h1]
      · rw [br_neg h1, if_neg h1, operation_ok w hwl, bnd_val]
        by_cases h2 : (opW (cut 32 w)).2 = true
        · rw [br_false (by simp [h2]), if_pos h2, okIf_true (by simp; omega), bnd_val, wrap_i64 (by omega)]
        · rw [br_true (by simpa using h2), if_neg h2, wrap_i64 (by omega)]
          simp only [fault_ok, bnd_val]
    cases r with
    | nil =>
      have hlast : pre.getLast? = some w := by rw [hp]; simp
      have hpl : (pre.length : Int) = (done.length : Int) + 1 := by rw [hp]; simp
      by_cases h1 : w = []
      · rw [if_pos ⟨h1, rfl⟩] at hstep
        refine ⟨_, iter_inr hstep, ?_⟩
        simp only [bodyS, if_pos h1]
        exact ⟨(done.length : Int), by simp, by rw [hlast, h1]⟩
      · rw [if_neg (fun h => h1 h.1)] at hstep
        by_cases h2 : (opW (cut 32 w)).2 = true
        · rw [if_pos h2] at hstep
          have hend : W.circ_Parse.c100014 (head :: pre) pre (pre.length : Int) ((done.length : Int) + 1) (ops ++ [(opW (cut 32 w)).1]) some = some (.inr (.inl ((done.length : Int) + 1, ops ++ [(opW (cut 32 w)).1]))) := by
            simp only [W.circ_Parse.c100014]
            rw [br_neg (by omega)]
          refine ⟨_, iter_inl hstep (iter_inr hend), ?_⟩
          simp only [bodyS, if_neg h1]
          exact .inr ⟨by rw [hpl], _, rfl, w, hlast, h1⟩
        · rw [if_neg h2] at hstep
          refine ⟨_, iter_inr hstep, ?_⟩
          simp only [bodyS, if_neg h1]
          exact .inl ⟨_, _, rfl⟩
    | cons w' r =>
      rw [if_neg (fun h => by cases h.2)] at hstep
      by_cases h2 : (opW (cut 32 w)).2 = true
      · rw [if_pos h2] at hstep
        obtain ⟨q, h3, h4⟩ := ih (done ++ [w]) (ops ++ [(opW (cut 32 w)).1]) (by rw [hp]; simp) hw hl (by simp [ho]) (by simp)
        have e : ((done ++ [w]).length : Int) = (done.length : Int) + 1 := by simp
        rw [e] at h3
        refine ⟨q, iter_inl hstep h3, ?_⟩
        have e2 : (done ++ [w]).length = done.length + 1 := by simp
        rw [e2] at h4
        simp only [bodyS, if_pos h2]
        cases hb : bodyS (done.length + 1) (w' :: r) with
        | inl os =>
          rw [hb] at h4
          obtain ⟨u, h5, h6⟩ := h4
          exact ⟨u, by rw [h5]; simp, h6⟩
        | inr f =>
          rw [hb] at h4
          exact h4
      · rw [if_neg h2] at hstep
        refine ⟨_, iter_inr hstep, ?_⟩
        simp only [bodyS, if_neg h2]
        exact .inl ⟨_, _, rfl⟩
theorem body_w : ∀ (ls : List (List UInt8)) (i : Nat) {ops : List Op}, (∀ w ∈ ls, w.length ≤ 10000000) → bodyS i ls = .inl ops → ops.length ≤ ls.length ∧ ∀ o ∈ ops, WOp o
  | [], _, ops, _, h => by simp only [bodyS] at h; cases h; exact ⟨Nat.le_refl _, fun _ h => by cases h⟩
  | [w], i, ops, _, h => by
    simp only [bodyS] at h
    split at h
    · cases h; exact ⟨Nat.zero_le _, fun _ h => by cases h⟩
    · cases h
  | w :: w' :: r, i, ops, hw, h => by
    simp only [bodyS] at h
    split at h
    · cases hb : bodyS (i + 1) (w' :: r) with
      | inl os =>
        rw [hb] at h
        cases h
        have := body_w (w' :: r) (i + 1) (fun x hx => hw x (List.mem_cons_of_mem _ hx)) hb
        refine ⟨by simp at this ⊢; omega, fun o ho => ?_⟩
        rcases List.mem_cons.1 ho with rfl | ho
        · exact opW_w (cut_ws 32 w (hw w (by simp)))
        · exact this.2 o ho
      | inr f => rw [hb] at h; cases h
    · cases h
theorem len_pos {α : Type} (X : List α) : (X.length : Int) > 0 ↔ X ≠ [] := by rw [← List.length_pos_iff]; omega
theorem headS_empty : (headS (cut 32 [])).2.2 = true := by decide
theorem parse_ok (text : List UInt8) : W.circ_Parse text = some (parseS text) := by
  simp only [W.circ_Parse, parseS]
  by_cases hlong : 1000000 < text.length
  · rw [br_pos (by omega), if_pos hlong]
    rfl
  · rw [br_neg (by omega), if_neg hlong]
    simp only [split_ok text 10 (by omega), bnd_val]
    have hwl : ∀ w ∈ cut 10 text, w.length ≤ 10000000 := by
      intro w hw
      have h1 : ∀ l : List UInt8, ∀ w ∈ cut 10 l, w.length ≤ l.length := by
        intro l
        induction l with
        | nil => intro w hw; simp [cut] at hw; subst hw; exact Nat.le_refl _
        | cons b l ih =>
          intro w hw
          unfold cut at hw
          split at hw
          · rcases List.mem_cons.1 hw with rfl | hw
            · exact Nat.zero_le _
            · have := ih w hw; simp; omega
          · split at hw
            · simp at hw; subst hw; simp
            · rename_i v vs he
              rw [he] at ih
              rcases List.mem_cons.1 hw with rfl | hw
              · have := ih v (by simp); simpa using this
              · have := ih w (List.mem_cons_of_mem _ hw); simp; omega
      have := h1 text w hw
      omega
    have hfew : (cut 10 text).length ≤ 1000001 := by rw [cut_len]; have := count_le 10 text; omega
    match hc : cut 10 text, cut_ne 10 text with
    | h :: ls, _ =>
    rw [hc] at hwl hfew
    have hhl := hwl h (by simp)
    have hidx : idx (h :: ls) (0 : Int) = some h := rfl
    have hws := cut_ws 32 h hhl
    simp only [hidx, bnd_val, split_ok h 32 (by omega)]
    generalize hW : cut 32 h = ws at *
    obtain ⟨lo1, n1, e1, v1, w1⟩ := headA_ok ws hws
    rw [e1]
    simp only [bnd_val]
    have e9 : ∃ lo n, W.circ_Parse.c9 lo1 n1 (headA ws).2.2 ws some = some (lo, n, !(meetsS wBits (headA ws).2.1).1 || (headA ws).2.2, ws) ∧ Wn lo n ws (meetsS wBits (headA ws).2.1).2 := by
      obtain ⟨lo2, n2, h1, h2⟩ := meets_ok (bad := (headA ws).2.2) wBits v1
      refine ⟨lo2, n2, ?_, h2⟩
      simp only [W.circ_Parse.c9]
      show bnd (W.circ_cursor_meets wBits _ _ _ _) _ = _
      rw [h1, bnd_val]
      cases (meetsS wBits (headA ws).2.1).1 <;> rfl
    obtain ⟨lo2, n2, e9, v2⟩ := e9
    rw [e9]
    simp only [bnd_val]
    obtain ⟨lo3, n3, e3, v3⟩ := takes_ok (bad := !(meetsS wBits (headA ws).2.1).1 || (headA ws).2.2) v2 (w1.meets _).short
    rw [e3]
    simp only [bnd_val]
    have e11 : W.circ_Parse.c11 lo3 n3 (headB ws).2.2 ws some = some (headS ws).2.2 := by
      simp only [W.circ_Parse.c11, v3.part, br_or, headS, headB]
      congr 1
      rw [Bool.eq_iff_iff]
      simp only [Bool.or_eq_true, decide_eq_true_eq, len_pos]
      exact or_congr Iff.rfl decide_eq_true_iff.symm
    show bnd (W.circ_Parse.c11 lo3 n3 (headB ws).2.2 ws some) _ = _
    rw [e11, bnd_val]
    by_cases hbad : (headS ws).2.2 = true
    · rw [br_true hbad]
      cases ls with
      | nil => simp [parseL, fault_ok, bnd_val]
      | cons l ls => simp [parseL, hW, hbad, fault_ok, bnd_val]
    · rw [br_false (by simpa using hbad), okIf_true (by simp; omega), bnd_val]
      have edrop : List.drop 1 (List.take (((h :: ls).length : Int)).toNat (h :: ls)) = ls := by
        rw [Int.toNat_natCast, List.take_length]; rfl
      simp only [edrop]
      cases ls with
      | nil =>
        have hit : iter (fun s : Int × List Op ↦ W.circ_Parse.c100014 [h] [] (([] : List (List UInt8)).length : Int) s.1 s.2 some) ((0 : Int), []) = some (.inl ((0 : Int), [])) := by
          apply iter_inr
          simp only [W.circ_Parse.c100014]
          rw [br_neg (by simp)]
        have hne : h ≠ [] := by
          intro e
          rw [e] at hW
          rw [← hW] at hbad
          exact hbad headS_empty
        have hidx1 : idx [h] (IntKind.wrap IntKind.i64 ((([h] : List (List UInt8)).length : Int) - 1)) = some h := by
          rw [wrap_i64 (by simp)]; rfl
        rw [hit]
        simp only [bnd_val, sel_inl, hidx1]
        rw [br_true (by simpa using hne)]
        rfl
      | cons l ls =>
        obtain ⟨r, hr, hb⟩ := body_loop (l :: ls) h (l :: ls) [] [] rfl (fun w hw => hwl w (List.mem_cons_of_mem _ hw)) (by simp at hfew ⊢; omega) rfl (by simp)
        have hr : iter (fun s : Int × List Op ↦ W.circ_Parse.c100014 (h :: l :: ls) (l :: ls) ((l :: ls).length : Int) s.1 s.2 some) ((0 : Int), []) = some r := hr
        rw [hr]
        have hlast : ∀ w, (l :: ls).getLast? = some w → idx (h :: l :: ls) (IntKind.wrap IntKind.i64 (((h :: l :: ls).length : Int) - 1)) = some w := by
          intro w hw
          rw [wrap_i64 (by simp at hfew ⊢; omega), show ((h :: l :: ls).length : Int) - 1 = (((l :: ls).length : Nat) : Int) by simp, idx_at]
          rw [List.getLast?_eq_getElem?] at hw
          simpa using hw
        have hlen : IntKind.wrap IntKind.i64 (((h :: l :: ls).length : Int) - 1) = ((l :: ls).length : Int) := by
          rw [wrap_i64 (by simp at hfew ⊢; omega)]; simp
        cases hB : bodyS 0 (l :: ls) with
        | inl os =>
          rw [show ([] : List (List UInt8)).length = 0 from rfl, hB] at hb
          obtain ⟨u, rfl, hl⟩ := hb
          simp only [bnd_val, sel_inl, hlast _ hl, List.nil_append, parseL, hW, if_neg hbad, hB]
          have hwc : WCir ((headS ws).1, (headS ws).2.1, os) := by
            have := body_w (l :: ls) 0 (fun w hw => hwl w (List.mem_cons_of_mem _ hw)) hB
            refine ⟨?_, this.2⟩
            have h1 := this.1
            simp at hfew h1 ⊢
            omega
          rw [br_false (by simp)]
          show bnd (W.circ_Check ((headS ws).1, (headS ws).2.1, os)) _ = _
          rw [check_ok _ hwc, bnd_val]
          by_cases hz : (chk ((headS ws).1, (headS ws).2.1, os)).1 = 0
          · rw [br_false (by simp [hz]), if_neg (by simp [hz])]
            rfl
          · rw [br_true (by simpa using hz), if_pos hz]
            rfl
        | inr f =>
          rw [show ([] : List (List UInt8)).length = 0 from rfl, hB] at hb
          rcases hb with ⟨u, t, rfl⟩ | ⟨rfl, u, rfl, w, h5, h6⟩
          · simp only [bnd_val, sel_inr, parseL, hW, if_neg hbad, hB]
          · simp only [bnd_val, sel_inl, hlast _ h5, parseL, hW, if_neg hbad, hB]
            rw [br_true (by simpa using h6), hlen]
            rfl
end Go.Ql
end

section
namespace Go.Ql
def lineB (o : Op) : List UInt8 :=
  word o.1 ++ (if o.1 = 1 ∨ o.1 = 4 then sp o.2.1 else []) ++ (if o.1 ≠ 1 then sp o.2.2.2.1 else []) ++ (if o.2.2.1 ≠ [] then [32, 111, 110] ++ o.2.2.1.flatMap sp else [])
    ++ (if o.1 = 5 then [32, 116, 111] ++ sp o.2.2.2.2.1 else []) ++ (if o.2.2.2.2.2 ≠ [] then [32, 105, 102] ++ o.2.2.2.2.2.flatMap spv else [])
theorem lineT_eq (o : Op) : lineT o = lineB o ++ [10] := rfl
def condT (v : Int) : List UInt8 := if v < 0 then 33 :: decI (-v - 1) else decI (v - 1)
def tailW (o : Op) : List (List UInt8) :=
  (if o.1 = 1 ∨ o.1 = 4 then [decI o.2.1] else []) ++ (if o.1 ≠ 1 then [decI o.2.2.2.1] else []) ++ (if o.2.2.1 ≠ [] then wOn :: o.2.2.1.map decI else [])
    ++ (if o.1 = 5 then [wTo, decI o.2.2.2.2.1] else []) ++ (if o.2.2.2.2.2 ≠ [] then wIf :: o.2.2.2.2.2.map condT else [])
abbrev spaced (ws : List (List UInt8)) : List UInt8 := ws.flatMap fun w => 32 :: w
theorem flat_ite {p : Prop} [Decidable p] (a : List (List UInt8)) : spaced (if p then a else []) = if p then spaced a else [] := by split <;> rfl
theorem flat_sp (l : List Int) : spaced (l.map decI) = l.flatMap sp := by
  induction l with
  | nil => rfl
  | cons a l ih => simp only [spaced, List.map_cons, List.flatMap_cons, sp] at ih ⊢; rw [ih]
theorem flat_spv (l : List Int) : spaced (l.map condT) = l.flatMap spv := by
  induction l with
  | nil => rfl
  | cons a l ih =>
    simp only [spaced, List.map_cons, List.flatMap_cons] at ih ⊢
    rw [ih]
    congr 1
    unfold condT spv sp
    split <;> rfl
theorem spaced_app (a b : List (List UInt8)) : spaced (a ++ b) = spaced a ++ spaced b := List.flatMap_append
theorem lineB_eq (o : Op) : lineB o = word o.1 ++ spaced (tailW o) := by
  unfold lineB tailW
  simp only [spaced_app, flat_ite, List.append_assoc]
  have e1 : spaced [decI o.2.1] = sp o.2.1 := by simp [spaced, sp]
  have e2 : spaced [decI o.2.2.2.1] = sp o.2.2.2.1 := by simp [spaced, sp]
  have e3 : spaced (wOn :: o.2.2.1.map decI) = [32, 111, 110] ++ o.2.2.1.flatMap sp := by rw [← flat_sp]; rfl
  have e4 : spaced [wTo, decI o.2.2.2.2.1] = [32, 116, 111] ++ sp o.2.2.2.2.1 := by simp [spaced, sp, wTo]
  have e5 : spaced (wIf :: o.2.2.2.2.2.map condT) = [32, 105, 102] ++ o.2.2.2.2.2.flatMap spv := by rw [← flat_spv]; rfl
  rw [e1, e2, e3, e4, e5]
theorem cut_spaced (w : List UInt8) (ws : List (List UInt8)) (hw : (32 : UInt8) ∉ w) (h : ∀ x ∈ ws, (32 : UInt8) ∉ x) : cut 32 (w ++ spaced ws) = w :: ws := by
  induction ws generalizing w with
  | nil => simp only [spaced, List.flatMap_nil, List.append_nil]; exact cut_none hw
  | cons x ws ih =>
    have : w ++ spaced (x :: ws) = w ++ 32 :: (x ++ spaced ws) := by simp [spaced]
    rw [this, cut_app _ hw, ih x (h x (by simp)) (fun y hy => h y (List.mem_cons_of_mem _ hy))]
/-! ## Digits -/
set_option maxRecDepth 100000 in
theorem dtx_facts : ∀ n : Nat, n < 100 → numS (dtx n) = ((n : Int), true) ∧ (32 : UInt8) ∉ dtx n ∧ (10 : UInt8) ∉ dtx n ∧ (dtx n).head? ≠ some 33 ∧ dtx n ≠ wIf ∧ dtx n ≠ wOn ∧ dtx n ≠ wTo := by decide +kernel
theorem decI_facts {n : Int} (h : 0 ≤ n ∧ n < 100) : numS (decI n) = (n, true) ∧ (32 : UInt8) ∉ decI n ∧ (10 : UInt8) ∉ decI n ∧ (decI n).head? ≠ some 33 ∧ decI n ≠ wIf ∧ decI n ≠ wOn ∧ decI n ≠ wTo := by
  obtain ⟨k, rfl⟩ := Int.eq_ofNat_of_zero_le h.1
  exact dtx_facts k (by omega)
theorem condT_facts {v : Int} (h : v ≠ 0 ∧ v ≤ 12 ∧ -12 ≤ v) : condW (condT v) = (v, true) ∧ (32 : UInt8) ∉ condT v ∧ (10 : UInt8) ∉ condT v := by
  unfold condT
  by_cases h0 : v < 0
  · have h1 := decI_facts (n := -v - 1) (by omega)
    rw [if_pos h0]
    refine ⟨?_, by simp [h1.2.1], by simp [h1.2.2.1]⟩
    simp only [condW, List.head?_cons, if_true, List.tail_cons, h1.1]
    congr 1
    omega
  · have h1 := decI_facts (n := v - 1) (by omega)
    rw [if_neg h0]
    refine ⟨?_, h1.2.1, h1.2.2.1⟩
    simp only [condW, if_neg h1.2.2.2.1, h1.1]
    congr 1
    omega
theorem word_facts (k : Int) (h : 1 ≤ k ∧ k ≤ 6) : kindS (word k) = k ∧ (32 : UInt8) ∉ word k ∧ (10 : UInt8) ∉ word k ∧ word k ≠ [] := by
  have : k = 1 ∨ k = 2 ∨ k = 3 ∨ k = 4 ∨ k = 5 ∨ k = 6 := by omega
  rcases this with rfl | rfl | rfl | rfl | rfl | rfl <;> decide
/-! ## The line's words read -/
theorem moreS_map (l : List Int) (r : List (List UInt8)) (hl : ∀ n ∈ l, 0 ≤ n ∧ n < 100) (hr : moreS r = ([], r)) : moreS (l.map decI ++ r) = (l, r) := by
  induction l with
  | nil => exact hr
  | cons n l ih =>
    have h1 := (decI_facts (hl n (by simp))).1
    simp only [List.map_cons, List.cons_append, moreS, h1, if_true]
    rw [ih (fun x hx => hl x (List.mem_cons_of_mem _ hx))]
theorem conds_map : ∀ (l : List Int), (∀ v ∈ l, v ≠ 0 ∧ v ≤ 12 ∧ -12 ≤ v) → condsR (l.map condT) false = (l, false)
  | [], _ => rfl
  | v :: l, h => by
    have h1 := (condT_facts (h v (by simp))).1
    have h2 := conds_map l (fun x hx => h x (List.mem_cons_of_mem _ hx))
    simp only [List.map_cons, condsR, h1, Bool.not_true, Bool.or_false, h2]
def ifW (l : List Int) : List (List UInt8) := if l ≠ [] then wIf :: l.map condT else []
theorem stF_map (l : List Int) (h : ∀ v ∈ l, v ≠ 0 ∧ v ≤ 12 ∧ -12 ≤ v) : stF (ifW l) false = (l, [], false) := by
  unfold stF ifW
  cases l with
  | nil => rfl
  | cons v l =>
    have h1 := conds_map (v :: l) h
    simp only [ne_eq, reduceCtorEq, not_false_eq_true, if_true, meetsS]
    rw [condsS, if_neg (by simp), h1]
theorem more_if (l : List Int) : moreS (ifW l) = ([], ifW l) := by
  unfold ifW
  split
  · rfl
  · rfl
theorem meets_if (w : List UInt8) (l : List Int) (hw : wIf ≠ w) : meetsS w (ifW l) = (false, ifW l) := by
  unfold ifW
  split
  · simp only [meetsS, if_neg hw]
  · rfl
theorem opR_tail (o : Op) (qn bn : Int) (h : GoodOp o qn bn) (hq : qn ≤ 12) (hb : bn ≤ 12) : opR o.1 (tailW o) = (o, true) := by
  obtain ⟨k, a, ctl, q, bit, cond⟩ := o
  obtain ⟨h1, h2, h3, h4, h5, h6, h7, h8, h9, h10⟩ := h
  simp only at h1 h2 h3 h4 h5 h6 h7 h8 h9 h10
  have hctl := (ctlBad_zero.1 h7).1
  have hcond := ifBad_not h10
  have hc : ∀ v ∈ cond, v ≠ 0 ∧ v ≤ 12 ∧ -12 ≤ v := fun v hv => by have := hcond v hv; omega
  have ha := (decI_facts (n := a) (by omega)).1
  have hqf := decI_facts (n := q) (by omega)
  have hl : ∀ n ∈ ctl, 0 ≤ n ∧ n < 100 := fun n hn => by have := hctl n hn; omega
  have hF := stF_map cond hc
  have tails : ∀ A : List (List UInt8), (A ++ if cond ≠ [] then wIf :: cond.map condT else []) = A ++ ifW cond := fun _ => rfl
  have hk : k = 1 ∨ k = 2 ∨ k = 3 ∨ k = 4 ∨ k = 5 ∨ k = 6 := by omega
  simp only [tailW, tails]
  rcases hk with rfl | rfl | rfl | rfl | rfl | rfl
  · -- phase
    obtain rfl : q = 0 := h5 rfl
    obtain rfl : ctl = [] := by rcases h6 with h | h; exact h; omega
    obtain rfl : bit = 0 := by omega
    simp [opR, stK, stQ, stC, stG, stB, takesS, ha, hF]
  · obtain rfl : a = 0 := by omega
    obtain rfl : bit = 0 := by omega
    by_cases hn : ctl = []
    · subst hn
      simp [opR, stK, stQ, stC, stG, stB, takesS, hqf.1, meets_if wOn cond (by decide), hF]
    · cases ctl with
      | nil => exact absurd rfl hn
      | cons c ctl =>
        have hm := moreS_map ctl (ifW cond) (fun x hx => hl x (List.mem_cons_of_mem _ hx)) (more_if cond)
        have hc0 := (decI_facts (hl c (by simp))).1
        simp [opR, stK, stQ, stC, stG, stB, takesS, hqf.1, meetsS, manyS, hc0, hm, hF]
  · obtain rfl : a = 0 := by omega
    obtain rfl : bit = 0 := by omega
    by_cases hn : ctl = []
    · subst hn
      simp [opR, stK, stQ, stC, stG, stB, takesS, hqf.1, meets_if wOn cond (by decide), hF]
    · cases ctl with
      | nil => exact absurd rfl hn
      | cons c ctl =>
        have hm := moreS_map ctl (ifW cond) (fun x hx => hl x (List.mem_cons_of_mem _ hx)) (more_if cond)
        have hc0 := (decI_facts (hl c (by simp))).1
        simp [opR, stK, stQ, stC, stG, stB, takesS, hqf.1, meetsS, manyS, hc0, hm, hF]
  · obtain rfl : bit = 0 := by omega
    by_cases hn : ctl = []
    · subst hn
      simp [opR, stK, stQ, stC, stG, stB, takesS, ha, hqf.1, meets_if wOn cond (by decide), hF]
    · cases ctl with
      | nil => exact absurd rfl hn
      | cons c ctl =>
        have hm := moreS_map ctl (ifW cond) (fun x hx => hl x (List.mem_cons_of_mem _ hx)) (more_if cond)
        have hc0 := (decI_facts (hl c (by simp))).1
        simp [opR, stK, stQ, stC, stG, stB, takesS, ha, hqf.1, meetsS, manyS, hc0, hm, hF]
  · obtain rfl : a = 0 := by omega
    obtain rfl : ctl = [] := by rcases h6 with h | h; exact h; omega
    have hbf := (decI_facts (n := bit) (by omega)).1
    simp [opR, stK, stQ, stC, stG, stB, takesS, hqf.1, meetsS, hbf, hF]
  · obtain rfl : a = 0 := by omega
    obtain rfl : ctl = [] := by rcases h6 with h | h; exact h; omega
    obtain rfl : bit = 0 := by omega
    simp [opR, stK, stQ, stC, stG, stB, takesS, hqf.1, hF]
end Go.Ql
end

section
namespace Go.Ql
theorem tailW_facts (o : Op) (qn bn : Int) (h : GoodOp o qn bn) (hq : qn ≤ 12) (hb : bn ≤ 12) : ∀ w ∈ tailW o, (32 : UInt8) ∉ w ∧ (10 : UInt8) ∉ w := by
  have hctl := (ctlBad_zero.1 h.ctls).1
  have hcond := ifBad_not h.cond
  have f : ∀ n : Int, 0 ≤ n ∧ n < 100 → (32 : UInt8) ∉ decI n ∧ (10 : UInt8) ∉ decI n := fun n hn => ⟨(decI_facts hn).2.1, (decI_facts hn).2.2.1⟩
  intro w hw
  unfold tailW at hw
  simp only [List.mem_append] at hw
  rcases hw with (((hw | hw) | hw) | hw) | hw
  · split at hw
    · rw [List.mem_singleton.1 hw]; exact f _ (by have := h.k; omega)
    · cases hw
  · split at hw
    · rw [List.mem_singleton.1 hw]; exact f _ (by have := h.q; omega)
    · cases hw
  · split at hw
    · rcases List.mem_cons.1 hw with rfl | hw
      · decide
      · obtain ⟨n, hn, rfl⟩ := List.mem_map.1 hw
        exact f _ (by have := hctl n hn; omega)
    · cases hw
  · split at hw
    · rename_i hk
      rcases List.mem_cons.1 hw with rfl | hw
      · decide
      · rw [List.mem_singleton.1 hw]; exact f _ (by have := h.bit; omega)
    · cases hw
  · split at hw
    · rcases List.mem_cons.1 hw with rfl | hw
      · decide
      · obtain ⟨v, hv, rfl⟩ := List.mem_map.1 hw
        have := hcond v hv
        exact ⟨(condT_facts (by omega)).2.1, (condT_facts (by omega)).2.2⟩
    · cases hw
theorem lineB_facts (o : Op) (qn bn : Int) (h : GoodOp o qn bn) (hq : qn ≤ 12) (hb : bn ≤ 12) : opW (cut 32 (lineB o)) = (o, true) ∧ (10 : UInt8) ∉ lineB o ∧ lineB o ≠ [] := by
  have hw := word_facts o.1 h.kind
  have ht := tailW_facts o qn bn h hq hb
  refine ⟨?_, ?_, ?_⟩
  · rw [lineB_eq, cut_spaced _ _ hw.2.1 (fun x hx => (ht x hx).1), opW, if_neg (by rw [hw.1]; have := h.kind; omega), hw.1]
    exact opR_tail o qn bn h hq hb
  · rw [lineB_eq, List.mem_append]
    rintro (hm | hm)
    · exact hw.2.2.1 hm
    · simp only [spaced, List.mem_flatMap, List.mem_cons] at hm
      obtain ⟨x, hx, hm⟩ := hm
      rcases hm with hm | hm
      · revert hm; decide
      · exact (ht x hx).2 hm
  · rw [lineB_eq]
    intro e
    exact hw.2.2.2 (List.append_eq_nil_iff.1 e).1
def headL (q b : Int) : List UInt8 := [113, 117, 98, 105, 116, 115, 32] ++ decI q ++ [32, 98, 105, 116, 115, 32] ++ decI b
theorem headT_eq (q b : Int) : headT q b = headL q b ++ [10] := rfl
theorem headL_facts {q b : Int} (hq : 1 ≤ q ∧ q ≤ 12) (hb : 0 ≤ b ∧ b ≤ 12) : headS (cut 32 (headL q b)) = (q, b, false) ∧ (10 : UInt8) ∉ headL q b := by
  have f1 := decI_facts (n := q) (by omega)
  have f2 := decI_facts (n := b) (by omega)
  have e : headL q b = wQubits ++ spaced [decI q, wBits, decI b] := by simp [headL, spaced]
  constructor
  · rw [e, cut_spaced _ _ (by decide) (fun x hx => by
      simp only [List.mem_cons, List.mem_nil_iff, or_false] at hx
      rcases hx with rfl | rfl | rfl
      · exact f1.2.1
      · decide
      · exact f2.2.1)]
    simp [headS, headA, headB, meetsS, takesS, f1.1, f2.1]
  · unfold headL
    simp only [List.mem_append]
    rintro (((h | h) | h) | h)
    · revert h; decide
    · exact f1.2.2.1 h
    · revert h; decide
    · exact f2.2.2.1 h
theorem cut_lines : ∀ (ops : List Op), (∀ o ∈ ops, (10 : UInt8) ∉ lineB o) → cut 10 (ops.flatMap lineT) = ops.map lineB ++ [[]]
  | [], _ => rfl
  | o :: ops, h => by
    rw [List.flatMap_cons, lineT_eq, List.append_assoc, List.singleton_append, cut_app _ (h o (by simp)), cut_lines ops (fun x hx => h x (List.mem_cons_of_mem _ hx))]
    rfl
theorem body_lines : ∀ (ops : List Op) (i : Nat), (∀ o ∈ ops, opW (cut 32 (lineB o)) = (o, true)) → bodyS i (ops.map lineB ++ [[]]) = .inl ops
  | [], _, _ => rfl
  | [o], i, h => by
    simp only [List.map_cons, List.map_nil, List.cons_append, List.nil_append, bodyS, h o (by simp), if_true]
  | o :: o' :: ops, i, h => by
    have ih := body_lines (o' :: ops) (i + 1) (fun x hx => h x (List.mem_cons_of_mem _ hx))
    simp only [List.map_cons, List.cons_append] at ih ⊢
    simp only [bodyS, h o (by simp), if_true, ih]
theorem parse_print (c : Cir) (hg : GoodC c) : parseS (printT c) = (nix, (2, 0)) ∨ parseS (printT c) = (c, (0, 0)) := by
  unfold parseS
  by_cases hl : 1000000 < (printT c).length
  · rw [if_pos hl]; exact .inl rfl
  · rw [if_neg hl]
    right
    have hq := hg.q
    have hb := hg.b
    have hh := headL_facts hq hb
    have hf : ∀ o ∈ c.2.2, opW (cut 32 (lineB o)) = (o, true) ∧ (10 : UInt8) ∉ lineB o ∧ lineB o ≠ [] := fun o ho => lineB_facts o c.1 c.2.1 (goodOp_of (hg.ops o ho)) hq.2 hb.2
    have e : cut 10 (printT c) = headL c.1 c.2.1 :: (c.2.2.map lineB ++ [[]]) := by
      unfold printT
      rw [headT_eq, List.append_assoc, List.singleton_append, cut_app _ hh.2, cut_lines _ (fun o ho => (hf o ho).2.1)]
    rw [e]
    have hbody := body_lines c.2.2 0 (fun o ho => (hf o ho).1)
    cases hls : c.2.2.map lineB ++ [[]] with
    | nil => simp at hls
    | cons l ls =>
      rw [hls] at hbody
      have hck : chk (c.1, c.2.1, c.2.2) = (0, 0) := hg.chk
      simp only [parseL, hh.1, hbody, hck]
      simp
/-! ## Undone -/
theorem invOp_good {o : Op} {qn bn : Int} (h : GoodOp o qn bn) : GoodOp (invOp o) qn bn := by
  obtain ⟨h1, h2, h3, h4, h5, h6, h7, h8, h9, h10⟩ := h
  exact ⟨h1, by show 0 ≤ (16 - o.2.1) % 16 ∧ (16 - o.2.1) % 16 ≤ 15; omega, by show (o.1 = 1 ∨ o.1 = 4) ∨ (16 - o.2.1) % 16 = 0; omega, h4, h5, h6, h7, h8, h9, h10⟩
theorem invOp_inv {o : Op} (h : 0 ≤ o.2.1 ∧ o.2.1 ≤ 15) : invOp (invOp o) = o := by
  obtain ⟨k, a, ctl, q, bit, cond⟩ := o
  simp only at h
  have : (16 - (16 - a) % 16) % 16 = a := by omega
  simp only [invOp, this]
theorem inv_good {c : Cir} (h : GoodC c) : GoodC (inv c) := by
  refine ⟨h.q, h.b, by simpa [inv] using h.n, fun o ho => ?_⟩
  simp only [inv, List.mem_reverse, List.mem_map] at ho
  obtain ⟨o', h1, rfl⟩ := ho
  exact (invOp_good (goodOp_of (h.ops o' h1))).bad
abbrev Plain (l : List Op) : Prop := ∀ o ∈ l, ¬ (o.1 = 5 ∨ o.1 = 6 ∨ o.2.2.2.2.2 ≠ [])
theorem inv_plain {l : List Op} (h : Plain l) : Plain (l.map invOp).reverse := by
  intro o ho
  simp only [List.mem_reverse, List.mem_map] at ho
  obtain ⟨o', h1, rfl⟩ := ho
  exact h o' h1
theorem inv_list {l : List Op} (h : ∀ o ∈ l, 0 ≤ o.2.1 ∧ o.2.1 ≤ 15) : ((l.map invOp).reverse.map invOp).reverse = l := by
  rw [List.map_reverse, List.reverse_reverse, List.map_map]
  conv => rhs; rw [← List.map_id l]
  exact List.map_congr_left fun o ho => invOp_inv (h o ho)
theorem inv_flat (k : Nat) (l : List Op) : ((List.replicate k l).flatten.map invOp).reverse = (List.replicate k (l.map invOp).reverse).flatten := by
  induction k with
  | zero => rfl
  | succ k ih =>
    rw [List.replicate_succ, List.flatten_cons, List.map_append, List.reverse_append, ih, flat_snoc]
theorem inverse_of {c : Cir} (h : (pur c).1 = 0) : inverse c = (inv c, (0, 0)) := by unfold inverse; rw [if_neg (by simp [h])]
theorem pur_inv {c : Cir} (h : (pur c).1 = 0) : pur (inv c) = (0, 0) := by
  obtain ⟨hg, _, hp⟩ := pur_zero h
  exact pur_of (inv_good hg) (inv_plain hp)
theorem inv_inv {c : Cir} (h : GoodC c) : inv (inv c) = c := by
  obtain ⟨q, b, l⟩ := c
  have := inv_list (l := l) (fun o ho => (goodOp_of (h.ops o ho)).k)
  simp only [inv, this]
theorem inv_w {c : Cir} (h : WCir c) : WCir (inv c) := by
  refine ⟨by simpa [inv] using h.1, fun o ho => ?_⟩
  simp only [inv, List.mem_reverse, List.mem_map] at ho
  obtain ⟨o', h1, rfl⟩ := ho
  exact invOp_w (h.2 o' h1)
theorem base_inv {c : Cir} (h : GoodC c) (n : Int) : ((base (inv c) n).map invOp).reverse = base c n := by
  unfold base
  by_cases h0 : n < 0
  · rw [if_pos h0, if_pos h0, inv_inv h]
    rfl
  · rw [if_neg h0, if_neg h0]
    exact inv_list (fun o ho => (goodOp_of (h.ops o ho)).k)
theorem base_good {c : Cir} (h : GoodC c) (n : Int) : ∀ o ∈ base c n, opBad o c.1 c.2.1 = 0 := by
  intro o ho
  unfold base at ho
  split at ho
  · exact (inv_good h).ops o ho
  · exact h.ops o ho
theorem base_plain {c : Cir} (h : Plain c.2.2) (n : Int) : Plain (base c n) := by
  unfold base
  split
  · exact inv_plain h
  · exact h
theorem power_pur {c : Cir} (h : (pur c).1 = 0) (n : Int) (hz : (power c n).2 = (0, 0)) : (pur (power c n).1).1 = 0 := by
  obtain ⟨hg, _, hp⟩ := pur_zero h
  unfold power at hz ⊢
  rw [if_neg (by simp [h])] at hz ⊢
  split at hz
  · cases hz
  · rename_i hb
    rw [if_neg hb]
    have : pur (c.1, c.2.1, (List.replicate n.natAbs (base c n)).flatten) = (0, 0) := by
      refine pur_of ⟨hg.q, hg.b, ?_, fun o ho => ?_⟩ (fun o ho => ?_)
      · show (List.replicate n.natAbs (base c n)).flatten.length ≤ 4096
        rw [flat_len, base_len]; omega
      · simp only [List.mem_flatten, List.mem_replicate] at ho
        obtain ⟨l, ⟨_, rfl⟩, ho⟩ := ho
        exact base_good hg n o ho
      · simp only [List.mem_flatten, List.mem_replicate] at ho
        obtain ⟨l, ⟨_, rfl⟩, ho⟩ := ho
        exact base_plain hp n o ho
    rw [this]
theorem power_inv {c : Cir} (h : (pur c).1 = 0) (n : Int) : (power (inv c) n).2 = (power c n).2 ∧ ((power c n).2 = (0, 0) → inv (power (inv c) n).1 = (power c n).1) := by
  obtain ⟨hg, _, hp⟩ := pur_zero h
  have h' : (pur (inv c)).1 = 0 := by rw [pur_inv h]
  have hl : (inv c).2.2.length = c.2.2.length := by simp [inv]
  have n1 : ¬ ((pur c).1 ≠ 0) := by simp [h]
  have n2 : ¬ ((pur (inv c)).1 ≠ 0) := by simp [h']
  unfold power
  rw [if_neg n1, if_neg n2, hl]
  by_cases hb : 4096 < n.natAbs * c.2.2.length
  · rw [if_pos hb, if_pos hb]
    exact ⟨rfl, fun h => by cases h⟩
  · rw [if_neg hb, if_neg hb]
    refine ⟨rfl, fun _ => ?_⟩
    show (c.1, c.2.1, ((List.replicate n.natAbs (base (inv c) n)).flatten.map invOp).reverse) = _
    rw [inv_flat, base_inv hg]
theorem power_flt {c : Cir} (h : (pur c).1 = 0) (n : Int) : (power c n).2 = (0, 0) ∨ (power c n).2 = (2, 0) := by
  unfold power
  rw [if_neg (by simp [h])]
  split
  · exact .inr rfl
  · exact .inl rfl
theorem eqT_pair (f g : Int × Int) : Ty.eqT (Ty.pair (Ty.int IntKind.i64) (Ty.int IntKind.i64)) f g = decide (f = g) := by
  obtain ⟨a, b⟩ := f
  obtain ⟨c, d⟩ := g
  rw [Bool.eq_iff_iff]
  simp [Ty.eqT]
end Go.Ql
end

section
namespace Go.Ql
def dgi (b : UInt8) : Int := ((b.toNat : Int) - 48) % 256
def figV (w : List UInt8) : Int := (w.take 9).foldl (fun n b => n * 10 + dgi b) 0
theorem dgi_bound (b : UInt8) : 0 ≤ dgi b ∧ dgi b ≤ 255 := by unfold dgi; omega
theorem figF_bound : ∀ (w : List UInt8) (n : Int), 0 ≤ n → 0 ≤ w.foldl (fun n b => n * 10 + dgi b) n ∧ w.foldl (fun n b => n * 10 + dgi b) n + 29 ≤ (n + 29) * 10 ^ w.length
  | [], n, hn => by simp; omega
  | b :: w, n, hn => by
    have hb := dgi_bound b
    have h1 := figF_bound w (n * 10 + dgi b) (by omega)
    refine ⟨h1.1, Int.le_trans h1.2 ?_⟩
    have hp : (0 : Int) ≤ 10 ^ w.length := Int.le_of_lt (Int.pow_pos (by decide))
    have h3 := Int.mul_le_mul_of_nonneg_right (show n * 10 + dgi b + 29 ≤ (n + 29) * 10 by omega) hp
    rw [List.length_cons, Int.pow_succ, Int.mul_comm (10 ^ w.length) 10, ← Int.mul_assoc]
    exact h3
theorem ten9 : ∀ k : Nat, k ≤ 9 → (10 : Int) ^ k ≤ 1000000000 := by decide
theorem figP_bound (w : List UInt8) (h : w.length ≤ 9) : 0 ≤ w.foldl (fun n b => n * 10 + dgi b) 0 ∧ w.foldl (fun n b => n * 10 + dgi b) 0 ≤ 29000000000 := by
  have h1 := figF_bound w 0 (Int.le_refl 0)
  have h2 := ten9 w.length h
  refine ⟨h1.1, ?_⟩
  have := h1.2
  omega
theorem figV_bound (w : List UInt8) : 0 ≤ figV w ∧ figV w ≤ 29000000000 := figP_bound _ (by simp; omega)
theorem byte_dgi (b : UInt8) : IntKind.wrap IntKind.i64 (IntKind.wrap IntKind.u8 ((b.toNat : Int) - 48)) = dgi b := by
  have h1 : IntKind.wrap IntKind.u8 ((b.toNat : Int) - 48) = dgi b := by
    simp only [IntKind.wrap, IntKind.signed, IntKind.bits, dgi]
    simp
  have := dgi_bound b
  rw [h1, wrap_i64 (by omega)]
theorem num_ok {n : Int} (h : 0 ≤ n ∧ n ≤ 100000000000) : ∃ l, W.R_num n = some l ∧ Txt n l := by
  obtain ⟨r, h1, h2, h3⟩ := zof_ok (n := n) (by omega)
  obtain ⟨l, h4, h5⟩ := ztext_ok h2 (by omega)
  exact ⟨l, by simp only [W.R_num, h1, h4, bnd_val], h5⟩
end Go.Ql
end

section
namespace Go.Ql
noncomputable section
def numT (n : Int) : List UInt8 := (W.R_num n).getD []
theorem numT_txt {n : Int} (h : 0 ≤ n ∧ n ≤ 100000000000) : W.R_num n = some (numT n) ∧ Txt n (numT n) := by
  obtain ⟨l, h1, h2⟩ := num_ok h
  have : numT n = l := by unfold numT; rw [h1]; rfl
  rw [this]
  exact ⟨h1, h2⟩
theorem isDig_iff (b : UInt8) : isDig b ↔ isDigit b = true := by
  simp only [isDig, isDigit, Bool.and_eq_true, decide_eq_true_eq]
theorem numV_dec (w : List UInt8) : numV w = dec w := rfl
theorem dec_big {w : List UInt8} (h : Digits w) (hn : w ≠ []) (h0 : w.head? ≠ some 48) : (10 : Int) ^ (w.length - 1) ≤ dec w := dec_ge h hn h0
theorem dgi_dig {b : UInt8} (h : isDig b) : dgi b = dg b := by
  unfold isDig at h
  unfold dgi dg
  omega
theorem foldl_congr' {w : List UInt8} (h : ∀ b ∈ w, isDig b) (n : Int) : w.foldl (fun n b => n * 10 + dgi b) n = w.foldl (fun n b => n * 10 + dg b) n := by
  induction w generalizing n with
  | nil => rfl
  | cons b w ih =>
    simp only [List.foldl_cons, dgi_dig (h b (by simp))]
    exact ih (fun x hx => h x (List.mem_cons_of_mem _ hx)) _
theorem fig_dec {w : List UInt8} (h : ∀ b ∈ w, isDig b) : figV w = dec (w.take 9) := foldl_congr' (fun b hb => h b (List.mem_of_mem_take hb)) 0
theorem txt_pos {n : Int} {l : List UInt8} (h : Txt n l) (hn : 0 ≤ n) : (∀ b ∈ l, isDig b) ∧ l ≠ [] ∧ dec l = n ∧ (n = 0 → l = [48]) ∧ (n ≠ 0 → l.head? ≠ some 48) := by
  rcases h with ⟨rfl, rfl⟩ | ⟨h0, D, hD, rfl⟩
  · exact ⟨by decide, by decide, rfl, fun _ => rfl, fun h => absurd rfl h⟩
  · rw [if_neg (by omega), List.nil_append]
    have e : (n.natAbs : Int) = n := by omega
    rw [e] at hD
    exact ⟨fun b hb => (isDig_iff b).2 (hD.1 b hb), hD.2.1, hD.2.2.2, fun h => absurd h h0, fun _ => hD.2.2.1⟩
/-- A word that may be a number is that number's text. -/
theorem txt_of_num {w : List UInt8} (h : numOk w) : Txt (numV w) w ∧ figV w = numV w ∧ 0 ≤ numV w ∧ numV w < 1000000000 := by
  obtain ⟨h1, h2, h3, h4⟩ := h
  have hb := numV_bound h4
  have hp := ten9 w.length h2
  refine ⟨?_, ?_, hb.1, by omega⟩
  · have hD : Digits w := fun b hb => (isDig_iff b).1 (h4 b hb)
    by_cases h48 : w.head? = some 48
    · have hl : ¬ 1 < w.length := fun h => h3 ⟨h48, h⟩
      cases w with
      | nil => exact absurd rfl h1
      | cons b w =>
        have : w = [] := by cases w with | nil => rfl | cons c w => simp at hl
        subst this
        simp at h48
        subst h48
        exact .inl ⟨rfl, rfl⟩
    · have hbig := dec_big hD h1 h48
      have hpos : (0 : Int) < 10 ^ (w.length - 1) := Int.pow_pos (by decide)
      refine .inr ⟨by rw [numV_dec]; omega, w, ⟨hD, h1, h48, by rw [numV_dec]; omega⟩, by rw [if_neg (by omega), List.nil_append]⟩
  · rw [fig_dec h4, List.take_of_length_le h2]
    rfl
theorem num_of_txt {n : Int} {w : List UInt8} (h : Txt n w) (hn : 0 ≤ n) (hf : n < 1000000000 ∨ figV w = n) : numOk w ∧ numV w = n := by
  obtain ⟨h1, h2, h3, h4, h5⟩ := txt_pos h hn
  have hD : Digits w := fun b hb => (isDig_iff b).1 (h1 b hb)
  refine ⟨⟨h2, ?_, ?_, h1⟩, h3⟩
  · by_cases h0 : n = 0
    · rw [h4 h0]; decide
    · have hbig := dec_big hD h2 (h5 h0)
      have hlt : n < 1000000000 := by
        rcases hf with hf | hf
        · exact hf
        · have := dec_bound (l := w.take 9) (fun b hb => hD b (List.mem_of_mem_take hb))
          rw [fig_dec h1] at hf
          have := ten9 (w.take 9).length (by simp; omega)
          omega
      rw [h3] at hbig
      by_cases hl : w.length ≤ 9
      · exact hl
      · have : (10 : Int) ^ 9 ≤ 10 ^ (w.length - 1) := pow_le (by decide) (by omega)
        have e : (10 : Int) ^ 9 = 1000000000 := by decide
        omega
  · rintro ⟨a, b⟩
    by_cases h0 : n = 0
    · rw [h4 h0] at b; simp at b
    · exact h5 h0 a
def okN (n : Int) : Prop := 0 ≤ n ∧ n < 1000000000
theorem okN_numS {n : Int} (h : okN n) : numS (numT n) = (n, true) ∧ figV (numT n) = n := by
  have ht := (numT_txt (n := n) ⟨h.1, by have := h.2; omega⟩).2
  have := num_of_txt ht h.1 (.inl h.2)
  refine ⟨by rw [numS, if_pos this.1, this.2], by rw [(txt_of_num this.1).2.1, this.2]⟩
theorem okN_of_fig {n : Int} (h : 0 ≤ n ∧ n ≤ 100000000000) (hf : figV (numT n) = n) : okN n := by
  have ht := (numT_txt h).2
  have := num_of_txt ht h.1 (.inr hf)
  have h2 := (txt_of_num this.1).2.2
  rw [this.2] at h2
  exact h2
theorem word_numT {w : List UInt8} (h : numOk w) : w = numT (numV w) ∧ okN (numV w) := by
  obtain ⟨h1, _, h3, h4⟩ := txt_of_num h
  exact ⟨h1.one (numT_txt ⟨h3, by omega⟩).2, h3, h4⟩
/-- What a number's text isn't. -/
theorem numT_facts {n : Int} (h : 0 ≤ n ∧ n ≤ 100000000000) : (32 : UInt8) ∉ numT n ∧ (10 : UInt8) ∉ numT n ∧ (numT n).head? ≠ some 33 ∧ numT n ≠ wIf ∧ numT n ≠ wOn ∧ numT n ≠ wTo ∧ numT n ≠ [] := by
  obtain ⟨h1, h2, _⟩ := txt_pos (numT_txt h).2 h.1
  have nd : ∀ b : UInt8, ¬ isDig b → b ∉ numT n := fun b hb hm => hb (h1 b hm)
  have hh : ∀ b : UInt8, ¬ isDig b → (numT n).head? ≠ some b := fun b hb e => hb (h1 b (List.mem_of_mem_head? (by rw [e]; rfl)))
  refine ⟨nd _ (by decide), nd _ (by decide), hh _ (by decide), fun e => ?_, fun e => ?_, fun e => ?_, h2⟩
  · exact hh 105 (by decide) (by rw [e]; rfl)
  · exact hh 111 (by decide) (by rw [e]; rfl)
  · exact hh 116 (by decide) (by rw [e]; rfl)
/-! ## Lines -/
def condQ (v : Int) : List UInt8 := if v < 0 then 33 :: numT (-v - 1) else numT (v - 1)
def tailQ (o : Op) : List (List UInt8) :=
  (if o.1 = 1 ∨ o.1 = 4 then [numT o.2.1] else []) ++ (if o.1 ≠ 1 then [numT o.2.2.2.1] else []) ++ (if o.2.2.1 ≠ [] then wOn :: o.2.2.1.map numT else [])
    ++ (if o.1 = 5 then [wTo, numT o.2.2.2.2.1] else []) ++ (if o.2.2.2.2.2 ≠ [] then wIf :: o.2.2.2.2.2.map condQ else [])
def okC (v : Int) : Prop := v ≠ 0 ∧ (if v < 0 then okN (-v - 1) else okN (v - 1))
structure Wide (o : Op) : Prop where
  kind : 1 ≤ o.1 ∧ o.1 ≤ 6
  k : (o.1 = 1 ∨ o.1 = 4) ∧ okN o.2.1 ∨ ¬ (o.1 = 1 ∨ o.1 = 4) ∧ o.2.1 = 0
  q : o.1 = 1 ∧ o.2.2.2.1 = 0 ∨ o.1 ≠ 1 ∧ okN o.2.2.2.1
  ctl : o.2.2.1 = [] ∨ (o.1 = 2 ∨ o.1 = 3 ∨ o.1 = 4)
  ctls : ∀ n ∈ o.2.2.1, okN n
  bit : o.1 = 5 ∧ okN o.2.2.2.2.1 ∨ o.1 ≠ 5 ∧ o.2.2.2.2.1 = 0
  cond : ∀ v ∈ o.2.2.2.2.2, okC v
theorem condQ_condW {v : Int} (h : okC v) : condW (condQ v) = (v, true) := by
  unfold condQ
  obtain ⟨h0, h⟩ := h
  by_cases hv : v < 0
  · rw [if_pos hv] at h ⊢
    simp only [condW, List.head?_cons, if_true, List.tail_cons, (okN_numS h).1]
    congr 1; omega
  · rw [if_neg hv] at h ⊢
    have hf := (numT_facts (n := v - 1) ⟨h.1, by have := h.2; omega⟩).2.2.1
    simp only [condW, if_neg hf, (okN_numS h).1]
    congr 1; omega
theorem moreQ (l : List Int) (r : List (List UInt8)) (hl : ∀ n ∈ l, okN n) (hr : moreS r = ([], r)) : moreS (l.map numT ++ r) = (l, r) := by
  induction l with
  | nil => exact hr
  | cons n l ih =>
    have h1 := (okN_numS (hl n (by simp))).1
    simp only [List.map_cons, List.cons_append, moreS, h1, if_true]
    rw [ih (fun x hx => hl x (List.mem_cons_of_mem _ hx))]
theorem condsQ : ∀ (l : List Int), (∀ v ∈ l, okC v) → condsR (l.map condQ) false = (l, false)
  | [], _ => rfl
  | v :: l, h => by
    have h1 := condQ_condW (h v (by simp))
    have h2 := condsQ l (fun x hx => h x (List.mem_cons_of_mem _ hx))
    simp only [List.map_cons, condsR, h1, Bool.not_true, Bool.or_false, h2]
def ifQ (l : List Int) : List (List UInt8) := if l ≠ [] then wIf :: l.map condQ else []
theorem stF_q (l : List Int) (h : ∀ v ∈ l, okC v) : stF (ifQ l) false = (l, [], false) := by
  unfold stF ifQ
  cases l with
  | nil => rfl
  | cons v l =>
    have h1 := condsQ (v :: l) h
    simp only [ne_eq, reduceCtorEq, not_false_eq_true, if_true, meetsS]
    rw [condsS, if_neg (by simp), h1]
theorem more_ifQ (l : List Int) : moreS (ifQ l) = ([], ifQ l) := by
  unfold ifQ
  split <;> rfl
theorem meets_ifQ (w : List UInt8) (l : List Int) (hw : wIf ≠ w) : meetsS w (ifQ l) = (false, ifQ l) := by
  unfold ifQ
  split
  · simp only [meetsS, if_neg hw]
  · rfl
theorem opR_q (o : Op) (h : Wide o) : opR o.1 (tailQ o) = (o, true) := by
  obtain ⟨k, a, ctl, q, bit, cond⟩ := o
  obtain ⟨h1, h2, h3, h4, h5, h6, h7⟩ := h
  simp only at h1 h2 h3 h4 h5 h6 h7
  have hF := stF_q cond h7
  have tails : ∀ A : List (List UInt8), (A ++ if cond ≠ [] then wIf :: cond.map condQ else []) = A ++ ifQ cond := fun _ => rfl
  have hk : k = 1 ∨ k = 2 ∨ k = 3 ∨ k = 4 ∨ k = 5 ∨ k = 6 := by omega
  simp only [tailQ, tails]
  have gate : ∀ {c : Int} {ctl : List Int}, (∀ n ∈ c :: ctl, okN n) → moreS (ctl.map numT ++ ifQ cond) = (ctl, ifQ cond) ∧ numS (numT c) = (c, true) := fun h =>
    ⟨moreQ _ (ifQ cond) (fun x hx => h x (List.mem_cons_of_mem _ hx)) (more_ifQ cond), (okN_numS (h _ (by simp))).1⟩
  rcases hk with rfl | rfl | rfl | rfl | rfl | rfl
  · obtain rfl : q = 0 := by omega
    obtain rfl : ctl = [] := by rcases h4 with h | h; exact h; omega
    obtain rfl : bit = 0 := by omega
    have ha : okN a := by rcases h2 with h | h; exact h.2; omega
    simp [opR, stK, stQ, stC, stG, stB, takesS, (okN_numS ha).1, hF]
  · obtain rfl : a = 0 := by omega
    obtain rfl : bit = 0 := by omega
    have hq : okN q := by rcases h3 with h | h; omega; exact h.2
    cases ctl with
    | nil => simp [opR, stK, stQ, stC, stG, stB, takesS, (okN_numS hq).1, meets_ifQ wOn cond (by decide), hF]
    | cons c ctl => simp [opR, stK, stQ, stC, stG, stB, takesS, (okN_numS hq).1, meetsS, manyS, (gate h5).2, (gate h5).1, hF]
  · obtain rfl : a = 0 := by omega
    obtain rfl : bit = 0 := by omega
    have hq : okN q := by rcases h3 with h | h; omega; exact h.2
    cases ctl with
    | nil => simp [opR, stK, stQ, stC, stG, stB, takesS, (okN_numS hq).1, meets_ifQ wOn cond (by decide), hF]
    | cons c ctl => simp [opR, stK, stQ, stC, stG, stB, takesS, (okN_numS hq).1, meetsS, manyS, (gate h5).2, (gate h5).1, hF]
  · obtain rfl : bit = 0 := by omega
    have ha : okN a := by rcases h2 with h | h; exact h.2; omega
    have hq : okN q := by rcases h3 with h | h; omega; exact h.2
    cases ctl with
    | nil => simp [opR, stK, stQ, stC, stG, stB, takesS, (okN_numS ha).1, (okN_numS hq).1, meets_ifQ wOn cond (by decide), hF]
    | cons c ctl => simp [opR, stK, stQ, stC, stG, stB, takesS, (okN_numS ha).1, (okN_numS hq).1, meetsS, manyS, (gate h5).2, (gate h5).1, hF]
  · obtain rfl : a = 0 := by omega
    obtain rfl : ctl = [] := by rcases h4 with h | h; exact h; omega
    have hq : okN q := by rcases h3 with h | h; omega; exact h.2
    have hb : okN bit := by rcases h6 with h | h; exact h.2; omega
    simp [opR, stK, stQ, stC, stG, stB, takesS, (okN_numS hq).1, meetsS, (okN_numS hb).1, hF]
  · obtain rfl : a = 0 := by omega
    obtain rfl : ctl = [] := by rcases h4 with h | h; exact h; omega
    obtain rfl : bit = 0 := by omega
    have hq : okN q := by rcases h3 with h | h; omega; exact h.2
    simp [opR, stK, stQ, stC, stG, stB, takesS, (okN_numS hq).1, hF]
end
end Go.Ql
end

section
namespace Go.Ql
noncomputable section
theorem numS_ok {w : List UInt8} (h : (numS w).2 = true) : w = numT (numS w).1 ∧ okN (numS w).1 := by
  unfold numS at h ⊢
  split at h
  · rename_i hw
    rw [if_pos hw]
    exact word_numT hw
  · cases h
theorem takes_inv {r : List (List UInt8)} {bad : Bool} (h : (takesS r bad).2.2 = false) : bad = false ∧ r = numT (takesS r bad).1 :: (takesS r bad).2.1 ∧ okN (takesS r bad).1 := by
  cases r with
  | nil => cases h
  | cons w r =>
    simp only [takesS, Bool.or_eq_false_iff, Bool.not_eq_false'] at h ⊢
    have := numS_ok h.2
    exact ⟨h.1, by rw [← this.1], this.2⟩
theorem more_inv : ∀ r : List (List UInt8), r = (moreS r).1.map numT ++ (moreS r).2 ∧ ∀ n ∈ (moreS r).1, okN n
  | [] => ⟨rfl, fun _ h => by cases h⟩
  | w :: r => by
    by_cases hw : (numS w).2 = true
    · have h1 := numS_ok hw
      have h2 := more_inv r
      simp only [moreS, if_pos hw]
      refine ⟨by rw [List.map_cons, List.cons_append, ← h1.1, ← h2.1], fun n hn => ?_⟩
      rcases List.mem_cons.1 hn with rfl | hn
      · exact h1.2
      · exact h2.2 n hn
    · simp only [moreS, if_neg hw]
      exact ⟨rfl, fun _ h => by cases h⟩
theorem many_inv {r : List (List UInt8)} {bad : Bool} (h : (manyS r bad).2.2 = false) : bad = false ∧ r = (manyS r bad).1.map numT ++ (manyS r bad).2.1 ∧ (∀ n ∈ (manyS r bad).1, okN n) ∧ (manyS r bad).1 ≠ [] := by
  have h : (takesS r bad).2.2 = false := h
  obtain ⟨h1, h2, h3⟩ := takes_inv h
  obtain ⟨h4, h5⟩ := more_inv (takesS r bad).2.1
  refine ⟨h1, ?_, fun n hn => ?_, by simp [manyS]⟩
  · simp only [manyS, List.map_cons, List.cons_append, ← h4]
    exact h2
  · simp only [manyS] at hn
    rcases List.mem_cons.1 hn with rfl | hn
    · exact h3
    · exact h5 n hn
theorem meets_inv {w : List UInt8} {r : List (List UInt8)} : ((meetsS w r).1 = true ∧ r = w :: (meetsS w r).2) ∨ ((meetsS w r).1 = false ∧ (meetsS w r).2 = r) := by
  cases r with
  | nil => exact .inr ⟨rfl, rfl⟩
  | cons x r =>
    by_cases hx : x = w
    · left; simp [meetsS, hx]
    · right; simp [meetsS, hx]
theorem condW_inv {w : List UInt8} (h : (condW w).2 = true) : w = condQ (condW w).1 ∧ okC (condW w).1 := by
  unfold condW at h ⊢
  by_cases hb : w.head? = some 33
  · rw [if_pos hb] at h ⊢
    have h1 := numS_ok h
    have h0 := h1.2.1
    have hneg : -((numS w.tail).1 + 1) < 0 := by omega
    have e : -(-((numS w.tail).1 + 1)) - 1 = (numS w.tail).1 := by omega
    refine ⟨?_, by show -((numS w.tail).1 + 1) ≠ 0; omega, ?_⟩
    · show w = condQ (-((numS w.tail).1 + 1))
      rw [condQ, if_pos hneg, e, ← h1.1]
      cases w with
      | nil => cases hb
      | cons b w => simp at hb; rw [hb]; rfl
    · show if -((numS w.tail).1 + 1) < 0 then _ else _
      rw [if_pos hneg]
      show okN (-(-((numS w.tail).1 + 1)) - 1)
      rw [e]; exact h1.2
  · rw [if_neg hb] at h ⊢
    have h1 := numS_ok h
    have h0 := h1.2.1
    have hneg : ¬ (numS w).1 + 1 < 0 := by omega
    have e : (numS w).1 + 1 - 1 = (numS w).1 := by omega
    refine ⟨?_, by show (numS w).1 + 1 ≠ 0; omega, ?_⟩
    · show w = condQ ((numS w).1 + 1)
      rw [condQ, if_neg hneg, e, ← h1.1]
    · show if (numS w).1 + 1 < 0 then _ else _
      rw [if_neg hneg]
      show okN ((numS w).1 + 1 - 1)
      rw [e]; exact h1.2
theorem condsR_inv : ∀ {r : List (List UInt8)} {bad : Bool}, (condsR r bad).2 = false → bad = false ∧ r = (condsR r bad).1.map condQ ∧ ∀ v ∈ (condsR r bad).1, okC v
  | [], bad, h => ⟨h, rfl, fun _ h => by cases h⟩
  | w :: r, bad, h => by
    have h : (condsR r (bad || !(condW w).2)).2 = false := h
    obtain ⟨h1, h2, h3⟩ := condsR_inv h
    simp only [Bool.or_eq_false_iff, Bool.not_eq_false'] at h1
    have h4 := condW_inv h1.2
    refine ⟨h1.1, ?_, fun v hv => ?_⟩
    · simp only [condsR, List.map_cons, ← h4.1, ← h2]
    · simp only [condsR] at hv
      rcases List.mem_cons.1 hv with rfl | hv
      · exact h4.2
      · exact h3 v hv
theorem conds_inv {r : List (List UInt8)} {bad : Bool} (h : (condsS r bad).2 = false) : bad = false ∧ r = (condsS r bad).1.map condQ ∧ (∀ v ∈ (condsS r bad).1, okC v) ∧ (condsS r bad).1 ≠ [] := by
  unfold condsS at h ⊢
  by_cases hr : r = []
  · rw [if_pos hr] at h; cases h
  · rw [if_neg hr] at h ⊢
    obtain ⟨h1, h2, h3⟩ := condsR_inv h
    refine ⟨h1, h2, h3, fun e => hr ?_⟩
    rw [e] at h2
    exact h2
theorem stF_inv {r : List (List UInt8)} {bad : Bool} (h : (stF r bad).2.2 = false) (h' : (stF r bad).2.1 = []) : bad = false ∧ r = ifQ (stF r bad).1 ∧ ∀ v ∈ (stF r bad).1, okC v := by
  unfold stF at h h' ⊢
  rcases meets_inv (w := wIf) (r := r) with ⟨h1, h2⟩ | ⟨h1, h2⟩
  · rw [if_pos h1] at h h' ⊢
    obtain ⟨h3, h4, h5, h6⟩ := conds_inv h
    refine ⟨h3, ?_, h5⟩
    show r = ifQ (condsS (meetsS wIf r).2 bad).1
    rw [ifQ, if_pos h6, ← h4]
    exact h2
  · rw [if_neg (by rw [h1]; decide)] at h h' ⊢
    refine ⟨h, ?_, fun _ h => by cases h⟩
    rw [← h2]
    exact h'
theorem kindS_inv {w : List UInt8} (h : kindS w ≠ 0) : w = word (kindS w) ∧ 1 ≤ kindS w ∧ kindS w ≤ 6 := by
  unfold kindS at h ⊢
  by_cases h1 : w = word 1
  · rw [if_pos h1]; exact ⟨h1, by decide, by decide⟩
  rw [if_neg h1] at h ⊢
  by_cases h2 : w = word 2
  · rw [if_pos h2]; exact ⟨h2, by decide, by decide⟩
  rw [if_neg h2] at h ⊢
  by_cases h3 : w = word 3
  · rw [if_pos h3]; exact ⟨h3, by decide, by decide⟩
  rw [if_neg h3] at h ⊢
  by_cases h4 : w = word 4
  · rw [if_pos h4]; exact ⟨h4, by decide, by decide⟩
  rw [if_neg h4] at h ⊢
  by_cases h5 : w = word 5
  · rw [if_pos h5]; exact ⟨h5, by decide, by decide⟩
  rw [if_neg h5] at h ⊢
  by_cases h6 : w = word 6
  · rw [if_pos h6]; exact ⟨h6, by decide, by decide⟩
  rw [if_neg h6] at h
  exact absurd rfl h
theorem opW_inv {ws : List (List UInt8)} (h : (opW ws).2 = true) : Wide (opW ws).1 ∧ ws = word (opW ws).1.1 :: tailQ (opW ws).1 := by
  cases ws with
  | nil => cases h
  | cons w r =>
    by_cases hk : kindS w = 0
    · rw [opW, if_pos hk] at h; cases h
    · rw [opW, if_neg hk] at h ⊢
      obtain ⟨hw, hk1, hk6⟩ := kindS_inv hk
      generalize kindS w = k at *
      subst hw
      simp only [opR, Bool.and_eq_true, Bool.not_eq_true', decide_eq_true_eq] at h
      obtain ⟨hf1, hf2⟩ := h
      simp only [opR]
      obtain ⟨b1, e1, g1⟩ := stF_inv hf1 hf2
      generalize stF (stB k (stC k (stQ k (stK k r).2.1 (stK k r).2.2).2.1 (stQ k (stK k r).2.1 (stK k r).2.2).2.2).2.1 (stC k (stQ k (stK k r).2.1 (stK k r).2.2).2.1 (stQ k (stK k r).2.1 (stK k r).2.2).2.2).2.2).2.1 (stB k (stC k (stQ k (stK k r).2.1 (stK k r).2.2).2.1 (stQ k (stK k r).2.1 (stK k r).2.2).2.2).2.1 (stC k (stQ k (stK k r).2.1 (stK k r).2.2).2.1 (stQ k (stK k r).2.1 (stK k r).2.2).2.2).2.2).2.2 = F at *
      -- the bit
      have hB : (stC k (stQ k (stK k r).2.1 (stK k r).2.2).2.1 (stQ k (stK k r).2.1 (stK k r).2.2).2.2).2.2 = false ∧
          (stC k (stQ k (stK k r).2.1 (stK k r).2.2).2.1 (stQ k (stK k r).2.1 (stK k r).2.2).2.2).2.1 = (if k = 5 then [wTo, numT (stB k (stC k (stQ k (stK k r).2.1 (stK k r).2.2).2.1 (stQ k (stK k r).2.1 (stK k r).2.2).2.2).2.1 (stC k (stQ k (stK k r).2.1 (stK k r).2.2).2.1 (stQ k (stK k r).2.1 (stK k r).2.2).2.2).2.2).1] else []) ++ ifQ F.1 ∧
          (k = 5 ∧ okN (stB k (stC k (stQ k (stK k r).2.1 (stK k r).2.2).2.1 (stQ k (stK k r).2.1 (stK k r).2.2).2.2).2.1 (stC k (stQ k (stK k r).2.1 (stK k r).2.2).2.1 (stQ k (stK k r).2.1 (stK k r).2.2).2.2).2.2).1 ∨ k ≠ 5 ∧ (stB k (stC k (stQ k (stK k r).2.1 (stK k r).2.2).2.1 (stQ k (stK k r).2.1 (stK k r).2.2).2.2).2.1 (stC k (stQ k (stK k r).2.1 (stK k r).2.2).2.1 (stQ k (stK k r).2.1 (stK k r).2.2).2.2).2.2).1 = 0) := by
        generalize stC k (stQ k (stK k r).2.1 (stK k r).2.2).2.1 (stQ k (stK k r).2.1 (stK k r).2.2).2.2 = C at *
        unfold stB at b1 e1 ⊢
        by_cases h5 : k = 5
        · simp only [if_pos h5] at b1 e1 ⊢
          obtain ⟨t1, t2, t3⟩ := takes_inv b1
          simp only [Bool.or_eq_false_iff, Bool.not_eq_false'] at t1
          rcases meets_inv (w := wTo) (r := C.2.1) with ⟨m1, m2⟩ | ⟨m1, m2⟩
          · refine ⟨t1.2, ?_, .inl ⟨h5, t3⟩⟩
            rw [List.cons_append, List.cons_append, List.nil_append, ← e1, ← t2]
            exact m2
          · rw [m1] at t1; cases t1.1
        · simp only [if_neg h5] at b1 e1 ⊢
          refine ⟨b1, ?_, .inr ⟨h5, trivial⟩⟩
          rw [List.nil_append]
          exact e1
      obtain ⟨b2, e2, g2⟩ := hB
      generalize stB k (stC k (stQ k (stK k r).2.1 (stK k r).2.2).2.1 (stQ k (stK k r).2.1 (stK k r).2.2).2.2).2.1 (stC k (stQ k (stK k r).2.1 (stK k r).2.2).2.1 (stQ k (stK k r).2.1 (stK k r).2.2).2.2).2.2 = B at *
      have hC : (stQ k (stK k r).2.1 (stK k r).2.2).2.2 = false ∧
          (stQ k (stK k r).2.1 (stK k r).2.2).2.1 = (if (stC k (stQ k (stK k r).2.1 (stK k r).2.2).2.1 (stQ k (stK k r).2.1 (stK k r).2.2).2.2).1 ≠ [] then wOn :: (stC k (stQ k (stK k r).2.1 (stK k r).2.2).2.1 (stQ k (stK k r).2.1 (stK k r).2.2).2.2).1.map numT else []) ++ ((if k = 5 then [wTo, numT B.1] else []) ++ ifQ F.1) ∧
          ((stC k (stQ k (stK k r).2.1 (stK k r).2.2).2.1 (stQ k (stK k r).2.1 (stK k r).2.2).2.2).1 = [] ∨ (k = 2 ∨ k = 3 ∨ k = 4)) ∧ ∀ n ∈ (stC k (stQ k (stK k r).2.1 (stK k r).2.2).2.1 (stQ k (stK k r).2.1 (stK k r).2.2).2.2).1, okN n := by
        generalize stQ k (stK k r).2.1 (stK k r).2.2 = Q at *
        unfold stC at b2 e2 ⊢
        by_cases hg : (stG k Q.2.1).1 = true
        · rw [if_pos hg] at b2 e2 ⊢
          obtain ⟨t1, t2, t3, t4⟩ := many_inv b2
          unfold stG at hg t2 t3 t4 e2 ⊢
          by_cases hk' : k = 2 ∨ k = 3 ∨ k = 4
          · simp only [if_pos hk'] at hg t2 t3 t4 e2 ⊢
            rcases meets_inv (w := wOn) (r := Q.2.1) with ⟨m1, m2⟩ | ⟨m1, m2⟩
            · refine ⟨t1, ?_, .inr hk', t3⟩
              rw [if_pos t4, List.cons_append, ← e2, ← t2]
              exact m2
            · rw [m1] at hg; cases hg
          · rw [if_neg hk'] at hg; cases hg
        · rw [if_neg hg] at b2 e2 ⊢
          refine ⟨b2, ?_, .inl rfl, fun _ h => by cases h⟩
          rw [if_neg (by simp), List.nil_append, ← e2]
          unfold stG at hg ⊢
          by_cases hk' : k = 2 ∨ k = 3 ∨ k = 4
          · rw [if_pos hk'] at hg ⊢
            rcases meets_inv (w := wOn) (r := Q.2.1) with ⟨m1, m2⟩ | ⟨m1, m2⟩
            · exact absurd m1 hg
            · exact m2.symm
          · rw [if_neg hk']
      obtain ⟨b3, e3, g3, g4⟩ := hC
      generalize stC k (stQ k (stK k r).2.1 (stK k r).2.2).2.1 (stQ k (stK k r).2.1 (stK k r).2.2).2.2 = C at *
      have hQ : (stK k r).2.2 = false ∧ (stK k r).2.1 = (if k ≠ 1 then [numT (stQ k (stK k r).2.1 (stK k r).2.2).1] else []) ++ (stQ k (stK k r).2.1 (stK k r).2.2).2.1 ∧
          (k = 1 ∧ (stQ k (stK k r).2.1 (stK k r).2.2).1 = 0 ∨ k ≠ 1 ∧ okN (stQ k (stK k r).2.1 (stK k r).2.2).1) := by
        generalize stK k r = A at *
        unfold stQ at b3 ⊢
        by_cases h1 : k ≠ 1
        · simp only [if_pos h1] at b3 ⊢
          obtain ⟨t1, t2, t3⟩ := takes_inv b3
          exact ⟨t1, t2, .inr ⟨h1, t3⟩⟩
        · simp only [if_neg h1] at b3 ⊢
          exact ⟨b3, rfl, .inl ⟨Decidable.not_not.1 h1, trivial⟩⟩
      obtain ⟨b4, e4, g5⟩ := hQ
      generalize stQ k (stK k r).2.1 (stK k r).2.2 = Q at *
      have hA : r = (if k = 1 ∨ k = 4 then [numT (stK k r).1] else []) ++ (stK k r).2.1 ∧ ((k = 1 ∨ k = 4) ∧ okN (stK k r).1 ∨ ¬ (k = 1 ∨ k = 4) ∧ (stK k r).1 = 0) := by
        unfold stK at b4 ⊢
        by_cases h1 : k = 1 ∨ k = 4
        · simp only [if_pos h1] at b4 ⊢
          obtain ⟨t1, t2, t3⟩ := takes_inv b4
          exact ⟨t2, .inl ⟨h1, t3⟩⟩
        · simp only [if_neg h1] at b4 ⊢
          exact ⟨rfl, .inr ⟨h1, trivial⟩⟩
      obtain ⟨e5, g6⟩ := hA
      generalize stK k r = A at *
      refine ⟨⟨⟨hk1, hk6⟩, g6, g5, g3, g4, g2, g1⟩, ?_⟩
      congr 1
      rw [e5, e4, e3]
      simp only [tailQ, ifQ, List.append_assoc]
end
end Go.Ql
end

section
namespace Go.Ql
noncomputable section
abbrev Lst := Int × Int × List Int × List Int × List Int
def lst (s : Lst) (w : List UInt8) : Lst :=
  if w = wOn then (1, s.2) else if w = wTo then (2, s.2) else if w = wIf then (3, s.2)
  else if s.1 = 0 then (s.1, s.2.1, s.2.2.1 ++ [figV w], s.2.2.2.1, s.2.2.2.2)
  else if s.1 = 1 then (s.1, s.2.1, s.2.2.1, s.2.2.2.1 ++ [figV w], s.2.2.2.2)
  else if s.1 = 2 then (s.1, figV w, s.2.2.1, s.2.2.2.1, s.2.2.2.2)
  else if w.head? = some 33 then (s.1, s.2.1, s.2.2.1, s.2.2.2.1, s.2.2.2.2 ++ [-figV w.tail - 1])
  else (s.1, s.2.1, s.2.2.1, s.2.2.2.1, s.2.2.2.2 ++ [figV w + 1])
def loosT (r : List (List UInt8)) : Lst := r.foldl lst (0, 0, [], [], [])
def loosK (w : List UInt8) : Int := if kindS w = 0 then 1 else kindS w
def loosOp (k : Int) (t : Lst) : Op :=
  (k, (if (k = 1 ∨ k = 4) ∧ 0 < t.2.2.1.length then t.2.2.1.getD 0 0 else 0), t.2.2.2.1,
    (if k = 1 then 0 else if (k = 1 ∨ k = 4) ∧ 1 < t.2.2.1.length then t.2.2.1.getD 1 0 else if ¬ (k = 1 ∨ k = 4) ∧ 0 < t.2.2.1.length then t.2.2.1.getD 0 0 else 0), t.2.1, t.2.2.2.2)
def loosW : List (List UInt8) → Op
  | [] => (0, 0, [], 0, 0, [])
  | w :: r => loosOp (loosK w) (loosT r)
theorem idx_getD {l : List Int} {i : Int} (n : Nat) (hi : i = n) (h : n < l.length) : idx l i = some (l.getD n 0) := by
  subst hi
  rw [idx_get h]
  simp [h]
abbrev names : List (List UInt8) := [[], [112, 104, 97, 115, 101], [120], [104], [112], [109, 101, 97, 115, 117, 114, 101], [114, 101, 115, 101, 116]]
theorem names_word : ∀ k : Nat, 1 ≤ k → k ≤ 6 → idx names (k : Int) = some (word k) := by
  intro k h1 h2
  have : k = 1 ∨ k = 2 ∨ k = 3 ∨ k = 4 ∨ k = 5 ∨ k = 6 := by omega
  rcases this with rfl | rfl | rfl | rfl | rfl | rfl <;> decide
theorem lst_len (s : Lst) (w : List UInt8) : (lst s w).2.2.1.length ≤ s.2.2.1.length + 1 ∧ (lst s w).2.2.2.1.length ≤ s.2.2.2.1.length + 1 ∧ (lst s w).2.2.2.2.length ≤ s.2.2.2.2.length + 1 := by
  unfold lst
  repeat' split
  all_goals simp
end
end Go.Ql
end

section
namespace Go.Ql
noncomputable section
theorem getD_idx {l : List Int} {n : Nat} (h : n < l.length) : idx l (n : Int) = some (l.getD n 0) := idx_getD n rfl h
abbrev num11 (n : Int) : Prop := 0 ≤ n ∧ n ≤ 100000000000
abbrev con11 (v : Int) : Prop := if v < 0 then num11 (-v - 1) else num11 (v - 1)
def figC (v : Int) : Int := if v < 0 then -figV (numT (-v - 1)) - 1 else figV (numT (v - 1)) + 1
theorem lst_num {n : Int} (h : num11 n) (s : Lst) : lst s (numT n) = if s.1 = 0 then (s.1, s.2.1, s.2.2.1 ++ [figV (numT n)], s.2.2.2.1, s.2.2.2.2)
    else if s.1 = 1 then (s.1, s.2.1, s.2.2.1, s.2.2.2.1 ++ [figV (numT n)], s.2.2.2.2)
    else if s.1 = 2 then (s.1, figV (numT n), s.2.2.1, s.2.2.2.1, s.2.2.2.2)
    else (s.1, s.2.1, s.2.2.1, s.2.2.2.1, s.2.2.2.2 ++ [figV (numT n) + 1]) := by
  obtain ⟨_, _, f3, f4, f5, f6, _⟩ := numT_facts h
  unfold lst
  rw [if_neg f5, if_neg f6, if_neg f4, if_neg f3]
theorem lst_con {v : Int} (h : con11 v) (b : Int) (pl ct cs : List Int) : lst (3, b, pl, ct, cs) (condQ v) = (3, b, pl, ct, cs ++ [figC v]) := by
  unfold condQ figC
  by_cases hv : v < 0
  · have h : num11 (-v - 1) := by unfold con11 at h; rw [if_pos hv] at h; exact h
    rw [if_pos hv, if_pos hv]
    unfold lst
    simp
  · have h : num11 (v - 1) := by unfold con11 at h; rw [if_neg hv] at h; exact h
    rw [if_neg hv, if_neg hv, lst_num h, if_neg (by simp), if_neg (by simp), if_neg (by simp)]
theorem fold_ctl (l : List Int) (h : ∀ n ∈ l, num11 n) (b : Int) (pl ct cs : List Int) : (l.map numT).foldl lst (1, b, pl, ct, cs) = (1, b, pl, ct ++ l.map (fun n => figV (numT n)), cs) := by
  induction l generalizing ct with
  | nil => simp
  | cons n l ih =>
    simp only [List.map_cons, List.foldl_cons]
    rw [lst_num (h n (by simp)), if_neg (by simp), if_pos rfl]
    simp only
    rw [ih (fun x hx => h x (List.mem_cons_of_mem _ hx))]
    simp
theorem fold_con (l : List Int) (h : ∀ v ∈ l, con11 v) (b : Int) (pl ct cs : List Int) : (l.map condQ).foldl lst (3, b, pl, ct, cs) = (3, b, pl, ct, cs ++ l.map figC) := by
  induction l generalizing cs with
  | nil => simp
  | cons v l ih =>
    simp only [List.map_cons, List.foldl_cons]
    rw [lst_con (h v (by simp)), ih (fun x hx => h x (List.mem_cons_of_mem _ hx))]
    simp
/-- What keeps a line's words apart from its marks. -/
structure Form (o : Op) : Prop where
  kind : 1 ≤ o.1 ∧ o.1 ≤ 6
  k : num11 o.2.1
  q : num11 o.2.2.2.1
  ctls : ∀ n ∈ o.2.2.1, num11 n
  bit : num11 o.2.2.2.2.1
  cond : ∀ v ∈ o.2.2.2.2.2, con11 v
def readF (o : Op) : Op := (o.1, (if o.1 = 1 ∨ o.1 = 4 then figV (numT o.2.1) else 0), o.2.2.1.map (fun n => figV (numT n)), (if o.1 ≠ 1 then figV (numT o.2.2.2.1) else 0), (if o.1 = 5 then figV (numT o.2.2.2.2.1) else 0), o.2.2.2.2.2.map figC)
theorem loos_form (o : Op) (h : Form o) : loosW (word o.1 :: tailQ o) = readF o := by
  obtain ⟨k, a, ctl, q, bit, cond⟩ := o
  obtain ⟨h1, h2, h3, h4, h5, h6⟩ := h
  simp only at h1 h2 h3 h4 h5 h6
  have hK : loosK (word k) = k := by
    have hf := (word_facts k h1).1
    unfold loosK
    rw [hf, if_neg (by omega)]
  simp only [loosW, hK, readF, tailQ, loosT]
  -- the plain numbers
  have p0 : ((if k = 1 ∨ k = 4 then [numT a] else []) ++ (if k ≠ 1 then [numT q] else [])).foldl lst (0, 0, [], [], []) = (0, 0, (if k = 1 ∨ k = 4 then [figV (numT a)] else []) ++ (if k ≠ 1 then [figV (numT q)] else []), [], []) := by
    have hk : k = 1 ∨ k = 2 ∨ k = 3 ∨ k = 4 ∨ k = 5 ∨ k = 6 := by omega
    rcases hk with rfl | rfl | rfl | rfl | rfl | rfl <;> simp [lst_num h2, lst_num h3]
  have p1 : ∀ pl : List Int, (if ctl ≠ [] then wOn :: ctl.map numT else []).foldl lst (0, 0, pl, [], []) = ((if ctl ≠ [] then 1 else 0), 0, pl, ctl.map (fun n => figV (numT n)), []) := by
    intro pl
    by_cases hc : ctl = []
    · subst hc; rfl
    · rw [if_pos hc, if_pos hc, List.foldl_cons]
      have : lst (0, 0, pl, [], []) wOn = (1, 0, pl, [], []) := by unfold lst; rw [if_pos rfl]
      rw [this, fold_ctl ctl h4]
      simp
  have p2 : ∀ (p : Int) (pl ct : List Int), ∃ p', (if k = 5 then [wTo, numT bit] else []).foldl lst (p, 0, pl, ct, []) = (p', (if k = 5 then figV (numT bit) else 0), pl, ct, []) := by
    intro p pl ct
    by_cases hc : k = 5
    · rw [if_pos hc, if_pos hc]
      have : lst (p, 0, pl, ct, []) wTo = (2, 0, pl, ct, []) := by unfold lst; rw [if_neg (by decide), if_pos rfl]
      simp only [List.foldl_cons, List.foldl_nil, this, lst_num h5]
      exact ⟨2, by simp⟩
    · rw [if_neg hc, if_neg hc]
      exact ⟨p, rfl⟩
  have p3 : ∀ (p b : Int) (pl ct : List Int), ∃ p', (if cond ≠ [] then wIf :: cond.map condQ else []).foldl lst (p, b, pl, ct, []) = (p', b, pl, ct, cond.map figC) := by
    intro p b pl ct
    by_cases hc : cond = []
    · subst hc; exact ⟨p, rfl⟩
    · rw [if_pos hc, List.foldl_cons]
      have : lst (p, b, pl, ct, []) wIf = (3, b, pl, ct, []) := by unfold lst; rw [if_neg (by decide), if_neg (by decide), if_pos rfl]
      rw [this, fold_con cond h6]
      exact ⟨3, by simp⟩
  rw [List.foldl_append, List.foldl_append, List.foldl_append, p0, p1]
  obtain ⟨q2, e2⟩ := p2 (if ctl ≠ [] then 1 else 0) ((if k = 1 ∨ k = 4 then [figV (numT a)] else []) ++ (if k ≠ 1 then [figV (numT q)] else [])) (ctl.map (fun n => figV (numT n)))
  rw [e2]
  obtain ⟨q3, e3⟩ := p3 q2 (if k = 5 then figV (numT bit) else 0) ((if k = 1 ∨ k = 4 then [figV (numT a)] else []) ++ (if k ≠ 1 then [figV (numT q)] else [])) (ctl.map (fun n => figV (numT n)))
  rw [e3]
  have hk : k = 1 ∨ k = 2 ∨ k = 3 ∨ k = 4 ∨ k = 5 ∨ k = 6 := by omega
  rcases hk with rfl | rfl | rfl | rfl | rfl | rfl <;> simp [loosOp]
/-! ## A line written -/
theorem splus (t : List UInt8) (a : List UInt8) (h : t.length + a.length ≤ 9223372036854775807) : okIf (decide (List.length t + List.length a ≤ (9223372036854775807 : Nat))) = some () := okIf_true (by simpa using h)
abbrev spQ (n : Int) : List UInt8 := 32 :: numT n
theorem txt_len {n : Int} {l : List UInt8} (h : Txt n l) (hn : num11 n) : l.length ≤ 12 := by
  obtain ⟨h1, h2, h3, h4, h5⟩ := txt_pos h hn.1
  by_cases h0 : n = 0
  · rw [h4 h0]; decide
  · have hbig := dec_big (fun b hb => (isDig_iff b).1 (h1 b hb)) h2 (h5 h0)
    rw [h3] at hbig
    by_cases hl : l.length ≤ 12
    · exact hl
    · have h6 : (10 : Int) ^ 12 ≤ 10 ^ (l.length - 1) := pow_le (by decide) (by omega)
      have e : (10 : Int) ^ 12 = 1000000000000 := by decide
      have := hn.2
      omega
theorem numT_len {n : Int} (h : num11 n) : (numT n).length ≤ 12 := txt_len (numT_txt h).2 h
theorem condQ_len {v : Int} (h : con11 v) : (condQ v).length ≤ 13 := by
  unfold condQ
  by_cases hv : v < 0
  · unfold con11 at h
    rw [if_pos hv] at h ⊢
    have := numT_len h; simp; omega
  · unfold con11 at h
    rw [if_neg hv] at h ⊢
    have := numT_len h; omega
theorem spaced_len (ws : List (List UInt8)) (h : ∀ w ∈ ws, w.length ≤ 13) : (spaced ws).length ≤ 14 * ws.length := by
  induction ws with
  | nil => simp [spaced]
  | cons w ws ih =>
    have h1 := ih (fun x hx => h x (List.mem_cons_of_mem _ hx))
    have h2 := h w (by simp)
    simp only [spaced, List.flatMap_cons, List.length_append, List.length_cons] at h1 ⊢
    omega
theorem opText_ok (o : Op) (h : Form o) (l1 : o.2.2.1.length ≤ 100000000) (l2 : o.2.2.2.2.2.length ≤ 100000000) : W.R_opText o = some (word o.1 ++ spaced (tailQ o) ++ [10]) := by
  obtain ⟨k, a, ctl, q, bit, cond⟩ := o
  obtain ⟨h1, h2, h3, h4, h5, h6⟩ := h
  simp only at h1 h2 h3 h4 h5 h6 l1 l2
  have hname : idx names k = some (word k) := by
    obtain ⟨n, rfl⟩ := Int.eq_ofNat_of_zero_le (show 0 ≤ k by omega)
    exact names_word n (by omega) (by omega)
  have s1 : ∀ t : List UInt8, t.length ≤ 10000000000 → W.R_opText.c212293 t k a some = some (t ++ spaced (if k = 1 ∨ k = 4 then [numT a] else [])) := by
    intro t ht
    have h3 : W.R_opText.c3 k some = some (decide (k = 1 ∨ k = 4)) := by
      simp only [W.R_opText.c3, br_or]; exact some_dec (by simp)
    have hn := numT_len h2
    simp only [W.R_opText.c212293, h3, bnd_val]
    by_cases hk : k = 1 ∨ k = 4
    · rw [br_pos hk, (numT_txt h2).1, bnd_val, splus _ _ (by simp; omega), bnd_val, splus _ _ (by simp; omega), bnd_val, if_pos hk]
      simp [spaced]
    · rw [br_neg hk, if_neg hk]
      simp [spaced]
  have s2 : ∀ t : List UInt8, t.length ≤ 10000000000 → W.R_opText.c220485 t k q some = some (t ++ spaced (if k ≠ 1 then [numT q] else [])) := by
    intro t ht
    have hn := numT_len h3
    simp only [W.R_opText.c220485]
    by_cases hk : k ≠ 1
    · rw [br_true (by simpa using hk), (numT_txt h3).1, bnd_val, splus _ _ (by simp; omega), bnd_val, splus _ _ (by simp; omega), bnd_val, if_pos hk]
      simp [spaced]
    · rw [br_false (by simpa using hk), if_neg hk]
      simp [spaced]
  have s3 : ∀ t : List UInt8, t.length ≤ 10000000000 → ∃ t', W.R_opText.c228677 t ctl some = some t' ∧ ∃ i, iter (fun s : List UInt8 × Int ↦ W.R_opText.c100010 s.1 s.2 ctl some) (t', (0 : Int)) = some (t ++ spaced (if ctl ≠ [] then wOn :: ctl.map numT else []), i) := by
    intro t ht
    have loop : ∀ t : List UInt8, t.length ≤ 10000000010 → ∃ i, iter (fun s : List UInt8 × Int ↦ W.R_opText.c100010 s.1 s.2 ctl some) (t, (0 : Int)) = some (t ++ spaced (ctl.map numT), i) := by
      intro t ht
      have key : ∃ r, iter (fun s : List UInt8 × Int ↦ W.R_opText.c100010 s.1 s.2 ctl some) (t, (0 : Int)) = some r ∧ r.1 = t ++ spaced (ctl.map numT) := by
        refine iter_each (l := ctl) (fun pre _ s => s = (t ++ spaced (pre.map numT), (pre.length : Int))) _ ?_ ?_ (by simp [spaced])
        · rintro pre n r s rfl rfl
          simp only [List.length_append, List.length_cons] at l1
          have hn := h4 n (by simp)
          have hl := numT_len hn
          have hp := spaced_len (pre.map numT) (fun w hw => by
            obtain ⟨m, hm, rfl⟩ := List.mem_map.1 hw
            have := numT_len (h4 m (by simp [hm])); omega)
          rw [List.length_map] at hp
          simp only [W.R_opText.c100010, idx_mid, bnd_val]
          rw [br_true lt_app, (numT_txt hn).1, bnd_val, splus _ _ (by simp; omega), bnd_val, splus _ _ (by rw [List.length_append]; simp only [List.length_append, List.length_cons, List.length_nil]; omega), bnd_val, wrap_i64 (by omega)]
          refine .inl ⟨_, rfl, ?_⟩
          simp [spaced]
        · rintro s rfl
          simp only [W.R_opText.c100010]
          rw [br_neg (by simp)]
          exact ⟨_, rfl, rfl⟩
      obtain ⟨⟨t', i⟩, e1, e2⟩ := key
      simp only at e2
      subst e2
      exact ⟨i, e1⟩
    by_cases hc : ctl = []
    · obtain ⟨i, e⟩ := loop t (by omega)
      refine ⟨t, ?_, i, ?_⟩
      · simp only [W.R_opText.c228677]
        rw [br_neg (by simp [hc])]
      · rw [e, hc]; simp
    · obtain ⟨i, e⟩ := loop (t ++ [32, 111, 110]) (by simp; omega)
      refine ⟨t ++ [32, 111, 110], ?_, i, ?_⟩
      · simp only [W.R_opText.c228677]
        rw [br_pos (by have := List.length_pos_iff.2 hc; omega), splus _ _ (by simp; omega), bnd_val]
      · rw [e, if_pos hc]; simp [spaced]
  have s4 : ∀ t : List UInt8, t.length ≤ 10000000000 → W.R_opText.c253253 t k bit some = some (t ++ spaced (if k = 5 then [wTo, numT bit] else [])) := by
    intro t ht
    have hn := numT_len h5
    simp only [W.R_opText.c253253]
    by_cases hk : k = 5
    · rw [br_true (by simpa using hk), (numT_txt h5).1, bnd_val, splus _ _ (by simp; omega), bnd_val, splus _ _ (by simp; omega), bnd_val, if_pos hk]
      simp [spaced]
    · rw [br_false (by simpa using hk), if_neg hk]
      simp [spaced]
  have s5 : ∀ t : List UInt8, t.length ≤ 10000000000 → ∃ t', W.R_opText.c261445 t cond some = some t' ∧ ∃ i, iter (fun s : List UInt8 × Int ↦ W.R_opText.c100018 s.1 s.2 cond some) (t', (0 : Int)) = some (t ++ spaced (if cond ≠ [] then wIf :: cond.map condQ else []), i) := by
    intro t ht
    have loop : ∀ t : List UInt8, t.length ≤ 10000000010 → ∃ i, iter (fun s : List UInt8 × Int ↦ W.R_opText.c100018 s.1 s.2 cond some) (t, (0 : Int)) = some (t ++ spaced (cond.map condQ), i) := by
      intro t ht
      have key : ∃ r, iter (fun s : List UInt8 × Int ↦ W.R_opText.c100018 s.1 s.2 cond some) (t, (0 : Int)) = some r ∧ r.1 = t ++ spaced (cond.map condQ) := by
        refine iter_each (l := cond) (fun pre _ s => s = (t ++ spaced (pre.map condQ), (pre.length : Int))) _ ?_ ?_ (by simp [spaced])
        · rintro pre v r s rfl rfl
          simp only [List.length_append, List.length_cons] at l2
          have hv := h6 v (by simp)
          have hp := spaced_len (pre.map condQ) (fun w hw => by
            obtain ⟨m, hm, rfl⟩ := List.mem_map.1 hw
            exact condQ_len (h6 m (by simp [hm])))
          rw [List.length_map] at hp
          have hstep : W.R_opText.c281926 (t ++ spaced (pre.map condQ)) (pre.length : Int) (pre ++ v :: r) some = some (t ++ spaced (pre.map condQ) ++ 32 :: condQ v) := by
            simp only [W.R_opText.c281926, idx_mid, bnd_val]
            by_cases hpos : v > 0
            · have hn : num11 (v - 1) := by unfold con11 at hv; rw [if_neg (by omega)] at hv; exact hv
              have hl := numT_len hn
              rw [br_pos hpos, wrap_i64 (by have := hn.2; omega), (numT_txt hn).1, bnd_val, splus _ _ (by simp; omega), bnd_val, splus _ _ (by rw [List.length_append]; simp only [List.length_append, List.length_cons, List.length_nil]; omega), bnd_val]
              have e : condQ v = numT (v - 1) := by unfold condQ; rw [if_neg (by omega)]
              rw [e]
              simp
            · have hneg : v < 0 := by
                unfold con11 at hv
                by_cases h0 : v < 0
                · exact h0
                · rw [if_neg h0] at hv; have := hv.1; omega
              have hn : num11 (-v - 1) := by unfold con11 at hv; rw [if_pos hneg] at hv; exact hv
              have hl := numT_len hn
              have := hn.2
              rw [br_neg hpos, wrap_i64 (x := 0 - v) (by omega), wrap_i64 (by omega), show (0 : Int) - v - 1 = -v - 1 by omega, (numT_txt hn).1, bnd_val, splus _ _ (by simp; omega), bnd_val, splus _ _ (by rw [List.length_append]; simp only [List.length_append, List.length_cons, List.length_nil]; omega), bnd_val]
              have e : condQ v = 33 :: numT (-v - 1) := by unfold condQ; rw [if_pos hneg]
              rw [e]
              simp
          simp only [W.R_opText.c100018, hstep, bnd_val]
          rw [br_true lt_app, wrap_i64 (by omega)]
          refine .inl ⟨_, rfl, ?_⟩
          simp [spaced]
        · rintro s rfl
          simp only [W.R_opText.c100018]
          rw [br_neg (by simp)]
          exact ⟨_, rfl, rfl⟩
      obtain ⟨⟨t', i⟩, e1, e2⟩ := key
      simp only at e2
      subst e2
      exact ⟨i, e1⟩
    by_cases hc : cond = []
    · obtain ⟨i, e⟩ := loop t (by omega)
      refine ⟨t, ?_, i, ?_⟩
      · simp only [W.R_opText.c261445]
        rw [br_neg (by simp [hc])]
      · rw [e, hc]; simp
    · obtain ⟨i, e⟩ := loop (t ++ [32, 105, 102]) (by simp; omega)
      refine ⟨t ++ [32, 105, 102], ?_, i, ?_⟩
      · simp only [W.R_opText.c261445]
        rw [br_pos (by have := List.length_pos_iff.2 hc; omega), splus _ _ (by simp; omega), bnd_val]
      · rw [e, if_pos hc]; simp [spaced]
  have hw := word_len k
  have la := spaced_len (if k = 1 ∨ k = 4 then [numT a] else []) (fun w hw => by
    split at hw
    · rw [List.mem_singleton.1 hw]; have := numT_len h2; omega
    · cases hw)
  have lq := spaced_len (if k ≠ 1 then [numT q] else []) (fun w hw => by
    split at hw
    · rw [List.mem_singleton.1 hw]; have := numT_len h3; omega
    · cases hw)
  have lb := spaced_len (if k = 5 then [wTo, numT bit] else []) (fun w hw => by
    split at hw
    · rcases List.mem_cons.1 hw with rfl | hw
      · decide
      · rw [List.mem_singleton.1 hw]; have := numT_len h5; omega
    · cases hw)
  have lc := spaced_len (if ctl ≠ [] then wOn :: ctl.map numT else []) (fun w hw => by
    split at hw
    · rcases List.mem_cons.1 hw with rfl | hw
      · decide
      · obtain ⟨m, hm, rfl⟩ := List.mem_map.1 hw
        have := numT_len (h4 m hm); omega
    · cases hw)
  have ld := spaced_len (if cond ≠ [] then wIf :: cond.map condQ else []) (fun w hw => by
    split at hw
    · rcases List.mem_cons.1 hw with rfl | hw
      · decide
      · obtain ⟨m, hm, rfl⟩ := List.mem_map.1 hw
        exact condQ_len (h6 m hm)
    · cases hw)
  have na : (if k = 1 ∨ k = 4 then [numT a] else []).length ≤ 1 := by split <;> simp
  have nq : (if k ≠ 1 then [numT q] else []).length ≤ 1 := by split <;> simp
  have nb : (if k = 5 then [wTo, numT bit] else []).length ≤ 2 := by split <;> simp
  have nc : (if ctl ≠ [] then wOn :: ctl.map numT else []).length ≤ 100000001 := by split <;> simp; omega
  have nd : (if cond ≠ [] then wIf :: cond.map condQ else []).length ≤ 100000001 := by split <;> simp; omega
  generalize hA : spaced (if k = 1 ∨ k = 4 then [numT a] else []) = A at *
  generalize hQ : spaced (if k ≠ 1 then [numT q] else []) = Q at *
  generalize hC : spaced (if ctl ≠ [] then wOn :: ctl.map numT else []) = C at *
  generalize hB : spaced (if k = 5 then [wTo, numT bit] else []) = B at *
  generalize hD : spaced (if cond ≠ [] then wIf :: cond.map condQ else []) = D at *
  obtain ⟨t3, e3, i3, f3⟩ := s3 (word k ++ A ++ Q) (by simp only [List.length_append]; omega)
  obtain ⟨t5, e5, i5, f5⟩ := s5 (word k ++ A ++ Q ++ C ++ B) (by simp only [List.length_append]; omega)
  have hbig : (word k ++ A ++ Q ++ C ++ B ++ D).length ≤ 10000000000 := by simp only [List.length_append]; omega
  have tl : spaced (tailQ (k, a, ctl, q, bit, cond)) = A ++ Q ++ C ++ B ++ D := by
    simp only [tailQ, spaced_app, ← hA, ← hQ, ← hC, ← hB, ← hD]
  simp only [W.R_opText]
  show bnd (idx names k) _ = _
  rw [hname]
  simp only [bnd_val, s1 _ (show (word k).length ≤ 10000000000 by omega)]
  rw [s2 _ (by simp only [List.length_append]; omega)]
  simp only [bnd_val, e3]
  rw [f3]
  simp only [bnd_val]
  rw [s4 _ (by simp only [List.length_append]; omega)]
  simp only [bnd_val, e5]
  rw [f5]
  simp only [bnd_val]
  rw [splus _ _ (by simp only [List.length_append] at hbig ⊢; simp; omega), bnd_val, tl]
  simp
end
end Go.Ql
end

section
namespace Go.Ql
noncomputable section
/-! ## Lines -/
theorem cut_join (c : UInt8) : ∀ (l : List UInt8) {w : List UInt8} {ws : List (List UInt8)}, cut c l = w :: ws → l = w ++ ws.flatMap (fun x => c :: x)
  | [], w, ws, h => by
    simp only [cut, List.cons.injEq] at h
    obtain ⟨rfl, rfl⟩ := h
    rfl
  | b :: l, w, ws, h => by
    unfold cut at h
    by_cases hb : b = c
    · rw [if_pos hb] at h
      injection h with h1 h2
      subst h1
      match hc : cut c l, cut_ne c l with
      | x :: xs, _ =>
        have ih := cut_join c l hc
        rw [hc] at h2
        subst h2
        rw [ih, hb]
        simp
    · rw [if_neg hb] at h
      match hc : cut c l, cut_ne c l with
      | x :: xs, _ =>
        have ih := cut_join c l hc
        rw [hc] at h
        injection h with h1 h2
        subst h1; subst h2
        rw [ih]
        simp
theorem okN_num {n : Int} (h : okN n) : num11 n := ⟨h.1, by have := h.2; omega⟩
theorem Wide.form {o : Op} (h : Wide o) : Form o := by
  refine ⟨h.kind, ?_, ?_, fun n hn => okN_num (h.ctls n hn), ?_, fun v hv => ?_⟩
  · rcases h.k with h | h
    · exact okN_num h.2
    · rw [h.2]; exact ⟨by decide, by decide⟩
  · rcases h.q with h | h
    · rw [h.2]; exact ⟨by decide, by decide⟩
    · exact okN_num h.2
  · rcases h.bit with h | h
    · exact okN_num h.2
    · rw [h.2]; exact ⟨by decide, by decide⟩
  · have hc := (h.cond v hv).2
    unfold con11
    by_cases hv0 : v < 0
    · rw [if_pos hv0] at hc ⊢; exact okN_num hc
    · rw [if_neg hv0] at hc ⊢; exact okN_num hc
theorem map_id' {α : Type} {f : α → α} {l : List α} (h : ∀ x ∈ l, f x = x) : l.map f = l := by
  conv => rhs; rw [← List.map_id l]
  exact List.map_congr_left h
theorem figC_ok {v : Int} (h : okC v) : figC v = v := by
  unfold figC
  have hc := h.2
  by_cases hv : v < 0
  · rw [if_pos hv] at hc ⊢; rw [(okN_numS hc).2]; omega
  · rw [if_neg hv] at hc ⊢; rw [(okN_numS hc).2]; omega
theorem readF_wide {o : Op} (h : Wide o) : readF o = o := by
  obtain ⟨k, a, ctl, q, bit, cond⟩ := o
  obtain ⟨h1, h2, h3, h4, h5, h6, h7⟩ := h
  simp only at h1 h2 h3 h4 h5 h6 h7
  have e1 : (if k = 1 ∨ k = 4 then figV (numT a) else 0) = a := by
    rcases h2 with ⟨x, y⟩ | ⟨x, y⟩
    · rw [if_pos x, (okN_numS y).2]
    · rw [if_neg x, y]
  have e2 : (if k ≠ 1 then figV (numT q) else 0) = q := by
    rcases h3 with ⟨x, y⟩ | ⟨x, y⟩
    · rw [if_neg (by simp [x]), y]
    · rw [if_pos x, (okN_numS y).2]
  have e3 : (if k = 5 then figV (numT bit) else 0) = bit := by
    rcases h6 with ⟨x, y⟩ | ⟨x, y⟩
    · rw [if_pos x, (okN_numS y).2]
    · rw [if_neg x, y]
  simp only [readF, e1, e2, e3, map_id' (fun n hn => (okN_numS (h5 n hn)).2), map_id' (fun v hv => figC_ok (h7 v hv))]
theorem lst_bound (s : Lst) (w : List UInt8) (h : num11 s.2.1 ∧ (∀ n ∈ s.2.2.1, num11 n) ∧ (∀ n ∈ s.2.2.2.1, num11 n) ∧ ∀ v ∈ s.2.2.2.2, con11 v) :
    num11 (lst s w).2.1 ∧ (∀ n ∈ (lst s w).2.2.1, num11 n) ∧ (∀ n ∈ (lst s w).2.2.2.1, num11 n) ∧ ∀ v ∈ (lst s w).2.2.2.2, con11 v := by
  obtain ⟨h1, h2, h3, h4⟩ := h
  have hf := figV_bound w
  have hf' := figV_bound w.tail
  have n1 : num11 (figV w) := ⟨hf.1, by omega⟩
  have c1 : con11 (-figV w.tail - 1) := by unfold con11; rw [if_pos (by omega)]; exact ⟨by omega, by omega⟩
  have c2 : con11 (figV w + 1) := by unfold con11; rw [if_neg (by omega)]; exact ⟨by omega, by omega⟩
  have snoc : ∀ {l : List Int} {x : Int} {P : Int → Prop}, (∀ n ∈ l, P n) → P x → ∀ n ∈ l ++ [x], P n := fun hl hx n hn => by
    rcases List.mem_append.1 hn with hn | hn
    · exact hl n hn
    · rw [List.mem_singleton.1 hn]; exact hx
  unfold lst
  by_cases b1 : w = wOn
  · rw [if_pos b1]; exact ⟨h1, h2, h3, h4⟩
  rw [if_neg b1]
  by_cases b2 : w = wTo
  · rw [if_pos b2]; exact ⟨h1, h2, h3, h4⟩
  rw [if_neg b2]
  by_cases b3 : w = wIf
  · rw [if_pos b3]; exact ⟨h1, h2, h3, h4⟩
  rw [if_neg b3]
  by_cases b4 : s.1 = 0
  · rw [if_pos b4]; exact ⟨h1, snoc h2 n1, h3, h4⟩
  rw [if_neg b4]
  by_cases b5 : s.1 = 1
  · rw [if_pos b5]; exact ⟨h1, h2, snoc h3 n1, h4⟩
  rw [if_neg b5]
  by_cases b6 : s.1 = 2
  · rw [if_pos b6]; exact ⟨n1, h2, h3, h4⟩
  rw [if_neg b6]
  by_cases b7 : w.head? = some 33
  · rw [if_pos b7]; exact ⟨h1, h2, h3, snoc h4 c1⟩
  · rw [if_neg b7]; exact ⟨h1, h2, h3, snoc h4 c2⟩
theorem loosT_bound : ∀ (r : List (List UInt8)) (s : Lst), (num11 s.2.1 ∧ (∀ n ∈ s.2.2.1, num11 n) ∧ (∀ n ∈ s.2.2.2.1, num11 n) ∧ ∀ v ∈ s.2.2.2.2, con11 v) →
    num11 (r.foldl lst s).2.1 ∧ (∀ n ∈ (r.foldl lst s).2.2.1, num11 n) ∧ (∀ n ∈ (r.foldl lst s).2.2.2.1, num11 n) ∧ ∀ v ∈ (r.foldl lst s).2.2.2.2, con11 v
  | [], _, h => h
  | w :: r, s, h => loosT_bound r (lst s w) (lst_bound s w h)
theorem loosT_len : ∀ (r : List (List UInt8)) (s : Lst), (r.foldl lst s).2.2.2.1.length ≤ s.2.2.2.1.length + r.length ∧ (r.foldl lst s).2.2.2.2.length ≤ s.2.2.2.2.length + r.length
  | [], _ => ⟨Nat.le_refl _, Nat.le_refl _⟩
  | w :: r, s => by
    have h1 := loosT_len r (lst s w)
    have h2 := lst_len s w
    simp only [List.foldl_cons, List.length_cons]
    omega
theorem loosK_bound (w : List UInt8) : 1 ≤ loosK w ∧ loosK w ≤ 6 := by
  unfold loosK
  by_cases h : kindS w = 0
  · rw [if_pos h]; decide
  · rw [if_neg h]; have := kindS_inv h; exact ⟨this.2.1, this.2.2⟩
theorem getD_num {l : List Int} (h : ∀ n ∈ l, num11 n) (i : Nat) : num11 (l.getD i 0) := by
  by_cases hi : i < l.length
  · have : l.getD i 0 = l[i] := by simp [hi]
    rw [this]; exact h _ (List.getElem_mem hi)
  · have : l.getD i 0 = 0 := by simp [List.getD_eq_getElem?_getD, List.getElem?_eq_none (show l.length ≤ i by omega)]
    rw [this]; exact ⟨by decide, by decide⟩
theorem loos_shape {w : List UInt8} {r : List (List UInt8)} (hws : Ws (w :: r)) : Form (loosW (w :: r)) ∧ (loosW (w :: r)).2.2.1.length ≤ 100000000 ∧ (loosW (w :: r)).2.2.2.2.2.length ≤ 100000000 := by
  have hb := loosT_bound r (0, 0, [], [], []) ⟨⟨by decide, by decide⟩, (fun _ h => by cases h), (fun _ h => by cases h), (fun _ h => by cases h)⟩
  have hl := loosT_len r (0, 0, [], [], [])
  have hf := hws.few
  have z : num11 0 := ⟨by decide, by decide⟩
  obtain ⟨b1, b2, b3, b4⟩ := hb
  simp only [List.length_nil, List.length_cons] at hl hf
  refine ⟨⟨loosK_bound w, ?_, ?_, b3, b1, b4⟩, ?_, ?_⟩
  · show num11 (if _ then _ else _)
    split
    · exact getD_num b2 0
    · exact z
  · show num11 (if _ then _ else _)
    split
    · exact z
    · split
      · exact getD_num b2 1
      · split
        · exact getD_num b2 0
        · exact z
  · show (loosT r).2.2.2.1.length ≤ _
    have : (loosT r).2.2.2.1.length ≤ 0 + r.length := hl.1
    omega
  · show (loosT r).2.2.2.2.length ≤ _
    have : (loosT r).2.2.2.2.length ≤ 0 + r.length := hl.2
    omega
theorem tailQ_facts {o : Op} (h : Form o) : ∀ w ∈ tailQ o, (32 : UInt8) ∉ w := by
  intro w hw
  unfold tailQ at hw
  simp only [List.mem_append] at hw
  rcases hw with (((hw | hw) | hw) | hw) | hw
  · split at hw
    · rw [List.mem_singleton.1 hw]; exact (numT_facts h.k).1
    · cases hw
  · split at hw
    · rw [List.mem_singleton.1 hw]; exact (numT_facts h.q).1
    · cases hw
  · split at hw
    · rcases List.mem_cons.1 hw with rfl | hw
      · decide
      · obtain ⟨n, hn, rfl⟩ := List.mem_map.1 hw
        exact (numT_facts (h.ctls n hn)).1
    · cases hw
  · split at hw
    · rcases List.mem_cons.1 hw with rfl | hw
      · decide
      · rw [List.mem_singleton.1 hw]; exact (numT_facts h.bit).1
    · cases hw
  · split at hw
    · rcases List.mem_cons.1 hw with rfl | hw
      · decide
      · obtain ⟨v, hv, rfl⟩ := List.mem_map.1 hw
        have hc := h.cond v hv
        unfold condQ
        unfold con11 at hc
        by_cases hv0 : v < 0
        · rw [if_pos hv0] at hc ⊢
          simp [(numT_facts hc).1]
        · rw [if_neg hv0] at hc ⊢
          exact (numT_facts hc).1
    · cases hw
/-- Is a line right, as the document says? -/
def rightS (line : List UInt8) : Prop :=
  ((loosW (cut 32 line)).2.2.1 = [] ∨ (loosW (cut 32 line)).1 = 2 ∨ (loosW (cut 32 line)).1 = 3 ∨ (loosW (cut 32 line)).1 = 4) ∧
    word (loosW (cut 32 line)).1 ++ spaced (tailQ (loosW (cut 32 line))) = line
theorem right_iff (line : List UInt8) (hl : line.length ≤ 10000000) : (rightS line ↔ (opW (cut 32 line)).2 = true) ∧ ((opW (cut 32 line)).2 = true → (opW (cut 32 line)).1 = loosW (cut 32 line)) := by
  have hws := cut_ws 32 line hl
  have back : (opW (cut 32 line)).2 = true → (opW (cut 32 line)).1 = loosW (cut 32 line) ∧ rightS line := by
    intro h
    obtain ⟨hw, he⟩ := opW_inv h
    have hlo : loosW (cut 32 line) = (opW (cut 32 line)).1 := by
      conv => lhs; rw [he]
      rw [loos_form _ hw.form, readF_wide hw]
    refine ⟨hlo.symm, ?_⟩
    unfold rightS
    rw [hlo]
    exact ⟨hw.ctl, (cut_join 32 line he).symm⟩
  refine ⟨⟨fun h => ?_, fun h => (back h).2⟩, fun h => (back h).1⟩
  obtain ⟨h1, h2⟩ := h
  match hc : cut 32 line, cut_ne 32 line with
  | w :: r, _ =>
  rw [hc] at hws
  obtain ⟨hf, _, _⟩ := loos_shape hws
  rw [hc] at h1 h2
  generalize ho : loosW (w :: r) = o at *
  have hk := word_facts o.1 hf.kind
  have hcut : cut 32 line = word o.1 :: tailQ o := by
    rw [← h2, cut_spaced _ _ hk.2.1 (tailQ_facts hf)]
  rw [hc] at hcut
  have hr := loos_form o hf
  rw [← hcut, ho] at hr
  have hW : Wide o := by
    obtain ⟨k, a, ctl, q, bit, cond⟩ := o
    obtain ⟨f1, f2, f3, f4, f5, f6⟩ := hf
    simp only at f1 f2 f3 f4 f5 f6 h1
    simp only [readF, Prod.mk.injEq] at hr
    obtain ⟨_, r1, r2, r3, r4, r5⟩ := hr
    have getctl : ∀ n ∈ ctl, figV (numT n) = n := fun n hn => by
      obtain ⟨i, hi, rfl⟩ := List.getElem_of_mem hn
      have := congrArg (fun l => l[i]?) r2
      simp only [List.getElem?_map, List.getElem?_eq_getElem hi, Option.map_some, Option.some.injEq] at this
      exact this.symm
    have getcon : ∀ v ∈ cond, figC v = v := fun v hv => by
      obtain ⟨i, hi, rfl⟩ := List.getElem_of_mem hv
      have := congrArg (fun l => l[i]?) r5
      simp only [List.getElem?_map, List.getElem?_eq_getElem hi, Option.map_some, Option.some.injEq] at this
      exact this.symm
    refine ⟨f1, ?_, ?_, h1, fun n hn => okN_of_fig (f4 n hn) (getctl n hn), ?_, fun v hv => ?_⟩
    · by_cases hk : k = 1 ∨ k = 4
      · rw [if_pos hk] at r1; exact .inl ⟨hk, okN_of_fig f2 r1.symm⟩
      · rw [if_neg hk] at r1; exact .inr ⟨hk, r1⟩
    · by_cases hk : k = 1
      · rw [if_neg (by simp [hk])] at r3; exact .inl ⟨hk, r3⟩
      · rw [if_pos hk] at r3; exact .inr ⟨hk, okN_of_fig f3 r3.symm⟩
    · by_cases hk : k = 5
      · rw [if_pos hk] at r4; exact .inl ⟨hk, okN_of_fig f5 r4.symm⟩
      · rw [if_neg hk] at r4; exact .inr ⟨hk, r4⟩
    · have hc := f6 v hv
      have hg := getcon v hv
      have hb1 := figV_bound (numT (-v - 1))
      have hb2 := figV_bound (numT (v - 1))
      unfold figC at hg
      unfold con11 at hc
      unfold okC
      by_cases hv0 : v < 0
      · rw [if_pos hv0] at hc hg ⊢
        exact ⟨by omega, okN_of_fig hc (by omega)⟩
      · rw [if_neg hv0] at hc hg ⊢
        exact ⟨by omega, okN_of_fig hc (by omega)⟩
  rw [hcut, opW, if_neg (by rw [hk.1]; have := hf.kind; omega), hk.1, opR_q o hW]
end
end Go.Ql
end

section
namespace Go.Ql
noncomputable section
def headQ (q b : Int) : List UInt8 := wQubits ++ spaced [numT q, wBits, numT b]
theorem head_inv {ws : List (List UInt8)} (h : (headS ws).2.2 = false) : ws = [wQubits, numT (headS ws).1, wBits, numT (headS ws).2.1] ∧ okN (headS ws).1 ∧ okN (headS ws).2.1 := by
  simp only [headS, Bool.or_eq_false_iff, decide_eq_false_iff_not, Decidable.not_not] at h ⊢
  obtain ⟨h1, h2⟩ := h
  unfold headB at h1 h2 ⊢
  obtain ⟨t1, t2, t3⟩ := takes_inv h1
  rw [h2] at t2
  simp only [Bool.or_eq_false_iff, Bool.not_eq_false'] at t1
  obtain ⟨t1a, t1b⟩ := t1
  have hm : (headA ws).2.1 = wBits :: (meetsS wBits (headA ws).2.1).2 := by
    rcases meets_inv (w := wBits) (r := (headA ws).2.1) with ⟨m1, m2⟩ | ⟨m1, m2⟩
    · exact m2
    · rw [m1] at t1a; cases t1a
  rw [t2] at hm
  generalize (takesS (meetsS wBits (headA ws).2.1).2 (!(meetsS wBits (headA ws).2.1).1 || (headA ws).2.2)).1 = b at *
  unfold headA at t1b hm ⊢
  by_cases hq : (meetsS wQubits ws).1 = true
  · simp only [if_pos hq] at t1b hm ⊢
    obtain ⟨s1, s2, s3⟩ := takes_inv t1b
    rw [hm] at s2
    rcases meets_inv (w := wQubits) (r := ws) with ⟨m1, m2⟩ | ⟨m1, m2⟩
    · refine ⟨?_, s3, t3⟩
      rw [s2] at m2
      exact m2
    · rw [m1] at hq; cases hq
  · simp only [if_neg hq] at t1b
    cases t1b
theorem head_ok {q b : Int} (hq : okN q) (hb : okN b) : headS [wQubits, numT q, wBits, numT b] = (q, b, false) := by
  simp [headS, headA, headB, meetsS, takesS, (okN_numS hq).1, (okN_numS hb).1]
def headN (ws : List (List UInt8)) : Int × Int := if ws.length = 4 then (figV (ws.getD 1 []), figV (ws.getD 3 [])) else (0, 0)
theorem headN_bound (ws : List (List UInt8)) : num11 (headN ws).1 ∧ num11 (headN ws).2 := by
  unfold headN
  split
  · have h1 := figV_bound (ws.getD 1 []); have h2 := figV_bound (ws.getD 3 [])
    exact ⟨⟨h1.1, by show figV _ ≤ _; omega⟩, ⟨h2.1, by show figV _ ≤ _; omega⟩⟩
  · exact ⟨⟨by decide, by decide⟩, ⟨by decide, by decide⟩⟩
theorem head_iff (h : List UInt8) : (h = headQ (headN (cut 32 h)).1 (headN (cut 32 h)).2 ↔ (headS (cut 32 h)).2.2 = false) ∧ ((headS (cut 32 h)).2.2 = false → headN (cut 32 h) = ((headS (cut 32 h)).1, (headS (cut 32 h)).2.1)) := by
  have back : (headS (cut 32 h)).2.2 = false → headN (cut 32 h) = ((headS (cut 32 h)).1, (headS (cut 32 h)).2.1) ∧ h = headQ (headS (cut 32 h)).1 (headS (cut 32 h)).2.1 := by
    intro hb
    obtain ⟨h1, h2, h3⟩ := head_inv hb
    refine ⟨?_, cut_join 32 h h1⟩
    generalize (headS (cut 32 h)).1 = q at *
    generalize (headS (cut 32 h)).2.1 = b at *
    rw [h1]
    simp only [headN, List.length_cons, List.length_nil, if_true]
    show (figV (numT q), figV (numT b)) = _
    rw [(okN_numS h2).2, (okN_numS h3).2]
  refine ⟨⟨fun he => ?_, fun hb => ?_⟩, fun hb => (back hb).1⟩
  · obtain ⟨n1, n2⟩ := headN_bound (cut 32 h)
    have hcut : cut 32 h = [wQubits, numT (headN (cut 32 h)).1, wBits, numT (headN (cut 32 h)).2] := by
      conv => lhs; rw [he]
      exact cut_spaced _ _ (by decide) (fun x hx => by
        simp only [List.mem_cons, List.mem_nil_iff, or_false] at hx
        rcases hx with rfl | rfl | rfl
        · exact (numT_facts n1).1
        · decide
        · exact (numT_facts n2).1)
    have hN : headN (cut 32 h) = (figV (numT (headN (cut 32 h)).1), figV (numT (headN (cut 32 h)).2)) := by
      conv => lhs; rw [hcut]
      rfl
    have o1 := okN_of_fig n1 (congrArg Prod.fst hN).symm
    have o2 := okN_of_fig n2 (congrArg Prod.snd hN).symm
    rw [hcut, head_ok o1 o2]
  · obtain ⟨b1, b2⟩ := back hb
    rw [b1]
    exact b2
end
end Go.Ql
end

section
namespace Go.Ql
noncomputable section
theorem numT_dec {n : Int} (h : 0 ≤ n ∧ n < 100) : numT n = decI n := by
  have h1 := (decI_facts h).1
  unfold numS at h1
  split at h1
  · rename_i ho
    have h2 : numV (decI n) = n := congrArg Prod.fst h1
    have h3 := (word_numT ho).1
    rw [h2] at h3
    exact h3.symm
  · cases h1
theorem cond_bounds {o : Op} {qn bn : Int} (h : GoodOp o qn bn) (hb : bn ≤ 12) : ∀ v ∈ o.2.2.2.2.2, v ≠ 0 ∧ v ≤ 12 ∧ -12 ≤ v := by
  intro v hv
  have h0 : ¬ (v = 0 ∨ bn < v ∨ v < -bn) := fun hh => h.cond ⟨v, hv, hh⟩
  omega
theorem ctl_bounds {o : Op} {qn bn : Int} (h : GoodOp o qn bn) (hq : qn ≤ 12) : ∀ n ∈ o.2.2.1, 0 ≤ n ∧ n < 100 := by
  intro n hn
  have := (ctlBad_zero.1 h.ctls).1 n hn
  omega
theorem bit_bounds {o : Op} {qn bn : Int} (h : GoodOp o qn bn) (hb : bn ≤ 12) : 0 ≤ o.2.2.2.2.1 ∧ o.2.2.2.2.1 < 100 := by
  rcases h.bit with h | h <;> omega
theorem good_form {o : Op} {qn bn : Int} (h : GoodOp o qn bn) (hq : qn ≤ 12) (hb : bn ≤ 12) : Form o := by
  refine ⟨h.kind, ⟨h.k.1, by have := h.k; omega⟩, ⟨h.q.1, by have := h.q; omega⟩, fun n hn => ?_, ⟨(bit_bounds h hb).1, by have := bit_bounds h hb; omega⟩, fun v hv => ?_⟩
  · have := ctl_bounds h hq n hn; exact ⟨this.1, by omega⟩
  · have := cond_bounds h hb v hv
    unfold con11
    split <;> exact ⟨by omega, by omega⟩
theorem tail_same {o : Op} {qn bn : Int} (h : GoodOp o qn bn) (hq : qn ≤ 12) (hb : bn ≤ 12) : tailQ o = tailW o := by
  unfold tailQ tailW
  have e1 : numT o.2.1 = decI o.2.1 := numT_dec (by have := h.k; omega)
  have e2 : numT o.2.2.2.1 = decI o.2.2.2.1 := numT_dec (by have := h.q; omega)
  have e3 : o.2.2.1.map numT = o.2.2.1.map decI := List.map_congr_left fun n hn => numT_dec (ctl_bounds h hq n hn)
  have e4 : numT o.2.2.2.2.1 = decI o.2.2.2.2.1 := numT_dec (bit_bounds h hb)
  have e5 : o.2.2.2.2.2.map condQ = o.2.2.2.2.2.map condT := List.map_congr_left fun v hv => by
    have := cond_bounds h hb v hv
    unfold condQ condT
    split
    · rw [numT_dec (by omega)]
    · rw [numT_dec (by omega)]
  rw [e1, e2, e3, e4, e5]
theorem opText_line {o : Op} {qn bn : Int} (h : GoodOp o qn bn) (hq : qn ≤ 12) (hb : bn ≤ 12) : W.R_opText o = some (lineT o) := by
  have h1 := (h.len hq).2
  have h2 := h.ifs
  rw [opText_ok o (good_form h hq hb) (by omega) (by omega), tail_same h hq hb, lineT_eq, lineB_eq]
theorem bytes_back (l : List UInt8) : (ints l).map (fun n => UInt8.ofNat n.toNat) = l := by
  unfold ints
  rw [List.map_map]
  have : ((fun n : Int => UInt8.ofNat n.toNat) ∘ fun b : UInt8 => (b.toNat : Int)) = id := by
    funext b
    simp
  rw [this, List.map_id]
theorem rprint_ok (c : Cir) (hc : WCir c) : W.R_Print c = some (if (chk c).1 ≠ 0 then ([], chk c) else (printT c, (0, 0))) := by
  simp only [W.R_Print, W.R_Print.c3, WCir.eta, rcheck_ok c hc, bnd_val]
  by_cases h1 : (chk c).1 = 0
  · obtain ⟨hg, hz⟩ := good_of h1
    rw [br_false (by simp [h1]), if_neg (by simp [h1])]
    obtain ⟨q, b, ops⟩ := c
    have hq := hg.q
    have hb := hg.b
    have hn := hg.n
    have hops := hg.ops
    simp only at hq hb hn hops
    have l1 := decI_len q
    have l2 := decI_len b
    have nq := (numT_txt (n := q) ⟨by omega, by omega⟩).1
    have nb := (numT_txt (n := b) ⟨by omega, by omega⟩).1
    rw [numT_dec (by omega)] at nq nb
    have c4 : W.R_Print.c4 q b some = some (ints (headT q b)) := by
      simp only [W.R_Print.c4]
      rw [nq, bnd_val, okIf_true (by rw [decide_eq_true_eq]; show 7 + _ ≤ _; omega), bnd_val]
      rw [okIf_true (by rw [decide_eq_true_eq, List.length_append]; show 7 + _ + 6 ≤ _; omega), bnd_val, nb, bnd_val]
      rw [okIf_true (by rw [decide_eq_true_eq, List.length_append, List.length_append]; show 7 + _ + 6 + _ ≤ _; omega), bnd_val]
      rw [okIf_true (by rw [decide_eq_true_eq, List.length_append, List.length_append, List.length_append]; show 7 + _ + 6 + _ + 1 ≤ _; omega), bnd_val]
      rw [okIf_true (by rw [decide_eq_true_eq, List.length_append, List.length_append, List.length_append, List.length_append]; show 7 + _ + 6 + _ + 1 ≤ _; omega), bnd_val]
      rfl
    have key : ∃ r, iter (fun s : Int × List Int ↦ W.R_Print.c100006 s.1 ops s.2 some) ((0 : Int), ints (headT q b)) = some r ∧ r.2 = ints (printT (q, b, ops)) := by
      refine iter_each (l := ops) (fun pre r s => s = ((pre.length : Int), ints (headT q b ++ pre.flatMap lineT)) ∧ (pre.flatMap lineT).length ≤ 200 * pre.length) _ ?_ ?_ (by simp)
      · rintro pre o r s rfl ⟨rfl, hl⟩
        simp only [List.length_append, List.length_cons] at hn
        have ho := goodOp_of (hops o (by simp))
        have hlo := (ho.len hq.2).1
        simp only [W.R_Print.c100006, br_if, idx_mid, bnd_val]
        rw [if_pos lt_app, opText_line ho hq.2 hb.2, bnd_val, okIf_true (by
          rw [decide_eq_true_eq, ints_len, List.length_append]
          have : (headT q b).length ≤ 20 := by (unfold headT; simp only [List.length_append, List.length_cons, List.length_nil]; omega)
          omega), bnd_val, wrap_i64 (by omega)]
        refine .inl ⟨_, rfl, ?_, ?_⟩
        · have e : List.map (fun b : UInt8 ↦ (↑(UInt8.toNat b) : Int)) (lineT o) = ints (lineT o) := rfl
          rw [e, ← ints_append, List.append_assoc]
          simp
        · simp only [List.flatMap_append, List.length_append, List.flatMap_cons, List.flatMap_nil, List.append_nil, List.length_cons, List.length_nil]
          omega
      · rintro s ⟨rfl, hl⟩
        simp only [W.R_Print.c100006, br_if]
        rw [if_neg (by simp)]
        exact ⟨_, rfl, rfl⟩
    obtain ⟨r, hr, h⟩ := key
    rw [c4]
    simp only [bnd_val]
    rw [hr, bnd_val, h]
    simp only [W.R_Print.c9, bnd_val, bytes_back, hz]
  · rw [br_true (by simp [h1]), if_pos h1]
theorem parse_printed (c : Cir) (hg : GoodC c) (hl : ¬ 1000000 < (printT c).length) : parseS (printT c) = (c, (0, 0)) := by
  unfold parseS
  rw [if_neg hl]
  have hq := hg.q
  have hb := hg.b
  have hh := headL_facts hq hb
  have hf : ∀ o ∈ c.2.2, opW (cut 32 (lineB o)) = (o, true) ∧ (10 : UInt8) ∉ lineB o ∧ lineB o ≠ [] := fun o ho => lineB_facts o c.1 c.2.1 (goodOp_of (hg.ops o ho)) hq.2 hb.2
  have e : cut 10 (printT c) = headL c.1 c.2.1 :: (c.2.2.map lineB ++ [[]]) := by
    unfold printT
    rw [headT_eq, List.append_assoc, List.singleton_append, cut_app _ hh.2, cut_lines _ (fun o ho => (hf o ho).2.1)]
  rw [e]
  have hbody := body_lines c.2.2 0 (fun o ho => (hf o ho).1)
  cases hls : c.2.2.map lineB ++ [[]] with
  | nil => simp at hls
  | cons l ls =>
    rw [hls] at hbody
    have hck : chk (c.1, c.2.1, c.2.2) = (0, 0) := hg.chk
    simp only [parseL, hh.1, hbody, hck]
    simp
theorem prints_law (c : Cir) (hc : WCir c) : W.Law_CircPrints c = some true := by
  simp only [W.Law_CircPrints, WCir.eta, copyCircuit_ok c hc, print_ok c hc, rprint_ok c hc, bnd_val]
  have h3 : ∀ (t : List UInt8) (f : Int × Int), W.Law_CircPrints.c3 t t f.1 f.2 f.1 f.2 some = some false := by
    intro t f
    simp only [W.Law_CircPrints.c3, begun_ok, bnd_val]
    rw [Bool.not_true, br_ff, br_false (by simp)]
    simp [Ty.eqT]
  simp only [h3, bnd_val]
  rw [br_false rfl]
  by_cases h1 : (chk c).1 = 0
  · obtain ⟨hg, hz⟩ := good_of h1
    rw [if_neg (by simp [h1])]
    simp only [W.Law_CircPrints.c5]
    rw [br_false (by decide)]
    by_cases hl : 1000000 < (printT c).length
    · simp only [bnd_val]
      rw [br_pos (by omega)]
    · simp only [bnd_val]
      rw [br_neg (by omega), parse_ok, parse_printed c hg hl]
      simp only [bnd_val, W.Law_CircPrints.c8]
      rw [br_true (by decide)]
      simp only [WCir.eta, sameCircuit_ok c c hc, bnd_val]
      simp
  · rw [if_pos h1]
    simp only [W.Law_CircPrints.c5]
    rw [br_true (by simp [h1])]
    rfl
theorem prints_all : ∀ x : dens [cirTy], WfL [cirTy] x → W.Law_CircPrints.ce.F x = some true := by
  intro x h
  exact prints_law x (wcir_of h)
end
end Go.Ql
end
end
