/- Plain laws: loops; circuits checked, copied, undone, raised, joined, written. -/
import Derived.Test.YtcndclcpmelgoaaDoorLf
import Derived.IntWalk
import Derived.Test.YtcndclcpmelgoaaDoorWb
import Derived.Test.YtcndclcpmelgoaaDoorWc
import Derived.Test.YtcndclcpmelgoaaDoorGa
section
/- Plain laws about the lifted functions: loops, numbers in places. -/
namespace Go.Ql
section
variable {S R : Type} {f : S → Option (S ⊕ R)}
theorem iter_inr {s : S} {r : R} (h : f s = some (.inr r)) : iter f s = some r := iter_of (n := 1) (by simp [iterN, h])
theorem iter_inl {s s' : S} {r : R} (h : f s = some (.inl s')) (h' : iter f s' = some r) : iter f s = some r := by
  obtain ⟨n, hn⟩ := iter_some h'
  exact iter_of (n := n + 1) (by simp [iterN, h, hn])
/-- A loop with a measure: from each state that keeps J a round ends it, or makes the measure less. -/
theorem iter_loop {J : S → Prop} {Q : R → Prop} (m : S → Nat) (hstep : ∀ s, J s → (∃ r, f s = some (.inr r) ∧ Q r) ∨ ∃ s', f s = some (.inl s') ∧ J s' ∧ m s' < m s) {s : S} (h : J s) : ∃ r, iter f s = some r ∧ Q r := by
  have key : ∀ (k : Nat) (s : S), m s ≤ k → J s → ∃ r, iter f s = some r ∧ Q r := by
    intro k
    induction k with
    | zero =>
      intro s hk hj
      rcases hstep s hj with ⟨r, h1, h2⟩ | ⟨s', h1, h2, h3⟩
      · exact ⟨r, iter_inr h1, h2⟩
      · omega
    | succ k ih =>
      intro s hk hj
      rcases hstep s hj with ⟨r, h1, h2⟩ | ⟨s', h1, h2, h3⟩
      · exact ⟨r, iter_inr h1, h2⟩
      · obtain ⟨r, h4, h5⟩ := ih s' (by omega) h2
        exact ⟨r, iter_inl h1 h4, h5⟩
  exact key (m s) s (Nat.le_refl _) h
end
theorem bnd_of {α β : Type} {p : Option α} {x : α} {k : α → Option β} {r : Option β} (h : p = some x) (h' : k x = r) : bnd p k = r := by rw [h]; exact h'
theorem bnd_val {α β : Type} {x : α} {k : α → Option β} : bnd (some x) k = k x := rfl
theorem br_true {α : Type} {x y : α} {b : Bool} (h : b = true) : br b x y = x := by rw [h]; rfl
theorem br_false {α : Type} {x y : α} {b : Bool} (h : b = false) : br b x y = y := by rw [h]; rfl
theorem br_pos {α : Type} {x y : α} {p : Prop} [Decidable p] (h : p) : br (decide p) x y = x := br_true (decide_eq_true h)
theorem br_neg {α : Type} {x y : α} {p : Prop} [Decidable p] (h : ¬ p) : br (decide p) x y = y := br_false (decide_eq_false h)
theorem okIf_true {b : Bool} (h : b = true) : okIf b = some () := by rw [h]; rfl
theorem idx_of {xs : List Int} {i : Int} (n : Nat) (hi : i = n) (h : n < xs.length) : idx xs i = some (xs.getD n 0) := by
  subst hi
  unfold idx
  simp [h]
theorem inR_of {n : Nat} {i : Int} (h0 : 0 ≤ i) (h : i < (n : Int)) : inR n i = some () := by
  unfold inR
  simp [h0, h]

/-! ## Wraps -/
theorem wrap_i64 {x : Int} (h : -9223372036854775808 ≤ x ∧ x ≤ 9223372036854775807) : IntKind.i64.wrap x = x := IntWalk.i64_in _ (by omega)
theorem wrap_u64 {x : Int} (h : 0 ≤ x ∧ x < 18446744073709551616) : IntKind.u64.wrap x = x := IntWalk.u64_in _ (by omega)
theorem wrap_u32 {x : Int} (h : 0 ≤ x ∧ x < 4294967296) : IntKind.u32.wrap x = x := IntWalk.u32_in _ (by omega)
theorem wrap_u32_mod {x : Int} : IntKind.u32.wrap x = x % 4294967296 := by
  simp [IntKind.wrap, IntKind.signed, IntKind.bits]

/-! ## Numbers in places -/
/-- The number that digits say in base B, the lowest first. -/
def val (B : Int) : List Int → Int
  | [] => 0
  | d :: l => d + B * val B l
def Dig (B : Int) (l : List Int) : Prop := ∀ d ∈ l, 0 ≤ d ∧ d < B

theorem val_append (B : Int) (m : List Int) : ∀ l : List Int, val B (l ++ m) = val B l + B ^ l.length * val B m
  | [] => by simp [val]
  | d :: l => by
    simp only [List.cons_append, val, val_append B m l, List.length_cons, Int.pow_succ]
    grind
theorem val_snoc (B : Int) (l : List Int) (d : Int) : val B (l ++ [d]) = val B l + B ^ l.length * d := by
  rw [val_append]; simp [val]
theorem Dig.nil {B : Int} : Dig B [] := fun _ h => by cases h
theorem Dig.cons {B d : Int} {l : List Int} (h : 0 ≤ d ∧ d < B) (hl : Dig B l) : Dig B (d :: l) := fun x hx => by
  rcases List.mem_cons.1 hx with rfl | hx
  · exact h
  · exact hl x hx
theorem Dig.append {B : Int} {l m : List Int} (hl : Dig B l) (hm : Dig B m) : Dig B (l ++ m) := fun x hx => by
  rcases List.mem_append.1 hx with hx | hx
  · exact hl x hx
  · exact hm x hx
theorem Dig.head {B d : Int} {l : List Int} (h : Dig B (d :: l)) : 0 ≤ d ∧ d < B := h d (List.mem_cons_self ..)
theorem Dig.tail {B d : Int} {l : List Int} (h : Dig B (d :: l)) : Dig B l := fun x hx => h x (List.mem_cons_of_mem _ hx)
theorem Dig.take {B : Int} {l : List Int} (h : Dig B l) (n : Nat) : Dig B (l.take n) := fun x hx => h x (List.mem_of_mem_take hx)
theorem Dig.drop {B : Int} {l : List Int} (h : Dig B l) (n : Nat) : Dig B (l.drop n) := fun x hx => h x (List.mem_of_mem_drop hx)
theorem Dig.getD {B : Int} {l : List Int} (hB : 0 < B) (h : Dig B l) (i : Nat) : 0 ≤ l.getD i 0 ∧ l.getD i 0 < B := by
  by_cases hi : i < l.length
  · simp only [List.getD, List.getElem?_eq_getElem hi, Option.getD_some]
    exact h _ (List.getElem_mem hi)
  · rw [List.getD, List.getElem?_eq_none (by omega : l.length ≤ i), Option.getD_none]
    omega
theorem Dig.set {B x : Int} {l : List Int} (h : Dig B l) (hx : 0 ≤ x ∧ x < B) (i : Nat) : Dig B (l.set i x) := fun y hy => by
  rcases List.mem_or_eq_of_mem_set hy with hy | rfl
  · exact h y hy
  · exact hx
theorem Dig.replicate {B : Int} (hB : 0 < B) (n : Nat) : Dig B (List.replicate n 0) := fun x hx => by
  rw [(List.mem_replicate.1 hx).2]; omega
theorem val_replicate (B : Int) : ∀ n : Nat, val B (List.replicate n 0) = 0
  | 0 => rfl
  | n + 1 => by simp [List.replicate_succ, val, val_replicate B n]
theorem val_nonneg {B : Int} (hB : 0 ≤ B) : ∀ {l : List Int}, Dig B l → 0 ≤ val B l
  | [], _ => Int.le_refl 0
  | d :: l, h => by
    have h1 := val_nonneg hB h.tail
    have h2 := h.head
    have h3 := Int.mul_nonneg hB h1
    simp only [val]
    omega
theorem val_lt {B : Int} (hB : 0 < B) : ∀ {l : List Int}, Dig B l → val B l < B ^ l.length
  | [], _ => by simp [val]
  | d :: l, h => by
    have h1 := val_lt hB h.tail
    have h2 := h.head
    have h3 : B * (val B l + 1) ≤ B * B ^ l.length := Int.mul_le_mul_of_nonneg_left (by omega) (by omega)
    simp only [val, List.length_cons, Int.pow_succ]
    rw [Int.mul_comm (B ^ l.length) B]
    rw [Int.mul_add] at h3
    omega
theorem val_take_succ (B : Int) : ∀ (i : Nat) (l : List Int), val B (l.take (i + 1)) = val B (l.take i) + B ^ i * l.getD i 0
  | _, [] => by simp [val]
  | 0, d :: l => by simp [val]
  | i + 1, d :: l => by
    have h := val_take_succ B i l
    simp only [List.take_succ_cons, val, List.getD_cons_succ, Int.pow_succ] at h ⊢
    rw [h]
    grind
theorem val_set (B x : Int) : ∀ (i : Nat) (l : List Int), i < l.length → val B (l.set i x) = val B l + B ^ i * (x - l.getD i 0)
  | _, [], h => by simp at h
  | 0, d :: l, _ => by simp [val]; omega
  | i + 1, d :: l, h => by
    have h := val_set B x i l (by simpa using h)
    simp only [List.set_cons_succ, val, List.getD_cons_succ, Int.pow_succ] at h ⊢
    rw [h]
    grind
theorem getD_set {l : List Int} {i j : Nat} {x : Int} (h : i < l.length) : (l.set i x).getD j 0 = if i = j then x else l.getD j 0 := by
  simp only [List.getD, List.getElem?_set]
  by_cases hij : i = j
  · subst hij; simp [h]
  · simp [hij]
theorem getD_replicate (n j : Nat) : (List.replicate n (0 : Int)).getD j 0 = 0 := by
  simp only [List.getD, List.getElem?_replicate]
  split <;> rfl
theorem pow_pos {B : Int} (hB : 0 < B) (n : Nat) : 0 < B ^ n := Int.pow_pos hB
end Go.Ql
end

section
/- Plain laws: loops over lists, branches as 'if'. -/
namespace Go.Ql
section
variable {A S R : Type} {f : S → Option (S ⊕ R)}
/-- A loop over a list: what is behind, what is ahead, the state. -/
theorem iter_each {l : List A} (P : List A → List A → S → Prop) (Q : R → Prop)
    (step : ∀ pre a r s, l = pre ++ a :: r → P pre (a :: r) s → (∃ s', f s = some (.inl s') ∧ P (pre ++ [a]) r s') ∨ (∃ x, f s = some (.inr x) ∧ Q x))
    (done : ∀ s, P l [] s → ∃ x, f s = some (.inr x) ∧ Q x) {s : S} (h : P [] l s) : ∃ x, iter f s = some x ∧ Q x := by
  have key : ∀ (r pre : List A) (s : S), l = pre ++ r → P pre r s → ∃ x, iter f s = some x ∧ Q x := by
    intro r
    induction r with
    | nil =>
      intro pre s hl hp
      rw [List.append_nil] at hl
      subst hl
      obtain ⟨x, h1, h2⟩ := done s hp
      exact ⟨x, iter_inr h1, h2⟩
    | cons a r ih =>
      intro pre s hl hp
      rcases step pre a r s hl hp with ⟨s', h1, h2⟩ | ⟨x, h1, h2⟩
      · obtain ⟨x, h3, h4⟩ := ih (pre ++ [a]) s' (by simp [hl]) h2
        exact ⟨x, iter_inl h1 h3, h4⟩
      · exact ⟨x, iter_inr h1, h2⟩
  exact key l [] s rfl h
/-- A loop that counts up. -/
theorem iter_upto (n : Nat) (P : Nat → S → Prop) (Q : R → Prop)
    (step : ∀ i s, i < n → P i s → (∃ s', f s = some (.inl s') ∧ P (i + 1) s') ∨ (∃ x, f s = some (.inr x) ∧ Q x))
    (done : ∀ s, P n s → ∃ x, f s = some (.inr x) ∧ Q x) {s : S} (h : P 0 s) : ∃ x, iter f s = some x ∧ Q x := by
  have key : ∀ (k i : Nat) (s : S), i + k = n → P i s → ∃ x, iter f s = some x ∧ Q x := by
    intro k
    induction k with
    | zero =>
      intro i s hi hp
      have : i = n := by omega
      subst this
      obtain ⟨x, h1, h2⟩ := done s hp
      exact ⟨x, iter_inr h1, h2⟩
    | succ k ih =>
      intro i s hi hp
      rcases step i s (by omega) hp with ⟨s', h1, h2⟩ | ⟨x, h1, h2⟩
      · obtain ⟨x, h3, h4⟩ := ih (i + 1) s' (by omega) h2
        exact ⟨x, iter_inl h1 h3, h4⟩
      · exact ⟨x, iter_inr h1, h2⟩
  exact key n 0 s (by omega) h
end
theorem br_if {α : Type} {x y : α} {b : Bool} : br b x y = if b = true then x else y := by cases b <;> rfl
theorem bnd_none {α β : Type} {k : α → Option β} : bnd none k = none := rfl
theorem bnd_ite {α β : Type} {p : Prop} [Decidable p] {x y : Option α} {k : α → Option β} : bnd (if p then x else y) k = if p then bnd x k else bnd y k := by split <;> rfl
theorem sel_inl {α β γ : Type} {x : α} {f : α → γ} {g : β → γ} : sel (.inl x) f g = f x := rfl
theorem sel_inr {α β γ : Type} {x : β} {f : α → γ} {g : β → γ} : sel (.inr x) f g = g x := rfl
theorem okIf_if {b : Bool} : okIf b = if b = true then some () else none := by cases b <;> rfl
theorem idx_mid {α : Type} {pre : List α} {a : α} {r : List α} : idx (pre ++ a :: r) (pre.length : Int) = some a := by
  unfold idx
  simp
theorem idx_at {α : Type} {l : List α} {i : Nat} : idx l (i : Int) = l[i]? := by
  unfold idx
  simp
theorem idx_get {α : Type} {l : List α} {i : Nat} (h : i < l.length) : idx l (i : Int) = some l[i] := by
  rw [idx_at, List.getElem?_eq_getElem h]
theorem idx_int {α : Type} {l : List α} {i : Int} (h0 : 0 ≤ i) (h : i < (l.length : Int)) : idx l i = some (l[i.toNat]'(by omega)) := by
  obtain ⟨n, rfl⟩ := Int.eq_ofNat_of_zero_le h0
  rw [idx_get (by omega)]
  simp
theorem inR_at {n : Nat} {i : Nat} (h : i < n) : inR n (i : Int) = some () := inR_of (by omega) (by omega)
theorem br_or {b c : Bool} : br b (some true) (some c) = some (b || c) := by cases b <;> rfl
theorem br_and {b c : Bool} : br b (some c) (some false) = some (b && c) := by cases b <;> rfl
theorem some_dec {b : Bool} {P : Prop} [Decidable P] (h : b = true ↔ P) : some b = some (decide P) := by
  congr 1
  rw [Bool.eq_iff_iff, h]
  simp
theorem br_tt {α : Type} {x y : α} : br true x y = x := rfl
theorem br_ff {α : Type} {x y : α} : br false x y = y := rfl
theorem lt_app {α : Type} {pre : List α} {a : α} {r : List α} : decide ((pre.length : Int) < ((pre ++ a :: r).length : Int)) = true := by
  simp only [List.length_append, List.length_cons, decide_eq_true_eq]; omega
theorem both_self {α : Type} {x : Option α} : both x x = x := by simp [both]
theorem okIf_len {n k : Nat} (h : n * k ≤ 140737488355328 ∧ n ≤ 140737488355328) : okIf (decide (n * k ≤ (140737488355328 : Nat)) && decide (n ≤ (140737488355328 : Nat))) = some () :=
  okIf_true (by simp [h])
end Go.Ql
end

section
/- Circuits: what may be in one: both functions answer the same. -/
namespace Go.Ql
abbrev Op := Int × Int × List Int × Int × Int × List Int
abbrev Cir := Int × Int × List Op
/-- Lists of a length that memory has. -/
def WOp (o : Op) : Prop := o.2.2.1.length ≤ 17592186043904 ∧ o.2.2.2.2.2.length ≤ 17592186043904
def WCir (c : Cir) : Prop := c.2.2.length ≤ 1759218604390 ∧ ∀ o ∈ c.2.2, WOp o
def ctlBad (q0 qn : Int) : List Int → List Int → Int
  | _, [] => 0
  | pre, q :: r => if q < 0 ∨ qn ≤ q then 10 else if q = q0 ∨ q ∈ pre then 12 else ctlBad q0 qn (pre ++ [q]) r
def ifBad (bn : Int) (l : List Int) : Prop := ∃ v ∈ l, v = 0 ∨ bn < v ∨ v < -bn
instance (bn : Int) (l : List Int) : Decidable (ifBad bn l) := by unfold ifBad; infer_instance
def opBad (o : Op) (qn bn : Int) : Int :=
  if o.1 < 1 ∨ 6 < o.1 then 8
  else if o.2.1 < 0 ∨ 15 < o.2.1 ∨ (¬ (o.1 = 1 ∨ o.1 = 4) ∧ o.2.1 ≠ 0) then 9
  else if o.2.2.2.1 < 0 ∨ qn ≤ o.2.2.2.1 ∨ (o.1 = 1 ∧ o.2.2.2.1 ≠ 0) then 10
  else if o.2.2.1 ≠ [] ∧ ¬ (o.1 = 2 ∨ o.1 = 3 ∨ o.1 = 4) then 11
  else if ctlBad o.2.2.2.1 qn [] o.2.2.1 ≠ 0 then ctlBad o.2.2.2.1 qn [] o.2.2.1
  else if (o.1 = 5 ∧ (o.2.2.2.2.1 < 0 ∨ bn ≤ o.2.2.2.2.1)) ∨ (o.1 ≠ 5 ∧ o.2.2.2.2.1 ≠ 0) then 13
  else if 24 < o.2.2.2.2.2.length then 14
  else if ifBad bn o.2.2.2.2.2 then 14 else 0
theorem ctlBad_ne {q0 qn : Int} : ∀ (r pre : List Int), ctlBad q0 qn pre r = 0 ∨ ctlBad q0 qn pre r = 10 ∨ ctlBad q0 qn pre r = 12
  | [], _ => .inl rfl
  | q :: r, pre => by
    unfold ctlBad
    split
    · exact .inr (.inl rfl)
    · split
      · exact .inr (.inr rfl)
      · exact ctlBad_ne r _

/-! ## The program's -/
theorem one_c1 (k : Int) : W.circ_one.c1 k some = some (decide (k < 1 ∨ 6 < k)) := by
  simp only [W.circ_one.c1, br_or]; exact some_dec (by simp)
theorem turns_ok (k : Int) : W.circ_turns k = some (decide (k = 1 ∨ k = 4)) := by
  simp only [W.circ_turns, W.circ_turns.c1, br_or, bnd_val]; exact some_dec (by simp)
theorem gate_ok (k : Int) : W.circ_gate k = some (decide (k = 2 ∨ k = 3 ∨ k = 4)) := by
  simp only [W.circ_gate, W.circ_gate.c1, br_or, bnd_val]; exact some_dec (by simp)
theorem one_c3 (k a : Int) : W.circ_one.c3 k a some = some (decide (a < 0 ∨ 15 < a ∨ (¬ (k = 1 ∨ k = 4) ∧ a ≠ 0))) := by
  simp only [W.circ_one.c3, turns_ok, br_or, br_and, bnd_val]; exact some_dec (by simp)
theorem one_c5 (k q qn : Int) : W.circ_one.c5 k q qn some = some (decide (q < 0 ∨ qn ≤ q ∨ (k = 1 ∧ q ≠ 0))) := by
  simp only [W.circ_one.c5, br_or, br_and]; exact some_dec (by simp)
theorem one_c7 (k : Int) (l : List Int) : W.circ_one.c7 k l some = some (decide (l ≠ [] ∧ ¬ (k = 2 ∨ k = 3 ∨ k = 4))) := by
  simp only [W.circ_one.c7, gate_ok, br_or, br_and, bnd_val]; exact some_dec (by cases l <;> simp)
theorem one_c14 (q qn : Int) : W.circ_one.c14 q qn some = some (decide (q < 0 ∨ qn ≤ q)) := by
  simp only [W.circ_one.c14, br_or]; exact some_dec (by simp)
theorem one_c20 (k b bn : Int) : W.circ_one.c20 k b bn some = some (decide ((k = 5 ∧ (b < 0 ∨ bn ≤ b)) ∨ (k ≠ 5 ∧ b ≠ 0))) := by
  by_cases hk : k = 5
  · subst hk
    simp only [W.circ_one.c20, beq_self_eq_true, bne_self_eq_false, br_tt, br_ff, br_or]; exact some_dec (by simp)
  · simp only [W.circ_one.c20, beq_eq_false_iff_ne.2 hk, bne_iff_ne.2 hk, br_tt, br_ff]; exact some_dec (by simp [hk])
theorem one_c27 (v bn : Int) (h : 0 ≤ bn ∧ bn ≤ 12) : W.circ_one.c27 v bn some = some (decide (v = 0 ∨ bn < v ∨ v < -bn)) := by
  simp only [W.circ_one.c27, br_or]
  rw [wrap_i64 (by omega)]
  exact some_dec (by simp)
theorem one_ctl (q0 qn : Int) (h0 : 0 ≤ q0 ∧ q0 < 12) (hn : qn ≤ 12) (l : List Int) (hl : l.length ≤ 17592186043904) :
    ∃ r, iter (fun s : Int × List Bool ↦ W.circ_one.c100012 l (l.length : Int) s.1 s.2 qn some) ((0 : Int), List.set (List.replicate 12 false) q0.toNat true) = some r ∧
      ((∃ u v, r = .inl (ctlBad q0 qn [] l, u, v) ∧ ctlBad q0 qn [] l ≠ 0) ∨ ∃ u, r = .inr u ∧ ctlBad q0 qn [] l = 0) := by
  refine iter_each (l := l) (fun pre r s => s.1 = (pre.length : Int) ∧ s.2.length = 12 ∧ (∀ j : Nat, j < 12 → s.2[j]? = some (decide ((j : Int) = q0 ∨ (j : Int) ∈ pre))) ∧ ctlBad q0 qn [] l = ctlBad q0 qn pre r) _ ?_ ?_ ?_
  · rintro pre a r ⟨i, seen⟩ rfl ⟨rfl, h1, h2, h3⟩
    simp only at h1 h2 ⊢
    simp only [List.length_append, List.length_cons] at hl
    simp only [W.circ_one.c100012, br_if, idx_mid, bnd_val, one_c14]
    rw [if_pos lt_app]
    rw [h3]
    by_cases ha : a < 0 ∨ qn ≤ a
    · rw [if_pos (by simpa using ha)]
      exact .inr ⟨_, rfl, .inl ⟨_, _, by rw [ctlBad, if_pos ha], by rw [ctlBad, if_pos ha]; decide⟩⟩
    · rw [if_neg (by simpa using ha)]
      obtain ⟨n, rfl⟩ := Int.eq_ofNat_of_zero_le (show 0 ≤ a by omega)
      have hn' : n < 12 := by omega
      rw [okIf_true (by simp; omega), inR_at (by omega), idx_at, h2 n hn']
      simp only [bnd_val]
      by_cases hb : (n : Int) = q0 ∨ (n : Int) ∈ pre
      · rw [if_pos (by simpa using hb)]
        exact .inr ⟨_, rfl, .inl ⟨_, _, by rw [ctlBad, if_neg ha, if_pos hb], by rw [ctlBad, if_neg ha, if_pos hb]; decide⟩⟩
      · rw [if_neg (by simpa using hb), wrap_i64 (by omega)]
        refine .inl ⟨_, rfl, by simp, by simp [h1], ?_, ?_⟩
        · intro j hj
          simp only [Int.toNat_natCast]
          rw [List.getElem?_set]
          by_cases hjn : n = j
          · subst hjn; simp [h1, hn']
          · rw [if_neg hjn, h2 j hj]
            simp only [List.mem_append, List.mem_singleton]
            congr 1
            simp only [decide_eq_decide]
            have : (j : Int) ≠ n := by omega
            simp [this]
        · show ctlBad q0 qn pre (_ :: r) = _
          rw [ctlBad, if_neg ha, if_neg hb]
  · rintro ⟨i, seen⟩ ⟨rfl, h1, h2, h3⟩
    simp only [W.circ_one.c100012, br_if]
    rw [if_neg (by simp)]
    exact ⟨_, rfl, .inr ⟨_, rfl, by rw [h3]; rfl⟩⟩
  · refine ⟨rfl, by simp, fun j hj => ?_, rfl⟩
    rw [List.getElem?_set]
    by_cases hq : q0.toNat = j
    · subst hq
      simp
      omega
    · rw [if_neg hq]
      have : (j : Int) ≠ q0 := by omega
      rw [List.getElem?_replicate, if_pos hj]
      simp [this]
theorem one_if (bn : Int) (h : 0 ≤ bn ∧ bn ≤ 12) (l : List Int) (hl : l.length ≤ 17592186043904) :
    ∃ r, iter (fun s : Int ↦ W.circ_one.c100025 l (l.length : Int) s bn some) (0 : Int) = some r ∧
      ((∃ u, r = .inl u ∧ ifBad bn l) ∨ ∃ u, r = .inr u ∧ ¬ ifBad bn l) := by
  refine iter_each (l := l) (fun pre r s => s = (pre.length : Int) ∧ ∀ v ∈ pre, ¬ (v = 0 ∨ bn < v ∨ v < -bn)) _ ?_ ?_ ?_
  · rintro pre a r i rfl ⟨rfl, h1⟩
    simp only [List.length_append, List.length_cons] at hl
    simp only [W.circ_one.c100025, br_if, idx_mid, bnd_val, one_c27 _ _ h]
    rw [if_pos lt_app]
    by_cases ha : a = 0 ∨ bn < a ∨ a < -bn
    · rw [if_pos (by simpa using ha)]
      exact .inr ⟨_, rfl, .inl ⟨_, rfl, a, by simp, ha⟩⟩
    · rw [if_neg (by simpa using ha), wrap_i64 (by omega)]
      refine .inl ⟨_, rfl, by simp, fun v hv => ?_⟩
      rcases List.mem_append.1 hv with hv | hv
      · exact h1 v hv
      · rw [List.mem_singleton.1 hv]; exact ha
  · rintro i ⟨rfl, h1⟩
    simp only [W.circ_one.c100025, br_if]
    rw [if_neg (by simp)]
    exact ⟨_, rfl, .inr ⟨_, rfl, fun ⟨v, hv, hb⟩ => h1 v hv hb⟩⟩
  · exact ⟨rfl, fun v hv => by cases hv⟩
theorem one_ok (o : Op) (qn bn : Int) (ops : List Op) (ho : WOp o) (hq : 1 ≤ qn ∧ qn ≤ 12) (hb : 0 ≤ bn ∧ bn ≤ 12) :
    W.circ_one o qn bn ops = some (opBad o qn bn, qn, bn, ops, ()) := by
  obtain ⟨k, a, ctl, q, bit, cond⟩ := o
  obtain ⟨ho1, ho2⟩ := ho
  simp only at ho1 ho2
  simp only [W.circ_one, one_c1, one_c3, one_c5, one_c7, bnd_val, br_if, opBad, decide_eq_true_eq]
  split
  · rfl
  · split
    · rfl
    · split
      · rfl
      · rename_i h1 h2 h3
        split
        · rfl
        · obtain ⟨n, rfl⟩ := Int.eq_ofNat_of_zero_le (show 0 ≤ q by omega)
          have hn' : n < 12 := by omega
          rw [okIf_true (by simp; omega), inR_at (by simpa using hn'), idx_at]
          simp only [bnd_val, List.getElem?_replicate, hn', if_true]
          obtain ⟨r, hr, hr'⟩ := one_ctl n qn (by omega) hq.2 ctl ho1
          rw [hr, bnd_val]
          rcases hr' with ⟨u, v, rfl, h⟩ | ⟨u, rfl, h⟩
          · rw [sel_inl, if_pos h]
          · rw [sel_inr, if_neg (show ¬ (ctlBad (n : Int) qn [] ctl ≠ 0) by simp [h])]
            simp only [one_c20, bnd_val, decide_eq_true_eq]
            split
            · rfl
            · by_cases h24 : 24 < cond.length
              · rw [if_pos (by omega), if_pos h24]
              · rw [if_neg (by omega), if_neg h24]
                obtain ⟨r, hr, hr'⟩ := one_if bn hb cond ho2
                rw [hr, bnd_val]
                rcases hr' with ⟨u, rfl, h⟩ | ⟨u, rfl, h⟩
                · rw [sel_inl, if_pos h]
                · rw [sel_inr, if_neg h]
end Go.Ql
end

section
/- Circuits: the document's faults; whole circuits checked. -/
namespace Go.Ql
theorem member_ok (l : List Int) (x : Int) (hl : l.length ≤ 17592186043904) : W.R_member l x = some (decide (x ∈ l)) := by
  have h : ∃ r, iter (fun s : Int ↦ W.R_member.c100002 l x s some) (0 : Int) = some r ∧ ((∃ u, r = .inl u ∧ x ∈ l) ∨ ∃ u, r = .inr u ∧ x ∉ l) := by
    refine iter_each (l := l) (fun pre r s => s = (pre.length : Int) ∧ x ∉ pre) _ ?_ ?_ ⟨rfl, by simp⟩
    · rintro pre a r i rfl ⟨rfl, h1⟩
      simp only [List.length_append, List.length_cons] at hl
      simp only [W.R_member.c100002, br_if, idx_mid, bnd_val]
      rw [if_pos lt_app]
      by_cases ha : a = x
      · rw [if_pos (by simpa using ha)]
        exact .inr ⟨_, rfl, .inl ⟨_, rfl, by simp [ha]⟩⟩
      · rw [if_neg (by simpa using ha), wrap_i64 (by omega)]
        exact .inl ⟨_, rfl, by simp, by simp [h1, Ne.symm ha]⟩
    · rintro i ⟨rfl, h1⟩
      simp only [W.R_member.c100002, br_if]
      rw [if_neg (by simp)]
      exact ⟨_, rfl, .inr ⟨_, rfl, h1⟩⟩
  obtain ⟨r, hr, h⟩ := h
  simp only [W.R_member, hr, bnd_val]
  rcases h with ⟨u, rfl, h⟩ | ⟨u, rfl, h⟩
  · simp [sel_inl, h]
  · simp [sel_inr, h]
theorem rbad_c1 (k : Int) : W.R_badOp.c1 k some = some (decide (k < 1 ∨ 6 < k)) := by
  simp only [W.R_badOp.c1, br_or, br_and]; exact some_dec (by simp)
theorem rbad_c3 (k : Int) : W.R_badOp.c3 k some = some (decide (k = 1 ∨ k = 4)) := by
  simp only [W.R_badOp.c3, br_or, br_and]; exact some_dec (by simp)
theorem rbad_c4 (k a : Int) : W.R_badOp.c4 (decide (k = 1 ∨ k = 4)) a some = some (decide (a < 0 ∨ 15 < a ∨ (¬ (k = 1 ∨ k = 4) ∧ a ≠ 0))) := by
  simp only [W.R_badOp.c4, br_or, br_and]; exact some_dec (by simp; omega)
theorem rbad_c6 (k q qn : Int) : W.R_badOp.c6 qn k q some = some (decide (q < 0 ∨ qn ≤ q ∨ (k = 1 ∧ q ≠ 0))) := by
  simp only [W.R_badOp.c6, br_or, br_and]; exact some_dec (by simp; omega)
theorem rbad_c8 (k : Int) (l : List Int) : W.R_badOp.c8 k l some = some (decide (l ≠ [] ∧ ¬ (k = 2 ∨ k = 3 ∨ k = 4))) := by
  simp only [W.R_badOp.c8, br_or, br_and]; exact some_dec (by cases l <;> simp)
theorem rbad_bit (k b bn : Int) : ∃ r, W.R_badOp.c269649 bn k b some = some r ∧ ((r = .inl () ∧ ((k = 5 ∧ (b < 0 ∨ bn ≤ b)) ∨ (k ≠ 5 ∧ b ≠ 0))) ∨ (r = .inr () ∧ ¬ ((k = 5 ∧ (b < 0 ∨ bn ≤ b)) ∨ (k ≠ 5 ∧ b ≠ 0)))) := by
  have h : W.R_badOp.c18 bn b some = some (decide (b < 0 ∨ bn ≤ b)) := by
    simp only [W.R_badOp.c18, br_or]; exact some_dec (by simp)
  by_cases hk : k = 5
  · subst hk
    simp only [W.R_badOp.c269649, beq_self_eq_true, br_tt, h, bnd_val]
    by_cases hb : b < 0 ∨ bn ≤ b
    · rw [br_pos hb]; exact ⟨_, rfl, .inl ⟨rfl, .inl ⟨trivial, hb⟩⟩⟩
    · rw [br_neg hb]; exact ⟨_, rfl, .inr ⟨rfl, by omega⟩⟩
  · simp only [W.R_badOp.c269649, beq_eq_false_iff_ne.2 hk, br_ff]
    by_cases hb : b = 0
    · rw [br_false (by simpa using hb)]; exact ⟨_, rfl, .inr ⟨rfl, by omega⟩⟩
    · rw [br_true (by simpa using hb)]; exact ⟨_, rfl, .inl ⟨rfl, by omega⟩⟩
theorem rbad_ctl (q0 qn : Int) (l : List Int) (hl : l.length ≤ 17592186043904) :
    ∃ r, iter (fun s : Int ↦ W.R_badOp.c100011 qn s l q0 some) (0 : Int) = some r ∧
      ((∃ u, r = .inl (ctlBad q0 qn [] l, u) ∧ ctlBad q0 qn [] l ≠ 0) ∨ ∃ u, r = .inr u ∧ ctlBad q0 qn [] l = 0) := by
  refine iter_each (l := l) (fun pre r s => s = (pre.length : Int) ∧ ctlBad q0 qn [] l = ctlBad q0 qn pre r) _ ?_ ?_ ⟨rfl, rfl⟩
  · rintro pre a r i rfl ⟨rfl, h3⟩
    simp only [List.length_append, List.length_cons] at hl
    have h13 : W.R_badOp.c13 qn (pre.length : Int) (pre ++ a :: r) some = some (decide (a < 0 ∨ qn ≤ a)) := by
      simp only [W.R_badOp.c13, br_or, idx_mid, bnd_val]; exact some_dec (by simp)
    have h15 : W.R_badOp.c15 (pre.length : Int) (pre ++ a :: r) q0 some = some (decide (a = q0 ∨ a ∈ pre)) := by
      simp only [W.R_badOp.c15, idx_mid, bnd_val]
      rw [okIf_true (by simp; omega), bnd_val]
      simp only [Int.toNat_natCast, List.take_left, member_ok _ _ (show pre.length ≤ 17592186043904 by omega), bnd_val, br_or]
      exact some_dec (by simp)
    simp only [W.R_badOp.c100011, br_if, h13, h15, bnd_val]
    rw [if_pos lt_app]
    rw [h3]
    by_cases ha : a < 0 ∨ qn ≤ a
    · rw [if_pos (by simpa using ha)]
      exact .inr ⟨_, rfl, .inl ⟨_, by rw [ctlBad, if_pos ha], by rw [ctlBad, if_pos ha]; decide⟩⟩
    · rw [if_neg (by simpa using ha)]
      by_cases hb : a = q0 ∨ a ∈ pre
      · rw [if_pos (by simpa using hb)]
        exact .inr ⟨_, rfl, .inl ⟨_, by rw [ctlBad, if_neg ha, if_pos hb], by rw [ctlBad, if_neg ha, if_pos hb]; decide⟩⟩
      · rw [if_neg (by simpa using hb), wrap_i64 (by omega)]
        refine .inl ⟨_, rfl, by simp, ?_⟩
        show ctlBad q0 qn pre (_ :: r) = _
        rw [ctlBad, if_neg ha, if_neg hb]
  · rintro i ⟨rfl, h3⟩
    simp only [W.R_badOp.c100011, br_if]
    rw [if_neg (by simp)]
    exact ⟨_, rfl, .inr ⟨_, rfl, by rw [h3]; rfl⟩⟩
theorem rbad_if (bn : Int) (h : 0 ≤ bn ∧ bn ≤ 12) (l : List Int) (hl : l.length ≤ 17592186043904) :
    ∃ r, iter (fun s : Int ↦ W.R_badOp.c100025 bn s l some) (0 : Int) = some r ∧
      ((∃ u, r = .inl u ∧ ifBad bn l) ∨ ∃ u, r = .inr u ∧ ¬ ifBad bn l) := by
  refine iter_each (l := l) (fun pre r s => s = (pre.length : Int) ∧ ∀ v ∈ pre, ¬ (v = 0 ∨ bn < v ∨ v < -bn)) _ ?_ ?_ ⟨rfl, fun v hv => by cases hv⟩
  · rintro pre a r i rfl ⟨rfl, h1⟩
    simp only [List.length_append, List.length_cons] at hl
    have h27 : W.R_badOp.c27 bn (pre.length : Int) (pre ++ a :: r) some = some (decide (a = 0 ∨ bn < a ∨ a < -bn)) := by
      simp only [W.R_badOp.c27, br_or, idx_mid, bnd_val]
      rw [wrap_i64 (by omega)]; exact some_dec (by simp)
    simp only [W.R_badOp.c100025, br_if, h27, bnd_val]
    rw [if_pos lt_app]
    by_cases ha : a = 0 ∨ bn < a ∨ a < -bn
    · rw [if_pos (by simpa using ha)]
      exact .inr ⟨_, rfl, .inl ⟨_, rfl, a, by simp, ha⟩⟩
    · rw [if_neg (by simpa using ha), wrap_i64 (by omega)]
      refine .inl ⟨_, rfl, by simp, fun v hv => ?_⟩
      rcases List.mem_append.1 hv with hv | hv
      · exact h1 v hv
      · rw [List.mem_singleton.1 hv]; exact ha
  · rintro i ⟨rfl, h1⟩
    simp only [W.R_badOp.c100025, br_if]
    rw [if_neg (by simp)]
    exact ⟨_, rfl, .inr ⟨_, rfl, fun ⟨v, hv, hb⟩ => h1 v hv hb⟩⟩
theorem badOp_ok (o : Op) (qn bn : Int) (ho : WOp o) (hb : 0 ≤ bn ∧ bn ≤ 12) : W.R_badOp o qn bn = some (opBad o qn bn) := by
  obtain ⟨k, a, ctl, q, bit, cond⟩ := o
  obtain ⟨ho1, ho2⟩ := ho
  simp only at ho1 ho2
  simp only [W.R_badOp, rbad_c1, rbad_c3, rbad_c4, rbad_c6, rbad_c8, bnd_val, br_if, opBad, decide_eq_true_eq]
  split
  · rfl
  · split
    · rfl
    · split
      · rfl
      · split
        · rfl
        · obtain ⟨r, hr, hr'⟩ := rbad_ctl q qn ctl ho1
          rw [hr, bnd_val]
          rcases hr' with ⟨u, rfl, h⟩ | ⟨u, rfl, h⟩
          · rw [sel_inl, if_pos h]
          · rw [sel_inr, if_neg (show ¬ (ctlBad q qn [] ctl ≠ 0) by simp [h])]
            obtain ⟨r, hr, hr'⟩ := rbad_bit k bit bn
            rw [hr, bnd_val]
            rcases hr' with ⟨rfl, h⟩ | ⟨rfl, h⟩
            · rw [sel_inl, if_pos h]
            · rw [sel_inr, if_neg h]
              by_cases h24 : 24 < cond.length
              · rw [if_pos (by omega), if_pos h24]
              · rw [if_neg (by omega), if_neg h24]
                obtain ⟨r, hr, hr'⟩ := rbad_if bn hb cond ho2
                rw [hr, bnd_val]
                rcases hr' with ⟨u, rfl, h⟩ | ⟨u, rfl, h⟩
                · rw [sel_inl, if_pos h]
                · rw [sel_inr, if_neg h]
/-! ## Check -/
def opsBad (qn bn : Int) : Nat → List Op → Int × Int
  | _, [] => (0, 0)
  | i, o :: r => if opBad o qn bn = 0 then opsBad qn bn (i + 1) r else (opBad o qn bn, i)
def chk (c : Cir) : Int × Int :=
  if c.1 < 1 ∨ 12 < c.1 then (6, 0) else if c.2.1 < 0 ∨ 12 < c.2.1 then (7, 0) else if 4096 < c.2.2.length then (2, 0) else opsBad c.1 c.2.1 0 c.2.2
theorem WOp.eta (o : Op) : (o.1, o.2.1, o.2.2.1, o.2.2.2.1, o.2.2.2.2.1, o.2.2.2.2.2) = o := rfl
theorem fault_ok (a b : Int) : W.circ_fault a b = some (a, b) := rfl
theorem rfault_ok (a b : Int) : W.R_rfault a b = some (a, b) := rfl
theorem check_ok (c : Cir) (hc : WCir c) : W.circ_Check c = some (chk c) := by
  obtain ⟨qn, bn, ops⟩ := c
  obtain ⟨hl, hw⟩ := hc
  simp only at hl hw
  simp only [W.circ_Check, W.circ_Check.c1, W.circ_Check.c3, br_if, fault_ok, bnd_val, chk]
  by_cases h1 : qn < 1 ∨ 12 < qn
  · rw [if_pos h1]
    by_cases h : qn < 1
    · simp [h, bnd_val]
    · have : 12 < qn := by omega
      simp [h, this, bnd_val]
  · have h1a : ¬ qn < 1 := by omega
    have h1b : ¬ 12 < qn := by omega
    simp only [h1a, h1b, bnd_val, decide_false, Bool.false_eq_true, if_false, gt_iff_lt, or_self]
    by_cases h2 : bn < 0 ∨ 12 < bn
    · rw [if_pos h2]
      by_cases h : bn < 0
      · simp [h, bnd_val]
      · have : 12 < bn := by omega
        simp [h, this, bnd_val]
    · have h2a : ¬ bn < 0 := by omega
      have h2b : ¬ 12 < bn := by omega
      simp only [h2a, h2b, bnd_val, decide_false, Bool.false_eq_true, if_false, or_self]
      by_cases h3 : 4096 < ops.length
      · rw [if_pos h3, if_pos (by simp; omega)]
      · rw [if_neg h3, if_neg (by simp; omega)]
        have key : ∃ r, iter (fun s : Int × Int × Int × List Op ↦ W.circ_Check.c100008 ops (ops.length : Int) s.1 s.2.1 s.2.2.1 s.2.2.2 some) ((0 : Int), qn, bn, ops) = some r ∧
            ((∃ u, r = .inl u ∧ (u.2.2.2.2.1, u.2.2.2.2.2) = opsBad qn bn 0 ops) ∨ ∃ u, r = .inr u ∧ (0, 0) = opsBad qn bn 0 ops) := by
          refine iter_each (l := ops) (fun pre r s => s = ((pre.length : Int), qn, bn, ops) ∧ opsBad qn bn pre.length r = opsBad qn bn 0 ops) _ ?_ ?_ ⟨rfl, rfl⟩
          · rintro pre o r s rfl ⟨rfl, h4⟩
            simp only [List.length_append, List.length_cons] at hl
            simp only [W.circ_Check.c100008, br_if, idx_mid, bnd_val, WOp.eta, one_ok o qn bn _ (hw o (by simp)) (by omega) (by omega), fault_ok]
            rw [if_pos lt_app]
            rw [opsBad] at h4
            by_cases ho : opBad o qn bn = 0
            · rw [if_pos ho] at h4
              rw [if_neg (by simp [ho]), wrap_i64 (by omega)]
              exact .inl ⟨_, rfl, by simp, by simpa using h4⟩
            · rw [if_neg ho] at h4
              rw [if_pos (by simp [ho])]
              exact .inr ⟨_, rfl, .inl ⟨_, rfl, h4⟩⟩
          · rintro s ⟨rfl, h4⟩
            simp only [W.circ_Check.c100008, br_if]
            rw [if_neg (by simp)]
            exact ⟨_, rfl, .inr ⟨_, rfl, h4⟩⟩
        obtain ⟨r, hr, h⟩ := key
        rw [hr, bnd_val]
        rcases h with ⟨u, rfl, h⟩ | ⟨u, rfl, h⟩
        · rw [sel_inl, ← h]
        · rw [sel_inr, ← h]
theorem rcheck_ok (c : Cir) (hc : WCir c) : W.R_Check c = some (chk c) := by
  obtain ⟨qn, bn, ops⟩ := c
  obtain ⟨hl, hw⟩ := hc
  simp only at hl hw
  simp only [W.R_Check, W.R_Check.c1, W.R_Check.c3, br_if, rfault_ok, bnd_val, chk]
  by_cases h1 : qn < 1 ∨ 12 < qn
  · rw [if_pos h1]
    by_cases h : qn < 1
    · simp [h, bnd_val]
    · have : 12 < qn := by omega
      simp [h, this, bnd_val]
  · have h1a : ¬ qn < 1 := by omega
    have h1b : ¬ 12 < qn := by omega
    simp only [h1a, h1b, bnd_val, decide_false, Bool.false_eq_true, if_false, gt_iff_lt, or_self]
    by_cases h2 : bn < 0 ∨ 12 < bn
    · rw [if_pos h2]
      by_cases h : bn < 0
      · simp [h, bnd_val]
      · have : 12 < bn := by omega
        simp [h, this, bnd_val]
    · have h2a : ¬ bn < 0 := by omega
      have h2b : ¬ 12 < bn := by omega
      simp only [h2a, h2b, bnd_val, decide_false, Bool.false_eq_true, if_false, or_self]
      by_cases h3 : 4096 < ops.length
      · rw [if_pos h3, if_pos (by simp; omega)]
      · rw [if_neg h3, if_neg (by simp; omega)]
        have key : ∃ r, iter (fun s : Int ↦ W.R_Check.c100008 s qn bn ops some) (0 : Int) = some r ∧
            ((∃ u, r = .inl u ∧ (u.2.1, u.2.2) = opsBad qn bn 0 ops) ∨ ∃ u, r = .inr u ∧ (0, 0) = opsBad qn bn 0 ops) := by
          refine iter_each (l := ops) (fun pre r s => s = (pre.length : Int) ∧ opsBad qn bn pre.length r = opsBad qn bn 0 ops) _ ?_ ?_ ⟨rfl, rfl⟩
          · rintro pre o r s rfl ⟨rfl, h4⟩
            simp only [List.length_append, List.length_cons] at hl
            simp only [W.R_Check.c100008, W.R_Check.c10, br_if, idx_mid, bnd_val, badOp_ok o qn bn (hw o (by simp)) (by omega), rfault_ok]
            rw [if_pos lt_app]
            rw [opsBad] at h4
            by_cases ho : opBad o qn bn = 0
            · rw [if_pos ho] at h4
              rw [if_neg (by simp [ho]), wrap_i64 (by omega)]
              exact .inl ⟨_, rfl, by simp, by simpa using h4⟩
            · rw [if_neg ho] at h4
              rw [if_pos (by simp [ho])]
              exact .inr ⟨_, rfl, .inl ⟨_, rfl, h4⟩⟩
          · rintro s ⟨rfl, h4⟩
            simp only [W.R_Check.c100008, br_if]
            rw [if_neg (by simp)]
            exact ⟨_, rfl, .inr ⟨_, rfl, h4⟩⟩
        obtain ⟨r, hr, h⟩ := key
        rw [hr, bnd_val]
        rcases h with ⟨u, rfl, h⟩ | ⟨u, rfl, h⟩
        · rw [sel_inl, ← h]
        · rw [sel_inr, ← h]
end Go.Ql
end

section
/- Circuits: unitary ones; copies; the same. -/
namespace Go.Ql
instance dec3 : DecidableEq (Int × Int × List Int) := inferInstance
instance dec4 : DecidableEq (List Int × Int × Int × List Int) := inferInstance
instance dec6 : DecidableEq Op := instDecidableEqProd
instance decC : DecidableEq Cir := instDecidableEqProd
def notPure : Nat → List Op → Int × Int
  | _, [] => (0, 0)
  | i, o :: r => if o.1 = 5 ∨ o.1 = 6 ∨ o.2.2.2.2.2 ≠ [] then (15, i) else notPure (i + 1) r
def pur (c : Cir) : Int × Int := if (chk c).1 ≠ 0 then chk c else notPure 0 c.2.2
theorem opsBad_zero {qn bn : Int} : ∀ {l : List Op} {i : Nat}, (opsBad qn bn i l).1 = 0 → (∀ o ∈ l, opBad o qn bn = 0) ∧ opsBad qn bn i l = (0, 0)
  | [], _, _ => ⟨(fun _ h => by cases h), rfl⟩
  | o :: l, i, h => by
    rw [opsBad] at h ⊢
    by_cases ho : opBad o qn bn = 0
    · rw [if_pos ho] at h ⊢
      have := opsBad_zero h
      exact ⟨fun o' h' => by
        rcases List.mem_cons.1 h' with rfl | h'
        · exact ho
        · exact this.1 o' h', this.2⟩
    · rw [if_neg ho] at h
      exact absurd h ho
/-- What holds of a circuit that can be. -/
structure GoodC (c : Cir) : Prop where
  q : 1 ≤ c.1 ∧ c.1 ≤ 12
  b : 0 ≤ c.2.1 ∧ c.2.1 ≤ 12
  n : c.2.2.length ≤ 4096
  ops : ∀ o ∈ c.2.2, opBad o c.1 c.2.1 = 0
theorem good_of {c : Cir} (h : (chk c).1 = 0) : GoodC c ∧ chk c = (0, 0) := by
  unfold chk at h ⊢
  by_cases h1 : c.1 < 1 ∨ 12 < c.1
  · rw [if_pos h1] at h; cases h
  · rw [if_neg h1] at h ⊢
    by_cases h2 : c.2.1 < 0 ∨ 12 < c.2.1
    · rw [if_pos h2] at h; cases h
    · rw [if_neg h2] at h ⊢
      by_cases h3 : 4096 < c.2.2.length
      · rw [if_pos h3] at h; cases h
      · rw [if_neg h3] at h ⊢
        have := opsBad_zero h
        exact ⟨⟨by omega, by omega, by omega, this.1⟩, this.2⟩
theorem opsBad_good {qn bn : Int} : ∀ {l : List Op} {i : Nat}, (∀ o ∈ l, opBad o qn bn = 0) → opsBad qn bn i l = (0, 0)
  | [], _, _ => rfl
  | o :: l, i, h => by
    rw [opsBad, if_pos (h o (by simp))]
    exact opsBad_good (fun o' h' => h o' (List.mem_cons_of_mem _ h'))
theorem GoodC.chk {c : Cir} (h : GoodC c) : chk c = (0, 0) := by
  have := h.q; have := h.b; have := h.n
  unfold Ql.chk
  rw [if_neg (by omega), if_neg (by omega), if_neg (by omega)]
  exact opsBad_good h.ops
/-- What holds of an operation that can be. -/
structure GoodOp (o : Op) (qn bn : Int) : Prop where
  kind : 1 ≤ o.1 ∧ o.1 ≤ 6
  k : 0 ≤ o.2.1 ∧ o.2.1 ≤ 15
  k0 : (o.1 = 1 ∨ o.1 = 4) ∨ o.2.1 = 0
  q : 0 ≤ o.2.2.2.1 ∧ o.2.2.2.1 < qn
  q0 : o.1 = 1 → o.2.2.2.1 = 0
  ctl : o.2.2.1 = [] ∨ (o.1 = 2 ∨ o.1 = 3 ∨ o.1 = 4)
  ctls : ctlBad o.2.2.2.1 qn [] o.2.2.1 = 0
  bit : (o.1 = 5 ∧ 0 ≤ o.2.2.2.2.1 ∧ o.2.2.2.2.1 < bn) ∨ (o.1 ≠ 5 ∧ o.2.2.2.2.1 = 0)
  ifs : o.2.2.2.2.2.length ≤ 24
  cond : ¬ ifBad bn o.2.2.2.2.2
theorem goodOp_of {o : Op} {qn bn : Int} (h : opBad o qn bn = 0) : GoodOp o qn bn := by
  unfold opBad at h
  by_cases h1 : o.1 < 1 ∨ 6 < o.1
  · rw [if_pos h1] at h; cases h
  rw [if_neg h1] at h
  by_cases h2 : o.2.1 < 0 ∨ 15 < o.2.1 ∨ (¬ (o.1 = 1 ∨ o.1 = 4) ∧ o.2.1 ≠ 0)
  · rw [if_pos h2] at h; cases h
  rw [if_neg h2] at h
  by_cases h3 : o.2.2.2.1 < 0 ∨ qn ≤ o.2.2.2.1 ∨ (o.1 = 1 ∧ o.2.2.2.1 ≠ 0)
  · rw [if_pos h3] at h; cases h
  rw [if_neg h3] at h
  by_cases h4 : o.2.2.1 ≠ [] ∧ ¬ (o.1 = 2 ∨ o.1 = 3 ∨ o.1 = 4)
  · rw [if_pos h4] at h; cases h
  rw [if_neg h4] at h
  by_cases h5 : ctlBad o.2.2.2.1 qn [] o.2.2.1 ≠ 0
  · rw [if_pos h5] at h; exact absurd h h5
  rw [if_neg h5] at h
  by_cases h6 : (o.1 = 5 ∧ (o.2.2.2.2.1 < 0 ∨ bn ≤ o.2.2.2.2.1)) ∨ (o.1 ≠ 5 ∧ o.2.2.2.2.1 ≠ 0)
  · rw [if_pos h6] at h; cases h
  rw [if_neg h6] at h
  by_cases h7 : 24 < o.2.2.2.2.2.length
  · rw [if_pos h7] at h; cases h
  rw [if_neg h7] at h
  by_cases h8 : ifBad bn o.2.2.2.2.2
  · rw [if_pos h8] at h; cases h
  exact ⟨by omega, by omega, by omega, by omega, by omega, by by_cases h : o.2.2.1 = [] <;> simp_all; omega, by omega, by omega, by omega, h8⟩
theorem GoodOp.bad {o : Op} {qn bn : Int} (h : GoodOp o qn bn) : opBad o qn bn = 0 := by
  obtain ⟨h1, h2, h3, h4, h5, h6, h7, h8, h9, h10⟩ := h
  unfold opBad
  rw [if_neg (by omega), if_neg (by omega), if_neg (by omega), if_neg (by rcases h6 with h | h <;> simp [h]), if_neg (by simp [h7]), if_neg (by omega), if_neg (by omega), if_neg h10]
theorem ctlBad_zero {q0 qn : Int} : ∀ {r pre : List Int}, ctlBad q0 qn pre r = 0 ↔ (∀ q ∈ r, 0 ≤ q ∧ q < qn ∧ q ≠ q0 ∧ q ∉ pre) ∧ r.Nodup
  | [], _ => by simp [ctlBad]
  | q :: r, pre => by
    rw [ctlBad]
    by_cases h1 : q < 0 ∨ qn ≤ q
    · rw [if_pos h1]
      constructor
      · intro h; cases h
      · intro h; have := h.1 q (by simp); omega
    · rw [if_neg h1]
      by_cases h2 : q = q0 ∨ q ∈ pre
      · rw [if_pos h2]
        constructor
        · intro h; cases h
        · intro h; have := h.1 q (by simp); rcases h2 with h2 | h2
          · exact absurd h2 this.2.2.1
          · exact absurd h2 this.2.2.2
      · rw [if_neg h2, ctlBad_zero]
        have h1a : 0 ≤ q := by omega
        have h1b : q < qn := by omega
        simp only [not_or] at h2
        simp only [List.mem_cons, forall_eq_or_imp, List.nodup_cons, List.mem_append, List.mem_singleton, not_or]
        constructor
        · rintro ⟨h3, h4⟩
          exact ⟨⟨⟨h1a, h1b, h2.1, h2.2⟩, fun a ha => ⟨(h3 a ha).1, (h3 a ha).2.1, (h3 a ha).2.2.1, (h3 a ha).2.2.2.1⟩⟩, fun hq => (h3 q hq).2.2.2.2.1 rfl, h4⟩
        · rintro ⟨⟨_, h3⟩, h4, h5⟩
          exact ⟨fun a ha => ⟨(h3 a ha).1, (h3 a ha).2.1, (h3 a ha).2.2.1, (h3 a ha).2.2.2, ⟨fun e => h4 (e ▸ ha), by simp⟩⟩, h5⟩

/-! ## Pure -/
theorem pure_c7 (k : Int) (l : List Int) : W.circ_pure.c7 k l some = some (decide (k = 5 ∨ k = 6 ∨ l ≠ [])) := by
  simp only [W.circ_pure.c7, br_or]; exact some_dec (by cases l <;> simp)
theorem pure_ok (c : Cir) (hc : WCir c) : W.circ_pure c = some (pur c) := by
  obtain ⟨qn, bn, ops⟩ := c
  have hl := hc.1
  simp only at hl
  simp only [W.circ_pure, check_ok _ hc, bnd_val, br_if, pur]
  by_cases h1 : (chk (qn, bn, ops)).1 = 0
  · rw [if_neg (by simp [h1]), if_neg (by simp [h1])]
    have key : ∃ r, iter (fun s : Int ↦ W.circ_pure.c100005 ops (ops.length : Int) s some) (0 : Int) = some r ∧
        ((∃ u, r = .inl u ∧ (u.2.1, u.2.2) = notPure 0 ops) ∨ ∃ u, r = .inr u ∧ (0, 0) = notPure 0 ops) := by
      refine iter_each (l := ops) (fun pre r s => s = (pre.length : Int) ∧ notPure pre.length r = notPure 0 ops) _ ?_ ?_ ⟨rfl, rfl⟩
      · rintro pre o r s rfl ⟨rfl, h4⟩
        simp only [List.length_append, List.length_cons] at hl
        simp only [W.circ_pure.c100005, br_if, idx_mid, bnd_val, pure_c7, fault_ok]
        rw [if_pos lt_app]
        rw [notPure] at h4
        by_cases ho : o.1 = 5 ∨ o.1 = 6 ∨ o.2.2.2.2.2 ≠ []
        · rw [if_pos ho] at h4
          rw [if_pos (by simpa using ho)]
          exact .inr ⟨_, rfl, .inl ⟨_, rfl, h4⟩⟩
        · rw [if_neg ho] at h4
          rw [if_neg (by simpa using ho), wrap_i64 (by omega)]
          exact .inl ⟨_, rfl, by simp, by simpa using h4⟩
      · rintro s ⟨rfl, h4⟩
        simp only [W.circ_pure.c100005, br_if]
        rw [if_neg (by simp)]
        exact ⟨_, rfl, .inr ⟨_, rfl, h4⟩⟩
    obtain ⟨r, hr, h⟩ := key
    rw [hr, bnd_val]
    rcases h with ⟨u, rfl, h⟩ | ⟨u, rfl, h⟩
    · rw [sel_inl, ← h]
    · rw [sel_inr, ← h]
  · rw [if_pos (by simp [h1]), if_pos (by simp [h1])]
theorem rpure_ok (c : Cir) (hc : WCir c) : W.R_Pure c = some (pur c) := by
  obtain ⟨qn, bn, ops⟩ := c
  have hl := hc.1
  simp only at hl
  simp only [W.R_Pure, rcheck_ok _ hc, bnd_val, br_if, pur]
  by_cases h1 : (chk (qn, bn, ops)).1 = 0
  · obtain ⟨hg, h0⟩ := good_of h1
    rw [if_neg (by simp [h1]), if_neg (by simp [h1])]
    have key : ∃ r, iter (fun s : Int ↦ W.R_Pure.c100005 s ops some) (0 : Int) = some r ∧
        ((∃ u, r = .inl u ∧ (u.2.1, u.2.2) = notPure 0 ops) ∨ ∃ u, r = .inr u ∧ (0, 0) = notPure 0 ops) := by
      refine iter_each (l := ops) (fun pre r s => s = (pre.length : Int) ∧ notPure pre.length r = notPure 0 ops) _ ?_ ?_ ⟨rfl, rfl⟩
      · rintro pre o r s rfl ⟨rfl, h4⟩
        simp only [List.length_append, List.length_cons] at hl
        have hk := (goodOp_of (hg.ops o (by simp))).kind
        have h7 : W.R_Pure.c7 (pre.length : Int) (pre ++ o :: r) some = some (decide (o.1 = 5 ∨ o.1 = 6 ∨ o.2.2.2.2.2 ≠ [])) := by
          simp only [W.R_Pure.c7, br_if, idx_mid, bnd_val]
          by_cases h5 : 5 ≤ o.1
          · rw [if_pos (by simpa using h5)]
            have : o.1 = 5 ∨ o.1 = 6 := by omega
            rcases this with h | h <;> simp [h]
          · rw [if_neg (by simpa using h5)]
            have h5a : o.1 ≠ 5 := by omega
            have h5b : o.1 ≠ 6 := by omega
            simp only [h5a, h5b, false_or]
            cases o.2.2.2.2.2 <;> simp
        simp only [W.R_Pure.c100005, br_if, h7, bnd_val, rfault_ok]
        rw [if_pos lt_app]
        rw [notPure] at h4
        by_cases ho : o.1 = 5 ∨ o.1 = 6 ∨ o.2.2.2.2.2 ≠ []
        · rw [if_pos ho] at h4
          rw [if_pos (by simpa using ho)]
          exact .inr ⟨_, rfl, .inl ⟨_, rfl, h4⟩⟩
        · rw [if_neg ho] at h4
          rw [if_neg (by simpa using ho), wrap_i64 (by omega)]
          exact .inl ⟨_, rfl, by simp, by simpa using h4⟩
      · rintro s ⟨rfl, h4⟩
        simp only [W.R_Pure.c100005, br_if]
        rw [if_neg (by simp)]
        exact ⟨_, rfl, .inr ⟨_, rfl, h4⟩⟩
    obtain ⟨r, hr, h⟩ := key
    rw [hr, bnd_val]
    rcases h with ⟨u, rfl, h⟩ | ⟨u, rfl, h⟩
    · rw [sel_inl, ← h]
    · rw [sel_inr, ← h, h0]
  · rw [if_pos (by simp [h1]), if_pos (by simp [h1])]

/-! ## Copies -/
theorem rcopyInts_ok (l : List Int) (hl : l.length ≤ 17592186043904) : W.R_copyInts l = some l := by
  have h : ∃ r, iter (fun s : Int × List Int ↦ W.R_copyInts.c100003 l s.1 s.2 some) ((0 : Int), []) = some r ∧ r.2 = l := by
    refine iter_each (l := l) (fun pre r s => s = ((pre.length : Int), pre)) _ ?_ ?_ rfl
    · rintro pre a r s rfl rfl
      simp only [List.length_append, List.length_cons] at hl
      simp only [W.R_copyInts.c100003, br_if, idx_mid, bnd_val]
      rw [if_pos lt_app, okIf_true (by simp; omega), wrap_i64 (by omega)]
      exact .inl ⟨_, rfl, by simp⟩
    · rintro s rfl
      simp only [W.R_copyInts.c100003, br_if]
      rw [if_neg (by simp)]
      exact ⟨_, rfl, rfl⟩
  obtain ⟨r, hr, h⟩ := h
  simp only [W.R_copyInts, hr, bnd_val, h]
theorem rcopyOp_ok (o : Op) (ho : WOp o) : W.R_copyOp o = some o := by
  simp only [W.R_copyOp, rcopyInts_ok _ ho.1, rcopyInts_ok _ ho.2, bnd_val]
theorem copyCircuit_ok (c : Cir) (hc : WCir c) : W.R_CopyCircuit c = some c := by
  obtain ⟨qn, bn, ops⟩ := c
  obtain ⟨hl, hw⟩ := hc
  simp only at hl hw
  have h : ∃ r, iter (fun s : Int × List Op ↦ W.R_CopyCircuit.c100003 s.1 ops s.2 some) ((0 : Int), []) = some r ∧ r.2 = ops := by
    refine iter_each (l := ops) (fun pre r s => s = ((pre.length : Int), pre)) _ ?_ ?_ rfl
    · rintro pre a r s rfl rfl
      simp only [List.length_append, List.length_cons] at hl
      simp only [W.R_CopyCircuit.c100003, W.R_CopyCircuit.c5, br_if, idx_mid, bnd_val, rcopyOp_ok a (hw a (by simp))]
      rw [if_pos lt_app, okIf_true (by simp; omega), wrap_i64 (by omega)]
      exact .inl ⟨_, rfl, by simp⟩
    · rintro s rfl
      simp only [W.R_CopyCircuit.c100003, br_if]
      rw [if_neg (by simp)]
      exact ⟨_, rfl, rfl⟩
  obtain ⟨r, hr, h⟩ := h
  simp only [W.R_CopyCircuit, hr, bnd_val, h]
theorem clone_ok (l : List Int) (hl : l.length ≤ 17592186043904) : W.slices_Clone_int l = some (l, ()) := by
  simp only [W.slices_Clone_int, br_if]
  rw [okIf_true (by simp; omega)]
  simp only [bnd_val]
  cases l
  · simp [both_self]
  · simp
theorem copied_ok (o : Op) (ho : WOp o) : W.circ_copied o = some o := by
  simp only [W.circ_copied, W.circ_copied.c1, clone_ok _ ho.1, clone_ok _ ho.2, bnd_val]
/-! ## The same -/
theorem sameInts_ok (a b : List Int) (ha : a.length ≤ 17592186043904) : W.R_SameInts a b = some (decide (a = b)) := by
  simp only [W.R_SameInts, br_if]
  by_cases hlen : a.length = b.length
  · rw [if_neg (by simp [hlen])]
    have h : ∃ r, iter (fun s : Int ↦ W.R_SameInts.c100004 a b s some) (0 : Int) = some r ∧ ((∃ u, r = .inl u ∧ a ≠ b) ∨ ∃ u, r = .inr u ∧ a = b) := by
      refine iter_upto a.length (fun i s => s = (i : Int) ∧ a.take i = b.take i) _ ?_ ?_ ⟨rfl, rfl⟩
      · rintro i s hi ⟨rfl, h1⟩
        have h6 : W.R_SameInts.c6 a b (i : Int) some = some (decide (a[i] ≠ b[i]'(by omega))) := by
          simp only [W.R_SameInts.c6, idx_get hi, idx_get (show i < b.length by omega), bnd_val]
          exact some_dec (by simp)
        simp only [W.R_SameInts.c100004, br_if, h6, bnd_val]
        rw [if_pos (by simpa using hi)]
        by_cases hd : a[i] = b[i]'(by omega)
        · rw [if_neg (by simpa using hd), wrap_i64 (by omega)]
          exact .inl ⟨_, rfl, by simp, by rw [List.take_succ_eq_append_getElem hi, List.take_succ_eq_append_getElem (by omega), h1, hd]⟩
        · rw [if_pos (by simpa using hd)]
          exact .inr ⟨_, rfl, .inl ⟨_, rfl, fun e => hd (by subst e; rfl)⟩⟩
      · rintro s ⟨rfl, h1⟩
        simp only [W.R_SameInts.c100004, br_if]
        rw [if_neg (by simp)]
        rw [List.take_length, hlen, List.take_length] at h1
        exact ⟨_, rfl, .inr ⟨_, rfl, h1⟩⟩
    obtain ⟨r, hr, h⟩ := h
    rw [hr, bnd_val]
    rcases h with ⟨u, rfl, h⟩ | ⟨u, rfl, h⟩
    · rw [sel_inl]; simp [h]
    · rw [sel_inr]; simp [h]
  · rw [if_pos (by simp; omega)]
    have : a ≠ b := fun e => hlen (by rw [e])
    simp [this]
theorem sameCircuit_ok (a b : Cir) (ha : WCir a) : W.R_SameCircuit a b = some (decide (a = b)) := by
  obtain ⟨q1, b1, l1⟩ := a
  obtain ⟨q2, b2, l2⟩ := b
  obtain ⟨hl, hw⟩ := ha
  simp only at hl hw
  have h1 : W.R_SameCircuit.c1 q1 b1 l1 q2 b2 l2 some = some (decide (q1 ≠ q2 ∨ b1 ≠ b2 ∨ l1.length ≠ l2.length)) := by
    simp only [W.R_SameCircuit.c1, br_or]; exact some_dec (by simp; try omega)
  simp only [W.R_SameCircuit, h1, bnd_val, br_if, decide_eq_true_eq]
  by_cases h0 : q1 ≠ q2 ∨ b1 ≠ b2 ∨ l1.length ≠ l2.length
  · rw [if_pos h0]
    have : (q1, b1, l1) ≠ (q2, b2, l2) := by
      intro e
      injection e with e1 e
      injection e with e2 e
      subst e1; subst e2; subst e
      simp at h0
    simp [this]
  · rw [if_neg h0]
    simp only [not_or, Decidable.not_not] at h0
    obtain ⟨rfl, rfl, hlen⟩ := h0
    have h : ∃ r, iter (fun s : Int ↦ W.R_SameCircuit.c100004 s l1 l2 some) (0 : Int) = some r ∧ ((∃ u, r = .inl u ∧ l1 ≠ l2) ∨ ∃ u, r = .inr u ∧ l1 = l2) := by
      refine iter_upto l1.length (fun i s => s = (i : Int) ∧ l1.take i = l2.take i) _ ?_ ?_ ⟨rfl, rfl⟩
      · rintro i s hi ⟨rfl, h1⟩
        have hwi := hw _ (List.getElem_mem hi)
        have hi2 : i < l2.length := by omega
        have h8 : ∀ x y : Op, WOp x → W.R_SameCircuit.c8 x.1 x.2.1 x.2.2.1 x.2.2.2.1 x.2.2.2.2.1 x.2.2.2.2.2 y.1 y.2.1 y.2.2.1 y.2.2.2.1 y.2.2.2.2.1 y.2.2.2.2.2 some = some (decide (x ≠ y)) := by
          rintro ⟨x0, x1, x2, x3, x4, x5⟩ ⟨y0, y1, y2, y3, y4, y5⟩ hx
          simp only [W.R_SameCircuit.c8, br_or, sameInts_ok _ _ hx.1, sameInts_ok _ _ hx.2, bnd_val]
          exact some_dec (by simp; grind)
        simp only [W.R_SameCircuit.c100004, br_if, idx_get hi, idx_get hi2, bnd_val, h8 _ _ hwi]
        rw [if_pos (by simpa using hi)]
        by_cases hd : l1[i] = l2[i]
        · rw [if_neg (by simpa using hd), wrap_i64 (by omega)]
          exact .inl ⟨_, rfl, by simp, by rw [List.take_succ_eq_append_getElem hi, List.take_succ_eq_append_getElem hi2, h1, hd]⟩
        · rw [if_pos (by simpa using hd)]
          exact .inr ⟨_, rfl, .inl ⟨_, rfl, fun e => hd (by subst e; rfl)⟩⟩
      · rintro s ⟨rfl, h1⟩
        simp only [W.R_SameCircuit.c100004, br_if]
        rw [if_neg (by simp)]
        rw [List.take_length, hlen, List.take_length] at h1
        exact ⟨_, rfl, .inr ⟨_, rfl, h1⟩⟩
    obtain ⟨r, hr, h⟩ := h
    rw [hr, bnd_val]
    rcases h with ⟨u, rfl, h⟩ | ⟨u, rfl, h⟩
    · rw [sel_inl]; simp [h]
    · rw [sel_inr]; simp [h]
theorem answers_ok (c d : Cir) (f g : Int × Int) (hc : WCir c) : W.Law_answers c f d g = some (decide (f = g ∧ c = d)) := by
  have h1 : W.Law_answers.c1 c.1 c.2.1 c.2.2 f.1 f.2 d.1 d.2.1 d.2.2 g.1 g.2 some = some (decide (f = g ∧ c = d)) := by
    simp only [W.Law_answers.c1, br_if, sameCircuit_ok c d hc, bnd_val]
    obtain ⟨f0, f1⟩ := f
    obtain ⟨g0, g1⟩ := g
    simp [Ty.eqT]
    grind
  simp only [W.Law_answers, h1, bnd_val]
end Go.Ql
end

section
/- Circuits: undone, raised, one behind the other. -/
namespace Go.Ql
def invOp (o : Op) : Op := (o.1, (16 - o.2.1) % 16, o.2.2.1, o.2.2.2.1, o.2.2.2.2.1, o.2.2.2.2.2)
abbrev nix : Cir := (0, 0, [])
def inv (c : Cir) : Cir := (c.1, c.2.1, (c.2.2.map invOp).reverse)
def inverse (c : Cir) : Cir × Int × Int := if (pur c).1 ≠ 0 then (nix, pur c) else (inv c, (0, 0))
theorem invOp_w {o : Op} (h : WOp o) : WOp (invOp o) := h
theorem notPure_zero : ∀ {l : List Op} {i : Nat}, (notPure i l).1 = 0 → (∀ o ∈ l, ¬ (o.1 = 5 ∨ o.1 = 6 ∨ o.2.2.2.2.2 ≠ [])) ∧ notPure i l = (0, 0)
  | [], _, _ => ⟨(fun _ h => by cases h), rfl⟩
  | o :: l, i, h => by
    rw [notPure] at h ⊢
    by_cases ho : o.1 = 5 ∨ o.1 = 6 ∨ o.2.2.2.2.2 ≠ []
    · rw [if_pos ho] at h; cases h
    · rw [if_neg ho] at h ⊢
      have := notPure_zero h
      exact ⟨fun o' h' => by
        rcases List.mem_cons.1 h' with rfl | h'
        · exact ho
        · exact this.1 o' h', this.2⟩
theorem notPure_of : ∀ {l : List Op} {i : Nat}, (∀ o ∈ l, ¬ (o.1 = 5 ∨ o.1 = 6 ∨ o.2.2.2.2.2 ≠ [])) → notPure i l = (0, 0)
  | [], _, _ => rfl
  | o :: l, i, h => by
    rw [notPure, if_neg (h o (by simp))]
    exact notPure_of (fun o' h' => h o' (List.mem_cons_of_mem _ h'))
theorem pur_zero {c : Cir} (h : (pur c).1 = 0) : GoodC c ∧ pur c = (0, 0) ∧ ∀ o ∈ c.2.2, ¬ (o.1 = 5 ∨ o.1 = 6 ∨ o.2.2.2.2.2 ≠ []) := by
  unfold pur at h ⊢
  by_cases h1 : (chk c).1 = 0
  · rw [if_neg (by simp [h1])] at h ⊢
    have := notPure_zero h
    exact ⟨(good_of h1).1, this.2, this.1⟩
  · rw [if_pos h1] at h
    exact absurd h h1
theorem pur_of {c : Cir} (h : GoodC c) (h' : ∀ o ∈ c.2.2, ¬ (o.1 = 5 ∨ o.1 = 6 ∨ o.2.2.2.2.2 ≠ [])) : pur c = (0, 0) := by
  unfold pur
  rw [h.chk, if_neg (by simp)]
  exact notPure_of h'
theorem reverse_ok (l : List Op) (hl : l.length ≤ 1759218604390) : W.slices_Reverse_api_Op l = some (l.reverse, ()) := by
  have h : ∃ r, iter (fun s : Int × Int × List Op ↦ W.slices_Reverse_api_Op.c100001 s.1 s.2.1 s.2.2 some) ((0 : Int), IntKind.wrap IntKind.i64 ((l.length : Int) - 1), l) = some r ∧ r.2.2 = l.reverse := by
    refine iter_upto (l.length / 2) (fun i s => s.1 = (i : Int) ∧ s.2.1 = (l.length : Int) - 1 - i ∧ s.2.2.length = l.length ∧ ∀ k : Nat, k < l.length → s.2.2[k]? = if k < i ∨ l.length ≤ k + i then l[l.length - 1 - k]? else l[k]?) _ ?_ ?_ ⟨rfl, by rw [wrap_i64 (by omega)]; simp, rfl, fun k hk => by rw [if_neg (by omega)]⟩
    · rintro i ⟨a, b, t⟩ hi ⟨h1, h2, h3, h4⟩
      simp only at h1 h2 h3 h4
      subst h1
      obtain ⟨j, rfl, hj⟩ : ∃ j : Nat, b = j ∧ j = l.length - 1 - i := ⟨l.length - 1 - i, by omega, rfl⟩
      have hj2 : j < l.length := by omega
      simp only [W.slices_Reverse_api_Op.c100001, W.slices_Reverse_api_Op.c3, br_if]
      rw [if_pos (by simp; omega)]
      have ej : t[j]? = l[j]? := by rw [h4 j hj2, if_neg (by omega)]
      have ei : t[i]? = l[i]? := by rw [h4 i (by omega), if_neg (by omega)]
      rw [inR_at (by omega), bnd_val, idx_at, ej, List.getElem?_eq_getElem hj2, bnd_val, inR_at (by omega), bnd_val, idx_at, ei, List.getElem?_eq_getElem (show i < l.length by omega)]
      simp only [bnd_val, Int.toNat_natCast, List.length_set]
      rw [inR_at (by omega), bnd_val, idx_at, List.getElem?_set_ne (by omega), ej, List.getElem?_eq_getElem hj2]
      simp only [bnd_val]
      rw [wrap_i64 (by omega), wrap_i64 (by omega)]
      refine .inl ⟨_, rfl, by simp, by simp; omega, by simp [h3], fun k hk => ?_⟩
      simp only [List.getElem?_set, List.length_set, h3]
      by_cases e1 : j = k
      · subst e1
        rw [if_pos rfl, if_pos hj2, if_pos (by omega), show l.length - 1 - j = i by omega, List.getElem?_eq_getElem (show i < l.length by omega)]
      · rw [if_neg e1]
        by_cases e2 : i = k
        · subst e2
          rw [if_pos rfl, if_pos (by omega), if_pos (by omega), show l.length - 1 - i = j by omega, List.getElem?_eq_getElem hj2]
        · rw [if_neg e2, h4 k hk]
          by_cases e3 : k < i ∨ l.length ≤ k + i
          · rw [if_pos e3, if_pos (by omega)]
          · rw [if_neg e3, if_neg (by omega)]
    · rintro ⟨a, b, t⟩ ⟨h1, h2, h3, h4⟩
      simp only at h1 h2 h3 h4
      subst h1; subst h2
      simp only [W.slices_Reverse_api_Op.c100001, br_if]
      rw [if_neg (by simp; omega)]
      refine ⟨_, rfl, ?_⟩
      apply List.ext_getElem?
      intro k
      by_cases hk : k < l.length
      · show t[k]? = _
        rw [h4 k hk, List.getElem?_reverse hk]
        by_cases e : k < l.length / 2 ∨ l.length ≤ k + l.length / 2
        · rw [if_pos e]
        · rw [if_neg e, show l.length - 1 - k = k by omega]
      · show t[k]? = _
        rw [List.getElem?_eq_none (by omega), List.getElem?_eq_none (by simp; omega)]
  obtain ⟨r, hr, h⟩ := h
  simp only [W.slices_Reverse_api_Op, hr, bnd_val, h]
theorem inv1_ok (o : Op) (h : 0 ≤ o.2.1 ∧ o.2.1 ≤ 15) : W.circ_Inverse_1 o = some (invOp o) := by
  simp only [W.circ_Inverse_1, invOp]
  rw [wrap_i64 (by omega), Int.tmod_eq_emod_of_nonneg (by omega)]
theorem eachInv_ok (c : Cir) (hc : WCir c) (hk : ∀ o ∈ c.2.2, 0 ≤ o.2.1 ∧ o.2.1 ≤ 15) : W.circ_each__inv c = some (c.1, c.2.1, c.2.2.map invOp, ()) := by
  obtain ⟨qn, bn, ops⟩ := c
  obtain ⟨hl, hw⟩ := hc
  simp only at hl hw hk
  have h : ∃ r, iter (fun s : Int × List Op ↦ W.circ_each__inv.c100003 ops (ops.length : Int) s.1 s.2 some) ((0 : Int), []) = some r ∧ r.2 = ops.map invOp := by
    refine iter_each (l := ops) (fun pre r s => s = ((pre.length : Int), pre.map invOp)) _ ?_ ?_ rfl
    · rintro pre a r s rfl rfl
      simp only [List.length_append, List.length_cons] at hl
      simp only [W.circ_each__inv.c100003, W.circ_each__inv.c5, br_if, idx_mid, bnd_val, WOp.eta, copied_ok a (hw a (by simp)), inv1_ok a (hk a (by simp))]
      rw [if_pos lt_app, okIf_true (by simp; omega), wrap_i64 (by omega)]
      exact .inl ⟨_, rfl, by simp⟩
    · rintro s rfl
      simp only [W.circ_each__inv.c100003, br_if]
      rw [if_neg (by simp)]
      exact ⟨_, rfl, rfl⟩
  obtain ⟨r, hr, h⟩ := h
  simp only [W.circ_each__inv, hr, bnd_val, h]
theorem WCir.eta (c : Cir) : (c.1, c.2.1, c.2.2) = c := rfl
theorem inverse_ok (c : Cir) (hc : WCir c) : W.circ_Inverse c = some (inverse c) := by
  simp only [W.circ_Inverse, W.circ_Inverse.c3, WCir.eta, pure_ok c hc, bnd_val, br_if, inverse]
  by_cases h : (pur c).1 = 0
  · obtain ⟨hg, hp, _⟩ := pur_zero h
    rw [if_neg (by simp [h]), if_neg (by simp [h]), eachInv_ok c hc (fun o ho => (goodOp_of (hg.ops o ho)).k)]
    simp only [bnd_val]
    rw [reverse_ok _ (by simpa using hc.1)]
    rfl
  · rw [if_pos (by simp [h]), if_pos h]
theorem rinverse_ok (c : Cir) (hc : WCir c) : W.R_Inverse c = some (inverse c) := by
  simp only [W.R_Inverse, W.R_Inverse.c3, W.R_Inverse.c12, WCir.eta, rpure_ok c hc, bnd_val, br_if, inverse]
  by_cases h : (pur c).1 = 0
  · obtain ⟨hg, hp, _⟩ := pur_zero h
    obtain ⟨qn, bn, ops⟩ := c
    obtain ⟨hl, hw⟩ := hc
    simp only at hl hw
    rw [if_neg (by simp [h]), if_neg (by simp [h])]
    have hk : ∀ o ∈ ops, 0 ≤ o.2.1 ∧ o.2.1 ≤ 15 := fun o ho => (goodOp_of (hg.ops o ho)).k
    have key : ∃ r, iter (fun s : Int × List Op ↦ W.R_Inverse.c100006 s.1 ops s.2 some) (IntKind.wrap IntKind.i64 ((ops.length : Int) - 1), []) = some r ∧ r.2 = (ops.map invOp).reverse := by
      refine iter_each (l := ops.reverse) (fun pre r s => s = ((r.length : Int) - 1, pre.map invOp)) _ ?_ ?_ (by rw [wrap_i64 (by omega)]; simp)
      · rintro pre o r s he rfl
        have he' : ops = r.reverse ++ o :: pre.reverse := by
          have := congrArg List.reverse he
          simpa using this
        have ho : o ∈ ops := by rw [he']; simp
        have hidx : idx ops ((o :: r).length - 1 : Int) = some o := by
          have := idx_mid (pre := r.reverse) (a := o) (r := pre.reverse)
          rw [he']
          simpa using this
        have hlen := congrArg List.length he'
        simp only [List.length_append, List.length_reverse, List.length_cons] at hlen
        have h2 : W.R_Inverse.c236869 o.2.1 some = some ((16 - o.2.1) % 16) := by
          have := hk o ho
          simp only [W.R_Inverse.c236869, br_if]
          rw [wrap_i64 (by omega)]
          split
          · rename_i h; simp at h; congr 1; omega
          · rename_i h; simp at h; congr 1; omega
        simp only [W.R_Inverse.c100006, br_if, hidx, bnd_val, rcopyOp_ok o (hw o ho), h2]
        rw [if_pos (by simp), okIf_true (by simp; omega), wrap_i64 (by simp; omega)]
        exact .inl ⟨_, rfl, by simp [invOp]⟩
      · rintro s rfl
        simp only [W.R_Inverse.c100006, br_if]
        rw [if_neg (by simp)]
        exact ⟨_, rfl, by simp⟩
    obtain ⟨r, hr, h'⟩ := key
    rw [hr]
    simp only [bnd_val, h', hp, inv]
  · rw [if_pos (by simp [h]), if_pos h]

/-! ## Powers -/
def base (c : Cir) (n : Int) : List Op := if n < 0 then (inv c).2.2 else c.2.2
def power (c : Cir) (n : Int) : Cir × Int × Int :=
  if (pur c).1 ≠ 0 then (nix, pur c) else if 4096 < n.natAbs * c.2.2.length then (nix, (2, 0)) else ((c.1, c.2.1, (List.replicate n.natAbs (base c n)).flatten), (0, 0))
theorem base_len (c : Cir) (n : Int) : (base c n).length = c.2.2.length := by unfold base; split <;> simp [inv]
theorem base_w {c : Cir} (hc : WCir c) (n : Int) : ∀ o ∈ base c n, WOp o := by
  intro o ho
  unfold base at ho
  split at ho
  · simp only [inv, List.mem_reverse, List.mem_map] at ho
    obtain ⟨o', h1, rfl⟩ := ho
    exact invOp_w (hc.2 o' h1)
  · exact hc.2 o ho
theorem flat_len (k : Nat) (l : List Op) : (List.replicate k l).flatten.length = k * l.length := by
  induction k with
  | zero => simp
  | succ k ih => simp [List.replicate_succ, Nat.succ_mul, Nat.add_comm, ih]
theorem flat_snoc (k : Nat) (l : List Op) : (List.replicate k l).flatten ++ l = (List.replicate (k + 1) l).flatten := by
  rw [List.replicate_succ', List.flatten_append]; simp
theorem powApp_ok (b t : List Op) (hw : ∀ o ∈ b, WOp o) (hl : t.length + b.length ≤ 100000000000) :
    ∃ r, iter (fun s : Int × List Op ↦ W.circ_Power.c100014 b (b.length : Int) s.1 s.2 some) ((0 : Int), t) = some r ∧ r.2 = t ++ b := by
  refine iter_each (l := b) (fun pre r s => s = ((pre.length : Int), t ++ pre)) _ ?_ ?_ (by simp)
  · rintro pre a r s rfl rfl
    simp only [List.length_append, List.length_cons] at hl
    simp only [W.circ_Power.c100014, W.circ_Power.c16, br_if, idx_mid, bnd_val, WOp.eta, copied_ok a (hw a (by simp))]
    rw [if_pos lt_app, okIf_true (by simp; omega), wrap_i64 (by omega)]
    exact .inl ⟨_, rfl, by simp⟩
  · rintro s rfl
    simp only [W.circ_Power.c100014, br_if]
    rw [if_neg (by simp)]
    exact ⟨_, rfl, rfl⟩
theorem rpowApp_ok (b t : List Op) (hw : ∀ o ∈ b, WOp o) (hl : t.length + b.length ≤ 100000000000) :
    ∃ r, iter (fun s : Int × List Op ↦ W.R_Power.c100014 s.1 b s.2 some) ((0 : Int), t) = some r ∧ r.2 = t ++ b := by
  refine iter_each (l := b) (fun pre r s => s = ((pre.length : Int), t ++ pre)) _ ?_ ?_ (by simp)
  · rintro pre a r s rfl rfl
    simp only [List.length_append, List.length_cons] at hl
    simp only [W.R_Power.c100014, W.R_Power.c16, br_if, idx_mid, bnd_val, rcopyOp_ok a (hw a (by simp))]
    rw [if_pos lt_app, okIf_true (by simp; omega), wrap_i64 (by omega)]
    exact .inl ⟨_, rfl, by simp⟩
  · rintro s rfl
    simp only [W.R_Power.c100014, br_if]
    rw [if_neg (by simp)]
    exact ⟨_, rfl, rfl⟩
theorem mul_gt {s l : Nat} (hl : 0 < l) : 4096 / l < s ↔ 4096 < s * l := by
  rw [Nat.div_lt_iff_lt_mul hl]
theorem power_ok (c : Cir) (n : Int) (hc : WCir c) (hn : -9223372036854775808 ≤ n ∧ n ≤ 9223372036854775807) : W.circ_Power c n = some (power c n) := by
  obtain ⟨qn, bn, ops⟩ := c
  have hl := hc.1
  simp only at hl
  simp only [W.circ_Power, W.circ_Power.c1, W.circ_Power.c5, W.circ_Power.c208197, pure_ok _ hc, inverse_ok _ hc, bnd_val, br_if, power]
  by_cases h : (pur (qn, bn, ops)).1 = 0
  · obtain ⟨hg, hp, _⟩ := pur_zero h
    have hinv : inverse (qn, bn, ops) = (inv (qn, bn, ops), (0, 0)) := by unfold inverse; rw [if_neg (by simp [h])]
    have hb : (if decide (n < 0) = true then some ((inverse (qn, bn, ops)).1.1, (inverse (qn, bn, ops)).1.2.1, (inverse (qn, bn, ops)).1.2.2, (inverse (qn, bn, ops)).2.1, (inverse (qn, bn, ops)).2.2) else some (qn, bn, ops, (pur (qn, bn, ops)).1, (pur (qn, bn, ops)).2)) = some (qn, bn, base (qn, bn, ops) n, (0 : Int), (0 : Int)) := by
      rw [hinv, hp]
      unfold base
      by_cases h0 : n < 0 <;> simp [h0, inv]
    rw [hb]
    have hsz : W.circ_Power.c228677 n n some = some (if n = -9223372036854775808 then n else (n.natAbs : Int)) := by
      simp only [W.circ_Power.c228677, br_if]
      by_cases h0 : n < 0
      · rw [if_pos (by simpa using h0)]
        by_cases h1 : n = -9223372036854775808
        · rw [if_pos h1, h1]; rfl
        · rw [if_neg h1, wrap_i64 (by omega)]; congr 1; omega
      · rw [if_neg (by simpa using h0), if_neg (by omega)]; congr 1; omega
    have hR : ¬ ((pur (qn, bn, ops)).1 ≠ 0) := by simp [h]
    rw [if_neg hR]
    simp only [bnd_val, hsz]
    rw [if_neg (by simp)]
    by_cases hmin : n = -9223372036854775808
    · rw [if_pos hmin]
      by_cases h0 : ops.length = 0
      · have : ops = [] := List.eq_nil_of_length_eq_zero h0
        subst this
        have hbase : base (qn, bn, []) n = [] := by unfold base; split <;> rfl
        have hflat : ∀ k : Nat, (List.replicate k ([] : List Op)).flatten = [] := fun k => by simp
        rw [hbase, hflat]
        have hit : iter (fun s : List Op ↦ W.circ_Power.c100012 n [] s some) [] = some [] := by
          apply iter_inr
          simp only [W.circ_Power.c100012, br_if]
          rw [show n * ((List.length ([] : List Op) : Nat) : Int) = 0 by simp, wrap_i64 (by omega)]
          rfl
        have h9 : W.circ_Power.c9 n ([] : List Op) some = some false := rfl
        rw [h9, hit, List.length_nil, Nat.mul_zero]
        rfl
      · simp only [W.circ_Power.c9, br_if]
        rw [if_pos (by simp; omega), if_pos (by simp only [decide_eq_true_eq]; omega), if_pos (by
          have : 1 ≤ ops.length := by omega
          have h9 : 9223372036854775808 ≤ n.natAbs := by omega
          have := Nat.mul_le_mul h9 this
          omega)]
        simp [bnd_val, fault_ok]
    · rw [if_neg hmin]
      have hc9 : W.circ_Power.c9 (n.natAbs : Int) ops some = some (decide (4096 < n.natAbs * ops.length)) := by
        simp only [W.circ_Power.c9, br_if]
        by_cases h0 : ops.length = 0
        · rw [if_neg (by simp [h0])]; simp [h0]
        · have hne : ops ≠ [] := fun e => h0 (by rw [e]; rfl)
          rw [if_pos (by simp; omega), if_neg (by simp), okIf_true (by simp [hne]), bnd_val]
          rw [Int.tdiv_eq_ediv_of_nonneg (by omega)]
          have h1 : (4096 : Int) / (ops.length : Int) = ((4096 / ops.length : Nat) : Int) := by simp
          have h2 : 4096 / ops.length ≤ 4096 := Nat.div_le_self _ _
          have := mul_gt (s := n.natAbs) (l := ops.length) (by omega)
          rw [h1]
          generalize 4096 / ops.length = d at *
          rw [wrap_i64 (by omega)]
          congr 1
          simp only [gt_iff_lt, decide_eq_decide]
          omega
      rw [hc9]
      simp only [bnd_val, decide_eq_true_eq]
      by_cases hbig : 4096 < n.natAbs * ops.length
      · rw [if_pos hbig, if_pos hbig]
        simp [bnd_val, fault_ok]
      · rw [if_neg hbig, if_neg hbig]
        have hbl := base_len (qn, bn, ops) n
        simp only at hbl
        have key : ∃ r, iter (fun s : List Op ↦ W.circ_Power.c100012 (n.natAbs : Int) (base (qn, bn, ops) n) s some) [] = some r ∧ r = (List.replicate n.natAbs (base (qn, bn, ops) n)).flatten := by
          by_cases h0 : ops.length = 0
          · have : base (qn, bn, ops) n = [] := List.eq_nil_of_length_eq_zero (by omega)
            rw [this]
            refine ⟨[], ?_, by simp⟩
            apply iter_inr
            simp only [W.circ_Power.c100012, br_if]
            rw [wrap_i64 (by simp)]
            simp
          · refine iter_upto n.natAbs (fun i s => s = (List.replicate i (base (qn, bn, ops) n)).flatten) _ ?_ ?_ (by simp)
            · rintro i s hi rfl
              have hi1 : (i + 1) * ops.length ≤ n.natAbs * ops.length := Nat.mul_le_mul_right _ (by omega)
              have hi2 : i * ops.length < n.natAbs * ops.length := Nat.mul_lt_mul_of_pos_right hi (by omega)
              have hm : (n.natAbs : Int) * ((base (qn, bn, ops) n).length : Int) = ((n.natAbs * ops.length : Nat) : Int) := by rw [hbl]; simp
              simp only [W.circ_Power.c100012, br_if]
              rw [hm, wrap_i64 (by omega), if_pos (by rw [flat_len, hbl]; simp only [decide_eq_true_eq]; exact Int.ofNat_lt.2 hi2)]
              obtain ⟨r, hr, h'⟩ := powApp_ok (base (qn, bn, ops) n) (List.replicate i (base (qn, bn, ops) n)).flatten (base_w hc n) (by rw [flat_len, hbl]; rw [Nat.succ_mul] at hi1; omega)
              rw [hr, bnd_val, h', flat_snoc]
              exact .inl ⟨_, rfl, rfl⟩
            · rintro s rfl
              have hm : (n.natAbs : Int) * ((base (qn, bn, ops) n).length : Int) = ((n.natAbs * ops.length : Nat) : Int) := by rw [hbl]; simp
              simp only [W.circ_Power.c100012, br_if]
              rw [hm, wrap_i64 (by omega), if_neg (by rw [flat_len, hbl]; simp)]
              exact ⟨_, rfl, rfl⟩
        obtain ⟨r, hr, h'⟩ := key
        rw [hr, bnd_val, h']
  · have hinv : inverse (qn, bn, ops) = (nix, pur (qn, bn, ops)) := by unfold inverse; rw [if_pos h]
    rw [hinv, if_pos h]
    by_cases h0 : n < 0
    · rw [if_pos (by simpa using h0)]
      simp only [bnd_val]
      rw [if_pos (by simpa using h)]
    · rw [if_neg (by simpa using h0)]
      simp only [bnd_val]
      rw [if_pos (by simpa using h)]
theorem rpower_ok (c : Cir) (n : Int) (hc : WCir c) (hn : -9223372036854775808 ≤ n ∧ n ≤ 9223372036854775807) : W.R_Power c n = some (power c n) := by
  obtain ⟨qn, bn, ops⟩ := c
  have hl := hc.1
  simp only at hl
  simp only [W.R_Power, W.R_Power.c3, W.R_Power.c9, W.R_Power.c20, W.R_Power.c224581, rpure_ok _ hc, rinverse_ok _ hc, bnd_val, br_if, power]
  by_cases h : (pur (qn, bn, ops)).1 = 0
  · obtain ⟨hg, hp, _⟩ := pur_zero h
    have hinv : inverse (qn, bn, ops) = (inv (qn, bn, ops), (0, 0)) := by unfold inverse; rw [if_neg (by simp [h])]
    have hb : (if decide (n < 0) = true then some ((inverse (qn, bn, ops)).1.1, (inverse (qn, bn, ops)).1.2.1, (inverse (qn, bn, ops)).1.2.2) else some (qn, bn, ops)) = some (qn, bn, base (qn, bn, ops) n) := by
      rw [hinv]
      unfold base
      by_cases h0 : n < 0 <;> simp [h0, inv]
    rw [hb]
    have hR : ¬ ((pur (qn, bn, ops)).1 ≠ 0) := by simp [h]
    rw [if_neg hR]
    simp only [bnd_val]
    rw [if_neg (by simp [h])]
    have hbl := base_len (qn, bn, ops) n
    simp only at hbl
    by_cases h0 : ops.length = 0
    · have : ops = [] := List.eq_nil_of_length_eq_zero h0
      subst this
      have hbase : base (qn, bn, []) n = [] := List.eq_nil_of_length_eq_zero (by rw [hbl]; rfl)
      rw [if_pos (by simp), if_neg (by simp), hbase, hp]
      simp
    · have hne : ops ≠ [] := fun e => h0 (by rw [e]; rfl)
      rw [if_neg (by simp [hne])]
      generalize hB : base (qn, bn, ops) n = B at *
      have hBw : ∀ o ∈ B, WOp o := by rw [← hB]; exact base_w hc n
      have key : ∃ r, iter (fun s : Int × List Op ↦ W.R_Power.c100010 s.1 B s.2 some) (n, []) = some r ∧
          ((∃ u, r = .inl u ∧ u.2.1 = 2 ∧ u.2.2.1 = 0 ∧ 4096 < n.natAbs * ops.length) ∨ ∃ u, r = .inr u ∧ u.2 = (List.replicate n.natAbs B).flatten ∧ ¬ 4096 < n.natAbs * ops.length) := by
        refine iter_upto n.natAbs (fun i s => s = (if 0 < n then n - i else n + i, (List.replicate i B).flatten) ∧ i * ops.length ≤ 4096) _ ?_ ?_ ⟨by simp, by simp⟩
        · rintro i s hi ⟨rfl, h4⟩
          have hfl : (List.replicate i B).flatten.length = i * ops.length := by rw [flat_len, hbl]
          simp only [W.R_Power.c100010, br_if, rfault_ok, bnd_val]
          rw [if_pos (by simp; split <;> omega), hfl, hbl]
          have hc1 : ((i * ops.length : Nat) : Int) + (ops.length : Int) = (((i + 1) * ops.length : Nat) : Int) := by rw [Nat.succ_mul]; simp
          have hg4 := hg.n
          simp only at hg4
          have hi1 : (i + 1) * ops.length ≤ n.natAbs * ops.length := Nat.mul_le_mul_right _ (by omega)
          have hi3 : (i + 1) * ops.length = i * ops.length + ops.length := Nat.succ_mul _ _
          rw [hc1, wrap_i64 (by omega)]
          by_cases hbig : 4096 < (i + 1) * ops.length
          · rw [if_pos (by simp only [gt_iff_lt, decide_eq_true_eq]; omega)]
            exact .inr ⟨_, rfl, .inl ⟨_, rfl, rfl, rfl, by omega⟩⟩
          · rw [if_neg (by simp only [gt_iff_lt, decide_eq_true_eq]; omega)]
            obtain ⟨r, hr, h'⟩ := rpowApp_ok B (List.replicate i B).flatten hBw (by omega)
            rw [hr, bnd_val, h', flat_snoc]
            by_cases hpos : 0 < n
            · simp only [if_pos hpos]
              rw [if_pos (by simp; omega), wrap_i64 (by omega)]
              exact .inl ⟨_, rfl, by simp; omega, by omega⟩
            · simp only [if_neg hpos]
              rw [if_neg (by simp; omega), wrap_i64 (by omega)]
              exact .inl ⟨_, rfl, by simp; omega, by omega⟩
        · rintro s ⟨rfl, h4⟩
          simp only [W.R_Power.c100010, br_if]
          rw [if_neg (by simp; split <;> omega)]
          exact ⟨_, rfl, .inr ⟨_, rfl, rfl, by omega⟩⟩
      obtain ⟨r, hr, h'⟩ := key
      rw [hr, bnd_val]
      rcases h' with ⟨u, rfl, h1, h2, h3⟩ | ⟨u, rfl, h1, h2⟩
      · rw [sel_inl, if_pos h3, h1, h2]
      · rw [sel_inr, if_neg h2, h1, hp]
  · rw [if_pos (by simpa using h), if_pos h]
end Go.Ql
end

section
/- Circuits: one behind the other. -/
namespace Go.Ql
def thenF (a b : Cir) : Int × Int :=
  if (chk a).1 ≠ 0 then chk a else if (chk b).1 ≠ 0 then chk b else if a.1 ≠ b.1 ∨ a.2.1 ≠ b.2.1 then (16, 0) else if 4096 < a.2.2.length + b.2.2.length then (2, 0) else (0, 0)
def thenC (a b : Cir) : Cir × Int × Int := if (thenF a b).1 ≠ 0 then (nix, thenF a b) else ((a.1, a.2.1, a.2.2 ++ b.2.2), (0, 0))
theorem eachThen_ok (c : Cir) (hc : WCir c) : W.circ_each__then c = some (c.1, c.2.1, c.2.2, ()) := by
  obtain ⟨qn, bn, ops⟩ := c
  obtain ⟨hl, hw⟩ := hc
  simp only at hl hw
  have h : ∃ r, iter (fun s : Int × List Op ↦ W.circ_each__then.c100003 ops (ops.length : Int) s.1 s.2 some) ((0 : Int), []) = some r ∧ r.2 = ops := by
    refine iter_each (l := ops) (fun pre r s => s = ((pre.length : Int), pre)) _ ?_ ?_ rfl
    · rintro pre a r s rfl rfl
      simp only [List.length_append, List.length_cons] at hl
      have h1 : W.circ_Then_1 a = some a := rfl
      simp only [W.circ_each__then.c100003, W.circ_each__then.c5, br_if, idx_mid, bnd_val, WOp.eta, copied_ok a (hw a (by simp)), h1]
      rw [if_pos lt_app, okIf_true (by simp; omega), wrap_i64 (by omega)]
      exact .inl ⟨_, rfl, by simp⟩
    · rintro s rfl
      simp only [W.circ_each__then.c100003, br_if]
      rw [if_neg (by simp)]
      exact ⟨_, rfl, rfl⟩
  obtain ⟨r, hr, h⟩ := h
  simp only [W.circ_each__then, hr, bnd_val, h]
theorem then_ok (a b : Cir) (ha : WCir a) (hb : WCir b) : W.circ_Then a b = some (thenC a b) := by
  simp only [W.circ_Then, W.circ_Then.c3, W.circ_Then.c6, WCir.eta, check_ok _ ha, check_ok _ hb, bnd_val, fault_ok, thenC]
  by_cases h1 : (chk a).1 = 0
  · rw [br_false (by simp [h1])]
    obtain ⟨ga, ea⟩ := good_of h1
    by_cases h2 : (chk b).1 = 0
    · rw [br_false (by simp [h2])]
      obtain ⟨gb, eb⟩ := good_of h2
      have h7 : W.circ_Then.c7 a.1 a.2.1 b.1 b.2.1 some = some (decide (a.1 ≠ b.1 ∨ a.2.1 ≠ b.2.1)) := by
        simp only [W.circ_Then.c7, br_or]; exact some_dec (by simp)
      rw [h7]
      simp only [bnd_val]
      by_cases h3 : a.1 ≠ b.1 ∨ a.2.1 ≠ b.2.1
      · have e : thenF a b = (16, 0) := by unfold thenF; rw [if_neg (by simp [h1]), if_neg (by simp [h2]), if_pos h3]
        rw [br_pos h3, e]
        rfl
      · rw [br_neg h3]
        have hn1 := ga.n
        have hn2 := gb.n
        rw [wrap_i64 (by omega)]
        by_cases h4 : 4096 < a.2.2.length + b.2.2.length
        · have e : thenF a b = (2, 0) := by unfold thenF; rw [if_neg (by simp [h1]), if_neg (by simp [h2]), if_neg h3, if_pos h4]
          rw [br_pos (by omega), e]
          rfl
        · have e : thenF a b = (0, 0) := by unfold thenF; rw [if_neg (by simp [h1]), if_neg (by simp [h2]), if_neg h3, if_neg h4]
          rw [br_neg (by omega), e, if_neg (by simp)]
          simp only [eachThen_ok a ha, bnd_val]
          obtain ⟨q1, b1, l1⟩ := a
          obtain ⟨q2, b2, l2⟩ := b
          simp only at h4 hn1 hn2 ⊢
          have hw2 := hb.2
          simp only at hw2
          have h : ∃ r, iter (fun s : Int × List Op ↦ W.circ_Then.c100013 l2 (l2.length : Int) s.1 s.2 some) ((0 : Int), l1) = some r ∧ r.2 = l1 ++ l2 := by
            refine iter_each (l := l2) (fun pre r s => s = ((pre.length : Int), l1 ++ pre)) _ ?_ ?_ (by simp)
            · rintro pre o r s rfl rfl
              simp only [List.length_append, List.length_cons] at hn2
              simp only [W.circ_Then.c100013, W.circ_Then.c15, br_if, idx_mid, bnd_val, WOp.eta, copied_ok o (hw2 o (by simp))]
              rw [if_pos lt_app, okIf_true (by simp; omega), wrap_i64 (by omega)]
              exact .inl ⟨_, rfl, by simp⟩
            · rintro s rfl
              simp only [W.circ_Then.c100013, br_if]
              rw [if_neg (by simp)]
              exact ⟨_, rfl, rfl⟩
          obtain ⟨r, hr, h⟩ := h
          simp only [hr, bnd_val, h]
    · have e : thenF a b = chk b := by unfold thenF; rw [if_neg (by simp [h1]), if_pos h2]
      rw [br_true (by simp [h2]), e, if_pos h2]
  · have e : thenF a b = chk a := by unfold thenF; rw [if_pos h1]
    rw [br_true (by simp [h1]), e, if_pos h1]
theorem copyOwn_ok (c : Cir) (hc : WCir c) : W.R_CopyCircuit__own c = some (c.1, c.2.1, c.2.2, ()) := by
  obtain ⟨qn, bn, ops⟩ := c
  obtain ⟨hl, hw⟩ := hc
  simp only at hl hw
  have h : ∃ r, iter (fun s : Int × List Op ↦ W.R_CopyCircuit__own.c100003 s.1 ops s.2 some) ((0 : Int), []) = some r ∧ r.2 = ops := by
    refine iter_each (l := ops) (fun pre r s => s = ((pre.length : Int), pre)) _ ?_ ?_ rfl
    · rintro pre a r s rfl rfl
      simp only [List.length_append, List.length_cons] at hl
      simp only [W.R_CopyCircuit__own.c100003, W.R_CopyCircuit__own.c5, br_if, idx_mid, bnd_val, rcopyOp_ok a (hw a (by simp))]
      rw [if_pos lt_app, okIf_true (by simp; omega), wrap_i64 (by omega)]
      exact .inl ⟨_, rfl, by simp⟩
    · rintro s rfl
      simp only [W.R_CopyCircuit__own.c100003, br_if]
      rw [if_neg (by simp)]
      exact ⟨_, rfl, rfl⟩
  obtain ⟨r, hr, h⟩ := h
  simp only [W.R_CopyCircuit__own, hr, bnd_val, h]
theorem rthen_ok (a b : Cir) (ha : WCir a) (hb : WCir b) : W.R_Then a b = some (thenC a b) := by
  have la := ha.1
  have lb := hb.1
  have s1 : W.R_Then.c208197 b.1 b.2.1 b.2.2 (chk a).1 (chk a).2 some = some (if (chk a).1 ≠ 0 then chk a else chk b) := by
    simp only [W.R_Then.c208197, WCir.eta, rcheck_ok b hb, bnd_val]
    by_cases h : (chk a).1 = 0
    · rw [br_true (by simp [h]), if_neg (by simp [h])]
    · rw [br_false (by simp [h]), if_pos h]
  have s2 : ∀ f : Int × Int, W.R_Then.c216389 a.1 a.2.1 b.1 b.2.1 f.1 f.2 some = some (if f.1 = 0 ∧ (a.1 ≠ b.1 ∨ a.2.1 ≠ b.2.1) then (16, 0) else f) := by
    intro f
    have h4 : W.R_Then.c4 a.1 a.2.1 b.1 b.2.1 f.1 some = some (decide (f.1 = 0 ∧ (a.1 ≠ b.1 ∨ a.2.1 ≠ b.2.1))) := by
      simp only [W.R_Then.c4, br_or, br_and]; exact some_dec (by simp)
    simp only [W.R_Then.c216389, h4, bnd_val, rfault_ok, br_if, decide_eq_true_eq]
    split <;> rfl
  have s3 : ∀ f : Int × Int, W.R_Then.c224581 a.2.2 b.2.2 f.1 f.2 some = some (if f.1 = 0 ∧ 4096 < a.2.2.length + b.2.2.length then (2, 0) else f) := by
    intro f
    have h4 : W.R_Then.c6 a.2.2 b.2.2 f.1 some = some (decide (f.1 = 0 ∧ 4096 < a.2.2.length + b.2.2.length)) := by
      simp only [W.R_Then.c6]
      rw [wrap_i64 (by omega)]
      simp only [br_and]; exact some_dec (by simp; omega)
    simp only [W.R_Then.c224581, h4, bnd_val, rfault_ok, br_if, decide_eq_true_eq]
    split <;> rfl
  simp only [W.R_Then, W.R_Then.c9, W.R_Then.c15, WCir.eta, rcheck_ok _ ha, bnd_val, s1, s2, s3]
  have e : (if (if (if (chk a).1 ≠ 0 then chk a else chk b).1 = 0 ∧ (a.1 ≠ b.1 ∨ a.2.1 ≠ b.2.1) then ((16 : Int), (0 : Int)) else if (chk a).1 ≠ 0 then chk a else chk b).1 = 0 ∧ 4096 < a.2.2.length + b.2.2.length then ((2 : Int), (0 : Int)) else if (if (chk a).1 ≠ 0 then chk a else chk b).1 = 0 ∧ (a.1 ≠ b.1 ∨ a.2.1 ≠ b.2.1) then (16, 0) else if (chk a).1 ≠ 0 then chk a else chk b) = thenF a b := by
    unfold thenF
    by_cases h1 : (chk a).1 = 0
    · obtain ⟨_, ea⟩ := good_of h1
      by_cases h2 : (chk b).1 = 0
      · obtain ⟨_, eb⟩ := good_of h2
        by_cases h3 : a.1 ≠ b.1 ∨ a.2.1 ≠ b.2.1
        · simp [ea, eb, h3]
        · by_cases h4 : 4096 < a.2.2.length + b.2.2.length <;> simp [ea, eb, h3, h4]
      · simp [ea, h2]
    · simp [h1]
  rw [e]
  unfold thenC
  by_cases h0 : (thenF a b).1 = 0
  · have hfz : thenF a b = (0, 0) ∧ b.2.2.length ≤ 4096 ∧ a.2.2.length ≤ 4096 := by
      unfold thenF at h0 ⊢
      by_cases h1 : (chk a).1 = 0
      · obtain ⟨ga, ea⟩ := good_of h1
        by_cases h2 : (chk b).1 = 0
        · obtain ⟨gb, eb⟩ := good_of h2
          refine ⟨?_, gb.n, ga.n⟩
          rw [if_neg (by simp [h1]), if_neg (by simp [h2])] at h0 ⊢
          split at h0
          · cases h0
          · rename_i h3
            rw [if_neg h3]
            split at h0
            · cases h0
            · rename_i h4
              rw [if_neg h4]
        · rw [if_neg (by simp [h1]), if_pos h2] at h0
          exact absurd h0 h2
      · rw [if_pos h1] at h0
        exact absurd h0 h1
    obtain ⟨ef, hn2, hn1⟩ := hfz
    rw [br_false (by simp [h0]), if_neg (by simp [h0]), ef]
    simp only [copyOwn_ok a ha, bnd_val]
    obtain ⟨q1, b1, l1⟩ := a
    obtain ⟨q2, b2, l2⟩ := b
    simp only at hn1 hn2 ⊢
    have hw2 := hb.2
    simp only at hw2
    have h : ∃ r, iter (fun s : Int × List Op ↦ W.R_Then.c100012 s.1 l2 s.2 some) ((0 : Int), l1) = some r ∧ r.2 = l1 ++ l2 := by
      refine iter_each (l := l2) (fun pre r s => s = ((pre.length : Int), l1 ++ pre)) _ ?_ ?_ (by simp)
      · rintro pre o r s rfl rfl
        simp only [List.length_append, List.length_cons] at hn2
        simp only [W.R_Then.c100012, W.R_Then.c14, br_if, idx_mid, bnd_val, rcopyOp_ok o (hw2 o (by simp))]
        rw [if_pos lt_app, okIf_true (by simp; omega), wrap_i64 (by omega)]
        exact .inl ⟨_, rfl, by simp⟩
      · rintro s rfl
        simp only [W.R_Then.c100012, br_if]
        rw [if_neg (by simp)]
        exact ⟨_, rfl, rfl⟩
    obtain ⟨r, hr, h⟩ := h
    simp only [hr, bnd_val, h]
  · rw [br_true (by simp [h0]), if_pos h0]
end Go.Ql
end

section
/- Circuits written. -/
namespace Go.Ql
def dec (n : Nat) : List UInt8 := if n < 10 then [UInt8.ofNat (48 + n)] else [UInt8.ofNat (48 + n / 10), UInt8.ofNat (48 + n % 10)]
def decI (n : Int) : List UInt8 := dec n.toNat
theorem dec_len (n : Nat) : (dec n).length ≤ 2 := by unfold dec; split <;> simp
set_option maxRecDepth 100000 in
theorem itoa_nat : ∀ n : Nat, n < 100 → W.strconv_Itoa (n : Int) = some (dec n) := by decide +kernel
theorem itoa_ok {n : Int} (h : 0 ≤ n ∧ n < 100) : W.strconv_Itoa n = some (decI n) := by
  obtain ⟨k, rfl⟩ := Int.eq_ofNat_of_zero_le h.1
  exact itoa_nat k (by omega)
/-- Bytes as a builder holds them. -/
def ints (l : List UInt8) : List Int := l.map fun b => (b.toNat : Int)
theorem ints_append (a b : List UInt8) : ints (a ++ b) = ints a ++ ints b := List.map_append
theorem ints_len (a : List UInt8) : (ints a).length = a.length := List.length_map ..
theorem writeString_ok (s : List UInt8) (t : List Int) (h : t.length + s.length ≤ 140737488355328) : W.strings_Builder_WriteString s t = some ((s.length : Int), (), t ++ ints s, ()) := by
  simp only [W.strings_Builder_WriteString, W.strings_Builder_copyCheck, bnd_val]
  rw [okIf_true (by simpa using h)]
  rfl
theorem writeByte_ok (c : Int) (t : List Int) (h : t.length + 1 ≤ 140737488355328) : W.strings_Builder_WriteByte c t = some ((), t ++ [c], ()) := by
  simp only [W.strings_Builder_WriteByte, W.strings_Builder_copyCheck, bnd_val]
  rw [okIf_true (by simpa using h)]
  rfl
def word (k : Int) : List UInt8 := if k = 1 then [112, 104, 97, 115, 101] else if k = 2 then [120] else if k = 3 then [104] else if k = 4 then [112] else if k = 5 then [109, 101, 97, 115, 117, 114, 101] else [114, 101, 115, 101, 116]
theorem word_len (k : Int) : (word k).length ≤ 7 := by
  unfold word
  repeat' split
  all_goals decide
theorem word_ok (k : Int) : W.circ_word k = some (word k) := by
  simp only [W.circ_word, br_if, word, beq_iff_eq]
  repeat' split
  all_goals rfl
def sp (n : Int) : List UInt8 := 32 :: decI n
theorem sp_len (n : Int) : (sp n).length ≤ 3 := by unfold sp decI; have := dec_len n.toNat; simp; omega
def spv (v : Int) : List UInt8 := if v < 0 then 32 :: 33 :: decI (-v - 1) else sp (v - 1)
theorem spv_len (n : Int) : (spv n).length ≤ 4 := by
  unfold spv
  split
  · unfold decI; have := dec_len (-n - 1).toNat; simp only [List.length_cons]; omega
  · have := sp_len (n - 1); omega
theorem flatMap_len {α : Type} (f : α → List UInt8) (k : Nat) (hf : ∀ a, (f a).length ≤ k) : ∀ l : List α, (l.flatMap f).length ≤ k * l.length
  | [] => by simp
  | a :: l => by
    have := flatMap_len f k hf l
    have := hf a
    simp only [List.flatMap_cons, List.length_append, List.length_cons, Nat.mul_succ]
    omega
def lineT (o : Op) : List UInt8 :=
  word o.1 ++ (if o.1 = 1 ∨ o.1 = 4 then sp o.2.1 else []) ++ (if o.1 ≠ 1 then sp o.2.2.2.1 else []) ++ (if o.2.2.1 ≠ [] then [32, 111, 110] ++ o.2.2.1.flatMap sp else [])
    ++ (if o.1 = 5 then [32, 116, 111] ++ sp o.2.2.2.2.1 else []) ++ (if o.2.2.2.2.2 ≠ [] then [32, 105, 102] ++ o.2.2.2.2.2.flatMap spv else []) ++ [10]
theorem if_len {p : Prop} [Decidable p] {a : List UInt8} {k : Nat} (h : a.length ≤ k) : (if p then a else []).length ≤ k := by
  split
  · exact h
  · exact Nat.zero_le _
theorem lineT_len (o : Op) : (lineT o).length ≤ 30 + 3 * o.2.2.1.length + 4 * o.2.2.2.2.2.length := by
  have h1 := word_len o.1
  have h2 := if_len (p := o.1 = 1 ∨ o.1 = 4) (sp_len o.2.1)
  have h3 := if_len (p := o.1 ≠ 1) (sp_len o.2.2.2.1)
  have h4 := if_len (p := o.2.2.1 ≠ []) (a := [32, 111, 110] ++ o.2.2.1.flatMap sp) (k := 3 + 3 * o.2.2.1.length) (by have := flatMap_len sp 3 sp_len o.2.2.1; simp only [List.length_append, List.length_cons, List.length_nil]; omega)
  have h5 := if_len (p := o.1 = 5) (a := [32, 116, 111] ++ sp o.2.2.2.2.1) (k := 6) (by have := sp_len o.2.2.2.2.1; simp; omega)
  have h6 := if_len (p := o.2.2.2.2.2 ≠ []) (a := [32, 105, 102] ++ o.2.2.2.2.2.flatMap spv) (k := 3 + 4 * o.2.2.2.2.2.length) (by have := flatMap_len spv 4 spv_len o.2.2.2.2.2; simp only [List.length_append, List.length_cons, List.length_nil]; omega)
  unfold lineT
  simp only [List.length_append, List.length_cons, List.length_nil]
  omega
/-- Unlike numbers of a range are no more than it has. -/
theorem nodup_len : ∀ (n : Nat) {l : List Int}, l.Nodup → (∀ x ∈ l, 0 ≤ x ∧ x < n) → l.length ≤ n
  | 0, l, _, h => by
    cases l with
    | nil => exact Nat.le_refl 0
    | cons a l => have := h a (by simp); omega
  | n + 1, l, hd, h => by
    by_cases hm : (n : Int) ∈ l
    · have h1 := nodup_len n (l := l.erase n) (hd.erase _) (fun x hx => by
        have hx' := List.mem_of_mem_erase hx
        have h2 := h x hx'
        have h3 : x ≠ n := fun e => by subst e; exact (List.Nodup.not_mem_erase hd) hx
        omega)
      rw [List.length_erase_of_mem hm] at h1
      omega
    · have := nodup_len n hd (fun x hx => by
        have h2 := h x hx
        have h3 : x ≠ n := fun e => hm (e ▸ hx)
        omega)
      omega
theorem GoodOp.len {o : Op} {qn bn : Int} (h : GoodOp o qn bn) (hq : qn ≤ 12) : (lineT o).length ≤ 200 ∧ o.2.2.1.length ≤ 12 := by
  have h1 := (ctlBad_zero.1 h.ctls)
  have h2 := nodup_len 12 h1.2 (fun x hx => by have := h1.1 x hx; omega)
  have h3 := lineT_len o
  have h4 := h.ifs
  exact ⟨by omega, h2⟩
theorem line1_ok (ns : List Int) (t : List Int) (hn : ∀ n ∈ ns, 0 ≤ n ∧ n < 100) (hl : ns.length ≤ 1000) (ht : t.length ≤ 100000000) : W.circ_line_1 ns t = some (t ++ ints (ns.flatMap sp), ()) := by
  have h : ∃ r, iter (fun s : Int × List Int ↦ W.circ_line_1.c100001 ns (ns.length : Int) s.1 s.2 some) ((0 : Int), t) = some r ∧ r.2 = t ++ ints (ns.flatMap sp) := by
    refine iter_each (l := ns) (fun pre r s => s = ((pre.length : Int), t ++ ints (pre.flatMap sp))) _ ?_ ?_ (by simp [ints])
    · rintro pre a r s rfl rfl
      have hp := flatMap_len sp 3 sp_len pre
      have ha := dec_len a.toNat
      simp only [List.length_append, List.length_cons] at hl
      have h3 : W.circ_line_1.c3 a (t ++ ints (pre.flatMap sp)) some = some (t ++ ints ((pre ++ [a]).flatMap sp)) := by
        simp only [W.circ_line_1.c3, itoa_ok (hn a (by simp)), bnd_val]
        rw [okIf_true (by simp [decI]; omega), bnd_val, writeString_ok _ _ (by try simp only [List.length_append, List.length_cons, List.length_nil, ints_len, decI]; omega)]
        simp [bnd_val, sp, ints]
      simp only [W.circ_line_1.c100001, br_if, idx_mid, bnd_val, h3]
      rw [if_pos lt_app, wrap_i64 (by omega)]
      exact .inl ⟨_, rfl, by simp⟩
    · rintro s rfl
      simp only [W.circ_line_1.c100001, br_if]
      rw [if_neg (by simp)]
      exact ⟨_, rfl, rfl⟩
  obtain ⟨r, hr, h⟩ := h
  simp only [W.circ_line_1, hr, bnd_val, h]
theorem ifBad_not {bn : Int} {l : List Int} (h : ¬ ifBad bn l) : ∀ v ∈ l, v ≠ 0 ∧ v ≤ bn ∧ -bn ≤ v := by
  intro v hv
  have : ¬ (v = 0 ∨ bn < v ∨ v < -bn) := fun hb => h ⟨v, hv, hb⟩
  omega
theorem line_ok (o : Op) (qn bn : Int) (t : List Int) (h : GoodOp o qn bn) (hq : qn ≤ 12) (hb : bn ≤ 12) (ht : t.length ≤ 10000000) : W.circ_line o t = some (t ++ ints (lineT o), ()) := by
  have hlen := h.len hq
  have hll := lineT_len o
  obtain ⟨k, a, ctl, q, bit, cond⟩ := o
  obtain ⟨h1, h2, h3, h4, h5, h6, h7, h8, h9, h10⟩ := h
  simp only at h1 h2 h3 h4 h5 h6 h7 h8 h9 h10 hlen hll
  have hctl := (ctlBad_zero.1 h7).1
  have hcond := ifBad_not h10
  have c2 : W.circ_line.c2 k t some = some (t ++ ints (word k)) := by
    have := word_len k
    simp only [W.circ_line.c2, word_ok, bnd_val]
    rw [writeString_ok _ _ (by omega)]
    rfl
  have c12 : ∀ t : List Int, t.length ≤ 20000000 → W.circ_line.c212293 k a t some = some (t ++ ints (if k = 1 ∨ k = 4 then sp a else [])) := by
    intro t ht
    simp only [W.circ_line.c212293, turns_ok, bnd_val]
    by_cases hk : k = 1 ∨ k = 4
    · rw [br_pos hk, line1_ok [a] t (by simpa using ⟨h2.1, by omega⟩) (by simp) (by omega), if_pos hk]
      simp [bnd_val]
    · rw [br_neg hk, if_neg hk]
      simp [ints]
  have c20 : ∀ t : List Int, t.length ≤ 20000000 → W.circ_line.c220485 k q t some = some (t ++ ints (if k ≠ 1 then sp q else [])) := by
    intro t ht
    simp only [W.circ_line.c220485]
    by_cases hk : k ≠ 1
    · rw [br_true (by simpa using hk), line1_ok [q] t (by simpa using ⟨h4.1, by omega⟩) (by simp) (by omega), if_pos hk]
      simp [bnd_val]
    · rw [br_false (by simpa using hk), if_neg hk]
      simp [ints]
  have c28 : ∀ t : List Int, t.length ≤ 20000000 → W.circ_line.c228679 ctl t some = some (t ++ ints (if ctl ≠ [] then [32, 111, 110] ++ ctl.flatMap sp else [])) := by
    intro t ht
    simp only [W.circ_line.c228679]
    by_cases hk : ctl ≠ []
    · rw [br_true (by cases ctl <;> simp_all), writeString_ok _ _ (by try simp only [List.length_append, List.length_cons, List.length_nil, ints_len, decI]; omega), bnd_val, line1_ok ctl _ (fun n hn => by have := hctl n hn; omega) (by omega) (by try simp only [List.length_append, List.length_cons, List.length_nil, ints_len, decI]; omega), if_pos hk]
      simp [bnd_val, ints]
    · rw [br_false (by cases ctl <;> simp_all), if_neg hk]
      simp [ints]
  have c40 : ∀ t : List Int, t.length ≤ 20000000 → W.circ_line.c240967 k bit t some = some (t ++ ints (if k = 5 then [32, 116, 111] ++ sp bit else [])) := by
    intro t ht
    simp only [W.circ_line.c240967]
    by_cases hk : k = 5
    · rw [br_true (by simpa using hk), writeString_ok _ _ (by try simp only [List.length_append, List.length_cons, List.length_nil, ints_len, decI]; omega), bnd_val, line1_ok [bit] _ (by simp; omega) (by simp) (by try simp only [List.length_append, List.length_cons, List.length_nil, ints_len, decI]; omega), if_pos hk]
      simp [bnd_val, ints]
    · rw [br_false (by simpa using hk), if_neg hk]
      simp [ints]
  have c53 : ∀ t : List Int, t.length ≤ 20000000 → W.circ_line.c253274 cond t some = some (t ++ ints (if cond ≠ [] then [32, 105, 102] ++ cond.flatMap spv else [])) := by
    intro t ht
    simp only [W.circ_line.c253274]
    by_cases hk : cond ≠ []
    · rw [br_true (by cases cond <;> simp_all), writeString_ok _ _ (by try simp only [List.length_append, List.length_cons, List.length_nil, ints_len, decI]; omega), bnd_val, if_pos hk]
      have h : ∃ r, iter (fun s : Int × List Int ↦ W.circ_line.c100016 cond (cond.length : Int) s.1 s.2 some) ((0 : Int), t ++ ints [32, 105, 102]) = some r ∧ r.2 = t ++ ints [32, 105, 102] ++ ints (cond.flatMap spv) := by
        refine iter_each (l := cond) (fun pre r s => s = ((pre.length : Int), t ++ ints [32, 105, 102] ++ ints (pre.flatMap spv))) _ ?_ ?_ (by simp [ints])
        · rintro pre v r s rfl rfl
          have hp := flatMap_len spv 4 spv_len pre
          simp only [List.length_append, List.length_cons] at h9
          have hv := hcond v (by simp)
          have ha := dec_len (-v - 1).toNat
          have h3 : W.circ_line.c269640 (pre ++ v :: r) (pre.length : Int) (t ++ ints [32, 105, 102] ++ ints (pre.flatMap spv)) some = some (t ++ ints [32, 105, 102] ++ ints ((pre ++ [v]).flatMap spv)) := by
            simp only [W.circ_line.c269640, idx_mid, bnd_val]
            by_cases hv0 : v < 0
            · rw [br_pos hv0]
              simp only [W.circ_line.c19]
              rw [wrap_i64 (x := 0 - v) (by omega), wrap_i64 (by omega), itoa_ok (by omega), bnd_val, okIf_true (by unfold decI; have := dec_len (0 - v - 1).toNat; rw [decide_eq_true_eq]; show 2 + _ ≤ _; omega), bnd_val, writeString_ok _ _ (by have := dec_len (0 - v - 1).toNat; try simp only [List.length_append, List.length_cons, List.length_nil, ints_len, decI]; omega)]
              simp [bnd_val, spv, hv0, ints]
            · rw [br_neg hv0, wrap_i64 (by omega), line1_ok [v - 1] _ (by simp; omega) (by simp) (by try simp only [List.length_append, List.length_cons, List.length_nil, ints_len, decI]; omega)]
              simp [bnd_val, spv, hv0, ints]
          simp only [W.circ_line.c100016, br_if, bnd_val, h3]
          rw [if_pos lt_app, wrap_i64 (by omega)]
          exact .inl ⟨_, rfl, by simp⟩
        · rintro s rfl
          simp only [W.circ_line.c100016, br_if]
          rw [if_neg (by simp)]
          exact ⟨_, rfl, rfl⟩
      obtain ⟨r, hr, h⟩ := h
      show bnd (iter (fun s : Int × List Int ↦ W.circ_line.c100016 cond (cond.length : Int) s.1 s.2 some) ((0 : Int), t ++ ints [32, 105, 102])) _ = _
      rw [hr, bnd_val, h, ints_append, List.append_assoc]
    · rw [br_false (by cases cond <;> simp_all), if_neg hk]
      simp [ints]
  simp only [lineT, List.length_append, List.length_cons, List.length_nil] at hlen
  simp only [W.circ_line, c2, bnd_val]
  rw [c12 _ (by try simp only [List.length_append, List.length_cons, List.length_nil, ints_len, decI]; omega), bnd_val, c20 _ (by try simp only [List.length_append, List.length_cons, List.length_nil, ints_len, decI]; omega), bnd_val, c28 _ (by try simp only [List.length_append, List.length_cons, List.length_nil, ints_len, decI]; omega), bnd_val, c40 _ (by try simp only [List.length_append, List.length_cons, List.length_nil, ints_len, decI]; omega), bnd_val, c53 _ (by try simp only [List.length_append, List.length_cons, List.length_nil, ints_len, decI]; omega), bnd_val]
  rw [writeByte_ok _ _ (by try simp only [List.length_append, List.length_cons, List.length_nil, ints_len, decI]; omega)]
  simp [bnd_val, lineT, ints]
end Go.Ql
end

section
/- Circuits written whole; the example of the document. -/
namespace Go.Ql
def headT (q b : Int) : List UInt8 := [113, 117, 98, 105, 116, 115, 32] ++ decI q ++ [32, 98, 105, 116, 115, 32] ++ decI b ++ [10]
def printT (c : Cir) : List UInt8 := headT c.1 c.2.1 ++ c.2.2.flatMap lineT
theorem ints_back (l : List UInt8) : (ints l).map (fun n => UInt8.ofNat n.toNat) = l := by
  unfold ints
  rw [List.map_map]
  conv => rhs; rw [← List.map_id l]
  apply List.map_congr_left
  intro b _
  simp
theorem string_ok (l : List UInt8) (h : l ≠ []) : W.strings_Builder_String (ints l) = some (l, ()) := by
  unfold W.strings_Builder_String
  have h1 : (!List.isEmpty (ints l) && List.all (ints l) (fun n => decide (0 ≤ n) && decide (n < 256))) = true := by
    rw [Bool.and_eq_true]
    refine ⟨by cases l <;> simp_all [ints], ?_⟩
    rw [List.all_eq_true]
    intro n hn
    obtain ⟨b, _, rfl⟩ := List.mem_map.1 hn
    have := b.toNat_lt
    simp only [Bool.and_eq_true, decide_eq_true_eq]
    omega
  rw [h1, ints_back]
  rfl
theorem decI_len (n : Int) : (decI n).length ≤ 2 := dec_len _
theorem print_ok (c : Cir) (hc : WCir c) : W.circ_Print c = some (if (chk c).1 ≠ 0 then ([], chk c) else (printT c, (0, 0))) := by
  simp only [W.circ_Print, W.circ_Print.c3, WCir.eta, check_ok c hc, bnd_val]
  by_cases h1 : (chk c).1 = 0
  · obtain ⟨hg, hz⟩ := good_of h1
    rw [br_false (by simp [h1]), if_neg (by simp [h1])]
    obtain ⟨q, b, ops⟩ := c
    have hq := hg.q
    have hb := hg.b
    have hn := hg.n
    have hops := hg.ops
    simp only at hq hb hn hops
    have l1 := decI_len q
    have l2 := decI_len b
    have c5 : W.circ_Print.c5 q b [] some = some (ints (headT q b)) := by
      simp only [W.circ_Print.c5]
      rw [itoa_ok (by omega), bnd_val, okIf_true (by rw [decide_eq_true_eq]; show 7 + _ ≤ _; omega), bnd_val]
      rw [okIf_true (by rw [decide_eq_true_eq, List.length_append]; show 7 + _ + 6 ≤ _; omega), bnd_val, itoa_ok (by omega), bnd_val]
      rw [okIf_true (by rw [decide_eq_true_eq, List.length_append, List.length_append]; show 7 + _ + 6 + _ ≤ _; omega), bnd_val]
      rw [okIf_true (by rw [decide_eq_true_eq, List.length_append, List.length_append, List.length_append]; show 7 + _ + 6 + _ + 1 ≤ _; omega), bnd_val]
      rw [writeString_ok _ _ (by
        show 0 + _ ≤ _
        rw [List.length_append, List.length_append, List.length_append, List.length_append]
        show 0 + (7 + _ + 6 + _ + 1) ≤ _; omega)]
      rfl
    have key : ∃ r, iter (fun s : Int × List Int ↦ W.circ_Print.c100007 ops (ops.length : Int) s.1 s.2 some) ((0 : Int), ints (headT q b)) = some r ∧ r.2 = ints (printT (q, b, ops)) := by
      refine iter_each (l := ops) (fun pre r s => s = ((pre.length : Int), ints (headT q b ++ pre.flatMap lineT)) ∧ (pre.flatMap lineT).length ≤ 200 * pre.length) _ ?_ ?_ (by simp)
      · rintro pre o r s rfl ⟨rfl, hl⟩
        simp only [List.length_append, List.length_cons] at hn
        have ho := goodOp_of (hops o (by simp))
        have hlo := (ho.len hq.2).1
        simp only [W.circ_Print.c100007, br_if, idx_mid, bnd_val, WOp.eta]
        rw [if_pos lt_app, line_ok o q b _ ho hq.2 hb.2 (by rw [ints_len, List.length_append]; have : (headT q b).length ≤ 20 := by (unfold headT; simp only [List.length_append, List.length_cons, List.length_nil]; omega)
                                                            omega), wrap_i64 (by omega)]
        refine .inl ⟨_, rfl, ?_, ?_⟩
        · simp only [bnd_val, ← ints_append, List.append_assoc]
          simp
        · simp only [List.flatMap_append, List.length_append, List.flatMap_cons, List.flatMap_nil, List.append_nil, List.length_cons, List.length_nil]
          omega
      · rintro s ⟨rfl, hl⟩
        simp only [W.circ_Print.c100007, br_if]
        rw [if_neg (by simp)]
        exact ⟨_, rfl, rfl⟩
    obtain ⟨r, hr, h⟩ := key
    rw [c5]
    simp only [bnd_val]
    rw [hr, bnd_val, h, string_ok _ (by unfold printT headT; simp)]
    rfl
  · rw [br_true (by simp [h1]), if_pos h1]
abbrev smallC : Cir := (2, 1, [(3, 0, [], 0, 0, []), (2, 0, [0], 1, 0, []), (5, 0, [], 1, 0, [-1])])
theorem small_w : WCir smallC := ⟨by decide, by
  intro o ho
  simp only [smallC, List.mem_cons, List.mem_nil_iff, or_false] at ho
  rcases ho with rfl | rfl | rfl <;> exact ⟨by decide, by decide⟩⟩
theorem small_chk : chk smallC = (0, 0) := by decide +kernel
theorem begun_ok : W.Law_circBegun = some true := by
  have h1 : W.Law_small = some smallC := rfl
  simp only [W.Law_circBegun, h1, bnd_val, print_ok _ small_w, small_chk]
  decide +kernel
/-! ## Laws -/
theorem power_w {c : Cir} (hc : WCir c) (n : Int) : WCir (power c n).1 := by
  unfold power
  split
  · exact ⟨Nat.zero_le _, fun o h => by cases h⟩
  · split
    · exact ⟨Nat.zero_le _, fun o h => by cases h⟩
    · rename_i h2
      refine ⟨?_, fun o ho => ?_⟩
      · show (List.replicate n.natAbs (base c n)).flatten.length ≤ _
        rw [flat_len, base_len]
        omega
      · simp only [List.mem_flatten, List.mem_replicate] at ho
        obtain ⟨l, ⟨_, rfl⟩, ho⟩ := ho
        exact base_w hc n o ho
theorem then_w {a b : Cir} (ha : WCir a) (hb : WCir b) : WCir (thenC a b).1 := by
  unfold thenC
  split
  · exact ⟨Nat.zero_le _, fun o h => by cases h⟩
  · rename_i h
    refine ⟨?_, fun o ho => ?_⟩
    · show (a.2.2 ++ b.2.2).length ≤ _
      rw [List.length_append]
      simp only [ne_eq, Decidable.not_not] at h
      unfold thenF at h
      by_cases h1 : (chk a).1 = 0
      · by_cases h2 : (chk b).1 = 0
        · have := (good_of h1).1.n
          have := (good_of h2).1.n
          omega
        · rw [if_neg (by simp [h1]), if_pos h2] at h; exact absurd h h2
      · rw [if_pos h1] at h; exact absurd h h1
    · rcases List.mem_append.1 ho with ho | ho
      · exact ha.2 o ho
      · exact hb.2 o ho
theorem joins_law (c d : Cir) (n : Int) (hc : WCir c) (hd : WCir d) (hn : -9223372036854775808 ≤ n ∧ n ≤ 9223372036854775807) : W.Law_CircJoins c d n = some true := by
  have h3 : W.Law_CircJoins.c3 (power c n).1.1 (power c n).1.2.1 (power c n).1.2.2 (power c n).2.1 (power c n).2.2 (power c n).1.1 (power c n).1.2.1 (power c n).1.2.2 (power c n).2.1 (power c n).2.2 some = some false := by
    simp only [W.Law_CircJoins.c3, begun_ok, bnd_val, Bool.not_true, br_ff, WCir.eta, Prod.eta, answers_ok _ _ _ _ (power_w hc n)]
    simp
  have h5 : W.Law_CircJoins.c5 c.1 c.2.1 c.2.2 d.1 d.2.1 d.2.2 some = some ((thenC c d).1.1, (thenC c d).1.2.1, (thenC c d).1.2.2, (thenC c d).2.1, (thenC c d).2.2) := by
    simp only [W.Law_CircJoins.c5, WCir.eta, copyCircuit_ok c hc, copyCircuit_ok d hd, bnd_val, then_ok c d hc hd]
  simp only [W.Law_CircJoins, WCir.eta, copyCircuit_ok c hc, bnd_val, power_ok c n hc hn, rpower_ok c n hc hn, h3]
  rw [br_false rfl, h5]
  simp only [bnd_val, rthen_ok c d hc hd, WCir.eta, Prod.eta, answers_ok _ _ _ _ (then_w hc hd)]
  simp
end Go.Ql
end

section
/- From what a statement reads to circuits that have lengths. -/
namespace Go.Ql
abbrev opTy : Ty := .st (.pair (.int .i64) (.pair (.int .i64) (.pair (.sl (.int .i64)) (.pair (.int .i64) (.pair (.int .i64) (.sl (.int .i64)))))))
abbrev cirTy : Ty := .st (.pair (.int .i64) (.pair (.int .i64) (.sl opTy)))
theorem op_bytes : opTy.bytes = 80 := by decide
theorem int_bytes : (Ty.int .i64).bytes = 8 := by decide
theorem wcir_of {c : Cir} (h : Wf cirTy c) : WCir c := by
  obtain ⟨_, _, h1, _, h2⟩ := h
  refine ⟨?_, fun o ho => ?_⟩
  · rw [op_bytes] at h1
    have : c.2.2.length * 80 ≤ 140737488351232 := h1
    omega
  · obtain ⟨_, _, ⟨h3, _⟩, _, _, h4, _⟩ := h2 o ho
    rw [int_bytes] at h3 h4
    have h3 : o.2.2.1.length * 8 ≤ 140737488351232 := h3
    have h4 : o.2.2.2.2.2.length * 8 ≤ 140737488351232 := h4
    exact ⟨by omega, by omega⟩
theorem int_of_wf {n : Int} (h : Wf (.int .i64) n) : -9223372036854775808 ≤ n ∧ n ≤ 9223372036854775807 := by
  have h : (Lit.int .i64 n).wf = true := h
  simp only [Lit.wf, Bool.and_eq_true, decide_eq_true_eq] at h
  exact ⟨h.1, h.2⟩
theorem joins_all : ∀ x : dens [cirTy, cirTy, .int .i64], WfL [cirTy, cirTy, .int .i64] x → W.Law_CircJoins.ce.F x = some true := by
  intro x h
  exact joins_law x.1 x.2.1 x.2.2 (wcir_of h.1) (wcir_of h.2.1) (int_of_wf h.2.2)
end Go.Ql
end
