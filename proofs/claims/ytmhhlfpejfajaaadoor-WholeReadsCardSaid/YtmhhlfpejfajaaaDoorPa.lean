/- Plain laws of whole numbers. -/
import Derived.Test.YtmhhlfpejfajaaaDoorWb
import Derived.IntWalk
section
/- Plain laws, as far as this cut has the functions. -/
section
namespace Go.Ql
section
variable {S R : Type} {f : S → Option (S ⊕ R)}
theorem iter_inr {s : S} {r : R} (h : f s = some (.inr r)) : iter f s = some r := iter_of (n := 1) (by simp [iterN, h])
theorem iter_inl {s s' : S} {r : R} (h : f s = some (.inl s')) (h' : iter f s' = some r) : iter f s = some r := by
  obtain ⟨n, hn⟩ := iter_some h'
  exact iter_of (n := n + 1) (by simp [iterN, h, hn])
/-- A loop with a measure: from each state that keeps J a round ends it, or makes the measure less. -/
theorem iter_loop {J : S → Prop} {Q : R → Prop} (m : S → Nat) (hstep : ∀ s, J s → (∃ r, f s = some (.inr r) ∧ Q r) ∨ ∃ s', f s = some (.inl s') ∧ J s' ∧ m s' < m s) {s : S} (h : J s) : ∃ r, iter f s = some r ∧ Q r := by
  have key : ∀ (k : Nat) (s : S), m s ≤ k → J s → ∃ r, iter f s = some r ∧ Q r := by
    intro k
    induction k with
    | zero =>
      intro s hk hj
      rcases hstep s hj with ⟨r, h1, h2⟩ | ⟨s', h1, h2, h3⟩
      · exact ⟨r, iter_inr h1, h2⟩
      · omega
    | succ k ih =>
      intro s hk hj
      rcases hstep s hj with ⟨r, h1, h2⟩ | ⟨s', h1, h2, h3⟩
      · exact ⟨r, iter_inr h1, h2⟩
      · obtain ⟨r, h4, h5⟩ := ih s' (by omega) h2
        exact ⟨r, iter_inl h1 h4, h5⟩
  exact key (m s) s (Nat.le_refl _) h
end
theorem bnd_of {α β : Type} {p : Option α} {x : α} {k : α → Option β} {r : Option β} (h : p = some x) (h' : k x = r) : bnd p k = r := by rw [h]; exact h'
theorem bnd_val {α β : Type} {x : α} {k : α → Option β} : bnd (some x) k = k x := rfl
theorem br_true {α : Type} {x y : α} {b : Bool} (h : b = true) : br b x y = x := by rw [h]; rfl
theorem br_false {α : Type} {x y : α} {b : Bool} (h : b = false) : br b x y = y := by rw [h]; rfl
theorem br_pos {α : Type} {x y : α} {p : Prop} [Decidable p] (h : p) : br (decide p) x y = x := br_true (decide_eq_true h)
theorem br_neg {α : Type} {x y : α} {p : Prop} [Decidable p] (h : ¬ p) : br (decide p) x y = y := br_false (decide_eq_false h)
theorem okIf_true {b : Bool} (h : b = true) : okIf b = some () := by rw [h]; rfl
theorem idx_of {xs : List Int} {i : Int} (n : Nat) (hi : i = n) (h : n < xs.length) : idx xs i = some (xs.getD n 0) := by
  subst hi
  unfold idx
  simp [h]
theorem inR_of {n : Nat} {i : Int} (h0 : 0 ≤ i) (h : i < (n : Int)) : inR n i = some () := by
  unfold inR
  simp [h0, h]

/-! ## Wraps -/
theorem wrap_i64 {x : Int} (h : -9223372036854775808 ≤ x ∧ x ≤ 9223372036854775807) : IntKind.i64.wrap x = x := IntWalk.i64_in _ (by omega)
theorem wrap_u64 {x : Int} (h : 0 ≤ x ∧ x < 18446744073709551616) : IntKind.u64.wrap x = x := IntWalk.u64_in _ (by omega)
theorem wrap_u32 {x : Int} (h : 0 ≤ x ∧ x < 4294967296) : IntKind.u32.wrap x = x := IntWalk.u32_in _ (by omega)
theorem wrap_u32_mod {x : Int} : IntKind.u32.wrap x = x % 4294967296 := by
  simp [IntKind.wrap, IntKind.signed, IntKind.bits]

/-! ## Numbers in places -/
/-- The number that digits say in base B, the lowest first. -/
def val (B : Int) : List Int → Int
  | [] => 0
  | d :: l => d + B * val B l
def Dig (B : Int) (l : List Int) : Prop := ∀ d ∈ l, 0 ≤ d ∧ d < B

theorem val_append (B : Int) (m : List Int) : ∀ l : List Int, val B (l ++ m) = val B l + B ^ l.length * val B m
  | [] => by simp [val]
  | d :: l => by
    simp only [List.cons_append, val, val_append B m l, List.length_cons, Int.pow_succ]
    grind
theorem val_snoc (B : Int) (l : List Int) (d : Int) : val B (l ++ [d]) = val B l + B ^ l.length * d := by
  rw [val_append]; simp [val]
theorem Dig.nil {B : Int} : Dig B [] := fun _ h => by cases h
theorem Dig.cons {B d : Int} {l : List Int} (h : 0 ≤ d ∧ d < B) (hl : Dig B l) : Dig B (d :: l) := fun x hx => by
  rcases List.mem_cons.1 hx with rfl | hx
  · exact h
  · exact hl x hx
theorem Dig.append {B : Int} {l m : List Int} (hl : Dig B l) (hm : Dig B m) : Dig B (l ++ m) := fun x hx => by
  rcases List.mem_append.1 hx with hx | hx
  · exact hl x hx
  · exact hm x hx
theorem Dig.head {B d : Int} {l : List Int} (h : Dig B (d :: l)) : 0 ≤ d ∧ d < B := h d (List.mem_cons_self ..)
theorem Dig.tail {B d : Int} {l : List Int} (h : Dig B (d :: l)) : Dig B l := fun x hx => h x (List.mem_cons_of_mem _ hx)
theorem Dig.take {B : Int} {l : List Int} (h : Dig B l) (n : Nat) : Dig B (l.take n) := fun x hx => h x (List.mem_of_mem_take hx)
theorem Dig.drop {B : Int} {l : List Int} (h : Dig B l) (n : Nat) : Dig B (l.drop n) := fun x hx => h x (List.mem_of_mem_drop hx)
theorem Dig.getD {B : Int} {l : List Int} (hB : 0 < B) (h : Dig B l) (i : Nat) : 0 ≤ l.getD i 0 ∧ l.getD i 0 < B := by
  by_cases hi : i < l.length
  · simp only [List.getD, List.getElem?_eq_getElem hi, Option.getD_some]
    exact h _ (List.getElem_mem hi)
  · rw [List.getD, List.getElem?_eq_none (by omega : l.length ≤ i), Option.getD_none]
    omega
theorem Dig.set {B x : Int} {l : List Int} (h : Dig B l) (hx : 0 ≤ x ∧ x < B) (i : Nat) : Dig B (l.set i x) := fun y hy => by
  rcases List.mem_or_eq_of_mem_set hy with hy | rfl
  · exact h y hy
  · exact hx
theorem Dig.replicate {B : Int} (hB : 0 < B) (n : Nat) : Dig B (List.replicate n 0) := fun x hx => by
  rw [(List.mem_replicate.1 hx).2]; omega
theorem val_replicate (B : Int) : ∀ n : Nat, val B (List.replicate n 0) = 0
  | 0 => rfl
  | n + 1 => by simp [List.replicate_succ, val, val_replicate B n]
theorem val_nonneg {B : Int} (hB : 0 ≤ B) : ∀ {l : List Int}, Dig B l → 0 ≤ val B l
  | [], _ => Int.le_refl 0
  | d :: l, h => by
    have h1 := val_nonneg hB h.tail
    have h2 := h.head
    have h3 := Int.mul_nonneg hB h1
    simp only [val]
    omega
theorem val_lt {B : Int} (hB : 0 < B) : ∀ {l : List Int}, Dig B l → val B l < B ^ l.length
  | [], _ => by simp [val]
  | d :: l, h => by
    have h1 := val_lt hB h.tail
    have h2 := h.head
    have h3 : B * (val B l + 1) ≤ B * B ^ l.length := Int.mul_le_mul_of_nonneg_left (by omega) (by omega)
    simp only [val, List.length_cons, Int.pow_succ]
    rw [Int.mul_comm (B ^ l.length) B]
    rw [Int.mul_add] at h3
    omega
theorem val_take_succ (B : Int) : ∀ (i : Nat) (l : List Int), val B (l.take (i + 1)) = val B (l.take i) + B ^ i * l.getD i 0
  | _, [] => by simp [val]
  | 0, d :: l => by simp [val]
  | i + 1, d :: l => by
    have h := val_take_succ B i l
    simp only [List.take_succ_cons, val, List.getD_cons_succ, Int.pow_succ] at h ⊢
    rw [h]
    grind
theorem val_set (B x : Int) : ∀ (i : Nat) (l : List Int), i < l.length → val B (l.set i x) = val B l + B ^ i * (x - l.getD i 0)
  | _, [], h => by simp at h
  | 0, d :: l, _ => by simp [val]; omega
  | i + 1, d :: l, h => by
    have h := val_set B x i l (by simpa using h)
    simp only [List.set_cons_succ, val, List.getD_cons_succ, Int.pow_succ] at h ⊢
    rw [h]
    grind
theorem getD_set {l : List Int} {i j : Nat} {x : Int} (h : i < l.length) : (l.set i x).getD j 0 = if i = j then x else l.getD j 0 := by
  simp only [List.getD, List.getElem?_set]
  by_cases hij : i = j
  · subst hij; simp [h]
  · simp [hij]
theorem getD_replicate (n j : Nat) : (List.replicate n (0 : Int)).getD j 0 = 0 := by
  simp only [List.getD, List.getElem?_replicate]
  split <;> rfl
theorem pow_pos {B : Int} (hB : 0 < B) (n : Nat) : 0 < B ^ n := Int.pow_pos hB
end Go.Ql
end

section
namespace Go.Ql
theorem br_tt {α : Type} {x y : α} : br true x y = x := rfl
theorem br_ff {α : Type} {x y : α} : br false x y = y := rfl

/-- A sign and digits that say the number v, in the one way. -/
structure Rep (B : Int) (x : Bool × List Int) (v : Int) : Prop where
  dig : Dig B x.2
  last : x.2 ≠ [] → x.2.getD (x.2.length - 1) 0 ≠ 0
  neg : x.1 = true → x.2 ≠ []
  val : v = if x.1 then - val B x.2 else val B x.2

theorem val_take_len (B : Int) {l : List Int} {n : Nat} (h : l.length ≤ n) : val B (l.take n) = val B l := by rw [List.take_of_length_le h]

theorem made_ok {B : Int} (neg : Bool) (mag : List Int) (h : Dig B mag) (hl : mag.length < 1000000000000) :
    ∃ r, W.whole_made neg mag = some r ∧ Rep B r (if neg then - val B mag else val B mag) ∧ r.2.length ≤ mag.length := by
  obtain ⟨n, h1, k, rfl, hk, hv, hz⟩ := iter_loop (f := fun s ↦ W.whole_made.c100002 mag s Option.some)
    (J := fun n : Int => ∃ k : Nat, n = k ∧ k ≤ mag.length ∧ val B (mag.take k) = val B mag)
    (Q := fun n : Int => ∃ k : Nat, n = k ∧ k ≤ mag.length ∧ val B (mag.take k) = val B mag ∧ (k ≠ 0 → mag.getD (k - 1) 0 ≠ 0))
    Int.toNat (fun s ⟨k, hs, hk, hv⟩ => by
      subst hs
      simp only [W.whole_made.c100002, W.whole_made.c2]
      by_cases h0 : k = 0
      · subst h0
        exact Or.inl ⟨_, by simp [br_ff, bnd_val], 0, rfl, hk, hv, fun h => absurd rfl h⟩
      · have hw : IntKind.i64.wrap ((k : Int) - 1) = ((k - 1 : Nat) : Int) := by rw [wrap_i64 (by omega)]; omega
        have e1 := idx_of (xs := mag) (k - 1) hw (by omega)
        rw [e1, hw]
        simp only [bnd_val, decide_eq_true (by omega : (k : Int) > 0), br_tt]
        by_cases hz : mag.getD (k - 1) 0 = 0
        · refine Or.inr ⟨_, by rw [hz]; rfl, ⟨k - 1, rfl, by omega, ?_⟩, by omega⟩
          have := val_take_succ B (k - 1) mag
          rw [hz, show k - 1 + 1 = k by omega, Int.mul_zero] at this
          omega
        · exact Or.inl ⟨_, by rw [beq_false_of_ne hz]; rfl, k, rfl, hk, hv, fun _ => hz⟩)
    (s := (mag.length : Int)) ⟨mag.length, rfl, Nat.le_refl _, val_take_len B (Nat.le_refl _)⟩
  unfold W.whole_made
  rw [h1]
  simp only [bnd_val]
  by_cases h0 : k = 0
  · subst h0
    refine ⟨(false, []), by simp [br_tt], ⟨Dig.nil, by simp, by simp, ?_⟩, by simp⟩
    simp only [List.take_zero, val] at hv
    rw [← hv]; simp [val]
  · refine ⟨(neg, mag.take k), ?_, ⟨h.take k, fun _ => ?_, fun _ e => ?_, ?_⟩, by simp only [List.length_take]; omega⟩
    · have : ((k : Int) == 0) = false := beq_false_of_ne (by omega)
      simp only [this, br_ff]
      rw [okIf_true (by simp; omega)]
      rfl
    · have hlen : (mag.take k).length = k := by rw [List.length_take]; omega
      have := hz h0
      rw [hlen]
      simp only [List.getD, List.getElem?_take] at this ⊢
      rw [if_pos (by omega)]
      exact this
    · have : (mag.take k).length = 0 := congrArg List.length e
      rw [List.length_take] at this
      omega
    · simp only [hv]
theorem zmade_ok {B : Int} (neg : Bool) (mag : List Int) (h : Dig B mag) (hl : mag.length < 1000000000000) :
    ∃ r, W.R_zmade neg mag = some r ∧ Rep B r (if neg then - val B mag else val B mag) ∧ r.2.length ≤ mag.length := by
  obtain ⟨n, h1, k, rfl, hk, hv, hz⟩ := iter_loop (f := fun s ↦ W.R_zmade.c100002 mag s Option.some)
    (J := fun n : Int => ∃ k : Nat, n = k ∧ k ≤ mag.length ∧ val B (mag.take k) = val B mag)
    (Q := fun n : Int => ∃ k : Nat, n = k ∧ k ≤ mag.length ∧ val B (mag.take k) = val B mag ∧ (k ≠ 0 → mag.getD (k - 1) 0 ≠ 0))
    Int.toNat (fun s ⟨k, hs, hk, hv⟩ => by
      subst hs
      simp only [W.R_zmade.c100002, W.R_zmade.c2]
      by_cases h0 : k = 0
      · subst h0
        exact Or.inl ⟨_, by simp [br_ff, bnd_val], 0, rfl, hk, hv, fun h => absurd rfl h⟩
      · have hw : IntKind.i64.wrap ((k : Int) - 1) = ((k - 1 : Nat) : Int) := by rw [wrap_i64 (by omega)]; omega
        have e1 := idx_of (xs := mag) (k - 1) hw (by omega)
        rw [e1, hw]
        simp only [bnd_val, decide_eq_true (by omega : (k : Int) > 0), br_tt]
        by_cases hz : mag.getD (k - 1) 0 = 0
        · refine Or.inr ⟨_, by rw [hz]; rfl, ⟨k - 1, rfl, by omega, ?_⟩, by omega⟩
          have := val_take_succ B (k - 1) mag
          rw [hz, show k - 1 + 1 = k by omega, Int.mul_zero] at this
          omega
        · exact Or.inl ⟨_, by rw [beq_false_of_ne hz]; rfl, k, rfl, hk, hv, fun _ => hz⟩)
    (s := (mag.length : Int)) ⟨mag.length, rfl, Nat.le_refl _, val_take_len B (Nat.le_refl _)⟩
  unfold W.R_zmade
  rw [h1]
  simp only [bnd_val]
  by_cases h0 : k = 0
  · subst h0
    refine ⟨(false, []), by simp [br_tt], ⟨Dig.nil, by simp, by simp, ?_⟩, by simp⟩
    simp only [List.take_zero, val] at hv
    rw [← hv]; simp [val]
  · refine ⟨(neg, mag.take k), ?_, ⟨h.take k, fun _ => ?_, fun _ e => ?_, ?_⟩, by simp only [List.length_take]; omega⟩
    · have : ((k : Int) == 0) = false := beq_false_of_ne (by omega)
      simp only [this, br_ff]
      rw [okIf_true (by simp; omega)]
      rfl
    · have hlen : (mag.take k).length = k := by rw [List.length_take]; omega
      have := hz h0
      rw [hlen]
      simp only [List.getD, List.getElem?_take] at this ⊢
      rw [if_pos (by omega)]
      exact this
    · have : (mag.take k).length = 0 := congrArg List.length e
      rw [List.length_take] at this
      omega
    · simp only [hv]
end Go.Ql
end

section
namespace Go.Ql
end Go.Ql
end

section
namespace Go.Ql
theorem tdiv_pos {x d : Int} (h : 0 ≤ x) : Int.tdiv x d = x / d := Int.tdiv_eq_ediv_of_nonneg h
theorem tmod_pos {x d : Int} (h : 0 ≤ x) : Int.tmod x d = x % d := Int.tmod_eq_emod_of_nonneg h
theorem getD_out {l : List Int} {i : Nat} (h : l.length ≤ i) : l.getD i 0 = 0 := by rw [List.getD, List.getElem?_eq_none h]; rfl

theorem dadd_ok (a b : List Int) (ha : Dig 10000 a) (hb : Dig 10000 b) (la : a.length < 1000000000) (lb : b.length < 1000000000) :
    ∃ t, W.R_dadd a b = some t ∧ Dig 10000 t ∧ t.length ≤ a.length + b.length + 1 ∧ val 10000 t = val 10000 a + val 10000 b := by
  obtain ⟨⟨c, i, t⟩, h1, hd, hl, hv⟩ := iter_loop
    (f := fun s : Int × Int × List Int ↦ W.R_dadd.c100004 a b (Prod.fst s) (Prod.fst (Prod.snd s)) (Prod.snd (Prod.snd s)) Option.some)
    (J := fun s => (0 ≤ s.1 ∧ s.1 ≤ 1) ∧ s.2.1 = s.2.2.length ∧ Dig 10000 s.2.2 ∧ s.2.2.length ≤ max a.length b.length + 1 ∧ (s.2.2.length = max a.length b.length + 1 → s.1 = 0) ∧ val 10000 s.2.2 + s.1 * 10000 ^ s.2.2.length = val 10000 (a.take s.2.2.length) + val 10000 (b.take s.2.2.length))
    (Q := fun s => Dig 10000 s.2.2 ∧ s.2.2.length ≤ a.length + b.length + 1 ∧ val 10000 s.2.2 = val 10000 a + val 10000 b)
    (fun s => 2 * (max a.length b.length + 1 - s.2.2.length) + s.1.toNat) (fun ⟨c, i', t⟩ ⟨hc, hi, hd, hl, hl0, hv⟩ => by
      simp only at hc hi hd hl hl0 hv ⊢
      subst hi
      simp only [W.R_dadd.c100004]
      have e4 : W.R_dadd.c4 a b c (t.length : Int) Option.some = some (decide (t.length < a.length ∨ t.length < b.length ∨ 0 < c)) := by
        unfold W.R_dadd.c4
        by_cases h1 : t.length < a.length
        · rw [br_pos (by omega)]; simp [h1]
        · rw [br_neg (by omega)]
          by_cases h2 : t.length < b.length
          · rw [br_pos (by omega)]; simp [h2]
          · rw [br_neg (by omega)]; simp [h1, h2]
      rw [e4, bnd_val]
      have dx := ha.getD (by decide) t.length
      have dy := hb.getD (by decide) t.length
      have e5 : W.R_dadd.c224581 a c (t.length : Int) Option.some = some (c + a.getD t.length 0) := by
        unfold W.R_dadd.c224581
        by_cases h1 : t.length < a.length
        · rw [br_pos (by omega), idx_of t.length rfl h1, bnd_val, wrap_i64 (by omega)]
        · rw [br_neg (by omega), getD_out (by omega)]; simp
      have e6 : W.R_dadd.c232773 b (c + a.getD t.length 0) (t.length : Int) Option.some = some (c + a.getD t.length 0 + b.getD t.length 0) := by
        unfold W.R_dadd.c232773
        by_cases h1 : t.length < b.length
        · rw [br_pos (by omega), idx_of t.length rfl h1, bnd_val, wrap_i64 (by omega)]
        · rw [br_neg (by omega), getD_out (l := b) (by omega)]; simp
      by_cases h0 : t.length < a.length ∨ t.length < b.length ∨ 0 < c
      · rw [br_pos h0]
        refine Or.inr ⟨(_, _, _), by rw [e5, bnd_val, e6, bnd_val, okIf_true (by simp; omega), bnd_val, tmod_pos (by omega), tdiv_pos (by omega), wrap_i64 (by omega)], ⟨?_, ?_, ?_, ?_, ?_, ?_⟩, ?_⟩
        · simp only; omega
        · simp only [List.length_append, List.length_singleton]; rw [wrap_i64 (by omega)]; omega
        · exact hd.append (Dig.cons (by omega) Dig.nil)
        · simp only [List.length_append, List.length_singleton]; omega
        · simp only [List.length_append, List.length_singleton]
          intro h2
          have h3 : a.getD t.length 0 = 0 := getD_out (by omega)
          have h4 : b.getD t.length 0 = 0 := getD_out (by omega)
          rw [h3, h4]; omega
        · have v1 := val_take_succ 10000 t.length a
          have v2 := val_take_succ 10000 t.length b
          have v3 := val_snoc 10000 t ((c + a.getD t.length 0 + b.getD t.length 0) % 10000)
          have v5 : c + a.getD t.length 0 + b.getD t.length 0 = (c + a.getD t.length 0 + b.getD t.length 0) % 10000 + 10000 * ((c + a.getD t.length 0 + b.getD t.length 0) / 10000) := (Int.emod_add_mul_ediv _ _).symm
          simp only [List.length_append, List.length_singleton, Int.pow_succ]
          rw [v1, v2, v3]
          generalize (10000 : Int) ^ t.length = P at *
          generalize (c + a.getD t.length 0 + b.getD t.length 0) % 10000 = r at *
          generalize (c + a.getD t.length 0 + b.getD t.length 0) / 10000 = q at *
          generalize a.getD t.length 0 = x at *
          generalize b.getD t.length 0 = y at *
          grind
        · simp only [List.length_append, List.length_singleton]
          by_cases h2 : t.length < max a.length b.length
          · omega
          · have h3 : a.getD t.length 0 = 0 := getD_out (by omega)
            have h4 : b.getD t.length 0 = 0 := getD_out (by omega)
            rw [h3, h4]; omega
      · rw [br_neg h0]
        refine Or.inl ⟨(_, _, _), rfl, hd, by simp only; omega, ?_⟩
        have hc0 : c = 0 := by omega
        subst hc0
        rw [val_take_len _ (by omega), val_take_len _ (by omega)] at hv
        simp only
        omega)
    (s := ((0 : Int), (0 : Int), [])) ⟨by simp, rfl, Dig.nil, by simp, by simp, by simp [val]⟩
  unfold W.R_dadd
  rw [h1]
  exact ⟨t, rfl, hd, hl, hv⟩

theorem dsub_ok (a b : List Int) (ha : Dig 10000 a) (hb : Dig 10000 b) (la : a.length < 1000000000) (lb : b.length ≤ a.length) (hab : val 10000 b ≤ val 10000 a) :
    ∃ t, W.R_dsub a b = some t ∧ Dig 10000 t ∧ t.length = a.length ∧ val 10000 t = val 10000 a - val 10000 b := by
  obtain ⟨⟨c, i, t⟩, h1, hc, hd, hl, hv⟩ := iter_loop
    (f := fun s : Int × Int × List Int ↦ W.R_dsub.c100004 a b (Prod.fst s) (Prod.fst (Prod.snd s)) (Prod.snd (Prod.snd s)) Option.some)
    (J := fun s => (0 ≤ s.1 ∧ s.1 ≤ 1) ∧ s.2.1 = s.2.2.length ∧ Dig 10000 s.2.2 ∧ s.2.2.length ≤ a.length ∧ val 10000 s.2.2 = val 10000 (a.take s.2.2.length) - val 10000 (b.take s.2.2.length) + s.1 * 10000 ^ s.2.2.length)
    (Q := fun s => (0 ≤ s.1 ∧ s.1 ≤ 1) ∧ Dig 10000 s.2.2 ∧ s.2.2.length = a.length ∧ val 10000 s.2.2 = val 10000 a - val 10000 b + s.1 * 10000 ^ a.length)
    (fun s => a.length - s.2.2.length) (fun ⟨c, i', t⟩ ⟨hc, hi, hd, hl, hv⟩ => by
      simp only at hc hi hd hl hv ⊢
      subst hi
      simp only [W.R_dsub.c100004]
      have dx := ha.getD (by decide) t.length
      have dy := hb.getD (by decide) t.length
      by_cases h0 : t.length < a.length
      · have e5 : W.R_dsub.c228677 b (t.length : Int) (a.getD t.length 0 - c) Option.some = some (a.getD t.length 0 - c - b.getD t.length 0) := by
          unfold W.R_dsub.c228677
          by_cases h1 : t.length < b.length
          · rw [br_pos (by omega), idx_of t.length rfl h1, bnd_val, wrap_i64 (by omega)]
          · rw [br_neg (by omega), getD_out (l := b) (by omega)]; simp
        have e6 : W.R_dsub.c240967 0 (a.getD t.length 0 - c - b.getD t.length 0) Option.some = some (-((a.getD t.length 0 - c - b.getD t.length 0) / 10000), (a.getD t.length 0 - c - b.getD t.length 0) % 10000) := by
          unfold W.R_dsub.c240967
          by_cases h1 : a.getD t.length 0 - c - b.getD t.length 0 < 0
          · rw [br_pos h1, wrap_i64 (by omega)]
            congr 1
            ext <;> simp only <;> omega
          · rw [br_neg h1]
            congr 1
            ext <;> simp only <;> omega
        rw [br_pos (by omega)]
        refine Or.inr ⟨(_, _, _), by rw [idx_of t.length rfl h0, bnd_val, wrap_i64 (x := a.getD t.length 0 - c) (by omega), e5, bnd_val, e6, bnd_val, okIf_true (by simp; omega), bnd_val], ⟨?_, ?_, ?_, ?_, ?_⟩, ?_⟩
        · simp only; omega
        · simp only [List.length_append, List.length_singleton]; rw [wrap_i64 (by omega)]; omega
        · exact hd.append (Dig.cons (by simp only; omega) Dig.nil)
        · simp only [List.length_append, List.length_singleton]; omega
        · have v1 := val_take_succ 10000 t.length a
          have v2 := val_take_succ 10000 t.length b
          have v3 := val_snoc 10000 t ((a.getD t.length 0 - c - b.getD t.length 0) % 10000)
          have v5 : a.getD t.length 0 - c - b.getD t.length 0 = (a.getD t.length 0 - c - b.getD t.length 0) % 10000 + 10000 * ((a.getD t.length 0 - c - b.getD t.length 0) / 10000) := (Int.emod_add_mul_ediv _ _).symm
          simp only [List.length_append, List.length_singleton, Int.pow_succ]
          rw [v1, v2, v3]
          generalize (10000 : Int) ^ t.length = P at *
          generalize (a.getD t.length 0 - c - b.getD t.length 0) % 10000 = r at *
          generalize (a.getD t.length 0 - c - b.getD t.length 0) / 10000 = q at *
          generalize a.getD t.length 0 = x at *
          generalize b.getD t.length 0 = y at *
          grind
        · simp only [List.length_append, List.length_singleton]; omega
      · rw [br_neg (by omega)]
        have hl' : t.length = a.length := by omega
        rw [hl', val_take_len _ (Nat.le_refl _), val_take_len _ lb] at hv
        exact Or.inl ⟨(_, _, _), rfl, hc, hd, hl', hv⟩)
    (s := ((0 : Int), (0 : Int), [])) ⟨by simp, rfl, Dig.nil, by simp, by simp [val]⟩
  unfold W.R_dsub
  rw [h1]
  simp only at hc hd hl hv
  have h2 := val_lt (by decide) hd
  rw [hl] at h2
  have hc0 : c = 0 := by
    rcases (by omega : c = 0 ∨ c = 1) with h | h
    · exact h
    · subst h; omega
  subst hc0
  exact ⟨t, rfl, hd, hl, by omega⟩
end Go.Ql
end

section
namespace Go.Ql
theorem bv_back (a : BitVec 32) : BitVec.ofInt IntKind.u32.bits ((a.toNat : Nat) : Int) = a := by
  show BitVec.ofInt 32 ((a.toNat : Nat) : Int) = a
  rw [BitVec.ofInt_natCast, BitVec.ofNat_toNat, BitVec.setWidth_eq]
theorem wrap_bv (a : BitVec 32) : IntKind.u32.wrap ((a.toNat : Nat) : Int) = a.toNat := wrap_u32 (by have := a.isLt; omega)
theorem ior32 (a b : BitVec 32) : ibits .or .u32 (a.toNat : Int) (b.toNat : Int) = ((a ||| b).toNat : Int) := by
  simp only [ibits, bv_back]; exact wrap_bv (a ||| b)
theorem iand32 (a b : BitVec 32) : ibits .and .u32 (a.toNat : Int) (b.toNat : Int) = ((a &&& b).toNat : Int) := by
  simp only [ibits, bv_back]; exact wrap_bv (a &&& b)
theorem ixor32 (a b : BitVec 32) : ibits .xor .u32 (a.toNat : Int) (b.toNat : Int) = ((a ^^^ b).toNat : Int) := by
  simp only [ibits, bv_back]; exact wrap_bv (a ^^^ b)
theorem msb_top (a : BitVec 32) : a.toNat / 2147483648 = a.msb.toNat := by
  rw [BitVec.msb_eq_decide]
  have := a.isLt
  by_cases h : 2 ^ (32 - 1) ≤ a.toNat
  · simp only [h, decide_true, Bool.toNat_true]; omega
  · simp only [h, decide_false, Bool.toNat_false]; omega

end Go.Ql
end

section
namespace Go.Ql
def Trim (l : List Int) : Prop := l ≠ [] → l.getD (l.length - 1) 0 ≠ 0
theorem val_ge {B : Int} (hB : 1 < B) {l : List Int} (h : Dig B l) (ht : Trim l) (hn : l ≠ []) : B ^ (l.length - 1) ≤ val B l := by
  have h0 : l.length ≠ 0 := fun e => hn (List.eq_nil_of_length_eq_zero e)
  have h1 := val_take_succ B (l.length - 1) l
  rw [show l.length - 1 + 1 = l.length by omega, List.take_length] at h1
  have h2 := h.getD (by omega) (l.length - 1)
  have h3 := ht hn
  have h4 := val_nonneg (by omega) (h.take (l.length - 1))
  have h5 : B ^ (l.length - 1) * 1 ≤ B ^ (l.length - 1) * l.getD (l.length - 1) 0 := Int.mul_le_mul_of_nonneg_left (by omega) (Int.le_of_lt (Int.pow_pos (by omega)))
  omega
theorem pow_le {B : Int} (hB : 1 < B) {m n : Nat} (h : m ≤ n) : B ^ m ≤ B ^ n := by
  induction n with
  | zero => rw [show m = 0 by omega]; exact Int.le_refl _
  | succ n ih =>
    by_cases e : m = n + 1
    · rw [e]; exact Int.le_refl _
    · have h1 := ih (by omega)
      have h2 : 0 < B ^ n := Int.pow_pos (by omega)
      rw [Int.pow_succ]
      have h3 : B ^ n * 1 ≤ B ^ n * B := Int.mul_le_mul_of_nonneg_left (by omega) (by omega)
      omega
theorem val_lt_of_len {B : Int} (hB : 1 < B) {a b : List Int} (ha : Dig B a) (hb : Dig B b) (tb : Trim b) (h : a.length < b.length) : val B a < val B b := by
  have h1 := val_lt (by omega) ha
  have h2 := val_ge hB hb tb (by intro e; rw [e] at h; simp at h)
  have h3 := pow_le hB (show a.length ≤ b.length - 1 by omega)
  omega
theorem len_le {B : Int} (hB : 1 < B) {a b : List Int} (ha : Dig B a) (hb : Dig B b) (tb : Trim b) (h : val B b ≤ val B a) : b.length ≤ a.length := by
  by_cases h1 : b.length ≤ a.length
  · exact h1
  · have := val_lt_of_len hB ha hb tb (by omega); omega
/-- The highest place at which two numbers differ tells which is less. -/
theorem top_lt {B : Int} (hB : 1 < B) {a b : List Int} (ha : Dig B a) (hb : Dig B b) (k : Nat) (h : a.getD k 0 < b.getD k 0) : val B (a.take (k + 1)) < val B (b.take (k + 1)) := by
  have h1 := val_take_succ B k a
  have h2 := val_take_succ B k b
  have h3 := val_lt (by omega) (ha.take k)
  have h4 := val_nonneg (by omega) (hb.take k)
  have h5 := pow_le hB (show (a.take k).length ≤ k by rw [List.length_take]; omega)
  have h6 : B ^ k * (a.getD k 0 + 1) ≤ B ^ k * b.getD k 0 := Int.mul_le_mul_of_nonneg_left (by omega) (Int.le_of_lt (Int.pow_pos (by omega)))
  rw [Int.mul_add] at h6
  omega

def Ordered (x y c : Int) : Prop := (c = -1 ∧ x < y) ∨ (c = 0 ∧ x = y) ∨ (c = 1 ∧ y < x)

theorem dcmp_ok (a b : List Int) (ha : Dig 10000 a) (hb : Dig 10000 b) (ta : Trim a) (tb : Trim b) (la : a.length < 1000000000) (lb : b.length < 1000000000) :
    ∃ c, W.R_dcmp a b = some c ∧ Ordered (val 10000 a) (val 10000 b) c := by
  unfold W.R_dcmp
  by_cases h1 : a.length < b.length
  · rw [br_true (bne_iff_ne.2 (by omega)), br_pos (by omega)]
    exact ⟨_, rfl, Or.inl ⟨rfl, val_lt_of_len (by decide) ha hb tb h1⟩⟩
  by_cases h2 : b.length < a.length
  · rw [br_true (bne_iff_ne.2 (by omega)), br_neg (by omega)]
    exact ⟨_, rfl, Or.inr (Or.inr ⟨rfl, val_lt_of_len (by decide) hb ha ta h2⟩)⟩
  have hl : a.length = b.length := by omega
  obtain ⟨r, h3, h4⟩ := iter_loop (f := fun s : Int ↦ W.R_dcmp.c100006 a b s Option.some)
    (J := fun i => ∃ k : Nat, i = (k : Int) - 1 ∧ k ≤ a.length ∧ val 10000 a - val 10000 b = val 10000 (a.take k) - val 10000 (b.take k))
    (Q := fun r => Ordered (val 10000 a) (val 10000 b) (match r with | .inl u => u.1 | .inr _ => 0))
    (fun i => (i + 1).toNat) (fun i ⟨k, hi, hk, hv⟩ => by
      subst hi
      simp only [W.R_dcmp.c100006]
      by_cases h0 : k = 0
      · subst h0
        rw [br_neg (by omega)]
        refine Or.inl ⟨_, rfl, Or.inr (Or.inl ⟨rfl, ?_⟩)⟩
        simp [val] at hv
        omega
      · rw [br_pos (by omega)]
        have hk1 : k - 1 + 1 = k := by omega
        have e8 : W.R_dcmp.c8 a b ((k : Int) - 1) Option.some = some (decide (a.getD (k - 1) 0 < b.getD (k - 1) 0)) := by
          unfold W.R_dcmp.c8
          rw [idx_of (k - 1) (by omega) (by omega), bnd_val, idx_of (k - 1) (by omega) (by omega), bnd_val]
        have e10 : W.R_dcmp.c10 a b ((k : Int) - 1) Option.some = some (decide (b.getD (k - 1) 0 < a.getD (k - 1) 0)) := by
          unfold W.R_dcmp.c10
          rw [idx_of (k - 1) (by omega) (by omega), bnd_val, idx_of (k - 1) (by omega) (by omega), bnd_val]
        rw [e8, bnd_val]
        by_cases h5 : a.getD (k - 1) 0 < b.getD (k - 1) 0
        · have h6 := top_lt (by decide) ha hb (k - 1) h5
          rw [hk1] at h6
          rw [br_pos h5]
          exact Or.inl ⟨_, rfl, Or.inl ⟨rfl, by omega⟩⟩
        · rw [br_neg h5, e10, bnd_val]
          by_cases h7 : b.getD (k - 1) 0 < a.getD (k - 1) 0
          · have h6 := top_lt (by decide) hb ha (k - 1) h7
            rw [hk1] at h6
            rw [br_pos h7]
            exact Or.inl ⟨_, rfl, Or.inr (Or.inr ⟨rfl, by omega⟩)⟩
          · rw [br_neg h7, wrap_i64 (by omega)]
            refine Or.inr ⟨(k : Int) - 1 - 1, rfl, ⟨k - 1, by omega, by omega, ?_⟩, by omega⟩
            have v1 := val_take_succ 10000 (k - 1) a
            have v2 := val_take_succ 10000 (k - 1) b
            have v3 : a.getD (k - 1) 0 = b.getD (k - 1) 0 := by omega
            rw [hk1] at v1 v2
            rw [v3] at v1
            omega)
    (s := (a.length : Int) - 1) ⟨a.length, rfl, Nat.le_refl _, by rw [val_take_len _ (Nat.le_refl _), val_take_len _ (by omega)]⟩
  rw [br_false (by simp [hl]), wrap_i64 (by omega), h3, bnd_val]
  refine ⟨_, ?_, h4⟩
  cases r <;> rfl
end Go.Ql
end

section
namespace Go.Ql
theorem zadd_ok {a b : Bool × List Int} {u v : Int} (ha : Rep 10000 a u) (hb : Rep 10000 b v) (la : a.2.length < 100000000) (lb : b.2.length < 100000000) :
    ∃ r, W.R_ZAdd a b = some r ∧ Rep 10000 r (u + v) ∧ r.2.length ≤ a.2.length + b.2.length + 1 := by
  obtain ⟨a0, a1⟩ := a
  obtain ⟨b0, b1⟩ := b
  simp only at la lb
  have va := ha.val
  have vb := hb.val
  simp only at va vb
  unfold W.R_ZAdd
  by_cases za : a1 = []
  · subst za
    refine ⟨(b0, b1), rfl, ?_, by simp only; omega⟩
    have : u = 0 := by rw [va]; simp [val]
    rw [this, Int.zero_add]
    exact hb
  have za' : a1.length ≠ 0 := fun e => za (List.eq_nil_of_length_eq_zero e)
  rw [br_false (beq_false_of_ne (by show ((a1.length : Nat) : Int) ≠ 0; omega))]
  by_cases zb : b1 = []
  · subst zb
    refine ⟨(a0, a1), rfl, ?_, by simp only; omega⟩
    have : v = 0 := by rw [vb]; simp [val]
    rw [this, Int.add_zero]
    exact ha
  have zb' : b1.length ≠ 0 := fun e => zb (List.eq_nil_of_length_eq_zero e)
  rw [br_false (beq_false_of_ne (by show ((b1.length : Nat) : Int) ≠ 0; omega))]
  by_cases h0 : a0 = b0
  · subst h0
    obtain ⟨t, h1, h2, h3, h4⟩ := dadd_ok a1 b1 ha.dig hb.dig (by omega) (by omega)
    obtain ⟨r, h5, h6, h7⟩ := zmade_ok a0 t h2 (by omega)
    refine ⟨r, ?_, ?_, by show r.2.length ≤ a1.length + b1.length + 1; omega⟩
    · rw [br_true (beq_self_eq_true a0)]
      unfold W.R_ZAdd.c6
      rw [h1, bnd_val, h5]; rfl
    · have : u + v = if a0 = true then -val 10000 t else val 10000 t := by rw [va, vb, h4]; split <;> omega
      rw [this]; exact h6
  · have hb0 : b0 = !a0 := by cases a0 <;> cases b0 <;> simp_all
    rw [br_false (beq_false_of_ne h0)]
    obtain ⟨c, h1, h2⟩ := dcmp_ok a1 b1 ha.dig hb.dig ha.last hb.last (by omega) (by omega)
    rw [h1, bnd_val]
    by_cases hc : c ≥ 0
    · have hle : val 10000 b1 ≤ val 10000 a1 := by rcases h2 with h | h | h <;> omega
      obtain ⟨t, h3, h4, h5, h6⟩ := dsub_ok a1 b1 ha.dig hb.dig (by omega) (len_le (by decide) ha.dig hb.dig hb.last hle) hle
      obtain ⟨r, h7, h8, h9⟩ := zmade_ok a0 t h4 (by omega)
      refine ⟨r, ?_, ?_, by show r.2.length ≤ a1.length + b1.length + 1; omega⟩
      · rw [br_pos hc]
        unfold W.R_ZAdd.c8
        rw [h3, bnd_val, h7]; rfl
      · have : u + v = if a0 = true then -val 10000 t else val 10000 t := by rw [va, vb, h6, hb0]; cases a0 <;> simp <;> omega
        rw [this]; exact h8
    · have hle : val 10000 a1 ≤ val 10000 b1 := by rcases h2 with h | h | h <;> omega
      obtain ⟨t, h3, h4, h5, h6⟩ := dsub_ok b1 a1 hb.dig ha.dig (by omega) (len_le (by decide) hb.dig ha.dig ha.last hle) hle
      obtain ⟨r, h7, h8, h9⟩ := zmade_ok b0 t h4 (by omega)
      refine ⟨r, ?_, ?_, by show r.2.length ≤ a1.length + b1.length + 1; omega⟩
      · rw [br_neg hc]
        unfold W.R_ZAdd.c9
        rw [h3, bnd_val, h7]; rfl
      · have : u + v = if b0 = true then -val 10000 t else val 10000 t := by rw [va, vb, h6, hb0]; cases a0 <;> simp <;> omega
        rw [this]; exact h8

theorem neg_ok {a : Bool × List Int} {u : Int} (ha : Rep 4294967296 a u) (la : a.2.length < 100000000) :
    ∃ r, W.whole_Int_Neg a = some r ∧ Rep 4294967296 r (-u) ∧ r.2.length ≤ a.2.length := by
  obtain ⟨r, h1, h2, h3⟩ := made_ok (!a.1) a.2 ha.dig (by omega)
  refine ⟨r, by unfold W.whole_Int_Neg; rw [h1]; rfl, ?_, h3⟩
  have : -u = if (!a.1) = true then -val 4294967296 a.2 else val 4294967296 a.2 := by rw [ha.val]; cases a.1 <;> simp
  rw [this]; exact h2
theorem zneg_ok {a : Bool × List Int} {u : Int} (ha : Rep 10000 a u) (la : a.2.length < 100000000) :
    ∃ r, W.R_ZNeg a = some r ∧ Rep 10000 r (-u) ∧ r.2.length ≤ a.2.length := by
  obtain ⟨r, h1, h2, h3⟩ := zmade_ok (!a.1) a.2 ha.dig (by omega)
  refine ⟨r, by unfold W.R_ZNeg; rw [h1]; rfl, ?_, h3⟩
  have : -u = if (!a.1) = true then -val 10000 a.2 else val 10000 a.2 := by rw [ha.val]; cases a.1 <;> simp
  rw [this]; exact h2
theorem zsub_ok {a b : Bool × List Int} {u v : Int} (ha : Rep 10000 a u) (hb : Rep 10000 b v) (la : a.2.length < 100000000) (lb : b.2.length < 100000000) :
    ∃ r, W.R_ZSub a b = some r ∧ Rep 10000 r (u - v) ∧ r.2.length ≤ a.2.length + b.2.length + 1 := by
  obtain ⟨n, h1, h2, h3⟩ := zneg_ok hb lb
  obtain ⟨r, h4, h5, h6⟩ := zadd_ok ha h2 la (by omega)
  refine ⟨r, ?_, by rw [Int.sub_eq_add_neg]; exact h5, by omega⟩
  unfold W.R_ZSub W.R_ZSub.c1
  rw [show ((b.1, b.2) : Bool × List Int) = b from rfl, h1, bnd_val, show ((a.1, a.2) : Bool × List Int) = a from rfl, h4]; rfl

def sgn (v : Int) : Int := if v < 0 then -1 else if v = 0 then 0 else 1
theorem Rep.pos {B : Int} (hB : 1 < B) {x : Bool × List Int} {v : Int} (h : Rep B x v) (hn : x.2 ≠ []) : 0 < Ql.val B x.2 := by
  have h1 := val_ge hB h.dig h.last hn
  have h2 : 0 < B ^ (x.2.length - 1) := Int.pow_pos (by omega)
  omega
theorem Rep.sgn {B : Int} (hB : 1 < B) {x : Bool × List Int} {v : Int} (h : Rep B x v) :
    sgn v = if x.2.length = 0 then 0 else if x.1 then -1 else 1 := by
  by_cases hn : x.2 = []
  · have h1 := h.val
    rw [hn] at h1 ⊢
    have : v = 0 := by rw [h1]; simp [Ql.val]
    simp [this, Ql.sgn]
  · have h1 := h.pos hB hn
    have h2 : x.2.length ≠ 0 := fun e => hn (List.eq_nil_of_length_eq_zero e)
    have h3 := h.val
    rw [if_neg h2]
    unfold Ql.sgn
    cases hx : x.1 <;> simp only [hx, Bool.false_eq_true, if_false, if_true] at h3 ⊢ <;> split <;> (try split) <;> omega
theorem sign_ok {a : Bool × List Int} {u : Int} (ha : Rep 4294967296 a u) : W.whole_Int_Sign a = some (sgn u) := by
  rw [ha.sgn (by decide)]
  unfold W.whole_Int_Sign
  by_cases h : a.2.length = 0
  · rw [br_true (beq_iff_eq.2 (by omega)), if_pos h]
  · rw [br_false (beq_false_of_ne (by omega)), if_neg h]; cases a.1 <;> rfl
theorem zsign_ok {a : Bool × List Int} {u : Int} (ha : Rep 10000 a u) : W.R_zsign a = some (sgn u) := by
  rw [ha.sgn (by decide)]
  unfold W.R_zsign
  by_cases h : a.2.length = 0
  · rw [br_true (beq_iff_eq.2 (by omega)), if_pos h]
  · rw [br_false (beq_false_of_ne (by omega)), if_neg h]; cases a.1 <;> rfl
theorem zcmp_ok {a b : Bool × List Int} {u v : Int} (ha : Rep 10000 a u) (hb : Rep 10000 b v) (la : a.2.length < 100000000) (lb : b.2.length < 100000000) :
    W.R_ZCmp a b = some (sgn (u - v)) := by
  obtain ⟨r, h1, h2, h3⟩ := zsub_ok ha hb la lb
  unfold W.R_ZCmp
  rw [show ((b.1, b.2) : Bool × List Int) = b from rfl, show ((a.1, a.2) : Bool × List Int) = a from rfl, h1, bnd_val, zsign_ok h2]; rfl
end Go.Ql
end

section
namespace Go.Ql
theorem mul_le {a b A : Int} (h0 : 0 ≤ a) (h1 : a ≤ A) (k0 : 0 ≤ b) (k1 : b ≤ A) : 0 ≤ a * b ∧ a * b ≤ A * A :=
  ⟨Int.mul_nonneg h0 k0, Int.le_trans (Int.mul_le_mul_of_nonneg_right h1 k0) (Int.mul_le_mul_of_nonneg_left k1 (by omega))⟩

end Go.Ql
end

section
namespace Go.Ql
end Go.Ql
end

section
namespace Go.Ql
theorem hasPrefix1 (s : List UInt8) (c : UInt8) : W.strings_HasPrefix s [c] = some (s.head? == some c) := by
  unfold W.strings_HasPrefix W.stringslite_HasPrefix W.stringslite_HasPrefix.c1
  cases s with
  | nil => rfl
  | cons d l =>
    rw [br_pos (by simp; omega), okIf_true (by simp; omega), bnd_val, bnd_val, bnd_val]
    simp

def isDigit (c : UInt8) : Bool := decide (48 ≤ c.toNat) && decide (c.toNat ≤ 57)
theorem idx_text (text : List UInt8) (k : Nat) (h : k < text.length) : idx text (k : Int) = some text[k] := by
  unfold idx; simp [h]

/-- Where the digits from place i on end. -/
theorem word_loop (text : List UInt8) (i : Nat) (hi : i ≤ text.length) (hL : text.length ≤ 9223372036854775807) :
    ∃ k : Nat, iter (fun s ↦ W.R_word.c100010 text s Option.some) (i : Int) = some (k : Int) ∧ i ≤ k ∧ k ≤ text.length ∧ (∀ j (h : j < text.length), i ≤ j → j < k → isDigit text[j] = true) := by
  obtain ⟨r, h1, k, h2, h3⟩ := iter_loop (f := fun s : Int ↦ W.R_word.c100010 text s Option.some)
    (J := fun s => ∃ k : Nat, s = k ∧ i ≤ k ∧ k ≤ text.length ∧ (∀ j (h : j < text.length), i ≤ j → j < k → isDigit text[j] = true))
    (Q := fun s => ∃ k : Nat, s = k ∧ i ≤ k ∧ k ≤ text.length ∧ (∀ j (h : j < text.length), i ≤ j → j < k → isDigit text[j] = true))
    (fun s => text.length - s.toNat) (fun s ⟨k, hs, hik, hk, hd⟩ => by
      subst hs
      simp only [W.R_word.c100010]
      have e : W.R_word.c10 text (k : Int) Option.some = some (if h : k < text.length then isDigit text[k] else false) := by
        unfold W.R_word.c10
        by_cases h : k < text.length
        · rw [br_pos (by omega), idx_text text k h, bnd_val, bnd_val, dif_pos h]
          unfold isDigit
          by_cases h5 : (48 : Nat) ≤ text[k].toNat
          · rw [br_pos (by omega)]; simp [h5]; omega
          · rw [br_neg (by omega)]; simp [h5]
        · rw [br_neg (by omega), dif_neg h]
      rw [e, bnd_val]
      by_cases h : k < text.length
      · rw [dif_pos h]
        by_cases h5 : isDigit text[k] = true
        · rw [h5, br_tt]
          refine Or.inr ⟨((k + 1 : Nat) : Int), by rw [wrap_i64 (by omega)]; rfl, ⟨k + 1, rfl, by omega, by omega, fun j hj h6 h7 => ?_⟩, by omega⟩
          by_cases h8 : j = k
          · subst h8; exact h5
          · exact hd j hj h6 (by omega)
        · rw [eq_false_of_ne_true h5, br_ff]
          exact Or.inl ⟨_, rfl, k, rfl, hik, hk, hd⟩
      · rw [dif_neg h, br_ff]
        exact Or.inl ⟨_, rfl, k, rfl, hik, hk, hd⟩)
    (s := (i : Int)) ⟨i, rfl, Nat.le_refl _, hi, fun j h h1 h2 => by omega⟩
  exact ⟨k, by rw [h1, h2], h3⟩
theorem loops_same (text : List UInt8) : (fun s ↦ W.whole_number.c100009 text s Option.some) = (fun s ↦ W.R_word.c100010 text s Option.some) := by
  funext s
  rfl
/-- What is read as a whole number: a sign, digits; nought alone begins by nought. -/
def Canon (text : List UInt8) : Prop := text = [48] ∨ ∃ (neg : Bool) (ds : List UInt8), ds ≠ [] ∧ (∀ c ∈ ds, isDigit c = true) ∧ ds.head? ≠ some 48 ∧ text = (if neg then [45] else []) ++ ds

theorem word_ok (text : List UInt8) (hL : text.length ≤ 9223372036854775807) :
    ∃ (n : Nat) (ok : Bool), W.whole_number text true = some ((n : Int), ok) ∧ W.R_word text true true = some ((n : Int), ok) ∧ (ok = true → text.length ≤ n → Canon text) := by
  obtain ⟨i, hi, hs, hw2⟩ : ∃ i : Nat, i ≤ text.length ∧ (if i = 1 then text.head? = some 45 else i = 0 ∧ text.head? ≠ some 45) ∧ True := by
    by_cases h : text.head? = some 45
    · exact ⟨1, by cases text with | nil => simp at h | cons => simp, by simp [h], trivial⟩
    · exact ⟨0, by omega, by simp [h], trivial⟩
  have hi1 : i ≤ 1 := by split at hs <;> omega
  have e1 : W.whole_number.c208197 text true 0 Option.some = some (i : Int) := by
    unfold W.whole_number.c208197 W.whole_number.c2
    rw [br_tt, show Array.toList (ByteArray.data (ByteArray.mk #[(45 : UInt8)])) = [45] from rfl, hasPrefix1, bnd_val, bnd_val]
    split at hs
    · rename_i h; subst h; rw [hs]; rfl
    · rw [beq_false_of_ne hs.2, hs.1]; rfl
  have e2 : W.R_word.c208199 text true true 0 Option.some = some (decide (i = 0), (i : Int)) := by
    unfold W.R_word.c208199 W.R_word.c2
    rw [br_tt]
    cases text with
    | nil =>
      split at hs
      · simp at hs
      · rw [hs.1]; rfl
    | cons c l =>
      rw [br_pos (by simp <;> omega), show ((0 : Int)) = ((0 : Nat) : Int) from rfl, idx_text _ 0 (by simp), bnd_val, bnd_val]
      simp only [List.head?_cons, List.getElem_cons_zero] at hs ⊢
      split at hs
      · rename_i h; subst h
        simp only [Option.some.injEq] at hs
        subst hs; rfl
      · have h3 : c ≠ 45 := fun e => hs.2 (by rw [e])
        have h4 : ((c.toNat : Int) == 45) = false := by
          apply beq_false_of_ne
          intro e
          apply h3
          apply UInt8.toNat_inj.1
          show c.toNat = 45
          omega
        rw [h4, hs.1]; rfl
  have e3 : W.R_word.c5 text (i : Int) Option.some = some ((text.drop i).head? == some 48) := by
    unfold W.R_word.c5
    by_cases h : i < text.length
    · rw [br_pos (by omega), idx_text _ i h, bnd_val, List.head?_drop, List.getElem?_eq_getElem h]
      congr 1
      generalize text[i] = c
      by_cases h5 : c = 48
      · subst h5; rfl
      · have h6 : (some c == some 48) = false := beq_false_of_ne (by simpa using h5)
        rw [h6]
        apply beq_false_of_ne
        intro e
        apply h5
        apply UInt8.toNat_inj.1
        show c.toNat = 48
        omega
    · rw [br_neg (by omega), List.head?_drop, List.getElem?_eq_none (by omega)]; rfl
  obtain ⟨k, h1, h2, h3, h4⟩ := word_loop text i hi hL
  have hnum : W.whole_number text true = br ((text.drop i).head? == some 48) (br (decide (i = 1)) (some ((i : Int), false)) (some (1, true))) (some ((k : Int), decide ((k : Int) > i))) := by
    unfold W.whole_number
    rw [e1, bnd_val, okIf_true (by simp <;> omega), bnd_val, show Array.toList (ByteArray.data (ByteArray.mk #[(48 : UInt8)])) = [48] from rfl, hasPrefix1, bnd_val, loops_same, h1, bnd_val]
    rw [Int.toNat_natCast, Int.toNat_natCast, List.take_length]
    unfold W.whole_number.c5
    simp only [Bool.not_true, br_ff, bnd_val]
    congr 2
    by_cases h : i = 1
    · subst h; rfl
    · rw [show i = 0 by omega]; rfl
  have hword : W.R_word text true true = br ((text.drop i).head? == some 48) (br (decide (i = 1)) (some ((i : Int), false)) (some (1, true))) (some ((k : Int), decide ((k : Int) > i))) := by
    unfold W.R_word
    rw [e2, bnd_val, e3, bnd_val, h1, bnd_val]
    congr 1
    by_cases h : i = 1
    · subst h; rfl
    · rw [show i = 0 by omega]
      simp only [wrap_i64 (x := ((0 : Nat) : Int) + 1) (by omega)]; rfl
  rw [hnum, hword]
  by_cases h5 : (text.drop i).head? = some 48
  · rw [br_true (beq_iff_eq.2 h5)]
    by_cases h : i = 1
    · rw [br_pos h]
      exact ⟨i, false, rfl, rfl, fun h => by cases h⟩
    · rw [br_neg h]
      refine ⟨1, true, rfl, rfl, fun _ hl => Or.inl ?_⟩
      rw [show i = 0 by omega, List.drop_zero] at h5
      cases text with
      | nil => simp at h5
      | cons c l =>
        simp only [List.length_cons] at hl
        have : l = [] := List.eq_nil_of_length_eq_zero (by omega)
        subst this
        simp at h5
        rw [h5]
  · rw [br_false (beq_false_of_ne h5)]
    refine ⟨k, decide ((k : Int) > i), rfl, rfl, fun hk hl => Or.inr ⟨decide (i = 1), text.drop i, ?_, ?_, h5, ?_⟩⟩
    · have : (k : Int) > i := of_decide_eq_true hk
      intro e
      have := congrArg List.length e
      simp at this
      omega
    · intro c hc
      obtain ⟨j, hj, rfl⟩ := List.getElem_of_mem hc
      rw [List.getElem_drop]
      exact h4 _ _ (by omega) (by simp at hj; omega)
    · split at hs
      · rename_i h
        subst h
        cases text with
        | nil => simp at hs
        | cons c l => simp at hs; simp [hs]
      · simp [hs.1]
end Go.Ql
end

section
namespace Go.Ql
def dg (c : UInt8) : Int := (c.toNat : Int) - 48
def dec (l : List UInt8) : Int := l.foldl (fun n c => n * 10 + dg c) 0
theorem dec_from (n : Int) (l : List UInt8) : l.foldl (fun n c => n * 10 + dg c) n = n * 10 ^ l.length + dec l := by
  induction l generalizing n with
  | nil => simp [dec]
  | cons c l ih =>
    have h1 := ih (n * 10 + dg c)
    have h2 := ih (0 * 10 + dg c)
    simp only [dec, List.foldl_cons, List.length_cons, Int.pow_succ] at h1 h2 ⊢
    rw [h1, h2]
    grind
theorem dec_append (l m : List UInt8) : dec (l ++ m) = dec l * 10 ^ m.length + dec m := by
  unfold dec
  rw [List.foldl_append, dec_from]; rfl
theorem dec_snoc (l : List UInt8) (c : UInt8) : dec (l ++ [c]) = dec l * 10 + dg c := by
  rw [dec_append]; simp [dec]
def Digits (l : List UInt8) : Prop := ∀ c ∈ l, isDigit c = true
theorem dg_of {c : UInt8} (h : isDigit c = true) : 0 ≤ dg c ∧ dg c ≤ 9 := by
  simp only [isDigit, Bool.and_eq_true, decide_eq_true_eq] at h
  unfold dg; omega
theorem dec_bound : ∀ {l : List UInt8}, Digits l → 0 ≤ dec l ∧ dec l < 10 ^ l.length
  | [], _ => by simp [dec]
  | c :: l, h => by
    have h1 := dec_bound (l := l) (fun x hx => h x (List.mem_cons_of_mem _ hx))
    have h2 := dg_of (h c (List.mem_cons_self ..))
    have h3 := dec_append [c] l
    have h4 : dec [c] = dg c := by simp [dec]
    rw [List.singleton_append, h4] at h3
    have h5 : 0 < (10 : Int) ^ l.length := Int.pow_pos (by decide)
    have h6 : dg c * 10 ^ l.length ≤ 9 * 10 ^ l.length := Int.mul_le_mul_of_nonneg_right h2.2 (by omega)
    have h7 : 0 ≤ dg c * 10 ^ l.length := Int.mul_nonneg h2.1 (by omega)
    simp only [List.length_cons, Int.pow_succ]
    omega
theorem take_snoc {α : Type} {l : List α} {k : Nat} (h : k < l.length) : l.take (k + 1) = l.take k ++ [l[k]] := by
  rw [List.take_add_one, List.getElem?_eq_getElem h]; rfl

/-- A chunk of at most nine digits. -/
theorem chunk_ok (ch : List UInt8) (h : Digits ch) (hl : ch.length ≤ 9) :
    ∃ r : Int × Int × Int, Go.Ql.iter (fun s : Int × Int × Int ↦ W.whole_digits.c100006 (Prod.fst s) (Prod.fst (Prod.snd s)) (List.map (fun b ↦ (↑(UInt8.toNat b) : Int)) ch) (↑(List.length (List.map (fun b ↦ (↑(UInt8.toNat b) : Int)) ch)) : Int) (Prod.snd (Prod.snd s)) Option.some) ((0 : Int), (1 : Int), (0 : Int)) = some r ∧ r.1 = dec ch ∧ r.2.1 = 10 ^ ch.length :=
  iter_loop
    (f := fun s : Int × Int × Int ↦ W.whole_digits.c100006 (Prod.fst s) (Prod.fst (Prod.snd s)) (List.map (fun b ↦ (↑(UInt8.toNat b) : Int)) ch) (↑(List.length (List.map (fun b ↦ (↑(UInt8.toNat b) : Int)) ch)) : Int) (Prod.snd (Prod.snd s)) Option.some)
    (J := fun s => ∃ k : Nat, s.2.2 = k ∧ k ≤ ch.length ∧ s.1 = dec (ch.take k) ∧ s.2.1 = 10 ^ k)
    (Q := fun r => r.1 = dec ch ∧ r.2.1 = 10 ^ ch.length)
    (fun s => ch.length - s.2.2.toNat) (fun ⟨p, q, k'⟩ ⟨k, hk, hkl, hp, hq⟩ => by
      simp only at hk hp hq ⊢
      subst hk
      simp only [W.whole_digits.c100006]
      by_cases h0 : k < ch.length
      · have hd := dg_of (h _ (List.getElem_mem h0))
        have hb := dec_bound (l := ch.take k) (fun c hc => h c (List.mem_of_mem_take hc))
        have hlen : (ch.take k).length = k := by rw [List.length_take]; omega
        rw [hlen] at hb
        have h8 : (10 : Int) ^ k ≤ 10 ^ 8 := pow_le (by decide) (by omega)
        have h9 : (0 : Int) < 10 ^ k := Int.pow_pos (by decide)
        rw [← hp] at hb
        rw [← hq] at h8 h9 hb
        have e1 : (List.map (fun b ↦ (↑(UInt8.toNat b) : Int)) ch).getD k 0 = (ch[k].toNat : Int) := by simp [List.getD, h0]
        unfold dg at hd
        refine Or.inr ⟨(_, _, _), by rw [br_pos (by simp; omega), idx_of k rfl (by simpa using h0), bnd_val, e1, show IntKind.u8.wrap ((ch[k].toNat : Int) - 48) = (ch[k].toNat : Int) - 48 from IntWalk.u8_in _ (by omega), wrap_u64 (x := (ch[k].toNat : Int) - 48) (by omega), wrap_u64 (x := p * 10) (by omega), wrap_u64 (x := q * 10) (by omega), wrap_u64 (by omega), wrap_i64 (by omega)], ⟨k + 1, by simp, by omega, ?_, ?_⟩, by show ch.length - ((k : Int) + 1).toNat < ch.length - (k : Int).toNat; omega⟩
        · simp only
          rw [take_snoc h0, dec_snoc, hp]; rfl
        · simp only
          rw [hq, Int.pow_succ]
      · have e : k = ch.length := by omega
        subst e
        rw [List.take_length] at hp
        exact Or.inl ⟨(_, _, _), by rw [br_neg (by simp)], hp, hq⟩)
    (s := ((0 : Int), (1 : Int), (0 : Int))) ⟨0, rfl, by omega, by simp [dec], by simp⟩
end Go.Ql
end

section
namespace Go.Ql
/-- Times a scale, and a part added. -/
theorem scale_ok (m0 : List Int) (p0 q : Int) (hm : Dig 4294967296 m0) (hp : 0 ≤ p0 ∧ p0 ≤ 1000000000) (hq : 0 ≤ q ∧ q ≤ 1000000000) (hL : m0.length < 1000000000) :
    ∃ r : Int × Int × List Int, Go.Ql.iter (fun s : Int × Int × List Int ↦ W.whole_digits.c100012 (Prod.fst s) q (↑(List.length m0) : Int) (Prod.fst (Prod.snd s)) (Prod.snd (Prod.snd s)) Option.some) (p0, (0 : Int), m0) = some r ∧
      (0 ≤ r.1 ∧ r.1 ≤ 1000000000) ∧ r.2.2.length = m0.length ∧ Dig 4294967296 r.2.2 ∧ val 4294967296 r.2.2 + r.1 * 4294967296 ^ m0.length = p0 + q * val 4294967296 m0 :=
  iter_loop
    (f := fun s : Int × Int × List Int ↦ W.whole_digits.c100012 (Prod.fst s) q (↑(List.length m0) : Int) (Prod.fst (Prod.snd s)) (Prod.snd (Prod.snd s)) Option.some)
    (J := fun s => (0 ≤ s.1 ∧ s.1 ≤ 1000000000) ∧ ∃ j : Nat, s.2.1 = j ∧ j ≤ m0.length ∧ s.2.2.length = m0.length ∧ Dig 4294967296 s.2.2 ∧ (∀ k, j ≤ k → s.2.2.getD k 0 = m0.getD k 0) ∧ val 4294967296 s.2.2 + s.1 * 4294967296 ^ j = p0 + val 4294967296 m0 + (q - 1) * val 4294967296 (m0.take j))
    (Q := fun r => (0 ≤ r.1 ∧ r.1 ≤ 1000000000) ∧ r.2.2.length = m0.length ∧ Dig 4294967296 r.2.2 ∧ val 4294967296 r.2.2 + r.1 * 4294967296 ^ m0.length = p0 + q * val 4294967296 m0)
    (fun s => m0.length - s.2.1.toNat) (fun ⟨c, j', t⟩ ⟨hc, j, hj, hjl, ht, hd, hz, hv⟩ => by
      simp only at hc hj ht hd hz hv ⊢
      subst hj
      simp only [W.whole_digits.c100012]
      by_cases h0 : j < m0.length
      · have dx := hm.getD (by decide) j
        have hxq : 0 ≤ m0.getD j 0 * q ∧ m0.getD j 0 * q ≤ 4294967295 * 1000000000 :=
          ⟨Int.mul_nonneg dx.1 hq.1, Int.le_trans (Int.mul_le_mul_of_nonneg_right (by omega : m0.getD j 0 ≤ 4294967295) hq.1) (Int.mul_le_mul_of_nonneg_left hq.2 (by decide))⟩
        have hw : IntKind.i64.wrap ((j : Int) + 1) = ((j + 1 : Nat) : Int) := by rw [wrap_i64 (by omega)]; omega
        have e1 : IntKind.u64.wrap (c + IntKind.u64.wrap (IntKind.u64.wrap (m0.getD j 0) * q)) = c + m0.getD j 0 * q := by
          rw [wrap_u64 (x := m0.getD j 0) (by omega), wrap_u64 (x := m0.getD j 0 * q) (by omega), wrap_u64 (by omega)]
        refine Or.inr ⟨(_, _, _), by rw [br_pos (by omega), inR_of (by omega) (by omega), bnd_val, idx_of j rfl (by omega), bnd_val, bnd_val, bnd_val, hz j (Nat.le_refl _), e1, hw, Int.toNat_natCast, wrap_u32_mod, Int.fdiv_eq_ediv_of_nonneg _ (by decide), show ((2 : Int) ^ (32 : Nat)) = 4294967296 from by decide], ⟨?_, j + 1, rfl, by omega, by simpa using ht, ?_, ?_, ?_⟩, by show m0.length - ((j + 1 : Nat) : Int).toNat < m0.length - (j : Int).toNat; omega⟩
        · simp only; omega
        · exact hd.set (by omega) _
        · intro k hk
          simp only
          rw [getD_set (by omega), if_neg (by omega)]
          exact hz k (by omega)
        · have v2 := val_take_succ 4294967296 j m0
          have v3 := val_set 4294967296 ((c + m0.getD j 0 * q) % 4294967296) j t (by omega)
          have v4 := hz j (Nat.le_refl _)
          have v5 : c + m0.getD j 0 * q = (c + m0.getD j 0 * q) % 4294967296 + 4294967296 * ((c + m0.getD j 0 * q) / 4294967296) := (Int.emod_add_mul_ediv _ _).symm
          simp only [Int.pow_succ]
          rw [v2, v3, v4]
          generalize (4294967296 : Int) ^ j = P at *
          generalize (c + m0.getD j 0 * q) % 4294967296 = r at *
          generalize (c + m0.getD j 0 * q) / 4294967296 = w at *
          generalize m0.getD j 0 = x at *
          grind
      · have e : j = m0.length := by omega
        subst e
        refine Or.inl ⟨(_, _, _), by rw [br_neg (by omega)], hc, ht, hd, ?_⟩
        rw [List.take_length] at hv
        simp only
        grind)
    (s := (p0, (0 : Int), m0)) ⟨hp, 0, rfl, by omega, rfl, hm, fun _ _ => rfl, by simp [val]; omega⟩

theorem digits_ok (ds : List UInt8) (h : Digits ds) (hl : ds.length ≤ 1000) :
    ∃ t, W.whole_digits ds = some t ∧ Dig 4294967296 t ∧ t.length ≤ ds.length ∧ val 4294967296 t = dec ds := by
  obtain ⟨⟨rest, t⟩, h1, hd, ht, hv⟩ := iter_loop
    (f := fun s : List UInt8 × List Int ↦ W.whole_digits.c100002 (Prod.fst s) (Prod.snd s) Option.some)
    (J := fun s => ∃ k : Nat, k ≤ ds.length ∧ s.1 = ds.drop k ∧ s.2.length ≤ k ∧ Dig 4294967296 s.2 ∧ val 4294967296 s.2 = dec (ds.take k))
    (Q := fun r => Dig 4294967296 r.2 ∧ r.2.length ≤ ds.length ∧ val 4294967296 r.2 = dec ds)
    (fun s => s.1.length) (fun ⟨text, m⟩ ⟨k, hk, htx, hml, hd, hv⟩ => by
      simp only at htx hml hd hv ⊢
      have hlen : text.length = ds.length - k := by rw [htx, List.length_drop]
      have hdt : Digits text := fun c hc => h c (by rw [htx] at hc; exact List.mem_of_mem_drop hc)
      simp only [W.whole_digits.c100002]
      by_cases h0 : text.length = 0
      · refine Or.inl ⟨(_, _), by rw [br_neg (by omega)], hd, by simp only; omega, ?_⟩
        simp only
        rw [hv, List.take_of_length_le (by omega)]
      · obtain ⟨n, hn⟩ : ∃ n : Nat, n = (text.length - 1) % 9 + 1 := ⟨_, rfl⟩
        have en : IntKind.i64.wrap (Int.tmod (IntKind.i64.wrap ((text.length : Int) - 1)) 9 + 1) = (n : Int) := by
          rw [wrap_i64 (x := (text.length : Int) - 1) (by omega), tmod_pos (by omega), wrap_i64 (by omega)]; omega
        have hn1 : 1 ≤ n ∧ n ≤ 9 ∧ n ≤ text.length := by omega
        rw [br_pos (by omega), en, Int.toNat_natCast, Int.toNat_natCast, List.take_length]
        obtain ⟨⟨p, q, j⟩, h2, h3, h4⟩ := chunk_ok (text.take n) (fun c hc => hdt c (List.mem_of_mem_take hc)) (by rw [List.length_take]; omega)
        simp only at h3 h4
        have hcl : (text.take n).length = n := by rw [List.length_take]; omega
        have hb := dec_bound (l := text.take n) (fun c hc => hdt c (List.mem_of_mem_take hc))
        rw [hcl] at hb h4
        have h9 : (10 : Int) ^ n ≤ 10 ^ 9 := pow_le (by decide) (by omega)
        have h10 : (0 : Int) < 10 ^ n := Int.pow_pos (by decide)
        have h11 : (10 : Int) ^ 9 = 1000000000 := by decide
        obtain ⟨⟨p', j', m'⟩, h5, h6, h7, h8, hv'⟩ := scale_ok m p q hd (by omega) (by omega) (by omega)
        simp only at h6 h7 h8 hv'
        rw [okIf_true (by simp; omega), bnd_val, okIf_true (by simp; omega), bnd_val, h2, bnd_val, okIf_true (by simp; omega), bnd_val]
        simp only
        rw [h5, bnd_val]
        have hdec : dec (ds.take (k + n)) = dec (ds.take k) * 10 ^ n + dec (text.take n) := by
          rw [List.take_add, dec_append, htx, List.length_take, List.length_drop, Nat.min_eq_left (by omega)]
        have hdrop : text.drop n = ds.drop (k + n) := by rw [htx, List.drop_drop]
        rw [hdrop]
        by_cases hp : p' > 0
        · refine Or.inr ⟨(_, _), by rw [br_pos hp, okIf_true (by simp; omega), bnd_val, wrap_u32 (by omega)], ⟨k + n, by omega, rfl, by simp; omega, h8.append (Dig.cons (by omega) Dig.nil), ?_⟩, by simp only [List.length_drop]; omega⟩
          simp only
          rw [val_snoc, hdec, ← h3, ← h4, ← hv, h7]
          grind
        · refine Or.inr ⟨(_, _), by rw [br_neg hp], ⟨k + n, by omega, rfl, by simp only; omega, h8, ?_⟩, by simp only [List.length_drop]; omega⟩
          have : p' = 0 := by omega
          subst this
          simp only
          rw [hdec, ← h3, ← h4, ← hv]
          grind)
    (s := (ds, [])) ⟨0, by omega, rfl, by simp, Dig.nil, by simp [val, dec]⟩
  unfold W.whole_digits
  rw [h1]
  exact ⟨t, rfl, hd, ht, hv⟩
end Go.Ql
end

section
namespace Go.Ql
theorem four_ok (text : List UInt8) (h : Digits text) (i : Nat) (hi : i ≤ text.length) (hL : text.length ≤ 1000000) :
    ∃ r : Int × Int, Go.Ql.iter (fun s : Int × Int ↦ W.R_zread.c100010 text (i : Int) (Prod.fst s) (Prod.snd s) Option.some) ((0 : Int), (i : Int) - 4) = some r ∧ r.1 = dec ((text.take i).drop (i - 4)) :=
  iter_loop
    (f := fun s : Int × Int ↦ W.R_zread.c100010 text (i : Int) (Prod.fst s) (Prod.snd s) Option.some)
    (J := fun s => (i : Int) - 4 ≤ s.2 ∧ s.2 ≤ i ∧ s.1 = dec ((text.take s.2.toNat).drop (i - 4)))
    (Q := fun r => r.1 = dec ((text.take i).drop (i - 4)))
    (fun s => ((i : Int) - s.2).toNat) (fun ⟨n, j⟩ ⟨h1, h2, h3⟩ => by
      simp only at h1 h2 h3 ⊢
      simp only [W.R_zread.c100010]
      by_cases h0 : j < i
      · have hw : IntKind.i64.wrap (j + 1) = j + 1 := wrap_i64 (by omega)
        by_cases h4 : 0 ≤ j
        · obtain ⟨k, rfl⟩ : ∃ k : Nat, j = k := ⟨j.toNat, by omega⟩
          rw [Int.toNat_natCast] at h3
          have hk : k < text.length := by omega
          have hd := dg_of (h _ (List.getElem_mem hk))
          have hb := dec_bound (l := (text.take k).drop (i - 4)) (fun c hc => h c (List.mem_of_mem_take (List.mem_of_mem_drop hc)))
          have h8 : (10 : Int) ^ ((text.take k).drop (i - 4)).length ≤ 10 ^ 4 := pow_le (by decide) (by rw [List.length_drop, List.length_take]; omega)
          have h9 : (10 : Int) ^ 4 = 10000 := by decide
          rw [← h3] at hb
          unfold dg at hd
          have e : W.R_zread.c249158 text n (k : Int) Option.some = some (n * 10 + ((text[k].toNat : Int) - 48)) := by
            unfold W.R_zread.c249158
            rw [br_pos (by omega), idx_text _ k hk, bnd_val, show IntKind.u8.wrap ((text[k].toNat : Int) - 48) = (text[k].toNat : Int) - 48 from IntWalk.u8_in _ (by omega), wrap_i64 (x := (text[k].toNat : Int) - 48) (by omega), wrap_i64 (x := n * 10) (by omega), wrap_i64 (by omega)]
          refine Or.inr ⟨(_, _), by rw [br_pos h0, e, bnd_val, hw], ⟨by simp only; omega, by simp only; omega, ?_⟩, by simp only; omega⟩
          simp only
          rw [show ((k : Int) + 1).toNat = k + 1 by omega, take_snoc hk, List.drop_append_of_le_length (by rw [List.length_take]; omega), dec_snoc, h3]; rfl
        · have e : W.R_zread.c249158 text n j Option.some = some n := by
            unfold W.R_zread.c249158
            rw [br_neg (by omega)]
          refine Or.inr ⟨(_, _), by rw [br_pos h0, e, bnd_val, hw], ⟨by simp only; omega, by simp only; omega, ?_⟩, by simp only; omega⟩
          simp only
          rw [h3, show j.toNat = 0 by omega, show (j + 1).toNat = 0 by omega]
      · refine Or.inl ⟨(_, _), by rw [br_neg h0], ?_⟩
        simp only
        rw [h3, show j.toNat = i by omega])
    (s := ((0 : Int), (i : Int) - 4)) ⟨by simp, by simp only; omega, by
      simp only
      rw [show ((i : Int) - 4).toNat = i - 4 by omega, List.drop_of_length_le (by rw [List.length_take]; omega)]; rfl⟩
end Go.Ql
end

section
namespace Go.Ql
theorem zdigits_ok (text : List UInt8) (h : Digits text) (hL : text.length ≤ 1000) :
    ∃ r : Int × List Int, Go.Ql.iter (fun s : Int × List Int ↦ W.R_zread.c100006 text (Prod.fst s) (Prod.snd s) Option.some) ((text.length : Int), []) = some r ∧ Dig 10000 r.2 ∧ r.2.length ≤ text.length ∧ val 10000 r.2 = dec text :=
  iter_loop
    (f := fun s : Int × List Int ↦ W.R_zread.c100006 text (Prod.fst s) (Prod.snd s) Option.some)
    (J := fun s => s.1 = (text.length : Int) - 4 * s.2.length ∧ -4 < s.1 ∧ Dig 10000 s.2 ∧ s.2.length ≤ text.length ∧ dec text = dec (text.take s.1.toNat) * 10000 ^ s.2.length + val 10000 s.2)
    (Q := fun r => Dig 10000 r.2 ∧ r.2.length ≤ text.length ∧ val 10000 r.2 = dec text)
    (fun s => s.1.toNat) (fun ⟨i', d⟩ ⟨h1, h2, h3, h4, h5⟩ => by
      simp only at h1 h2 h3 h4 h5 ⊢
      simp only [W.R_zread.c100006]
      by_cases h0 : i' > 0
      · obtain ⟨i, rfl⟩ : ∃ k : Nat, i' = k := ⟨i'.toNat, by omega⟩
        rw [Int.toNat_natCast] at h5
        have hi : i ≤ text.length := by omega
        obtain ⟨⟨n, j⟩, h6, h7⟩ := four_ok text h i hi (by omega)
        simp only at h7
        have hdg : Digits ((text.take i).drop (i - 4)) := fun c hc => h c (List.mem_of_mem_take (List.mem_of_mem_drop hc))
        have hb := dec_bound hdg
        have h8 : (10 : Int) ^ ((text.take i).drop (i - 4)).length ≤ 10 ^ 4 := pow_le (by decide) (by rw [List.length_drop, List.length_take]; omega)
        have h9 : (10 : Int) ^ 4 = 10000 := by decide
        rw [← h7] at hb
        have hdec : dec (text.take i) = dec (text.take (i - 4)) * 10000 + n := by
          have e1 : text.take i = (text.take i).take (i - 4) ++ (text.take i).drop (i - 4) := (List.take_append_drop _ _).symm
          rw [e1, dec_append, ← h7, List.take_take, Nat.min_eq_left (by omega)]
          by_cases h10 : 4 ≤ i
          · rw [show ((text.take i).drop (i - 4)).length = 4 by rw [List.length_drop, List.length_take]; omega]; rfl
          · rw [show i - 4 = 0 by omega]; simp [dec]
        rw [br_pos h0, wrap_i64 (x := (i : Int) - 4) (by omega), h6, bnd_val]
        refine Or.inr ⟨(_, _), by rw [okIf_true (by simp; omega), bnd_val], ⟨by simp; omega, by simp only; omega, h3.append (Dig.cons (by simp only; omega) Dig.nil), by simp; omega, ?_⟩, by simp only; omega⟩
        simp only [List.length_append, List.length_singleton, Int.pow_succ]
        rw [val_snoc, show ((i : Int) - 4).toNat = i - 4 by omega, h5, hdec]
        generalize (10000 : Int) ^ d.length = P at *
        grind
      · refine Or.inl ⟨(_, _), by rw [br_neg h0], h3, h4, ?_⟩
        rw [show i'.toNat = 0 by omega, show dec (text.take 0) = 0 from rfl] at h5
        simp only
        omega)
    (s := ((text.length : Int), [])) ⟨by simp, by simp only; omega, Dig.nil, by simp, by simp [val]⟩
end Go.Ql
end

section
namespace Go.Ql
theorem trim_ok (text : List UInt8) (hL : text.length ≤ 9223372036854775807) : W.strings_TrimPrefix text [45] = some (if text.head? = some 45 then text.drop 1 else text) := by
  unfold W.strings_TrimPrefix W.stringslite_TrimPrefix
  have h1 := hasPrefix1 text 45
  unfold W.strings_HasPrefix at h1
  have h2 : W.stringslite_HasPrefix text [45] = some (text.head? == some 45) := by
    revert h1
    cases W.stringslite_HasPrefix text [45] with
    | none => intro h; cases h
    | some y => intro h; exact h
  rw [h2, bnd_val]
  by_cases h : text.head? = some 45
  · rw [if_pos h, br_true (beq_iff_eq.2 h)]
    have h3 : 1 ≤ text.length := by cases text with | nil => simp at h | cons => simp
    rw [okIf_true (by simp; omega), bnd_val, bnd_val]
    simp
  · rw [if_neg h, br_false (beq_false_of_ne h), bnd_val]
theorem Canon.parts {text : List UInt8} (h : Canon text) : ∃ (neg : Bool) (ds : List UInt8), ds ≠ [] ∧ Digits ds ∧ text = (if neg then [45] else []) ++ ds := by
  rcases h with rfl | ⟨neg, ds, h1, h2, _, h4⟩
  · exact ⟨false, [48], by simp, fun c hc => by simp at hc; subst hc; rfl, rfl⟩
  · exact ⟨neg, ds, h1, h2, h4⟩
theorem head_digit {ds : List UInt8} (h : Digits ds) : ds.head? ≠ some 45 := by
  intro e
  cases ds with
  | nil => simp at e
  | cons c l =>
    simp at e
    have := h c (List.mem_cons_self ..)
    rw [e] at this
    exact absurd this (by decide)
/-- The test for a sign. -/
theorem sign_test (text : List UInt8) : W.R_zread.c1 text Option.some = some (text.head? == some 45) ∧ W.R_digitsOf.c1 text Option.some = some (text.head? == some 45) := by
  have key : W.R_zread.c1 text Option.some = some (text.head? == some 45) := by
    unfold W.R_zread.c1
    cases text with
    | nil => rfl
    | cons c l =>
      rw [br_pos (by simp <;> omega), show ((0 : Int)) = ((0 : Nat) : Int) from rfl, idx_text _ 0 (by simp), bnd_val]
      simp only [List.head?_cons, List.getElem_cons_zero]
      congr 1
      by_cases h5 : c = 45
      · subst h5; rfl
      · have h6 : (some c == some 45) = false := beq_false_of_ne (by simpa using h5)
        rw [h6]
        apply beq_false_of_ne
        intro e
        apply h5
        apply UInt8.toNat_inj.1
        show c.toNat = 45
        omega
  exact ⟨key, key⟩

theorem parse_ok (text : List UInt8) (hL : text.length ≤ 9223372036854775807) :
    ∃ x z v f, W.whole_Parse text = some (x, f) ∧ W.R_ZParse text = some (z, f) ∧ Rep 4294967296 x v ∧ Rep 10000 z v ∧ x.2.length ≤ 1000 ∧ z.2.length ≤ 1000 := by
  obtain ⟨n, ok, h1, h2, h3⟩ := word_ok text hL
  have e0 : Rep 4294967296 (false, []) 0 := ⟨Dig.nil, by simp, by simp, by simp [val]⟩
  have z0 : Rep 10000 (false, []) 0 := ⟨Dig.nil, by simp, by simp, by simp [val]⟩
  have c2 : W.whole_Parse.c2 text (n : Int) ok Option.some = some (!ok || decide (n < text.length)) ∧ W.R_ZParse.c2 text (n : Int) ok Option.some = some (!ok || decide (n < text.length)) := by
    unfold W.whole_Parse.c2 W.R_ZParse.c2
    cases ok <;> simp [br]
  unfold W.whole_Parse W.R_ZParse
  rw [h1, h2]
  simp only [bnd_val]
  rw [c2.1, c2.2]
  simp only [bnd_val]
  by_cases hbad : (!ok || decide (n < text.length)) = true
  · rw [br_true hbad, br_true hbad]
    exact ⟨_, _, 0, _, rfl, rfl, e0, z0, by simp, by simp⟩
  rw [br_false (eq_false_of_ne_true hbad), br_false (eq_false_of_ne_true hbad)]
  have hg : ok = true ∧ text.length ≤ n := by
    cases ok <;> simp at hbad ⊢
    exact hbad
  obtain ⟨neg, ds, p1, p2, p3⟩ := (h3 hg.1 hg.2).parts
  have hh : (text.head? == some 45) = neg := by
    rw [p3]
    cases neg
    · exact beq_false_of_ne (head_digit p2)
    · rfl
  have hlen : text.length = (if neg then 1 else 0) + ds.length := by rw [p3]; cases neg <;> simp <;> omega
  have htrim : W.strings_TrimPrefix text (Array.toList (ByteArray.data (ByteArray.mk #[(45 : UInt8)]))) = some ds := by
    show W.strings_TrimPrefix text [45] = some ds
    rw [trim_ok text hL]
    cases neg
    · rw [if_neg (by simpa using hh), p3]; rfl
    · rw [if_pos (by simpa using hh), p3]; rfl
  have hdo : W.R_digitsOf text = some (ds.length : Int) := by
    unfold W.R_digitsOf
    rw [(sign_test text).2, bnd_val, hh]
    cases neg
    · rw [br_ff, hlen]; simp
    · rw [br_tt, wrap_i64 (by omega), hlen]; simp; omega
  rw [htrim, hdo]
  simp only [bnd_val]
  by_cases hlong : (ds.length : Int) > 1000
  · rw [br_pos hlong, br_pos hlong]
    exact ⟨_, _, 0, _, rfl, rfl, e0, z0, by simp, by simp⟩
  rw [br_neg hlong, br_neg hlong]
  obtain ⟨m, q1, q2, q3, q4⟩ := digits_ok ds p2 (by omega)
  obtain ⟨r, s1, s2, s3⟩ := made_ok (decide ((ds.length : Int) < (text.length : Int))) m q2 (by omega)
  have hneg : decide ((ds.length : Int) < (text.length : Int)) = neg := by
    rw [hlen]; cases neg <;> simp <;> omega
  obtain ⟨w, t1, t2, t3, t4⟩ := zdigits_ok ds p2 (by omega)
  obtain ⟨z, u1, u2, u3⟩ := zmade_ok neg w.2 t2 (by omega)
  refine ⟨r, z, if neg then - dec ds else dec ds, (0, 0), by rw [q1, bnd_val, s1]; rfl, ?_, by rw [hneg, q4] at s2; exact s2, by rw [t4] at u2; exact u2, by omega, by omega⟩
  have hz : W.R_zread text = some z := by
    unfold W.R_zread
    rw [(sign_test text).1, bnd_val, hh]
    have : W.R_zread.c208197 text neg Option.some = some ds := by
      unfold W.R_zread.c208197
      cases neg
      · rw [br_ff, p3]; rfl
      · rw [br_tt, okIf_true (by rw [hlen]; simp; omega), bnd_val, Int.toNat_natCast, List.take_length, p3]; rfl
    rw [this, bnd_val, t1, bnd_val, u1]; rfl
  rw [hz]; rfl
end Go.Ql
end

section
namespace Go.Ql
theorem dg_inj {c d : UInt8} (h : dg c = dg d) : c = d := by
  apply UInt8.toNat_inj.1
  unfold dg at h; omega
theorem dec_cons (c : UInt8) (l : List UInt8) : dec (c :: l) = dg c * 10 ^ l.length + dec l := by
  have h3 := dec_append [c] l
  have h4 : dec [c] = dg c := by simp [dec]
  rw [List.singleton_append, h4] at h3
  exact h3
theorem dec_inj : ∀ {l m : List UInt8}, Digits l → Digits m → l.length = m.length → dec l = dec m → l = m
  | [], [], _, _, _, _ => rfl
  | c :: l, d :: m, hl, hm, e, h => by
    have hl' : Digits l := fun x hx => hl x (List.mem_cons_of_mem _ hx)
    have hm' : Digits m := fun x hx => hm x (List.mem_cons_of_mem _ hx)
    have e' : l.length = m.length := by simpa using e
    have b1 := dec_bound hl'
    have b2 := dec_bound hm'
    rw [dec_cons, dec_cons, e'] at h
    rw [e'] at b1
    have hP : (0 : Int) < 10 ^ m.length := Int.pow_pos (by decide)
    have hc : dg c = dg d := by
      rcases Int.lt_trichotomy (dg c) (dg d) with h1 | h1 | h1
      · have := Int.mul_le_mul_of_nonneg_right (show dg c + 1 ≤ dg d by omega) (Int.le_of_lt hP)
        rw [Int.add_mul] at this; omega
      · exact h1
      · have := Int.mul_le_mul_of_nonneg_right (show dg d + 1 ≤ dg c by omega) (Int.le_of_lt hP)
        rw [Int.add_mul] at this; omega
    rw [hc] at h
    rw [dg_inj hc, dec_inj hl' hm' e' (by omega)]
  | [], _ :: _, _, _, e, _ => by simp at e
  | _ :: _, [], _, _, e, _ => by simp at e
theorem dec_ge {l : List UInt8} (h : Digits l) (hn : l ≠ []) (h0 : l.head? ≠ some 48) : 10 ^ (l.length - 1) ≤ dec l := by
  cases l with
  | nil => exact absurd rfl hn
  | cons c l =>
    have hl' : Digits l := fun x hx => h x (List.mem_cons_of_mem _ hx)
    have b1 := dec_bound hl'
    have hd := dg_of (h c (List.mem_cons_self ..))
    have h1 : dg c ≠ 0 := fun e => h0 (by
      have : dg c = dg 48 := by rw [e]; rfl
      rw [dg_inj this]; rfl)
    rw [dec_cons]
    have hP : (0 : Int) < 10 ^ l.length := Int.pow_pos (by decide)
    have := Int.mul_le_mul_of_nonneg_right (show 1 ≤ dg c by omega) (Int.le_of_lt hP)
    simp only [List.length_cons, Nat.add_sub_cancel]
    omega
/-- Digits without a nought ahead: the number tells them. -/
theorem dec_one {l m : List UInt8} (hl : Digits l) (hm : Digits m) (nl : l ≠ []) (nm : m ≠ []) (l0 : l.head? ≠ some 48) (m0 : m.head? ≠ some 48) (h : dec l = dec m) : l = m := by
  have ll : l.length ≠ 0 := fun e => nl (List.eq_nil_of_length_eq_zero e)
  have lm : m.length ≠ 0 := fun e => nm (List.eq_nil_of_length_eq_zero e)
  have g1 := dec_ge hl nl l0
  have g2 := dec_ge hm nm m0
  have b1 := (dec_bound hl).2
  have b2 := (dec_bound hm).2
  refine dec_inj hl hm ?_ h
  rcases Nat.lt_trichotomy l.length m.length with e | e | e
  · have := pow_le (B := 10) (by decide) (show l.length ≤ m.length - 1 by omega); omega
  · exact e
  · have := pow_le (B := 10) (by decide) (show m.length ≤ l.length - 1 by omega); omega
end Go.Ql
end

section
namespace Go.Ql
theorem val_drop (B : Int) : ∀ (i : Nat) (l : List Int), i < l.length → val B (l.drop i) = l.getD i 0 + B * val B (l.drop (i + 1))
  | _, [], h => by simp at h
  | 0, d :: l, _ => by simp [val]
  | i + 1, d :: l, h => by
    have := val_drop B i l (by simpa using h)
    simpa using this
/-- Bytes out of numbers. -/
def bytes (l : List Int) : List UInt8 := l.map fun n ↦ UInt8.ofNat (Int.toNat n)
theorem byte_dg {d : Int} (h : 0 ≤ d ∧ d ≤ 9) : isDigit (UInt8.ofNat (Int.toNat (48 + d))) = true ∧ dg (UInt8.ofNat (Int.toNat (48 + d))) = d := by
  have h1 : (UInt8.ofNat (Int.toNat (48 + d))).toNat = Int.toNat (48 + d) := by
    rw [UInt8.toNat_ofNat']; omega
  unfold isDigit dg
  rw [h1]
  constructor
  · simp; omega
  · omega
/-- The decimal text of a number that is not negative, by its digits. -/
def IsDec (l : List UInt8) (v : Int) : Prop := Digits l ∧ l ≠ [] ∧ l.head? ≠ some 48 ∧ dec l = v
def four (d : Int) : List Int := [48 + d / 1000, 48 + d / 100 % 10, 48 + d / 10 % 10, 48 + d % 10]
theorem four_digits {d : Int} (h : 0 ≤ d ∧ d < 10000) : Digits (bytes (four d)) ∧ dec (bytes (four d)) = d := by
  have a := byte_dg (d := d / 1000) (by omega)
  have b := byte_dg (d := d / 100 % 10) (by omega)
  have c := byte_dg (d := d / 10 % 10) (by omega)
  have e := byte_dg (d := d % 10) (by omega)
  constructor
  · intro x hx
    simp only [bytes, four, List.map_cons, List.map_nil, List.mem_cons, List.not_mem_nil, or_false] at hx
    rcases hx with rfl | rfl | rfl | rfl
    · exact a.1
    · exact b.1
    · exact c.1
    · exact e.1
  · simp only [bytes, four, List.map_cons, List.map_nil, dec, List.foldl_cons, List.foldl_nil, a.2, b.2, c.2, e.2]
    omega
theorem c9_ok {a1 : List Int} (h : Dig 10000 a1) (i : Nat) (hi : i < a1.length) : W.R_ZText.c9 (i : Int) a1 Option.some = some (four (a1.getD i 0)) := by
  have hd := h.getD (by decide) i
  unfold W.R_ZText.c9
  rw [idx_of i rfl hi]
  simp only [bnd_val]
  generalize a1.getD i 0 = d at *
  rw [tdiv_pos hd.1, tdiv_pos hd.1, tdiv_pos hd.1, wrap_i64 (x := d / 1000) (by omega), wrap_i64 (x := d / 100) (by omega), wrap_i64 (x := d / 10) (by omega), tmod_pos (by omega), tmod_pos (by omega), tmod_pos (by omega)]
  rw [wrap_i64 (x := 48 + d / 1000) (by omega), wrap_i64 (x := 48 + d / 100 % 10) (by omega), wrap_i64 (x := 48 + d / 10 % 10) (by omega), wrap_i64 (x := 48 + d % 10) (by omega)]
  rw [IntWalk.u8_in (48 + d / 1000) (by omega), IntWalk.u8_in (48 + d / 100 % 10) (by omega), IntWalk.u8_in (48 + d / 10 % 10) (by omega), IntWalk.u8_in (48 + d % 10) (by omega)]
  rfl
end Go.Ql
end

section
namespace Go.Ql
/-- Noughts ahead of the highest four are left out. -/
theorem strip_ok (a1 : List Int) (i : Nat) (hi : i < a1.length) (hL : a1.length < 1000000) (F : List Int) (hF : F.length = 4) :
    ∃ k : Nat, iter (fun s ↦ W.R_ZText.c100011 (i : Int) F s a1 Option.some) (0 : Int) = some (k : Int) ∧ k ≤ 3 ∧ (i + 1 ≠ a1.length → k = 0) ∧ (∀ j, j < k → F.getD j 0 = 48) ∧ (i + 1 = a1.length → k < 3 → F.getD k 0 ≠ 48) := by
  obtain ⟨r, h1, k, h2, h3⟩ := iter_loop (f := fun s : Int ↦ W.R_ZText.c100011 (i : Int) F s a1 Option.some)
    (J := fun s => ∃ k : Nat, s = k ∧ k ≤ 3 ∧ (i + 1 ≠ a1.length → k = 0) ∧ (∀ j, j < k → F.getD j 0 = 48))
    (Q := fun s => ∃ k : Nat, s = k ∧ k ≤ 3 ∧ (i + 1 ≠ a1.length → k = 0) ∧ (∀ j, j < k → F.getD j 0 = 48) ∧ (i + 1 = a1.length → k < 3 → F.getD k 0 ≠ 48))
    (fun s => 3 - s.toNat) (fun s ⟨k, hs, hk, hk0, hz⟩ => by
      subst hs
      simp only [W.R_ZText.c100011]
      have e : W.R_ZText.c11 (i : Int) F (k : Int) a1 Option.some = some (decide (i + 1 = a1.length ∧ k < 3 ∧ F.getD k 0 = 48)) := by
        unfold W.R_ZText.c11
        rw [wrap_i64 (by omega)]
        by_cases h : i + 1 = a1.length
        · rw [br_true (beq_iff_eq.2 (by omega))]
          by_cases h4 : k < 3
          · rw [br_pos (by omega), idx_of k rfl (by omega), bnd_val]
            congr 1
            by_cases h5 : F.getD k 0 = 48
            · rw [h5]; simp [h, h4]
            · rw [beq_false_of_ne h5, decide_eq_false (fun h6 => h5 h6.2.2)]
          · rw [br_neg (by omega), decide_eq_false (by omega)]
        · rw [br_false (beq_false_of_ne (by omega)), decide_eq_false (by omega)]
      rw [e, bnd_val]
      by_cases h : i + 1 = a1.length ∧ k < 3 ∧ F.getD k 0 = 48
      · rw [br_pos h]
        refine Or.inr ⟨((k + 1 : Nat) : Int), by rw [wrap_i64 (by omega)]; rfl, ⟨k + 1, rfl, by omega, fun h' => absurd h.1 h', fun j hj => ?_⟩, by omega⟩
        by_cases h8 : j = k
        · subst h8; exact h.2.2
        · exact hz j (by omega)
      · rw [br_neg h]
        exact Or.inl ⟨_, rfl, k, rfl, hk, hk0, hz, fun h1 h2 h3 => h ⟨h1, h2, h3⟩⟩)
    (s := (0 : Int)) ⟨0, rfl, by omega, fun _ => rfl, fun j hj => by omega⟩
  exact ⟨k, by rw [h1, h2], h3⟩
end Go.Ql
end

section
namespace Go.Ql
theorem bytes_drop (l : List Int) (k : Nat) : bytes (l.drop k) = (bytes l).drop k := by simp [bytes]
theorem bytes_len (l : List Int) : (bytes l).length = l.length := by simp [bytes]
/-- Behind noughts the same number. -/
theorem dec_skip : ∀ (k : Nat) (l : List UInt8), (∀ j (h : j < l.length), j < k → l[j] = 48) → dec (l.drop k) = dec l
  | 0, _, _ => rfl
  | k + 1, [], _ => by simp
  | k + 1, c :: l, h => by
    have h0 : c = 48 := h 0 (by simp) (by omega)
    rw [List.drop_succ_cons, dec_skip k l (fun j hj hk => h (j + 1) (by simpa using hj) (by omega)), dec_cons, h0]
    simp [dg]
theorem IsDec.snoc {l : List UInt8} {v d : Int} (h : IsDec l v) (hd : 0 ≤ d ∧ d < 10000) : IsDec (l ++ bytes (four d)) (d + 10000 * v) := by
  obtain ⟨h1, h2, h3, h4⟩ := h
  have hf := four_digits hd
  refine ⟨fun c hc => ?_, by simp [h2], ?_, ?_⟩
  · rcases List.mem_append.1 hc with hc | hc
    · exact h1 c hc
    · exact hf.1 c hc
  · cases l with
    | nil => exact absurd rfl h2
    | cons c l => exact h3
  · rw [dec_append, hf.2, h4, bytes_len]
    show v * 10 ^ 4 + d = _
    omega
theorem getD_byte (F : List Int) (j : Nat) (h : j < (bytes F).length) : (bytes F)[j] = UInt8.ofNat (F.getD j 0).toNat := by
  have h' : j < F.length := by rwa [bytes_len] at h
  simp [bytes, List.getD, h']
theorem IsDec.first {d : Int} (hd : 0 ≤ d ∧ d < 10000) (h0 : d ≠ 0) {k : Nat} (hk : k ≤ 3) (hz : ∀ j, j < k → (four d).getD j 0 = 48) (hn : k < 3 → (four d).getD k 0 ≠ 48) : IsDec ((bytes (four d)).drop k) d := by
  have hf := four_digits hd
  have hl : (bytes (four d)).length = 4 := by rw [bytes_len]; rfl
  have hdec : dec ((bytes (four d)).drop k) = d := by
    rw [dec_skip k _ (fun j hj hjk => by rw [getD_byte, hz j hjk]; rfl), hf.2]
  have hne : (bytes (four d)).drop k ≠ [] := by
    intro e
    have := congrArg List.length e
    rw [List.length_drop, hl] at this
    simp at this; omega
  refine ⟨fun c hc => hf.1 c (List.mem_of_mem_drop hc), hne, fun e => ?_, hdec⟩
  by_cases h3 : k < 3
  · rw [List.head?_drop, List.getElem?_eq_getElem (by omega), getD_byte] at e
    have h5 := Option.some.inj e
    have hg : 48 ≤ (four d).getD k 0 ∧ (four d).getD k 0 ≤ 57 := by
      rcases (by omega : k = 0 ∨ k = 1 ∨ k = 2) with rfl | rfl | rfl <;> simp [four] <;> omega
    apply hn h3
    have h6 := congrArg UInt8.toNat h5
    rw [UInt8.toNat_ofNat'] at h6
    have h7 : (48 : UInt8).toNat = 48 := rfl
    rw [h7] at h6
    omega
  · have : ∃ c, (bytes (four d)).drop k = [c] := by
      have hx : ((bytes (four d)).drop k).length = 1 := by rw [List.length_drop, hl]; omega
      exact List.length_eq_one_iff.1 hx
    obtain ⟨c, hc⟩ := this
    rw [hc] at e hdec
    simp at e
    rw [e] at hdec
    apply h0
    rw [← hdec]; rfl
/-- The decimal text of a number. -/
def Txt (v : Int) (l : List UInt8) : Prop := (v = 0 ∧ l = [48]) ∨ (v ≠ 0 ∧ ∃ D, IsDec D (v.natAbs : Int) ∧ l = (if v < 0 then [45] else []) ++ D)
theorem Txt.one {v : Int} {l m : List UInt8} (h : Txt v l) (k : Txt v m) : l = m := by
  rcases h with ⟨h1, h2⟩ | ⟨h1, D, h2, h3⟩ <;> rcases k with ⟨k1, k2⟩ | ⟨k1, E, k2, k3⟩
  · rw [h2, k2]
  · exact absurd h1 k1
  · exact absurd k1 h1
  · rw [h3, k3, dec_one h2.1 k2.1 h2.2.1 k2.2.1 h2.2.2.1 k2.2.2.1 (h2.2.2.2.trans k2.2.2.2.symm)]
end Go.Ql
end

section
namespace Go.Ql
theorem ztext_loop (sg : List UInt8) (a1 : List Int) (hd : Dig 10000 a1) (ht : Trim a1) (hn : a1 ≠ []) (hL : a1.length < 1000000) (hs : sg.length ≤ 1) :
    ∃ r : List UInt8 × Int, iter (fun s : List UInt8 × Int ↦ W.R_ZText.c100007 (Prod.fst s) (Prod.snd s) a1 Option.some) (sg, (a1.length : Int) - 1) = some r ∧ ∃ l, r.1 = sg ++ l ∧ IsDec l (val 10000 a1) := by
  have hlen : a1.length ≠ 0 := fun e => hn (List.eq_nil_of_length_eq_zero e)
  exact iter_loop (f := fun s : List UInt8 × Int ↦ W.R_ZText.c100007 (Prod.fst s) (Prod.snd s) a1 Option.some)
    (J := fun s => ∃ k : Nat, s.2 = (k : Int) - 1 ∧ k ≤ a1.length ∧ ∃ l, s.1 = sg ++ l ∧ l.length ≤ 4 * (a1.length - k) ∧ ((k = a1.length ∧ l = []) ∨ (k < a1.length ∧ IsDec l (val 10000 (a1.drop k)))))
    (Q := fun r => ∃ l, r.1 = sg ++ l ∧ IsDec l (val 10000 a1))
    (fun s => (s.2 + 1).toNat) (fun ⟨text, i'⟩ ⟨k, hi, hk, l, hl, hll, hc⟩ => by
      simp only at hi hl ⊢
      subst hi
      simp only [W.R_ZText.c100007]
      by_cases h0 : k = 0
      · subst h0
        rw [br_neg (by omega)]
        rcases hc with ⟨h1, _⟩ | ⟨h1, h2⟩
        · omega
        · exact Or.inl ⟨(_, _), rfl, l, hl, h2⟩
      · obtain ⟨i, rfl⟩ : ∃ i : Nat, k = i + 1 := ⟨k - 1, by omega⟩
        have hi : i < a1.length := by omega
        have hdi := hd.getD (by decide) i
        obtain ⟨t, h1, h2, h3, h4, h5⟩ := strip_ok a1 i hi hL (four (a1.getD i 0)) rfl
        rw [br_pos (by omega), show ((i + 1 : Nat) : Int) - 1 = (i : Int) by omega, c9_ok hd i hi, bnd_val, h1, bnd_val]
        have e4 : (four (a1.getD i 0)).length = 4 := rfl
        rw [okIf_true (by rw [e4]; simp; omega), bnd_val, Int.toNat_natCast, Int.toNat_natCast, List.take_length]
        have hpl : (List.map (fun n ↦ UInt8.ofNat (Int.toNat n)) (List.drop t (four (a1.getD i 0)))).length ≤ 4 := by
          rw [List.length_map, List.length_drop, e4]; omega
        have htl : text.length ≤ 1 + 4 * a1.length := by rw [hl, List.length_append]; omega
        rw [okIf_true (by simp only [decide_eq_true_eq]; omega), bnd_val, wrap_i64 (by omega)]
        refine Or.inr ⟨(_, _), rfl, ⟨i, rfl, by omega, l ++ (bytes (four (a1.getD i 0))).drop t, ?_, ?_, Or.inr ⟨hi, ?_⟩⟩, by simp only; omega⟩
        · simp only
          rw [hl, ← bytes_drop, List.append_assoc]; rfl
        · rw [List.length_append, List.length_drop, bytes_len, e4]; omega
        · rw [val_drop 10000 i a1 hi]
          rcases hc with ⟨h6, h7⟩ | ⟨h6, h7⟩
          · have hd0 : a1.getD i 0 ≠ 0 := by
              have := ht hn
              rwa [show a1.length - 1 = i by omega] at this
            have h8 : a1.drop (i + 1) = [] := List.drop_of_length_le (by omega)
            rw [h8, h7, List.nil_append]
            have := IsDec.first hdi hd0 h2 h4 (h5 h6)
            simpa [val] using this
          · have h9 := h3 (by omega)
            subst h9
            rw [List.drop_zero]
            exact h7.snoc hdi)
    (s := (sg, (a1.length : Int) - 1)) ⟨a1.length, rfl, Nat.le_refl _, [], by simp, by simp, Or.inl ⟨rfl, rfl⟩⟩

theorem ztext_ok {a : Bool × List Int} {v : Int} (ha : Rep 10000 a v) (la : a.2.length < 1000000) : ∃ l, W.R_ZText a = some l ∧ Txt v l := by
  unfold W.R_ZText
  by_cases h0 : a.2 = []
  · rw [h0]
    refine ⟨[48], rfl, Or.inl ⟨?_, rfl⟩⟩
    rw [ha.val, h0]; simp [val]
  · have hn : a.2.length ≠ 0 := fun e => h0 (List.eq_nil_of_length_eq_zero e)
    rw [br_false (beq_false_of_ne (by omega))]
    have e1 : W.R_ZText.c216389 (Array.toList (ByteArray.data (ByteArray.mk #[]))) a.1 Option.some = some (if a.1 then [45] else []) := by
      unfold W.R_ZText.c216389
      cases a.1 <;> rfl
    obtain ⟨r, h1, l, h2, h3⟩ := ztext_loop (if a.1 then [45] else []) a.2 ha.dig ha.last h0 la (by split <;> simp)
    rw [e1, bnd_val, wrap_i64 (by omega), h1, bnd_val]
    have hp := ha.pos (by decide) h0
    have hv := ha.val
    refine ⟨_, rfl, Or.inr ⟨?_, l, ?_, ?_⟩⟩
    · cases hx : a.1 <;> simp only [hx, Bool.false_eq_true, if_false, if_true] at hv <;> omega
    · have : (v.natAbs : Int) = val 10000 a.2 := by
        cases hx : a.1 <;> simp only [hx, Bool.false_eq_true, if_false, if_true] at hv <;> omega
      rw [this]; exact h3
    · rw [h2]
      congr 1
      cases hx : a.1 <;> simp only [hx, Bool.false_eq_true, if_false, if_true] at hv ⊢
      · rw [if_neg (by omega)]
      · rw [if_pos (by omega)]
end Go.Ql
end

section
namespace Go.Ql
theorem or_add {p w : Int} (hp : 0 ≤ p ∧ p < 4294967296) (hw : 0 ≤ w ∧ w < 4294967296) : ibits Go.BinOp.or Go.IntKind.u64 (IntKind.u64.wrap (p * (2 : Int) ^ (32 : Nat))) (IntKind.u64.wrap w) = p * 4294967296 + w := by
  rw [show (2 : Int) ^ 32 = 4294967296 from rfl, wrap_u64 (x := w) (by omega), wrap_u64 (x := p * 4294967296) (by omega)]
  obtain ⟨a, rfl⟩ : ∃ a : Nat, p = a := ⟨p.toNat, by omega⟩
  obtain ⟨b, rfl⟩ : ∃ b : Nat, w = b := ⟨w.toNat, by omega⟩
  have h : (BitVec.ofInt IntKind.u64.bits ((a : Int) * 4294967296) ||| BitVec.ofInt IntKind.u64.bits (b : Int)).toNat = a * 4294967296 + b := by
    rw [BitVec.toNat_or, BitVec.toNat_ofInt, BitVec.toNat_ofInt]
    have e1 : ((a : Int) * 4294967296 % ((2 ^ IntKind.u64.bits : Nat) : Int)).toNat = 2 ^ 32 * a := by
      show ((a : Int) * 4294967296 % 18446744073709551616).toNat = 4294967296 * a
      omega
    have e2 : ((b : Int) % ((2 ^ IntKind.u64.bits : Nat) : Int)).toNat = b := by
      show ((b : Int) % 18446744073709551616).toNat = b
      omega
    rw [e1, e2, ← Nat.two_pow_add_eq_or_of_lt (by omega)]
    omega
  show IntKind.u64.wrap ((BitVec.ofInt IntKind.u64.bits ((a : Int) * 4294967296) ||| BitVec.ofInt IntKind.u64.bits (b : Int)).toNat : Int) = _
  rw [h, wrap_u64 (by omega)]
  omega
/-- Division by ten to the ninth, from the top. -/
theorem tdiv_loop (a : List Int) (ha : Dig 4294967296 a) (la : a.length < 1000000000) :
    ∃ r : Int × Int × List Int, iter (fun s : Int × Int × List Int ↦ W.whole_Int_Text.c100008 (Prod.fst s) (Prod.fst (Prod.snd s)) (Prod.snd (Prod.snd s)) Option.some) ((0 : Int), IntKind.i64.wrap ((a.length : Int) - 1), a) = some r ∧
      0 ≤ r.1 ∧ r.1 < 1000000000 ∧ Dig 4294967296 r.2.2 ∧ r.2.2.length = a.length ∧ val 4294967296 a = 1000000000 * val 4294967296 r.2.2 + r.1 :=
  iter_loop (f := fun s : Int × Int × List Int ↦ W.whole_Int_Text.c100008 (Prod.fst s) (Prod.fst (Prod.snd s)) (Prod.snd (Prod.snd s)) Option.some)
    (J := fun s => ∃ k : Nat, s.2.1 = (k : Int) - 1 ∧ k ≤ a.length ∧ s.2.2.length = a.length ∧ Dig 4294967296 s.2.2 ∧ 0 ≤ s.1 ∧ s.1 < 1000000000 ∧
      val 4294967296 a = 1000000000 * (val 4294967296 s.2.2 - val 4294967296 (s.2.2.take k)) + 4294967296 ^ k * s.1 + val 4294967296 (s.2.2.take k))
    (Q := fun r => 0 ≤ r.1 ∧ r.1 < 1000000000 ∧ Dig 4294967296 r.2.2 ∧ r.2.2.length = a.length ∧ val 4294967296 a = 1000000000 * val 4294967296 r.2.2 + r.1)
    (fun s => (s.2.1 + 1).toNat) (fun ⟨p, i', t⟩ ⟨k, hi, hk, hl, hd, hp0, hp1, hv⟩ => by
      simp only at hi hl hd hp0 hp1 hv ⊢
      subst hi
      simp only [W.whole_Int_Text.c100008]
      by_cases h0 : k = 0
      · subst h0
        rw [br_neg (by omega)]
        refine Or.inl ⟨(_, _, _), rfl, hp0, hp1, hd, hl, ?_⟩
        simp [val] at hv
        simp only
        omega
      · obtain ⟨i, rfl⟩ : ∃ i : Nat, k = i + 1 := ⟨k - 1, by omega⟩
        have hi : i < t.length := by omega
        have hdi := hd.getD (by decide) i
        rw [br_pos (by omega), show ((i + 1 : Nat) : Int) - 1 = (i : Int) by omega, inR_of (by omega) (by omega), idx_of i rfl hi]
        simp only [bnd_val]
        rw [or_add ⟨hp0, by omega⟩ hdi]
        have hset := val_set 4294967296 ((p * 4294967296 + t.getD i 0) / 1000000000) i t hi
        have htk := val_take_succ 4294967296 i t
        have htk2 : (t.set i ((p * 4294967296 + t.getD i 0) / 1000000000)).take i = t.take i := by
          rw [List.take_set_of_le (Nat.le_refl _)]
        generalize hx : t.getD i 0 = x at *
        rw [tdiv_pos (by omega), tmod_pos (by omega), wrap_u64 (x := (p * 4294967296 + x) / 1000000000) (by omega), wrap_u32 (by omega), wrap_i64 (by omega), Int.toNat_natCast]
        refine Or.inr ⟨(_, _, _), rfl, ⟨i, rfl, by omega, by simp only [List.length_set]; exact hl, hd.set (by omega) i, by simp only; omega, by simp only; omega, ?_⟩, by simp only; omega⟩
        simp only
        rw [htk2, hset]
        have hq : p * 4294967296 + x = 1000000000 * ((p * 4294967296 + x) / 1000000000) + (p * 4294967296 + x) % 1000000000 := by omega
        rw [Int.pow_succ] at hv
        generalize (p * 4294967296 + x) / 1000000000 = q at *
        generalize (p * 4294967296 + x) % 1000000000 = m at *
        generalize (4294967296 : Int) ^ i = P at *
        grind)
    (s := ((0 : Int), IntKind.i64.wrap ((a.length : Int) - 1), a)) ⟨a.length, by rw [wrap_i64 (by omega)], Nat.le_refl _, rfl, ha, Int.le_refl _, by simp only; omega, by rw [List.take_length]; simp⟩
theorem trim_of_val {B : Int} (hB : 0 < B) {l : List Int} (h : Dig B l) (hv : B ^ (l.length - 1) ≤ val B l) : Trim l := by
  intro hn h0
  have h0' : l.length ≠ 0 := fun e => hn (List.eq_nil_of_length_eq_zero e)
  have h1 := val_take_succ B (l.length - 1) l
  rw [show l.length - 1 + 1 = l.length by omega, List.take_length, h0] at h1
  have h2 := val_lt hB (h.take (l.length - 1))
  rw [show (l.take (l.length - 1)).length = l.length - 1 by rw [List.length_take]; omega] at h2
  simp at h1
  omega
/-- One round's quotient, its top nought dropped. -/
theorem tdrop_ok (a t : List Int) (p : Int) (ha : Dig 4294967296 a) (ta : Trim a) (hn : a ≠ []) (la : a.length < 1000000000) (hd : Dig 4294967296 t) (hl : t.length = a.length) (hp : 0 ≤ p ∧ p < 1000000000)
    (hv : val 4294967296 a = 1000000000 * val 4294967296 t + p) :
    ∃ r, W.whole_Int_Text.c253253 t Option.some = some r ∧ Dig 4294967296 r ∧ Trim r ∧ val 4294967296 r = val 4294967296 t ∧ r.length ≤ t.length := by
  have h0 : a.length ≠ 0 := fun e => hn (List.eq_nil_of_length_eq_zero e)
  have hg := val_ge (by decide) ha ta hn
  unfold W.whole_Int_Text.c253253
  rw [wrap_i64 (by omega), inR_of (by omega) (by omega), idx_of (t.length - 1) (by omega) (by omega)]
  simp only [bnd_val]
  by_cases hz : t.getD (t.length - 1) 0 = 0
  · rw [hz, br_true (b := ((0 : Int) == 0)) rfl, okIf_true (by simp; omega), bnd_val, show (((t.length : Int) - 1).toNat) = t.length - 1 by omega]
    have h1 := val_take_succ 4294967296 (t.length - 1) t
    rw [show t.length - 1 + 1 = t.length by omega, List.take_length, hz] at h1
    refine ⟨_, rfl, hd.take _, ?_, by omega, by rw [List.length_take]; omega⟩
    by_cases h2 : t.length = 1
    · rw [h2]; intro e; exact absurd rfl e
    · refine trim_of_val (by decide) (hd.take _) ?_
      have e1 : (t.take (t.length - 1)).length = t.length - 2 + 1 := by rw [List.length_take]; omega
      rw [e1, Nat.add_sub_cancel]
      have e2 : a.length - 1 = t.length - 2 + 1 := by omega
      rw [e2, Int.pow_succ] at hg
      have : (0 : Int) < 4294967296 ^ (t.length - 2) := Int.pow_pos (by decide)
      generalize (4294967296 : Int) ^ (t.length - 2) = P at *
      omega
  · rw [br_false (beq_false_of_ne hz)]
    exact ⟨_, rfl, hd, fun _ => hz, rfl, Nat.le_refl _⟩
end Go.Ql
end

section
namespace Go.Ql
def chr (ds : List Int) : List Int := ds.map fun d => 48 + d
theorem chr_append (a b : List Int) : chr (a ++ b) = chr a ++ chr b := by simp [chr]
theorem chr_len (a : List Int) : (chr a).length = a.length := by simp [chr]
/-- Up to nine digits of a part, the lowest first. -/
theorem tpart_loop (t : List Int) (P : Int) (hP : 0 ≤ P ∧ P < 1000000000) (ds : List Int) (hds : Dig 10 ds) (ld : ds.length < 100000000000) :
    ∃ r : Int × Int × List Int, iter (fun s : Int × Int × List Int ↦ W.whole_Int_Text.c100016 (Prod.fst s) (Prod.fst (Prod.snd s)) (Prod.snd (Prod.snd s)) t Option.some) (P, (0 : Int), chr ds) = some r ∧
      ∃ es, r.2.2 = chr es ∧ Dig 10 es ∧ es.length ≤ ds.length + 9 ∧ (t ≠ [] → es.length = ds.length + 9) ∧ val 10 es = val 10 ds + 10 ^ ds.length * P ∧ (t = [] → P ≠ 0 → Trim es) :=
  iter_loop (f := fun s : Int × Int × List Int ↦ W.whole_Int_Text.c100016 (Prod.fst s) (Prod.fst (Prod.snd s)) (Prod.snd (Prod.snd s)) t Option.some)
    (J := fun s => ∃ k : Nat, s.2.1 = (k : Int) ∧ k ≤ 9 ∧ 0 ≤ s.1 ∧ s.1 < 10 ^ (9 - k) ∧ ∃ es, s.2.2 = chr es ∧ Dig 10 es ∧ es.length = ds.length + k ∧ val 10 es + 10 ^ es.length * s.1 = val 10 ds + 10 ^ ds.length * P ∧ (P ≠ 0 → t = [] → s.1 = 0 → Trim es))
    (Q := fun r => ∃ es, r.2.2 = chr es ∧ Dig 10 es ∧ es.length ≤ ds.length + 9 ∧ (t ≠ [] → es.length = ds.length + 9) ∧ val 10 es = val 10 ds + 10 ^ ds.length * P ∧ (t = [] → P ≠ 0 → Trim es))
    (fun s => 9 - s.2.1.toNat) (fun ⟨p, k', out⟩ ⟨k, hk', hk, hp0, hp1, es, ho, hd, hl, hv, ht⟩ => by
      simp only at hk' hp0 hp1 ho hv ht ⊢
      subst hk'
      simp only [W.whole_Int_Text.c100016]
      have e : W.whole_Int_Text.c16 p (k : Int) t Option.some = some (decide (k < 9 ∧ (0 < p ∨ t ≠ []))) := by
        unfold W.whole_Int_Text.c16
        by_cases h : k < 9
        · rw [br_pos (by omega)]
          by_cases h2 : 0 < p
          · rw [br_pos (by omega), decide_eq_true ⟨h, Or.inl h2⟩]
          · rw [br_neg (by omega)]
            congr 1
            cases t with
            | nil => simp [h2]
            | cons x t => simp [h]
        · rw [br_neg (by omega), decide_eq_false (by omega)]
      rw [e, bnd_val]
      by_cases h : k < 9 ∧ (0 < p ∨ t ≠ [])
      · rw [br_pos h]
        have h9 : (10 : Int) ^ (9 - k) ≤ 10 ^ 9 := pow_le (by decide) (by omega)
        have hp2 : p < 1000000000 := Int.lt_of_lt_of_le hp1 h9
        have hdd : Dig 10 (es ++ [p % 10]) := hd.append (Dig.cons (by omega) Dig.nil)
        have hso : chr (es ++ [p % 10]) = chr es ++ [48 + p % 10] := by rw [chr_append]; rfl
        rw [tdiv_pos hp0, tmod_pos hp0, wrap_u64 (x := 48 + p % 10) (by omega), IntWalk.u8_in (48 + p % 10) (by omega), wrap_u64 (x := p / 10) (by omega), wrap_i64 (by omega)]
        rw [okIf_true (by rw [ho]; simp [chr_len]; omega), bnd_val]
        refine Or.inr ⟨(_, _, _), rfl, ⟨k + 1, by simp, by omega, by simp only; omega, ?_, es ++ [p % 10], by simp only; rw [hso, ho], hdd, by rw [List.length_append, List.length_singleton]; omega, ?_, ?_⟩, by simp only; omega⟩
        · simp only
          rw [show 9 - k = 9 - (k + 1) + 1 by omega, Int.pow_succ] at hp1
          generalize (10 : Int) ^ (9 - (k + 1)) = A at *
          omega
        · simp only
          rw [val_snoc, List.length_append, List.length_singleton, Int.pow_succ, ← hv]
          have hq : p = 10 * (p / 10) + p % 10 := by omega
          generalize p / 10 = q at *
          generalize p % 10 = m at *
          generalize (10 : Int) ^ es.length = A at *
          subst hq
          grind
        · simp only
          intro h1 h2 h3 _ h4
          rw [List.length_append, List.length_singleton, Nat.add_sub_cancel] at h4
          simp [List.getD] at h4
          rcases h.2 with h5 | h5
          · omega
          · exact h5 h2
      · rw [br_neg h]
        have hpz : t = [] → p = 0 := fun e => by
          by_cases h9 : k < 9
          · by_cases h2 : 0 < p
            · exact absurd ⟨h9, Or.inl h2⟩ h
            · omega
          · rw [show 9 - k = 0 by omega] at hp1; simp at hp1; omega
        have hp9 : p = 0 := by
          by_cases h9 : k < 9
          · by_cases h2 : 0 < p
            · exact absurd ⟨h9, Or.inl h2⟩ h
            · omega
          · rw [show 9 - k = 0 by omega] at hp1; simp at hp1; omega
        refine Or.inl ⟨(_, _, _), rfl, es, ho, hd, by omega, fun htn => ?_, by rw [hp9] at hv; simpa using hv, fun ht1 hP0 => ht hP0 ht1 hp9⟩
        by_cases h9 : k < 9
        · exact absurd ⟨h9, Or.inr htn⟩ h
        · omega)
    (s := (P, (0 : Int), chr ds)) ⟨0, rfl, by omega, hP.1, hP.2, ds, rfl, hds, rfl, rfl, fun h1 _ h2 => absurd h2 h1⟩

/-- All rounds. -/
theorem tall_loop (a : List Int) (ha : Dig 4294967296 a) (ta : Trim a) (hn : a ≠ []) (la : a.length < 1000000) :
    ∃ r : List Int × List Int, iter (fun s : List Int × List Int ↦ W.whole_Int_Text.c100005 (Prod.fst s) (Prod.snd s) Option.some) ([], a) = some r ∧
      ∃ es, r.1 = chr es ∧ Dig 10 es ∧ es.length < 100000000 ∧ val 10 es = val 4294967296 a ∧ Trim es :=
  iter_loop (f := fun s : List Int × List Int ↦ W.whole_Int_Text.c100005 (Prod.fst s) (Prod.snd s) Option.some)
    (J := fun s => ∃ ds, s.1 = chr ds ∧ Dig 10 ds ∧ ds.length < 100000000 ∧ Dig 4294967296 s.2 ∧ Trim s.2 ∧ s.2.length ≤ a.length ∧ val 10 ds + 10 ^ ds.length * val 4294967296 s.2 = val 4294967296 a ∧ (s.2 = [] → Trim ds))
    (Q := fun r => ∃ es, r.1 = chr es ∧ Dig 10 es ∧ es.length < 100000000 ∧ val 10 es = val 4294967296 a ∧ Trim es)
    (fun s => (val 4294967296 s.2).toNat) (fun ⟨out, t⟩ ⟨ds, ho, hd, hdl, htd, htt, htl, hv, hte⟩ => by
      simp only at ho htd htt htl hv hte ⊢
      subst ho
      simp only [W.whole_Int_Text.c100005]
      by_cases h0 : t = []
      · subst h0
        rw [br_neg (by simp)]
        exact Or.inl ⟨(_, _), rfl, ds, rfl, hd, hdl, by simpa [val] using hv, hte rfl⟩
      · have h0' : t.length ≠ 0 := fun e => h0 (List.eq_nil_of_length_eq_zero e)
        have hpos : 1 ≤ val 4294967296 t := by
          have := val_ge (by decide) htd htt h0
          have h3 : (0 : Int) < 4294967296 ^ (t.length - 1) := Int.pow_pos (by decide)
          omega
        rw [br_pos (by omega)]
        obtain ⟨⟨p, i, t1⟩, h1, hp0, hp1, hd1, hl1, hv1⟩ := tdiv_loop t htd (by omega)
        simp only at hp0 hp1 hd1 hl1 hv1
        obtain ⟨r, h2, hrd, hrt, hrv, hrl⟩ := tdrop_ok t t1 p htd htt h0 (by omega) hd1 hl1 ⟨hp0, hp1⟩ hv1
        have hlen : ds.length < 10 * a.length := by
          have e1 := val_nonneg (by decide) hd
          have e2 : (10 : Int) ^ ds.length * 1 ≤ 10 ^ ds.length * val 4294967296 t := Int.mul_le_mul_of_nonneg_left (by omega) (Int.le_of_lt (Int.pow_pos (by decide)))
          have e3 := val_lt (by decide) ha
          have e4 : (4294967296 : Int) ^ a.length ≤ (10 ^ 10) ^ a.length := by
            have : ∀ n : Nat, (4294967296 : Int) ^ n ≤ (10 ^ 10) ^ n := fun n => by
              induction n with
              | zero => simp
              | succ n ih =>
                rw [Int.pow_succ, Int.pow_succ]
                exact Int.mul_le_mul ih (by decide) (by decide) (Int.le_of_lt (Int.pow_pos (by decide)))
            exact this _
          have e5 : ((10 : Int) ^ 10) ^ a.length = 10 ^ (10 * a.length) := by rw [← Int.pow_mul]
          rcases Nat.lt_or_ge ds.length (10 * a.length) with h | h
          · exact h
          · have := pow_le (B := 10) (by decide) h
            omega
        obtain ⟨⟨p2, k2, o2⟩, h3, es, ho2, hde, hle, hle2, hve, hte2⟩ := tpart_loop r p ⟨hp0, hp1⟩ ds hd (by omega)
        simp only at ho2
        rw [h1, bnd_val]
        simp only
        rw [h2, bnd_val, h3, bnd_val]
        refine Or.inr ⟨(_, _), rfl, ⟨es, ho2, hde, by omega, hrd, hrt, by simp only; omega, ?_, fun hre => ?_⟩, ?_⟩
        · simp only
          rw [hrv, hve, ← hv, hv1]
          by_cases hre : r = []
          · subst hre
            simp only [val] at hrv
            rw [← hrv]
            grind
          · rw [hle2 hre, Int.pow_add]
            grind
        · refine hte2 hre ?_
          intro hpe
          have hre1 : r = [] := hre
          rw [hre1] at hrv
          simp only [val] at hrv
          omega
        · simp only
          omega)
    (s := ([], a)) ⟨[], rfl, Dig.nil, by simp, ha, ta, Nat.le_refl _, by simp [val], fun e => absurd e hn⟩
end Go.Ql
end

section
namespace Go.Ql
theorem reverse_ok (a : List Int) (la : a.length < 1000000000000) : W.slices_Reverse_byte a = some (a.reverse, ()) := by
  obtain ⟨⟨i, j, r⟩, h1, h2⟩ := iter_loop (f := fun s : Int × Int × List Int ↦ W.slices_Reverse_byte.c100001 (Prod.fst s) (Prod.fst (Prod.snd s)) (Prod.snd (Prod.snd s)) Option.some)
    (J := fun s => ∃ k : Nat, s.1 = k ∧ s.2.1 = (a.length : Int) - 1 - k ∧ 2 * k ≤ a.length + 1 ∧ s.2.2.length = a.length ∧ ∀ m, m < a.length → s.2.2.getD m 0 = if m < k ∨ a.length ≤ m + k then a.getD (a.length - 1 - m) 0 else a.getD m 0)
    (Q := fun r => r.2.2 = a.reverse)
    (fun s => (s.2.1 + 1).toNat) (fun ⟨i, j, t⟩ ⟨k, hi, hj, hk, hl, hm⟩ => by
      simp only at hi hj hl hm ⊢
      subst hi hj
      simp only [W.slices_Reverse_byte.c100001]
      by_cases h : (k : Int) < (a.length : Int) - 1 - k
      · rw [br_pos h]
        unfold W.slices_Reverse_byte.c3
        have ej : (a.length : Int) - 1 - k = ((a.length - 1 - k : Nat) : Int) := by omega
        rw [ej, inR_of (by omega) (by omega), idx_of (a.length - 1 - k) rfl (by omega), inR_of (by omega) (by omega), idx_of k rfl (by omega)]
        simp only [bnd_val]
        rw [inR_of (by omega) (by rw [List.length_set]; omega), idx_of (a.length - 1 - k) rfl (by rw [Int.toNat_natCast, List.length_set]; omega)]
        simp only [bnd_val, Int.toNat_natCast]
        rw [wrap_i64 (by omega), wrap_i64 (by omega)]
        refine Or.inr ⟨(_, _, _), rfl, ⟨k + 1, by simp, by simp only; omega, by omega, by simp only [List.length_set]; exact hl, fun m hml => ?_⟩, by simp only; omega⟩
        simp only
        rw [getD_set (by rw [List.length_set]; omega), getD_set (by omega), hm _ (by omega), hm _ (by omega), hm m hml]
        by_cases e1 : a.length - 1 - k = m
        · rw [if_pos e1, if_neg (by omega), if_pos (by omega)]
          congr 1; omega
        · rw [if_neg e1]
          by_cases e2 : k = m
          · rw [if_pos e2, if_neg (by omega), if_pos (by omega)]
            congr 1; omega
          · rw [if_neg e2]
            by_cases e3 : m < k ∨ a.length ≤ m + k
            · rw [if_pos e3, if_pos (by omega)]
            · rw [if_neg e3, if_neg (by omega)]
      · rw [br_neg h]
        refine Or.inl ⟨(_, _, _), rfl, ?_⟩
        simp only
        apply List.ext_getElem
        · rw [List.length_reverse, hl]
        · intro m h1 h2
          have h3 := hm m (by omega)
          have e1 : t.getD m 0 = t[m] := by simp [List.getD, h1]
          rw [← e1, h3, List.getElem_reverse]
          by_cases e2 : m < k ∨ a.length ≤ m + k
          · rw [if_pos e2]; simp [List.getD, show a.length - 1 - m < a.length by omega]
          · rw [if_neg e2]
            have e3 : a.length - 1 - m = m := by omega
            simp only [e3]
            simp [List.getD, show m < a.length by omega])
    (s := ((0 : Int), IntKind.i64.wrap ((a.length : Int) - 1), a)) ⟨0, rfl, by rw [wrap_i64 (by omega)]; simp, by omega, rfl, fun m hml => by rw [if_neg (by omega)]⟩
  simp only at h2
  unfold W.slices_Reverse_byte
  rw [h1, bnd_val, ← h2]
theorem dec_rev : ∀ (ds : List Int), Dig 10 ds → Digits (bytes (chr ds).reverse) ∧ dec (bytes (chr ds).reverse) = val 10 ds
  | [], _ => ⟨fun c hc => by simp [chr, bytes] at hc, rfl⟩
  | d :: ds, h => by
    obtain ⟨h1, h2⟩ := dec_rev ds h.tail
    have hb := byte_dg (d := d) (by have := h.head; omega)
    have e : bytes (chr (d :: ds)).reverse = bytes (chr ds).reverse ++ [UInt8.ofNat (Int.toNat (48 + d))] := by simp [chr, bytes]
    rw [e]
    refine ⟨fun c hc => ?_, ?_⟩
    · rcases List.mem_append.1 hc with hc | hc
      · exact h1 c hc
      · rw [List.mem_singleton.1 hc]; exact hb.1
    · rw [dec_snoc, h2, hb.2]
      simp only [val]; omega
theorem isDec_rev {ds : List Int} (h : Dig 10 ds) (ht : Trim ds) (hn : ds ≠ []) : IsDec (bytes (chr ds).reverse) (val 10 ds) := by
  obtain ⟨h1, h2⟩ := dec_rev ds h
  have h0 : ds.length ≠ 0 := fun e => hn (List.eq_nil_of_length_eq_zero e)
  refine ⟨h1, fun e => ?_, fun e => ?_, h2⟩
  · have := congrArg List.length e
    simp [bytes, chr] at this
    exact hn this
  · have h3 : (bytes (chr ds).reverse).head? = some (UInt8.ofNat (Int.toNat (48 + ds.getD (ds.length - 1) 0))) := by
      simp [bytes, chr, List.getLast?_eq_getElem?, List.getD, show ds.length - 1 < ds.length by omega]
    rw [h3] at e
    have h4 := Option.some.inj e
    have hd := h.getD (by decide) (ds.length - 1)
    have hb := (byte_dg (d := ds.getD (ds.length - 1) 0) (by omega)).2
    rw [h4] at hb
    exact ht hn hb.symm
theorem text_ok {a : Bool × List Int} {v : Int} (ha : Rep 4294967296 a v) (la : a.2.length < 1000000) : ∃ l, W.whole_Int_Text a = some l ∧ Txt v l := by
  unfold W.whole_Int_Text
  by_cases h0 : a.2 = []
  · rw [h0]
    refine ⟨[48], rfl, Or.inl ⟨?_, rfl⟩⟩
    rw [ha.val, h0]; simp [val]
  · have hn : a.2.length ≠ 0 := fun e => h0 (List.eq_nil_of_length_eq_zero e)
    rw [br_false (beq_false_of_ne (by omega))]
    have hcl : W.slices_Clone_uint32 a.2 = some (a.2, ()) := by
      unfold W.slices_Clone_uint32
      have : a.2.isEmpty = false := by rw [← Bool.not_eq_true, List.isEmpty_iff]; exact h0
      rw [this, br_ff, okIf_true (by simp; omega), bnd_val]
    obtain ⟨⟨out, t⟩, h1, es, ho, hd, hl, hv, ht⟩ := tall_loop a.2 ha.dig ha.last h0 la
    simp only at ho
    have hp := ha.pos (by decide) h0
    have hen : es ≠ [] := fun e => by rw [e] at hv; simp only [val] at hv; omega
    have e1 : W.whole_Int_Text.c281925 a.1 out Option.some = some (if a.1 then chr es ++ [45] else chr es) := by
      unfold W.whole_Int_Text.c281925
      subst ho
      cases a.1
      · rw [br_ff]; rfl
      · rw [br_tt, okIf_true (by simp [chr_len]; omega), bnd_val]; rfl
    rw [hcl, bnd_val, h1, bnd_val, e1, bnd_val, reverse_ok _ (by split <;> simp [chr_len] <;> omega), bnd_val]
    have hva := ha.val
    refine ⟨_, rfl, Or.inr ⟨?_, bytes (chr es).reverse, ?_, ?_⟩⟩
    · cases hx : a.1 <;> simp only [hx, Bool.false_eq_true, if_false, if_true] at hva <;> omega
    · have : (v.natAbs : Int) = val 10 es := by
        cases hx : a.1 <;> simp only [hx, Bool.false_eq_true, if_false, if_true] at hva <;> omega
      rw [this]; exact isDec_rev hd ht hen
    · cases hx : a.1 <;> simp only [hx, Bool.false_eq_true, if_false, if_true] at hva ⊢
      · rw [if_neg (by omega)]; rfl
      · rw [if_pos (by omega)]; simp [bytes]
end Go.Ql
end

section
namespace Go.Ql
theorem u64_mod {x : Int} : IntKind.u64.wrap x = x % 18446744073709551616 := by
  simp [IntKind.wrap, IntKind.signed, IntKind.bits]
theorem of_ok {n : Int} (h : -9223372036854775808 ≤ n ∧ n ≤ 9223372036854775807) :
    ∃ r, W.whole_Of n = some r ∧ Rep 4294967296 r n ∧ r.2.length ≤ 2 := by
  unfold W.whole_Of
  have e : W.whole_Of.c208197 n (IntKind.u64.wrap n) Option.some = some (n.natAbs : Int) := by
    unfold W.whole_Of.c208197
    by_cases h0 : n < 0
    · rw [br_pos h0, u64_mod, u64_mod]; congr 1; omega
    · rw [br_neg h0, u64_mod]; congr 1; omega
  rw [e, bnd_val, wrap_u32_mod, wrap_u32_mod, show (2 : Int) ^ 32 = 4294967296 from rfl, Int.fdiv_eq_ediv_of_nonneg _ (by decide)]
  obtain ⟨r, h1, h2, h3⟩ := made_ok (B := 4294967296) (decide (n < 0)) [(n.natAbs : Int) % 4294967296, (n.natAbs : Int) / 4294967296 % 4294967296]
    (Dig.cons (by omega) (Dig.cons (by omega) Dig.nil)) (by simp)
  rw [h1, bnd_val]
  refine ⟨r, rfl, ?_, by simpa using h3⟩
  have : n = if decide (n < 0) = true then -val 4294967296 [(n.natAbs : Int) % 4294967296, (n.natAbs : Int) / 4294967296 % 4294967296] else val 4294967296 [(n.natAbs : Int) % 4294967296, (n.natAbs : Int) / 4294967296 % 4294967296] := by
    simp only [val]
    by_cases h0 : n < 0
    · rw [if_pos (decide_eq_true h0)]; omega
    · rw [if_neg (by simpa using h0)]; omega
  rw [← this] at h2
  exact h2
theorem begun_ok : W.Law_wholeBegun = some true := by
  unfold W.Law_wholeBegun
  obtain ⟨r, h1, h2, h3⟩ := of_ok (n := -70001) (by decide)
  obtain ⟨l, h4, h5⟩ := text_ok h2 (by omega)
  rw [h1, bnd_val, h4, bnd_val]
  have h6 : Txt (-70001) [45, 55, 48, 48, 48, 49] := Or.inr ⟨by decide, [55, 48, 48, 48, 49], ⟨by unfold Digits; decide, by decide, by decide, by decide⟩, rfl⟩
  rw [h5.one h6]; rfl
theorem tt_ok {a b : Bool × List Int} {v : Int} (ha : Rep 4294967296 a v) (hb : Rep 10000 b v) (la : a.2.length < 1000000) (lb : b.2.length < 1000000) : ∃ l, W.whole_Int_Text a = some l ∧ W.R_ZText b = some l := by
  obtain ⟨l, h1, h2⟩ := text_ok ha la
  obtain ⟨m, h3, h4⟩ := ztext_ok hb lb
  exact ⟨l, h1, by rw [h3, h2.one h4]⟩
theorem pair_eta {α β : Type} (p : α × β) : (p.1, p.2) = p := rfl
theorem eqT_ff (f : Int × Int) : Ty.eqT (Ty.pair (Ty.int Go.IntKind.i64) (Ty.int Go.IntKind.i64)) f f = true := by
  simp [Ty.eqT]
end Go.Ql
end

section
namespace Go.Ql
theorem or32 (m : Nat) {a x q : Int} (ha : 0 ≤ a ∧ a < 2 ^ m) (hx : x = 2 ^ m * q) (hq : 0 ≤ q) (hb : a + x < 4294967296) : ibits Go.BinOp.or Go.IntKind.u32 a x = a + x := by
  obtain ⟨a, rfl⟩ : ∃ n : Nat, a = n := ⟨a.toNat, by omega⟩
  obtain ⟨q, rfl⟩ : ∃ n : Nat, q = n := ⟨q.toNat, by omega⟩
  have hx2 : x = ((2 ^ m * q : Nat) : Int) := by rw [hx]; simp
  have ham : a < 2 ^ m := by
    have := ha.2
    rw [show ((2 : Int) ^ m) = ((2 ^ m : Nat) : Int) by simp] at this
    omega
  have h : (BitVec.ofInt IntKind.u32.bits (a : Int) ||| BitVec.ofInt IntKind.u32.bits ((2 ^ m * q : Nat) : Int)).toNat = a + 2 ^ m * q := by
    rw [BitVec.toNat_or, BitVec.toNat_ofInt, BitVec.toNat_ofInt]
    have e1 : ((a : Int) % ((2 ^ IntKind.u32.bits : Nat) : Int)).toNat = a := by
      show ((a : Int) % 4294967296).toNat = a
      omega
    have e2 : (((2 ^ m * q : Nat) : Int) % ((2 ^ IntKind.u32.bits : Nat) : Int)).toNat = 2 ^ m * q := by
      show (((2 ^ m * q : Nat) : Int) % 4294967296).toNat = 2 ^ m * q
      omega
    rw [e1, e2, Nat.or_comm, ← Nat.two_pow_add_eq_or_of_lt ham]
    omega
  show IntKind.u32.wrap ((BitVec.ofInt IntKind.u32.bits (a : Int) ||| BitVec.ofInt IntKind.u32.bits x).toNat : Int) = _
  rw [hx2, h, wrap_u32 (by omega)]
  omega
theorem two_parts (m : Nat) (hm : m < 32) : (0 : Int) < 2 ^ m ∧ (2 : Int) ^ m ≤ 2147483648 ∧ (2 : Int) ^ m * 2 ^ (32 - m) = 4294967296 ∧ (0 : Int) < 2 ^ (32 - m) := by
  have h1 : (0 : Int) < 2 ^ m := Int.pow_pos (by decide)
  have h2 : (2 : Int) ^ m ≤ 2 ^ 31 := pow_le (by decide) (by omega)
  have h3 : (2 : Int) ^ m * 2 ^ (32 - m) = 2 ^ 32 := by rw [← Int.pow_add]; congr 1; omega
  exact ⟨h1, h2, h3, Int.pow_pos (by decide)⟩
theorem pow_split (n : Nat) : (2 : Int) ^ n = 4294967296 ^ (n / 32) * 2 ^ (n % 32) := by
  have h : (4294967296 : Int) = 2 ^ 32 := rfl
  rw [h, ← Int.pow_mul, ← Int.pow_add]
  congr 1
  omega
end Go.Ql
end

section
namespace Go.Ql
theorem getD_drop (l : List Int) (k i : Nat) : (l.drop k).getD i 0 = l.getD (k + i) 0 := by
  simp [List.getD, List.getElem?_drop]
theorem val_cut (B : Int) (l : List Int) (k : Nat) (h : k ≤ l.length) : val B l = val B (l.take k) + B ^ k * val B (l.drop k) := by
  have := val_append B (l.drop k) (l.take k)
  rw [List.take_append_drop, show (l.take k).length = k by rw [List.length_take]; omega] at this
  exact this
end Go.Ql
end

section
namespace Go.Ql
theorem and_low {x : Int} (h : 0 ≤ x ∧ x < 18446744073709551616) : ibits Go.BinOp.and Go.IntKind.u64 x 4294967295 = x % 4294967296 := by
  obtain ⟨a, rfl⟩ : ∃ n : Nat, x = n := ⟨x.toNat, by omega⟩
  have e : (BitVec.ofInt IntKind.u64.bits (a : Int) &&& BitVec.ofInt IntKind.u64.bits (4294967295 : Int)).toNat = a % 4294967296 := by
    rw [BitVec.toNat_and, BitVec.toNat_ofInt, BitVec.toNat_ofInt]
    have e1 : ((a : Int) % ((2 ^ IntKind.u64.bits : Nat) : Int)).toNat = a := by
      show ((a : Int) % 18446744073709551616).toNat = a
      omega
    have e2 : ((4294967295 : Int) % ((2 ^ IntKind.u64.bits : Nat) : Int)).toNat = 2 ^ 32 - 1 := by decide
    rw [e1, e2, Nat.and_two_pow_sub_one_eq_mod]
  show IntKind.u64.wrap ((BitVec.ofInt IntKind.u64.bits (a : Int) &&& BitVec.ofInt IntKind.u64.bits (4294967295 : Int)).toNat : Int) = _
  rw [e, wrap_u64 (by omega)]
  omega
end Go.Ql
end

section
namespace Go.Ql
section
variable {W V P top v2 vl head x0 wl : Int}
/-- What is known of a digit's place: the divisor's two highest digits, the three highest of what is left. -/
structure Place (W V P top v2 vl head x0 wl : Int) : Prop where
  P0 : 0 < P
  hV : V = (top * 4294967296 + v2) * P + vl
  hW : W = (head * 4294967296 + x0) * P + wl
  top0 : 2147483648 ≤ top
  top1 : top < 4294967296
  v20 : 0 ≤ v2
  v21 : v2 < 4294967296
  vl0 : 0 ≤ vl
  vl1 : vl < P
  head0 : 0 ≤ head
  x00 : 0 ≤ x0
  x01 : x0 < 4294967296
  wl0 : 0 ≤ wl
  wl1 : wl < P
  hlt : W < V * 4294967296
theorem Place.Vpos (h : Place W V P top v2 vl head x0 wl) : 0 < V := by
  have h1 : 1 * P ≤ (top * 4294967296 + v2) * P := Int.mul_le_mul_of_nonneg_right (by have := h.top0; have := h.v20; omega) (by have := h.P0; omega)
  have := h.hV; have := h.P0; have := h.vl0
  omega
theorem lt_of_mul {a b P : Int} (hP : 0 < P) (h : a * P < b * P) : a < b := Int.lt_of_mul_lt_mul_right h (Int.le_of_lt hP)
theorem Place.head_le (h : Place W V P top v2 vl head x0 wl) : head ≤ 4294967296 * top + 4294967295 := by
  obtain ⟨P0, hV, hW, top0, top1, v20, v21, vl0, vl1, head0, x00, x01, wl0, wl1, hlt⟩ := h
  have h1 : V < (top * 4294967296 + v2 + 1) * P := by rw [hV, Int.add_mul _ 1]; omega
  have h2 : (head * 4294967296 + x0) * P < ((top * 4294967296 + v2 + 1) * 4294967296) * P := by
    have : V * 4294967296 ≤ (top * 4294967296 + v2 + 1) * P * 4294967296 := by omega
    have e : (top * 4294967296 + v2 + 1) * P * 4294967296 = ((top * 4294967296 + v2 + 1) * 4294967296) * P := by grind
    omega
  have h3 := lt_of_mul P0 h2
  omega
theorem Place.first (h : Place W V P top v2 vl head x0 wl) : W / V ≤ head / top := by
  have hVp := h.Vpos
  obtain ⟨P0, hV, hW, top0, top1, v20, v21, vl0, vl1, head0, x00, x01, wl0, wl1, hlt⟩ := h
  have h0 : 0 ≤ W := by rw [hW]; have := Int.mul_nonneg (show 0 ≤ head * 4294967296 + x0 by omega) (Int.le_of_lt P0); omega
  have hq : 0 ≤ W / V := Int.ediv_nonneg h0 (by omega)
  have hqV := Int.ediv_mul_le W (show V ≠ 0 by omega)
  generalize W / V = q at *
  apply Int.le_ediv_of_mul_le (by omega)
  have h1 : q * ((top * 4294967296) * P) ≤ q * V := Int.mul_le_mul_of_nonneg_left (by rw [hV, Int.add_mul]; have := Int.mul_nonneg v20 (Int.le_of_lt P0); omega) hq
  have h2 : W < (head * 4294967296 + x0 + 1) * P := by rw [hW, Int.add_mul _ 1]; omega
  have h3 : (q * top * 4294967296) * P < (head * 4294967296 + x0 + 1) * P := by
    have e : q * ((top * 4294967296) * P) = (q * top * 4294967296) * P := by grind
    omega
  have h4 := lt_of_mul P0 h3
  omega
theorem Place.less (h : Place W V P top v2 vl head x0 wl) {g rest : Int} (hg : 0 ≤ g) (hr : g * top + rest = head) (hc : rest * 4294967296 + x0 < g * v2) : W / V ≤ g - 1 := by
  have hVp := h.Vpos
  obtain ⟨P0, hV, hW, top0, top1, v20, v21, vl0, vl1, head0, x00, x01, wl0, wl1, hlt⟩ := h
  have h1 : (head * 4294967296 + x0 + 1) * P ≤ (g * (top * 4294967296 + v2)) * P := by
    apply Int.mul_le_mul_of_nonneg_right _ (Int.le_of_lt P0)
    rw [← hr, Int.mul_add]
    have : g * (top * 4294967296) = g * top * 4294967296 := by grind
    omega
  have h2 : W < (head * 4294967296 + x0 + 1) * P := by rw [hW, Int.add_mul _ 1]; omega
  have h3 : g * V = (g * (top * 4294967296 + v2)) * P + g * vl := by rw [hV]; grind
  have h5 := Int.mul_nonneg hg vl0
  have h4 : W / V < g := Int.ediv_lt_of_lt_mul hVp (by omega)
  omega
theorem Place.last (h : Place W V P top v2 vl head x0 wl) {g rest : Int} (hg : 0 ≤ g) (hg1 : g < 4294967296) (hr : g * top + rest = head) (hc : g * v2 ≤ rest * 4294967296 + x0) : g ≤ W / V + 1 := by
  have hVp := h.Vpos
  obtain ⟨P0, hV, hW, top0, top1, v20, v21, vl0, vl1, head0, x00, x01, wl0, wl1, hlt⟩ := h
  have h1 : (g * (top * 4294967296 + v2)) * P ≤ (head * 4294967296 + x0) * P := by
    apply Int.mul_le_mul_of_nonneg_right _ (Int.le_of_lt P0)
    rw [← hr, Int.mul_add]
    have : g * (top * 4294967296) = g * top * 4294967296 := by grind
    omega
  have h2 : g * vl ≤ 4294967295 * P := Int.mul_le_mul (by omega) (by omega) vl0 (by omega)
  have h3 : (2147483648 * 4294967296) * P ≤ (top * 4294967296 + v2) * P := Int.mul_le_mul_of_nonneg_right (by omega) (by omega)
  have h4 : g * V = (g * (top * 4294967296 + v2)) * P + g * vl := by rw [hV]; grind
  have h5 : (g - 1) * V ≤ W := by
    rw [Int.sub_mul]; omega
  have := Int.le_ediv_of_mul_le hVp h5
  omega
end
end Go.Ql
end

section
namespace Go.Ql
end Go.Ql
end

section
namespace Go.Ql
theorem val_zero {B : Int} (hB : 0 < B) : ∀ {l : List Int}, Dig B l → val B l = 0 → ∀ x, l.getD x 0 = 0
  | [], _, _, x => by simp
  | d :: l, h, hv, x => by
    have h1 := val_nonneg (by omega) h.tail
    have h2 := h.head
    have h3 := Int.mul_nonneg (Int.le_of_lt hB) h1
    simp only [val] at hv
    have h4 : B * val B l = 0 := by omega
    have h5 : val B l = 0 := by
      rcases Int.mul_eq_zero.1 h4 with h | h
      · omega
      · exact h
    cases x with
    | zero => simp; omega
    | succ x => simpa using val_zero hB h.tail h5 x
theorem val_above {B : Int} (hB : 0 < B) {l : List Int} (h : Dig B l) {k : Nat} (hv : val B l < B ^ k) : val B (l.drop k) = 0 := by
  by_cases hk : k ≤ l.length
  · have h1 := val_cut B l k hk
    have h2 := val_nonneg (by omega) (h.take k)
    have h3 := val_nonneg (by omega) (h.drop k)
    have h4 : B ^ k * val B (l.drop k) < B ^ k * 1 := by omega
    have := Int.lt_of_mul_lt_mul_left h4 (Int.le_of_lt (pow_pos hB k))
    omega
  · rw [List.drop_eq_nil_of_le (by omega)]; rfl
theorem val_upto {B : Int} (hB : 0 < B) {l : List Int} (h : Dig B l) {k : Nat} (hk : k ≤ l.length) (hv : val B l < B ^ k) : val B l = val B (l.take k) := by
  have := val_cut B l k hk
  rw [val_above hB h hv] at this
  simpa using this
theorem same_above {B : Int} (hB : 0 < B) {t t1 : List Int} {k : Nat} (ht : Dig B t) (h1 : Dig B t1) (hl : t1.length = t.length) (hk : k ≤ t.length) (hs : ∀ x, k ≤ x → t1.getD x 0 = t.getD x 0) (hv : val B t < B ^ k) : val B t1 < B ^ k := by
  have hz := val_above hB ht hv
  have hcut1 := val_cut B t1 k (by omega)
  have e : t1.drop k = t.drop k := by
    apply List.ext_getElem (by simp only [List.length_drop]; omega)
    intro i h1 h2
    have := hs (k + i) (by omega)
    rw [List.length_drop] at h1 h2
    simp only [List.getElem_drop]
    simp only [List.getD, List.getElem?_eq_getElem (show k + i < t1.length by omega), List.getElem?_eq_getElem (show k + i < t.length by omega), Option.getD_some] at this
    exact this
  have := val_lt hB (h1.take k)
  rw [show (t1.take k).length = k by rw [List.length_take]; omega] at this
  rw [e, hz] at hcut1
  omega
end Go.Ql
end

section
namespace Go.Ql
theorem u8_small {x : Int} (h : 0 ≤ x ∧ x < 256) : IntKind.u8.wrap x = x := IntWalk.u8_in _ (by omega)
def lens : List UInt8 := (List.range 256).map fun n => UInt8.ofNat (if n = 0 then 0 else Nat.log2 n + 1)
theorem lens_ok : ∀ n : Fin 256, 0 < n.val → ∃ k : Fin 9, lens[n.val]? = some (UInt8.ofNat k.val) ∧ 1 ≤ k.val ∧ 2 ^ (k.val - 1) ≤ n.val ∧ n.val < 2 ^ k.val := by decide +kernel
theorem idx_nat {α : Type} {xs : List α} {i : Int} (n : Nat) (hi : i = n) {x : α} (h : xs[n]? = some x) : idx xs i = some x := by
  subst hi; unfold idx; simp [h]
end Go.Ql
end

section
namespace Go.Ql
theorem Rep.nil {B : Int} : Rep B (false, []) 0 := ⟨Dig.nil, by simp, by simp, by simp [Ql.val]⟩
theorem Rep.absval {B : Int} (hB : 0 ≤ B) {x : Bool × List Int} {v : Int} (h : Rep B x v) : Ql.val B x.2 = (v.natAbs : Int) := by
  have h1 := val_nonneg hB h.dig
  have h2 := h.val
  cases h0 : x.1 <;> simp only [h0, Bool.false_eq_true, if_false, if_true] at h2 <;> omega
theorem Rep.zero_iff {B : Int} (hB : 1 < B) {x : Bool × List Int} {v : Int} (h : Rep B x v) : x.2 = [] ↔ v = 0 := by
  constructor
  · intro h0
    have := h.absval (by omega)
    rw [h0] at this
    simp only [Ql.val] at this
    omega
  · intro h0
    rcases Classical.em (x.2 = []) with h1 | h1
    · exact h1
    · have := h.pos hB h1
      have := h.absval (by omega)
      omega
/-- A number that is no greater has no more places. -/
theorem Rep.short {B : Int} (hB : 1 < B) {x y : Bool × List Int} {u v : Int} (hx : Rep B x u) (hy : Rep B y v) (h : u.natAbs ≤ v.natAbs) : x.2.length ≤ y.2.length := by
  apply len_le hB hy.dig hx.dig hx.last
  rw [hx.absval (by omega), hy.absval (by omega)]
  omega
theorem Rep.eq_of {B : Int} {x : Bool × List Int} {u v : Int} (h : Rep B x u) (e : u = v) : Rep B x v := e ▸ h
theorem ediv_unique {a b q r : Int} (hb : 0 < b) (h : a = b * q + r) (h0 : 0 ≤ r) (h1 : r < b) : a / b = q ∧ a % b = r := by
  subst h
  constructor
  · rw [Int.add_comm, Int.add_mul_ediv_left _ _ (by omega), Int.ediv_eq_zero_of_lt h0 h1]; omega
  · rw [Int.add_comm, Int.add_mul_emod_self_left, Int.emod_eq_of_lt h0 h1]
/-- What the division without signs answers, and what it is with the signs. -/
theorem div_signs {A V : Int} (hA : 0 ≤ A) (hV : 0 < V) (sa sb : Bool) :
    (if sa then -A else A) / (if sb then -V else V) = (if sa != sb then -(if sa && decide (A % V ≠ 0) then A / V + 1 else A / V) else (if sa && decide (A % V ≠ 0) then A / V + 1 else A / V)) ∧
    (if sa then -A else A) % (if sb then -V else V) = (if sa && decide (A % V ≠ 0) then V - A % V else A % V) := by
  have hdm := Int.mul_ediv_add_emod A V
  have h0 := Int.emod_nonneg A (show V ≠ 0 by omega)
  have h1 := Int.emod_lt_of_pos A hV
  by_cases hr : A % V = 0
  · obtain ⟨e1, e2⟩ := ediv_unique (a := -A) (b := V) (q := -(A / V)) (r := 0) hV (by rw [Int.mul_neg]; omega) (by omega) hV
    cases sa <;> cases sb <;> simp [hr, Int.ediv_neg, Int.emod_neg, e1, e2]
  · obtain ⟨e1, e2⟩ := ediv_unique (a := -A) (b := V) (q := -(A / V + 1)) (r := V - A % V) hV (by rw [Int.mul_neg, Int.mul_add]; omega) (by omega) (by omega)
    cases sa <;> cases sb <;> simp [hr, Int.ediv_neg, Int.emod_neg, e1, e2]
end Go.Ql
end

section
namespace Go.Ql
theorem gcd_step (u v : Int) : Int.gcd v (u % v) = Int.gcd u v := by
  have h := Int.mul_ediv_add_emod u v
  have e : u % v = u - v * (u / v) := by omega
  rw [e, Int.gcd_sub_mul_left_right, Int.gcd_comm]
theorem Rep.pos_of {B : Int} (hB : 1 < B) {x : Bool × List Int} {v : Int} (h : Rep B x v) : (x.2.length : Int) > 0 ↔ v ≠ 0 := by
  constructor
  · intro h1 h2
    rw [(h.zero_iff hB).2 h2] at h1
    simp at h1
  · intro h1
    have : x.2.length ≠ 0 := fun e => h1 ((h.zero_iff hB).1 (List.eq_nil_of_length_eq_zero e))
    omega
theorem mod_less (u : Int) {v : Int} (h : v ≠ 0) : (u % v).natAbs < v.natAbs := by
  have h1 := Int.emod_nonneg u h
  have h2 := Int.emod_lt u h
  omega
end Go.Ql
end

section
namespace Go.Ql
theorem zof_ok {n : Int} (h : -9223372036854775808 ≤ n ∧ n ≤ 9223372036854775807) :
    ∃ r, W.R_ZOf n = some r ∧ Rep 10000 r n ∧ r.2.length ≤ 5 := by
  unfold W.R_ZOf
  have e : W.R_ZOf.c208197 n (IntKind.u64.wrap n) Option.some = some (n.natAbs : Int) := by
    unfold W.R_ZOf.c208197
    by_cases h0 : n < 0
    · rw [br_pos h0, u64_mod, u64_mod]; congr 1; omega
    · rw [br_neg h0, u64_mod]; congr 1; omega
  rw [e, bnd_val]
  have hB : (0 : Int) < 10000 := by decide
  obtain ⟨⟨u, d⟩, l1, l2, l3, l4⟩ := iter_loop
    (f := fun s : Int × List Int ↦ W.R_ZOf.c100005 (Prod.fst s) (Prod.snd s) Option.some)
    (J := fun s => 0 ≤ s.1 ∧ s.1 < 10000 ^ (5 - s.2.length) ∧ s.2.length ≤ 5 ∧ Dig 10000 s.2 ∧ val 10000 s.2 + 10000 ^ s.2.length * s.1 = (n.natAbs : Int))
    (Q := fun s => s.2.length ≤ 5 ∧ Dig 10000 s.2 ∧ val 10000 s.2 = (n.natAbs : Int))
    (fun s => s.1.toNat) (fun ⟨u, d⟩ ⟨h1, h2, h3, h4, h5⟩ => by
      simp only at h1 h2 h3 h4 h5 ⊢
      unfold W.R_ZOf.c100005
      by_cases h0 : u > 0
      · have hl : d.length ≠ 5 := fun e => by rw [e] at h2; simp at h2; omega
        rw [br_pos h0, tmod_pos h1, tdiv_pos h1, wrap_i64 (by omega), wrap_u64 (by
          have : (10000 : Int) ^ (5 - d.length) ≤ 10000 ^ 5 := pow_le (by decide) (by omega)
          rw [show (10000 : Int) ^ 5 = 100000000000000000000 from rfl] at this
          have h7 : u ≤ (n.natAbs : Int) := by
            have : 1 * u ≤ 10000 ^ d.length * u := Int.mul_le_mul_of_nonneg_right (by have := pow_pos hB d.length; omega) h1
            have := val_nonneg (B := 10000) (by decide) h4
            omega
          omega), okIf_true (by simp; omega), bnd_val]
        refine Or.inr ⟨(_, _), rfl, ⟨by simp only; omega, ?_, by simp; omega, h4.append (Dig.cons (by omega) Dig.nil), ?_⟩, by simp only; omega⟩
        · simp only [List.length_append, List.length_cons, List.length_nil]
          have e5 : 5 - d.length = (5 - (d.length + (0 + 1))) + 1 := by omega
          rw [e5, Int.pow_succ] at h2
          omega
        · simp only [List.length_append, List.length_cons, List.length_nil]
          rw [val_snoc, Int.pow_succ, ← h5]
          have : u = 10000 * (u / 10000) + u % 10000 := by omega
          generalize u / 10000 = q at *
          generalize u % 10000 = r at *
          subst this
          grind
      · rw [br_neg h0]
        have : u = 0 := by omega
        subst this
        exact Or.inl ⟨(_, _), rfl, h3, h4, by simpa using h5⟩)
    (s := ((n.natAbs : Int), [])) ⟨by simp, by simp only [List.length_nil]; rw [show (10000 : Int) ^ (5 - 0) = 100000000000000000000 from rfl]; omega, by simp, Dig.nil, by simp [val]⟩
  simp only at l2 l3 l4
  obtain ⟨r, r1, r2, r3⟩ := zmade_ok (B := 10000) (decide (n < 0)) d l3 (by omega)
  rw [l1, bnd_val, r1]
  refine ⟨r, rfl, r2.eq_of ?_, by omega⟩
  rw [l4]
  by_cases h0 : n < 0
  · rw [if_pos (decide_eq_true h0)]; omega
  · rw [if_neg (by simpa using h0)]; omega
/-- A number below a power of two has few places. -/
theorem Rep.few {B : Int} (hB : 1 < B) {x : Bool × List Int} {e : Nat} (h : Rep B x (2 ^ e)) : x.2.length ≤ e + 1 := by
  have h2 : (0 : Int) < 2 ^ e := Int.pow_pos (by decide)
  have hn : x.2 ≠ [] := fun h0 => by have := (h.zero_iff hB).1 h0; omega
  have h1 := val_ge hB h.dig h.last hn
  rw [h.absval (by omega)] at h1
  rcases Nat.lt_or_ge e (x.2.length - 1) with hc | hc
  · have h3 : (2 : Int) ^ (x.2.length - 1) ≤ B ^ (x.2.length - 1) := by
      have : ∀ k : Nat, (2 : Int) ^ k ≤ B ^ k := by
        intro k
        induction k with
        | zero => simp
        | succ k ih =>
          rw [Int.pow_succ, Int.pow_succ]
          exact Int.mul_le_mul ih (by omega) (by decide) (Int.le_of_lt (pow_pos (by omega) k))
      exact this _
    have h4 : (2 : Int) ^ (e + 1) ≤ 2 ^ (x.2.length - 1) := pow_le (by decide) (by omega)
    rw [Int.pow_succ] at h4
    omega
  · omega
end Go.Ql
end

section
namespace Go.Ql
end Go.Ql
end

section
namespace Go.Ql
/-- The length of the longest beginning with which a number begins, and whether it is a number. -/
def numLen (sg : Bool) (text : List UInt8) : Nat × Bool :=
  let i := if sg && (text.head? == some 45) then 1 else 0
  if (text.drop i).head? == some 48 then (if sg && i == 0 then (1, true) else (i, false))
  else (i + ((text.drop i).takeWhile isDigit).length, decide (0 < ((text.drop i).takeWhile isDigit).length))
theorem tw_le (p : UInt8 → Bool) (l : List UInt8) : (l.takeWhile p).length ≤ l.length := (List.takeWhile_sublist p).length_le
theorem digits_loop (text : List UInt8) (i : Nat) (hi : i ≤ text.length) (hL : text.length ≤ 9223372036854775807) :
    iter (fun s ↦ W.R_word.c100010 text s Option.some) (i : Int) = some ((i + ((text.drop i).takeWhile isDigit).length : Nat) : Int) := by
  obtain ⟨k, h1, h2⟩ := iter_loop (f := fun s ↦ W.R_word.c100010 text s Option.some)
    (J := fun s => ∃ k : Nat, s = k ∧ k ≤ text.length ∧ i + ((text.drop i).takeWhile isDigit).length = k + ((text.drop k).takeWhile isDigit).length)
    (Q := fun s : Int => s = ((i + ((text.drop i).takeWhile isDigit).length : Nat) : Int))
    (fun s => text.length - s.toNat) (fun s ⟨k, hs, hk, hd⟩ => by
      subst hs
      simp only [W.R_word.c100010]
      have e : W.R_word.c10 text (k : Int) Option.some = some (if h : k < text.length then isDigit text[k] else false) := by
        unfold W.R_word.c10
        by_cases h : k < text.length
        · rw [br_pos (by omega), idx_text text k h, bnd_val, bnd_val, dif_pos h]
          unfold isDigit
          by_cases h5 : (48 : Nat) ≤ text[k].toNat
          · rw [br_pos (by omega)]; simp [h5]; omega
          · rw [br_neg (by omega)]; simp [h5]
        · rw [br_neg (by omega), dif_neg h]
      rw [e, bnd_val]
      by_cases h : k < text.length
      · have hdr : text.drop k = text[k] :: text.drop (k + 1) := List.drop_eq_getElem_cons h
        rw [dif_pos h]
        by_cases h5 : isDigit text[k] = true
        · rw [h5, br_tt]
          refine Or.inr ⟨((k + 1 : Nat) : Int), by rw [wrap_i64 (by omega)]; rfl, ⟨k + 1, rfl, by omega, ?_⟩, by omega⟩
          rw [hd, hdr, List.takeWhile_cons_of_pos h5, List.length_cons]; omega
        · rw [eq_false_of_ne_true h5, br_ff]
          refine Or.inl ⟨_, rfl, ?_⟩
          rw [hd, hdr, List.takeWhile_cons_of_neg h5]; simp
      · rw [dif_neg h, br_ff]
        refine Or.inl ⟨_, rfl, ?_⟩
        rw [hd, List.drop_eq_nil_of_le (by omega)]; simp)
    (s := (i : Int)) ⟨i, rfl, hi, rfl⟩
  rw [h1, h2]
theorem number_ok (sg : Bool) (text : List UInt8) (hL : text.length ≤ 9223372036854775807) :
    W.whole_number text sg = some (((numLen sg text).1 : Int), (numLen sg text).2) ∧ W.R_word text sg sg = some (((numLen sg text).1 : Int), (numLen sg text).2) := by
  obtain ⟨i, hi0⟩ : ∃ i : Nat, (if sg && (text.head? == some 45) then 1 else 0) = i := ⟨_, rfl⟩
  have hi : i ≤ text.length := by
    rw [← hi0]
    split
    · rename_i h
      cases text with
      | nil => simp at h
      | cons => simp
    · omega
  have hi1 : i ≤ 1 := by rw [← hi0]; split <;> omega
  have e1 : W.whole_number.c208197 text sg 0 Option.some = some (i : Int) := by
    unfold W.whole_number.c208197 W.whole_number.c2
    rw [← hi0]
    cases sg
    · rfl
    · rw [br_tt, show Array.toList (ByteArray.data (ByteArray.mk #[(45 : UInt8)])) = [45] from rfl, hasPrefix1, bnd_val, bnd_val, Bool.true_and]
      cases text.head? == some 45 <;> rfl
  have e2 : W.R_word.c208199 text sg sg 0 Option.some = some (sg && decide (i = 0), (i : Int)) := by
    unfold W.R_word.c208199 W.R_word.c2
    rw [← hi0]
    cases sg
    · rfl
    · rw [br_tt]
      cases text with
      | nil => rfl
      | cons c l =>
        rw [br_pos (by simp <;> omega), show ((0 : Int)) = ((0 : Nat) : Int) from rfl, idx_text _ 0 (by simp), bnd_val, bnd_val]
        simp only [List.head?_cons, List.getElem_cons_zero, Bool.true_and]
        by_cases h3 : c = 45
        · subst h3; rfl
        · have h4 : ((c.toNat : Int) == 45) = false := by
            apply beq_false_of_ne
            intro e
            apply h3
            apply UInt8.toNat_inj.1
            show c.toNat = 45
            omega
          have h5 : (some c == some 45) = false := beq_false_of_ne (by simpa using h3)
          rw [h4, h5]; rfl
  have e3 : W.R_word.c5 text (i : Int) Option.some = some ((text.drop i).head? == some 48) := by
    unfold W.R_word.c5
    by_cases h : i < text.length
    · rw [br_pos (by omega), idx_text _ i h, bnd_val, List.head?_drop, List.getElem?_eq_getElem h]
      congr 1
      generalize text[i] = c
      by_cases h5 : c = 48
      · subst h5; rfl
      · have h6 : (some c == some 48) = false := beq_false_of_ne (by simpa using h5)
        rw [h6]
        apply beq_false_of_ne
        intro e
        apply h5
        apply UInt8.toNat_inj.1
        show c.toNat = 48
        omega
    · rw [br_neg (by omega), List.head?_drop, List.getElem?_eq_none (by omega)]; rfl
  have hl := digits_loop text i hi hL
  obtain ⟨m, hm⟩ : ∃ m : Nat, ((text.drop i).takeWhile isDigit).length = m := ⟨_, rfl⟩
  have hml : i + m ≤ text.length := by
    have := tw_le isDigit (text.drop i)
    rw [List.length_drop] at this; omega
  rw [hm] at hl
  have hspec : numLen sg text = if (text.drop i).head? == some 48 then (if sg && i == 0 then (1, true) else (i, false)) else (i + m, decide (0 < m)) := by
    unfold numLen
    simp only [hi0, hm]
  have hpos : decide (((i + m : Nat) : Int) > (i : Int)) = decide (0 < m) := by rw [decide_eq_decide]; omega
  have hnum : W.whole_number text sg = br ((text.drop i).head? == some 48) (br (sg && decide (i = 0)) (some (1, true)) (some ((i : Int), false))) (some (((i + m : Nat) : Int), decide (0 < m))) := by
    unfold W.whole_number
    rw [e1, bnd_val, okIf_true (by simp <;> omega), bnd_val, show Array.toList (ByteArray.data (ByteArray.mk #[(48 : UInt8)])) = [48] from rfl, hasPrefix1, bnd_val, loops_same, hl, bnd_val]
    rw [Int.toNat_natCast, Int.toNat_natCast, List.take_length, hpos]
    unfold W.whole_number.c5
    congr 1
    cases sg
    · rfl
    · simp only [Bool.not_true, br_ff, bnd_val]
      rcases (by omega : i = 0 ∨ i = 1) with h | h <;> subst h <;> rfl
  have hword : W.R_word text sg sg = br ((text.drop i).head? == some 48) (br (sg && decide (i = 0)) (some (1, true)) (some ((i : Int), false))) (some (((i + m : Nat) : Int), decide (0 < m))) := by
    unfold W.R_word
    rw [e2, bnd_val, e3, bnd_val]
    simp only
    rw [hl, bnd_val, hpos]
    congr 1
    rcases (by omega : i = 0 ∨ i = 1) with h | h <;> subst h
    · cases sg <;> rfl
    · cases sg <;> rfl
  rw [hnum, hword, hspec]
  have key : br ((text.drop i).head? == some 48) (br (sg && decide (i = 0)) (some ((1 : Int), true)) (some ((i : Int), false))) (some (((i + m : Nat) : Int), decide (0 < m))) =
      some ((((if (text.drop i).head? == some 48 then (if sg && i == 0 then (1, true) else (i, false)) else (i + m, decide (0 < m)) : Nat × Bool)).1 : Int), ((if (text.drop i).head? == some 48 then (if sg && i == 0 then (1, true) else (i, false)) else (i + m, decide (0 < m)) : Nat × Bool)).2) := by
    cases (text.drop i).head? == some 48
    · rfl
    · rcases (by omega : i = 0 ∨ i = 1) with h | h <;> subst h <;> cases sg <;> rfl
  exact ⟨key, key⟩
theorem takeWhile_all {p : UInt8 → Bool} {l : List UInt8} (h : ∀ c ∈ l, p c = true) : l.takeWhile p = l := by
  induction l with
  | nil => rfl
  | cons c l ih =>
    rw [List.takeWhile_cons_of_pos (h c (List.mem_cons_self ..)), ih fun x hx => h x (List.mem_cons_of_mem _ hx)]
theorem Canon.whole {text : List UInt8} (h : Canon text) : numLen true text = (text.length, true) := by
  rcases h with rfl | ⟨neg, ds, h1, h2, h3, rfl⟩
  · rfl
  · unfold numLen
    have hd := takeWhile_all h2
    have hl : 0 < ds.length := by cases ds with | nil => exact absurd rfl h1 | cons => simp
    cases neg
    · have : ds.head? ≠ some 45 := head_digit h2
      simp [beq_false_of_ne this, beq_false_of_ne h3, hd, h1]
      omega
    · simp [beq_false_of_ne h3, hd, h1]
      omega
theorem numLen_le (sg : Bool) (text : List UInt8) : (numLen sg text).1 ≤ text.length := by
  unfold numLen
  have key : ∀ i : Nat, i ≤ text.length → i + ((text.drop i).takeWhile isDigit).length ≤ text.length := by
    intro i hi
    have := tw_le isDigit (text.drop i)
    rw [List.length_drop] at this; omega
  by_cases hs : (sg && (text.head? == some 45)) = true
  · have h1 : 1 ≤ text.length := by
      cases text with
      | nil => simp at hs
      | cons => simp
    simp only [hs, if_true]
    split
    · split
      · exact h1
      · exact h1
    · exact key 1 h1
  · simp only [eq_false_of_ne_true hs, Bool.false_eq_true, if_false]
    split
    · rename_i h0
      have h1 : 1 ≤ text.length := by
        cases text with
        | nil => simp at h0
        | cons => simp
      split <;> simp only <;> omega
    · exact key 0 (Nat.zero_le _)
/-- Where it is a number, its text is one. -/
theorem numLen_canon {sg : Bool} {text : List UInt8} (h : (numLen sg text).2 = true) : Canon (text.take (numLen sg text).1) ∧ (sg = false → Digits (text.take (numLen sg text).1) ∧ (text.take (numLen sg text).1).head? ≠ some 48 ∧ text.take (numLen sg text).1 ≠ []) := by
  have tk : ∀ l : List UInt8, l.take (l.takeWhile isDigit).length = l.takeWhile isDigit := fun l => by
    induction l with
    | nil => rfl
    | cons c l ih =>
      by_cases hc : isDigit c = true
      · rw [List.takeWhile_cons_of_pos hc, List.length_cons, List.take_succ_cons, ih]
      · rw [List.takeWhile_cons_of_neg hc]; rfl
  have dw : ∀ l : List UInt8, Digits (l.takeWhile isDigit) := fun l c hc => by
    induction l with
    | nil => cases hc
    | cons a l ih =>
      by_cases ha : isDigit a = true
      · rw [List.takeWhile_cons_of_pos ha] at hc
        rcases List.mem_cons.1 hc with rfl | hc
        · exact ha
        · exact ih hc
      · rw [List.takeWhile_cons_of_neg ha] at hc; cases hc
  have hw : ∀ l : List UInt8, l.head? ≠ some 48 → (l.takeWhile isDigit).head? ≠ some 48 := fun l hl => by
    cases l with
    | nil => simp
    | cons a l =>
      by_cases ha : isDigit a = true
      · rw [List.takeWhile_cons_of_pos ha]; simpa using hl
      · rw [List.takeWhile_cons_of_neg ha]; simp
  unfold numLen at h ⊢
  by_cases hs : (sg && (text.head? == some 45)) = true
  · simp only [hs, if_true] at h ⊢
    rw [Bool.and_eq_true] at hs
    obtain ⟨hsg, hhd⟩ := hs
    have hhd := beq_iff_eq.1 hhd
    obtain ⟨l, rfl⟩ : ∃ l, text = 45 :: l := by
      cases text with
      | nil => simp at hhd
      | cons c l => simp at hhd; exact ⟨l, by rw [hhd]⟩
    simp only [List.drop_succ_cons, List.drop_zero] at h ⊢
    by_cases h0 : l.head? = some 48
    · rw [h0] at h; simp at h
    · rw [beq_false_of_ne h0] at h ⊢
      simp only [Bool.false_eq_true, if_false, decide_eq_true_eq] at h ⊢
      rw [Nat.add_comm, List.take_succ_cons, tk]
      refine ⟨Or.inr ⟨true, l.takeWhile isDigit, fun e => by rw [e] at h; simp at h, dw l, hw l h0, rfl⟩, fun e => by rw [e] at hsg; cases hsg⟩
  · simp only [eq_false_of_ne_true hs, Bool.false_eq_true, if_false, List.drop_zero, Nat.zero_add] at h ⊢
    by_cases h0 : text.head? = some 48
    · rw [h0] at h ⊢
      cases sg with
      | false => simp at h
      | true =>
        simp only [beq_self_eq_true, if_true, Bool.and_self] at h ⊢
        obtain ⟨l, rfl⟩ : ∃ l, text = 48 :: l := by
          cases text with
          | nil => simp at h0
          | cons c l => simp at h0; exact ⟨l, by rw [h0]⟩
        exact ⟨Or.inl rfl, fun e => by cases e⟩
    · rw [beq_false_of_ne h0] at h ⊢
      simp only [Bool.false_eq_true, if_false, decide_eq_true_eq] at h ⊢
      rw [tk]
      have hne : text.takeWhile isDigit ≠ [] := fun e => by rw [e] at h; simp at h
      exact ⟨Or.inr ⟨false, _, hne, dw text, hw text h0, rfl⟩, fun _ => ⟨dw text, hw text h0, hne⟩⟩
/-- The digits of a number's text, and the number. -/
structure Said (text ds : List UInt8) (v : Int) : Prop where
  dg : Digits ds
  ne : ds ≠ []
  len : text.length ≤ ds.length + 1
  txt : Txt v text
  small : v.natAbs < 10 ^ ds.length
  trim : W.strings_TrimPrefix text [45] = some ds
  of : W.R_digitsOf text = some (ds.length : Int)
  rd : ds.length ≤ 1000 → ∃ x z, W.whole_Parse text = some (x, (0, 0)) ∧ W.R_ZParse text = some (z, (0, 0)) ∧ W.R_zread text = some z ∧ Rep 4294967296 x v ∧ Rep 10000 z v ∧ x.2.length ≤ 1000 ∧ z.2.length ≤ 1000
theorem Canon.said {text : List UInt8} (h : Canon text) (hL : text.length ≤ 9223372036854775807) : ∃ ds v, Said text ds v := by
  obtain ⟨n1, n2⟩ := number_ok true text hL
  rw [h.whole] at n1 n2
  obtain ⟨neg, ds, p1, p2, p3⟩ := h.parts
  have hh : (text.head? == some 45) = neg := by
    rw [p3]
    cases neg
    · exact beq_false_of_ne (head_digit p2)
    · rfl
  have hlen : text.length = (if neg then 1 else 0) + ds.length := by rw [p3]; cases neg <;> simp <;> omega
  have htrim : W.strings_TrimPrefix text [45] = some ds := by
    rw [trim_ok text hL]
    cases neg
    · rw [if_neg (by simpa using hh), p3]; rfl
    · rw [if_pos (by simpa using hh), p3]; rfl
  have hdo : W.R_digitsOf text = some (ds.length : Int) := by
    unfold W.R_digitsOf
    rw [(sign_test text).2, bnd_val, hh]
    cases neg
    · rw [br_ff, hlen]; simp
    · rw [br_tt, wrap_i64 (by omega), hlen]; simp; omega
  have hb := dec_bound p2
  have hnat : (dec ds).natAbs < 10 ^ ds.length := by
    have h2 := hb.2
    have : ((10 ^ ds.length : Nat) : Int) = (10 : Int) ^ ds.length := by rw [Int.natCast_pow]; rfl
    omega
  refine ⟨ds, if neg then - dec ds else dec ds, p2, p1, by rw [hlen]; split <;> omega, ?_, by cases neg <;> simpa using hnat, htrim, hdo, fun hs => ?_⟩
  · rcases h with rfl | ⟨neg', ds', q1, q2, q3, q4⟩
    · have : ds = [48] ∧ neg = false := by
        cases neg
        · exact ⟨by simpa using p3.symm, rfl⟩
        · simp at p3
      rw [this.1, this.2]
      exact Or.inl ⟨rfl, rfl⟩
    · have hsame : neg' = neg ∧ ds' = ds := by
        have e : (if neg then [45] else []) ++ ds = (if neg' then [45] else []) ++ ds' := by rw [← p3, q4]
        cases neg <;> cases neg'
        · exact ⟨rfl, by simpa using e.symm⟩
        · exfalso
          have := head_digit p2
          rw [show ds = 45 :: ds' by simpa using e] at this
          simp at this
        · exfalso
          have := head_digit q2
          rw [show ds' = 45 :: ds by simpa using e.symm] at this
          simp at this
        · exact ⟨rfl, by simpa using e.symm⟩
      obtain ⟨rfl, rfl⟩ := hsame
      have hge := dec_ge q2 q1 q3
      have hp : (0 : Int) < 10 ^ (ds'.length - 1) := Int.pow_pos (by decide)
      refine Or.inr ⟨by cases neg' <;> simp <;> omega, ds', ⟨q2, q1, q3, by cases neg' <;> simp <;> omega⟩, ?_⟩
      rw [q4]
      cases neg'
      · have : ¬ dec ds' < 0 := by omega
        simp [this]
      · have : - dec ds' < 0 := by omega
        rw [if_pos rfl, if_pos rfl, if_pos this]
  · obtain ⟨m, q1, q2, q3, q4⟩ := digits_ok ds p2 (by omega)
    obtain ⟨r, s1, s2, s3⟩ := made_ok (decide ((ds.length : Int) < (text.length : Int))) m q2 (by omega)
    have hneg : decide ((ds.length : Int) < (text.length : Int)) = neg := by
      rw [hlen]; cases neg <;> simp <;> omega
    obtain ⟨w, t1, t2, t3, t4⟩ := zdigits_ok ds p2 (by omega)
    obtain ⟨z, u1, u2, u3⟩ := zmade_ok neg w.2 t2 (by omega)
    have hz : W.R_zread text = some z := by
      unfold W.R_zread
      rw [(sign_test text).1, bnd_val, hh]
      have : W.R_zread.c208197 text neg Option.some = some ds := by
        unfold W.R_zread.c208197
        cases neg
        · rw [br_ff, p3]; rfl
        · rw [br_tt, okIf_true (by rw [hlen]; simp; omega), bnd_val, Int.toNat_natCast, List.take_length, p3]; rfl
      rw [this, bnd_val, t1, bnd_val, u1]; rfl
    refine ⟨r, z, ?_, ?_, hz, by rw [hneg, q4] at s2; exact s2, by rw [t4] at u2; exact u2, by omega, by omega⟩
    · unfold W.whole_Parse
      have c2 : W.whole_Parse.c2 text (text.length : Int) true Option.some = some false := by
        unfold W.whole_Parse.c2
        simp [br]
      rw [n1, bnd_val]
      simp only
      rw [c2, bnd_val, br_ff, htrim, bnd_val, br_neg (by omega), q1, bnd_val, s1]; rfl
    · unfold W.R_ZParse
      have c2 : W.R_ZParse.c2 text (text.length : Int) true Option.some = some false := by
        unfold W.R_ZParse.c2
        simp [br]
      rw [n2, bnd_val]
      simp only
      rw [c2, bnd_val, br_ff, hdo, bnd_val, br_neg (by omega), hz]; rfl
/-- Each text: it is a number's, of at most 1000 digits; or both say the same fault. -/
theorem parses (text : List UInt8) (hL : text.length ≤ 9223372036854775807) :
    (∃ ds v, Said text ds v ∧ ds.length ≤ 1000) ∨ ∃ f : Int × Int, f.1 ≠ 0 ∧ W.whole_Parse text = some ((false, []), f) ∧ W.R_ZParse text = some ((false, []), f) := by
  obtain ⟨n1, n2⟩ := number_ok true text hL
  have hle := numLen_le true text
  by_cases h : (numLen true text).2 = true ∧ text.length ≤ (numLen true text).1
  · have hc : Canon text := by
      have := (numLen_canon h.1).1
      rwa [List.take_of_length_le h.2] at this
    obtain ⟨ds, v, hs⟩ := hc.said hL
    by_cases hd : ds.length ≤ 1000
    · exact Or.inl ⟨ds, v, hs, hd⟩
    · right
      refine ⟨(2, 0), by decide, ?_, ?_⟩
      · unfold W.whole_Parse
        have c2 : W.whole_Parse.c2 text ((numLen true text).1 : Int) true Option.some = some false := by
          unfold W.whole_Parse.c2
          simp [br]; omega
        rw [n1, h.1, bnd_val]
        simp only
        rw [c2, bnd_val, br_ff, hs.trim, bnd_val, br_pos (by omega)]
      · unfold W.R_ZParse
        have c2 : W.R_ZParse.c2 text ((numLen true text).1 : Int) true Option.some = some false := by
          unfold W.R_ZParse.c2
          simp [br]; omega
        rw [n2, h.1, bnd_val]
        simp only
        rw [c2, bnd_val, br_ff, hs.of, bnd_val, br_pos (by omega)]
  · right
    refine ⟨(1, ((numLen true text).1 : Int)), by simp, ?_, ?_⟩
    · unfold W.whole_Parse
      have c2 : W.whole_Parse.c2 text ((numLen true text).1 : Int) (numLen true text).2 Option.some = some true := by
        unfold W.whole_Parse.c2
        cases h2 : (numLen true text).2
        · rfl
        · rw [Bool.not_true, br_ff, decide_eq_true]
          have : ¬ text.length ≤ (numLen true text).1 := fun h3 => h ⟨h2, h3⟩
          omega
      rw [n1, bnd_val]
      simp only
      rw [c2, bnd_val, br_tt]
    · unfold W.R_ZParse
      have c2 : W.R_ZParse.c2 text ((numLen true text).1 : Int) (numLen true text).2 Option.some = some true := by
        unfold W.R_ZParse.c2
        cases h2 : (numLen true text).2
        · rfl
        · rw [Bool.not_true, br_ff, decide_eq_true]
          have : ¬ text.length ≤ (numLen true text).1 := fun h3 => h ⟨h2, h3⟩
          omega
      rw [n2, bnd_val]
      simp only
      rw [c2, bnd_val, br_tt]
/-- A number that is not too long: its text is read again. -/
theorem Txt.canon {v : Int} {l : List UInt8} (h : Txt v l) : Canon l := by
  rcases h with ⟨_, rfl⟩ | ⟨h0, D, ⟨d1, d2, d3, d4⟩, rfl⟩
  · exact Or.inl rfl
  · by_cases hv : v < 0
    · exact Or.inr ⟨true, D, d2, d1, d3, by simp [hv]⟩
    · exact Or.inr ⟨false, D, d2, d1, d3, by simp [hv]⟩
theorem Txt.inj {u v : Int} {l : List UInt8} (h : Txt u l) (k : Txt v l) : u = v := by
  rcases h with ⟨h0, rfl⟩ | ⟨h0, D, ⟨d1, d2, d3, d4⟩, rfl⟩
  · rcases k with ⟨k0, _⟩ | ⟨k0, E, ⟨e1, e2, e3, e4⟩, h⟩
    · omega
    · exfalso
      split at h
      · cases h
      · simp only [List.nil_append] at h
        rw [← h] at e3
        simp at e3
  · rcases k with ⟨k0, h⟩ | ⟨k0, E, ⟨e1, e2, e3, e4⟩, h⟩
    · exfalso
      split at h
      · cases h
      · simp only [List.nil_append] at h
        rw [h] at d3
        simp at d3
    · by_cases hu : u < 0 <;> by_cases hv : v < 0
      · simp [hu, hv] at h
        rw [h] at d4; omega
      · exfalso
        simp only [hu, hv, if_true, if_false, List.nil_append, List.cons_append] at h
        have := head_digit e1
        rw [← h] at this; simp at this
      · exfalso
        simp only [hu, hv, if_true, if_false, List.nil_append, List.cons_append] at h
        have := head_digit d1
        rw [h] at this; simp at this
      · simp [hu, hv] at h
        rw [h] at d4; omega
theorem IsDec.len {D : List UInt8} {v : Int} {n : Nat} (h : IsDec D v) (hv : v < 10 ^ n) : D.length ≤ n := by
  obtain ⟨d1, d2, d3, d4⟩ := h
  have := dec_ge d1 d2 d3
  rcases Nat.lt_or_ge n D.length with hc | hc
  · have : (10 : Int) ^ n ≤ 10 ^ (D.length - 1) := pow_le (by decide) (by omega)
    omega
  · exact hc
theorem Txt.back {v : Int} {l : List UInt8} {n : Nat} (h : Txt v l) (hn : n ≤ 1000) (hv : v.natAbs < 10 ^ n) :
    ∃ x z, W.whole_Parse l = some (x, (0, 0)) ∧ W.R_ZParse l = some (z, (0, 0)) ∧ Rep 4294967296 x v ∧ Rep 10000 z v ∧ x.2.length ≤ 1000 ∧ z.2.length ≤ 1000 := by
  have hlen : l.length ≤ 1001 := by
    rcases h with ⟨_, rfl⟩ | ⟨h0, D, hd, rfl⟩
    · simp
    · have := hd.len (n := n) (by
        have : ((10 ^ n : Nat) : Int) = (10 : Int) ^ n := by rw [Int.natCast_pow]; rfl
        omega)
      rw [List.length_append]
      split <;> simp <;> omega
  obtain ⟨ds, w, hs⟩ := h.canon.said (by omega)
  have hw : w = v := hs.txt.inj h
  subst hw
  have hds : ds.length ≤ 1000 := by
    rcases h with ⟨h0, hl⟩ | ⟨h0, D, hd, hl⟩
    · have := hs.trim
      rw [hl, trim_ok _ (by simp)] at this
      have := Option.some.inj this
      rw [← this]; decide
    · have h1 := hd.len (n := n) (by
        have : ((10 ^ n : Nat) : Int) = (10 : Int) ^ n := by rw [Int.natCast_pow]; rfl
        omega)
      have := hs.trim
      rw [trim_ok _ (by omega)] at this
      have h2 := Option.some.inj this
      rw [← h2, hl]
      by_cases hv0 : w < 0
      · simp [hv0]; omega
      · simp only [hv0, if_false, List.nil_append]
        rw [if_neg (head_digit hd.1)]
        omega
  obtain ⟨x, z, r1, r2, r3, r4, r5, r6, r7⟩ := hs.rd hds
  exact ⟨x, z, r1, r2, r4, r5, r6, r7⟩
end Go.Ql
end
end
