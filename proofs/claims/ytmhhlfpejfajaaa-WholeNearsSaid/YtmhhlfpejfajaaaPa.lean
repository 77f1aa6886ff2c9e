/- Plain laws: loops, digits, sums. -/
import Derived.Test.YtmhhlfpejfajaaaLf
import Derived.IntWalk
import Derived.Test.YtmhhlfpejfajaaaWb
section
/- Plain laws about the lifted functions: loops, numbers in places. -/
namespace Go.Ql
section
variable {S R : Type} {f : S → Option (S ⊕ R)}
theorem iter_inr {s : S} {r : R} (h : f s = some (.inr r)) : iter f s = some r := iter_of (n := 1) (by simp [iterN, h])
theorem iter_inl {s s' : S} {r : R} (h : f s = some (.inl s')) (h' : iter f s' = some r) : iter f s = some r := by
  obtain ⟨n, hn⟩ := iter_some h'
  exact iter_of (n := n + 1) (by simp [iterN, h, hn])
/-- A loop with a measure: from each state that keeps J a round ends it, or makes the measure less. -/
theorem iter_loop {J : S → Prop} {Q : R → Prop} (m : S → Nat) (hstep : ∀ s, J s → (∃ r, f s = some (.inr r) ∧ Q r) ∨ ∃ s', f s = some (.inl s') ∧ J s' ∧ m s' < m s) {s : S} (h : J s) : ∃ r, iter f s = some r ∧ Q r := by
  have key : ∀ (k : Nat) (s : S), m s ≤ k → J s → ∃ r, iter f s = some r ∧ Q r := by
    intro k
    induction k with
    | zero =>
      intro s hk hj
      rcases hstep s hj with ⟨r, h1, h2⟩ | ⟨s', h1, h2, h3⟩
      · exact ⟨r, iter_inr h1, h2⟩
      · omega
    | succ k ih =>
      intro s hk hj
      rcases hstep s hj with ⟨r, h1, h2⟩ | ⟨s', h1, h2, h3⟩
      · exact ⟨r, iter_inr h1, h2⟩
      · obtain ⟨r, h4, h5⟩ := ih s' (by omega) h2
        exact ⟨r, iter_inl h1 h4, h5⟩
  exact key (m s) s (Nat.le_refl _) h
end
theorem bnd_of {α β : Type} {p : Option α} {x : α} {k : α → Option β} {r : Option β} (h : p = some x) (h' : k x = r) : bnd p k = r := by rw [h]; exact h'
theorem bnd_val {α β : Type} {x : α} {k : α → Option β} : bnd (some x) k = k x := rfl
theorem br_true {α : Type} {x y : α} {b : Bool} (h : b = true) : br b x y = x := by rw [h]; rfl
theorem br_false {α : Type} {x y : α} {b : Bool} (h : b = false) : br b x y = y := by rw [h]; rfl
theorem br_pos {α : Type} {x y : α} {p : Prop} [Decidable p] (h : p) : br (decide p) x y = x := br_true (decide_eq_true h)
theorem br_neg {α : Type} {x y : α} {p : Prop} [Decidable p] (h : ¬ p) : br (decide p) x y = y := br_false (decide_eq_false h)
theorem okIf_true {b : Bool} (h : b = true) : okIf b = some () := by rw [h]; rfl
theorem idx_of {xs : List Int} {i : Int} (n : Nat) (hi : i = n) (h : n < xs.length) : idx xs i = some (xs.getD n 0) := by
  subst hi
  unfold idx
  simp [h]
theorem inR_of {n : Nat} {i : Int} (h0 : 0 ≤ i) (h : i < (n : Int)) : inR n i = some () := by
  unfold inR
  simp [h0, h]

/-! ## Wraps -/
theorem wrap_i64 {x : Int} (h : -9223372036854775808 ≤ x ∧ x ≤ 9223372036854775807) : IntKind.i64.wrap x = x := IntWalk.i64_in _ (by omega)
theorem wrap_u64 {x : Int} (h : 0 ≤ x ∧ x < 18446744073709551616) : IntKind.u64.wrap x = x := IntWalk.u64_in _ (by omega)
theorem wrap_u32 {x : Int} (h : 0 ≤ x ∧ x < 4294967296) : IntKind.u32.wrap x = x := IntWalk.u32_in _ (by omega)
theorem wrap_u32_mod {x : Int} : IntKind.u32.wrap x = x % 4294967296 := by
  simp [IntKind.wrap, IntKind.signed, IntKind.bits]

/-! ## Numbers in places -/
/-- The number that digits say in base B, the lowest first. -/
def val (B : Int) : List Int → Int
  | [] => 0
  | d :: l => d + B * val B l
def Dig (B : Int) (l : List Int) : Prop := ∀ d ∈ l, 0 ≤ d ∧ d < B

theorem val_append (B : Int) (m : List Int) : ∀ l : List Int, val B (l ++ m) = val B l + B ^ l.length * val B m
  | [] => by simp [val]
  | d :: l => by
    simp only [List.cons_append, val, val_append B m l, List.length_cons, Int.pow_succ]
    grind
theorem val_snoc (B : Int) (l : List Int) (d : Int) : val B (l ++ [d]) = val B l + B ^ l.length * d := by
  rw [val_append]; simp [val]
theorem Dig.nil {B : Int} : Dig B [] := fun _ h => by cases h
theorem Dig.cons {B d : Int} {l : List Int} (h : 0 ≤ d ∧ d < B) (hl : Dig B l) : Dig B (d :: l) := fun x hx => by
  rcases List.mem_cons.1 hx with rfl | hx
  · exact h
  · exact hl x hx
theorem Dig.append {B : Int} {l m : List Int} (hl : Dig B l) (hm : Dig B m) : Dig B (l ++ m) := fun x hx => by
  rcases List.mem_append.1 hx with hx | hx
  · exact hl x hx
  · exact hm x hx
theorem Dig.head {B d : Int} {l : List Int} (h : Dig B (d :: l)) : 0 ≤ d ∧ d < B := h d (List.mem_cons_self ..)
theorem Dig.tail {B d : Int} {l : List Int} (h : Dig B (d :: l)) : Dig B l := fun x hx => h x (List.mem_cons_of_mem _ hx)
theorem Dig.take {B : Int} {l : List Int} (h : Dig B l) (n : Nat) : Dig B (l.take n) := fun x hx => h x (List.mem_of_mem_take hx)
theorem Dig.drop {B : Int} {l : List Int} (h : Dig B l) (n : Nat) : Dig B (l.drop n) := fun x hx => h x (List.mem_of_mem_drop hx)
theorem Dig.getD {B : Int} {l : List Int} (hB : 0 < B) (h : Dig B l) (i : Nat) : 0 ≤ l.getD i 0 ∧ l.getD i 0 < B := by
  by_cases hi : i < l.length
  · simp only [List.getD, List.getElem?_eq_getElem hi, Option.getD_some]
    exact h _ (List.getElem_mem hi)
  · rw [List.getD, List.getElem?_eq_none (by omega : l.length ≤ i), Option.getD_none]
    omega
theorem Dig.set {B x : Int} {l : List Int} (h : Dig B l) (hx : 0 ≤ x ∧ x < B) (i : Nat) : Dig B (l.set i x) := fun y hy => by
  rcases List.mem_or_eq_of_mem_set hy with hy | rfl
  · exact h y hy
  · exact hx
theorem Dig.replicate {B : Int} (hB : 0 < B) (n : Nat) : Dig B (List.replicate n 0) := fun x hx => by
  rw [(List.mem_replicate.1 hx).2]; omega
theorem val_replicate (B : Int) : ∀ n : Nat, val B (List.replicate n 0) = 0
  | 0 => rfl
  | n + 1 => by simp [List.replicate_succ, val, val_replicate B n]
theorem val_nonneg {B : Int} (hB : 0 ≤ B) : ∀ {l : List Int}, Dig B l → 0 ≤ val B l
  | [], _ => Int.le_refl 0
  | d :: l, h => by
    have h1 := val_nonneg hB h.tail
    have h2 := h.head
    have h3 := Int.mul_nonneg hB h1
    simp only [val]
    omega
theorem val_lt {B : Int} (hB : 0 < B) : ∀ {l : List Int}, Dig B l → val B l < B ^ l.length
  | [], _ => by simp [val]
  | d :: l, h => by
    have h1 := val_lt hB h.tail
    have h2 := h.head
    have h3 : B * (val B l + 1) ≤ B * B ^ l.length := Int.mul_le_mul_of_nonneg_left (by omega) (by omega)
    simp only [val, List.length_cons, Int.pow_succ]
    rw [Int.mul_comm (B ^ l.length) B]
    rw [Int.mul_add] at h3
    omega
theorem val_take_succ (B : Int) : ∀ (i : Nat) (l : List Int), val B (l.take (i + 1)) = val B (l.take i) + B ^ i * l.getD i 0
  | _, [] => by simp [val]
  | 0, d :: l => by simp [val]
  | i + 1, d :: l => by
    have h := val_take_succ B i l
    simp only [List.take_succ_cons, val, List.getD_cons_succ, Int.pow_succ] at h ⊢
    rw [h]
    grind
theorem val_set (B x : Int) : ∀ (i : Nat) (l : List Int), i < l.length → val B (l.set i x) = val B l + B ^ i * (x - l.getD i 0)
  | _, [], h => by simp at h
  | 0, d :: l, _ => by simp [val]; omega
  | i + 1, d :: l, h => by
    have h := val_set B x i l (by simpa using h)
    simp only [List.set_cons_succ, val, List.getD_cons_succ, Int.pow_succ] at h ⊢
    rw [h]
    grind
theorem getD_set {l : List Int} {i j : Nat} {x : Int} (h : i < l.length) : (l.set i x).getD j 0 = if i = j then x else l.getD j 0 := by
  simp only [List.getD, List.getElem?_set]
  by_cases hij : i = j
  · subst hij; simp [h]
  · simp [hij]
theorem getD_replicate (n j : Nat) : (List.replicate n (0 : Int)).getD j 0 = 0 := by
  simp only [List.getD, List.getElem?_replicate]
  split <;> rfl
theorem pow_pos {B : Int} (hB : 0 < B) (n : Nat) : 0 < B ^ n := Int.pow_pos hB
end Go.Ql
end

section
/- What the whole numbers' small functions compute: trimming, sums, differences, order. -/
namespace Go.Ql
theorem br_tt {α : Type} {x y : α} : br true x y = x := rfl
theorem br_ff {α : Type} {x y : α} : br false x y = y := rfl

/-- A sign and digits that say the number v, in the one way. -/
structure Rep (B : Int) (x : Bool × List Int) (v : Int) : Prop where
  dig : Dig B x.2
  last : x.2 ≠ [] → x.2.getD (x.2.length - 1) 0 ≠ 0
  neg : x.1 = true → x.2 ≠ []
  val : v = if x.1 then - val B x.2 else val B x.2

theorem val_take_len (B : Int) {l : List Int} {n : Nat} (h : l.length ≤ n) : val B (l.take n) = val B l := by rw [List.take_of_length_le h]

theorem made_ok {B : Int} (neg : Bool) (mag : List Int) (h : Dig B mag) (hl : mag.length < 1000000000000) :
    ∃ r, W.whole_made neg mag = some r ∧ Rep B r (if neg then - val B mag else val B mag) ∧ r.2.length ≤ mag.length := by
  obtain ⟨n, h1, k, rfl, hk, hv, hz⟩ := iter_loop (f := fun s ↦ W.whole_made.c100002 mag s Option.some)
    (J := fun n : Int => ∃ k : Nat, n = k ∧ k ≤ mag.length ∧ val B (mag.take k) = val B mag)
    (Q := fun n : Int => ∃ k : Nat, n = k ∧ k ≤ mag.length ∧ val B (mag.take k) = val B mag ∧ (k ≠ 0 → mag.getD (k - 1) 0 ≠ 0))
    Int.toNat (fun s ⟨k, hs, hk, hv⟩ => by
      subst hs
      simp only [W.whole_made.c100002, W.whole_made.c2]
      by_cases h0 : k = 0
      · subst h0
        exact Or.inl ⟨_, by simp [br_ff, bnd_val], 0, rfl, hk, hv, fun h => absurd rfl h⟩
      · have hw : IntKind.i64.wrap ((k : Int) - 1) = ((k - 1 : Nat) : Int) := by rw [wrap_i64 (by omega)]; omega
        have e1 := idx_of (xs := mag) (k - 1) hw (by omega)
        rw [e1, hw]
        simp only [bnd_val, decide_eq_true (by omega : (k : Int) > 0), br_tt]
        by_cases hz : mag.getD (k - 1) 0 = 0
        · refine Or.inr ⟨_, by rw [hz]; rfl, ⟨k - 1, rfl, by omega, ?_⟩, by omega⟩
          have := val_take_succ B (k - 1) mag
          rw [hz, show k - 1 + 1 = k by omega, Int.mul_zero] at this
          omega
        · exact Or.inl ⟨_, by rw [beq_false_of_ne hz]; rfl, k, rfl, hk, hv, fun _ => hz⟩)
    (s := (mag.length : Int)) ⟨mag.length, rfl, Nat.le_refl _, val_take_len B (Nat.le_refl _)⟩
  unfold W.whole_made
  rw [h1]
  simp only [bnd_val]
  by_cases h0 : k = 0
  · subst h0
    refine ⟨(false, []), by simp [br_tt], ⟨Dig.nil, by simp, by simp, ?_⟩, by simp⟩
    simp only [List.take_zero, val] at hv
    rw [← hv]; simp [val]
  · refine ⟨(neg, mag.take k), ?_, ⟨h.take k, fun _ => ?_, fun _ e => ?_, ?_⟩, by simp only [List.length_take]; omega⟩
    · have : ((k : Int) == 0) = false := beq_false_of_ne (by omega)
      simp only [this, br_ff]
      rw [okIf_true (by simp; omega)]
      rfl
    · have hlen : (mag.take k).length = k := by rw [List.length_take]; omega
      have := hz h0
      rw [hlen]
      simp only [List.getD, List.getElem?_take] at this ⊢
      rw [if_pos (by omega)]
      exact this
    · have : (mag.take k).length = 0 := congrArg List.length e
      rw [List.length_take] at this
      omega
    · simp only [hv]
theorem zmade_ok {B : Int} (neg : Bool) (mag : List Int) (h : Dig B mag) (hl : mag.length < 1000000000000) :
    ∃ r, W.R_zmade neg mag = some r ∧ Rep B r (if neg then - val B mag else val B mag) ∧ r.2.length ≤ mag.length := by
  obtain ⟨n, h1, k, rfl, hk, hv, hz⟩ := iter_loop (f := fun s ↦ W.R_zmade.c100002 mag s Option.some)
    (J := fun n : Int => ∃ k : Nat, n = k ∧ k ≤ mag.length ∧ val B (mag.take k) = val B mag)
    (Q := fun n : Int => ∃ k : Nat, n = k ∧ k ≤ mag.length ∧ val B (mag.take k) = val B mag ∧ (k ≠ 0 → mag.getD (k - 1) 0 ≠ 0))
    Int.toNat (fun s ⟨k, hs, hk, hv⟩ => by
      subst hs
      simp only [W.R_zmade.c100002, W.R_zmade.c2]
      by_cases h0 : k = 0
      · subst h0
        exact Or.inl ⟨_, by simp [br_ff, bnd_val], 0, rfl, hk, hv, fun h => absurd rfl h⟩
      · have hw : IntKind.i64.wrap ((k : Int) - 1) = ((k - 1 : Nat) : Int) := by rw [wrap_i64 (by omega)]; omega
        have e1 := idx_of (xs := mag) (k - 1) hw (by omega)
        rw [e1, hw]
        simp only [bnd_val, decide_eq_true (by omega : (k : Int) > 0), br_tt]
        by_cases hz : mag.getD (k - 1) 0 = 0
        · refine Or.inr ⟨_, by rw [hz]; rfl, ⟨k - 1, rfl, by omega, ?_⟩, by omega⟩
          have := val_take_succ B (k - 1) mag
          rw [hz, show k - 1 + 1 = k by omega, Int.mul_zero] at this
          omega
        · exact Or.inl ⟨_, by rw [beq_false_of_ne hz]; rfl, k, rfl, hk, hv, fun _ => hz⟩)
    (s := (mag.length : Int)) ⟨mag.length, rfl, Nat.le_refl _, val_take_len B (Nat.le_refl _)⟩
  unfold W.R_zmade
  rw [h1]
  simp only [bnd_val]
  by_cases h0 : k = 0
  · subst h0
    refine ⟨(false, []), by simp [br_tt], ⟨Dig.nil, by simp, by simp, ?_⟩, by simp⟩
    simp only [List.take_zero, val] at hv
    rw [← hv]; simp [val]
  · refine ⟨(neg, mag.take k), ?_, ⟨h.take k, fun _ => ?_, fun _ e => ?_, ?_⟩, by simp only [List.length_take]; omega⟩
    · have : ((k : Int) == 0) = false := beq_false_of_ne (by omega)
      simp only [this, br_ff]
      rw [okIf_true (by simp; omega)]
      rfl
    · have hlen : (mag.take k).length = k := by rw [List.length_take]; omega
      have := hz h0
      rw [hlen]
      simp only [List.getD, List.getElem?_take] at this ⊢
      rw [if_pos (by omega)]
      exact this
    · have : (mag.take k).length = 0 := congrArg List.length e
      rw [List.length_take] at this
      omega
    · simp only [hv]
end Go.Ql
end

section
/- Sums of digits. -/
namespace Go.Ql
theorem add32_ok {x y c : Int} (hx : 0 ≤ x ∧ x < 4294967296) (hy : 0 ≤ y ∧ y < 4294967296) (hc : 0 ≤ c ∧ c ≤ 1) :
    W.bits_Add32 x y c = some ((x + y + c) % 4294967296, (x + y + c) / 4294967296) := by
  unfold W.bits_Add32
  rw [wrap_u64 (x := x) (by omega), wrap_u64 (x := y) (by omega), wrap_u64 (x := c) (by omega), wrap_u64 (x := x + y) (by omega), wrap_u64 (x := x + y + c) (by omega), wrap_u32_mod, Int.fdiv_eq_ediv_of_nonneg _ (by decide)]
  rw [show ((2 : Int) ^ (32 : Nat)) = 4294967296 from by decide, wrap_u32 (by omega)]

theorem sum_ok (a b : List Int) (ha : Dig 4294967296 a) (hb : Dig 4294967296 b) (la : a.length < 1000000000) (lb : b.length < 1000000000) :
    ∃ t, W.whole_sum a b = some t ∧ Dig 4294967296 t ∧ t.length ≤ a.length + b.length + 1 ∧ val 4294967296 t = val 4294967296 a + val 4294967296 b := by
  have key : ∀ a b : List Int, Dig 4294967296 a → Dig 4294967296 b → a.length < 1000000000 → b.length ≤ a.length →
      ∃ t, (bnd (Go.Ql.iter (fun s ↦ W.whole_sum.c100006 b (Prod.fst s) a (a.length : Int) (Prod.fst (Prod.snd s)) (Prod.snd (Prod.snd s)) Option.some) ((0 : Int), (0 : Int), List.replicate (Int.toNat (IntKind.i64.wrap ((a.length : Int) + 1))) (0 : Int))) fun y_2 =>
        bnd (Go.Ql.inR (List.length (Prod.snd (Prod.snd y_2))) (a.length : Int)) fun y_3 =>
        bnd (Go.Ql.idx (Prod.snd (Prod.snd y_2)) (a.length : Int)) fun y_4 =>
        some (List.set (Prod.snd (Prod.snd y_2)) (Int.toNat (a.length : Int)) (Prod.fst y_2))) = some t ∧ Dig 4294967296 t ∧ t.length = a.length + 1 ∧ val 4294967296 t = val 4294967296 a + val 4294967296 b := by
    intro a b ha hb la lb
    obtain ⟨⟨c, i, t⟩, h1, hc, ht, hd, hv⟩ := iter_loop
      (f := fun s : Int × Int × List Int ↦ W.whole_sum.c100006 b (Prod.fst s) a (a.length : Int) (Prod.fst (Prod.snd s)) (Prod.snd (Prod.snd s)) Option.some)
      (J := fun s => (0 ≤ s.1 ∧ s.1 ≤ 1) ∧ ∃ i : Nat, s.2.1 = i ∧ i ≤ a.length ∧ s.2.2.length = a.length + 1 ∧ Dig 4294967296 s.2.2 ∧ (∀ j, i ≤ j → s.2.2.getD j 0 = 0) ∧ val 4294967296 s.2.2 + s.1 * 4294967296 ^ i = val 4294967296 (a.take i) + val 4294967296 (b.take i))
      (Q := fun s => (0 ≤ s.1 ∧ s.1 ≤ 1) ∧ s.2.2.length = a.length + 1 ∧ Dig 4294967296 s.2.2 ∧ s.2.2.getD a.length 0 = 0 ∧ val 4294967296 s.2.2 + s.1 * 4294967296 ^ a.length = val 4294967296 a + val 4294967296 b)
      (fun s => a.length - s.2.1.toNat) (fun ⟨c, i', t⟩ ⟨hc, i, hi, hil, ht, hd, hz, hv⟩ => by
        simp only at hc hi ht hd hz hv ⊢
        subst hi
        simp only [W.whole_sum.c100006]
        by_cases h0 : i < a.length
        · have e2 : W.whole_sum.c236869 b (i : Int) 0 Option.some = some (b.getD i 0) := by
            unfold W.whole_sum.c236869
            by_cases hb' : i < b.length
            · rw [br_pos (by omega), idx_of i rfl hb']; rfl
            · rw [br_neg (by omega), List.getD, List.getElem?_eq_none (by omega : b.length ≤ i)]; rfl
          have dx := ha.getD (by decide) i
          have dy := hb.getD (by decide) i
          have hw : IntKind.i64.wrap ((i : Int) + 1) = ((i + 1 : Nat) : Int) := by rw [wrap_i64 (by omega)]; omega
          refine Or.inr ⟨(_, _, _), by rw [br_pos (by omega), idx_of i rfl h0, bnd_val, e2, bnd_val, add32_ok dx dy hc, bnd_val, inR_of (by omega) (by omega), bnd_val, idx_of i rfl (by omega), bnd_val, hw, Int.toNat_natCast], ⟨?_, i + 1, rfl, by omega, by simpa using ht, ?_, ?_, ?_⟩, by show a.length - ((i + 1 : Nat) : Int).toNat < a.length - (i : Int).toNat; omega⟩
          · simp only; omega
          · exact hd.set (by omega) i
          · intro j hj
            simp only
            rw [getD_set (by omega), if_neg (by omega)]
            exact hz j (by omega)
          · have v1 := val_take_succ 4294967296 i a
            have v2 := val_take_succ 4294967296 i b
            have v3 := val_set 4294967296 ((a.getD i 0 + b.getD i 0 + c) % 4294967296) i t (by omega)
            have v4 := hz i (Nat.le_refl _)
            have v5 : a.getD i 0 + b.getD i 0 + c = (a.getD i 0 + b.getD i 0 + c) % 4294967296 + 4294967296 * ((a.getD i 0 + b.getD i 0 + c) / 4294967296) := (Int.emod_add_mul_ediv _ _).symm
            simp only [Int.pow_succ]
            rw [v1, v2, v3, v4]
            generalize (4294967296 : Int) ^ i = P at *
            generalize (a.getD i 0 + b.getD i 0 + c) % 4294967296 = r at *
            generalize (a.getD i 0 + b.getD i 0 + c) / 4294967296 = q at *
            generalize a.getD i 0 = x at *
            generalize b.getD i 0 = y at *
            grind
        · have e : i = a.length := by omega
          subst e
          refine Or.inl ⟨(_, _, _), by rw [br_neg (by omega)], hc, ht, hd, hz _ (Nat.le_refl _), ?_⟩
          rw [val_take_len _ (Nat.le_refl _), val_take_len _ lb] at hv
          exact hv)
      (s := ((0 : Int), (0 : Int), List.replicate (Int.toNat (IntKind.i64.wrap ((a.length : Int) + 1))) (0 : Int)))
      ⟨by simp, 0, rfl, by omega, by rw [wrap_i64 (by omega)]; simp <;> omega, Dig.replicate (by decide) _, fun j _ => getD_replicate _ _, by simp [val_replicate, val]⟩
    simp only at hc ht hd hv
    rw [h1]
    obtain ⟨hd, hz, hv⟩ := And.intro hd hv
    refine ⟨_, by rw [bnd_val, inR_of (by omega) (by simp only; omega), bnd_val, idx_of a.length rfl (by simp only; omega), bnd_val], hd.set (by simp only; omega) _, by simpa using ht, ?_⟩
    simp only [Int.toNat_natCast]
    rw [val_set _ _ _ _ (by omega), hz, ← hv]
    grind
  unfold W.whole_sum W.whole_sum.c204101
  by_cases h : a.length < b.length
  · obtain ⟨t, h1, h2, h3, h4⟩ := key b a hb ha lb (by omega)
    refine ⟨t, ?_, h2, by omega, by omega⟩
    rw [br_pos (by omega), bnd_val]
    simp only
    rw [okIf_true (by rw [wrap_i64 (by omega)]; simp; try omega), bnd_val]
    exact h1
  · obtain ⟨t, h1, h2, h3, h4⟩ := key a b ha hb la (by omega)
    refine ⟨t, ?_, h2, by omega, by omega⟩
    rw [br_neg (by omega), bnd_val]
    simp only
    rw [okIf_true (by rw [wrap_i64 (by omega)]; simp; try omega), bnd_val]
    exact h1
end Go.Ql
end

section
/- Sums and differences of the reference's digits. -/
namespace Go.Ql
theorem tdiv_pos {x d : Int} (h : 0 ≤ x) : Int.tdiv x d = x / d := Int.tdiv_eq_ediv_of_nonneg h
theorem tmod_pos {x d : Int} (h : 0 ≤ x) : Int.tmod x d = x % d := Int.tmod_eq_emod_of_nonneg h
theorem getD_out {l : List Int} {i : Nat} (h : l.length ≤ i) : l.getD i 0 = 0 := by rw [List.getD, List.getElem?_eq_none h]; rfl

theorem dadd_ok (a b : List Int) (ha : Dig 10000 a) (hb : Dig 10000 b) (la : a.length < 1000000000) (lb : b.length < 1000000000) :
    ∃ t, W.R_dadd a b = some t ∧ Dig 10000 t ∧ t.length ≤ a.length + b.length + 1 ∧ val 10000 t = val 10000 a + val 10000 b := by
  obtain ⟨⟨c, i, t⟩, h1, hd, hl, hv⟩ := iter_loop
    (f := fun s : Int × Int × List Int ↦ W.R_dadd.c100004 a b (Prod.fst s) (Prod.fst (Prod.snd s)) (Prod.snd (Prod.snd s)) Option.some)
    (J := fun s => (0 ≤ s.1 ∧ s.1 ≤ 1) ∧ s.2.1 = s.2.2.length ∧ Dig 10000 s.2.2 ∧ s.2.2.length ≤ max a.length b.length + 1 ∧ (s.2.2.length = max a.length b.length + 1 → s.1 = 0) ∧ val 10000 s.2.2 + s.1 * 10000 ^ s.2.2.length = val 10000 (a.take s.2.2.length) + val 10000 (b.take s.2.2.length))
    (Q := fun s => Dig 10000 s.2.2 ∧ s.2.2.length ≤ a.length + b.length + 1 ∧ val 10000 s.2.2 = val 10000 a + val 10000 b)
    (fun s => 2 * (max a.length b.length + 1 - s.2.2.length) + s.1.toNat) (fun ⟨c, i', t⟩ ⟨hc, hi, hd, hl, hl0, hv⟩ => by
      simp only at hc hi hd hl hl0 hv ⊢
      subst hi
      simp only [W.R_dadd.c100004]
      have e4 : W.R_dadd.c4 a b c (t.length : Int) Option.some = some (decide (t.length < a.length ∨ t.length < b.length ∨ 0 < c)) := by
        unfold W.R_dadd.c4
        by_cases h1 : t.length < a.length
        · rw [br_pos (by omega)]; simp [h1]
        · rw [br_neg (by omega)]
          by_cases h2 : t.length < b.length
          · rw [br_pos (by omega)]; simp [h2]
          · rw [br_neg (by omega)]; simp [h1, h2]
      rw [e4, bnd_val]
      have dx := ha.getD (by decide) t.length
      have dy := hb.getD (by decide) t.length
      have e5 : W.R_dadd.c224581 a c (t.length : Int) Option.some = some (c + a.getD t.length 0) := by
        unfold W.R_dadd.c224581
        by_cases h1 : t.length < a.length
        · rw [br_pos (by omega), idx_of t.length rfl h1, bnd_val, wrap_i64 (by omega)]
        · rw [br_neg (by omega), getD_out (by omega)]; simp
      have e6 : W.R_dadd.c232773 b (c + a.getD t.length 0) (t.length : Int) Option.some = some (c + a.getD t.length 0 + b.getD t.length 0) := by
        unfold W.R_dadd.c232773
        by_cases h1 : t.length < b.length
        · rw [br_pos (by omega), idx_of t.length rfl h1, bnd_val, wrap_i64 (by omega)]
        · rw [br_neg (by omega), getD_out (l := b) (by omega)]; simp
      by_cases h0 : t.length < a.length ∨ t.length < b.length ∨ 0 < c
      · rw [br_pos h0]
        refine Or.inr ⟨(_, _, _), by rw [e5, bnd_val, e6, bnd_val, okIf_true (by simp; omega), bnd_val, tmod_pos (by omega), tdiv_pos (by omega), wrap_i64 (by omega)], ⟨?_, ?_, ?_, ?_, ?_, ?_⟩, ?_⟩
        · simp only; omega
        · simp only [List.length_append, List.length_singleton]; rw [wrap_i64 (by omega)]; omega
        · exact hd.append (Dig.cons (by omega) Dig.nil)
        · simp only [List.length_append, List.length_singleton]; omega
        · simp only [List.length_append, List.length_singleton]
          intro h2
          have h3 : a.getD t.length 0 = 0 := getD_out (by omega)
          have h4 : b.getD t.length 0 = 0 := getD_out (by omega)
          rw [h3, h4]; omega
        · have v1 := val_take_succ 10000 t.length a
          have v2 := val_take_succ 10000 t.length b
          have v3 := val_snoc 10000 t ((c + a.getD t.length 0 + b.getD t.length 0) % 10000)
          have v5 : c + a.getD t.length 0 + b.getD t.length 0 = (c + a.getD t.length 0 + b.getD t.length 0) % 10000 + 10000 * ((c + a.getD t.length 0 + b.getD t.length 0) / 10000) := (Int.emod_add_mul_ediv _ _).symm
          simp only [List.length_append, List.length_singleton, Int.pow_succ]
          rw [v1, v2, v3]
          generalize (10000 : Int) ^ t.length = P at *
          generalize (c + a.getD t.length 0 + b.getD t.length 0) % 10000 = r at *
          generalize (c + a.getD t.length 0 + b.getD t.length 0) / 10000 = q at *
          generalize a.getD t.length 0 = x at *
          generalize b.getD t.length 0 = y at *
          grind
        · simp only [List.length_append, List.length_singleton]
          by_cases h2 : t.length < max a.length b.length
          · omega
          · have h3 : a.getD t.length 0 = 0 := getD_out (by omega)
            have h4 : b.getD t.length 0 = 0 := getD_out (by omega)
            rw [h3, h4]; omega
      · rw [br_neg h0]
        refine Or.inl ⟨(_, _, _), rfl, hd, by simp only; omega, ?_⟩
        have hc0 : c = 0 := by omega
        subst hc0
        rw [val_take_len _ (by omega), val_take_len _ (by omega)] at hv
        simp only
        omega)
    (s := ((0 : Int), (0 : Int), [])) ⟨by simp, rfl, Dig.nil, by simp, by simp, by simp [val]⟩
  unfold W.R_dadd
  rw [h1]
  exact ⟨t, rfl, hd, hl, hv⟩

theorem dsub_ok (a b : List Int) (ha : Dig 10000 a) (hb : Dig 10000 b) (la : a.length < 1000000000) (lb : b.length ≤ a.length) (hab : val 10000 b ≤ val 10000 a) :
    ∃ t, W.R_dsub a b = some t ∧ Dig 10000 t ∧ t.length = a.length ∧ val 10000 t = val 10000 a - val 10000 b := by
  obtain ⟨⟨c, i, t⟩, h1, hc, hd, hl, hv⟩ := iter_loop
    (f := fun s : Int × Int × List Int ↦ W.R_dsub.c100004 a b (Prod.fst s) (Prod.fst (Prod.snd s)) (Prod.snd (Prod.snd s)) Option.some)
    (J := fun s => (0 ≤ s.1 ∧ s.1 ≤ 1) ∧ s.2.1 = s.2.2.length ∧ Dig 10000 s.2.2 ∧ s.2.2.length ≤ a.length ∧ val 10000 s.2.2 = val 10000 (a.take s.2.2.length) - val 10000 (b.take s.2.2.length) + s.1 * 10000 ^ s.2.2.length)
    (Q := fun s => (0 ≤ s.1 ∧ s.1 ≤ 1) ∧ Dig 10000 s.2.2 ∧ s.2.2.length = a.length ∧ val 10000 s.2.2 = val 10000 a - val 10000 b + s.1 * 10000 ^ a.length)
    (fun s => a.length - s.2.2.length) (fun ⟨c, i', t⟩ ⟨hc, hi, hd, hl, hv⟩ => by
      simp only at hc hi hd hl hv ⊢
      subst hi
      simp only [W.R_dsub.c100004]
      have dx := ha.getD (by decide) t.length
      have dy := hb.getD (by decide) t.length
      by_cases h0 : t.length < a.length
      · have e5 : W.R_dsub.c228677 b (t.length : Int) (a.getD t.length 0 - c) Option.some = some (a.getD t.length 0 - c - b.getD t.length 0) := by
          unfold W.R_dsub.c228677
          by_cases h1 : t.length < b.length
          · rw [br_pos (by omega), idx_of t.length rfl h1, bnd_val, wrap_i64 (by omega)]
          · rw [br_neg (by omega), getD_out (l := b) (by omega)]; simp
        have e6 : W.R_dsub.c240967 0 (a.getD t.length 0 - c - b.getD t.length 0) Option.some = some (-((a.getD t.length 0 - c - b.getD t.length 0) / 10000), (a.getD t.length 0 - c - b.getD t.length 0) % 10000) := by
          unfold W.R_dsub.c240967
          by_cases h1 : a.getD t.length 0 - c - b.getD t.length 0 < 0
          · rw [br_pos h1, wrap_i64 (by omega)]
            congr 1
            ext <;> simp only <;> omega
          · rw [br_neg h1]
            congr 1
            ext <;> simp only <;> omega
        rw [br_pos (by omega)]
        refine Or.inr ⟨(_, _, _), by rw [idx_of t.length rfl h0, bnd_val, wrap_i64 (x := a.getD t.length 0 - c) (by omega), e5, bnd_val, e6, bnd_val, okIf_true (by simp; omega), bnd_val], ⟨?_, ?_, ?_, ?_, ?_⟩, ?_⟩
        · simp only; omega
        · simp only [List.length_append, List.length_singleton]; rw [wrap_i64 (by omega)]; omega
        · exact hd.append (Dig.cons (by simp only; omega) Dig.nil)
        · simp only [List.length_append, List.length_singleton]; omega
        · have v1 := val_take_succ 10000 t.length a
          have v2 := val_take_succ 10000 t.length b
          have v3 := val_snoc 10000 t ((a.getD t.length 0 - c - b.getD t.length 0) % 10000)
          have v5 : a.getD t.length 0 - c - b.getD t.length 0 = (a.getD t.length 0 - c - b.getD t.length 0) % 10000 + 10000 * ((a.getD t.length 0 - c - b.getD t.length 0) / 10000) := (Int.emod_add_mul_ediv _ _).symm
          simp only [List.length_append, List.length_singleton, Int.pow_succ]
          rw [v1, v2, v3]
          generalize (10000 : Int) ^ t.length = P at *
          generalize (a.getD t.length 0 - c - b.getD t.length 0) % 10000 = r at *
          generalize (a.getD t.length 0 - c - b.getD t.length 0) / 10000 = q at *
          generalize a.getD t.length 0 = x at *
          generalize b.getD t.length 0 = y at *
          grind
        · simp only [List.length_append, List.length_singleton]; omega
      · rw [br_neg (by omega)]
        have hl' : t.length = a.length := by omega
        rw [hl', val_take_len _ (Nat.le_refl _), val_take_len _ lb] at hv
        exact Or.inl ⟨(_, _, _), rfl, hc, hd, hl', hv⟩)
    (s := ((0 : Int), (0 : Int), [])) ⟨by simp, rfl, Dig.nil, by simp, by simp [val]⟩
  unfold W.R_dsub
  rw [h1]
  simp only at hc hd hl hv
  have h2 := val_lt (by decide) hd
  rw [hl] at h2
  have hc0 : c = 0 := by
    rcases (by omega : c = 0 ∨ c = 1) with h | h
    · exact h
    · subst h; omega
  subst hc0
  exact ⟨t, rfl, hd, hl, by omega⟩
end Go.Ql
end
