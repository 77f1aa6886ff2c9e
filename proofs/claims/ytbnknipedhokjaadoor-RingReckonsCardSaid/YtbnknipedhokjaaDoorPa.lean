/- Plain laws: whole numbers in places. -/
import Derived.Test.YtbnknipedhokjaaDoorLf
import Derived.IntWalk
import Derived.Test.YtbnknipedhokjaaDoorWb
set_option linter.all false
section
namespace Go.Ql
section
variable {S R : Type} {f : S → Option (S ⊕ R)}
theorem iter_inr {s : S} {r : R} (h : f s = some (.inr r)) : iter f s = some r := iter_of (n := 1) (by simp [iterN, h])
theorem iter_inl {s s' : S} {r : R} (h : f s = some (.inl s')) (h' : iter f s' = some r) : iter f s = some r := by
  obtain ⟨n, hn⟩ := iter_some h'
  exact iter_of (n := n + 1) (by simp [iterN, h, hn])
theorem iter_loop {J : S → Prop} {Q : R → Prop} (m : S → Nat) (hstep : ∀ s, J s → (∃ r, f s = some (.inr r) ∧ Q r) ∨ ∃ s', f s = some (.inl s') ∧ J s' ∧ m s' < m s) {s : S} (h : J s) : ∃ r, iter f s = some r ∧ Q r := by
  have key : ∀ (k : Nat) (s : S), m s ≤ k → J s → ∃ r, iter f s = some r ∧ Q r := by
    intro k
    induction k with
    | zero =>
      intro s hk hj
      rcases hstep s hj with ⟨r, h1, h2⟩ | ⟨s', h1, h2, h3⟩
      · exact ⟨r, iter_inr h1, h2⟩
      · omega
    | succ k ih =>
      intro s hk hj
      rcases hstep s hj with ⟨r, h1, h2⟩ | ⟨s', h1, h2, h3⟩
      · exact ⟨r, iter_inr h1, h2⟩
      · obtain ⟨r, h4, h5⟩ := ih s' (by omega) h2
        exact ⟨r, iter_inl h1 h4, h5⟩
  exact key (m s) s (Nat.le_refl _) h
end
theorem bnd_of {α β : Type} {p : Option α} {x : α} {k : α → Option β} {r : Option β} (h : p = some x) (h' : k x = r) : bnd p k = r := by rw [h]; exact h'
theorem bnd_val {α β : Type} {x : α} {k : α → Option β} : bnd (some x) k = k x := rfl
theorem br_true {α : Type} {x y : α} {b : Bool} (h : b = true) : br b x y = x := by rw [h]; rfl
theorem br_false {α : Type} {x y : α} {b : Bool} (h : b = false) : br b x y = y := by rw [h]; rfl
theorem br_pos {α : Type} {x y : α} {p : Prop} [Decidable p] (h : p) : br (decide p) x y = x := br_true (decide_eq_true h)
theorem br_neg {α : Type} {x y : α} {p : Prop} [Decidable p] (h : ¬ p) : br (decide p) x y = y := br_false (decide_eq_false h)
theorem okIf_true {b : Bool} (h : b = true) : okIf b = some () := by rw [h]; rfl
theorem idx_of {xs : List Int} {i : Int} (n : Nat) (hi : i = n) (h : n < xs.length) : idx xs i = some (xs.getD n 0) := by
  subst hi
  unfold idx
  simp [h]
theorem inR_of {n : Nat} {i : Int} (h0 : 0 ≤ i) (h : i < (n : Int)) : inR n i = some () := by
  unfold inR
  simp [h0, h]

theorem wrap_i64 {x : Int} (h : -9223372036854775808 ≤ x ∧ x ≤ 9223372036854775807) : IntKind.i64.wrap x = x := IntWalk.i64_in _ (by omega)
theorem wrap_u64 {x : Int} (h : 0 ≤ x ∧ x < 18446744073709551616) : IntKind.u64.wrap x = x := IntWalk.u64_in _ (by omega)
theorem wrap_u32 {x : Int} (h : 0 ≤ x ∧ x < 4294967296) : IntKind.u32.wrap x = x := IntWalk.u32_in _ (by omega)
theorem wrap_u32_mod {x : Int} : IntKind.u32.wrap x = x % 4294967296 := by
  simp [IntKind.wrap, IntKind.signed, IntKind.bits]

def val (B : Int) : List Int → Int
  | [] => 0
  | d :: l => d + B * val B l
def Dig (B : Int) (l : List Int) : Prop := ∀ d ∈ l, 0 ≤ d ∧ d < B

theorem val_append (B : Int) (m : List Int) : ∀ l : List Int, val B (l ++ m) = val B l + B ^ l.length * val B m
  | [] => by simp [val]
  | d :: l => by
    simp only [List.cons_append, val, val_append B m l, List.length_cons, Int.pow_succ]
    grind
theorem val_snoc (B : Int) (l : List Int) (d : Int) : val B (l ++ [d]) = val B l + B ^ l.length * d := by
  rw [val_append]; simp [val]
theorem Dig.nil {B : Int} : Dig B [] := fun _ h => by cases h
theorem Dig.cons {B d : Int} {l : List Int} (h : 0 ≤ d ∧ d < B) (hl : Dig B l) : Dig B (d :: l) := fun x hx => by
  rcases List.mem_cons.1 hx with rfl | hx
  · exact h
  · exact hl x hx
theorem Dig.append {B : Int} {l m : List Int} (hl : Dig B l) (hm : Dig B m) : Dig B (l ++ m) := fun x hx => by
  rcases List.mem_append.1 hx with hx | hx
  · exact hl x hx
  · exact hm x hx
theorem Dig.head {B d : Int} {l : List Int} (h : Dig B (d :: l)) : 0 ≤ d ∧ d < B := h d (List.mem_cons_self ..)
theorem Dig.tail {B d : Int} {l : List Int} (h : Dig B (d :: l)) : Dig B l := fun x hx => h x (List.mem_cons_of_mem _ hx)
theorem Dig.take {B : Int} {l : List Int} (h : Dig B l) (n : Nat) : Dig B (l.take n) := fun x hx => h x (List.mem_of_mem_take hx)
theorem Dig.drop {B : Int} {l : List Int} (h : Dig B l) (n : Nat) : Dig B (l.drop n) := fun x hx => h x (List.mem_of_mem_drop hx)
theorem Dig.getD {B : Int} {l : List Int} (hB : 0 < B) (h : Dig B l) (i : Nat) : 0 ≤ l.getD i 0 ∧ l.getD i 0 < B := by
  by_cases hi : i < l.length
  · simp only [List.getD, List.getElem?_eq_getElem hi, Option.getD_some]
    exact h _ (List.getElem_mem hi)
  · rw [List.getD, List.getElem?_eq_none (by omega : l.length ≤ i), Option.getD_none]
    omega
theorem Dig.set {B x : Int} {l : List Int} (h : Dig B l) (hx : 0 ≤ x ∧ x < B) (i : Nat) : Dig B (l.set i x) := fun y hy => by
  rcases List.mem_or_eq_of_mem_set hy with hy | rfl
  · exact h y hy
  · exact hx
theorem Dig.replicate {B : Int} (hB : 0 < B) (n : Nat) : Dig B (List.replicate n 0) := fun x hx => by
  rw [(List.mem_replicate.1 hx).2]; omega
theorem val_replicate (B : Int) : ∀ n : Nat, val B (List.replicate n 0) = 0
  | 0 => rfl
  | n + 1 => by simp [List.replicate_succ, val, val_replicate B n]
theorem val_nonneg {B : Int} (hB : 0 ≤ B) : ∀ {l : List Int}, Dig B l → 0 ≤ val B l
  | [], _ => Int.le_refl 0
  | d :: l, h => by
    have h1 := val_nonneg hB h.tail
    have h2 := h.head
    have h3 := Int.mul_nonneg hB h1
    simp only [val]
    omega
theorem val_lt {B : Int} (hB : 0 < B) : ∀ {l : List Int}, Dig B l → val B l < B ^ l.length
  | [], _ => by simp [val]
  | d :: l, h => by
    have h1 := val_lt hB h.tail
    have h2 := h.head
    have h3 : B * (val B l + 1) ≤ B * B ^ l.length := Int.mul_le_mul_of_nonneg_left (by omega) (by omega)
    simp only [val, List.length_cons, Int.pow_succ]
    rw [Int.mul_comm (B ^ l.length) B]
    rw [Int.mul_add] at h3
    omega
theorem val_take_succ (B : Int) : ∀ (i : Nat) (l : List Int), val B (l.take (i + 1)) = val B (l.take i) + B ^ i * l.getD i 0
  | _, [] => by simp [val]
  | 0, d :: l => by simp [val]
  | i + 1, d :: l => by
    have h := val_take_succ B i l
    simp only [List.take_succ_cons, val, List.getD_cons_succ, Int.pow_succ] at h ⊢
    rw [h]
    grind
theorem val_set (B x : Int) : ∀ (i : Nat) (l : List Int), i < l.length → val B (l.set i x) = val B l + B ^ i * (x - l.getD i 0)
  | _, [], h => by simp at h
  | 0, d :: l, _ => by simp [val]; omega
  | i + 1, d :: l, h => by
    have h := val_set B x i l (by simpa using h)
    simp only [List.set_cons_succ, val, List.getD_cons_succ, Int.pow_succ] at h ⊢
    rw [h]
    grind
theorem getD_set {l : List Int} {i j : Nat} {x : Int} (h : i < l.length) : (l.set i x).getD j 0 = if i = j then x else l.getD j 0 := by
  simp only [List.getD, List.getElem?_set]
  by_cases hij : i = j
  · subst hij; simp [h]
  · simp [hij]
theorem getD_replicate (n j : Nat) : (List.replicate n (0 : Int)).getD j 0 = 0 := by
  simp only [List.getD, List.getElem?_replicate]
  split <;> rfl
theorem pow_pos {B : Int} (hB : 0 < B) (n : Nat) : 0 < B ^ n := Int.pow_pos hB
end Go.Ql
end

section
namespace Go.Ql
section
variable {A S R : Type} {f : S → Option (S ⊕ R)}
theorem iter_upto (n : Nat) (P : Nat → S → Prop) (Q : R → Prop)
    (step : ∀ i s, i < n → P i s → (∃ s', f s = some (.inl s') ∧ P (i + 1) s') ∨ (∃ x, f s = some (.inr x) ∧ Q x))
    (done : ∀ s, P n s → ∃ x, f s = some (.inr x) ∧ Q x) {s : S} (h : P 0 s) : ∃ x, iter f s = some x ∧ Q x := by
  have key : ∀ (k i : Nat) (s : S), i + k = n → P i s → ∃ x, iter f s = some x ∧ Q x := by
    intro k
    induction k with
    | zero =>
      intro i s hi hp
      have : i = n := by omega
      subst this
      obtain ⟨x, h1, h2⟩ := done s hp
      exact ⟨x, iter_inr h1, h2⟩
    | succ k ih =>
      intro i s hi hp
      rcases step i s (by omega) hp with ⟨s', h1, h2⟩ | ⟨x, h1, h2⟩
      · obtain ⟨x, h3, h4⟩ := ih (i + 1) s' (by omega) h2
        exact ⟨x, iter_inl h1 h3, h4⟩
      · exact ⟨x, iter_inr h1, h2⟩
  exact key n 0 s (by omega) h
end
theorem sel_inl {α β γ : Type} {x : α} {f : α → γ} {g : β → γ} : sel (.inl x) f g = f x := rfl
theorem sel_inr {α β γ : Type} {x : β} {f : α → γ} {g : β → γ} : sel (.inr x) f g = g x := rfl
theorem idx_at {α : Type} {l : List α} {i : Nat} : idx l (i : Int) = l[i]? := by
  unfold idx
  simp
theorem idx_get {α : Type} {l : List α} {i : Nat} (h : i < l.length) : idx l (i : Int) = some l[i] := by
  rw [idx_at, List.getElem?_eq_getElem h]
theorem inR_at {n : Nat} {i : Nat} (h : i < n) : inR n (i : Int) = some () := inR_of (by omega) (by omega)
theorem br_tt {α : Type} {x y : α} : br true x y = x := rfl
theorem br_ff {α : Type} {x y : α} : br false x y = y := rfl
theorem okIf_len {n k : Nat} (h : n * k ≤ 140737488355328 ∧ n ≤ 140737488355328) : okIf (decide (n * k ≤ (140737488355328 : Nat)) && decide (n ≤ (140737488355328 : Nat))) = some () :=
  okIf_true (by simp [h])
end Go.Ql
end

section
set_option linter.unusedSectionVars false
namespace Go.Ql
section
variable {S E R A T : Type} {f : S → Option (S ⊕ R)}
end

theorem bv_ofInt_nat (w n : Nat) : BitVec.ofInt w (n : Int) = BitVec.ofNat w n := by
  simp
theorem iandi64 {a b : Nat} (ha : a < 2 ^ 63) (hb : b < 2 ^ 63) : ibits .and .i64 (a : Int) (b : Int) = ((a &&& b : Nat) : Int) := by
  show IntKind.i64.wrap (((BitVec.ofInt 64 (a : Int) &&& BitVec.ofInt 64 (b : Int)).toNat : Nat) : Int) = _
  simp only [bv_ofInt_nat]
  have h := Nat.and_lt_two_pow a hb
  rw [BitVec.toNat_and, BitVec.toNat_ofNat, BitVec.toNat_ofNat, Nat.mod_eq_of_lt (by omega), Nat.mod_eq_of_lt (by omega), wrap_i64 (by omega)]
end Go.Ql
end

section
section
namespace Go.Ql

structure Rep (B : Int) (x : Bool × List Int) (v : Int) : Prop where
  dig : Dig B x.2
  last : x.2 ≠ [] → x.2.getD (x.2.length - 1) 0 ≠ 0
  neg : x.1 = true → x.2 ≠ []
  val : v = if x.1 then - val B x.2 else val B x.2

theorem val_take_len (B : Int) {l : List Int} {n : Nat} (h : l.length ≤ n) : val B (l.take n) = val B l := by rw [List.take_of_length_le h]

theorem made_ok {B : Int} (neg : Bool) (mag : List Int) (h : Dig B mag) (hl : mag.length < 1000000000000) :
    ∃ r, W.whole_made neg mag = some r ∧ Rep B r (if neg then - val B mag else val B mag) ∧ r.2.length ≤ mag.length := by
  obtain ⟨n, h1, k, rfl, hk, hv, hz⟩ := iter_loop (f := fun s ↦ W.whole_made.c100002 mag s Option.some)
    (J := fun n : Int => ∃ k : Nat, n = k ∧ k ≤ mag.length ∧ val B (mag.take k) = val B mag)
    (Q := fun n : Int => ∃ k : Nat, n = k ∧ k ≤ mag.length ∧ val B (mag.take k) = val B mag ∧ (k ≠ 0 → mag.getD (k - 1) 0 ≠ 0))
    Int.toNat (fun s ⟨k, hs, hk, hv⟩ => by
      subst hs
      simp only [W.whole_made.c100002, W.whole_made.c2]
      by_cases h0 : k = 0
      · subst h0
        exact Or.inl ⟨_, by simp [br_ff, bnd_val], 0, rfl, hk, hv, fun h => absurd rfl h⟩
      · have hw : IntKind.i64.wrap ((k : Int) - 1) = ((k - 1 : Nat) : Int) := by rw [wrap_i64 (by omega)]; omega
        have e1 := idx_of (xs := mag) (k - 1) hw (by omega)
        rw [e1, hw]
        simp only [bnd_val, decide_eq_true (by omega : (k : Int) > 0), br_tt]
        by_cases hz : mag.getD (k - 1) 0 = 0
        · refine Or.inr ⟨_, by rw [hz]; rfl, ⟨k - 1, rfl, by omega, ?_⟩, by omega⟩
          have := val_take_succ B (k - 1) mag
          rw [hz, show k - 1 + 1 = k by omega, Int.mul_zero] at this
          omega
        · exact Or.inl ⟨_, by rw [beq_false_of_ne hz]; rfl, k, rfl, hk, hv, fun _ => hz⟩)
    (s := (mag.length : Int)) ⟨mag.length, rfl, Nat.le_refl _, val_take_len B (Nat.le_refl _)⟩
  unfold W.whole_made
  rw [h1]
  simp only [bnd_val]
  by_cases h0 : k = 0
  · subst h0
    refine ⟨(false, []), by simp [br_tt], ⟨Dig.nil, by simp, by simp, ?_⟩, by simp⟩
    simp only [List.take_zero, val] at hv
    rw [← hv]; simp [val]
  · refine ⟨(neg, mag.take k), ?_, ⟨h.take k, fun _ => ?_, fun _ e => ?_, ?_⟩, by simp only [List.length_take]; omega⟩
    · have : ((k : Int) == 0) = false := beq_false_of_ne (by omega)
      simp only [this, br_ff]
      rw [okIf_true (by simp; omega)]
      rfl
    · have hlen : (mag.take k).length = k := by rw [List.length_take]; omega
      have := hz h0
      rw [hlen]
      simp only [List.getD, List.getElem?_take] at this ⊢
      rw [if_pos (by omega)]
      exact this
    · have : (mag.take k).length = 0 := congrArg List.length e
      rw [List.length_take] at this
      omega
    · simp only [hv]
theorem zmade_ok {B : Int} (neg : Bool) (mag : List Int) (h : Dig B mag) (hl : mag.length < 1000000000000) :
    ∃ r, W.R_zmade neg mag = some r ∧ Rep B r (if neg then - val B mag else val B mag) ∧ r.2.length ≤ mag.length := by
  obtain ⟨n, h1, k, rfl, hk, hv, hz⟩ := iter_loop (f := fun s ↦ W.R_zmade.c100002 mag s Option.some)
    (J := fun n : Int => ∃ k : Nat, n = k ∧ k ≤ mag.length ∧ val B (mag.take k) = val B mag)
    (Q := fun n : Int => ∃ k : Nat, n = k ∧ k ≤ mag.length ∧ val B (mag.take k) = val B mag ∧ (k ≠ 0 → mag.getD (k - 1) 0 ≠ 0))
    Int.toNat (fun s ⟨k, hs, hk, hv⟩ => by
      subst hs
      simp only [W.R_zmade.c100002, W.R_zmade.c2]
      by_cases h0 : k = 0
      · subst h0
        exact Or.inl ⟨_, by simp [br_ff, bnd_val], 0, rfl, hk, hv, fun h => absurd rfl h⟩
      · have hw : IntKind.i64.wrap ((k : Int) - 1) = ((k - 1 : Nat) : Int) := by rw [wrap_i64 (by omega)]; omega
        have e1 := idx_of (xs := mag) (k - 1) hw (by omega)
        rw [e1, hw]
        simp only [bnd_val, decide_eq_true (by omega : (k : Int) > 0), br_tt]
        by_cases hz : mag.getD (k - 1) 0 = 0
        · refine Or.inr ⟨_, by rw [hz]; rfl, ⟨k - 1, rfl, by omega, ?_⟩, by omega⟩
          have := val_take_succ B (k - 1) mag
          rw [hz, show k - 1 + 1 = k by omega, Int.mul_zero] at this
          omega
        · exact Or.inl ⟨_, by rw [beq_false_of_ne hz]; rfl, k, rfl, hk, hv, fun _ => hz⟩)
    (s := (mag.length : Int)) ⟨mag.length, rfl, Nat.le_refl _, val_take_len B (Nat.le_refl _)⟩
  unfold W.R_zmade
  rw [h1]
  simp only [bnd_val]
  by_cases h0 : k = 0
  · subst h0
    refine ⟨(false, []), by simp [br_tt], ⟨Dig.nil, by simp, by simp, ?_⟩, by simp⟩
    simp only [List.take_zero, val] at hv
    rw [← hv]; simp [val]
  · refine ⟨(neg, mag.take k), ?_, ⟨h.take k, fun _ => ?_, fun _ e => ?_, ?_⟩, by simp only [List.length_take]; omega⟩
    · have : ((k : Int) == 0) = false := beq_false_of_ne (by omega)
      simp only [this, br_ff]
      rw [okIf_true (by simp; omega)]
      rfl
    · have hlen : (mag.take k).length = k := by rw [List.length_take]; omega
      have := hz h0
      rw [hlen]
      simp only [List.getD, List.getElem?_take] at this ⊢
      rw [if_pos (by omega)]
      exact this
    · have : (mag.take k).length = 0 := congrArg List.length e
      rw [List.length_take] at this
      omega
    · simp only [hv]
end Go.Ql
end

section
namespace Go.Ql
theorem add32_ok {x y c : Int} (hx : 0 ≤ x ∧ x < 4294967296) (hy : 0 ≤ y ∧ y < 4294967296) (hc : 0 ≤ c ∧ c ≤ 1) :
    W.bits_Add32 x y c = some ((x + y + c) % 4294967296, (x + y + c) / 4294967296) := by
  unfold W.bits_Add32
  rw [wrap_u64 (x := x) (by omega), wrap_u64 (x := y) (by omega), wrap_u64 (x := c) (by omega), wrap_u64 (x := x + y) (by omega), wrap_u64 (x := x + y + c) (by omega), wrap_u32_mod, Int.fdiv_eq_ediv_of_nonneg _ (by decide)]
  rw [show ((2 : Int) ^ (32 : Nat)) = 4294967296 from by decide, wrap_u32 (by omega)]

theorem sum_ok (a b : List Int) (ha : Dig 4294967296 a) (hb : Dig 4294967296 b) (la : a.length < 1000000000) (lb : b.length < 1000000000) :
    ∃ t, W.whole_sum a b = some t ∧ Dig 4294967296 t ∧ t.length ≤ a.length + b.length + 1 ∧ val 4294967296 t = val 4294967296 a + val 4294967296 b := by
  have key : ∀ a b : List Int, Dig 4294967296 a → Dig 4294967296 b → a.length < 1000000000 → b.length ≤ a.length →
      ∃ t, (bnd (Go.Ql.iter (fun s ↦ W.whole_sum.c100006 b (Prod.fst s) a (a.length : Int) (Prod.fst (Prod.snd s)) (Prod.snd (Prod.snd s)) Option.some) ((0 : Int), (0 : Int), List.replicate (Int.toNat (IntKind.i64.wrap ((a.length : Int) + 1))) (0 : Int))) fun y_2 =>
        bnd (Go.Ql.inR (List.length (Prod.snd (Prod.snd y_2))) (a.length : Int)) fun y_3 =>
        bnd (Go.Ql.idx (Prod.snd (Prod.snd y_2)) (a.length : Int)) fun y_4 =>
        some (List.set (Prod.snd (Prod.snd y_2)) (Int.toNat (a.length : Int)) (Prod.fst y_2))) = some t ∧ Dig 4294967296 t ∧ t.length = a.length + 1 ∧ val 4294967296 t = val 4294967296 a + val 4294967296 b := by
    intro a b ha hb la lb
    obtain ⟨⟨c, i, t⟩, h1, hc, ht, hd, hv⟩ := iter_loop
      (f := fun s : Int × Int × List Int ↦ W.whole_sum.c100006 b (Prod.fst s) a (a.length : Int) (Prod.fst (Prod.snd s)) (Prod.snd (Prod.snd s)) Option.some)
      (J := fun s => (0 ≤ s.1 ∧ s.1 ≤ 1) ∧ ∃ i : Nat, s.2.1 = i ∧ i ≤ a.length ∧ s.2.2.length = a.length + 1 ∧ Dig 4294967296 s.2.2 ∧ (∀ j, i ≤ j → s.2.2.getD j 0 = 0) ∧ val 4294967296 s.2.2 + s.1 * 4294967296 ^ i = val 4294967296 (a.take i) + val 4294967296 (b.take i))
      (Q := fun s => (0 ≤ s.1 ∧ s.1 ≤ 1) ∧ s.2.2.length = a.length + 1 ∧ Dig 4294967296 s.2.2 ∧ s.2.2.getD a.length 0 = 0 ∧ val 4294967296 s.2.2 + s.1 * 4294967296 ^ a.length = val 4294967296 a + val 4294967296 b)
      (fun s => a.length - s.2.1.toNat) (fun ⟨c, i', t⟩ ⟨hc, i, hi, hil, ht, hd, hz, hv⟩ => by
        simp only at hc hi ht hd hz hv ⊢
        subst hi
        simp only [W.whole_sum.c100006]
        by_cases h0 : i < a.length
        · have e2 : W.whole_sum.c236869 b (i : Int) 0 Option.some = some (b.getD i 0) := by
            unfold W.whole_sum.c236869
            by_cases hb' : i < b.length
            · rw [br_pos (by omega), idx_of i rfl hb']; rfl
            · rw [br_neg (by omega), List.getD, List.getElem?_eq_none (by omega : b.length ≤ i)]; rfl
          have dx := ha.getD (by decide) i
          have dy := hb.getD (by decide) i
          have hw : IntKind.i64.wrap ((i : Int) + 1) = ((i + 1 : Nat) : Int) := by rw [wrap_i64 (by omega)]; omega
          refine Or.inr ⟨(_, _, _), by rw [br_pos (by omega), idx_of i rfl h0, bnd_val, e2, bnd_val, add32_ok dx dy hc, bnd_val, inR_of (by omega) (by omega), bnd_val, idx_of i rfl (by omega), bnd_val, hw, Int.toNat_natCast], ⟨?_, i + 1, rfl, by omega, by simpa using ht, ?_, ?_, ?_⟩, by show a.length - ((i + 1 : Nat) : Int).toNat < a.length - (i : Int).toNat; omega⟩
          · simp only; omega
          · exact hd.set (by omega) i
          · intro j hj
            simp only
            rw [getD_set (by omega), if_neg (by omega)]
            exact hz j (by omega)
          · have v1 := val_take_succ 4294967296 i a
            have v2 := val_take_succ 4294967296 i b
            have v3 := val_set 4294967296 ((a.getD i 0 + b.getD i 0 + c) % 4294967296) i t (by omega)
            have v4 := hz i (Nat.le_refl _)
            have v5 : a.getD i 0 + b.getD i 0 + c = (a.getD i 0 + b.getD i 0 + c) % 4294967296 + 4294967296 * ((a.getD i 0 + b.getD i 0 + c) / 4294967296) := (Int.emod_add_mul_ediv _ _).symm
            simp only [Int.pow_succ]
            rw [v1, v2, v3, v4]
            generalize (4294967296 : Int) ^ i = P at *
            generalize (a.getD i 0 + b.getD i 0 + c) % 4294967296 = r at *
            generalize (a.getD i 0 + b.getD i 0 + c) / 4294967296 = q at *
            generalize a.getD i 0 = x at *
            generalize b.getD i 0 = y at *
            grind
        · have e : i = a.length := by omega
          subst e
          refine Or.inl ⟨(_, _, _), by rw [br_neg (by omega)], hc, ht, hd, hz _ (Nat.le_refl _), ?_⟩
          rw [val_take_len _ (Nat.le_refl _), val_take_len _ lb] at hv
          exact hv)
      (s := ((0 : Int), (0 : Int), List.replicate (Int.toNat (IntKind.i64.wrap ((a.length : Int) + 1))) (0 : Int)))
      ⟨by simp, 0, rfl, by omega, by rw [wrap_i64 (by omega)]; simp <;> omega, Dig.replicate (by decide) _, fun j _ => getD_replicate _ _, by simp [val_replicate, val]⟩
    simp only at hc ht hd hv
    rw [h1]
    obtain ⟨hd, hz, hv⟩ := And.intro hd hv
    refine ⟨_, by rw [bnd_val, inR_of (by omega) (by simp only; omega), bnd_val, idx_of a.length rfl (by simp only; omega), bnd_val], hd.set (by simp only; omega) _, by simpa using ht, ?_⟩
    simp only [Int.toNat_natCast]
    rw [val_set _ _ _ _ (by omega), hz, ← hv]
    grind
  unfold W.whole_sum W.whole_sum.c204101
  by_cases h : a.length < b.length
  · obtain ⟨t, h1, h2, h3, h4⟩ := key b a hb ha lb (by omega)
    refine ⟨t, ?_, h2, by omega, by omega⟩
    rw [br_pos (by omega), bnd_val]
    simp only
    rw [okIf_true (by rw [wrap_i64 (by omega)]; simp; try omega), bnd_val]
    exact h1
  · obtain ⟨t, h1, h2, h3, h4⟩ := key a b ha hb la (by omega)
    refine ⟨t, ?_, h2, by omega, by omega⟩
    rw [br_neg (by omega), bnd_val]
    simp only
    rw [okIf_true (by rw [wrap_i64 (by omega)]; simp; try omega), bnd_val]
    exact h1
end Go.Ql
end

section
namespace Go.Ql
theorem tdiv_pos {x d : Int} (h : 0 ≤ x) : Int.tdiv x d = x / d := Int.tdiv_eq_ediv_of_nonneg h
theorem tmod_pos {x d : Int} (h : 0 ≤ x) : Int.tmod x d = x % d := Int.tmod_eq_emod_of_nonneg h
theorem getD_out {l : List Int} {i : Nat} (h : l.length ≤ i) : l.getD i 0 = 0 := by rw [List.getD, List.getElem?_eq_none h]; rfl

theorem dadd_ok (a b : List Int) (ha : Dig 10000 a) (hb : Dig 10000 b) (la : a.length < 1000000000) (lb : b.length < 1000000000) :
    ∃ t, W.R_dadd a b = some t ∧ Dig 10000 t ∧ t.length ≤ a.length + b.length + 1 ∧ val 10000 t = val 10000 a + val 10000 b := by
  obtain ⟨⟨c, i, t⟩, h1, hd, hl, hv⟩ := iter_loop
    (f := fun s : Int × Int × List Int ↦ W.R_dadd.c100004 a b (Prod.fst s) (Prod.fst (Prod.snd s)) (Prod.snd (Prod.snd s)) Option.some)
    (J := fun s => (0 ≤ s.1 ∧ s.1 ≤ 1) ∧ s.2.1 = s.2.2.length ∧ Dig 10000 s.2.2 ∧ s.2.2.length ≤ max a.length b.length + 1 ∧ (s.2.2.length = max a.length b.length + 1 → s.1 = 0) ∧ val 10000 s.2.2 + s.1 * 10000 ^ s.2.2.length = val 10000 (a.take s.2.2.length) + val 10000 (b.take s.2.2.length))
    (Q := fun s => Dig 10000 s.2.2 ∧ s.2.2.length ≤ a.length + b.length + 1 ∧ val 10000 s.2.2 = val 10000 a + val 10000 b)
    (fun s => 2 * (max a.length b.length + 1 - s.2.2.length) + s.1.toNat) (fun ⟨c, i', t⟩ ⟨hc, hi, hd, hl, hl0, hv⟩ => by
      simp only at hc hi hd hl hl0 hv ⊢
      subst hi
      simp only [W.R_dadd.c100004]
      have e4 : W.R_dadd.c4 a b c (t.length : Int) Option.some = some (decide (t.length < a.length ∨ t.length < b.length ∨ 0 < c)) := by
        unfold W.R_dadd.c4
        by_cases h1 : t.length < a.length
        · rw [br_pos (by omega)]; simp [h1]
        · rw [br_neg (by omega)]
          by_cases h2 : t.length < b.length
          · rw [br_pos (by omega)]; simp [h2]
          · rw [br_neg (by omega)]; simp [h1, h2]
      rw [e4, bnd_val]
      have dx := ha.getD (by decide) t.length
      have dy := hb.getD (by decide) t.length
      have e5 : W.R_dadd.c224581 a c (t.length : Int) Option.some = some (c + a.getD t.length 0) := by
        unfold W.R_dadd.c224581
        by_cases h1 : t.length < a.length
        · rw [br_pos (by omega), idx_of t.length rfl h1, bnd_val, wrap_i64 (by omega)]
        · rw [br_neg (by omega), getD_out (by omega)]; simp
      have e6 : W.R_dadd.c232773 b (c + a.getD t.length 0) (t.length : Int) Option.some = some (c + a.getD t.length 0 + b.getD t.length 0) := by
        unfold W.R_dadd.c232773
        by_cases h1 : t.length < b.length
        · rw [br_pos (by omega), idx_of t.length rfl h1, bnd_val, wrap_i64 (by omega)]
        · rw [br_neg (by omega), getD_out (l := b) (by omega)]; simp
      by_cases h0 : t.length < a.length ∨ t.length < b.length ∨ 0 < c
      · rw [br_pos h0]
        refine Or.inr ⟨(_, _, _), by rw [e5, bnd_val, e6, bnd_val, okIf_true (by simp; omega), bnd_val, tmod_pos (by omega), tdiv_pos (by omega), wrap_i64 (by omega)], ⟨?_, ?_, ?_, ?_, ?_, ?_⟩, ?_⟩
        · simp only; omega
        · simp only [List.length_append, List.length_singleton]; rw [wrap_i64 (by omega)]; omega
        · exact hd.append (Dig.cons (by omega) Dig.nil)
        · simp only [List.length_append, List.length_singleton]; omega
        · simp only [List.length_append, List.length_singleton]
          intro h2
          have h3 : a.getD t.length 0 = 0 := getD_out (by omega)
          have h4 : b.getD t.length 0 = 0 := getD_out (by omega)
          rw [h3, h4]; omega
        · have v1 := val_take_succ 10000 t.length a
          have v2 := val_take_succ 10000 t.length b
          have v3 := val_snoc 10000 t ((c + a.getD t.length 0 + b.getD t.length 0) % 10000)
          have v5 : c + a.getD t.length 0 + b.getD t.length 0 = (c + a.getD t.length 0 + b.getD t.length 0) % 10000 + 10000 * ((c + a.getD t.length 0 + b.getD t.length 0) / 10000) := (Int.emod_add_mul_ediv _ _).symm
          simp only [List.length_append, List.length_singleton, Int.pow_succ]
          rw [v1, v2, v3]
          generalize (10000 : Int) ^ t.length = P at *
          generalize (c + a.getD t.length 0 + b.getD t.length 0) % 10000 = r at *
          generalize (c + a.getD t.length 0 + b.getD t.length 0) / 10000 = q at *
          generalize a.getD t.length 0 = x at *
          generalize b.getD t.length 0 = y at *
          grind
        · simp only [List.length_append, List.length_singleton]
          by_cases h2 : t.length < max a.length b.length
          · omega
          · have h3 : a.getD t.length 0 = 0 := getD_out (by omega)
            have h4 : b.getD t.length 0 = 0 := getD_out (by omega)
            rw [h3, h4]; omega
      · rw [br_neg h0]
        refine Or.inl ⟨(_, _, _), rfl, hd, by simp only; omega, ?_⟩
        have hc0 : c = 0 := by omega
        subst hc0
        rw [val_take_len _ (by omega), val_take_len _ (by omega)] at hv
        simp only
        omega)
    (s := ((0 : Int), (0 : Int), [])) ⟨by simp, rfl, Dig.nil, by simp, by simp, by simp [val]⟩
  unfold W.R_dadd
  rw [h1]
  exact ⟨t, rfl, hd, hl, hv⟩

theorem dsub_ok (a b : List Int) (ha : Dig 10000 a) (hb : Dig 10000 b) (la : a.length < 1000000000) (lb : b.length ≤ a.length) (hab : val 10000 b ≤ val 10000 a) :
    ∃ t, W.R_dsub a b = some t ∧ Dig 10000 t ∧ t.length = a.length ∧ val 10000 t = val 10000 a - val 10000 b := by
  obtain ⟨⟨c, i, t⟩, h1, hc, hd, hl, hv⟩ := iter_loop
    (f := fun s : Int × Int × List Int ↦ W.R_dsub.c100004 a b (Prod.fst s) (Prod.fst (Prod.snd s)) (Prod.snd (Prod.snd s)) Option.some)
    (J := fun s => (0 ≤ s.1 ∧ s.1 ≤ 1) ∧ s.2.1 = s.2.2.length ∧ Dig 10000 s.2.2 ∧ s.2.2.length ≤ a.length ∧ val 10000 s.2.2 = val 10000 (a.take s.2.2.length) - val 10000 (b.take s.2.2.length) + s.1 * 10000 ^ s.2.2.length)
    (Q := fun s => (0 ≤ s.1 ∧ s.1 ≤ 1) ∧ Dig 10000 s.2.2 ∧ s.2.2.length = a.length ∧ val 10000 s.2.2 = val 10000 a - val 10000 b + s.1 * 10000 ^ a.length)
    (fun s => a.length - s.2.2.length) (fun ⟨c, i', t⟩ ⟨hc, hi, hd, hl, hv⟩ => by
      simp only at hc hi hd hl hv ⊢
      subst hi
      simp only [W.R_dsub.c100004]
      have dx := ha.getD (by decide) t.length
      have dy := hb.getD (by decide) t.length
      by_cases h0 : t.length < a.length
      · have e5 : W.R_dsub.c228677 b (t.length : Int) (a.getD t.length 0 - c) Option.some = some (a.getD t.length 0 - c - b.getD t.length 0) := by
          unfold W.R_dsub.c228677
          by_cases h1 : t.length < b.length
          · rw [br_pos (by omega), idx_of t.length rfl h1, bnd_val, wrap_i64 (by omega)]
          · rw [br_neg (by omega), getD_out (l := b) (by omega)]; simp
        have e6 : W.R_dsub.c240967 0 (a.getD t.length 0 - c - b.getD t.length 0) Option.some = some (-((a.getD t.length 0 - c - b.getD t.length 0) / 10000), (a.getD t.length 0 - c - b.getD t.length 0) % 10000) := by
          unfold W.R_dsub.c240967
          by_cases h1 : a.getD t.length 0 - c - b.getD t.length 0 < 0
          · rw [br_pos h1, wrap_i64 (by omega)]
            congr 1
            ext <;> simp only <;> omega
          · rw [br_neg h1]
            congr 1
            ext <;> simp only <;> omega
        rw [br_pos (by omega)]
        refine Or.inr ⟨(_, _, _), by rw [idx_of t.length rfl h0, bnd_val, wrap_i64 (x := a.getD t.length 0 - c) (by omega), e5, bnd_val, e6, bnd_val, okIf_true (by simp; omega), bnd_val], ⟨?_, ?_, ?_, ?_, ?_⟩, ?_⟩
        · simp only; omega
        · simp only [List.length_append, List.length_singleton]; rw [wrap_i64 (by omega)]; omega
        · exact hd.append (Dig.cons (by simp only; omega) Dig.nil)
        · simp only [List.length_append, List.length_singleton]; omega
        · have v1 := val_take_succ 10000 t.length a
          have v2 := val_take_succ 10000 t.length b
          have v3 := val_snoc 10000 t ((a.getD t.length 0 - c - b.getD t.length 0) % 10000)
          have v5 : a.getD t.length 0 - c - b.getD t.length 0 = (a.getD t.length 0 - c - b.getD t.length 0) % 10000 + 10000 * ((a.getD t.length 0 - c - b.getD t.length 0) / 10000) := (Int.emod_add_mul_ediv _ _).symm
          simp only [List.length_append, List.length_singleton, Int.pow_succ]
          rw [v1, v2, v3]
          generalize (10000 : Int) ^ t.length = P at *
          generalize (a.getD t.length 0 - c - b.getD t.length 0) % 10000 = r at *
          generalize (a.getD t.length 0 - c - b.getD t.length 0) / 10000 = q at *
          generalize a.getD t.length 0 = x at *
          generalize b.getD t.length 0 = y at *
          grind
        · simp only [List.length_append, List.length_singleton]; omega
      · rw [br_neg (by omega)]
        have hl' : t.length = a.length := by omega
        rw [hl', val_take_len _ (Nat.le_refl _), val_take_len _ lb] at hv
        exact Or.inl ⟨(_, _, _), rfl, hc, hd, hl', hv⟩)
    (s := ((0 : Int), (0 : Int), [])) ⟨by simp, rfl, Dig.nil, by simp, by simp [val]⟩
  unfold W.R_dsub
  rw [h1]
  simp only at hc hd hl hv
  have h2 := val_lt (by decide) hd
  rw [hl] at h2
  have hc0 : c = 0 := by
    rcases (by omega : c = 0 ∨ c = 1) with h | h
    · exact h
    · subst h; omega
  subst hc0
  exact ⟨t, rfl, hd, hl, by omega⟩
end Go.Ql
end

section
namespace Go.Ql
theorem bv_back (a : BitVec 32) : BitVec.ofInt IntKind.u32.bits ((a.toNat : Nat) : Int) = a := by
  show BitVec.ofInt 32 ((a.toNat : Nat) : Int) = a
  rw [BitVec.ofInt_natCast, BitVec.ofNat_toNat, BitVec.setWidth_eq]
theorem wrap_bv (a : BitVec 32) : IntKind.u32.wrap ((a.toNat : Nat) : Int) = a.toNat := wrap_u32 (by have := a.isLt; omega)
theorem ior32 (a b : BitVec 32) : ibits .or .u32 (a.toNat : Int) (b.toNat : Int) = ((a ||| b).toNat : Int) := by
  simp only [ibits, bv_back]; exact wrap_bv (a ||| b)
theorem iand32 (a b : BitVec 32) : ibits .and .u32 (a.toNat : Int) (b.toNat : Int) = ((a &&& b).toNat : Int) := by
  simp only [ibits, bv_back]; exact wrap_bv (a &&& b)
theorem ixor32 (a b : BitVec 32) : ibits .xor .u32 (a.toNat : Int) (b.toNat : Int) = ((a ^^^ b).toNat : Int) := by
  simp only [ibits, bv_back]; exact wrap_bv (a ^^^ b)
theorem msb_top (a : BitVec 32) : a.toNat / 2147483648 = a.msb.toNat := by
  rw [BitVec.msb_eq_decide]
  have := a.isLt
  by_cases h : 2 ^ (32 - 1) ≤ a.toNat
  · simp only [h, decide_true, Bool.toNat_true]; omega
  · simp only [h, decide_false, Bool.toNat_false]; omega

theorem sub32_ok {x y c : Int} (hx : 0 ≤ x ∧ x < 4294967296) (hy : 0 ≤ y ∧ y < 4294967296) (hc : 0 ≤ c ∧ c ≤ 1) :
    W.bits_Sub32 x y c = some ((x - y - c) % 4294967296, -((x - y - c) / 4294967296)) := by
  unfold W.bits_Sub32
  have hd : IntKind.u32.wrap (IntKind.u32.wrap (x - y) - c) = (x - y - c) % 4294967296 := by
    rw [wrap_u32_mod, wrap_u32_mod]; omega
  rw [hd]
  obtain ⟨X, rfl⟩ : ∃ X : BitVec 32, x = X.toNat := ⟨BitVec.ofNat 32 x.toNat, by rw [BitVec.toNat_ofNat]; omega⟩
  obtain ⟨Y, rfl⟩ : ∃ Y : BitVec 32, y = Y.toNat := ⟨BitVec.ofNat 32 y.toNat, by rw [BitVec.toNat_ofNat]; omega⟩
  obtain ⟨D, hD⟩ : ∃ D : BitVec 32, ((X.toNat : Int) - Y.toNat - c) % 4294967296 = D.toNat := ⟨BitVec.ofNat 32 (((X.toNat : Int) - Y.toNat - c) % 4294967296).toNat, by rw [BitVec.toNat_ofNat]; omega⟩
  rw [hD]
  have h1 : (Int.ofNat (2 ^ 32 - Nat.succ 0)) = ((BitVec.allOnes 32).toNat : Int) := by decide
  congr 2
  rw [show (Int.ofNat (nat_lit 2 ^ (32 : Nat) - Nat.succ (nat_lit 0))) = ((BitVec.allOnes 32).toNat : Int) from h1]
  simp only [ixor32, iand32, ior32]
  rw [Int.fdiv_eq_ediv_of_nonneg _ (by decide), show ((2 : Int) ^ (31 : Nat)) = ((2147483648 : Nat) : Int) from by decide, ← Int.natCast_ediv, msb_top]
  simp only [BitVec.msb_or, BitVec.msb_and, BitVec.allOnes_xor, BitVec.msb_not, BitVec.msb_xor]
  have mx := msb_top X
  have my := msb_top Y
  have md := msb_top D
  have := X.isLt
  have := Y.isLt
  have := D.isLt
  revert mx my md
  cases X.msb <;> cases Y.msb <;> cases D.msb <;> simp <;> omega

theorem less_ok (a b : List Int) (ha : Dig 4294967296 a) (hb : Dig 4294967296 b) (la : a.length < 1000000000) (lb : b.length ≤ a.length) (hab : val 4294967296 b ≤ val 4294967296 a) :
    ∃ t, W.whole_less a b = some t ∧ Dig 4294967296 t ∧ t.length = a.length ∧ val 4294967296 t = val 4294967296 a - val 4294967296 b := by
  obtain ⟨⟨c, i, t⟩, h1, hc, ht, hd, hv⟩ := iter_loop
    (f := fun s : Int × Int × List Int ↦ W.whole_less.c100004 b (Prod.fst s) a (a.length : Int) (Prod.fst (Prod.snd s)) (Prod.snd (Prod.snd s)) Option.some)
    (J := fun s => (0 ≤ s.1 ∧ s.1 ≤ 1) ∧ ∃ i : Nat, s.2.1 = i ∧ i ≤ a.length ∧ s.2.2.length = a.length ∧ Dig 4294967296 s.2.2 ∧ (∀ j, i ≤ j → s.2.2.getD j 0 = 0) ∧ val 4294967296 s.2.2 = val 4294967296 (a.take i) - val 4294967296 (b.take i) + s.1 * 4294967296 ^ i)
    (Q := fun s => (0 ≤ s.1 ∧ s.1 ≤ 1) ∧ s.2.2.length = a.length ∧ Dig 4294967296 s.2.2 ∧ val 4294967296 s.2.2 = val 4294967296 a - val 4294967296 b + s.1 * 4294967296 ^ a.length)
    (fun s => a.length - s.2.1.toNat) (fun ⟨c, i', t⟩ ⟨hc, i, hi, hil, ht, hd, hz, hv⟩ => by
      simp only at hc hi ht hd hz hv ⊢
      subst hi
      simp only [W.whole_less.c100004]
      by_cases h0 : i < a.length
      · have e2 : W.whole_less.c228677 b (i : Int) 0 Option.some = some (b.getD i 0) := by
          unfold W.whole_less.c228677
          by_cases hb' : i < b.length
          · rw [br_pos (by omega), idx_of i rfl hb']; rfl
          · rw [br_neg (by omega), getD_out (by omega)]
        have dx := ha.getD (by decide) i
        have dy := hb.getD (by decide) i
        have hw : IntKind.i64.wrap ((i : Int) + 1) = ((i + 1 : Nat) : Int) := by rw [wrap_i64 (by omega)]; omega
        refine Or.inr ⟨(_, _, _), by rw [br_pos (by omega), idx_of i rfl h0, bnd_val, e2, bnd_val, sub32_ok dx dy hc, bnd_val, inR_of (by omega) (by omega), bnd_val, idx_of i rfl (by omega), bnd_val, hw, Int.toNat_natCast], ⟨?_, i + 1, rfl, by omega, by simpa using ht, ?_, ?_, ?_⟩, by show a.length - ((i + 1 : Nat) : Int).toNat < a.length - (i : Int).toNat; omega⟩
        · simp only; omega
        · exact hd.set (by simp only; omega) i
        · intro j hj
          simp only
          rw [getD_set (by omega), if_neg (by omega)]
          exact hz j (by omega)
        · have v1 := val_take_succ 4294967296 i a
          have v2 := val_take_succ 4294967296 i b
          have v3 := val_set 4294967296 ((a.getD i 0 - b.getD i 0 - c) % 4294967296) i t (by omega)
          have v4 := hz i (Nat.le_refl _)
          have v5 : a.getD i 0 - b.getD i 0 - c = (a.getD i 0 - b.getD i 0 - c) % 4294967296 + 4294967296 * ((a.getD i 0 - b.getD i 0 - c) / 4294967296) := (Int.emod_add_mul_ediv _ _).symm
          simp only [Int.pow_succ]
          rw [v1, v2, v3, v4]
          generalize (4294967296 : Int) ^ i = P at *
          generalize (a.getD i 0 - b.getD i 0 - c) % 4294967296 = r at *
          generalize (a.getD i 0 - b.getD i 0 - c) / 4294967296 = q at *
          generalize a.getD i 0 = x at *
          generalize b.getD i 0 = y at *
          grind
      · have e : i = a.length := by omega
        subst e
        refine Or.inl ⟨(_, _, _), by rw [br_neg (by omega)], hc, ht, hd, ?_⟩
        rw [val_take_len _ (Nat.le_refl _), val_take_len _ lb] at hv
        exact hv)
    (s := ((0 : Int), (0 : Int), List.replicate (Int.toNat (a.length : Int)) (0 : Int)))
    ⟨by simp, 0, rfl, by omega, by simp, Dig.replicate (by decide) _, fun j _ => getD_replicate _ _, by simp [val_replicate, val]⟩
  unfold W.whole_less
  rw [okIf_true (by simp; omega), bnd_val, h1]
  simp only at hc hd ht hv
  have h2 := val_lt (by decide) hd
  rw [ht] at h2
  have hc0 : c = 0 := by
    rcases (by omega : c = 0 ∨ c = 1) with h | h
    · exact h
    · subst h; omega
  subst hc0
  exact ⟨t, rfl, hd, ht, by omega⟩
end Go.Ql
end

section
namespace Go.Ql
theorem cmp_ok (x y : Int) : W.cmp_Compare_int x y = some (if x < y then -1 else if y < x then 1 else 0) := by
  unfold W.cmp_Compare_int W.cmp_isNaN_int
  simp only [bnd_val, bne_self_eq_false, br_ff]
  by_cases h : x < y
  · rw [br_pos h, if_pos h]
  · rw [br_neg h, if_neg h]
    by_cases h2 : y < x
    · rw [br_pos h2, if_pos h2]
    · rw [br_neg h2, if_neg h2]
theorem cmp32_ok (x y : Int) : W.cmp_Compare_uint32 x y = some (if x < y then -1 else if y < x then 1 else 0) := by
  unfold W.cmp_Compare_uint32 W.cmp_isNaN_uint32
  simp only [bnd_val, bne_self_eq_false, br_ff]
  by_cases h : x < y
  · rw [br_pos h, if_pos h]
  · rw [br_neg h, if_neg h]
    by_cases h2 : y < x
    · rw [br_pos h2, if_pos h2]
    · rw [br_neg h2, if_neg h2]

def Trim (l : List Int) : Prop := l ≠ [] → l.getD (l.length - 1) 0 ≠ 0
theorem val_ge {B : Int} (hB : 1 < B) {l : List Int} (h : Dig B l) (ht : Trim l) (hn : l ≠ []) : B ^ (l.length - 1) ≤ val B l := by
  have h0 : l.length ≠ 0 := fun e => hn (List.eq_nil_of_length_eq_zero e)
  have h1 := val_take_succ B (l.length - 1) l
  rw [show l.length - 1 + 1 = l.length by omega, List.take_length] at h1
  have h2 := h.getD (by omega) (l.length - 1)
  have h3 := ht hn
  have h4 := val_nonneg (by omega) (h.take (l.length - 1))
  have h5 : B ^ (l.length - 1) * 1 ≤ B ^ (l.length - 1) * l.getD (l.length - 1) 0 := Int.mul_le_mul_of_nonneg_left (by omega) (Int.le_of_lt (Int.pow_pos (by omega)))
  omega
theorem pow_le {B : Int} (hB : 1 < B) {m n : Nat} (h : m ≤ n) : B ^ m ≤ B ^ n := by
  induction n with
  | zero => rw [show m = 0 by omega]; exact Int.le_refl _
  | succ n ih =>
    by_cases e : m = n + 1
    · rw [e]; exact Int.le_refl _
    · have h1 := ih (by omega)
      have h2 : 0 < B ^ n := Int.pow_pos (by omega)
      rw [Int.pow_succ]
      have h3 : B ^ n * 1 ≤ B ^ n * B := Int.mul_le_mul_of_nonneg_left (by omega) (by omega)
      omega
theorem val_lt_of_len {B : Int} (hB : 1 < B) {a b : List Int} (ha : Dig B a) (hb : Dig B b) (tb : Trim b) (h : a.length < b.length) : val B a < val B b := by
  have h1 := val_lt (by omega) ha
  have h2 := val_ge hB hb tb (by intro e; rw [e] at h; simp at h)
  have h3 := pow_le hB (show a.length ≤ b.length - 1 by omega)
  omega
theorem len_le {B : Int} (hB : 1 < B) {a b : List Int} (ha : Dig B a) (hb : Dig B b) (tb : Trim b) (h : val B b ≤ val B a) : b.length ≤ a.length := by
  by_cases h1 : b.length ≤ a.length
  · exact h1
  · have := val_lt_of_len hB ha hb tb (by omega); omega
theorem top_lt {B : Int} (hB : 1 < B) {a b : List Int} (ha : Dig B a) (hb : Dig B b) (k : Nat) (h : a.getD k 0 < b.getD k 0) : val B (a.take (k + 1)) < val B (b.take (k + 1)) := by
  have h1 := val_take_succ B k a
  have h2 := val_take_succ B k b
  have h3 := val_lt (by omega) (ha.take k)
  have h4 := val_nonneg (by omega) (hb.take k)
  have h5 := pow_le hB (show (a.take k).length ≤ k by rw [List.length_take]; omega)
  have h6 : B ^ k * (a.getD k 0 + 1) ≤ B ^ k * b.getD k 0 := Int.mul_le_mul_of_nonneg_left (by omega) (Int.le_of_lt (Int.pow_pos (by omega)))
  rw [Int.mul_add] at h6
  omega

def Ordered (x y c : Int) : Prop := (c = -1 ∧ x < y) ∨ (c = 0 ∧ x = y) ∨ (c = 1 ∧ y < x)

theorem order_ok (a b : List Int) (ha : Dig 4294967296 a) (hb : Dig 4294967296 b) (ta : Trim a) (tb : Trim b) (la : a.length < 1000000000) (lb : b.length < 1000000000) :
    ∃ c, W.whole_order a b = some c ∧ Ordered (val 4294967296 a) (val 4294967296 b) c := by
  unfold W.whole_order
  rw [cmp_ok, bnd_val]
  by_cases h1 : a.length < b.length
  · rw [if_pos (by omega)]
    exact ⟨_, rfl, Or.inl ⟨rfl, val_lt_of_len (by decide) ha hb tb h1⟩⟩
  rw [if_neg (by omega)]
  by_cases h2 : b.length < a.length
  · rw [if_pos (by omega)]
    exact ⟨_, rfl, Or.inr (Or.inr ⟨rfl, val_lt_of_len (by decide) hb ha ta h2⟩)⟩
  rw [if_neg (by omega)]
  have hl : a.length = b.length := by omega
  obtain ⟨r, h3, h4⟩ := iter_loop (f := fun s : Int ↦ W.whole_order.c100005 a b s Option.some)
    (J := fun i => ∃ k : Nat, i = (k : Int) - 1 ∧ k ≤ a.length ∧ val 4294967296 a - val 4294967296 b = val 4294967296 (a.take k) - val 4294967296 (b.take k))
    (Q := fun r => Ordered (val 4294967296 a) (val 4294967296 b) (match r with | .inl u => u.1 | .inr _ => 0))
    (fun i => (i + 1).toNat) (fun i ⟨k, hi, hk, hv⟩ => by
      subst hi
      simp only [W.whole_order.c100005]
      by_cases h0 : k = 0
      · subst h0
        rw [br_neg (by omega)]
        refine Or.inl ⟨_, rfl, Or.inr (Or.inl ⟨rfl, ?_⟩)⟩
        simp [val] at hv
        omega
      · rw [br_pos (by omega)]
        have e7 : W.whole_order.c7 a b ((k : Int) - 1) Option.some = some (if a.getD (k - 1) 0 < b.getD (k - 1) 0 then -1 else if b.getD (k - 1) 0 < a.getD (k - 1) 0 then 1 else 0) := by
          unfold W.whole_order.c7
          rw [idx_of (k - 1) (by omega) (by omega), bnd_val, idx_of (k - 1) (by omega) (by omega), bnd_val, cmp32_ok, bnd_val]
        rw [e7, bnd_val]
        have hk1 : k - 1 + 1 = k := by omega
        by_cases h5 : a.getD (k - 1) 0 < b.getD (k - 1) 0
        · have h6 := top_lt (by decide) ha hb (k - 1) h5
          rw [hk1] at h6
          rw [if_pos h5]
          exact Or.inl ⟨_, rfl, Or.inl ⟨rfl, by omega⟩⟩
        · rw [if_neg h5]
          by_cases h7 : b.getD (k - 1) 0 < a.getD (k - 1) 0
          · have h6 := top_lt (by decide) hb ha (k - 1) h7
            rw [hk1] at h6
            rw [if_pos h7]
            exact Or.inl ⟨_, rfl, Or.inr (Or.inr ⟨rfl, by omega⟩)⟩
          · rw [if_neg h7]
            refine Or.inr ⟨(k : Int) - 1 - 1, ?_, ⟨k - 1, by omega, by omega, ?_⟩, by omega⟩
            · show some (Sum.inl (IntKind.i64.wrap ((k : Int) - 1 - 1))) = _
              rw [wrap_i64 (by omega)]
            · have v1 := val_take_succ 4294967296 (k - 1) a
              have v2 := val_take_succ 4294967296 (k - 1) b
              have v3 : a.getD (k - 1) 0 = b.getD (k - 1) 0 := by omega
              rw [hk1] at v1 v2
              rw [v3] at v1
              omega)
    (s := (a.length : Int) - 1) ⟨a.length, rfl, Nat.le_refl _, by rw [val_take_len _ (Nat.le_refl _), val_take_len _ (by omega)]⟩
  rw [wrap_i64 (by omega)]
  refine ⟨_, ?_, h4⟩
  show bnd (iter _ _) _ = _
  rw [h3, bnd_val]
  cases r <;> rfl

theorem dcmp_ok (a b : List Int) (ha : Dig 10000 a) (hb : Dig 10000 b) (ta : Trim a) (tb : Trim b) (la : a.length < 1000000000) (lb : b.length < 1000000000) :
    ∃ c, W.R_dcmp a b = some c ∧ Ordered (val 10000 a) (val 10000 b) c := by
  unfold W.R_dcmp
  by_cases h1 : a.length < b.length
  · rw [br_true (bne_iff_ne.2 (by omega)), br_pos (by omega)]
    exact ⟨_, rfl, Or.inl ⟨rfl, val_lt_of_len (by decide) ha hb tb h1⟩⟩
  by_cases h2 : b.length < a.length
  · rw [br_true (bne_iff_ne.2 (by omega)), br_neg (by omega)]
    exact ⟨_, rfl, Or.inr (Or.inr ⟨rfl, val_lt_of_len (by decide) hb ha ta h2⟩)⟩
  have hl : a.length = b.length := by omega
  obtain ⟨r, h3, h4⟩ := iter_loop (f := fun s : Int ↦ W.R_dcmp.c100006 a b s Option.some)
    (J := fun i => ∃ k : Nat, i = (k : Int) - 1 ∧ k ≤ a.length ∧ val 10000 a - val 10000 b = val 10000 (a.take k) - val 10000 (b.take k))
    (Q := fun r => Ordered (val 10000 a) (val 10000 b) (match r with | .inl u => u.1 | .inr _ => 0))
    (fun i => (i + 1).toNat) (fun i ⟨k, hi, hk, hv⟩ => by
      subst hi
      simp only [W.R_dcmp.c100006]
      by_cases h0 : k = 0
      · subst h0
        rw [br_neg (by omega)]
        refine Or.inl ⟨_, rfl, Or.inr (Or.inl ⟨rfl, ?_⟩)⟩
        simp [val] at hv
        omega
      · rw [br_pos (by omega)]
        have hk1 : k - 1 + 1 = k := by omega
        have e8 : W.R_dcmp.c8 a b ((k : Int) - 1) Option.some = some (decide (a.getD (k - 1) 0 < b.getD (k - 1) 0)) := by
          unfold W.R_dcmp.c8
          rw [idx_of (k - 1) (by omega) (by omega), bnd_val, idx_of (k - 1) (by omega) (by omega), bnd_val]
        have e10 : W.R_dcmp.c10 a b ((k : Int) - 1) Option.some = some (decide (b.getD (k - 1) 0 < a.getD (k - 1) 0)) := by
          unfold W.R_dcmp.c10
          rw [idx_of (k - 1) (by omega) (by omega), bnd_val, idx_of (k - 1) (by omega) (by omega), bnd_val]
        rw [e8, bnd_val]
        by_cases h5 : a.getD (k - 1) 0 < b.getD (k - 1) 0
        · have h6 := top_lt (by decide) ha hb (k - 1) h5
          rw [hk1] at h6
          rw [br_pos h5]
          exact Or.inl ⟨_, rfl, Or.inl ⟨rfl, by omega⟩⟩
        · rw [br_neg h5, e10, bnd_val]
          by_cases h7 : b.getD (k - 1) 0 < a.getD (k - 1) 0
          · have h6 := top_lt (by decide) hb ha (k - 1) h7
            rw [hk1] at h6
            rw [br_pos h7]
            exact Or.inl ⟨_, rfl, Or.inr (Or.inr ⟨rfl, by omega⟩)⟩
          · rw [br_neg h7, wrap_i64 (by omega)]
            refine Or.inr ⟨(k : Int) - 1 - 1, rfl, ⟨k - 1, by omega, by omega, ?_⟩, by omega⟩
            have v1 := val_take_succ 10000 (k - 1) a
            have v2 := val_take_succ 10000 (k - 1) b
            have v3 : a.getD (k - 1) 0 = b.getD (k - 1) 0 := by omega
            rw [hk1] at v1 v2
            rw [v3] at v1
            omega)
    (s := (a.length : Int) - 1) ⟨a.length, rfl, Nat.le_refl _, by rw [val_take_len _ (Nat.le_refl _), val_take_len _ (by omega)]⟩
  rw [br_false (by simp [hl]), wrap_i64 (by omega), h3, bnd_val]
  refine ⟨_, ?_, h4⟩
  cases r <;> rfl
end Go.Ql
end

section
namespace Go.Ql
theorem add_ok {a b : Bool × List Int} {u v : Int} (ha : Rep 4294967296 a u) (hb : Rep 4294967296 b v) (la : a.2.length < 100000000) (lb : b.2.length < 100000000) :
    ∃ r, W.whole_Int_Add a b = some r ∧ Rep 4294967296 r (u + v) ∧ r.2.length ≤ a.2.length + b.2.length + 1 := by
  obtain ⟨a0, a1⟩ := a
  obtain ⟨b0, b1⟩ := b
  simp only at la lb
  have va := ha.val
  have vb := hb.val
  simp only at va vb
  unfold W.whole_Int_Add
  by_cases h0 : a0 = b0
  · subst h0
    obtain ⟨t, h1, h2, h3, h4⟩ := sum_ok a1 b1 ha.dig hb.dig (by omega) (by omega)
    obtain ⟨r, h5, h6, h7⟩ := made_ok a0 t h2 (by omega)
    refine ⟨r, ?_, ?_, by show r.2.length ≤ a1.length + b1.length + 1; omega⟩
    · rw [br_true (beq_self_eq_true a0)]
      unfold W.whole_Int_Add.c2
      rw [h1, bnd_val, h5]; rfl
    · have : u + v = if a0 = true then -val 4294967296 t else val 4294967296 t := by rw [va, vb, h4]; split <;> omega
      rw [this]; exact h6
  · have hb0 : b0 = !a0 := by cases a0 <;> cases b0 <;> simp_all
    rw [br_false (beq_false_of_ne h0)]
    obtain ⟨c, h1, h2⟩ := order_ok a1 b1 ha.dig hb.dig ha.last hb.last (by omega) (by omega)
    rw [h1, bnd_val]
    by_cases hc : c ≥ 0
    · have hle : val 4294967296 b1 ≤ val 4294967296 a1 := by rcases h2 with h | h | h <;> omega
      obtain ⟨t, h3, h4, h5, h6⟩ := less_ok a1 b1 ha.dig hb.dig (by omega) (len_le (by decide) ha.dig hb.dig hb.last hle) hle
      obtain ⟨r, h7, h8, h9⟩ := made_ok a0 t h4 (by omega)
      refine ⟨r, ?_, ?_, by show r.2.length ≤ a1.length + b1.length + 1; omega⟩
      · rw [br_pos hc]
        unfold W.whole_Int_Add.c4
        rw [h3, bnd_val, h7]; rfl
      · have : u + v = if a0 = true then -val 4294967296 t else val 4294967296 t := by rw [va, vb, h6, hb0]; cases a0 <;> simp <;> omega
        rw [this]; exact h8
    · have hle : val 4294967296 a1 ≤ val 4294967296 b1 := by rcases h2 with h | h | h <;> omega
      obtain ⟨t, h3, h4, h5, h6⟩ := less_ok b1 a1 hb.dig ha.dig (by omega) (len_le (by decide) hb.dig ha.dig ha.last hle) hle
      obtain ⟨r, h7, h8, h9⟩ := made_ok b0 t h4 (by omega)
      refine ⟨r, ?_, ?_, by show r.2.length ≤ a1.length + b1.length + 1; omega⟩
      · rw [br_neg hc]
        unfold W.whole_Int_Add.c5
        rw [h3, bnd_val, h7]; rfl
      · have : u + v = if b0 = true then -val 4294967296 t else val 4294967296 t := by rw [va, vb, h6, hb0]; cases a0 <;> simp <;> omega
        rw [this]; exact h8

theorem zadd_ok {a b : Bool × List Int} {u v : Int} (ha : Rep 10000 a u) (hb : Rep 10000 b v) (la : a.2.length < 100000000) (lb : b.2.length < 100000000) :
    ∃ r, W.R_ZAdd a b = some r ∧ Rep 10000 r (u + v) ∧ r.2.length ≤ a.2.length + b.2.length + 1 := by
  obtain ⟨a0, a1⟩ := a
  obtain ⟨b0, b1⟩ := b
  simp only at la lb
  have va := ha.val
  have vb := hb.val
  simp only at va vb
  unfold W.R_ZAdd
  by_cases za : a1 = []
  · subst za
    refine ⟨(b0, b1), rfl, ?_, by simp only; omega⟩
    have : u = 0 := by rw [va]; simp [val]
    rw [this, Int.zero_add]
    exact hb
  have za' : a1.length ≠ 0 := fun e => za (List.eq_nil_of_length_eq_zero e)
  rw [br_false (beq_false_of_ne (by show ((a1.length : Nat) : Int) ≠ 0; omega))]
  by_cases zb : b1 = []
  · subst zb
    refine ⟨(a0, a1), rfl, ?_, by simp only; omega⟩
    have : v = 0 := by rw [vb]; simp [val]
    rw [this, Int.add_zero]
    exact ha
  have zb' : b1.length ≠ 0 := fun e => zb (List.eq_nil_of_length_eq_zero e)
  rw [br_false (beq_false_of_ne (by show ((b1.length : Nat) : Int) ≠ 0; omega))]
  by_cases h0 : a0 = b0
  · subst h0
    obtain ⟨t, h1, h2, h3, h4⟩ := dadd_ok a1 b1 ha.dig hb.dig (by omega) (by omega)
    obtain ⟨r, h5, h6, h7⟩ := zmade_ok a0 t h2 (by omega)
    refine ⟨r, ?_, ?_, by show r.2.length ≤ a1.length + b1.length + 1; omega⟩
    · rw [br_true (beq_self_eq_true a0)]
      unfold W.R_ZAdd.c6
      rw [h1, bnd_val, h5]; rfl
    · have : u + v = if a0 = true then -val 10000 t else val 10000 t := by rw [va, vb, h4]; split <;> omega
      rw [this]; exact h6
  · have hb0 : b0 = !a0 := by cases a0 <;> cases b0 <;> simp_all
    rw [br_false (beq_false_of_ne h0)]
    obtain ⟨c, h1, h2⟩ := dcmp_ok a1 b1 ha.dig hb.dig ha.last hb.last (by omega) (by omega)
    rw [h1, bnd_val]
    by_cases hc : c ≥ 0
    · have hle : val 10000 b1 ≤ val 10000 a1 := by rcases h2 with h | h | h <;> omega
      obtain ⟨t, h3, h4, h5, h6⟩ := dsub_ok a1 b1 ha.dig hb.dig (by omega) (len_le (by decide) ha.dig hb.dig hb.last hle) hle
      obtain ⟨r, h7, h8, h9⟩ := zmade_ok a0 t h4 (by omega)
      refine ⟨r, ?_, ?_, by show r.2.length ≤ a1.length + b1.length + 1; omega⟩
      · rw [br_pos hc]
        unfold W.R_ZAdd.c8
        rw [h3, bnd_val, h7]; rfl
      · have : u + v = if a0 = true then -val 10000 t else val 10000 t := by rw [va, vb, h6, hb0]; cases a0 <;> simp <;> omega
        rw [this]; exact h8
    · have hle : val 10000 a1 ≤ val 10000 b1 := by rcases h2 with h | h | h <;> omega
      obtain ⟨t, h3, h4, h5, h6⟩ := dsub_ok b1 a1 hb.dig ha.dig (by omega) (len_le (by decide) hb.dig ha.dig ha.last hle) hle
      obtain ⟨r, h7, h8, h9⟩ := zmade_ok b0 t h4 (by omega)
      refine ⟨r, ?_, ?_, by show r.2.length ≤ a1.length + b1.length + 1; omega⟩
      · rw [br_neg hc]
        unfold W.R_ZAdd.c9
        rw [h3, bnd_val, h7]; rfl
      · have : u + v = if b0 = true then -val 10000 t else val 10000 t := by rw [va, vb, h6, hb0]; cases a0 <;> simp <;> omega
        rw [this]; exact h8

theorem neg_ok {a : Bool × List Int} {u : Int} (ha : Rep 4294967296 a u) (la : a.2.length < 100000000) :
    ∃ r, W.whole_Int_Neg a = some r ∧ Rep 4294967296 r (-u) ∧ r.2.length ≤ a.2.length := by
  obtain ⟨r, h1, h2, h3⟩ := made_ok (!a.1) a.2 ha.dig (by omega)
  refine ⟨r, by unfold W.whole_Int_Neg; rw [h1]; rfl, ?_, h3⟩
  have : -u = if (!a.1) = true then -val 4294967296 a.2 else val 4294967296 a.2 := by rw [ha.val]; cases a.1 <;> simp
  rw [this]; exact h2
theorem sub_ok {a b : Bool × List Int} {u v : Int} (ha : Rep 4294967296 a u) (hb : Rep 4294967296 b v) (la : a.2.length < 100000000) (lb : b.2.length < 100000000) :
    ∃ r, W.whole_Int_Sub a b = some r ∧ Rep 4294967296 r (u - v) ∧ r.2.length ≤ a.2.length + b.2.length + 1 := by
  obtain ⟨n, h1, h2, h3⟩ := neg_ok hb lb
  obtain ⟨r, h4, h5, h6⟩ := add_ok ha h2 la (by omega)
  refine ⟨r, ?_, by rw [Int.sub_eq_add_neg]; exact h5, by omega⟩
  unfold W.whole_Int_Sub W.whole_Int_Sub.c1
  rw [show ((b.1, b.2) : Bool × List Int) = b from rfl, h1, bnd_val, show ((a.1, a.2) : Bool × List Int) = a from rfl, h4]; rfl

theorem zneg_ok {a : Bool × List Int} {u : Int} (ha : Rep 10000 a u) (la : a.2.length < 100000000) :
    ∃ r, W.R_ZNeg a = some r ∧ Rep 10000 r (-u) ∧ r.2.length ≤ a.2.length := by
  obtain ⟨r, h1, h2, h3⟩ := zmade_ok (!a.1) a.2 ha.dig (by omega)
  refine ⟨r, by unfold W.R_ZNeg; rw [h1]; rfl, ?_, h3⟩
  have : -u = if (!a.1) = true then -val 10000 a.2 else val 10000 a.2 := by rw [ha.val]; cases a.1 <;> simp
  rw [this]; exact h2
theorem zsub_ok {a b : Bool × List Int} {u v : Int} (ha : Rep 10000 a u) (hb : Rep 10000 b v) (la : a.2.length < 100000000) (lb : b.2.length < 100000000) :
    ∃ r, W.R_ZSub a b = some r ∧ Rep 10000 r (u - v) ∧ r.2.length ≤ a.2.length + b.2.length + 1 := by
  obtain ⟨n, h1, h2, h3⟩ := zneg_ok hb lb
  obtain ⟨r, h4, h5, h6⟩ := zadd_ok ha h2 la (by omega)
  refine ⟨r, ?_, by rw [Int.sub_eq_add_neg]; exact h5, by omega⟩
  unfold W.R_ZSub W.R_ZSub.c1
  rw [show ((b.1, b.2) : Bool × List Int) = b from rfl, h1, bnd_val, show ((a.1, a.2) : Bool × List Int) = a from rfl, h4]; rfl

def sgn (v : Int) : Int := if v < 0 then -1 else if v = 0 then 0 else 1
theorem Rep.pos {B : Int} (hB : 1 < B) {x : Bool × List Int} {v : Int} (h : Rep B x v) (hn : x.2 ≠ []) : 0 < Ql.val B x.2 := by
  have h1 := val_ge hB h.dig h.last hn
  have h2 : 0 < B ^ (x.2.length - 1) := Int.pow_pos (by omega)
  omega
theorem Rep.sgn {B : Int} (hB : 1 < B) {x : Bool × List Int} {v : Int} (h : Rep B x v) :
    sgn v = if x.2.length = 0 then 0 else if x.1 then -1 else 1 := by
  by_cases hn : x.2 = []
  · have h1 := h.val
    rw [hn] at h1 ⊢
    have : v = 0 := by rw [h1]; simp [Ql.val]
    simp [this, Ql.sgn]
  · have h1 := h.pos hB hn
    have h2 : x.2.length ≠ 0 := fun e => hn (List.eq_nil_of_length_eq_zero e)
    have h3 := h.val
    rw [if_neg h2]
    unfold Ql.sgn
    cases hx : x.1 <;> simp only [hx, Bool.false_eq_true, if_false, if_true] at h3 ⊢ <;> split <;> (try split) <;> omega
theorem sign_ok {a : Bool × List Int} {u : Int} (ha : Rep 4294967296 a u) : W.whole_Int_Sign a = some (sgn u) := by
  rw [ha.sgn (by decide)]
  unfold W.whole_Int_Sign
  by_cases h : a.2.length = 0
  · rw [br_true (beq_iff_eq.2 (by omega)), if_pos h]
  · rw [br_false (beq_false_of_ne (by omega)), if_neg h]; cases a.1 <;> rfl
theorem icmp_ok {a b : Bool × List Int} {u v : Int} (ha : Rep 4294967296 a u) (hb : Rep 4294967296 b v) (la : a.2.length < 100000000) (lb : b.2.length < 100000000) :
    W.whole_Int_Cmp a b = some (sgn (u - v)) := by
  unfold W.whole_Int_Cmp W.whole_Int_Cmp.c1 W.whole_Int_Cmp.c2 W.whole_Int_Cmp.c4
  simp only [show ((b.1, b.2) : Bool × List Int) = b from rfl, show ((a.1, a.2) : Bool × List Int) = a from rfl]
  rw [sign_ok ha, sign_ok hb]
  simp only [bnd_val, cmp_ok]
  obtain ⟨c, h1, h2⟩ := order_ok a.2 b.2 ha.dig hb.dig ha.last hb.last (by omega) (by omega)
  have sa := ha.sgn (by decide)
  have sb := hb.sgn (by decide)
  have va := ha.val
  have vb := hb.val
  by_cases h3 : sgn u < sgn v
  · rw [if_pos h3]
    simp only [show ((-1 : Int) != 0) = true from rfl, br_tt, bnd_val]
    congr 1
    revert h3; unfold sgn; repeat (first | split | omega)
    all_goals (intro _; omega)
  rw [if_neg h3]
  by_cases h4 : sgn v < sgn u
  · rw [if_pos h4]
    simp only [show ((1 : Int) != 0) = true from rfl, br_tt, bnd_val]
    congr 1
    revert h4; unfold sgn; repeat (first | split | omega)
    all_goals (intro _; omega)
  rw [if_neg h4]
  have h5 : sgn u = sgn v := by omega
  simp only [show ((0 : Int) != 0) = false from rfl, br_ff, bnd_val]
  by_cases h6 : sgn u = 0
  · rw [br_true (beq_iff_eq.2 h6)]
    congr 1
    have hu0 : u = 0 := by revert h6; unfold sgn; split; omega; split; intro; assumption; omega
    have hv0 : v = 0 := by rw [h5] at h6; revert h6; unfold sgn; split; omega; split; intro; assumption; omega
    rw [hu0, hv0]; rfl
  · rw [br_false (beq_false_of_ne h6), h1]
    simp only [bnd_val]
    congr 1
    rw [h5] at sa
    have na : a.2.length ≠ 0 := by intro e; rw [if_pos e] at sa; omega
    have nb : b.2.length ≠ 0 := by intro e; rw [if_pos e] at sb; omega
    rw [if_neg na] at sa
    rw [if_neg nb] at sb
    have hs : a.1 = b.1 := by
      rw [sa] at sb
      cases ha1 : a.1 <;> cases hb1 : b.1 <;> simp [ha1, hb1] at sb <;> rfl
    rw [h5, sa]
    rw [hs] at va ⊢
    cases hb1 : b.1 <;> simp only [hb1, Bool.false_eq_true, if_false, if_true] at va vb ⊢ <;> rcases h2 with ⟨rfl, h⟩ | ⟨rfl, h⟩ | ⟨rfl, h⟩ <;> unfold sgn <;> (rw [wrap_i64 (by omega)]) <;> split <;> (try split) <;> omega
end Go.Ql
end

section
namespace Go.Ql
theorem mul_le {a b A : Int} (h0 : 0 ≤ a) (h1 : a ≤ A) (k0 : 0 ≤ b) (k1 : b ≤ A) : 0 ≤ a * b ∧ a * b ≤ A * A :=
  ⟨Int.mul_nonneg h0 k0, Int.le_trans (Int.mul_le_mul_of_nonneg_right h1 k0) (Int.mul_le_mul_of_nonneg_left k1 (by omega))⟩

theorem mul_in (i : Nat) (x : Int) (b t0 : List Int) (hx : 0 ≤ x ∧ x < 4294967296) (hb : Dig 4294967296 b) (h0 : Dig 4294967296 t0) (hl : i + b.length < t0.length) (hL : t0.length < 1000000000) (hz : ∀ k, i + b.length ≤ k → t0.getD k 0 = 0) :
    ∃ r, Go.Ql.iter (fun s : Int × Int × List Int ↦ W.whole_Int_Mul.c100007 (i : Int) x (Prod.fst s) b (b.length : Int) (Prod.fst (Prod.snd s)) (Prod.snd (Prod.snd s)) Option.some) ((0 : Int), (0 : Int), t0) = some r ∧
      (0 ≤ r.1 ∧ r.1 < 4294967296) ∧ r.2.2.length = t0.length ∧ Dig 4294967296 r.2.2 ∧ (∀ k, i + b.length ≤ k → r.2.2.getD k 0 = 0) ∧ val 4294967296 r.2.2 + r.1 * 4294967296 ^ (i + b.length) = val 4294967296 t0 + 4294967296 ^ i * x * val 4294967296 b :=
  iter_loop
    (f := fun s : Int × Int × List Int ↦ W.whole_Int_Mul.c100007 (i : Int) x (Prod.fst s) b (b.length : Int) (Prod.fst (Prod.snd s)) (Prod.snd (Prod.snd s)) Option.some)
    (J := fun s => (0 ≤ s.1 ∧ s.1 < 4294967296) ∧ ∃ j : Nat, s.2.1 = j ∧ j ≤ b.length ∧ s.2.2.length = t0.length ∧ Dig 4294967296 s.2.2 ∧ (∀ k, i + b.length ≤ k → s.2.2.getD k 0 = 0) ∧ val 4294967296 s.2.2 + s.1 * 4294967296 ^ (i + j) = val 4294967296 t0 + 4294967296 ^ i * x * val 4294967296 (b.take j))
    (Q := fun r => (0 ≤ r.1 ∧ r.1 < 4294967296) ∧ r.2.2.length = t0.length ∧ Dig 4294967296 r.2.2 ∧ (∀ k, i + b.length ≤ k → r.2.2.getD k 0 = 0) ∧ val 4294967296 r.2.2 + r.1 * 4294967296 ^ (i + b.length) = val 4294967296 t0 + 4294967296 ^ i * x * val 4294967296 b)
    (fun s => b.length - s.2.1.toNat) (fun ⟨c, j', t⟩ ⟨hc, j, hj, hjl, ht, hd, hz, hv⟩ => by
      simp only at hc hj ht hd hz hv ⊢
      subst hj
      simp only [W.whole_Int_Mul.c100007]
      by_cases h0 : j < b.length
      · have dy := hb.getD (by decide) j
        have dt := hd.getD (by decide) (i + j)
        have hxy := mul_le (A := 4294967295) hx.1 (by omega) dy.1 (by omega)
        have hw : IntKind.i64.wrap ((j : Int) + 1) = ((j + 1 : Nat) : Int) := by rw [wrap_i64 (by omega)]; omega
        have hw2 : IntKind.i64.wrap ((i : Int) + j) = ((i + j : Nat) : Int) := by rw [wrap_i64 (by omega)]; omega
        have e1 : IntKind.u64.wrap (c + IntKind.u64.wrap (IntKind.u64.wrap (IntKind.u64.wrap x * IntKind.u64.wrap (b.getD j 0)) + IntKind.u64.wrap (t.getD (i + j) 0))) = c + (x * b.getD j 0 + t.getD (i + j) 0) := by
          rw [wrap_u64 (x := x) (by omega), wrap_u64 (x := b.getD j 0) (by omega), wrap_u64 (x := t.getD (i + j) 0) (by omega), wrap_u64 (x := x * b.getD j 0) (by omega), wrap_u64 (x := x * b.getD j 0 + t.getD (i + j) 0) (by omega), wrap_u64 (by omega)]
        refine Or.inr ⟨(_, _, _), by rw [br_pos (by omega), idx_of j rfl h0, bnd_val, hw2, inR_of (by omega) (by omega), bnd_val, idx_of (i + j) rfl (by omega), bnd_val, bnd_val, bnd_val, e1, hw, Int.toNat_natCast, wrap_u32_mod, Int.fdiv_eq_ediv_of_nonneg _ (by decide), show ((2 : Int) ^ (32 : Nat)) = 4294967296 from by decide], ⟨?_, j + 1, rfl, by omega, by simpa using ht, ?_, ?_, ?_⟩, by show b.length - ((j + 1 : Nat) : Int).toNat < b.length - (j : Int).toNat; omega⟩
        · simp only; omega
        · exact hd.set (by omega) _
        · intro k hk
          simp only
          rw [getD_set (by omega), if_neg (by omega)]
          exact hz k hk
        · have v2 := val_take_succ 4294967296 j b
          have v3 := val_set 4294967296 ((c + (x * b.getD j 0 + t.getD (i + j) 0)) % 4294967296) (i + j) t (by omega)
          have v5 : c + (x * b.getD j 0 + t.getD (i + j) 0) = (c + (x * b.getD j 0 + t.getD (i + j) 0)) % 4294967296 + 4294967296 * ((c + (x * b.getD j 0 + t.getD (i + j) 0)) / 4294967296) := (Int.emod_add_mul_ediv _ _).symm
          simp only [← Nat.add_assoc, Int.pow_succ]
          rw [v2, v3]
          rw [Int.pow_add] at hv ⊢
          generalize (4294967296 : Int) ^ i = P at *
          generalize (4294967296 : Int) ^ j = R at *
          generalize (c + (x * b.getD j 0 + t.getD (i + j) 0)) % 4294967296 = r at *
          generalize (c + (x * b.getD j 0 + t.getD (i + j) 0)) / 4294967296 = q at *
          generalize b.getD j 0 = y at *
          generalize t.getD (i + j) 0 = z at *
          grind
      · have e : j = b.length := by omega
        subst e
        refine Or.inl ⟨(_, _, _), by rw [br_neg (by omega)], hc, ht, hd, hz, ?_⟩
        rw [List.take_length] at hv
        exact hv)
    (s := ((0 : Int), (0 : Int), t0)) ⟨by simp, 0, rfl, by omega, rfl, h0, hz, by simp [val]⟩

theorem mul_ok {a b : Bool × List Int} {u v : Int} (ha : Rep 4294967296 a u) (hb : Rep 4294967296 b v) (la : a.2.length < 100000000) (lb : b.2.length < 100000000) :
    ∃ r, W.whole_Int_Mul a b = some r ∧ Rep 4294967296 r (u * v) ∧ r.2.length ≤ a.2.length + b.2.length := by
  obtain ⟨⟨i, t⟩, h1, ht, hd, hv⟩ := iter_loop
    (f := fun s : Int × List Int ↦ W.whole_Int_Mul.c100003 a.2 (a.2.length : Int) (Prod.fst s) b.2 (Prod.snd s) Option.some)
    (J := fun s => ∃ i : Nat, s.1 = i ∧ i ≤ a.2.length ∧ s.2.length = a.2.length + b.2.length ∧ Dig 4294967296 s.2 ∧ (∀ k, i + b.2.length ≤ k → s.2.getD k 0 = 0) ∧ val 4294967296 s.2 = val 4294967296 (a.2.take i) * val 4294967296 b.2)
    (Q := fun s => s.2.length = a.2.length + b.2.length ∧ Dig 4294967296 s.2 ∧ val 4294967296 s.2 = val 4294967296 a.2 * val 4294967296 b.2)
    (fun s => a.2.length - s.1.toNat) (fun ⟨i', t⟩ ⟨i, hi, hil, ht, hd, hz, hv⟩ => by
      simp only at hi ht hd hz hv ⊢
      subst hi
      simp only [W.whole_Int_Mul.c100003]
      by_cases h0 : i < a.2.length
      · have dx := ha.dig.getD (by decide) i
        obtain ⟨⟨c, j, t'⟩, h2, hc, ht', hd', hz', hv'⟩ := mul_in i (a.2.getD i 0) b.2 t dx hb.dig hd (by omega) (by omega) hz
        simp only at hc ht' hd' hz' hv'
        have hw : IntKind.i64.wrap ((i : Int) + 1) = ((i + 1 : Nat) : Int) := by rw [wrap_i64 (by omega)]; omega
        have hw2 : IntKind.i64.wrap ((i : Int) + (b.2.length : Int)) = ((i + b.2.length : Nat) : Int) := by rw [wrap_i64 (by omega)]; omega
        refine Or.inr ⟨(_, _), by rw [br_pos (by omega), idx_of i rfl h0, bnd_val, h2, bnd_val, hw2, inR_of (by omega) (by simp only; omega), bnd_val, idx_of (i + b.2.length) rfl (by simp only; omega), bnd_val, hw, Int.toNat_natCast, wrap_u32 hc], ⟨i + 1, rfl, by omega, by simpa using ht'.trans ht, hd'.set hc _, ?_, ?_⟩, by show a.2.length - ((i + 1 : Nat) : Int).toNat < a.2.length - (i : Int).toNat; omega⟩
        · intro k hk
          simp only
          rw [getD_set (by omega), if_neg (by omega)]
          exact hz' k (by omega)
        · have v1 := val_take_succ 4294967296 i a.2
          have v3 := val_set 4294967296 c (i + b.2.length) t' (by omega)
          have v4 := hz' (i + b.2.length) (Nat.le_refl _)
          simp only
          rw [v1, v3, v4]
          grind
      · have e : i = a.2.length := by omega
        subst e
        refine Or.inl ⟨(_, _), by rw [br_neg (by omega)], ht, hd, ?_⟩
        rw [List.take_length] at hv
        exact hv)
    (s := ((0 : Int), List.replicate (Int.toNat (IntKind.i64.wrap ((a.2.length : Int) + (b.2.length : Int)))) (0 : Int)))
    ⟨0, rfl, by omega, by rw [wrap_i64 (by omega)]; simp <;> omega, Dig.replicate (by decide) _, fun j _ => getD_replicate _ _, by simp [val_replicate, val]⟩
  simp only at ht hd hv
  obtain ⟨r, h2, h3, h4⟩ := made_ok (!(a.1 == b.1)) t hd (by omega)
  refine ⟨r, ?_, ?_, by omega⟩
  · unfold W.whole_Int_Mul
    rw [okIf_true (by rw [wrap_i64 (by omega)]; simp; try omega), bnd_val, h1, bnd_val, h2]; rfl
  · have : u * v = if (!(a.1 == b.1)) = true then -val 4294967296 t else val 4294967296 t := by
      rw [ha.val, hb.val, hv]; cases a.1 <;> cases b.1 <;> simp [Int.neg_mul, Int.mul_neg]
    rw [this]; exact h3
end Go.Ql
end

section
namespace Go.Ql
theorem zmul_in (i : Nat) (a b t0 : List Int) (ha : Dig 10000 a) (hb : Dig 10000 b) (hi : i < a.length) (h0 : Dig 10000 t0) (hl : i + b.length + 1 < t0.length) (hL : t0.length < 1000000000) (hz : ∀ k, i + b.length ≤ k → t0.getD k 0 = 0) :
    ∃ r, Go.Ql.iter (fun s : Int × Int × List Int ↦ W.R_ZMul.c100007 (i : Int) (Prod.fst s) (Prod.fst (Prod.snd s)) a b (Prod.snd (Prod.snd s)) Option.some) ((0 : Int), (0 : Int), t0) = some r ∧
      r.2.2.length = t0.length ∧ Dig 10000 r.2.2 ∧ (∀ k, i + b.length + 1 ≤ k → r.2.2.getD k 0 = 0) ∧ val 10000 r.2.2 = val 10000 t0 + 10000 ^ i * a.getD i 0 * val 10000 b :=
  iter_loop
    (f := fun s : Int × Int × List Int ↦ W.R_ZMul.c100007 (i : Int) (Prod.fst s) (Prod.fst (Prod.snd s)) a b (Prod.snd (Prod.snd s)) Option.some)
    (J := fun s => (0 ≤ s.1 ∧ s.1 < 10000) ∧ ∃ j : Nat, s.2.1 = j ∧ j ≤ b.length + 1 ∧ (j = b.length + 1 → s.1 = 0) ∧ s.2.2.length = t0.length ∧ Dig 10000 s.2.2 ∧ (∀ k, i + b.length ≤ k → i + j ≤ k → s.2.2.getD k 0 = 0) ∧ val 10000 s.2.2 + s.1 * 10000 ^ (i + j) = val 10000 t0 + 10000 ^ i * a.getD i 0 * val 10000 (b.take j))
    (Q := fun r => r.2.2.length = t0.length ∧ Dig 10000 r.2.2 ∧ (∀ k, i + b.length + 1 ≤ k → r.2.2.getD k 0 = 0) ∧ val 10000 r.2.2 = val 10000 t0 + 10000 ^ i * a.getD i 0 * val 10000 b)
    (fun s => b.length + 2 - s.2.1.toNat) (fun ⟨c, j', t⟩ ⟨hc, j, hj, hjl, hj0, ht, hd, hz, hv⟩ => by
      simp only at hc hj ht hd hz hv hj0 ⊢
      subst hj
      simp only [W.R_ZMul.c100007]
      have dx := ha.getD (by decide) i
      have dy := hb.getD (by decide) j
      have dt := hd.getD (by decide) (i + j)
      have hxy := mul_le (A := 9999) dx.1 (by omega) dy.1 (by omega)
      have e7 : W.R_ZMul.c7 c (j : Int) b Option.some = some (decide (j < b.length ∨ 0 < c)) := by
        unfold W.R_ZMul.c7
        by_cases h1 : j < b.length
        · rw [br_pos (by omega)]; simp [h1]
        · rw [br_neg (by omega)]; simp [h1]
      have e2 : W.R_ZMul.c240965 (i : Int) (c + t.getD (i + j) 0) (j : Int) a b Option.some = some (c + t.getD (i + j) 0 + a.getD i 0 * b.getD j 0) := by
        unfold W.R_ZMul.c240965 W.R_ZMul.c11
        by_cases h1 : j < b.length
        · rw [br_pos (by omega), idx_of i rfl hi, bnd_val, idx_of j rfl h1, bnd_val, bnd_val, wrap_i64 (x := a.getD i 0 * b.getD j 0) (by omega), wrap_i64 (by omega)]
        · rw [br_neg (by omega), getD_out (l := b) (by omega)]; simp
      rw [e7, bnd_val]
      by_cases h0 : j < b.length ∨ 0 < c
      · have hjb : j ≤ b.length := by
          rcases h0 with h | h
          · omega
          · by_cases e : j = b.length + 1
            · have := hj0 e; omega
            · omega
        have hw : IntKind.i64.wrap ((j : Int) + 1) = ((j + 1 : Nat) : Int) := by rw [wrap_i64 (by omega)]; omega
        have hw2 : IntKind.i64.wrap ((i : Int) + j) = ((i + j : Nat) : Int) := by rw [wrap_i64 (by omega)]; omega
        rw [br_pos h0]
        refine Or.inr ⟨(_, _, _), by rw [hw2, inR_of (by omega) (by omega), bnd_val, idx_of (i + j) rfl (by omega), bnd_val, wrap_i64 (x := c + t.getD (i + j) 0) (by omega), e2, bnd_val, bnd_val, bnd_val, hw, Int.toNat_natCast, tdiv_pos (by omega), tmod_pos (by omega), wrap_i64 (by omega)], ⟨?_, j + 1, rfl, by omega, ?_, by simpa using ht, ?_, ?_, ?_⟩, by show b.length + 2 - ((j + 1 : Nat) : Int).toNat < b.length + 2 - (j : Int).toNat; omega⟩
        · simp only; omega
        · intro hj1
          have h3 : b.getD j 0 = 0 := getD_out (by omega)
          have h4 := hz (i + j) (by omega) (by omega)
          simp only [h3, h4]
          omega
        · exact hd.set (by omega) _
        · intro k hk hk2
          simp only
          rw [getD_set (by omega), if_neg (by omega)]
          exact hz k hk (by omega)
        · have v2 := val_take_succ 10000 j b
          have v3 := val_set 10000 ((c + t.getD (i + j) 0 + a.getD i 0 * b.getD j 0) % 10000) (i + j) t (by omega)
          have v5 : c + t.getD (i + j) 0 + a.getD i 0 * b.getD j 0 = (c + t.getD (i + j) 0 + a.getD i 0 * b.getD j 0) % 10000 + 10000 * ((c + t.getD (i + j) 0 + a.getD i 0 * b.getD j 0) / 10000) := (Int.emod_add_mul_ediv _ _).symm
          simp only [← Nat.add_assoc, Int.pow_succ]
          rw [v2, v3]
          rw [Int.pow_add] at hv ⊢
          generalize (10000 : Int) ^ i = P at *
          generalize (10000 : Int) ^ j = R at *
          generalize (c + t.getD (i + j) 0 + a.getD i 0 * b.getD j 0) % 10000 = r at *
          generalize (c + t.getD (i + j) 0 + a.getD i 0 * b.getD j 0) / 10000 = q at *
          generalize a.getD i 0 = x at *
          generalize b.getD j 0 = y at *
          generalize t.getD (i + j) 0 = z at *
          grind
      · rw [br_neg h0]
        have hc0 : c = 0 := by omega
        subst hc0
        refine Or.inl ⟨(_, _, _), rfl, ht, hd, fun k hk => hz k (by omega) (by omega), ?_⟩
        rw [val_take_len _ (by omega)] at hv
        simp only
        omega)
    (s := ((0 : Int), (0 : Int), t0)) ⟨by simp, 0, rfl, by omega, by omega, rfl, h0, fun k hk _ => hz k hk, by simp [val]⟩

theorem zmul_ok {a b : Bool × List Int} {u v : Int} (ha : Rep 10000 a u) (hb : Rep 10000 b v) (la : a.2.length < 100000000) (lb : b.2.length < 100000000) :
    ∃ r, W.R_ZMul a b = some r ∧ Rep 10000 r (u * v) ∧ r.2.length ≤ a.2.length + b.2.length + 1 := by
  obtain ⟨⟨i, t⟩, h1, ht, hd, hv⟩ := iter_loop
    (f := fun s : Int × List Int ↦ W.R_ZMul.c100003 (Prod.fst s) a.2 b.2 (Prod.snd s) Option.some)
    (J := fun s => ∃ i : Nat, s.1 = i ∧ i ≤ a.2.length ∧ s.2.length = a.2.length + b.2.length + 1 ∧ Dig 10000 s.2 ∧ (∀ k, i + b.2.length ≤ k → s.2.getD k 0 = 0) ∧ val 10000 s.2 = val 10000 (a.2.take i) * val 10000 b.2)
    (Q := fun s => s.2.length = a.2.length + b.2.length + 1 ∧ Dig 10000 s.2 ∧ val 10000 s.2 = val 10000 a.2 * val 10000 b.2)
    (fun s => a.2.length - s.1.toNat) (fun ⟨i', t⟩ ⟨i, hi, hil, ht, hd, hz, hv⟩ => by
      simp only at hi ht hd hz hv ⊢
      subst hi
      simp only [W.R_ZMul.c100003]
      by_cases h0 : i < a.2.length
      · obtain ⟨⟨c, j, t'⟩, h2, ht', hd', hz', hv'⟩ := zmul_in i a.2 b.2 t ha.dig hb.dig h0 hd (by omega) (by omega) hz
        simp only at ht' hd' hz' hv'
        have hw : IntKind.i64.wrap ((i : Int) + 1) = ((i + 1 : Nat) : Int) := by rw [wrap_i64 (by omega)]; omega
        refine Or.inr ⟨(_, _), by rw [br_pos (by omega), h2, bnd_val, hw], ⟨i + 1, rfl, by omega, ht'.trans ht, hd', fun k hk => hz' k (by omega), ?_⟩, by show a.2.length - ((i + 1 : Nat) : Int).toNat < a.2.length - (i : Int).toNat; omega⟩
        have v1 := val_take_succ 10000 i a.2
        simp only
        rw [v1, hv', hv]
        grind
      · have e : i = a.2.length := by omega
        subst e
        refine Or.inl ⟨(_, _), by rw [br_neg (by omega)], ht, hd, ?_⟩
        rw [List.take_length] at hv
        exact hv)
    (s := ((0 : Int), List.replicate (Int.toNat (IntKind.i64.wrap (IntKind.i64.wrap ((a.2.length : Int) + (b.2.length : Int)) + 1))) (0 : Int)))
    ⟨0, rfl, by omega, by rw [wrap_i64 (x := (a.2.length : Int) + (b.2.length : Int)) (by omega), wrap_i64 (by omega)]; simp <;> omega, Dig.replicate (by decide) _, fun j _ => getD_replicate _ _, by simp [val_replicate, val]⟩
  simp only at ht hd hv
  obtain ⟨r, h2, h3, h4⟩ := zmade_ok (!(a.1 == b.1)) t hd (by omega)
  refine ⟨r, ?_, ?_, by omega⟩
  · unfold W.R_ZMul
    rw [okIf_true (by rw [wrap_i64 (x := (a.2.length : Int) + (b.2.length : Int)) (by omega), wrap_i64 (by omega)]; simp; try omega), bnd_val, h1, bnd_val, h2]; rfl
  · have : u * v = if (!(a.1 == b.1)) = true then -val 10000 t else val 10000 t := by
      rw [ha.val, hb.val, hv]; cases a.1 <;> cases b.1 <;> simp [Int.neg_mul, Int.mul_neg]
    rw [this]; exact h3
end Go.Ql
end

section
namespace Go.Ql
def isDigit (c : UInt8) : Bool := decide (48 ≤ c.toNat) && decide (c.toNat ≤ 57)
def Canon (text : List UInt8) : Prop := text = [48] ∨ ∃ (neg : Bool) (ds : List UInt8), ds ≠ [] ∧ (∀ c ∈ ds, isDigit c = true) ∧ ds.head? ≠ some 48 ∧ text = (if neg then [45] else []) ++ ds

end Go.Ql
end

section
namespace Go.Ql
def dg (c : UInt8) : Int := (c.toNat : Int) - 48
def dec (l : List UInt8) : Int := l.foldl (fun n c => n * 10 + dg c) 0
theorem dec_from (n : Int) (l : List UInt8) : l.foldl (fun n c => n * 10 + dg c) n = n * 10 ^ l.length + dec l := by
  induction l generalizing n with
  | nil => simp [dec]
  | cons c l ih =>
    have h1 := ih (n * 10 + dg c)
    have h2 := ih (0 * 10 + dg c)
    simp only [dec, List.foldl_cons, List.length_cons, Int.pow_succ] at h1 h2 ⊢
    rw [h1, h2]
    grind
theorem dec_append (l m : List UInt8) : dec (l ++ m) = dec l * 10 ^ m.length + dec m := by
  unfold dec
  rw [List.foldl_append, dec_from]; rfl
theorem dec_snoc (l : List UInt8) (c : UInt8) : dec (l ++ [c]) = dec l * 10 + dg c := by
  rw [dec_append]; simp [dec]
def Digits (l : List UInt8) : Prop := ∀ c ∈ l, isDigit c = true
theorem dg_of {c : UInt8} (h : isDigit c = true) : 0 ≤ dg c ∧ dg c ≤ 9 := by
  simp only [isDigit, Bool.and_eq_true, decide_eq_true_eq] at h
  unfold dg; omega
theorem dec_bound : ∀ {l : List UInt8}, Digits l → 0 ≤ dec l ∧ dec l < 10 ^ l.length
  | [], _ => by simp [dec]
  | c :: l, h => by
    have h1 := dec_bound (l := l) (fun x hx => h x (List.mem_cons_of_mem _ hx))
    have h2 := dg_of (h c (List.mem_cons_self ..))
    have h3 := dec_append [c] l
    have h4 : dec [c] = dg c := by simp [dec]
    rw [List.singleton_append, h4] at h3
    have h5 : 0 < (10 : Int) ^ l.length := Int.pow_pos (by decide)
    have h6 : dg c * 10 ^ l.length ≤ 9 * 10 ^ l.length := Int.mul_le_mul_of_nonneg_right h2.2 (by omega)
    have h7 : 0 ≤ dg c * 10 ^ l.length := Int.mul_nonneg h2.1 (by omega)
    simp only [List.length_cons, Int.pow_succ]
    omega
end Go.Ql
end

section
namespace Go.Ql
end Go.Ql
end

section
namespace Go.Ql
end Go.Ql
end

section
namespace Go.Ql
end Go.Ql
end

section
namespace Go.Ql
theorem Canon.parts {text : List UInt8} (h : Canon text) : ∃ (neg : Bool) (ds : List UInt8), ds ≠ [] ∧ Digits ds ∧ text = (if neg then [45] else []) ++ ds := by
  rcases h with rfl | ⟨neg, ds, h1, h2, _, h4⟩
  · exact ⟨false, [48], by simp, fun c hc => by simp at hc; subst hc; rfl, rfl⟩
  · exact ⟨neg, ds, h1, h2, h4⟩
end Go.Ql
end

section
namespace Go.Ql
theorem dg_inj {c d : UInt8} (h : dg c = dg d) : c = d := by
  apply UInt8.toNat_inj.1
  unfold dg at h; omega
theorem dec_cons (c : UInt8) (l : List UInt8) : dec (c :: l) = dg c * 10 ^ l.length + dec l := by
  have h3 := dec_append [c] l
  have h4 : dec [c] = dg c := by simp [dec]
  rw [List.singleton_append, h4] at h3
  exact h3
theorem dec_inj : ∀ {l m : List UInt8}, Digits l → Digits m → l.length = m.length → dec l = dec m → l = m
  | [], [], _, _, _, _ => rfl
  | c :: l, d :: m, hl, hm, e, h => by
    have hl' : Digits l := fun x hx => hl x (List.mem_cons_of_mem _ hx)
    have hm' : Digits m := fun x hx => hm x (List.mem_cons_of_mem _ hx)
    have e' : l.length = m.length := by simpa using e
    have b1 := dec_bound hl'
    have b2 := dec_bound hm'
    rw [dec_cons, dec_cons, e'] at h
    rw [e'] at b1
    have hP : (0 : Int) < 10 ^ m.length := Int.pow_pos (by decide)
    have hc : dg c = dg d := by
      rcases Int.lt_trichotomy (dg c) (dg d) with h1 | h1 | h1
      · have := Int.mul_le_mul_of_nonneg_right (show dg c + 1 ≤ dg d by omega) (Int.le_of_lt hP)
        rw [Int.add_mul] at this; omega
      · exact h1
      · have := Int.mul_le_mul_of_nonneg_right (show dg d + 1 ≤ dg c by omega) (Int.le_of_lt hP)
        rw [Int.add_mul] at this; omega
    rw [hc] at h
    rw [dg_inj hc, dec_inj hl' hm' e' (by omega)]
  | [], _ :: _, _, _, e, _ => by simp at e
  | _ :: _, [], _, _, e, _ => by simp at e
theorem dec_ge {l : List UInt8} (h : Digits l) (hn : l ≠ []) (h0 : l.head? ≠ some 48) : 10 ^ (l.length - 1) ≤ dec l := by
  cases l with
  | nil => exact absurd rfl hn
  | cons c l =>
    have hl' : Digits l := fun x hx => h x (List.mem_cons_of_mem _ hx)
    have b1 := dec_bound hl'
    have hd := dg_of (h c (List.mem_cons_self ..))
    have h1 : dg c ≠ 0 := fun e => h0 (by
      have : dg c = dg 48 := by rw [e]; rfl
      rw [dg_inj this]; rfl)
    rw [dec_cons]
    have hP : (0 : Int) < 10 ^ l.length := Int.pow_pos (by decide)
    have := Int.mul_le_mul_of_nonneg_right (show 1 ≤ dg c by omega) (Int.le_of_lt hP)
    simp only [List.length_cons, Nat.add_sub_cancel]
    omega
theorem dec_one {l m : List UInt8} (hl : Digits l) (hm : Digits m) (nl : l ≠ []) (nm : m ≠ []) (l0 : l.head? ≠ some 48) (m0 : m.head? ≠ some 48) (h : dec l = dec m) : l = m := by
  have ll : l.length ≠ 0 := fun e => nl (List.eq_nil_of_length_eq_zero e)
  have lm : m.length ≠ 0 := fun e => nm (List.eq_nil_of_length_eq_zero e)
  have g1 := dec_ge hl nl l0
  have g2 := dec_ge hm nm m0
  have b1 := (dec_bound hl).2
  have b2 := (dec_bound hm).2
  refine dec_inj hl hm ?_ h
  rcases Nat.lt_trichotomy l.length m.length with e | e | e
  · have := pow_le (B := 10) (by decide) (show l.length ≤ m.length - 1 by omega); omega
  · exact e
  · have := pow_le (B := 10) (by decide) (show m.length ≤ l.length - 1 by omega); omega
end Go.Ql
end

section
namespace Go.Ql
theorem val_drop (B : Int) : ∀ (i : Nat) (l : List Int), i < l.length → val B (l.drop i) = l.getD i 0 + B * val B (l.drop (i + 1))
  | _, [], h => by simp at h
  | 0, d :: l, _ => by simp [val]
  | i + 1, d :: l, h => by
    have := val_drop B i l (by simpa using h)
    simpa using this
def bytes (l : List Int) : List UInt8 := l.map fun n ↦ UInt8.ofNat (Int.toNat n)
theorem byte_dg {d : Int} (h : 0 ≤ d ∧ d ≤ 9) : isDigit (UInt8.ofNat (Int.toNat (48 + d))) = true ∧ dg (UInt8.ofNat (Int.toNat (48 + d))) = d := by
  have h1 : (UInt8.ofNat (Int.toNat (48 + d))).toNat = Int.toNat (48 + d) := by
    rw [UInt8.toNat_ofNat']; omega
  unfold isDigit dg
  rw [h1]
  constructor
  · simp; omega
  · omega
def IsDec (l : List UInt8) (v : Int) : Prop := Digits l ∧ l ≠ [] ∧ l.head? ≠ some 48 ∧ dec l = v
def four (d : Int) : List Int := [48 + d / 1000, 48 + d / 100 % 10, 48 + d / 10 % 10, 48 + d % 10]
theorem four_digits {d : Int} (h : 0 ≤ d ∧ d < 10000) : Digits (bytes (four d)) ∧ dec (bytes (four d)) = d := by
  have a := byte_dg (d := d / 1000) (by omega)
  have b := byte_dg (d := d / 100 % 10) (by omega)
  have c := byte_dg (d := d / 10 % 10) (by omega)
  have e := byte_dg (d := d % 10) (by omega)
  constructor
  · intro x hx
    simp only [bytes, four, List.map_cons, List.map_nil, List.mem_cons, List.not_mem_nil, or_false] at hx
    rcases hx with rfl | rfl | rfl | rfl
    · exact a.1
    · exact b.1
    · exact c.1
    · exact e.1
  · simp only [bytes, four, List.map_cons, List.map_nil, dec, List.foldl_cons, List.foldl_nil, a.2, b.2, c.2, e.2]
    omega
theorem c9_ok {a1 : List Int} (h : Dig 10000 a1) (i : Nat) (hi : i < a1.length) : W.R_ZText.c9 (i : Int) a1 Option.some = some (four (a1.getD i 0)) := by
  have hd := h.getD (by decide) i
  unfold W.R_ZText.c9
  rw [idx_of i rfl hi]
  simp only [bnd_val]
  generalize a1.getD i 0 = d at *
  rw [tdiv_pos hd.1, tdiv_pos hd.1, tdiv_pos hd.1, wrap_i64 (x := d / 1000) (by omega), wrap_i64 (x := d / 100) (by omega), wrap_i64 (x := d / 10) (by omega), tmod_pos (by omega), tmod_pos (by omega), tmod_pos (by omega)]
  rw [wrap_i64 (x := 48 + d / 1000) (by omega), wrap_i64 (x := 48 + d / 100 % 10) (by omega), wrap_i64 (x := 48 + d / 10 % 10) (by omega), wrap_i64 (x := 48 + d % 10) (by omega)]
  rw [IntWalk.u8_in (48 + d / 1000) (by omega), IntWalk.u8_in (48 + d / 100 % 10) (by omega), IntWalk.u8_in (48 + d / 10 % 10) (by omega), IntWalk.u8_in (48 + d % 10) (by omega)]
  rfl
end Go.Ql
end

section
namespace Go.Ql
theorem strip_ok (a1 : List Int) (i : Nat) (hi : i < a1.length) (hL : a1.length < 1000000) (F : List Int) (hF : F.length = 4) :
    ∃ k : Nat, iter (fun s ↦ W.R_ZText.c100011 (i : Int) F s a1 Option.some) (0 : Int) = some (k : Int) ∧ k ≤ 3 ∧ (i + 1 ≠ a1.length → k = 0) ∧ (∀ j, j < k → F.getD j 0 = 48) ∧ (i + 1 = a1.length → k < 3 → F.getD k 0 ≠ 48) := by
  obtain ⟨r, h1, k, h2, h3⟩ := iter_loop (f := fun s : Int ↦ W.R_ZText.c100011 (i : Int) F s a1 Option.some)
    (J := fun s => ∃ k : Nat, s = k ∧ k ≤ 3 ∧ (i + 1 ≠ a1.length → k = 0) ∧ (∀ j, j < k → F.getD j 0 = 48))
    (Q := fun s => ∃ k : Nat, s = k ∧ k ≤ 3 ∧ (i + 1 ≠ a1.length → k = 0) ∧ (∀ j, j < k → F.getD j 0 = 48) ∧ (i + 1 = a1.length → k < 3 → F.getD k 0 ≠ 48))
    (fun s => 3 - s.toNat) (fun s ⟨k, hs, hk, hk0, hz⟩ => by
      subst hs
      simp only [W.R_ZText.c100011]
      have e : W.R_ZText.c11 (i : Int) F (k : Int) a1 Option.some = some (decide (i + 1 = a1.length ∧ k < 3 ∧ F.getD k 0 = 48)) := by
        unfold W.R_ZText.c11
        rw [wrap_i64 (by omega)]
        by_cases h : i + 1 = a1.length
        · rw [br_true (beq_iff_eq.2 (by omega))]
          by_cases h4 : k < 3
          · rw [br_pos (by omega), idx_of k rfl (by omega), bnd_val]
            congr 1
            by_cases h5 : F.getD k 0 = 48
            · rw [h5]; simp [h, h4]
            · rw [beq_false_of_ne h5, decide_eq_false (fun h6 => h5 h6.2.2)]
          · rw [br_neg (by omega), decide_eq_false (by omega)]
        · rw [br_false (beq_false_of_ne (by omega)), decide_eq_false (by omega)]
      rw [e, bnd_val]
      by_cases h : i + 1 = a1.length ∧ k < 3 ∧ F.getD k 0 = 48
      · rw [br_pos h]
        refine Or.inr ⟨((k + 1 : Nat) : Int), by rw [wrap_i64 (by omega)]; rfl, ⟨k + 1, rfl, by omega, fun h' => absurd h.1 h', fun j hj => ?_⟩, by omega⟩
        by_cases h8 : j = k
        · subst h8; exact h.2.2
        · exact hz j (by omega)
      · rw [br_neg h]
        exact Or.inl ⟨_, rfl, k, rfl, hk, hk0, hz, fun h1 h2 h3 => h ⟨h1, h2, h3⟩⟩)
    (s := (0 : Int)) ⟨0, rfl, by omega, fun _ => rfl, fun j hj => by omega⟩
  exact ⟨k, by rw [h1, h2], h3⟩
end Go.Ql
end

section
namespace Go.Ql
theorem bytes_drop (l : List Int) (k : Nat) : bytes (l.drop k) = (bytes l).drop k := by simp [bytes]
theorem bytes_len (l : List Int) : (bytes l).length = l.length := by simp [bytes]
theorem dec_skip : ∀ (k : Nat) (l : List UInt8), (∀ j (h : j < l.length), j < k → l[j] = 48) → dec (l.drop k) = dec l
  | 0, _, _ => rfl
  | k + 1, [], _ => by simp
  | k + 1, c :: l, h => by
    have h0 : c = 48 := h 0 (by simp) (by omega)
    rw [List.drop_succ_cons, dec_skip k l (fun j hj hk => h (j + 1) (by simpa using hj) (by omega)), dec_cons, h0]
    simp [dg]
theorem IsDec.snoc {l : List UInt8} {v d : Int} (h : IsDec l v) (hd : 0 ≤ d ∧ d < 10000) : IsDec (l ++ bytes (four d)) (d + 10000 * v) := by
  obtain ⟨h1, h2, h3, h4⟩ := h
  have hf := four_digits hd
  refine ⟨fun c hc => ?_, by simp [h2], ?_, ?_⟩
  · rcases List.mem_append.1 hc with hc | hc
    · exact h1 c hc
    · exact hf.1 c hc
  · cases l with
    | nil => exact absurd rfl h2
    | cons c l => exact h3
  · rw [dec_append, hf.2, h4, bytes_len]
    show v * 10 ^ 4 + d = _
    omega
theorem getD_byte (F : List Int) (j : Nat) (h : j < (bytes F).length) : (bytes F)[j] = UInt8.ofNat (F.getD j 0).toNat := by
  have h' : j < F.length := by rwa [bytes_len] at h
  simp [bytes, List.getD, h']
theorem IsDec.first {d : Int} (hd : 0 ≤ d ∧ d < 10000) (h0 : d ≠ 0) {k : Nat} (hk : k ≤ 3) (hz : ∀ j, j < k → (four d).getD j 0 = 48) (hn : k < 3 → (four d).getD k 0 ≠ 48) : IsDec ((bytes (four d)).drop k) d := by
  have hf := four_digits hd
  have hl : (bytes (four d)).length = 4 := by rw [bytes_len]; rfl
  have hdec : dec ((bytes (four d)).drop k) = d := by
    rw [dec_skip k _ (fun j hj hjk => by rw [getD_byte, hz j hjk]; rfl), hf.2]
  have hne : (bytes (four d)).drop k ≠ [] := by
    intro e
    have := congrArg List.length e
    rw [List.length_drop, hl] at this
    simp at this; omega
  refine ⟨fun c hc => hf.1 c (List.mem_of_mem_drop hc), hne, fun e => ?_, hdec⟩
  by_cases h3 : k < 3
  · rw [List.head?_drop, List.getElem?_eq_getElem (by omega), getD_byte] at e
    have h5 := Option.some.inj e
    have hg : 48 ≤ (four d).getD k 0 ∧ (four d).getD k 0 ≤ 57 := by
      rcases (by omega : k = 0 ∨ k = 1 ∨ k = 2) with rfl | rfl | rfl <;> simp [four] <;> omega
    apply hn h3
    have h6 := congrArg UInt8.toNat h5
    rw [UInt8.toNat_ofNat'] at h6
    have h7 : (48 : UInt8).toNat = 48 := rfl
    rw [h7] at h6
    omega
  · have : ∃ c, (bytes (four d)).drop k = [c] := by
      have hx : ((bytes (four d)).drop k).length = 1 := by rw [List.length_drop, hl]; omega
      exact List.length_eq_one_iff.1 hx
    obtain ⟨c, hc⟩ := this
    rw [hc] at e hdec
    simp at e
    rw [e] at hdec
    apply h0
    rw [← hdec]; rfl
def Txt (v : Int) (l : List UInt8) : Prop := (v = 0 ∧ l = [48]) ∨ (v ≠ 0 ∧ ∃ D, IsDec D (v.natAbs : Int) ∧ l = (if v < 0 then [45] else []) ++ D)
theorem Txt.one {v : Int} {l m : List UInt8} (h : Txt v l) (k : Txt v m) : l = m := by
  rcases h with ⟨h1, h2⟩ | ⟨h1, D, h2, h3⟩ <;> rcases k with ⟨k1, k2⟩ | ⟨k1, E, k2, k3⟩
  · rw [h2, k2]
  · exact absurd h1 k1
  · exact absurd k1 h1
  · rw [h3, k3, dec_one h2.1 k2.1 h2.2.1 k2.2.1 h2.2.2.1 k2.2.2.1 (h2.2.2.2.trans k2.2.2.2.symm)]
end Go.Ql
end

section
namespace Go.Ql
theorem ztext_loop (sg : List UInt8) (a1 : List Int) (hd : Dig 10000 a1) (ht : Trim a1) (hn : a1 ≠ []) (hL : a1.length < 1000000) (hs : sg.length ≤ 1) :
    ∃ r : List UInt8 × Int, iter (fun s : List UInt8 × Int ↦ W.R_ZText.c100007 (Prod.fst s) (Prod.snd s) a1 Option.some) (sg, (a1.length : Int) - 1) = some r ∧ ∃ l, r.1 = sg ++ l ∧ IsDec l (val 10000 a1) := by
  have hlen : a1.length ≠ 0 := fun e => hn (List.eq_nil_of_length_eq_zero e)
  exact iter_loop (f := fun s : List UInt8 × Int ↦ W.R_ZText.c100007 (Prod.fst s) (Prod.snd s) a1 Option.some)
    (J := fun s => ∃ k : Nat, s.2 = (k : Int) - 1 ∧ k ≤ a1.length ∧ ∃ l, s.1 = sg ++ l ∧ l.length ≤ 4 * (a1.length - k) ∧ ((k = a1.length ∧ l = []) ∨ (k < a1.length ∧ IsDec l (val 10000 (a1.drop k)))))
    (Q := fun r => ∃ l, r.1 = sg ++ l ∧ IsDec l (val 10000 a1))
    (fun s => (s.2 + 1).toNat) (fun ⟨text, i'⟩ ⟨k, hi, hk, l, hl, hll, hc⟩ => by
      simp only at hi hl ⊢
      subst hi
      simp only [W.R_ZText.c100007]
      by_cases h0 : k = 0
      · subst h0
        rw [br_neg (by omega)]
        rcases hc with ⟨h1, _⟩ | ⟨h1, h2⟩
        · omega
        · exact Or.inl ⟨(_, _), rfl, l, hl, h2⟩
      · obtain ⟨i, rfl⟩ : ∃ i : Nat, k = i + 1 := ⟨k - 1, by omega⟩
        have hi : i < a1.length := by omega
        have hdi := hd.getD (by decide) i
        obtain ⟨t, h1, h2, h3, h4, h5⟩ := strip_ok a1 i hi hL (four (a1.getD i 0)) rfl
        rw [br_pos (by omega), show ((i + 1 : Nat) : Int) - 1 = (i : Int) by omega, c9_ok hd i hi, bnd_val, h1, bnd_val]
        have e4 : (four (a1.getD i 0)).length = 4 := rfl
        rw [okIf_true (by rw [e4]; simp; omega), bnd_val, Int.toNat_natCast, Int.toNat_natCast, List.take_length]
        have hpl : (List.map (fun n ↦ UInt8.ofNat (Int.toNat n)) (List.drop t (four (a1.getD i 0)))).length ≤ 4 := by
          rw [List.length_map, List.length_drop, e4]; omega
        have htl : text.length ≤ 1 + 4 * a1.length := by rw [hl, List.length_append]; omega
        rw [okIf_true (by simp only [decide_eq_true_eq]; omega), bnd_val, wrap_i64 (by omega)]
        refine Or.inr ⟨(_, _), rfl, ⟨i, rfl, by omega, l ++ (bytes (four (a1.getD i 0))).drop t, ?_, ?_, Or.inr ⟨hi, ?_⟩⟩, by simp only; omega⟩
        · simp only
          rw [hl, ← bytes_drop, List.append_assoc]; rfl
        · rw [List.length_append, List.length_drop, bytes_len, e4]; omega
        · rw [val_drop 10000 i a1 hi]
          rcases hc with ⟨h6, h7⟩ | ⟨h6, h7⟩
          · have hd0 : a1.getD i 0 ≠ 0 := by
              have := ht hn
              rwa [show a1.length - 1 = i by omega] at this
            have h8 : a1.drop (i + 1) = [] := List.drop_of_length_le (by omega)
            rw [h8, h7, List.nil_append]
            have := IsDec.first hdi hd0 h2 h4 (h5 h6)
            simpa [val] using this
          · have h9 := h3 (by omega)
            subst h9
            rw [List.drop_zero]
            exact h7.snoc hdi)
    (s := (sg, (a1.length : Int) - 1)) ⟨a1.length, rfl, Nat.le_refl _, [], by simp, by simp, Or.inl ⟨rfl, rfl⟩⟩

theorem ztext_ok {a : Bool × List Int} {v : Int} (ha : Rep 10000 a v) (la : a.2.length < 1000000) : ∃ l, W.R_ZText a = some l ∧ Txt v l := by
  unfold W.R_ZText
  by_cases h0 : a.2 = []
  · rw [h0]
    refine ⟨[48], rfl, Or.inl ⟨?_, rfl⟩⟩
    rw [ha.val, h0]; simp [val]
  · have hn : a.2.length ≠ 0 := fun e => h0 (List.eq_nil_of_length_eq_zero e)
    rw [br_false (beq_false_of_ne (by omega))]
    have e1 : W.R_ZText.c216389 (Array.toList (ByteArray.data (ByteArray.mk #[]))) a.1 Option.some = some (if a.1 then [45] else []) := by
      unfold W.R_ZText.c216389
      cases a.1 <;> rfl
    obtain ⟨r, h1, l, h2, h3⟩ := ztext_loop (if a.1 then [45] else []) a.2 ha.dig ha.last h0 la (by split <;> simp)
    rw [e1, bnd_val, wrap_i64 (by omega), h1, bnd_val]
    have hp := ha.pos (by decide) h0
    have hv := ha.val
    refine ⟨_, rfl, Or.inr ⟨?_, l, ?_, ?_⟩⟩
    · cases hx : a.1 <;> simp only [hx, Bool.false_eq_true, if_false, if_true] at hv <;> omega
    · have : (v.natAbs : Int) = val 10000 a.2 := by
        cases hx : a.1 <;> simp only [hx, Bool.false_eq_true, if_false, if_true] at hv <;> omega
      rw [this]; exact h3
    · rw [h2]
      congr 1
      cases hx : a.1 <;> simp only [hx, Bool.false_eq_true, if_false, if_true] at hv ⊢
      · rw [if_neg (by omega)]
      · rw [if_pos (by omega)]
end Go.Ql
end

section
namespace Go.Ql
theorem or_add {p w : Int} (hp : 0 ≤ p ∧ p < 4294967296) (hw : 0 ≤ w ∧ w < 4294967296) : ibits Go.BinOp.or Go.IntKind.u64 (IntKind.u64.wrap (p * (2 : Int) ^ (32 : Nat))) (IntKind.u64.wrap w) = p * 4294967296 + w := by
  rw [show (2 : Int) ^ 32 = 4294967296 from rfl, wrap_u64 (x := w) (by omega), wrap_u64 (x := p * 4294967296) (by omega)]
  obtain ⟨a, rfl⟩ : ∃ a : Nat, p = a := ⟨p.toNat, by omega⟩
  obtain ⟨b, rfl⟩ : ∃ b : Nat, w = b := ⟨w.toNat, by omega⟩
  have h : (BitVec.ofInt IntKind.u64.bits ((a : Int) * 4294967296) ||| BitVec.ofInt IntKind.u64.bits (b : Int)).toNat = a * 4294967296 + b := by
    rw [BitVec.toNat_or, BitVec.toNat_ofInt, BitVec.toNat_ofInt]
    have e1 : ((a : Int) * 4294967296 % ((2 ^ IntKind.u64.bits : Nat) : Int)).toNat = 2 ^ 32 * a := by
      show ((a : Int) * 4294967296 % 18446744073709551616).toNat = 4294967296 * a
      omega
    have e2 : ((b : Int) % ((2 ^ IntKind.u64.bits : Nat) : Int)).toNat = b := by
      show ((b : Int) % 18446744073709551616).toNat = b
      omega
    rw [e1, e2, ← Nat.two_pow_add_eq_or_of_lt (by omega)]
    omega
  show IntKind.u64.wrap ((BitVec.ofInt IntKind.u64.bits ((a : Int) * 4294967296) ||| BitVec.ofInt IntKind.u64.bits (b : Int)).toNat : Int) = _
  rw [h, wrap_u64 (by omega)]
  omega
theorem tdiv_loop (a : List Int) (ha : Dig 4294967296 a) (la : a.length < 1000000000) :
    ∃ r : Int × Int × List Int, iter (fun s : Int × Int × List Int ↦ W.whole_Int_Text.c100008 (Prod.fst s) (Prod.fst (Prod.snd s)) (Prod.snd (Prod.snd s)) Option.some) ((0 : Int), IntKind.i64.wrap ((a.length : Int) - 1), a) = some r ∧
      0 ≤ r.1 ∧ r.1 < 1000000000 ∧ Dig 4294967296 r.2.2 ∧ r.2.2.length = a.length ∧ val 4294967296 a = 1000000000 * val 4294967296 r.2.2 + r.1 :=
  iter_loop (f := fun s : Int × Int × List Int ↦ W.whole_Int_Text.c100008 (Prod.fst s) (Prod.fst (Prod.snd s)) (Prod.snd (Prod.snd s)) Option.some)
    (J := fun s => ∃ k : Nat, s.2.1 = (k : Int) - 1 ∧ k ≤ a.length ∧ s.2.2.length = a.length ∧ Dig 4294967296 s.2.2 ∧ 0 ≤ s.1 ∧ s.1 < 1000000000 ∧
      val 4294967296 a = 1000000000 * (val 4294967296 s.2.2 - val 4294967296 (s.2.2.take k)) + 4294967296 ^ k * s.1 + val 4294967296 (s.2.2.take k))
    (Q := fun r => 0 ≤ r.1 ∧ r.1 < 1000000000 ∧ Dig 4294967296 r.2.2 ∧ r.2.2.length = a.length ∧ val 4294967296 a = 1000000000 * val 4294967296 r.2.2 + r.1)
    (fun s => (s.2.1 + 1).toNat) (fun ⟨p, i', t⟩ ⟨k, hi, hk, hl, hd, hp0, hp1, hv⟩ => by
      simp only at hi hl hd hp0 hp1 hv ⊢
      subst hi
      simp only [W.whole_Int_Text.c100008]
      by_cases h0 : k = 0
      · subst h0
        rw [br_neg (by omega)]
        refine Or.inl ⟨(_, _, _), rfl, hp0, hp1, hd, hl, ?_⟩
        simp [val] at hv
        simp only
        omega
      · obtain ⟨i, rfl⟩ : ∃ i : Nat, k = i + 1 := ⟨k - 1, by omega⟩
        have hi : i < t.length := by omega
        have hdi := hd.getD (by decide) i
        rw [br_pos (by omega), show ((i + 1 : Nat) : Int) - 1 = (i : Int) by omega, inR_of (by omega) (by omega), idx_of i rfl hi]
        simp only [bnd_val]
        rw [or_add ⟨hp0, by omega⟩ hdi]
        have hset := val_set 4294967296 ((p * 4294967296 + t.getD i 0) / 1000000000) i t hi
        have htk := val_take_succ 4294967296 i t
        have htk2 : (t.set i ((p * 4294967296 + t.getD i 0) / 1000000000)).take i = t.take i := by
          rw [List.take_set_of_le (Nat.le_refl _)]
        generalize hx : t.getD i 0 = x at *
        rw [tdiv_pos (by omega), tmod_pos (by omega), wrap_u64 (x := (p * 4294967296 + x) / 1000000000) (by omega), wrap_u32 (by omega), wrap_i64 (by omega), Int.toNat_natCast]
        refine Or.inr ⟨(_, _, _), rfl, ⟨i, rfl, by omega, by simp only [List.length_set]; exact hl, hd.set (by omega) i, by simp only; omega, by simp only; omega, ?_⟩, by simp only; omega⟩
        simp only
        rw [htk2, hset]
        have hq : p * 4294967296 + x = 1000000000 * ((p * 4294967296 + x) / 1000000000) + (p * 4294967296 + x) % 1000000000 := by omega
        rw [Int.pow_succ] at hv
        generalize (p * 4294967296 + x) / 1000000000 = q at *
        generalize (p * 4294967296 + x) % 1000000000 = m at *
        generalize (4294967296 : Int) ^ i = P at *
        grind)
    (s := ((0 : Int), IntKind.i64.wrap ((a.length : Int) - 1), a)) ⟨a.length, by rw [wrap_i64 (by omega)], Nat.le_refl _, rfl, ha, Int.le_refl _, by simp only; omega, by rw [List.take_length]; simp⟩
theorem trim_of_val {B : Int} (hB : 0 < B) {l : List Int} (h : Dig B l) (hv : B ^ (l.length - 1) ≤ val B l) : Trim l := by
  intro hn h0
  have h0' : l.length ≠ 0 := fun e => hn (List.eq_nil_of_length_eq_zero e)
  have h1 := val_take_succ B (l.length - 1) l
  rw [show l.length - 1 + 1 = l.length by omega, List.take_length, h0] at h1
  have h2 := val_lt hB (h.take (l.length - 1))
  rw [show (l.take (l.length - 1)).length = l.length - 1 by rw [List.length_take]; omega] at h2
  simp at h1
  omega
theorem tdrop_ok (a t : List Int) (p : Int) (ha : Dig 4294967296 a) (ta : Trim a) (hn : a ≠ []) (la : a.length < 1000000000) (hd : Dig 4294967296 t) (hl : t.length = a.length) (hp : 0 ≤ p ∧ p < 1000000000)
    (hv : val 4294967296 a = 1000000000 * val 4294967296 t + p) :
    ∃ r, W.whole_Int_Text.c253253 t Option.some = some r ∧ Dig 4294967296 r ∧ Trim r ∧ val 4294967296 r = val 4294967296 t ∧ r.length ≤ t.length := by
  have h0 : a.length ≠ 0 := fun e => hn (List.eq_nil_of_length_eq_zero e)
  have hg := val_ge (by decide) ha ta hn
  unfold W.whole_Int_Text.c253253
  rw [wrap_i64 (by omega), inR_of (by omega) (by omega), idx_of (t.length - 1) (by omega) (by omega)]
  simp only [bnd_val]
  by_cases hz : t.getD (t.length - 1) 0 = 0
  · rw [hz, br_true (b := ((0 : Int) == 0)) rfl, okIf_true (by simp; omega), bnd_val, show (((t.length : Int) - 1).toNat) = t.length - 1 by omega]
    have h1 := val_take_succ 4294967296 (t.length - 1) t
    rw [show t.length - 1 + 1 = t.length by omega, List.take_length, hz] at h1
    refine ⟨_, rfl, hd.take _, ?_, by omega, by rw [List.length_take]; omega⟩
    by_cases h2 : t.length = 1
    · rw [h2]; intro e; exact absurd rfl e
    · refine trim_of_val (by decide) (hd.take _) ?_
      have e1 : (t.take (t.length - 1)).length = t.length - 2 + 1 := by rw [List.length_take]; omega
      rw [e1, Nat.add_sub_cancel]
      have e2 : a.length - 1 = t.length - 2 + 1 := by omega
      rw [e2, Int.pow_succ] at hg
      have : (0 : Int) < 4294967296 ^ (t.length - 2) := Int.pow_pos (by decide)
      generalize (4294967296 : Int) ^ (t.length - 2) = P at *
      omega
  · rw [br_false (beq_false_of_ne hz)]
    exact ⟨_, rfl, hd, fun _ => hz, rfl, Nat.le_refl _⟩
end Go.Ql
end

section
namespace Go.Ql
def chr (ds : List Int) : List Int := ds.map fun d => 48 + d
theorem chr_append (a b : List Int) : chr (a ++ b) = chr a ++ chr b := by simp [chr]
theorem chr_len (a : List Int) : (chr a).length = a.length := by simp [chr]
theorem tpart_loop (t : List Int) (P : Int) (hP : 0 ≤ P ∧ P < 1000000000) (ds : List Int) (hds : Dig 10 ds) (ld : ds.length < 100000000000) :
    ∃ r : Int × Int × List Int, iter (fun s : Int × Int × List Int ↦ W.whole_Int_Text.c100016 (Prod.fst s) (Prod.fst (Prod.snd s)) (Prod.snd (Prod.snd s)) t Option.some) (P, (0 : Int), chr ds) = some r ∧
      ∃ es, r.2.2 = chr es ∧ Dig 10 es ∧ es.length ≤ ds.length + 9 ∧ (t ≠ [] → es.length = ds.length + 9) ∧ val 10 es = val 10 ds + 10 ^ ds.length * P ∧ (t = [] → P ≠ 0 → Trim es) :=
  iter_loop (f := fun s : Int × Int × List Int ↦ W.whole_Int_Text.c100016 (Prod.fst s) (Prod.fst (Prod.snd s)) (Prod.snd (Prod.snd s)) t Option.some)
    (J := fun s => ∃ k : Nat, s.2.1 = (k : Int) ∧ k ≤ 9 ∧ 0 ≤ s.1 ∧ s.1 < 10 ^ (9 - k) ∧ ∃ es, s.2.2 = chr es ∧ Dig 10 es ∧ es.length = ds.length + k ∧ val 10 es + 10 ^ es.length * s.1 = val 10 ds + 10 ^ ds.length * P ∧ (P ≠ 0 → t = [] → s.1 = 0 → Trim es))
    (Q := fun r => ∃ es, r.2.2 = chr es ∧ Dig 10 es ∧ es.length ≤ ds.length + 9 ∧ (t ≠ [] → es.length = ds.length + 9) ∧ val 10 es = val 10 ds + 10 ^ ds.length * P ∧ (t = [] → P ≠ 0 → Trim es))
    (fun s => 9 - s.2.1.toNat) (fun ⟨p, k', out⟩ ⟨k, hk', hk, hp0, hp1, es, ho, hd, hl, hv, ht⟩ => by
      simp only at hk' hp0 hp1 ho hv ht ⊢
      subst hk'
      simp only [W.whole_Int_Text.c100016]
      have e : W.whole_Int_Text.c16 p (k : Int) t Option.some = some (decide (k < 9 ∧ (0 < p ∨ t ≠ []))) := by
        unfold W.whole_Int_Text.c16
        by_cases h : k < 9
        · rw [br_pos (by omega)]
          by_cases h2 : 0 < p
          · rw [br_pos (by omega), decide_eq_true ⟨h, Or.inl h2⟩]
          · rw [br_neg (by omega)]
            congr 1
            cases t with
            | nil => simp [h2]
            | cons x t => simp [h]
        · rw [br_neg (by omega), decide_eq_false (by omega)]
      rw [e, bnd_val]
      by_cases h : k < 9 ∧ (0 < p ∨ t ≠ [])
      · rw [br_pos h]
        have h9 : (10 : Int) ^ (9 - k) ≤ 10 ^ 9 := pow_le (by decide) (by omega)
        have hp2 : p < 1000000000 := Int.lt_of_lt_of_le hp1 h9
        have hdd : Dig 10 (es ++ [p % 10]) := hd.append (Dig.cons (by omega) Dig.nil)
        have hso : chr (es ++ [p % 10]) = chr es ++ [48 + p % 10] := by rw [chr_append]; rfl
        rw [tdiv_pos hp0, tmod_pos hp0, wrap_u64 (x := 48 + p % 10) (by omega), IntWalk.u8_in (48 + p % 10) (by omega), wrap_u64 (x := p / 10) (by omega), wrap_i64 (by omega)]
        rw [okIf_true (by rw [ho]; simp [chr_len]; omega), bnd_val]
        refine Or.inr ⟨(_, _, _), rfl, ⟨k + 1, by simp, by omega, by simp only; omega, ?_, es ++ [p % 10], by simp only; rw [hso, ho], hdd, by rw [List.length_append, List.length_singleton]; omega, ?_, ?_⟩, by simp only; omega⟩
        · simp only
          rw [show 9 - k = 9 - (k + 1) + 1 by omega, Int.pow_succ] at hp1
          generalize (10 : Int) ^ (9 - (k + 1)) = A at *
          omega
        · simp only
          rw [val_snoc, List.length_append, List.length_singleton, Int.pow_succ, ← hv]
          have hq : p = 10 * (p / 10) + p % 10 := by omega
          generalize p / 10 = q at *
          generalize p % 10 = m at *
          generalize (10 : Int) ^ es.length = A at *
          subst hq
          grind
        · simp only
          intro h1 h2 h3 _ h4
          rw [List.length_append, List.length_singleton, Nat.add_sub_cancel] at h4
          simp [List.getD] at h4
          rcases h.2 with h5 | h5
          · omega
          · exact h5 h2
      · rw [br_neg h]
        have hpz : t = [] → p = 0 := fun e => by
          by_cases h9 : k < 9
          · by_cases h2 : 0 < p
            · exact absurd ⟨h9, Or.inl h2⟩ h
            · omega
          · rw [show 9 - k = 0 by omega] at hp1; simp at hp1; omega
        have hp9 : p = 0 := by
          by_cases h9 : k < 9
          · by_cases h2 : 0 < p
            · exact absurd ⟨h9, Or.inl h2⟩ h
            · omega
          · rw [show 9 - k = 0 by omega] at hp1; simp at hp1; omega
        refine Or.inl ⟨(_, _, _), rfl, es, ho, hd, by omega, fun htn => ?_, by rw [hp9] at hv; simpa using hv, fun ht1 hP0 => ht hP0 ht1 hp9⟩
        by_cases h9 : k < 9
        · exact absurd ⟨h9, Or.inr htn⟩ h
        · omega)
    (s := (P, (0 : Int), chr ds)) ⟨0, rfl, by omega, hP.1, hP.2, ds, rfl, hds, rfl, rfl, fun h1 _ h2 => absurd h2 h1⟩

theorem tall_loop (a : List Int) (ha : Dig 4294967296 a) (ta : Trim a) (hn : a ≠ []) (la : a.length < 1000000) :
    ∃ r : List Int × List Int, iter (fun s : List Int × List Int ↦ W.whole_Int_Text.c100005 (Prod.fst s) (Prod.snd s) Option.some) ([], a) = some r ∧
      ∃ es, r.1 = chr es ∧ Dig 10 es ∧ es.length < 100000000 ∧ val 10 es = val 4294967296 a ∧ Trim es :=
  iter_loop (f := fun s : List Int × List Int ↦ W.whole_Int_Text.c100005 (Prod.fst s) (Prod.snd s) Option.some)
    (J := fun s => ∃ ds, s.1 = chr ds ∧ Dig 10 ds ∧ ds.length < 100000000 ∧ Dig 4294967296 s.2 ∧ Trim s.2 ∧ s.2.length ≤ a.length ∧ val 10 ds + 10 ^ ds.length * val 4294967296 s.2 = val 4294967296 a ∧ (s.2 = [] → Trim ds))
    (Q := fun r => ∃ es, r.1 = chr es ∧ Dig 10 es ∧ es.length < 100000000 ∧ val 10 es = val 4294967296 a ∧ Trim es)
    (fun s => (val 4294967296 s.2).toNat) (fun ⟨out, t⟩ ⟨ds, ho, hd, hdl, htd, htt, htl, hv, hte⟩ => by
      simp only at ho htd htt htl hv hte ⊢
      subst ho
      simp only [W.whole_Int_Text.c100005]
      by_cases h0 : t = []
      · subst h0
        rw [br_neg (by simp)]
        exact Or.inl ⟨(_, _), rfl, ds, rfl, hd, hdl, by simpa [val] using hv, hte rfl⟩
      · have h0' : t.length ≠ 0 := fun e => h0 (List.eq_nil_of_length_eq_zero e)
        have hpos : 1 ≤ val 4294967296 t := by
          have := val_ge (by decide) htd htt h0
          have h3 : (0 : Int) < 4294967296 ^ (t.length - 1) := Int.pow_pos (by decide)
          omega
        rw [br_pos (by omega)]
        obtain ⟨⟨p, i, t1⟩, h1, hp0, hp1, hd1, hl1, hv1⟩ := tdiv_loop t htd (by omega)
        simp only at hp0 hp1 hd1 hl1 hv1
        obtain ⟨r, h2, hrd, hrt, hrv, hrl⟩ := tdrop_ok t t1 p htd htt h0 (by omega) hd1 hl1 ⟨hp0, hp1⟩ hv1
        have hlen : ds.length < 10 * a.length := by
          have e1 := val_nonneg (by decide) hd
          have e2 : (10 : Int) ^ ds.length * 1 ≤ 10 ^ ds.length * val 4294967296 t := Int.mul_le_mul_of_nonneg_left (by omega) (Int.le_of_lt (Int.pow_pos (by decide)))
          have e3 := val_lt (by decide) ha
          have e4 : (4294967296 : Int) ^ a.length ≤ (10 ^ 10) ^ a.length := by
            have : ∀ n : Nat, (4294967296 : Int) ^ n ≤ (10 ^ 10) ^ n := fun n => by
              induction n with
              | zero => simp
              | succ n ih =>
                rw [Int.pow_succ, Int.pow_succ]
                exact Int.mul_le_mul ih (by decide) (by decide) (Int.le_of_lt (Int.pow_pos (by decide)))
            exact this _
          have e5 : ((10 : Int) ^ 10) ^ a.length = 10 ^ (10 * a.length) := by rw [← Int.pow_mul]
          rcases Nat.lt_or_ge ds.length (10 * a.length) with h | h
          · exact h
          · have := pow_le (B := 10) (by decide) h
            omega
        obtain ⟨⟨p2, k2, o2⟩, h3, es, ho2, hde, hle, hle2, hve, hte2⟩ := tpart_loop r p ⟨hp0, hp1⟩ ds hd (by omega)
        simp only at ho2
        rw [h1, bnd_val]
        simp only
        rw [h2, bnd_val, h3, bnd_val]
        refine Or.inr ⟨(_, _), rfl, ⟨es, ho2, hde, by omega, hrd, hrt, by simp only; omega, ?_, fun hre => ?_⟩, ?_⟩
        · simp only
          rw [hrv, hve, ← hv, hv1]
          by_cases hre : r = []
          · subst hre
            simp only [val] at hrv
            rw [← hrv]
            grind
          · rw [hle2 hre, Int.pow_add]
            grind
        · refine hte2 hre ?_
          intro hpe
          have hre1 : r = [] := hre
          rw [hre1] at hrv
          simp only [val] at hrv
          omega
        · simp only
          omega)
    (s := ([], a)) ⟨[], rfl, Dig.nil, by simp, ha, ta, Nat.le_refl _, by simp [val], fun e => absurd e hn⟩
end Go.Ql
end

section
namespace Go.Ql
theorem reverse_ok (a : List Int) (la : a.length < 1000000000000) : W.slices_Reverse_byte a = some (a.reverse, ()) := by
  obtain ⟨⟨i, j, r⟩, h1, h2⟩ := iter_loop (f := fun s : Int × Int × List Int ↦ W.slices_Reverse_byte.c100001 (Prod.fst s) (Prod.fst (Prod.snd s)) (Prod.snd (Prod.snd s)) Option.some)
    (J := fun s => ∃ k : Nat, s.1 = k ∧ s.2.1 = (a.length : Int) - 1 - k ∧ 2 * k ≤ a.length + 1 ∧ s.2.2.length = a.length ∧ ∀ m, m < a.length → s.2.2.getD m 0 = if m < k ∨ a.length ≤ m + k then a.getD (a.length - 1 - m) 0 else a.getD m 0)
    (Q := fun r => r.2.2 = a.reverse)
    (fun s => (s.2.1 + 1).toNat) (fun ⟨i, j, t⟩ ⟨k, hi, hj, hk, hl, hm⟩ => by
      simp only at hi hj hl hm ⊢
      subst hi hj
      simp only [W.slices_Reverse_byte.c100001]
      by_cases h : (k : Int) < (a.length : Int) - 1 - k
      · rw [br_pos h]
        unfold W.slices_Reverse_byte.c3
        have ej : (a.length : Int) - 1 - k = ((a.length - 1 - k : Nat) : Int) := by omega
        rw [ej, inR_of (by omega) (by omega), idx_of (a.length - 1 - k) rfl (by omega), inR_of (by omega) (by omega), idx_of k rfl (by omega)]
        simp only [bnd_val]
        rw [inR_of (by omega) (by rw [List.length_set]; omega), idx_of (a.length - 1 - k) rfl (by rw [Int.toNat_natCast, List.length_set]; omega)]
        simp only [bnd_val, Int.toNat_natCast]
        rw [wrap_i64 (by omega), wrap_i64 (by omega)]
        refine Or.inr ⟨(_, _, _), rfl, ⟨k + 1, by simp, by simp only; omega, by omega, by simp only [List.length_set]; exact hl, fun m hml => ?_⟩, by simp only; omega⟩
        simp only
        rw [getD_set (by rw [List.length_set]; omega), getD_set (by omega), hm _ (by omega), hm _ (by omega), hm m hml]
        by_cases e1 : a.length - 1 - k = m
        · rw [if_pos e1, if_neg (by omega), if_pos (by omega)]
          congr 1; omega
        · rw [if_neg e1]
          by_cases e2 : k = m
          · rw [if_pos e2, if_neg (by omega), if_pos (by omega)]
            congr 1; omega
          · rw [if_neg e2]
            by_cases e3 : m < k ∨ a.length ≤ m + k
            · rw [if_pos e3, if_pos (by omega)]
            · rw [if_neg e3, if_neg (by omega)]
      · rw [br_neg h]
        refine Or.inl ⟨(_, _, _), rfl, ?_⟩
        simp only
        apply List.ext_getElem
        · rw [List.length_reverse, hl]
        · intro m h1 h2
          have h3 := hm m (by omega)
          have e1 : t.getD m 0 = t[m] := by simp [List.getD, h1]
          rw [← e1, h3, List.getElem_reverse]
          by_cases e2 : m < k ∨ a.length ≤ m + k
          · rw [if_pos e2]; simp [List.getD, show a.length - 1 - m < a.length by omega]
          · rw [if_neg e2]
            have e3 : a.length - 1 - m = m := by omega
            simp only [e3]
            simp [List.getD, show m < a.length by omega])
    (s := ((0 : Int), IntKind.i64.wrap ((a.length : Int) - 1), a)) ⟨0, rfl, by rw [wrap_i64 (by omega)]; simp, by omega, rfl, fun m hml => by rw [if_neg (by omega)]⟩
  simp only at h2
  unfold W.slices_Reverse_byte
  rw [h1, bnd_val, ← h2]
theorem dec_rev : ∀ (ds : List Int), Dig 10 ds → Digits (bytes (chr ds).reverse) ∧ dec (bytes (chr ds).reverse) = val 10 ds
  | [], _ => ⟨fun c hc => by simp [chr, bytes] at hc, rfl⟩
  | d :: ds, h => by
    obtain ⟨h1, h2⟩ := dec_rev ds h.tail
    have hb := byte_dg (d := d) (by have := h.head; omega)
    have e : bytes (chr (d :: ds)).reverse = bytes (chr ds).reverse ++ [UInt8.ofNat (Int.toNat (48 + d))] := by simp [chr, bytes]
    rw [e]
    refine ⟨fun c hc => ?_, ?_⟩
    · rcases List.mem_append.1 hc with hc | hc
      · exact h1 c hc
      · rw [List.mem_singleton.1 hc]; exact hb.1
    · rw [dec_snoc, h2, hb.2]
      simp only [val]; omega
theorem isDec_rev {ds : List Int} (h : Dig 10 ds) (ht : Trim ds) (hn : ds ≠ []) : IsDec (bytes (chr ds).reverse) (val 10 ds) := by
  obtain ⟨h1, h2⟩ := dec_rev ds h
  have h0 : ds.length ≠ 0 := fun e => hn (List.eq_nil_of_length_eq_zero e)
  refine ⟨h1, fun e => ?_, fun e => ?_, h2⟩
  · have := congrArg List.length e
    simp [bytes, chr] at this
    exact hn this
  · have h3 : (bytes (chr ds).reverse).head? = some (UInt8.ofNat (Int.toNat (48 + ds.getD (ds.length - 1) 0))) := by
      simp [bytes, chr, List.getLast?_eq_getElem?, List.getD, show ds.length - 1 < ds.length by omega]
    rw [h3] at e
    have h4 := Option.some.inj e
    have hd := h.getD (by decide) (ds.length - 1)
    have hb := (byte_dg (d := ds.getD (ds.length - 1) 0) (by omega)).2
    rw [h4] at hb
    exact ht hn hb.symm
theorem text_ok {a : Bool × List Int} {v : Int} (ha : Rep 4294967296 a v) (la : a.2.length < 1000000) : ∃ l, W.whole_Int_Text a = some l ∧ Txt v l := by
  unfold W.whole_Int_Text
  by_cases h0 : a.2 = []
  · rw [h0]
    refine ⟨[48], rfl, Or.inl ⟨?_, rfl⟩⟩
    rw [ha.val, h0]; simp [val]
  · have hn : a.2.length ≠ 0 := fun e => h0 (List.eq_nil_of_length_eq_zero e)
    rw [br_false (beq_false_of_ne (by omega))]
    have hcl : W.slices_Clone_uint32 a.2 = some (a.2, ()) := by
      unfold W.slices_Clone_uint32
      have : a.2.isEmpty = false := by rw [← Bool.not_eq_true, List.isEmpty_iff]; exact h0
      rw [this, br_ff, okIf_true (by simp; omega), bnd_val]
    obtain ⟨⟨out, t⟩, h1, es, ho, hd, hl, hv, ht⟩ := tall_loop a.2 ha.dig ha.last h0 la
    simp only at ho
    have hp := ha.pos (by decide) h0
    have hen : es ≠ [] := fun e => by rw [e] at hv; simp only [val] at hv; omega
    have e1 : W.whole_Int_Text.c281925 a.1 out Option.some = some (if a.1 then chr es ++ [45] else chr es) := by
      unfold W.whole_Int_Text.c281925
      subst ho
      cases a.1
      · rw [br_ff]; rfl
      · rw [br_tt, okIf_true (by simp [chr_len]; omega), bnd_val]; rfl
    rw [hcl, bnd_val, h1, bnd_val, e1, bnd_val, reverse_ok _ (by split <;> simp [chr_len] <;> omega), bnd_val]
    have hva := ha.val
    refine ⟨_, rfl, Or.inr ⟨?_, bytes (chr es).reverse, ?_, ?_⟩⟩
    · cases hx : a.1 <;> simp only [hx, Bool.false_eq_true, if_false, if_true] at hva <;> omega
    · have : (v.natAbs : Int) = val 10 es := by
        cases hx : a.1 <;> simp only [hx, Bool.false_eq_true, if_false, if_true] at hva <;> omega
      rw [this]; exact isDec_rev hd ht hen
    · cases hx : a.1 <;> simp only [hx, Bool.false_eq_true, if_false, if_true] at hva ⊢
      · rw [if_neg (by omega)]; rfl
      · rw [if_pos (by omega)]; simp [bytes]
end Go.Ql
end

section
namespace Go.Ql
theorem u64_mod {x : Int} : IntKind.u64.wrap x = x % 18446744073709551616 := by
  simp [IntKind.wrap, IntKind.signed, IntKind.bits]
theorem of_ok {n : Int} (h : -9223372036854775808 ≤ n ∧ n ≤ 9223372036854775807) :
    ∃ r, W.whole_Of n = some r ∧ Rep 4294967296 r n ∧ r.2.length ≤ 2 := by
  unfold W.whole_Of
  have e : W.whole_Of.c208197 n (IntKind.u64.wrap n) Option.some = some (n.natAbs : Int) := by
    unfold W.whole_Of.c208197
    by_cases h0 : n < 0
    · rw [br_pos h0, u64_mod, u64_mod]; congr 1; omega
    · rw [br_neg h0, u64_mod]; congr 1; omega
  rw [e, bnd_val, wrap_u32_mod, wrap_u32_mod, show (2 : Int) ^ 32 = 4294967296 from rfl, Int.fdiv_eq_ediv_of_nonneg _ (by decide)]
  obtain ⟨r, h1, h2, h3⟩ := made_ok (B := 4294967296) (decide (n < 0)) [(n.natAbs : Int) % 4294967296, (n.natAbs : Int) / 4294967296 % 4294967296]
    (Dig.cons (by omega) (Dig.cons (by omega) Dig.nil)) (by simp)
  rw [h1, bnd_val]
  refine ⟨r, rfl, ?_, by simpa using h3⟩
  have : n = if decide (n < 0) = true then -val 4294967296 [(n.natAbs : Int) % 4294967296, (n.natAbs : Int) / 4294967296 % 4294967296] else val 4294967296 [(n.natAbs : Int) % 4294967296, (n.natAbs : Int) / 4294967296 % 4294967296] := by
    simp only [val]
    by_cases h0 : n < 0
    · rw [if_pos (decide_eq_true h0)]; omega
    · rw [if_neg (by simpa using h0)]; omega
  rw [← this] at h2
  exact h2
theorem pair_eta {α β : Type} (p : α × β) : (p.1, p.2) = p := rfl
theorem eqT_ff (f : Int × Int) : Ty.eqT (Ty.pair (Ty.int Go.IntKind.i64) (Ty.int Go.IntKind.i64)) f f = true := by
  simp [Ty.eqT]
end Go.Ql
end

section
namespace Go.Ql
theorem or32 (m : Nat) {a x q : Int} (ha : 0 ≤ a ∧ a < 2 ^ m) (hx : x = 2 ^ m * q) (hq : 0 ≤ q) (hb : a + x < 4294967296) : ibits Go.BinOp.or Go.IntKind.u32 a x = a + x := by
  obtain ⟨a, rfl⟩ : ∃ n : Nat, a = n := ⟨a.toNat, by omega⟩
  obtain ⟨q, rfl⟩ : ∃ n : Nat, q = n := ⟨q.toNat, by omega⟩
  have hx2 : x = ((2 ^ m * q : Nat) : Int) := by rw [hx]; simp
  have ham : a < 2 ^ m := by
    have := ha.2
    rw [show ((2 : Int) ^ m) = ((2 ^ m : Nat) : Int) by simp] at this
    omega
  have h : (BitVec.ofInt IntKind.u32.bits (a : Int) ||| BitVec.ofInt IntKind.u32.bits ((2 ^ m * q : Nat) : Int)).toNat = a + 2 ^ m * q := by
    rw [BitVec.toNat_or, BitVec.toNat_ofInt, BitVec.toNat_ofInt]
    have e1 : ((a : Int) % ((2 ^ IntKind.u32.bits : Nat) : Int)).toNat = a := by
      show ((a : Int) % 4294967296).toNat = a
      omega
    have e2 : (((2 ^ m * q : Nat) : Int) % ((2 ^ IntKind.u32.bits : Nat) : Int)).toNat = 2 ^ m * q := by
      show (((2 ^ m * q : Nat) : Int) % 4294967296).toNat = 2 ^ m * q
      omega
    rw [e1, e2, Nat.or_comm, ← Nat.two_pow_add_eq_or_of_lt ham]
    omega
  show IntKind.u32.wrap ((BitVec.ofInt IntKind.u32.bits (a : Int) ||| BitVec.ofInt IntKind.u32.bits x).toNat : Int) = _
  rw [hx2, h, wrap_u32 (by omega)]
  omega
theorem two_parts (m : Nat) (hm : m < 32) : (0 : Int) < 2 ^ m ∧ (2 : Int) ^ m ≤ 2147483648 ∧ (2 : Int) ^ m * 2 ^ (32 - m) = 4294967296 ∧ (0 : Int) < 2 ^ (32 - m) := by
  have h1 : (0 : Int) < 2 ^ m := Int.pow_pos (by decide)
  have h2 : (2 : Int) ^ m ≤ 2 ^ 31 := pow_le (by decide) (by omega)
  have h3 : (2 : Int) ^ m * 2 ^ (32 - m) = 2 ^ 32 := by rw [← Int.pow_add]; congr 1; omega
  exact ⟨h1, h2, h3, Int.pow_pos (by decide)⟩
theorem pow_split (n : Nat) : (2 : Int) ^ n = 4294967296 ^ (n / 32) * 2 ^ (n % 32) := by
  have h : (4294967296 : Int) = 2 ^ 32 := rfl
  rw [h, ← Int.pow_mul, ← Int.pow_add]
  congr 1
  omega
theorem left_ok (a : List Int) (n : Nat) (ha : Dig 4294967296 a) (la : a.length < 100000000) (hn : n < 100000000) :
    ∃ t, W.whole_left a (n : Int) = some (t, ()) ∧ Dig 4294967296 t ∧ t.length = a.length + n / 32 + 1 ∧ val 4294967296 t = val 4294967296 a * 2 ^ n := by
  obtain ⟨hP, hP2, hPQ, hQ⟩ := two_parts (n % 32) (by omega)
  have e1 : Int.tdiv (n : Int) 32 = ((n / 32 : Nat) : Int) := by rw [tdiv_pos (by omega)]; omega
  have e2 : Int.tmod (n : Int) 32 = ((n % 32 : Nat) : Int) := by rw [tmod_pos (by omega)]; omega
  have hpow := pow_split n
  obtain ⟨⟨i, t⟩, h1, ht, hd, hv⟩ := iter_loop
    (f := fun s : Int × List Int ↦ W.whole_left.c100003 (n : Int) a (a.length : Int) (Prod.fst s) (Prod.snd s) Option.some)
    (J := fun s => ∃ i : Nat, s.1 = i ∧ i ≤ a.length ∧ s.2.length = a.length + n / 32 + 1 ∧ Dig 4294967296 s.2 ∧ (∀ t, i + n / 32 < t → s.2.getD t 0 = 0) ∧ s.2.getD (i + n / 32) 0 < 2 ^ (n % 32) ∧ val 4294967296 s.2 = val 4294967296 (a.take i) * 2 ^ n)
    (Q := fun s => s.2.length = a.length + n / 32 + 1 ∧ Dig 4294967296 s.2 ∧ val 4294967296 s.2 = val 4294967296 a * 2 ^ n)
    (fun s => a.length - s.1.toNat) (fun ⟨i', t⟩ ⟨i, hi, hil, hl, hd, hz, ho, hv⟩ => by
      simp only at hi hl hd hz ho hv ⊢
      subst hi
      simp only [W.whole_left.c100003]
      by_cases h0 : i < a.length
      · have hda := ha.getD (by decide) i
        have hdt := hd.getD (by decide) (i + n / 32)
        have htk := val_take_succ 4294967296 i a
        rw [br_pos (by omega), e1, e2, idx_of i rfl h0, wrap_i64 (x := ((n / 32 : Nat) : Int)) (by omega), wrap_i64 (x := (i : Int) + ((n / 32 : Nat) : Int)) (by omega), show (i : Int) + ((n / 32 : Nat) : Int) = ((i + n / 32 : Nat) : Int) by omega, wrap_i64 (x := ((i + n / 32 : Nat) : Int) + 1) (by omega), show ((i + n / 32 : Nat) : Int) + 1 = ((i + n / 32 + 1 : Nat) : Int) by omega]
        rw [okIf_true (by simp; omega), inR_of (by omega) (by omega), idx_of (i + n / 32) rfl (by omega)]
        simp only [bnd_val, Int.toNat_natCast]
        rw [inR_of (by omega) (by rw [List.length_set]; omega), idx_of (i + n / 32 + 1) rfl (by rw [List.length_set]; omega)]
        simp only [bnd_val]
        rw [getD_set (by omega), if_neg (by omega), hz (i + n / 32 + 1) (by omega)]
        rw [show min (n % 32) 64 = n % 32 by omega]
        generalize hy : a.getD i 0 = y at *
        generalize hoo : t.getD (i + n / 32) 0 = o at *
        generalize hPP : (2 : Int) ^ (n % 32) = P at *
        generalize (2 : Int) ^ (32 - n % 32) = Qq at *
        have b1 : 0 ≤ y * P := Int.mul_nonneg hda.1 (by omega)
        have b2 : y * P ≤ 4294967295 * P := Int.mul_le_mul_of_nonneg_right (by omega) (by omega)
        rw [wrap_u64 (x := y) (by omega), wrap_u64 (x := y * P) (by omega), wrap_u32_mod, wrap_u32_mod, show (2 : Int) ^ 32 = 4294967296 from rfl, Int.fdiv_eq_ediv_of_nonneg _ (by decide)]
        have e3 : y * P % 4294967296 = P * (y % Qq) := by
          rw [← hPQ, Int.mul_comm y P, Int.mul_emod_mul_of_pos _ _ hP]
        have b3 : 0 ≤ y % Qq := Int.emod_nonneg _ (by omega)
        have b4 : P * (y % Qq + 1) ≤ P * Qq := Int.mul_le_mul_of_nonneg_left (by have := Int.emod_lt_of_pos y hQ; omega) (by omega)
        rw [Int.mul_add, Int.mul_one] at b4
        have e4 : ibits Go.BinOp.or Go.IntKind.u32 o (y * P % 4294967296) = o + y * P % 4294967296 :=
          or32 (n % 32) (q := y % Qq) (by rw [hPP]; omega) (by rw [hPP]; exact e3) b3 (by omega)
        have e5 : ibits Go.BinOp.or Go.IntKind.u32 0 (y * P / 4294967296 % 4294967296) = y * P / 4294967296 := by
          rw [or32 0 (q := y * P / 4294967296 % 4294967296) (by simp) (by simp) (by omega) (by omega)]; omega
        rw [e4, e5]
        have s1 := val_set 4294967296 (o + y * P % 4294967296) (i + n / 32) t (by omega)
        have s2 := val_set 4294967296 (y * P / 4294967296) (i + n / 32 + 1) (t.set (i + n / 32) (o + y * P % 4294967296)) (by rw [List.length_set]; omega)
        rw [getD_set (by omega), if_neg (by omega), hz (i + n / 32 + 1) (by omega), s1, hoo, Int.pow_succ] at s2
        have c1 : 0 ≤ o + y * P % 4294967296 ∧ o + y * P % 4294967296 < 4294967296 := by omega
        have c2 : 0 ≤ y * P / 4294967296 ∧ y * P / 4294967296 < P := by omega
        refine Or.inr ⟨(_, _), rfl, ⟨i + 1, ?_, by omega, by simp only [List.length_set]; exact hl, (hd.set c1 _).set (by omega) _, fun x hx => ?_, ?_, ?_⟩, ?_⟩
        · simp only; rw [wrap_i64 (by omega)]; omega
        · simp only
          rw [getD_set (by rw [List.length_set]; omega), if_neg (by omega), getD_set (by omega), if_neg (by omega)]
          exact hz x (by omega)
        · simp only
          rw [show i + 1 + n / 32 = i + n / 32 + 1 by omega, getD_set (by rw [List.length_set]; omega), if_pos rfl]
          exact c2.2
        · simp only
          rw [s2, htk, hv, hpow, Int.pow_add]
          have hq : y * P = 4294967296 * (y * P / 4294967296) + y * P % 4294967296 := by omega
          generalize y * P / 4294967296 = hh at *
          generalize y * P % 4294967296 = ll at *
          generalize (4294967296 : Int) ^ i = A at *
          generalize (4294967296 : Int) ^ (n / 32) = C at *
          have : C * P * (A * y) = C * A * (y * P) := by grind
          grind
        · simp only; rw [wrap_i64 (by omega)]; omega
      · have e : i = a.length := by omega
        subst e
        rw [br_neg (by omega)]
        rw [List.take_length] at hv
        exact Or.inl ⟨(_, _), rfl, hl, hd, hv⟩)
    (s := ((0 : Int), List.replicate (a.length + n / 32 + 1) 0)) ⟨0, rfl, by omega, by simp, Dig.replicate (by decide) _, fun t _ => getD_replicate _ _, by rw [getD_replicate]; exact hP, by simp [val_replicate, val]⟩
  unfold W.whole_left
  rw [e1, wrap_i64 (x := ((n / 32 : Nat) : Int)) (by omega), wrap_i64 (x := (a.length : Int) + ((n / 32 : Nat) : Int)) (by omega), wrap_i64 (by omega), okIf_true (by simp; omega), bnd_val, show ((a.length : Int) + ((n / 32 : Nat) : Int) + 1).toNat = a.length + n / 32 + 1 by omega, h1, bnd_val]
  exact ⟨t, rfl, hd, ht, hv⟩
end Go.Ql
end

section
namespace Go.Ql
theorem getD_drop (l : List Int) (k i : Nat) : (l.drop k).getD i 0 = l.getD (k + i) 0 := by
  simp [List.getD, List.getElem?_drop]
theorem val_cut (B : Int) (l : List Int) (k : Nat) (h : k ≤ l.length) : val B l = val B (l.take k) + B ^ k * val B (l.drop k) := by
  have := val_append B (l.drop k) (l.take k)
  rw [List.take_append_drop, show (l.take k).length = k by rw [List.length_take]; omega] at this
  exact this
theorem right_loop (a : List Int) (n : Nat) (ha : Dig 4294967296 a) (la : a.length < 100000000) (hn : n < 10000000000) (hk : n / 32 < a.length) :
    ∃ r : Int × List Int, iter (fun s : Int × List Int ↦ W.whole_right.c100011 a (n : Int) ((a.length - n / 32 : Nat) : Int) (Prod.fst s) (Prod.snd s) Option.some) ((0 : Int), List.replicate (a.length - n / 32) 0) = some r ∧
      r.2.length = a.length - n / 32 ∧ Dig 4294967296 r.2 ∧ val 4294967296 (a.drop (n / 32)) = 2 ^ (n % 32) * val 4294967296 r.2 + a.getD (n / 32) 0 % 2 ^ (n % 32) := by
  obtain ⟨hP, hP2, hPQ, hQ⟩ := two_parts (n % 32) (by omega)
  have e1 : Int.tdiv (n : Int) 32 = ((n / 32 : Nat) : Int) := by rw [tdiv_pos (by omega)]; omega
  have e2 : Int.tmod (n : Int) 32 = ((n % 32 : Nat) : Int) := by rw [tmod_pos (by omega)]; omega
  exact iter_loop
    (f := fun s : Int × List Int ↦ W.whole_right.c100011 a (n : Int) ((a.length - n / 32 : Nat) : Int) (Prod.fst s) (Prod.snd s) Option.some)
    (J := fun s => ∃ i : Nat, s.1 = i ∧ i ≤ a.length - n / 32 ∧ s.2.length = a.length - n / 32 ∧ Dig 4294967296 s.2 ∧
      2 ^ (n % 32) * val 4294967296 (s.2.take i) = val 4294967296 ((a.drop (n / 32)).take i) - a.getD (n / 32) 0 % 2 ^ (n % 32) + 4294967296 ^ i * (a.getD (n / 32 + i) 0 % 2 ^ (n % 32)))
    (Q := fun r => r.2.length = a.length - n / 32 ∧ Dig 4294967296 r.2 ∧ val 4294967296 (a.drop (n / 32)) = 2 ^ (n % 32) * val 4294967296 r.2 + a.getD (n / 32) 0 % 2 ^ (n % 32))
    (fun s => a.length - n / 32 - s.1.toNat) (fun ⟨i', t⟩ ⟨i, hi, hil, hl, hd, hv⟩ => by
      simp only at hi hl hd hv ⊢
      subst hi
      simp only [W.whole_right.c100011]
      by_cases h0 : i < a.length - n / 32
      · rw [br_pos (by omega)]
        have hda := ha.getD (by decide) (n / 32 + i)
        have hdb := ha.getD (by decide) (n / 32 + i + 1)
        have htk := val_take_succ 4294967296 i (a.drop (n / 32))
        rw [getD_drop] at htk
        have hb5 : 0 ≤ a.getD (n / 32 + i + 1) 0 % 2 ^ (n % 32) := Int.emod_nonneg _ (by omega)
        have hb6 := Int.emod_lt_of_pos (a.getD (n / 32 + i + 1) 0) hP
        have c : W.whole_right.c249162 a (n : Int) (i : Int) t Option.some = some (t.set i (a.getD (n / 32 + i) 0 / 2 ^ (n % 32) + 2 ^ (32 - n % 32) * (a.getD (n / 32 + i + 1) 0 % 2 ^ (n % 32)))) := by
          unfold W.whole_right.c249162
          rw [e1, e2, wrap_i64 (x := ((n / 32 : Nat) : Int)) (by omega), wrap_i64 (x := (i : Int) + ((n / 32 : Nat) : Int)) (by omega), idx_of (n / 32 + i) (by omega) (by omega), okIf_true (by simp; omega), inR_of (by omega) (by omega), idx_of i rfl (by omega)]
          simp only [bnd_val, Int.toNat_natCast]
          rw [show min (n % 32) 32 = n % 32 by omega, Int.fdiv_eq_ediv_of_nonneg _ (by omega)]
          have e14 : W.whole_right.c14 a (n : Int) (i : Int) Option.some = some (decide (n / 32 + i + 1 < a.length ∧ 0 < n % 32)) := by
            unfold W.whole_right.c14
            rw [e1, e2, wrap_i64 (x := ((n / 32 : Nat) : Int)) (by omega), wrap_i64 (x := (i : Int) + ((n / 32 : Nat) : Int)) (by omega), wrap_i64 (by omega)]
            by_cases h : n / 32 + i + 1 < a.length
            · rw [br_pos (by omega)]
              congr 1
              rw [decide_eq_decide]; omega
            · rw [br_neg (by omega), decide_eq_false (by omega)]
          rw [e14, bnd_val]
          by_cases h : n / 32 + i + 1 < a.length ∧ 0 < n % 32
          · rw [br_pos h]
            unfold W.whole_right.c15
            rw [e1, e2, wrap_i64 (x := ((n / 32 : Nat) : Int)) (by omega), wrap_i64 (x := (i : Int) + ((n / 32 : Nat) : Int)) (by omega), wrap_i64 (x := (i : Int) + ((n / 32 : Nat) : Int) + 1) (by omega), wrap_i64 (x := 32 - ((n % 32 : Nat) : Int)) (by omega)]
            rw [inR_of (by omega) (by rw [List.length_set]; omega), idx_of i rfl (by rw [List.length_set]; omega), idx_of (n / 32 + i + 1) (by omega) (by omega), okIf_true (by simp; omega)]
            simp only [bnd_val]
            rw [getD_set (by omega), if_pos rfl, show min (32 - ((n % 32 : Nat) : Int)).toNat 32 = 32 - n % 32 by omega, wrap_u32_mod]
            have e3 : a.getD (n / 32 + i + 1) 0 * 2 ^ (32 - n % 32) % 4294967296 = 2 ^ (32 - n % 32) * (a.getD (n / 32 + i + 1) 0 % 2 ^ (n % 32)) := by
              rw [← hPQ, Int.mul_comm, Int.mul_comm (2 ^ (n % 32)), Int.mul_emod_mul_of_pos _ _ hQ]
            rw [e3]
            have b1 : 0 ≤ a.getD (n / 32 + i) 0 / 2 ^ (n % 32) := Int.ediv_nonneg hda.1 (by omega)
            have b2 : a.getD (n / 32 + i) 0 / 2 ^ (n % 32) < 2 ^ (32 - n % 32) := Int.ediv_lt_of_lt_mul hP (by rw [Int.mul_comm, hPQ]; exact hda.2)
            have b3 : 2 ^ (32 - n % 32) * (a.getD (n / 32 + i + 1) 0 % 2 ^ (n % 32) + 1) ≤ 2 ^ (32 - n % 32) * 2 ^ (n % 32) := Int.mul_le_mul_of_nonneg_left (by omega) (by omega)
            rw [Int.mul_comm (2 ^ (32 - n % 32)) (2 ^ (n % 32)), hPQ, Int.mul_add] at b3
            rw [or32 (32 - n % 32) (q := a.getD (n / 32 + i + 1) 0 % 2 ^ (n % 32)) ⟨b1, b2⟩ rfl hb5 (by omega), Int.toNat_natCast, List.set_set]
          · rw [br_neg h]
            have hz : a.getD (n / 32 + i + 1) 0 % 2 ^ (n % 32) = 0 := by
              by_cases h1 : n / 32 + i + 1 < a.length
              · have : n % 32 = 0 := by omega
                rw [this]; simp
              · rw [getD_out (by omega)]; simp
            rw [hz, Int.mul_zero, Int.add_zero]
        rw [c, bnd_val, wrap_i64 (by omega)]
        have hb7 : 0 ≤ a.getD (n / 32 + i) 0 % 2 ^ (n % 32) := Int.emod_nonneg _ (by omega)
        have hdiv := Int.mul_ediv_add_emod (a.getD (n / 32 + i) 0) (2 ^ (n % 32))
        generalize a.getD (n / 32 + i) 0 = x at *
        have b1 : 0 ≤ x / 2 ^ (n % 32) := Int.ediv_nonneg hda.1 (by omega)
        have b2 : x / 2 ^ (n % 32) < 2 ^ (32 - n % 32) := Int.ediv_lt_of_lt_mul hP (by rw [Int.mul_comm, hPQ]; exact hda.2)
        have b3 : 2 ^ (32 - n % 32) * (a.getD (n / 32 + i + 1) 0 % 2 ^ (n % 32) + 1) ≤ 2 ^ (32 - n % 32) * 2 ^ (n % 32) := Int.mul_le_mul_of_nonneg_left (by omega) (by omega)
        rw [Int.mul_comm (2 ^ (32 - n % 32)) (2 ^ (n % 32)), hPQ, Int.mul_add] at b3
        have b4 : 0 ≤ 2 ^ (32 - n % 32) * (a.getD (n / 32 + i + 1) 0 % 2 ^ (n % 32)) := Int.mul_nonneg (by omega) hb5
        refine Or.inr ⟨(_, _), rfl, ⟨i + 1, by simp, by omega, by simp only [List.length_set]; exact hl, hd.set (by omega) i, ?_⟩, by simp only; omega⟩
        simp only
        have hset := val_take_succ 4294967296 i (t.set i (x / 2 ^ (n % 32) + 2 ^ (32 - n % 32) * (a.getD (n / 32 + i + 1) 0 % 2 ^ (n % 32))))
        rw [List.take_set_of_le (Nat.le_refl _), getD_set (by omega), if_pos rfl] at hset
        rw [hset, htk, show n / 32 + (i + 1) = n / 32 + i + 1 by omega, Int.pow_succ]
        generalize a.getD (n / 32 + i + 1) 0 % 2 ^ (n % 32) = r1 at *
        generalize x % 2 ^ (n % 32) = r0 at *
        generalize x / 2 ^ (n % 32) = q at *
        generalize (2 : Int) ^ (n % 32) = P at *
        generalize (2 : Int) ^ (32 - n % 32) = Qq at *
        generalize (4294967296 : Int) ^ i = A at *
        have : P * (A * (q + Qq * r1)) = A * (P * q) + A * (P * Qq) * r1 := by grind
        rw [hPQ] at this
        grind
      · have e : i = a.length - n / 32 := by omega
        subst e
        rw [br_neg (by omega)]
        rw [getD_out (l := a) (i := n / 32 + (a.length - n / 32)) (by omega), List.take_of_length_le (by omega), List.take_of_length_le (by rw [List.length_drop]; omega)] at hv
        simp only [Int.zero_emod, Int.mul_zero, Int.add_zero] at hv
        exact Or.inl ⟨(_, _), rfl, hl, hd, by simp only; omega⟩)
    (s := ((0 : Int), List.replicate (a.length - n / 32) 0)) ⟨0, rfl, by omega, by simp, Dig.replicate (by decide) _, by simp only [List.take_zero, val, Nat.add_zero, Int.pow_zero]; omega⟩
theorem lost_loop (l : List Int) (hl : Dig 4294967296 l) (b : Bool) (hL : l.length < 100000000) :
    ∃ r : Bool × Int, iter (fun s : Bool × Int ↦ W.whole_right.c100005 (Prod.fst s) l (l.length : Int) (Prod.snd s) Option.some) (b, (0 : Int)) = some r ∧ r.1 = (b || decide (val 4294967296 l ≠ 0)) :=
  iter_loop
    (f := fun s : Bool × Int ↦ W.whole_right.c100005 (Prod.fst s) l (l.length : Int) (Prod.snd s) Option.some)
    (J := fun s => ∃ i : Nat, s.2 = i ∧ i ≤ l.length ∧ s.1 = (b || decide (val 4294967296 (l.take i) ≠ 0)))
    (Q := fun r => r.1 = (b || decide (val 4294967296 l ≠ 0)))
    (fun s => l.length - s.2.toNat) (fun ⟨c, i'⟩ ⟨i, hi, hil, hc⟩ => by
      simp only at hi hc ⊢
      subst hi
      simp only [W.whole_right.c100005]
      by_cases h0 : i < l.length
      · have e : W.whole_right.c7 c (l.getD i 0) Option.some = some (c || decide (l.getD i 0 ≠ 0)) := by
          unfold W.whole_right.c7
          cases c
          · rw [br_ff]
            congr 1
            generalize l.getD i 0 = x
            by_cases h : x = 0
            · subst h; rfl
            · rw [decide_eq_true h]; simp [h]
          · rfl
        rw [br_pos (by omega), idx_of i rfl h0, bnd_val, e, bnd_val, wrap_i64 (by omega)]
        have h1 := val_take_succ 4294967296 i l
        have h2 := val_nonneg (B := 4294967296) (by decide) (hl.take i)
        have h3 := hl.getD (by decide) i
        have h4 : (0 : Int) < 4294967296 ^ i := Int.pow_pos (by decide)
        have h5 : 0 ≤ 4294967296 ^ i * l.getD i 0 := Int.mul_nonneg (by omega) h3.1
        refine Or.inr ⟨(_, _), rfl, ⟨i + 1, by simp, by omega, ?_⟩, by simp only; omega⟩
        simp only
        rw [hc, Bool.or_assoc]
        congr 1
        by_cases h6 : l.getD i 0 = 0
        · rw [h6, Int.mul_zero, Int.add_zero] at h1
          rw [h1, h6]; simp
        · have h7 : 0 < 4294967296 ^ i * l.getD i 0 := Int.mul_pos h4 (by omega)
          rw [decide_eq_true h6, decide_eq_true (p := val 4294967296 (l.take (i + 1)) ≠ 0) (by omega)]; simp
      · have e : i = l.length := by omega
        subst e
        rw [List.take_length] at hc
        rw [br_neg (by omega)]
        exact Or.inl ⟨(_, _), rfl, hc⟩)
    (s := (b, (0 : Int))) ⟨0, rfl, by omega, by simp [val]⟩
theorem right_ok (a : List Int) (n : Nat) (ha : Dig 4294967296 a) (la : a.length < 100000000) (hn : n < 10000000000) :
    ∃ t lost, W.whole_right a (n : Int) = some (t, lost) ∧ Dig 4294967296 t ∧ t.length ≤ a.length ∧ val 4294967296 t = val 4294967296 a / 2 ^ n ∧ (Trim a → lost = decide (val 4294967296 a % 2 ^ n ≠ 0)) := by
  obtain ⟨hP, hP2, hPQ, hQ⟩ := two_parts (n % 32) (by omega)
  have e1 : Int.tdiv (n : Int) 32 = ((n / 32 : Nat) : Int) := by rw [tdiv_pos (by omega)]; omega
  have e2 : Int.tmod (n : Int) 32 = ((n % 32 : Nat) : Int) := by rw [tmod_pos (by omega)]; omega
  have hpow := pow_split n
  have hv0 := val_nonneg (B := 4294967296) (by decide) ha
  have hBk : (0 : Int) < 4294967296 ^ (n / 32) := Int.pow_pos (by decide)
  unfold W.whole_right
  rw [e1, wrap_i64 (x := ((n / 32 : Nat) : Int)) (by omega)]
  by_cases hk : n / 32 < a.length
  · rw [br_neg (by omega)]
    have hx := ha.getD (by decide) (n / 32)
    have c3 : W.whole_right.c3 a (n : Int) Option.some = some (decide (a.getD (n / 32) 0 % 2 ^ (n % 32) ≠ 0)) := by
      unfold W.whole_right.c3
      rw [e1, e2, wrap_i64 (x := ((n / 32 : Nat) : Int)) (by omega), wrap_i64 (x := 32 - ((n % 32 : Nat) : Int)) (by omega), idx_of (n / 32) rfl hk, okIf_true (by simp; omega)]
      simp only [bnd_val]
      rw [show min (32 - ((n % 32 : Nat) : Int)).toNat 32 = 32 - n % 32 by omega, wrap_u32_mod]
      have e3 : a.getD (n / 32) 0 * 2 ^ (32 - n % 32) % 4294967296 = 2 ^ (32 - n % 32) * (a.getD (n / 32) 0 % 2 ^ (n % 32)) := by
        rw [← hPQ, Int.mul_comm, Int.mul_comm (2 ^ (n % 32)), Int.mul_emod_mul_of_pos _ _ hQ]
      rw [e3]
      by_cases h : a.getD (n / 32) 0 % 2 ^ (n % 32) = 0
      · rw [h, Int.mul_zero]; rfl
      · have h1 : 0 ≤ a.getD (n / 32) 0 % 2 ^ (n % 32) := Int.emod_nonneg _ (by omega)
        have h2 : 0 < 2 ^ (32 - n % 32) * (a.getD (n / 32) 0 % 2 ^ (n % 32)) := Int.mul_pos hQ (by omega)
        have h3 : n % 32 ≠ 0 := fun e => h (by rw [e]; simp)
        rw [br_true (by simp only [bne_iff_ne]; omega), decide_eq_true h, decide_eq_true (by omega)]
    obtain ⟨⟨b, i0⟩, h1, h2⟩ := lost_loop (a.take (n / 32)) (ha.take _) (decide (a.getD (n / 32) 0 % 2 ^ (n % 32) ≠ 0)) (by rw [List.length_take]; omega)
    obtain ⟨⟨i1, t⟩, h3, h4, h5, h6⟩ := right_loop a n ha la hn hk
    simp only at h2 h4 h5 h6
    have hlr : (List.replicate (a.length - n / 32) (0 : Int)).length = a.length - n / 32 := List.length_replicate
    rw [c3, bnd_val, okIf_true (by simp; omega), bnd_val, Int.toNat_natCast, h1, bnd_val]
    rw [wrap_i64 (by omega), okIf_true (by simp; omega), bnd_val, show ((a.length : Int) - ((n / 32 : Nat) : Int)).toNat = a.length - n / 32 by omega, hlr, h3, bnd_val]
    have hcut := val_cut 4294967296 a (n / 32) (by omega)
    have hlow := val_lt (B := 4294967296) (by decide) (ha.take (n / 32))
    have hlow0 := val_nonneg (B := 4294967296) (by decide) (ha.take (n / 32))
    rw [show (a.take (n / 32)).length = n / 32 by rw [List.length_take]; omega] at hlow
    rw [h6] at hcut
    have hr0 : 0 ≤ a.getD (n / 32) 0 % 2 ^ (n % 32) := Int.emod_nonneg _ (by omega)
    have hr1 := Int.emod_lt_of_pos (a.getD (n / 32) 0) hP
    generalize a.getD (n / 32) 0 % 2 ^ (n % 32) = r at *
    have hb1 : 4294967296 ^ (n / 32) * (r + 1) ≤ 4294967296 ^ (n / 32) * 2 ^ (n % 32) := Int.mul_le_mul_of_nonneg_left (by omega) (by omega)
    rw [Int.mul_add, Int.mul_one] at hb1
    have hb2 : 0 ≤ 4294967296 ^ (n / 32) * r := Int.mul_nonneg (by omega) hr0
    have hsum : val 4294967296 a = (val 4294967296 (a.take (n / 32)) + 4294967296 ^ (n / 32) * r) + 2 ^ n * val 4294967296 t := by
      rw [hcut, hpow]; grind
    refine ⟨t, b, rfl, h5, by omega, ?_, fun _ => ?_⟩
    · rw [hsum, Int.add_mul_ediv_left _ _ (by rw [hpow]; exact Int.ne_of_gt (Int.mul_pos hBk hP)), Int.ediv_eq_zero_of_lt (by omega) (by rw [hpow]; omega)]
      omega
    · rw [h2, hsum, Int.add_mul_emod_self_left, Int.emod_eq_of_lt (by omega) (by rw [hpow]; omega)]
      by_cases hr : r = 0
      · rw [hr]; simp
      · have : 0 < 4294967296 ^ (n / 32) * r := Int.mul_pos hBk (by omega)
        rw [decide_eq_true hr, decide_eq_true (p := _ + _ ≠ (0 : Int)) (by omega)]; rfl
  · rw [br_pos (by omega)]
    have hlt := val_lt (B := 4294967296) (by decide) ha
    have hle := pow_le (B := 4294967296) (by decide) (show a.length ≤ n / 32 by omega)
    have h2 : 4294967296 ^ (n / 32) * 1 ≤ 4294967296 ^ (n / 32) * (2 : Int) ^ (n % 32) := Int.mul_le_mul_of_nonneg_left (by omega) (by omega)
    refine ⟨[], _, rfl, Dig.nil, by simp, ?_, fun ht => ?_⟩
    · rw [Int.ediv_eq_zero_of_lt hv0 (by rw [hpow]; omega)]; rfl
    · rw [Int.emod_eq_of_lt hv0 (by rw [hpow]; omega), decide_eq_decide]
      by_cases h0 : a = []
      · subst h0; simp [val]
      · have h0' : a.length ≠ 0 := fun e => h0 (List.eq_nil_of_length_eq_zero e)
        have := val_ge (by decide) ha ht h0
        have : (0 : Int) < 4294967296 ^ (a.length - 1) := Int.pow_pos (by decide)
        constructor <;> omega
end Go.Ql
end

section
namespace Go.Ql
theorem Rep.nil {B : Int} : Rep B (false, []) 0 := ⟨Dig.nil, by simp, by simp, by simp [Ql.val]⟩
theorem Rep.absval {B : Int} (hB : 0 ≤ B) {x : Bool × List Int} {v : Int} (h : Rep B x v) : Ql.val B x.2 = (v.natAbs : Int) := by
  have h1 := val_nonneg hB h.dig
  have h2 := h.val
  cases h0 : x.1 <;> simp only [h0, Bool.false_eq_true, if_false, if_true] at h2 <;> omega
theorem Rep.zero_iff {B : Int} (hB : 1 < B) {x : Bool × List Int} {v : Int} (h : Rep B x v) : x.2 = [] ↔ v = 0 := by
  constructor
  · intro h0
    have := h.absval (by omega)
    rw [h0] at this
    simp only [Ql.val] at this
    omega
  · intro h0
    rcases Classical.em (x.2 = []) with h1 | h1
    · exact h1
    · have := h.pos hB h1
      have := h.absval (by omega)
      omega
theorem Rep.short {B : Int} (hB : 1 < B) {x y : Bool × List Int} {u v : Int} (hx : Rep B x u) (hy : Rep B y v) (h : u.natAbs ≤ v.natAbs) : x.2.length ≤ y.2.length := by
  apply len_le hB hy.dig hx.dig hx.last
  rw [hx.absval (by omega), hy.absval (by omega)]
  omega
theorem Rep.eq_of {B : Int} {x : Bool × List Int} {u v : Int} (h : Rep B x u) (e : u = v) : Rep B x v := e ▸ h
theorem ediv_unique {a b q r : Int} (hb : 0 < b) (h : a = b * q + r) (h0 : 0 ≤ r) (h1 : r < b) : a / b = q ∧ a % b = r := by
  subst h
  constructor
  · rw [Int.add_comm, Int.add_mul_ediv_left _ _ (by omega), Int.ediv_eq_zero_of_lt h0 h1]; omega
  · rw [Int.add_comm, Int.add_mul_emod_self_left, Int.emod_eq_of_lt h0 h1]
theorem div_signs {A V : Int} (hA : 0 ≤ A) (hV : 0 < V) (sa sb : Bool) :
    (if sa then -A else A) / (if sb then -V else V) = (if sa != sb then -(if sa && decide (A % V ≠ 0) then A / V + 1 else A / V) else (if sa && decide (A % V ≠ 0) then A / V + 1 else A / V)) ∧
    (if sa then -A else A) % (if sb then -V else V) = (if sa && decide (A % V ≠ 0) then V - A % V else A % V) := by
  have hdm := Int.mul_ediv_add_emod A V
  have h0 := Int.emod_nonneg A (show V ≠ 0 by omega)
  have h1 := Int.emod_lt_of_pos A hV
  by_cases hr : A % V = 0
  · obtain ⟨e1, e2⟩ := ediv_unique (a := -A) (b := V) (q := -(A / V)) (r := 0) hV (by rw [Int.mul_neg]; omega) (by omega) hV
    cases sa <;> cases sb <;> simp [hr, Int.ediv_neg, Int.emod_neg, e1, e2]
  · obtain ⟨e1, e2⟩ := ediv_unique (a := -A) (b := V) (q := -(A / V + 1)) (r := V - A % V) hV (by rw [Int.mul_neg, Int.mul_add]; omega) (by omega) (by omega)
    cases sa <;> cases sb <;> simp [hr, Int.ediv_neg, Int.emod_neg, e1, e2]
end Go.Ql
end

section
namespace Go.Ql
theorem Rep.pos_of {B : Int} (hB : 1 < B) {x : Bool × List Int} {v : Int} (h : Rep B x v) : (x.2.length : Int) > 0 ↔ v ≠ 0 := by
  constructor
  · intro h1 h2
    rw [(h.zero_iff hB).2 h2] at h1
    simp at h1
  · intro h1
    have : x.2.length ≠ 0 := fun e => h1 ((h.zero_iff hB).1 (List.eq_nil_of_length_eq_zero e))
    omega
theorem shift_ok {a : Bool × List Int} {u : Int} (ha : Rep 4294967296 a u) (la : a.2.length < 100000) (n : Int) :
    (n < -10000 ∨ n > 10000 → W.whole_Int_Shift a n = some ((false, []), 5, 0)) ∧
    (0 ≤ n ∧ n ≤ 10000 → ∃ r, W.whole_Int_Shift a n = some (r, 0, 0) ∧ Rep 4294967296 r (u * 2 ^ n.toNat) ∧ r.2.length ≤ a.2.length + 400) ∧
    (-10000 ≤ n ∧ n < 0 → ∃ r, W.whole_Int_Shift a n = some (r, 0, 0) ∧ Rep 4294967296 r (u / 2 ^ (-n).toNat) ∧ r.2.length ≤ a.2.length + 400) := by
  have hA0 := val_nonneg (B := 4294967296) (by decide) ha.dig
  have c1 : W.whole_Int_Shift.c1 n Option.some = some (decide (n < -10000 ∨ n > 10000)) := by
    unfold W.whole_Int_Shift.c1
    by_cases h : n < -10000
    · rw [br_pos h, decide_eq_true (Or.inl h)]
    · rw [br_neg h]; congr 1; rw [decide_eq_decide]; omega
  unfold W.whole_Int_Shift
  rw [c1, bnd_val]
  refine ⟨fun h => by rw [br_pos h], fun h => ?_, fun h => ?_⟩
  · rw [br_neg (by omega), br_pos (by omega)]
    obtain ⟨k, rfl⟩ : ∃ k : Nat, n = k := ⟨n.toNat, by omega⟩
    obtain ⟨t, t1, t2, t3, t4⟩ := left_ok a.2 k ha.dig (by omega) (by omega)
    obtain ⟨r, r1, r2, r3⟩ := made_ok (B := 4294967296) a.1 t t2 (by omega)
    have c4 : W.whole_Int_Shift.c4 (k : Int) a.1 a.2 Option.some = some (r.1, r.2) := by
      show (bnd (W.whole_left a.2 (k : Int)) fun y => bnd (W.whole_made a.1 y.1) fun y_1 => some (y_1.1, y_1.2)) = _
      rw [t1, bnd_val]
      simp only
      rw [r1, bnd_val]
    rw [c4, bnd_val]
    refine ⟨r, rfl, r2.eq_of ?_, by omega⟩
    rw [t4, ha.val, Int.toNat_natCast]
    split <;> simp [Int.neg_mul]
  · rw [br_neg (by omega), br_neg (by omega)]
    obtain ⟨k, rfl⟩ : ∃ k : Nat, n = -(k : Int) := ⟨(-n).toNat, by omega⟩
    obtain ⟨t, lost, t1, t2, t3, t4, t5⟩ := right_ok a.2 k ha.dig (by omega) (by omega)
    obtain ⟨r, r1, r2, r3⟩ := made_ok (B := 4294967296) a.1 t t2 (by omega)
    rw [wrap_i64 (by omega), show (0 : Int) - -(k : Int) = k by omega, t1, bnd_val]
    simp only
    rw [r1, bnd_val, t5 ha.last]
    have hP : (0 : Int) < 2 ^ k := Int.pow_pos (by decide)
    have hs := (div_signs hA0 hP a.1 false).1
    have hu : u / 2 ^ (- -(k : Int)).toNat = (if a.1 then -val 4294967296 a.2 else val 4294967296 a.2) / (if false then -2 ^ k else 2 ^ k) := by
      rw [← ha.val, show (- -(k : Int)).toNat = k by omega]; simp
    rw [hs] at hu
    rw [t4] at r2
    have c22 : ∃ x : Bool × List Int, W.whole_Int_Shift.c228677 (decide (val 4294967296 a.2 % 2 ^ k ≠ 0)) a.1 r.1 r.2 Option.some = some (x.1, x.2) ∧ Rep 4294967296 x (u / 2 ^ (- -(k : Int)).toNat) ∧ x.2.length ≤ a.2.length + 400 := by
      unfold W.whole_Int_Shift.c228677
      have c7 : W.whole_Int_Shift.c7 (decide (val 4294967296 a.2 % 2 ^ k ≠ 0)) a.1 Option.some = some (a.1 && decide (val 4294967296 a.2 % 2 ^ k ≠ 0)) := by
        unfold W.whole_Int_Shift.c7
        cases decide (val 4294967296 a.2 % 2 ^ k ≠ 0) <;> cases a.1 <;> rfl
      rw [c7, bnd_val, hu]
      cases ha1 : a.1
      · refine ⟨r, rfl, r2.eq_of ?_, by omega⟩
        simp [ha1]
      · cases hl : decide (val 4294967296 a.2 % 2 ^ k ≠ 0)
        · refine ⟨r, rfl, r2.eq_of ?_, by omega⟩
          simp [ha1]
        · obtain ⟨o, o1, o2, o3⟩ := of_ok (n := 1) (by decide)
          obtain ⟨x, x1, x2, x3⟩ := sub_ok r2 o2 (by omega) (by omega)
          have c8 : W.whole_Int_Shift.c8 r.1 r.2 Option.some = some (x.1, x.2) := by
            unfold W.whole_Int_Shift.c8
            simp only [pair_eta]
            rw [o1, bnd_val, x1, bnd_val]
          refine ⟨x, ?_, x2.eq_of ?_, by omega⟩
          · simp only [Bool.and_self, br_tt]
            rw [c8, bnd_val]
          · simp [ha1]; omega
    obtain ⟨x, x1, x2, x3⟩ := c22
    rw [x1, bnd_val]
    exact ⟨x, rfl, x2, x3⟩
end Go.Ql
end

section
namespace Go.Ql
theorem zof_ok {n : Int} (h : -9223372036854775808 ≤ n ∧ n ≤ 9223372036854775807) :
    ∃ r, W.R_ZOf n = some r ∧ Rep 10000 r n ∧ r.2.length ≤ 5 := by
  unfold W.R_ZOf
  have e : W.R_ZOf.c208197 n (IntKind.u64.wrap n) Option.some = some (n.natAbs : Int) := by
    unfold W.R_ZOf.c208197
    by_cases h0 : n < 0
    · rw [br_pos h0, u64_mod, u64_mod]; congr 1; omega
    · rw [br_neg h0, u64_mod]; congr 1; omega
  rw [e, bnd_val]
  have hB : (0 : Int) < 10000 := by decide
  obtain ⟨⟨u, d⟩, l1, l2, l3, l4⟩ := iter_loop
    (f := fun s : Int × List Int ↦ W.R_ZOf.c100005 (Prod.fst s) (Prod.snd s) Option.some)
    (J := fun s => 0 ≤ s.1 ∧ s.1 < 10000 ^ (5 - s.2.length) ∧ s.2.length ≤ 5 ∧ Dig 10000 s.2 ∧ val 10000 s.2 + 10000 ^ s.2.length * s.1 = (n.natAbs : Int))
    (Q := fun s => s.2.length ≤ 5 ∧ Dig 10000 s.2 ∧ val 10000 s.2 = (n.natAbs : Int))
    (fun s => s.1.toNat) (fun ⟨u, d⟩ ⟨h1, h2, h3, h4, h5⟩ => by
      simp only at h1 h2 h3 h4 h5 ⊢
      unfold W.R_ZOf.c100005
      by_cases h0 : u > 0
      · have hl : d.length ≠ 5 := fun e => by rw [e] at h2; simp at h2; omega
        rw [br_pos h0, tmod_pos h1, tdiv_pos h1, wrap_i64 (by omega), wrap_u64 (by
          have : (10000 : Int) ^ (5 - d.length) ≤ 10000 ^ 5 := pow_le (by decide) (by omega)
          rw [show (10000 : Int) ^ 5 = 100000000000000000000 from rfl] at this
          have h7 : u ≤ (n.natAbs : Int) := by
            have : 1 * u ≤ 10000 ^ d.length * u := Int.mul_le_mul_of_nonneg_right (by have := pow_pos hB d.length; omega) h1
            have := val_nonneg (B := 10000) (by decide) h4
            omega
          omega), okIf_true (by simp; omega), bnd_val]
        refine Or.inr ⟨(_, _), rfl, ⟨by simp only; omega, ?_, by simp; omega, h4.append (Dig.cons (by omega) Dig.nil), ?_⟩, by simp only; omega⟩
        · simp only [List.length_append, List.length_cons, List.length_nil]
          have e5 : 5 - d.length = (5 - (d.length + (0 + 1))) + 1 := by omega
          rw [e5, Int.pow_succ] at h2
          omega
        · simp only [List.length_append, List.length_cons, List.length_nil]
          rw [val_snoc, Int.pow_succ, ← h5]
          have : u = 10000 * (u / 10000) + u % 10000 := by omega
          generalize u / 10000 = q at *
          generalize u % 10000 = r at *
          subst this
          grind
      · rw [br_neg h0]
        have : u = 0 := by omega
        subst this
        exact Or.inl ⟨(_, _), rfl, h3, h4, by simpa using h5⟩)
    (s := ((n.natAbs : Int), [])) ⟨by simp, by simp only [List.length_nil]; rw [show (10000 : Int) ^ (5 - 0) = 100000000000000000000 from rfl]; omega, by simp, Dig.nil, by simp [val]⟩
  simp only at l2 l3 l4
  obtain ⟨r, r1, r2, r3⟩ := zmade_ok (B := 10000) (decide (n < 0)) d l3 (by omega)
  rw [l1, bnd_val, r1]
  refine ⟨r, rfl, r2.eq_of ?_, by omega⟩
  rw [l4]
  by_cases h0 : n < 0
  · rw [if_pos (decide_eq_true h0)]; omega
  · rw [if_neg (by simpa using h0)]; omega
theorem Rep.few {B : Int} (hB : 1 < B) {x : Bool × List Int} {e : Nat} (h : Rep B x (2 ^ e)) : x.2.length ≤ e + 1 := by
  have h2 : (0 : Int) < 2 ^ e := Int.pow_pos (by decide)
  have hn : x.2 ≠ [] := fun h0 => by have := (h.zero_iff hB).1 h0; omega
  have h1 := val_ge hB h.dig h.last hn
  rw [h.absval (by omega)] at h1
  rcases Nat.lt_or_ge e (x.2.length - 1) with hc | hc
  · have h3 : (2 : Int) ^ (x.2.length - 1) ≤ B ^ (x.2.length - 1) := by
      have : ∀ k : Nat, (2 : Int) ^ k ≤ B ^ k := by
        intro k
        induction k with
        | zero => simp
        | succ k ih =>
          rw [Int.pow_succ, Int.pow_succ]
          exact Int.mul_le_mul ih (by omega) (by decide) (Int.le_of_lt (pow_pos (by omega) k))
      exact this _
    have h4 : (2 : Int) ^ (e + 1) ≤ 2 ^ (x.2.length - 1) := pow_le (by decide) (by omega)
    rw [Int.pow_succ] at h4
    omega
  · omega
theorem zpow2_ok (n : Nat) (hn : n ≤ 10000) : ∃ r, W.R_ZPow2 (n : Int) = some r ∧ Rep 10000 r (2 ^ n) ∧ r.2.length ≤ n + 1 := by
  have hB : (1 : Int) < 10000 := by decide
  obtain ⟨o, o1, o2, o3⟩ := zof_ok (n := 1) (by decide)
  obtain ⟨t, t1, t2, t3⟩ := zof_ok (n := 2) (by decide)
  obtain ⟨⟨m, x0, x1, y0, y1⟩, l1, l2⟩ := iter_loop
    (f := fun s : Int × Bool × List Int × Bool × List Int ↦ W.R_ZPow2.c100003 (Prod.fst s) (Prod.fst (Prod.snd s)) (Prod.fst (Prod.snd (Prod.snd s))) (Prod.fst (Prod.snd (Prod.snd (Prod.snd s)))) (Prod.snd (Prod.snd (Prod.snd (Prod.snd s)))) Option.some)
    (J := fun s => ∃ m e f : Nat, s.1 = m ∧ m ≤ n ∧ Rep 10000 (s.2.1, s.2.2.1) (2 ^ f) ∧ Rep 10000 (s.2.2.2.1, s.2.2.2.2) (2 ^ e) ∧ f + e * m = n)
    (Q := fun s => Rep 10000 (s.2.1, s.2.2.1) (2 ^ n))
    (fun s => s.1.toNat) (fun ⟨m', x0, x1, y0, y1⟩ ⟨m, e, f, h1, hm, h2, h3, h4⟩ => by
      simp only at h1 h2 h3 h4 ⊢
      subst h1
      unfold W.R_ZPow2.c100003
      by_cases h0 : (m : Int) > 0
      · have he : e * 1 ≤ e * m := Nat.mul_le_mul_left e (by omega)
        have hx := h2.few hB
        have hy := h3.few hB
        simp only at hx hy
        rw [br_pos h0]
        obtain ⟨p, p1, p2, p3⟩ := zmul_ok h3 h3 (by simp only; omega) (by simp only; omega)
        rw [← Int.pow_add] at p2
        have c : ∃ z : Bool × List Int, W.R_ZPow2.c216389 (m : Int) x0 x1 y0 y1 Option.some = some (z.1, z.2) ∧ Rep 10000 z (2 ^ (f + e * (m % 2))) := by
          unfold W.R_ZPow2.c216389
          rw [tmod_pos (by omega)]
          by_cases hm : m % 2 = 1
          · obtain ⟨z, z1, z2, z3⟩ := zmul_ok h2 h3 (by simp only; omega) (by simp only; omega)
            rw [show ((m : Int) % 2 == 1) = true by simp; omega, br_tt, z1, bnd_val]
            rw [← Int.pow_add] at z2
            exact ⟨z, rfl, by rw [hm, Nat.mul_one]; exact z2⟩
          · rw [show ((m : Int) % 2 == 1) = false by simp; omega, br_ff]
            exact ⟨(x0, x1), rfl, by rw [show m % 2 = 0 by omega]; exact h2⟩
        obtain ⟨z, z1, z2⟩ := c
        rw [z1, bnd_val, p1, bnd_val, tdiv_pos (by omega), wrap_i64 (by omega)]
        refine Or.inr ⟨_, rfl, ⟨m / 2, e + e, f + e * (m % 2), by simp only; omega, by omega, z2, p2, ?_⟩, by simp only; omega⟩
        have : e * m = e * (2 * (m / 2) + m % 2) := by rw [Nat.div_add_mod]
        rw [Nat.mul_add] at this
        rw [← h4, this, Nat.add_mul, ← Nat.two_mul, ← Nat.mul_assoc e 2, Nat.mul_comm e 2, Nat.mul_assoc]
        omega
      · rw [br_neg h0]
        have : m = 0 := by omega
        subst this
        refine Or.inl ⟨_, rfl, ?_⟩
        simp only
        rw [← h4]
        simpa using h2)
    (s := ((n : Int), o.1, o.2, t.1, t.2)) ⟨n, 1, 0, rfl, Nat.le_refl _, o2.eq_of (by simp), t2.eq_of (by simp), by omega⟩
  simp only at l2
  unfold W.R_ZPow2
  rw [o1, bnd_val, t1, bnd_val, l1, bnd_val]
  exact ⟨(x0, x1), rfl, l2, l2.few hB⟩
end Go.Ql
end

section
namespace Go.Ql
end Go.Ql
end

section
namespace Go.Ql
theorem or_comm (x y : Int) : ibits Go.BinOp.or Go.IntKind.u64 x y = ibits Go.BinOp.or Go.IntKind.u64 y x := by
  simp only [ibits, BitVec.or_comm]
def small (v : Int) : Int × Bool := if -9223372036854775808 ≤ v ∧ v ≤ 9223372036854775807 then (v, true) else (0, false)
end Go.Ql
end

section
namespace Go.Ql
theorem twos_unique : ∀ {n k : Nat} {m l : Nat}, 2 ^ n * (2 * m + 1) = 2 ^ k * (2 * l + 1) → n = k
  | 0, 0, _, _, _ => rfl
  | 0, k + 1, m, l, h => by
    rw [Nat.pow_zero, Nat.one_mul, Nat.pow_succ, Nat.mul_comm (2 ^ k) 2, Nat.mul_assoc] at h
    omega
  | n + 1, 0, m, l, h => by
    rw [Nat.pow_zero, Nat.one_mul, Nat.pow_succ, Nat.mul_comm (2 ^ n) 2, Nat.mul_assoc] at h
    omega
  | n + 1, k + 1, m, l, h => by
    rw [Nat.pow_succ, Nat.pow_succ, Nat.mul_comm (2 ^ n) 2, Nat.mul_comm (2 ^ k) 2, Nat.mul_assoc, Nat.mul_assoc] at h
    rw [twos_unique (n := n) (k := k) (m := m) (l := l) (by omega)]
def Twos (v : Nat) (n : Nat) : Prop := (v = 0 → n = 0) ∧ (v ≠ 0 → ∃ m, v = 2 ^ n * (2 * m + 1))
theorem Twos.one {v n k : Nat} (h : Twos v n) (g : Twos v k) : n = k := by
  by_cases hv : v = 0
  · rw [h.1 hv, g.1 hv]
  · obtain ⟨m, h1⟩ := h.2 hv
    obtain ⟨l, h2⟩ := g.2 hv
    exact twos_unique (h1.symm.trans h2)
theorem tz_of {y : Int} (h : 0 ≤ y ∧ y < 4294967296) : W.bits_TrailingZeros32 y = some (Go.Lib.ctz 32 y.toNat : Int) := by
  unfold W.bits_TrailingZeros32
  rw [decide_eq_true h.1, decide_eq_true h.2]
  rfl
theorem itwos_ok {a : Bool × List Int} {v : Int} (ha : Rep 4294967296 a v) (la : a.2.length < 1000000) : ∃ n : Nat, W.whole_Int_Twos a = some (n : Int) ∧ Twos v.natAbs n := by
  have hB : (1 : Int) < 4294967296 := by decide
  have h6 := ha.absval (by decide)
  obtain ⟨r, l1, l2⟩ := iter_loop
    (f := fun s : Int ↦ W.whole_Int_Twos.c100002 a.2 (a.2.length : Int) s some)
    (J := fun s => ∃ k : Nat, s = (k : Int) ∧ k ≤ a.2.length ∧ val 4294967296 (a.2.take k) = 0)
    (Q := fun r => match r with
      | .inl p => ∃ n : Nat, p.1 = (n : Int) ∧ Twos v.natAbs n
      | .inr _ => v = 0)
    (fun s => (a.2.length - s).toNat) (fun s ⟨k, h1, h2, h3⟩ => by
      subst h1
      unfold W.whole_Int_Twos.c100002
      by_cases hk : k < a.2.length
      · have hdg := ha.dig.getD (by decide) k
        rw [br_pos (by omega), idx_of k rfl hk, bnd_val]
        by_cases hz : a.2.getD k 0 = 0
        · rw [hz, show ((0 : Int) != 0) = false from rfl, br_ff, wrap_i64 (by omega)]
          refine Or.inr ⟨_, rfl, ⟨k + 1, by omega, by omega, ?_⟩, by omega⟩
          rw [val_take_succ, h3, hz]; simp
        · rw [br_true (by simpa using hz), tz_of hdg, bnd_val]
          obtain ⟨d, hd⟩ : ∃ d : Nat, a.2.getD k 0 = d := ⟨(a.2.getD k 0).toNat, by omega⟩
          rw [hd, Int.toNat_natCast]
          have hd0 : d ≠ 0 := by omega
          have hd1 : d < 2 ^ 32 := by omega
          obtain ⟨m, hm, hc⟩ := Go.Lib.ctzFrom_spec 32 d (by omega) hd1
          have hctz : Go.Lib.ctz 32 d = Go.Lib.ctzFrom 32 d := by unfold Go.Lib.ctz; rw [if_neg hd0]
          rw [hctz]
          generalize Go.Lib.ctzFrom 32 d = c at hm hc
          rw [wrap_i64 (x := 32 * (k : Int)) (by omega), wrap_i64 (by omega)]
          refine Or.inl ⟨_, rfl, 32 * k + c, by simp only; omega, ?_⟩
          have hrest := val_nonneg (B := 4294967296) (by decide) (ha.dig.drop (k + 1))
          obtain ⟨e, he⟩ : ∃ e : Nat, val 4294967296 (a.2.drop (k + 1)) = e := ⟨(val 4294967296 (a.2.drop (k + 1))).toNat, by omega⟩
          have hcut := val_cut 4294967296 a.2 k (by omega)
          rw [h3, val_drop _ _ _ hk, hd, he, h6] at hcut
          have hN : v.natAbs = 4294967296 ^ k * (d + 4294967296 * e) := by
            apply Int.ofNat_inj.1
            rw [hcut, Int.zero_add, Int.natCast_mul, Int.natCast_pow, Int.natCast_add, Int.natCast_mul]
            rfl
          have hp : 4294967296 ^ k = 2 ^ (32 * k) := by
            rw [show 4294967296 = 2 ^ 32 from rfl, ← Nat.pow_mul]
          have hs : 4294967296 = 2 ^ c * (2 * 2 ^ (31 - c)) := by
            rw [← Nat.mul_assoc, Nat.mul_comm (2 ^ c) 2, Nat.mul_assoc, ← Nat.pow_add, show c + (31 - c) = 31 by omega]
          have hval : v.natAbs = 2 ^ (32 * k + c) * (2 * (m + 2 ^ (31 - c) * e) + 1) := by
            rw [hN, hp, Nat.pow_add, Nat.mul_assoc]
            congr 1
            rw [hm]
            have hs' : 4294967296 * e = 2 ^ c * (2 * (2 ^ (31 - c) * e)) := by rw [show 4294967296 * e = (2 ^ c * (2 * 2 ^ (31 - c))) * e from congrArg (· * e) hs]; simp only [Nat.mul_assoc]
            rw [hs', ← Nat.mul_add]
            congr 1
            omega
          refine ⟨fun h0 => ?_, fun _ => ⟨_, hval⟩⟩
          exfalso
          rw [h0] at hval
          have : 0 < 2 ^ (32 * k + c) * (2 * (m + 2 ^ (31 - c) * e) + 1) := Nat.mul_pos (Nat.pow_pos (by decide)) (by omega)
          omega
      · rw [br_neg (by omega)]
        refine Or.inl ⟨_, rfl, ?_⟩
        simp only
        rw [List.take_of_length_le (by omega)] at h3
        omega)
    (s := (0 : Int)) ⟨0, rfl, Nat.zero_le _, rfl⟩
  unfold W.whole_Int_Twos
  rw [l1, bnd_val]
  cases r with
  | inl p =>
    obtain ⟨n, h1, h2⟩ := l2
    exact ⟨n, by show some p.1 = _; rw [h1], h2⟩
  | inr q =>
    have l2 : v = 0 := l2
    subst l2
    exact ⟨0, rfl, fun _ => rfl, fun h => absurd rfl h⟩
end Go.Ql
end

section
namespace Go.Ql
theorem zhalf_sign {a : Bool × List Int} {u : Int} (ha : Rep 10000 a u) (la : a.2.length < 1000000) :
    ∃ r o, W.R_zhalf a = some (r, o) ∧ ∃ w, Rep 10000 r w ∧ (w.natAbs = u.natAbs / 2 ∧ (0 ≤ u → 0 ≤ w) ∧ (u ≤ 0 → w ≤ 0)) ∧ r.2.length ≤ a.2.length := by
  have h6 := ha.absval (by decide)
  obtain ⟨⟨c, i, t⟩, l1, l2, l3, l4, l5⟩ := iter_loop
    (f := fun s : Int × Int × List Int ↦ W.R_zhalf.c100004 (Prod.fst s) (Prod.fst (Prod.snd s)) a.2 (Prod.snd (Prod.snd s)) some)
    (J := fun s => ∃ k : Nat, s.2.1 = (k : Int) - 1 ∧ k ≤ a.2.length ∧ 0 ≤ s.1 ∧ s.1 < 2 ∧ Dig 10000 s.2.2 ∧ s.2.2.length = a.2.length ∧ (∀ x, x < k → s.2.2.getD x 0 = 0) ∧
      val 10000 a.2 = val 10000 (a.2.take k) + 2 * val 10000 s.2.2 + 10000 ^ k * s.1)
    (Q := fun s => 0 ≤ s.1 ∧ s.1 < 2 ∧ Dig 10000 s.2.2 ∧ s.2.2.length = a.2.length ∧ val 10000 a.2 = 2 * val 10000 s.2.2 + s.1)
    (fun s => (s.2.1 + 1).toNat) (fun ⟨c, i, t⟩ ⟨k, k1, k2, k3, k4, k5, k6, k7, k8⟩ => by
      simp only at k1 k3 k4 k5 k6 k7 k8 ⊢
      subst k1
      unfold W.R_zhalf.c100004
      by_cases h0 : k = 0
      · subst h0
        rw [br_neg (by omega)]
        refine Or.inl ⟨_, rfl, k3, k4, k5, k6, ?_⟩
        simp only [List.take_zero, val, Int.pow_zero, Int.one_mul, Int.zero_add] at k8 ⊢
        exact k8
      · obtain ⟨j, rfl⟩ : ∃ j, k = j + 1 := ⟨k - 1, by omega⟩
        have hdg := ha.dig.getD (by decide) j
        have ej : ((j + 1 : Nat) : Int) - 1 = j := by omega
        have htk := val_take_succ 10000 j a.2
        rw [ej, br_pos (by omega), idx_of j rfl (by omega), bnd_val, inR_of (by omega) (by omega), bnd_val, idx_of j rfl (by omega), bnd_val, wrap_i64 (x := c * 10000) (by omega), wrap_i64 (x := c * 10000 + a.2.getD j 0) (by omega), tmod_pos (by omega), tdiv_pos (by omega),
          wrap_i64 (x := (c * 10000 + a.2.getD j 0) / 2) (by omega), wrap_i64 (by omega), Int.toNat_natCast]
        refine Or.inr ⟨_, rfl, ⟨j, by simp only, by omega, by simp only; omega, by simp only; omega, k5.set ⟨by omega, by omega⟩ j, by simp only [List.length_set]; exact k6, fun x hx => ?_, ?_⟩, by simp only; omega⟩
        · simp only
          rw [getD_set (by omega), if_neg (by omega)]
          exact k7 x (by omega)
        · simp only
          have hdm := Int.mul_ediv_add_emod (c * 10000 + a.2.getD j 0) 2
          rw [val_set _ _ _ _ (by omega), k7 j (by omega), k8, htk, Int.pow_succ]
          generalize (c * 10000 + a.2.getD j 0) / 2 = q at *
          generalize (c * 10000 + a.2.getD j 0) % 2 = m at *
          generalize (10000 : Int) ^ j = P at *
          grind)
    (s := ((0 : Int), (a.2.length : Int) - 1, List.replicate a.2.length 0))
    ⟨a.2.length, rfl, Nat.le_refl _, by simp, by simp, Dig.replicate (by decide) _, by simp, fun x _ => getD_replicate _ _, by simp [val_replicate]⟩
  simp only at l2 l3 l4 l5
  obtain ⟨z, z1, z2, z3⟩ := zmade_ok (B := 10000) a.1 t l4 (by omega)
  have hz : ∃ w, Rep 10000 z w ∧ (w.natAbs = u.natAbs / 2 ∧ (0 ≤ u → 0 ≤ w) ∧ (u ≤ 0 → w ≤ 0)) := by
    have h7 := val_nonneg (B := 10000) (by decide) l4
    have h8 := val_nonneg (B := 10000) (by decide) ha.dig
    have h9 := ha.val
    refine ⟨_, z2, ?_⟩
    revert h9
    split <;> intro h9 <;> omega
  obtain ⟨w, w1, w2⟩ := hz
  unfold W.R_zhalf
  rw [okIf_true (by simp; omega), bnd_val, wrap_i64 (by omega), Int.toNat_natCast, l1, bnd_val]
  simp only
  rw [z1, bnd_val]
  exact ⟨z, _, rfl, w, w1, w2, by omega⟩
theorem zodd_ok {a : Bool × List Int} {u : Int} (ha : Rep 10000 a u) : W.R_zodd a = some (decide (u.natAbs % 2 = 1)) := by
  have h6 := ha.absval (by decide)
  unfold W.R_zodd W.R_zodd.c1
  cases hl : a.2 with
  | nil =>
    rw [hl] at h6
    simp only [val] at h6
    rw [br_neg (by simp), bnd_val, show u.natAbs = 0 by omega]
    rfl
  | cons d l =>
    rw [hl] at h6
    have hd : 0 ≤ d ∧ d < 10000 := ha.dig d (by rw [hl]; simp)
    have hn := val_nonneg (B := 10000) (by decide) (l := l) (fun x hx => ha.dig x (by rw [hl]; simp [hx]))
    simp only [val] at h6
    rw [br_pos (by simp), show idx (d :: l) (0 : Int) = some d from rfl, bnd_val, bnd_val, tmod_pos hd.1]
    congr 1
    rw [Bool.eq_iff_iff, beq_iff_eq, decide_eq_true_iff]
    omega
end Go.Ql
end
end
