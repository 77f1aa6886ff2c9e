/- Plain laws: loops, bits, sums over subsets. -/
import Derived.Test.YtajegnlkgnecoaaDoorLf
import Derived.IntWalk
set_option linter.all false
section
namespace Go.Ql
section
variable {S R : Type} {f : S → Option (S ⊕ R)}
theorem iter_inr {s : S} {r : R} (h : f s = some (.inr r)) : iter f s = some r := iter_of (n := 1) (by simp [iterN, h])
theorem iter_inl {s s' : S} {r : R} (h : f s = some (.inl s')) (h' : iter f s' = some r) : iter f s = some r := by
  obtain ⟨n, hn⟩ := iter_some h'
  exact iter_of (n := n + 1) (by simp [iterN, h, hn])
theorem iter_loop {J : S → Prop} {Q : R → Prop} (m : S → Nat) (hstep : ∀ s, J s → (∃ r, f s = some (.inr r) ∧ Q r) ∨ ∃ s', f s = some (.inl s') ∧ J s' ∧ m s' < m s) {s : S} (h : J s) : ∃ r, iter f s = some r ∧ Q r := by
  have key : ∀ (k : Nat) (s : S), m s ≤ k → J s → ∃ r, iter f s = some r ∧ Q r := by
    intro k
    induction k with
    | zero =>
      intro s hk hj
      rcases hstep s hj with ⟨r, h1, h2⟩ | ⟨s', h1, h2, h3⟩
      · exact ⟨r, iter_inr h1, h2⟩
      · omega
    | succ k ih =>
      intro s hk hj
      rcases hstep s hj with ⟨r, h1, h2⟩ | ⟨s', h1, h2, h3⟩
      · exact ⟨r, iter_inr h1, h2⟩
      · obtain ⟨r, h4, h5⟩ := ih s' (by omega) h2
        exact ⟨r, iter_inl h1 h4, h5⟩
  exact key (m s) s (Nat.le_refl _) h
end
theorem bnd_of {α β : Type} {p : Option α} {x : α} {k : α → Option β} {r : Option β} (h : p = some x) (h' : k x = r) : bnd p k = r := by rw [h]; exact h'
theorem bnd_val {α β : Type} {x : α} {k : α → Option β} : bnd (some x) k = k x := rfl
theorem br_true {α : Type} {x y : α} {b : Bool} (h : b = true) : br b x y = x := by rw [h]; rfl
theorem br_false {α : Type} {x y : α} {b : Bool} (h : b = false) : br b x y = y := by rw [h]; rfl
theorem br_pos {α : Type} {x y : α} {p : Prop} [Decidable p] (h : p) : br (decide p) x y = x := br_true (decide_eq_true h)
theorem br_neg {α : Type} {x y : α} {p : Prop} [Decidable p] (h : ¬ p) : br (decide p) x y = y := br_false (decide_eq_false h)
theorem okIf_true {b : Bool} (h : b = true) : okIf b = some () := by rw [h]; rfl
theorem inR_of {n : Nat} {i : Int} (h0 : 0 ≤ i) (h : i < (n : Int)) : inR n i = some () := by
  unfold inR
  simp [h0, h]

theorem wrap_i64 {x : Int} (h : -9223372036854775808 ≤ x ∧ x ≤ 9223372036854775807) : IntKind.i64.wrap x = x := IntWalk.i64_in _ (by omega)
theorem wrap_u64 {x : Int} (h : 0 ≤ x ∧ x < 18446744073709551616) : IntKind.u64.wrap x = x := IntWalk.u64_in _ (by omega)
def val (B : Int) : List Int → Int
  | [] => 0
  | d :: l => d + B * val B l
def Dig (B : Int) (l : List Int) : Prop := ∀ d ∈ l, 0 ≤ d ∧ d < B

theorem Dig.nil {B : Int} : Dig B [] := fun _ h => by cases h
theorem Dig.cons {B d : Int} {l : List Int} (h : 0 ≤ d ∧ d < B) (hl : Dig B l) : Dig B (d :: l) := fun x hx => by
  rcases List.mem_cons.1 hx with rfl | hx
  · exact h
  · exact hl x hx
theorem Dig.append {B : Int} {l m : List Int} (hl : Dig B l) (hm : Dig B m) : Dig B (l ++ m) := fun x hx => by
  rcases List.mem_append.1 hx with hx | hx
  · exact hl x hx
  · exact hm x hx
theorem Dig.head {B d : Int} {l : List Int} (h : Dig B (d :: l)) : 0 ≤ d ∧ d < B := h d (List.mem_cons_self ..)
theorem Dig.tail {B d : Int} {l : List Int} (h : Dig B (d :: l)) : Dig B l := fun x hx => h x (List.mem_cons_of_mem _ hx)
theorem Dig.take {B : Int} {l : List Int} (h : Dig B l) (n : Nat) : Dig B (l.take n) := fun x hx => h x (List.mem_of_mem_take hx)
theorem Dig.drop {B : Int} {l : List Int} (h : Dig B l) (n : Nat) : Dig B (l.drop n) := fun x hx => h x (List.mem_of_mem_drop hx)
theorem Dig.getD {B : Int} {l : List Int} (hB : 0 < B) (h : Dig B l) (i : Nat) : 0 ≤ l.getD i 0 ∧ l.getD i 0 < B := by
  by_cases hi : i < l.length
  · simp only [List.getD, List.getElem?_eq_getElem hi, Option.getD_some]
    exact h _ (List.getElem_mem hi)
  · rw [List.getD, List.getElem?_eq_none (by omega : l.length ≤ i), Option.getD_none]
    omega
theorem Dig.set {B x : Int} {l : List Int} (h : Dig B l) (hx : 0 ≤ x ∧ x < B) (i : Nat) : Dig B (l.set i x) := fun y hy => by
  rcases List.mem_or_eq_of_mem_set hy with hy | rfl
  · exact h y hy
  · exact hx
theorem Dig.replicate {B : Int} (hB : 0 < B) (n : Nat) : Dig B (List.replicate n 0) := fun x hx => by
  rw [(List.mem_replicate.1 hx).2]; omega
end Go.Ql
end

section
namespace Go.Ql
section
variable {A S R : Type} {f : S → Option (S ⊕ R)}
theorem iter_each {l : List A} (P : List A → List A → S → Prop) (Q : R → Prop)
    (step : ∀ pre a r s, l = pre ++ a :: r → P pre (a :: r) s → (∃ s', f s = some (.inl s') ∧ P (pre ++ [a]) r s') ∨ (∃ x, f s = some (.inr x) ∧ Q x))
    (done : ∀ s, P l [] s → ∃ x, f s = some (.inr x) ∧ Q x) {s : S} (h : P [] l s) : ∃ x, iter f s = some x ∧ Q x := by
  have key : ∀ (r pre : List A) (s : S), l = pre ++ r → P pre r s → ∃ x, iter f s = some x ∧ Q x := by
    intro r
    induction r with
    | nil =>
      intro pre s hl hp
      rw [List.append_nil] at hl
      subst hl
      obtain ⟨x, h1, h2⟩ := done s hp
      exact ⟨x, iter_inr h1, h2⟩
    | cons a r ih =>
      intro pre s hl hp
      rcases step pre a r s hl hp with ⟨s', h1, h2⟩ | ⟨x, h1, h2⟩
      · obtain ⟨x, h3, h4⟩ := ih (pre ++ [a]) s' (by simp [hl]) h2
        exact ⟨x, iter_inl h1 h3, h4⟩
      · exact ⟨x, iter_inr h1, h2⟩
  exact key l [] s rfl h
theorem iter_upto (n : Nat) (P : Nat → S → Prop) (Q : R → Prop)
    (step : ∀ i s, i < n → P i s → (∃ s', f s = some (.inl s') ∧ P (i + 1) s') ∨ (∃ x, f s = some (.inr x) ∧ Q x))
    (done : ∀ s, P n s → ∃ x, f s = some (.inr x) ∧ Q x) {s : S} (h : P 0 s) : ∃ x, iter f s = some x ∧ Q x := by
  have key : ∀ (k i : Nat) (s : S), i + k = n → P i s → ∃ x, iter f s = some x ∧ Q x := by
    intro k
    induction k with
    | zero =>
      intro i s hi hp
      have : i = n := by omega
      subst this
      obtain ⟨x, h1, h2⟩ := done s hp
      exact ⟨x, iter_inr h1, h2⟩
    | succ k ih =>
      intro i s hi hp
      rcases step i s (by omega) hp with ⟨s', h1, h2⟩ | ⟨x, h1, h2⟩
      · obtain ⟨x, h3, h4⟩ := ih (i + 1) s' (by omega) h2
        exact ⟨x, iter_inl h1 h3, h4⟩
      · exact ⟨x, iter_inr h1, h2⟩
  exact key n 0 s (by omega) h
end
theorem br_if {α : Type} {x y : α} {b : Bool} : br b x y = if b = true then x else y := by cases b <;> rfl
theorem sel_inl {α β γ : Type} {x : α} {f : α → γ} {g : β → γ} : sel (.inl x) f g = f x := rfl
theorem sel_inr {α β γ : Type} {x : β} {f : α → γ} {g : β → γ} : sel (.inr x) f g = g x := rfl
theorem idx_mid {α : Type} {pre : List α} {a : α} {r : List α} : idx (pre ++ a :: r) (pre.length : Int) = some a := by
  unfold idx
  simp
theorem idx_at {α : Type} {l : List α} {i : Nat} : idx l (i : Int) = l[i]? := by
  unfold idx
  simp
theorem idx_get {α : Type} {l : List α} {i : Nat} (h : i < l.length) : idx l (i : Int) = some l[i] := by
  rw [idx_at, List.getElem?_eq_getElem h]
theorem inR_at {n : Nat} {i : Nat} (h : i < n) : inR n (i : Int) = some () := inR_of (by omega) (by omega)
theorem br_or {b c : Bool} : br b (some true) (some c) = some (b || c) := by cases b <;> rfl
theorem br_and {b c : Bool} : br b (some c) (some false) = some (b && c) := by cases b <;> rfl
theorem some_dec {b : Bool} {P : Prop} [Decidable P] (h : b = true ↔ P) : some b = some (decide P) := by
  congr 1
  rw [Bool.eq_iff_iff, h]
  simp
theorem br_tt {α : Type} {x y : α} : br true x y = x := rfl
theorem br_ff {α : Type} {x y : α} : br false x y = y := rfl
theorem lt_app {α : Type} {pre : List α} {a : α} {r : List α} : decide ((pre.length : Int) < ((pre ++ a :: r).length : Int)) = true := by
  simp only [List.length_append, List.length_cons, decide_eq_true_eq]; omega
theorem both_self {α : Type} {x : Option α} : both x x = x := by simp [both]
theorem okIf_len {n k : Nat} (h : n * k ≤ 140737488355328 ∧ n ≤ 140737488355328) : okIf (decide (n * k ≤ (140737488355328 : Nat)) && decide (n ≤ (140737488355328 : Nat))) = some () :=
  okIf_true (by simp [h])
end Go.Ql
end

section
set_option linter.unusedSectionVars false
namespace Go.Ql
section
variable {S E R A T : Type} {f : S → Option (S ⊕ R)}
def fstF (p : Nat → Bool) : Nat → Nat → Option Nat
  | _, 0 => none
  | i, k + 1 => if p i = true then some i else fstF p (i + 1) k
theorem fstF_none {p : Nat → Bool} : ∀ {i k : Nat}, fstF p i k = none ↔ ∀ j, i ≤ j → j < i + k → p j = false := by
  intro i k
  induction k generalizing i with
  | zero =>
    refine Iff.intro (fun _ j h1 h2 => ?_) (fun _ => rfl)
    omega
  | succ k ih =>
    unfold fstF
    by_cases h : p i = true
    · rw [if_pos h]
      refine Iff.intro (fun h1 => nomatch h1) (fun h1 => ?_)
      have := h1 i (by omega) (by omega)
      rw [this] at h
      cases h
    · rw [if_neg h, ih]
      refine Iff.intro (fun h1 j h2 h3 => ?_) (fun h1 j h2 h3 => h1 j (by omega) (by omega))
      by_cases hj : j = i
      · subst hj; simpa using h
      · exact h1 j (by omega) (by omega)
theorem iter_first {f : S → Option (S ⊕ (E ⊕ R))} {P : Nat → S → Prop} (n : Nat) (p : Nat → Bool) {X : Nat → E → Prop} {Q : R → Prop}
    (hit : ∀ i s, i < n → P i s → p i = true → ∃ e, f s = some (.inr (.inl e)) ∧ X i e)
    (next : ∀ i s, i < n → P i s → p i = false → ∃ s', f s = some (.inl s') ∧ P (i + 1) s')
    (done : ∀ s, P n s → ∃ r, f s = some (.inr (.inr r)) ∧ Q r) {s : S} (h : P 0 s) :
    (∃ i e, fstF p 0 n = some i ∧ iter f s = some (.inl e) ∧ X i e) ∨ ∃ r, fstF p 0 n = none ∧ iter f s = some (.inr r) ∧ Q r := by
  have key : ∀ (k i : Nat) (s : S), i + k = n → P i s →
      (∃ j e, fstF p i k = some j ∧ iter f s = some (.inl e) ∧ X j e) ∨ ∃ r, fstF p i k = none ∧ iter f s = some (.inr r) ∧ Q r := by
    intro k
    induction k with
    | zero =>
      intro i s hi hp
      have : i = n := by omega
      subst this
      obtain ⟨r, h1, h2⟩ := done s hp
      exact .inr ⟨r, rfl, iter_inr h1, h2⟩
    | succ k ih =>
      intro i s hi hp
      unfold fstF
      cases hpi : p i with
      | true =>
        obtain ⟨e, h1, h2⟩ := hit i s (by omega) hp hpi
        exact .inl ⟨i, e, by simp, iter_inr h1, h2⟩
      | false =>
        obtain ⟨s', h1, h2⟩ := next i s (by omega) hp hpi
        rcases ih (i + 1) s' (by omega) h2 with ⟨j, e, h3, h4, h5⟩ | ⟨r, h3, h4, h5⟩
        · exact .inl ⟨j, e, by simpa using h3, iter_inl h1 h4, h5⟩
        · exact .inr ⟨r, by simpa using h3, iter_inl h1 h4, h5⟩
  exact key n 0 s (by omega) h
theorem iter_count {s0 : S} (n : Nat) (mk : Nat → S) (r : R) (step : ∀ i, i < n → f (mk i) = some (.inl (mk (i + 1)))) (done : f (mk n) = some (.inr r)) (h0 : s0 = mk 0) : iter f s0 = some r := by
  subst h0
  obtain ⟨x, h1, h2⟩ := iter_upto (f := f) n (fun i s => s = mk i) (fun x => x = r) (fun i s hi hs => .inl ⟨_, by rw [hs]; exact step i hi, rfl⟩) (fun s hs => ⟨_, by rw [hs]; exact done, rfl⟩) (s := mk 0) rfl
  rw [h1, h2]
end

theorem bv_ofInt_nat (w n : Nat) : BitVec.ofInt w (n : Int) = BitVec.ofNat w n := by
  simp
theorem ior64 {a b : Nat} (ha : a < 2 ^ 64) (hb : b < 2 ^ 64) : ibits .or .u64 (a : Int) (b : Int) = ((a ||| b : Nat) : Int) := by
  show IntKind.u64.wrap (((BitVec.ofInt 64 (a : Int) ||| BitVec.ofInt 64 (b : Int)).toNat : Nat) : Int) = _
  simp only [bv_ofInt_nat]
  have h := Nat.or_lt_two_pow ha hb
  rw [BitVec.toNat_or, BitVec.toNat_ofNat, BitVec.toNat_ofNat, Nat.mod_eq_of_lt ha, Nat.mod_eq_of_lt hb, wrap_u64 (by omega)]
theorem iand64 {a b : Nat} (ha : a < 2 ^ 64) (hb : b < 2 ^ 64) : ibits .and .u64 (a : Int) (b : Int) = ((a &&& b : Nat) : Int) := by
  show IntKind.u64.wrap (((BitVec.ofInt 64 (a : Int) &&& BitVec.ofInt 64 (b : Int)).toNat : Nat) : Int) = _
  simp only [bv_ofInt_nat]
  have h := Nat.and_lt_two_pow a hb
  rw [BitVec.toNat_and, BitVec.toNat_ofNat, BitVec.toNat_ofNat, Nat.mod_eq_of_lt ha, Nat.mod_eq_of_lt hb, wrap_u64 (by omega)]
theorem iori64 {a b : Nat} (ha : a < 2 ^ 63) (hb : b < 2 ^ 63) : ibits .or .i64 (a : Int) (b : Int) = ((a ||| b : Nat) : Int) := by
  show IntKind.i64.wrap (((BitVec.ofInt 64 (a : Int) ||| BitVec.ofInt 64 (b : Int)).toNat : Nat) : Int) = _
  simp only [bv_ofInt_nat]
  have h := Nat.or_lt_two_pow ha hb
  rw [BitVec.toNat_or, BitVec.toNat_ofNat, BitVec.toNat_ofNat, Nat.mod_eq_of_lt (by omega), Nat.mod_eq_of_lt (by omega), wrap_i64 (by omega)]
theorem iandi64 {a b : Nat} (ha : a < 2 ^ 63) (hb : b < 2 ^ 63) : ibits .and .i64 (a : Int) (b : Int) = ((a &&& b : Nat) : Int) := by
  show IntKind.i64.wrap (((BitVec.ofInt 64 (a : Int) &&& BitVec.ofInt 64 (b : Int)).toNat : Nat) : Int) = _
  simp only [bv_ofInt_nat]
  have h := Nat.and_lt_two_pow a hb
  rw [BitVec.toNat_and, BitVec.toNat_ofNat, BitVec.toNat_ofNat, Nat.mod_eq_of_lt (by omega), Nat.mod_eq_of_lt (by omega), wrap_i64 (by omega)]
theorem ixori64 {a b : Nat} (ha : a < 2 ^ 63) (hb : b < 2 ^ 63) : ibits .xor .i64 (a : Int) (b : Int) = ((a ^^^ b : Nat) : Int) := by
  show IntKind.i64.wrap (((BitVec.ofInt 64 (a : Int) ^^^ BitVec.ofInt 64 (b : Int)).toNat : Nat) : Int) = _
  simp only [bv_ofInt_nat]
  have h := Nat.xor_lt_two_pow ha hb
  rw [BitVec.toNat_xor, BitVec.toNat_ofNat, BitVec.toNat_ofNat, Nat.mod_eq_of_lt (by omega), Nat.mod_eq_of_lt (by omega), wrap_i64 (by omega)]

end Go.Ql
end

section
set_option linter.unusedSectionVars false
set_option linter.unusedVariables false
set_option maxHeartbeats 1000000
namespace W
open Go Go.Ql
def xf (f : Nat → Bool) : Nat → Bool
  | 0 => false
  | k + 1 => xf f k != f k
theorem xf_add (f g : Nat → Bool) : ∀ k, xf (fun y => f y != g y) k = (xf f k != xf g k)
  | 0 => rfl
  | k + 1 => by
    rw [xf, xf, xf, xf_add f g k]
    cases xf f k <;> cases xf g k <;> cases f k <;> cases g k <;> rfl
theorem xf_congr {f g : Nat → Bool} : ∀ {k}, (∀ y, y < k → f y = g y) → xf f k = xf g k
  | 0, _ => rfl
  | k + 1, h => by rw [xf, xf, xf_congr fun y hy => h y (Nat.lt_succ_of_lt hy), h k (Nat.lt_succ_self k)]
theorem xf_zero {f : Nat → Bool} : ∀ {k}, (∀ y, y < k → f y = false) → xf f k = false
  | 0, _ => rfl
  | k + 1, h => by rw [xf, xf_zero fun y hy => h y (Nat.lt_succ_of_lt hy), h k (Nat.lt_succ_self k)]; rfl
theorem xf_cut {f : Nat → Bool} {k m : Nat} (hk : k ≤ m) (h : ∀ y, k ≤ y → y < m → f y = false) : xf f m = xf f k := by
  induction m with
  | zero => rw [Nat.le_zero.1 hk]
  | succ m ih =>
    by_cases e : k = m + 1
    · rw [e]
    · rw [xf, h m (by omega) (by omega), ih (by omega) fun y h1 h2 => h y h1 (by omega)]
      cases xf f k <;> rfl
theorem xf_one {f : Nat → Bool} {x k : Nat} (h : x < k) : xf (fun y => decide (y = x) && f y) k = f x := by
  rw [xf_cut (k := x + 1) h fun y h1 h2 => by rw [decide_eq_false (by omega)]; rfl, xf, xf_zero fun y hy => by rw [decide_eq_false (by omega)]; rfl]
  simp
open Classical in
def sub (i x y : Nat) : Prop := ∀ j, (j < i → y.testBit j = true → x.testBit j = true) ∧ (i ≤ j → y.testBit j = x.testBit j)
def mob (f : Nat → Bool) : Nat → Nat → Bool
  | 0, x => f x
  | i + 1, x => if x.testBit i = true then (mob f i x != mob f i (x ^^^ 2 ^ i)) else mob f i x
theorem flip_bit (x i j : Nat) : (x ^^^ 2 ^ i).testBit j = (x.testBit j != decide (i = j)) := by
  rw [Nat.testBit_xor, Nat.testBit_two_pow]
def nand (a b : Nat) : Nat := a ^^^ (a &&& b)
theorem nand_bit (a b j : Nat) : (nand a b).testBit j = (a.testBit j && !b.testBit j) := by
  rw [nand, Nat.testBit_xor, Nat.testBit_and]
  cases a.testBit j <;> cases b.testBit j <;> rfl
theorem nand_zero {a b : Nat} : nand a b = 0 ↔ ∀ j, a.testBit j = true → b.testBit j = true := by
  constructor
  · intro h j hj
    have := congrArg (·.testBit j) h
    simp only [nand_bit, Nat.zero_testBit, hj, Bool.true_and] at this
    simpa using this
  · intro h
    apply Nat.eq_of_testBit_eq
    intro j
    rw [nand_bit, Nat.zero_testBit]
    cases ha : a.testBit j with
    | false => rfl
    | true => rw [h j ha]; rfl
theorem sub_le {a b : Nat} (h : ∀ j, a.testBit j = true → b.testBit j = true) : a ≤ b := by
  have : a &&& b = a := by
    apply Nat.eq_of_testBit_eq
    intro j
    rw [Nat.testBit_and]
    cases ha : a.testBit j with
    | false => rfl
    | true => rw [h j ha]; rfl
  rw [← this]
  exact Nat.and_le_right
theorem nand_le (a b : Nat) : nand a b ≤ a := sub_le fun j hj => by
  rw [nand_bit] at hj
  cases ha : a.testBit j with
  | true => rfl
  | false => rw [ha] at hj; exact hj
theorem nand_lt {a b m : Nat} (h : a < m) : nand a b < m := Nat.lt_of_le_of_lt (nand_le a b) h
def bL (x : Nat) : Nat → List Int
  | 0 => []
  | k + 1 => if x.testBit k = true then bL x k ++ [(k : Int)] else bL x k
theorem bL_len (x : Nat) : ∀ k, (bL x k).length ≤ k
  | 0 => Nat.le_refl 0
  | k + 1 => by
    have := bL_len x k
    rw [bL]
    split
    · simp only [List.length_append, List.length_cons, List.length_nil]; omega
    · omega
theorem bL_mem {x : Nat} {a : Int} : ∀ {k : Nat}, a ∈ bL x k ↔ ∃ j : Nat, a = j ∧ j < k ∧ x.testBit j = true
  | 0 => by simp [bL]
  | k + 1 => by
    rw [bL]
    constructor
    · intro h
      by_cases hb : x.testBit k = true
      · rw [if_pos hb] at h
        rcases List.mem_append.1 h with h | h
        · obtain ⟨j, h1, h2, h3⟩ := bL_mem.1 h
          exact ⟨j, h1, by omega, h3⟩
        · exact ⟨k, List.mem_singleton.1 h, by omega, hb⟩
      · rw [if_neg hb] at h
        obtain ⟨j, h1, h2, h3⟩ := bL_mem.1 h
        exact ⟨j, h1, by omega, h3⟩
    · rintro ⟨j, h1, h2, h3⟩
      by_cases e : j = k
      · subst e
        rw [if_pos h3, h1]
        exact List.mem_append_right _ (List.mem_singleton.2 rfl)
      · have := bL_mem.2 ⟨j, h1, (by omega : j < k), h3⟩
        split
        · exact List.mem_append_left _ this
        · exact this
theorem bL_inc (x : Nat) : ∀ k, (bL x k).Pairwise (· < ·)
  | 0 => List.Pairwise.nil
  | k + 1 => by
    rw [bL]
    split
    · rw [List.pairwise_append]
      refine ⟨bL_inc x k, List.pairwise_singleton _ _, fun a ha b hb => ?_⟩
      obtain ⟨j, h1, h2, h3⟩ := bL_mem.1 ha
      rw [List.mem_singleton.1 hb, h1]
      omega
    · exact bL_inc x k
theorem ext_inc {α : Type} {lt : α → α → Prop} (irr : ∀ a, ¬ lt a a) (tr : ∀ a b c, lt a b → lt b c → lt a c) :
    ∀ {l m : List α}, l.Pairwise lt → m.Pairwise lt → (∀ x, x ∈ l ↔ x ∈ m) → l = m
  | [], [], _, _, _ => rfl
  | [], b :: m, _, _, h => absurd ((h b).2 (List.mem_cons_self ..)) (by simp)
  | a :: l, [], _, _, h => absurd ((h a).1 (List.mem_cons_self ..)) (by simp)
  | a :: l, b :: m, hl, hm, h => by
    rw [List.pairwise_cons] at hl hm
    have e : a = b := by
      rcases List.mem_cons.1 ((h a).1 (List.mem_cons_self ..)) with e | e
      · exact e
      · rcases List.mem_cons.1 ((h b).2 (List.mem_cons_self ..)) with e' | e'
        · exact e'.symm
        · exact absurd (tr _ _ _ (hl.1 b e') (hm.1 a e)) (irr a)
    subst e
    rw [ext_inc irr tr hl.2 hm.2 fun x => ?_]
    constructor
    · intro hx
      rcases List.mem_cons.1 ((h x).1 (List.mem_cons_of_mem _ hx)) with e | e
      · subst e; exact absurd (hl.1 _ hx) (irr _)
      · exact e
    · intro hx
      rcases List.mem_cons.1 ((h x).2 (List.mem_cons_of_mem _ hx)) with e | e
      · subst e; exact absurd (hm.1 _ hx) (irr _)
      · exact e
def nm : List Int → Nat
  | [] => 0
  | a :: r => 2 ^ a.toNat + nm r
def Inc (v n : Nat) (m : List Int) : Prop := m.Pairwise (· < ·) ∧ ∀ a ∈ m, (v : Int) ≤ a ∧ a < n
theorem Inc.cons {v n : Nat} {a : Int} {m : List Int} : Inc v n (a :: m) ↔ ∃ u : Nat, a = u ∧ v ≤ u ∧ u < n ∧ Inc (u + 1) n m := by
  unfold Inc
  rw [List.pairwise_cons]
  constructor
  · rintro ⟨⟨h1, h2⟩, h3⟩
    have ha := h3 a (List.mem_cons_self ..)
    refine ⟨a.toNat, by omega, by omega, by omega, h2, fun b hb => ?_⟩
    have := h1 b hb
    have := h3 b (List.mem_cons_of_mem _ hb)
    omega
  · rintro ⟨u, rfl, h1, h2, h3, h4⟩
    refine ⟨⟨fun b hb => ?_, h3⟩, fun b hb => ?_⟩
    · have := h4 b hb; omega
    · rcases List.mem_cons.1 hb with rfl | hb
      · omega
      · have := h4 b hb; omega
theorem nm_bit : ∀ {m : List Int} {v n : Nat}, Inc v n m → nm m % 2 ^ v = 0 ∧ (v ≤ n → nm m < 2 ^ n) ∧ ∀ j : Nat, (nm m).testBit j = decide ((j : Int) ∈ m)
  | [], v, n, _ => ⟨Nat.zero_mod _, fun _ => Nat.two_pow_pos n, fun j => by simp [nm]⟩
  | a :: m, v, n, h => by
    obtain ⟨u, rfl, h1, h2, h3⟩ := Inc.cons.1 h
    obtain ⟨m1, m2, m3⟩ := nm_bit h3
    have m2 := m2 h2
    have hor : nm ((u : Int) :: m) = 2 ^ u ||| nm m := by
      show 2 ^ u + nm m = _
      obtain ⟨q, hq⟩ := Nat.dvd_of_mod_eq_zero m1
      rw [hq, Nat.or_comm, Nat.add_comm]
      exact Nat.two_pow_add_eq_or_of_lt (Nat.pow_lt_pow_right (by decide) (Nat.lt_succ_self u)) q
    refine ⟨?_, fun hv => ?_, fun j => ?_⟩
    · rw [show nm ((u : Int) :: m) = 2 ^ u + nm m from rfl]
      obtain ⟨q, hq⟩ := Nat.dvd_of_mod_eq_zero m1
      obtain ⟨p, rfl⟩ := Nat.le.dest h1
      have : 2 ^ (v + p) + nm m = 2 ^ v * (2 ^ p + 2 ^ (p + 1) * q) := by
        rw [hq, Nat.mul_add, ← Nat.pow_add, ← Nat.mul_assoc, ← Nat.pow_add]
        rfl
      rw [this, Nat.mul_mod_right]
    · rw [hor]; exact Nat.or_lt_two_pow (Nat.pow_lt_pow_right (by decide) h2) m2
    · rw [hor, Nat.testBit_or, Nat.testBit_two_pow, m3 j]
      simp only [List.mem_cons, Bool.decide_or]
      congr 1
      apply decide_eq_decide.2
      omega
theorem bL_Inc (x n : Nat) : Inc 0 n (bL x n) := ⟨bL_inc x n, fun a ha => by obtain ⟨j, h1, h2, h3⟩ := bL_mem.1 ha; omega⟩
theorem nm_bL {x n : Nat} (h : x < 2 ^ n) : nm (bL x n) = x := by
  apply Nat.eq_of_testBit_eq
  intro j
  rw [(nm_bit (bL_Inc x n)).2.2 j]
  by_cases hj : j < n
  · have e : ((j : Int) ∈ bL x n) ↔ x.testBit j = true := by
      rw [bL_mem]
      constructor
      · rintro ⟨i, h1, h2, h3⟩
        have : i = j := by omega
        rw [← this]; exact h3
      · exact fun h => ⟨j, rfl, hj, h⟩
    simp only [e]
    cases x.testBit j <;> rfl
  · rw [Nat.testBit_lt_two_pow (Nat.lt_of_lt_of_le h (Nat.pow_le_pow_right (by decide) (by omega)))]
    apply decide_eq_false
    rw [bL_mem]
    rintro ⟨i, h1, h2, h3⟩
    omega
theorem bL_nm {m : List Int} {n : Nat} (h : Inc 0 n m) : bL (nm m) n = m := by
  refine ext_inc (fun a => Int.lt_irrefl a) (fun a b c => Int.lt_trans) (bL_inc _ _) h.1 fun a => ?_
  rw [bL_mem]
  have hb := (nm_bit h).2.2
  constructor
  · rintro ⟨j, rfl, h2, h3⟩
    rw [hb j] at h3
    exact of_decide_eq_true h3
  · intro ha
    have := h.2 a ha
    obtain ⟨j, rfl⟩ := Int.eq_ofNat_of_zero_le (by omega : 0 ≤ a)
    exact ⟨j, rfl, by omega, by rw [hb j]; exact decide_eq_true ha⟩
def subs (n : Nat) : Nat → Nat → List (List Int)
  | 0, _ => [[]]
  | s + 1, v => (List.range' v (n - v)).flatMap fun u => (subs n s (u + 1)).map ((u : Int) :: ·)
theorem subs_mem {n : Nat} : ∀ {s v : Nat} {m : List Int}, m ∈ subs n s v ↔ m.length = s ∧ Inc v n m
  | 0, v, m => by
    rw [subs, List.mem_singleton, List.length_eq_zero_iff]
    constructor
    · rintro rfl; exact ⟨rfl, List.Pairwise.nil, fun a h => by cases h⟩
    · exact fun h => h.1
  | s + 1, v, m => by
    rw [subs, List.mem_flatMap]
    constructor
    · rintro ⟨u, h1, h2⟩
      obtain ⟨r, h3, rfl⟩ := List.mem_map.1 h2
      obtain ⟨h4, h5⟩ := subs_mem.1 h3
      rw [List.mem_range'_1] at h1
      exact ⟨by rw [List.length_cons, h4], Inc.cons.2 ⟨u, rfl, h1.1, by omega, h5⟩⟩
    · rintro ⟨h1, h2⟩
      match m, h1, h2 with
      | a :: r, h1, h2 =>
        obtain ⟨u, rfl, h3, h4, h5⟩ := Inc.cons.1 h2
        exact ⟨u, by rw [List.mem_range'_1]; omega, List.mem_map.2 ⟨r, subs_mem.2 ⟨by simpa using h1, h5⟩, rfl⟩⟩
end W
end
