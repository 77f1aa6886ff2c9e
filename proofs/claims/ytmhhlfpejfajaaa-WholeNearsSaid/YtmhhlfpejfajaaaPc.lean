/- Plain laws: texts read. -/
import Derived.Test.YtmhhlfpejfajaaaPb
section
/- The grammar of a whole number: both readers say the same. -/
namespace Go.Ql
theorem hasPrefix1 (s : List UInt8) (c : UInt8) : W.strings_HasPrefix s [c] = some (s.head? == some c) := by
  unfold W.strings_HasPrefix W.stringslite_HasPrefix W.stringslite_HasPrefix.c1
  cases s with
  | nil => rfl
  | cons d l =>
    rw [br_pos (by simp; omega), okIf_true (by simp; omega), bnd_val, bnd_val, bnd_val]
    simp

def isDigit (c : UInt8) : Bool := decide (48 ≤ c.toNat) && decide (c.toNat ≤ 57)
theorem idx_text (text : List UInt8) (k : Nat) (h : k < text.length) : idx text (k : Int) = some text[k] := by
  unfold idx; simp [h]

/-- Where the digits from place i on end. -/
theorem word_loop (text : List UInt8) (i : Nat) (hi : i ≤ text.length) (hL : text.length ≤ 9223372036854775807) :
    ∃ k : Nat, iter (fun s ↦ W.R_word.c100010 text s Option.some) (i : Int) = some (k : Int) ∧ i ≤ k ∧ k ≤ text.length ∧ (∀ j (h : j < text.length), i ≤ j → j < k → isDigit text[j] = true) := by
  obtain ⟨r, h1, k, h2, h3⟩ := iter_loop (f := fun s : Int ↦ W.R_word.c100010 text s Option.some)
    (J := fun s => ∃ k : Nat, s = k ∧ i ≤ k ∧ k ≤ text.length ∧ (∀ j (h : j < text.length), i ≤ j → j < k → isDigit text[j] = true))
    (Q := fun s => ∃ k : Nat, s = k ∧ i ≤ k ∧ k ≤ text.length ∧ (∀ j (h : j < text.length), i ≤ j → j < k → isDigit text[j] = true))
    (fun s => text.length - s.toNat) (fun s ⟨k, hs, hik, hk, hd⟩ => by
      subst hs
      simp only [W.R_word.c100010]
      have e : W.R_word.c10 text (k : Int) Option.some = some (if h : k < text.length then isDigit text[k] else false) := by
        unfold W.R_word.c10
        by_cases h : k < text.length
        · rw [br_pos (by omega), idx_text text k h, bnd_val, bnd_val, dif_pos h]
          unfold isDigit
          by_cases h5 : (48 : Nat) ≤ text[k].toNat
          · rw [br_pos (by omega)]; simp [h5]; omega
          · rw [br_neg (by omega)]; simp [h5]
        · rw [br_neg (by omega), dif_neg h]
      rw [e, bnd_val]
      by_cases h : k < text.length
      · rw [dif_pos h]
        by_cases h5 : isDigit text[k] = true
        · rw [h5, br_tt]
          refine Or.inr ⟨((k + 1 : Nat) : Int), by rw [wrap_i64 (by omega)]; rfl, ⟨k + 1, rfl, by omega, by omega, fun j hj h6 h7 => ?_⟩, by omega⟩
          by_cases h8 : j = k
          · subst h8; exact h5
          · exact hd j hj h6 (by omega)
        · rw [eq_false_of_ne_true h5, br_ff]
          exact Or.inl ⟨_, rfl, k, rfl, hik, hk, hd⟩
      · rw [dif_neg h, br_ff]
        exact Or.inl ⟨_, rfl, k, rfl, hik, hk, hd⟩)
    (s := (i : Int)) ⟨i, rfl, Nat.le_refl _, hi, fun j h h1 h2 => by omega⟩
  exact ⟨k, by rw [h1, h2], h3⟩
theorem loops_same (text : List UInt8) : (fun s ↦ W.whole_number.c100009 text s Option.some) = (fun s ↦ W.R_word.c100010 text s Option.some) := by
  funext s
  rfl
/-- What is read as a whole number: a sign, digits; nought alone begins by nought. -/
def Canon (text : List UInt8) : Prop := text = [48] ∨ ∃ (neg : Bool) (ds : List UInt8), ds ≠ [] ∧ (∀ c ∈ ds, isDigit c = true) ∧ ds.head? ≠ some 48 ∧ text = (if neg then [45] else []) ++ ds

theorem word_ok (text : List UInt8) (hL : text.length ≤ 9223372036854775807) :
    ∃ (n : Nat) (ok : Bool), W.whole_number text true = some ((n : Int), ok) ∧ W.R_word text true true = some ((n : Int), ok) ∧ (ok = true → text.length ≤ n → Canon text) := by
  obtain ⟨i, hi, hs, hw2⟩ : ∃ i : Nat, i ≤ text.length ∧ (if i = 1 then text.head? = some 45 else i = 0 ∧ text.head? ≠ some 45) ∧ True := by
    by_cases h : text.head? = some 45
    · exact ⟨1, by cases text with | nil => simp at h | cons => simp, by simp [h], trivial⟩
    · exact ⟨0, by omega, by simp [h], trivial⟩
  have hi1 : i ≤ 1 := by split at hs <;> omega
  have e1 : W.whole_number.c208197 text true 0 Option.some = some (i : Int) := by
    unfold W.whole_number.c208197 W.whole_number.c2
    rw [br_tt, show Array.toList (ByteArray.data (ByteArray.mk #[(45 : UInt8)])) = [45] from rfl, hasPrefix1, bnd_val, bnd_val]
    split at hs
    · rename_i h; subst h; rw [hs]; rfl
    · rw [beq_false_of_ne hs.2, hs.1]; rfl
  have e2 : W.R_word.c208199 text true true 0 Option.some = some (decide (i = 0), (i : Int)) := by
    unfold W.R_word.c208199 W.R_word.c2
    rw [br_tt]
    cases text with
    | nil =>
      split at hs
      · simp at hs
      · rw [hs.1]; rfl
    | cons c l =>
      rw [br_pos (by simp <;> omega), show ((0 : Int)) = ((0 : Nat) : Int) from rfl, idx_text _ 0 (by simp), bnd_val, bnd_val]
      simp only [List.head?_cons, List.getElem_cons_zero] at hs ⊢
      split at hs
      · rename_i h; subst h
        simp only [Option.some.injEq] at hs
        subst hs; rfl
      · have h3 : c ≠ 45 := fun e => hs.2 (by rw [e])
        have h4 : ((c.toNat : Int) == 45) = false := by
          apply beq_false_of_ne
          intro e
          apply h3
          apply UInt8.toNat_inj.1
          show c.toNat = 45
          omega
        rw [h4, hs.1]; rfl
  have e3 : W.R_word.c5 text (i : Int) Option.some = some ((text.drop i).head? == some 48) := by
    unfold W.R_word.c5
    by_cases h : i < text.length
    · rw [br_pos (by omega), idx_text _ i h, bnd_val, List.head?_drop, List.getElem?_eq_getElem h]
      congr 1
      generalize text[i] = c
      by_cases h5 : c = 48
      · subst h5; rfl
      · have h6 : (some c == some 48) = false := beq_false_of_ne (by simpa using h5)
        rw [h6]
        apply beq_false_of_ne
        intro e
        apply h5
        apply UInt8.toNat_inj.1
        show c.toNat = 48
        omega
    · rw [br_neg (by omega), List.head?_drop, List.getElem?_eq_none (by omega)]; rfl
  obtain ⟨k, h1, h2, h3, h4⟩ := word_loop text i hi hL
  have hnum : W.whole_number text true = br ((text.drop i).head? == some 48) (br (decide (i = 1)) (some ((i : Int), false)) (some (1, true))) (some ((k : Int), decide ((k : Int) > i))) := by
    unfold W.whole_number
    rw [e1, bnd_val, okIf_true (by simp <;> omega), bnd_val, show Array.toList (ByteArray.data (ByteArray.mk #[(48 : UInt8)])) = [48] from rfl, hasPrefix1, bnd_val, loops_same, h1, bnd_val]
    rw [Int.toNat_natCast, Int.toNat_natCast, List.take_length]
    unfold W.whole_number.c5
    simp only [Bool.not_true, br_ff, bnd_val]
    congr 2
    by_cases h : i = 1
    · subst h; rfl
    · rw [show i = 0 by omega]; rfl
  have hword : W.R_word text true true = br ((text.drop i).head? == some 48) (br (decide (i = 1)) (some ((i : Int), false)) (some (1, true))) (some ((k : Int), decide ((k : Int) > i))) := by
    unfold W.R_word
    rw [e2, bnd_val, e3, bnd_val, h1, bnd_val]
    congr 1
    by_cases h : i = 1
    · subst h; rfl
    · rw [show i = 0 by omega]
      simp only [wrap_i64 (x := ((0 : Nat) : Int) + 1) (by omega)]; rfl
  rw [hnum, hword]
  by_cases h5 : (text.drop i).head? = some 48
  · rw [br_true (beq_iff_eq.2 h5)]
    by_cases h : i = 1
    · rw [br_pos h]
      exact ⟨i, false, rfl, rfl, fun h => by cases h⟩
    · rw [br_neg h]
      refine ⟨1, true, rfl, rfl, fun _ hl => Or.inl ?_⟩
      rw [show i = 0 by omega, List.drop_zero] at h5
      cases text with
      | nil => simp at h5
      | cons c l =>
        simp only [List.length_cons] at hl
        have : l = [] := List.eq_nil_of_length_eq_zero (by omega)
        subst this
        simp at h5
        rw [h5]
  · rw [br_false (beq_false_of_ne h5)]
    refine ⟨k, decide ((k : Int) > i), rfl, rfl, fun hk hl => Or.inr ⟨decide (i = 1), text.drop i, ?_, ?_, h5, ?_⟩⟩
    · have : (k : Int) > i := of_decide_eq_true hk
      intro e
      have := congrArg List.length e
      simp at this
      omega
    · intro c hc
      obtain ⟨j, hj, rfl⟩ := List.getElem_of_mem hc
      rw [List.getElem_drop]
      exact h4 _ _ (by omega) (by simp at hj; omega)
    · split at hs
      · rename_i h
        subst h
        cases text with
        | nil => simp at hs
        | cons c l => simp at hs; simp [hs]
      · simp [hs.1]
end Go.Ql
end

section
/- The number that decimal digits say, and how both readers find it. -/
namespace Go.Ql
def dg (c : UInt8) : Int := (c.toNat : Int) - 48
def dec (l : List UInt8) : Int := l.foldl (fun n c => n * 10 + dg c) 0
theorem dec_from (n : Int) (l : List UInt8) : l.foldl (fun n c => n * 10 + dg c) n = n * 10 ^ l.length + dec l := by
  induction l generalizing n with
  | nil => simp [dec]
  | cons c l ih =>
    have h1 := ih (n * 10 + dg c)
    have h2 := ih (0 * 10 + dg c)
    simp only [dec, List.foldl_cons, List.length_cons, Int.pow_succ] at h1 h2 ⊢
    rw [h1, h2]
    grind
theorem dec_append (l m : List UInt8) : dec (l ++ m) = dec l * 10 ^ m.length + dec m := by
  unfold dec
  rw [List.foldl_append, dec_from]; rfl
theorem dec_snoc (l : List UInt8) (c : UInt8) : dec (l ++ [c]) = dec l * 10 + dg c := by
  rw [dec_append]; simp [dec]
def Digits (l : List UInt8) : Prop := ∀ c ∈ l, isDigit c = true
theorem dg_of {c : UInt8} (h : isDigit c = true) : 0 ≤ dg c ∧ dg c ≤ 9 := by
  simp only [isDigit, Bool.and_eq_true, decide_eq_true_eq] at h
  unfold dg; omega
theorem dec_bound : ∀ {l : List UInt8}, Digits l → 0 ≤ dec l ∧ dec l < 10 ^ l.length
  | [], _ => by simp [dec]
  | c :: l, h => by
    have h1 := dec_bound (l := l) (fun x hx => h x (List.mem_cons_of_mem _ hx))
    have h2 := dg_of (h c (List.mem_cons_self ..))
    have h3 := dec_append [c] l
    have h4 : dec [c] = dg c := by simp [dec]
    rw [List.singleton_append, h4] at h3
    have h5 : 0 < (10 : Int) ^ l.length := Int.pow_pos (by decide)
    have h6 : dg c * 10 ^ l.length ≤ 9 * 10 ^ l.length := Int.mul_le_mul_of_nonneg_right h2.2 (by omega)
    have h7 : 0 ≤ dg c * 10 ^ l.length := Int.mul_nonneg h2.1 (by omega)
    simp only [List.length_cons, Int.pow_succ]
    omega
theorem take_snoc {α : Type} {l : List α} {k : Nat} (h : k < l.length) : l.take (k + 1) = l.take k ++ [l[k]] := by
  rw [List.take_add_one, List.getElem?_eq_getElem h]; rfl

/-- A chunk of at most nine digits. -/
theorem chunk_ok (ch : List UInt8) (h : Digits ch) (hl : ch.length ≤ 9) :
    ∃ r : Int × Int × Int, Go.Ql.iter (fun s : Int × Int × Int ↦ W.whole_digits.c100006 (Prod.fst s) (Prod.fst (Prod.snd s)) (List.map (fun b ↦ (↑(UInt8.toNat b) : Int)) ch) (↑(List.length (List.map (fun b ↦ (↑(UInt8.toNat b) : Int)) ch)) : Int) (Prod.snd (Prod.snd s)) Option.some) ((0 : Int), (1 : Int), (0 : Int)) = some r ∧ r.1 = dec ch ∧ r.2.1 = 10 ^ ch.length :=
  iter_loop
    (f := fun s : Int × Int × Int ↦ W.whole_digits.c100006 (Prod.fst s) (Prod.fst (Prod.snd s)) (List.map (fun b ↦ (↑(UInt8.toNat b) : Int)) ch) (↑(List.length (List.map (fun b ↦ (↑(UInt8.toNat b) : Int)) ch)) : Int) (Prod.snd (Prod.snd s)) Option.some)
    (J := fun s => ∃ k : Nat, s.2.2 = k ∧ k ≤ ch.length ∧ s.1 = dec (ch.take k) ∧ s.2.1 = 10 ^ k)
    (Q := fun r => r.1 = dec ch ∧ r.2.1 = 10 ^ ch.length)
    (fun s => ch.length - s.2.2.toNat) (fun ⟨p, q, k'⟩ ⟨k, hk, hkl, hp, hq⟩ => by
      simp only at hk hp hq ⊢
      subst hk
      simp only [W.whole_digits.c100006]
      by_cases h0 : k < ch.length
      · have hd := dg_of (h _ (List.getElem_mem h0))
        have hb := dec_bound (l := ch.take k) (fun c hc => h c (List.mem_of_mem_take hc))
        have hlen : (ch.take k).length = k := by rw [List.length_take]; omega
        rw [hlen] at hb
        have h8 : (10 : Int) ^ k ≤ 10 ^ 8 := pow_le (by decide) (by omega)
        have h9 : (0 : Int) < 10 ^ k := Int.pow_pos (by decide)
        rw [← hp] at hb
        rw [← hq] at h8 h9 hb
        have e1 : (List.map (fun b ↦ (↑(UInt8.toNat b) : Int)) ch).getD k 0 = (ch[k].toNat : Int) := by simp [List.getD, h0]
        unfold dg at hd
        refine Or.inr ⟨(_, _, _), by rw [br_pos (by simp; omega), idx_of k rfl (by simpa using h0), bnd_val, e1, show IntKind.u8.wrap ((ch[k].toNat : Int) - 48) = (ch[k].toNat : Int) - 48 from IntWalk.u8_in _ (by omega), wrap_u64 (x := (ch[k].toNat : Int) - 48) (by omega), wrap_u64 (x := p * 10) (by omega), wrap_u64 (x := q * 10) (by omega), wrap_u64 (by omega), wrap_i64 (by omega)], ⟨k + 1, by simp, by omega, ?_, ?_⟩, by show ch.length - ((k : Int) + 1).toNat < ch.length - (k : Int).toNat; omega⟩
        · simp only
          rw [take_snoc h0, dec_snoc, hp]; rfl
        · simp only
          rw [hq, Int.pow_succ]
      · have e : k = ch.length := by omega
        subst e
        rw [List.take_length] at hp
        exact Or.inl ⟨(_, _, _), by rw [br_neg (by simp)], hp, hq⟩)
    (s := ((0 : Int), (1 : Int), (0 : Int))) ⟨0, rfl, by omega, by simp [dec], by simp⟩
end Go.Ql
end

section
/- A decimal text becomes digits of base 2^32. -/
namespace Go.Ql
/-- Times a scale, and a part added. -/
theorem scale_ok (m0 : List Int) (p0 q : Int) (hm : Dig 4294967296 m0) (hp : 0 ≤ p0 ∧ p0 ≤ 1000000000) (hq : 0 ≤ q ∧ q ≤ 1000000000) (hL : m0.length < 1000000000) :
    ∃ r : Int × Int × List Int, Go.Ql.iter (fun s : Int × Int × List Int ↦ W.whole_digits.c100012 (Prod.fst s) q (↑(List.length m0) : Int) (Prod.fst (Prod.snd s)) (Prod.snd (Prod.snd s)) Option.some) (p0, (0 : Int), m0) = some r ∧
      (0 ≤ r.1 ∧ r.1 ≤ 1000000000) ∧ r.2.2.length = m0.length ∧ Dig 4294967296 r.2.2 ∧ val 4294967296 r.2.2 + r.1 * 4294967296 ^ m0.length = p0 + q * val 4294967296 m0 :=
  iter_loop
    (f := fun s : Int × Int × List Int ↦ W.whole_digits.c100012 (Prod.fst s) q (↑(List.length m0) : Int) (Prod.fst (Prod.snd s)) (Prod.snd (Prod.snd s)) Option.some)
    (J := fun s => (0 ≤ s.1 ∧ s.1 ≤ 1000000000) ∧ ∃ j : Nat, s.2.1 = j ∧ j ≤ m0.length ∧ s.2.2.length = m0.length ∧ Dig 4294967296 s.2.2 ∧ (∀ k, j ≤ k → s.2.2.getD k 0 = m0.getD k 0) ∧ val 4294967296 s.2.2 + s.1 * 4294967296 ^ j = p0 + val 4294967296 m0 + (q - 1) * val 4294967296 (m0.take j))
    (Q := fun r => (0 ≤ r.1 ∧ r.1 ≤ 1000000000) ∧ r.2.2.length = m0.length ∧ Dig 4294967296 r.2.2 ∧ val 4294967296 r.2.2 + r.1 * 4294967296 ^ m0.length = p0 + q * val 4294967296 m0)
    (fun s => m0.length - s.2.1.toNat) (fun ⟨c, j', t⟩ ⟨hc, j, hj, hjl, ht, hd, hz, hv⟩ => by
      simp only at hc hj ht hd hz hv ⊢
      subst hj
      simp only [W.whole_digits.c100012]
      by_cases h0 : j < m0.length
      · have dx := hm.getD (by decide) j
        have hxq : 0 ≤ m0.getD j 0 * q ∧ m0.getD j 0 * q ≤ 4294967295 * 1000000000 :=
          ⟨Int.mul_nonneg dx.1 hq.1, Int.le_trans (Int.mul_le_mul_of_nonneg_right (by omega : m0.getD j 0 ≤ 4294967295) hq.1) (Int.mul_le_mul_of_nonneg_left hq.2 (by decide))⟩
        have hw : IntKind.i64.wrap ((j : Int) + 1) = ((j + 1 : Nat) : Int) := by rw [wrap_i64 (by omega)]; omega
        have e1 : IntKind.u64.wrap (c + IntKind.u64.wrap (IntKind.u64.wrap (m0.getD j 0) * q)) = c + m0.getD j 0 * q := by
          rw [wrap_u64 (x := m0.getD j 0) (by omega), wrap_u64 (x := m0.getD j 0 * q) (by omega), wrap_u64 (by omega)]
        refine Or.inr ⟨(_, _, _), by rw [br_pos (by omega), inR_of (by omega) (by omega), bnd_val, idx_of j rfl (by omega), bnd_val, bnd_val, bnd_val, hz j (Nat.le_refl _), e1, hw, Int.toNat_natCast, wrap_u32_mod, Int.fdiv_eq_ediv_of_nonneg _ (by decide), show ((2 : Int) ^ (32 : Nat)) = 4294967296 from by decide], ⟨?_, j + 1, rfl, by omega, by simpa using ht, ?_, ?_, ?_⟩, by show m0.length - ((j + 1 : Nat) : Int).toNat < m0.length - (j : Int).toNat; omega⟩
        · simp only; omega
        · exact hd.set (by omega) _
        · intro k hk
          simp only
          rw [getD_set (by omega), if_neg (by omega)]
          exact hz k (by omega)
        · have v2 := val_take_succ 4294967296 j m0
          have v3 := val_set 4294967296 ((c + m0.getD j 0 * q) % 4294967296) j t (by omega)
          have v4 := hz j (Nat.le_refl _)
          have v5 : c + m0.getD j 0 * q = (c + m0.getD j 0 * q) % 4294967296 + 4294967296 * ((c + m0.getD j 0 * q) / 4294967296) := (Int.emod_add_mul_ediv _ _).symm
          simp only [Int.pow_succ]
          rw [v2, v3, v4]
          generalize (4294967296 : Int) ^ j = P at *
          generalize (c + m0.getD j 0 * q) % 4294967296 = r at *
          generalize (c + m0.getD j 0 * q) / 4294967296 = w at *
          generalize m0.getD j 0 = x at *
          grind
      · have e : j = m0.length := by omega
        subst e
        refine Or.inl ⟨(_, _, _), by rw [br_neg (by omega)], hc, ht, hd, ?_⟩
        rw [List.take_length] at hv
        simp only
        grind)
    (s := (p0, (0 : Int), m0)) ⟨hp, 0, rfl, by omega, rfl, hm, fun _ _ => rfl, by simp [val]; omega⟩

theorem digits_ok (ds : List UInt8) (h : Digits ds) (hl : ds.length ≤ 1000) :
    ∃ t, W.whole_digits ds = some t ∧ Dig 4294967296 t ∧ t.length ≤ ds.length ∧ val 4294967296 t = dec ds := by
  obtain ⟨⟨rest, t⟩, h1, hd, ht, hv⟩ := iter_loop
    (f := fun s : List UInt8 × List Int ↦ W.whole_digits.c100002 (Prod.fst s) (Prod.snd s) Option.some)
    (J := fun s => ∃ k : Nat, k ≤ ds.length ∧ s.1 = ds.drop k ∧ s.2.length ≤ k ∧ Dig 4294967296 s.2 ∧ val 4294967296 s.2 = dec (ds.take k))
    (Q := fun r => Dig 4294967296 r.2 ∧ r.2.length ≤ ds.length ∧ val 4294967296 r.2 = dec ds)
    (fun s => s.1.length) (fun ⟨text, m⟩ ⟨k, hk, htx, hml, hd, hv⟩ => by
      simp only at htx hml hd hv ⊢
      have hlen : text.length = ds.length - k := by rw [htx, List.length_drop]
      have hdt : Digits text := fun c hc => h c (by rw [htx] at hc; exact List.mem_of_mem_drop hc)
      simp only [W.whole_digits.c100002]
      by_cases h0 : text.length = 0
      · refine Or.inl ⟨(_, _), by rw [br_neg (by omega)], hd, by simp only; omega, ?_⟩
        simp only
        rw [hv, List.take_of_length_le (by omega)]
      · obtain ⟨n, hn⟩ : ∃ n : Nat, n = (text.length - 1) % 9 + 1 := ⟨_, rfl⟩
        have en : IntKind.i64.wrap (Int.tmod (IntKind.i64.wrap ((text.length : Int) - 1)) 9 + 1) = (n : Int) := by
          rw [wrap_i64 (x := (text.length : Int) - 1) (by omega), tmod_pos (by omega), wrap_i64 (by omega)]; omega
        have hn1 : 1 ≤ n ∧ n ≤ 9 ∧ n ≤ text.length := by omega
        rw [br_pos (by omega), en, Int.toNat_natCast, Int.toNat_natCast, List.take_length]
        obtain ⟨⟨p, q, j⟩, h2, h3, h4⟩ := chunk_ok (text.take n) (fun c hc => hdt c (List.mem_of_mem_take hc)) (by rw [List.length_take]; omega)
        simp only at h3 h4
        have hcl : (text.take n).length = n := by rw [List.length_take]; omega
        have hb := dec_bound (l := text.take n) (fun c hc => hdt c (List.mem_of_mem_take hc))
        rw [hcl] at hb h4
        have h9 : (10 : Int) ^ n ≤ 10 ^ 9 := pow_le (by decide) (by omega)
        have h10 : (0 : Int) < 10 ^ n := Int.pow_pos (by decide)
        have h11 : (10 : Int) ^ 9 = 1000000000 := by decide
        obtain ⟨⟨p', j', m'⟩, h5, h6, h7, h8, hv'⟩ := scale_ok m p q hd (by omega) (by omega) (by omega)
        simp only at h6 h7 h8 hv'
        rw [okIf_true (by simp; omega), bnd_val, okIf_true (by simp; omega), bnd_val, h2, bnd_val, okIf_true (by simp; omega), bnd_val]
        simp only
        rw [h5, bnd_val]
        have hdec : dec (ds.take (k + n)) = dec (ds.take k) * 10 ^ n + dec (text.take n) := by
          rw [List.take_add, dec_append, htx, List.length_take, List.length_drop, Nat.min_eq_left (by omega)]
        have hdrop : text.drop n = ds.drop (k + n) := by rw [htx, List.drop_drop]
        rw [hdrop]
        by_cases hp : p' > 0
        · refine Or.inr ⟨(_, _), by rw [br_pos hp, okIf_true (by simp; omega), bnd_val, wrap_u32 (by omega)], ⟨k + n, by omega, rfl, by simp; omega, h8.append (Dig.cons (by omega) Dig.nil), ?_⟩, by simp only [List.length_drop]; omega⟩
          simp only
          rw [val_snoc, hdec, ← h3, ← h4, ← hv, h7]
          grind
        · refine Or.inr ⟨(_, _), by rw [br_neg hp], ⟨k + n, by omega, rfl, by simp only; omega, h8, ?_⟩, by simp only [List.length_drop]; omega⟩
          have : p' = 0 := by omega
          subst this
          simp only
          rw [hdec, ← h3, ← h4, ← hv]
          grind)
    (s := (ds, [])) ⟨0, by omega, rfl, by simp, Dig.nil, by simp [val, dec]⟩
  unfold W.whole_digits
  rw [h1]
  exact ⟨t, rfl, hd, ht, hv⟩
end Go.Ql
end

section
/- A decimal text becomes digits of base 10000. -/
namespace Go.Ql
theorem four_ok (text : List UInt8) (h : Digits text) (i : Nat) (hi : i ≤ text.length) (hL : text.length ≤ 1000000) :
    ∃ r : Int × Int, Go.Ql.iter (fun s : Int × Int ↦ W.R_zread.c100010 text (i : Int) (Prod.fst s) (Prod.snd s) Option.some) ((0 : Int), (i : Int) - 4) = some r ∧ r.1 = dec ((text.take i).drop (i - 4)) :=
  iter_loop
    (f := fun s : Int × Int ↦ W.R_zread.c100010 text (i : Int) (Prod.fst s) (Prod.snd s) Option.some)
    (J := fun s => (i : Int) - 4 ≤ s.2 ∧ s.2 ≤ i ∧ s.1 = dec ((text.take s.2.toNat).drop (i - 4)))
    (Q := fun r => r.1 = dec ((text.take i).drop (i - 4)))
    (fun s => ((i : Int) - s.2).toNat) (fun ⟨n, j⟩ ⟨h1, h2, h3⟩ => by
      simp only at h1 h2 h3 ⊢
      simp only [W.R_zread.c100010]
      by_cases h0 : j < i
      · have hw : IntKind.i64.wrap (j + 1) = j + 1 := wrap_i64 (by omega)
        by_cases h4 : 0 ≤ j
        · obtain ⟨k, rfl⟩ : ∃ k : Nat, j = k := ⟨j.toNat, by omega⟩
          rw [Int.toNat_natCast] at h3
          have hk : k < text.length := by omega
          have hd := dg_of (h _ (List.getElem_mem hk))
          have hb := dec_bound (l := (text.take k).drop (i - 4)) (fun c hc => h c (List.mem_of_mem_take (List.mem_of_mem_drop hc)))
          have h8 : (10 : Int) ^ ((text.take k).drop (i - 4)).length ≤ 10 ^ 4 := pow_le (by decide) (by rw [List.length_drop, List.length_take]; omega)
          have h9 : (10 : Int) ^ 4 = 10000 := by decide
          rw [← h3] at hb
          unfold dg at hd
          have e : W.R_zread.c249158 text n (k : Int) Option.some = some (n * 10 + ((text[k].toNat : Int) - 48)) := by
            unfold W.R_zread.c249158
            rw [br_pos (by omega), idx_text _ k hk, bnd_val, show IntKind.u8.wrap ((text[k].toNat : Int) - 48) = (text[k].toNat : Int) - 48 from IntWalk.u8_in _ (by omega), wrap_i64 (x := (text[k].toNat : Int) - 48) (by omega), wrap_i64 (x := n * 10) (by omega), wrap_i64 (by omega)]
          refine Or.inr ⟨(_, _), by rw [br_pos h0, e, bnd_val, hw], ⟨by simp only; omega, by simp only; omega, ?_⟩, by simp only; omega⟩
          simp only
          rw [show ((k : Int) + 1).toNat = k + 1 by omega, take_snoc hk, List.drop_append_of_le_length (by rw [List.length_take]; omega), dec_snoc, h3]; rfl
        · have e : W.R_zread.c249158 text n j Option.some = some n := by
            unfold W.R_zread.c249158
            rw [br_neg (by omega)]
          refine Or.inr ⟨(_, _), by rw [br_pos h0, e, bnd_val, hw], ⟨by simp only; omega, by simp only; omega, ?_⟩, by simp only; omega⟩
          simp only
          rw [h3, show j.toNat = 0 by omega, show (j + 1).toNat = 0 by omega]
      · refine Or.inl ⟨(_, _), by rw [br_neg h0], ?_⟩
        simp only
        rw [h3, show j.toNat = i by omega])
    (s := ((0 : Int), (i : Int) - 4)) ⟨by simp, by simp only; omega, by
      simp only
      rw [show ((i : Int) - 4).toNat = i - 4 by omega, List.drop_of_length_le (by rw [List.length_take]; omega)]; rfl⟩
end Go.Ql
end

section
/- The reference's reader. -/
namespace Go.Ql
theorem zdigits_ok (text : List UInt8) (h : Digits text) (hL : text.length ≤ 1000) :
    ∃ r : Int × List Int, Go.Ql.iter (fun s : Int × List Int ↦ W.R_zread.c100006 text (Prod.fst s) (Prod.snd s) Option.some) ((text.length : Int), []) = some r ∧ Dig 10000 r.2 ∧ r.2.length ≤ text.length ∧ val 10000 r.2 = dec text :=
  iter_loop
    (f := fun s : Int × List Int ↦ W.R_zread.c100006 text (Prod.fst s) (Prod.snd s) Option.some)
    (J := fun s => s.1 = (text.length : Int) - 4 * s.2.length ∧ -4 < s.1 ∧ Dig 10000 s.2 ∧ s.2.length ≤ text.length ∧ dec text = dec (text.take s.1.toNat) * 10000 ^ s.2.length + val 10000 s.2)
    (Q := fun r => Dig 10000 r.2 ∧ r.2.length ≤ text.length ∧ val 10000 r.2 = dec text)
    (fun s => s.1.toNat) (fun ⟨i', d⟩ ⟨h1, h2, h3, h4, h5⟩ => by
      simp only at h1 h2 h3 h4 h5 ⊢
      simp only [W.R_zread.c100006]
      by_cases h0 : i' > 0
      · obtain ⟨i, rfl⟩ : ∃ k : Nat, i' = k := ⟨i'.toNat, by omega⟩
        rw [Int.toNat_natCast] at h5
        have hi : i ≤ text.length := by omega
        obtain ⟨⟨n, j⟩, h6, h7⟩ := four_ok text h i hi (by omega)
        simp only at h7
        have hdg : Digits ((text.take i).drop (i - 4)) := fun c hc => h c (List.mem_of_mem_take (List.mem_of_mem_drop hc))
        have hb := dec_bound hdg
        have h8 : (10 : Int) ^ ((text.take i).drop (i - 4)).length ≤ 10 ^ 4 := pow_le (by decide) (by rw [List.length_drop, List.length_take]; omega)
        have h9 : (10 : Int) ^ 4 = 10000 := by decide
        rw [← h7] at hb
        have hdec : dec (text.take i) = dec (text.take (i - 4)) * 10000 + n := by
          have e1 : text.take i = (text.take i).take (i - 4) ++ (text.take i).drop (i - 4) := (List.take_append_drop _ _).symm
          rw [e1, dec_append, ← h7, List.take_take, Nat.min_eq_left (by omega)]
          by_cases h10 : 4 ≤ i
          · rw [show ((text.take i).drop (i - 4)).length = 4 by rw [List.length_drop, List.length_take]; omega]; rfl
          · rw [show i - 4 = 0 by omega]; simp [dec]
        rw [br_pos h0, wrap_i64 (x := (i : Int) - 4) (by omega), h6, bnd_val]
        refine Or.inr ⟨(_, _), by rw [okIf_true (by simp; omega), bnd_val], ⟨by simp; omega, by simp only; omega, h3.append (Dig.cons (by simp only; omega) Dig.nil), by simp; omega, ?_⟩, by simp only; omega⟩
        simp only [List.length_append, List.length_singleton, Int.pow_succ]
        rw [val_snoc, show ((i : Int) - 4).toNat = i - 4 by omega, h5, hdec]
        generalize (10000 : Int) ^ d.length = P at *
        grind
      · refine Or.inl ⟨(_, _), by rw [br_neg h0], h3, h4, ?_⟩
        rw [show i'.toNat = 0 by omega, show dec (text.take 0) = 0 from rfl] at h5
        simp only
        omega)
    (s := ((text.length : Int), [])) ⟨by simp, by simp only; omega, Dig.nil, by simp, by simp [val]⟩
end Go.Ql
end

section
/- Both parsers say the same fault and the same number. -/
namespace Go.Ql
theorem trim_ok (text : List UInt8) (hL : text.length ≤ 9223372036854775807) : W.strings_TrimPrefix text [45] = some (if text.head? = some 45 then text.drop 1 else text) := by
  unfold W.strings_TrimPrefix W.stringslite_TrimPrefix
  have h1 := hasPrefix1 text 45
  unfold W.strings_HasPrefix at h1
  have h2 : W.stringslite_HasPrefix text [45] = some (text.head? == some 45) := by
    revert h1
    cases W.stringslite_HasPrefix text [45] with
    | none => intro h; cases h
    | some y => intro h; exact h
  rw [h2, bnd_val]
  by_cases h : text.head? = some 45
  · rw [if_pos h, br_true (beq_iff_eq.2 h)]
    have h3 : 1 ≤ text.length := by cases text with | nil => simp at h | cons => simp
    rw [okIf_true (by simp; omega), bnd_val, bnd_val]
    simp
  · rw [if_neg h, br_false (beq_false_of_ne h), bnd_val]
theorem Canon.parts {text : List UInt8} (h : Canon text) : ∃ (neg : Bool) (ds : List UInt8), ds ≠ [] ∧ Digits ds ∧ text = (if neg then [45] else []) ++ ds := by
  rcases h with rfl | ⟨neg, ds, h1, h2, _, h4⟩
  · exact ⟨false, [48], by simp, fun c hc => by simp at hc; subst hc; rfl, rfl⟩
  · exact ⟨neg, ds, h1, h2, h4⟩
theorem head_digit {ds : List UInt8} (h : Digits ds) : ds.head? ≠ some 45 := by
  intro e
  cases ds with
  | nil => simp at e
  | cons c l =>
    simp at e
    have := h c (List.mem_cons_self ..)
    rw [e] at this
    exact absurd this (by decide)
/-- The test for a sign. -/
theorem sign_test (text : List UInt8) : W.R_zread.c1 text Option.some = some (text.head? == some 45) ∧ W.R_digitsOf.c1 text Option.some = some (text.head? == some 45) := by
  have key : W.R_zread.c1 text Option.some = some (text.head? == some 45) := by
    unfold W.R_zread.c1
    cases text with
    | nil => rfl
    | cons c l =>
      rw [br_pos (by simp <;> omega), show ((0 : Int)) = ((0 : Nat) : Int) from rfl, idx_text _ 0 (by simp), bnd_val]
      simp only [List.head?_cons, List.getElem_cons_zero]
      congr 1
      by_cases h5 : c = 45
      · subst h5; rfl
      · have h6 : (some c == some 45) = false := beq_false_of_ne (by simpa using h5)
        rw [h6]
        apply beq_false_of_ne
        intro e
        apply h5
        apply UInt8.toNat_inj.1
        show c.toNat = 45
        omega
  exact ⟨key, key⟩

theorem parse_ok (text : List UInt8) (hL : text.length ≤ 9223372036854775807) :
    ∃ x z v f, W.whole_Parse text = some (x, f) ∧ W.R_ZParse text = some (z, f) ∧ Rep 4294967296 x v ∧ Rep 10000 z v ∧ x.2.length ≤ 1000 ∧ z.2.length ≤ 1000 := by
  obtain ⟨n, ok, h1, h2, h3⟩ := word_ok text hL
  have e0 : Rep 4294967296 (false, []) 0 := ⟨Dig.nil, by simp, by simp, by simp [val]⟩
  have z0 : Rep 10000 (false, []) 0 := ⟨Dig.nil, by simp, by simp, by simp [val]⟩
  have c2 : W.whole_Parse.c2 text (n : Int) ok Option.some = some (!ok || decide (n < text.length)) ∧ W.R_ZParse.c2 text (n : Int) ok Option.some = some (!ok || decide (n < text.length)) := by
    unfold W.whole_Parse.c2 W.R_ZParse.c2
    cases ok <;> simp [br]
  unfold W.whole_Parse W.R_ZParse
  rw [h1, h2]
  simp only [bnd_val]
  rw [c2.1, c2.2]
  simp only [bnd_val]
  by_cases hbad : (!ok || decide (n < text.length)) = true
  · rw [br_true hbad, br_true hbad]
    exact ⟨_, _, 0, _, rfl, rfl, e0, z0, by simp, by simp⟩
  rw [br_false (eq_false_of_ne_true hbad), br_false (eq_false_of_ne_true hbad)]
  have hg : ok = true ∧ text.length ≤ n := by
    cases ok <;> simp at hbad ⊢
    exact hbad
  obtain ⟨neg, ds, p1, p2, p3⟩ := (h3 hg.1 hg.2).parts
  have hh : (text.head? == some 45) = neg := by
    rw [p3]
    cases neg
    · exact beq_false_of_ne (head_digit p2)
    · rfl
  have hlen : text.length = (if neg then 1 else 0) + ds.length := by rw [p3]; cases neg <;> simp <;> omega
  have htrim : W.strings_TrimPrefix text (Array.toList (ByteArray.data (ByteArray.mk #[(45 : UInt8)]))) = some ds := by
    show W.strings_TrimPrefix text [45] = some ds
    rw [trim_ok text hL]
    cases neg
    · rw [if_neg (by simpa using hh), p3]; rfl
    · rw [if_pos (by simpa using hh), p3]; rfl
  have hdo : W.R_digitsOf text = some (ds.length : Int) := by
    unfold W.R_digitsOf
    rw [(sign_test text).2, bnd_val, hh]
    cases neg
    · rw [br_ff, hlen]; simp
    · rw [br_tt, wrap_i64 (by omega), hlen]; simp; omega
  rw [htrim, hdo]
  simp only [bnd_val]
  by_cases hlong : (ds.length : Int) > 1000
  · rw [br_pos hlong, br_pos hlong]
    exact ⟨_, _, 0, _, rfl, rfl, e0, z0, by simp, by simp⟩
  rw [br_neg hlong, br_neg hlong]
  obtain ⟨m, q1, q2, q3, q4⟩ := digits_ok ds p2 (by omega)
  obtain ⟨r, s1, s2, s3⟩ := made_ok (decide ((ds.length : Int) < (text.length : Int))) m q2 (by omega)
  have hneg : decide ((ds.length : Int) < (text.length : Int)) = neg := by
    rw [hlen]; cases neg <;> simp <;> omega
  obtain ⟨w, t1, t2, t3, t4⟩ := zdigits_ok ds p2 (by omega)
  obtain ⟨z, u1, u2, u3⟩ := zmade_ok neg w.2 t2 (by omega)
  refine ⟨r, z, if neg then - dec ds else dec ds, (0, 0), by rw [q1, bnd_val, s1]; rfl, ?_, by rw [hneg, q4] at s2; exact s2, by rw [t4] at u2; exact u2, by omega, by omega⟩
  have hz : W.R_zread text = some z := by
    unfold W.R_zread
    rw [(sign_test text).1, bnd_val, hh]
    have : W.R_zread.c208197 text neg Option.some = some ds := by
      unfold W.R_zread.c208197
      cases neg
      · rw [br_ff, p3]; rfl
      · rw [br_tt, okIf_true (by rw [hlen]; simp; omega), bnd_val, Int.toNat_natCast, List.take_length, p3]; rfl
    rw [this, bnd_val, t1, bnd_val, u1]; rfl
  rw [hz]; rfl
end Go.Ql
end
