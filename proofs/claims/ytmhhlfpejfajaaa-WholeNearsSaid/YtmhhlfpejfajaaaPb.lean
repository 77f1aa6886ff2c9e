/- Plain laws: differences, order, products. -/
import Derived.Test.YtmhhlfpejfajaaaPa
section
/- Differences of words, and the order of magnitudes. -/
namespace Go.Ql
theorem bv_back (a : BitVec 32) : BitVec.ofInt IntKind.u32.bits ((a.toNat : Nat) : Int) = a := by
  show BitVec.ofInt 32 ((a.toNat : Nat) : Int) = a
  rw [BitVec.ofInt_natCast, BitVec.ofNat_toNat, BitVec.setWidth_eq]
theorem wrap_bv (a : BitVec 32) : IntKind.u32.wrap ((a.toNat : Nat) : Int) = a.toNat := wrap_u32 (by have := a.isLt; omega)
theorem ior32 (a b : BitVec 32) : ibits .or .u32 (a.toNat : Int) (b.toNat : Int) = ((a ||| b).toNat : Int) := by
  simp only [ibits, bv_back]; exact wrap_bv (a ||| b)
theorem iand32 (a b : BitVec 32) : ibits .and .u32 (a.toNat : Int) (b.toNat : Int) = ((a &&& b).toNat : Int) := by
  simp only [ibits, bv_back]; exact wrap_bv (a &&& b)
theorem ixor32 (a b : BitVec 32) : ibits .xor .u32 (a.toNat : Int) (b.toNat : Int) = ((a ^^^ b).toNat : Int) := by
  simp only [ibits, bv_back]; exact wrap_bv (a ^^^ b)
theorem msb_top (a : BitVec 32) : a.toNat / 2147483648 = a.msb.toNat := by
  rw [BitVec.msb_eq_decide]
  have := a.isLt
  by_cases h : 2 ^ (32 - 1) ≤ a.toNat
  · simp only [h, decide_true, Bool.toNat_true]; omega
  · simp only [h, decide_false, Bool.toNat_false]; omega

theorem sub32_ok {x y c : Int} (hx : 0 ≤ x ∧ x < 4294967296) (hy : 0 ≤ y ∧ y < 4294967296) (hc : 0 ≤ c ∧ c ≤ 1) :
    W.bits_Sub32 x y c = some ((x - y - c) % 4294967296, -((x - y - c) / 4294967296)) := by
  unfold W.bits_Sub32
  have hd : IntKind.u32.wrap (IntKind.u32.wrap (x - y) - c) = (x - y - c) % 4294967296 := by
    rw [wrap_u32_mod, wrap_u32_mod]; omega
  rw [hd]
  obtain ⟨X, rfl⟩ : ∃ X : BitVec 32, x = X.toNat := ⟨BitVec.ofNat 32 x.toNat, by rw [BitVec.toNat_ofNat]; omega⟩
  obtain ⟨Y, rfl⟩ : ∃ Y : BitVec 32, y = Y.toNat := ⟨BitVec.ofNat 32 y.toNat, by rw [BitVec.toNat_ofNat]; omega⟩
  obtain ⟨D, hD⟩ : ∃ D : BitVec 32, ((X.toNat : Int) - Y.toNat - c) % 4294967296 = D.toNat := ⟨BitVec.ofNat 32 (((X.toNat : Int) - Y.toNat - c) % 4294967296).toNat, by rw [BitVec.toNat_ofNat]; omega⟩
  rw [hD]
  have h1 : (Int.ofNat (2 ^ 32 - Nat.succ 0)) = ((BitVec.allOnes 32).toNat : Int) := by decide
  congr 2
  rw [show (Int.ofNat (nat_lit 2 ^ (32 : Nat) - Nat.succ (nat_lit 0))) = ((BitVec.allOnes 32).toNat : Int) from h1]
  simp only [ixor32, iand32, ior32]
  rw [Int.fdiv_eq_ediv_of_nonneg _ (by decide), show ((2 : Int) ^ (31 : Nat)) = ((2147483648 : Nat) : Int) from by decide, ← Int.natCast_ediv, msb_top]
  simp only [BitVec.msb_or, BitVec.msb_and, BitVec.allOnes_xor, BitVec.msb_not, BitVec.msb_xor]
  have mx := msb_top X
  have my := msb_top Y
  have md := msb_top D
  have := X.isLt
  have := Y.isLt
  have := D.isLt
  revert mx my md
  cases X.msb <;> cases Y.msb <;> cases D.msb <;> simp <;> omega

theorem less_ok (a b : List Int) (ha : Dig 4294967296 a) (hb : Dig 4294967296 b) (la : a.length < 1000000000) (lb : b.length ≤ a.length) (hab : val 4294967296 b ≤ val 4294967296 a) :
    ∃ t, W.whole_less a b = some t ∧ Dig 4294967296 t ∧ t.length = a.length ∧ val 4294967296 t = val 4294967296 a - val 4294967296 b := by
  obtain ⟨⟨c, i, t⟩, h1, hc, ht, hd, hv⟩ := iter_loop
    (f := fun s : Int × Int × List Int ↦ W.whole_less.c100004 b (Prod.fst s) a (a.length : Int) (Prod.fst (Prod.snd s)) (Prod.snd (Prod.snd s)) Option.some)
    (J := fun s => (0 ≤ s.1 ∧ s.1 ≤ 1) ∧ ∃ i : Nat, s.2.1 = i ∧ i ≤ a.length ∧ s.2.2.length = a.length ∧ Dig 4294967296 s.2.2 ∧ (∀ j, i ≤ j → s.2.2.getD j 0 = 0) ∧ val 4294967296 s.2.2 = val 4294967296 (a.take i) - val 4294967296 (b.take i) + s.1 * 4294967296 ^ i)
    (Q := fun s => (0 ≤ s.1 ∧ s.1 ≤ 1) ∧ s.2.2.length = a.length ∧ Dig 4294967296 s.2.2 ∧ val 4294967296 s.2.2 = val 4294967296 a - val 4294967296 b + s.1 * 4294967296 ^ a.length)
    (fun s => a.length - s.2.1.toNat) (fun ⟨c, i', t⟩ ⟨hc, i, hi, hil, ht, hd, hz, hv⟩ => by
      simp only at hc hi ht hd hz hv ⊢
      subst hi
      simp only [W.whole_less.c100004]
      by_cases h0 : i < a.length
      · have e2 : W.whole_less.c228677 b (i : Int) 0 Option.some = some (b.getD i 0) := by
          unfold W.whole_less.c228677
          by_cases hb' : i < b.length
          · rw [br_pos (by omega), idx_of i rfl hb']; rfl
          · rw [br_neg (by omega), getD_out (by omega)]
        have dx := ha.getD (by decide) i
        have dy := hb.getD (by decide) i
        have hw : IntKind.i64.wrap ((i : Int) + 1) = ((i + 1 : Nat) : Int) := by rw [wrap_i64 (by omega)]; omega
        refine Or.inr ⟨(_, _, _), by rw [br_pos (by omega), idx_of i rfl h0, bnd_val, e2, bnd_val, sub32_ok dx dy hc, bnd_val, inR_of (by omega) (by omega), bnd_val, idx_of i rfl (by omega), bnd_val, hw, Int.toNat_natCast], ⟨?_, i + 1, rfl, by omega, by simpa using ht, ?_, ?_, ?_⟩, by show a.length - ((i + 1 : Nat) : Int).toNat < a.length - (i : Int).toNat; omega⟩
        · simp only; omega
        · exact hd.set (by simp only; omega) i
        · intro j hj
          simp only
          rw [getD_set (by omega), if_neg (by omega)]
          exact hz j (by omega)
        · have v1 := val_take_succ 4294967296 i a
          have v2 := val_take_succ 4294967296 i b
          have v3 := val_set 4294967296 ((a.getD i 0 - b.getD i 0 - c) % 4294967296) i t (by omega)
          have v4 := hz i (Nat.le_refl _)
          have v5 : a.getD i 0 - b.getD i 0 - c = (a.getD i 0 - b.getD i 0 - c) % 4294967296 + 4294967296 * ((a.getD i 0 - b.getD i 0 - c) / 4294967296) := (Int.emod_add_mul_ediv _ _).symm
          simp only [Int.pow_succ]
          rw [v1, v2, v3, v4]
          generalize (4294967296 : Int) ^ i = P at *
          generalize (a.getD i 0 - b.getD i 0 - c) % 4294967296 = r at *
          generalize (a.getD i 0 - b.getD i 0 - c) / 4294967296 = q at *
          generalize a.getD i 0 = x at *
          generalize b.getD i 0 = y at *
          grind
      · have e : i = a.length := by omega
        subst e
        refine Or.inl ⟨(_, _, _), by rw [br_neg (by omega)], hc, ht, hd, ?_⟩
        rw [val_take_len _ (Nat.le_refl _), val_take_len _ lb] at hv
        exact hv)
    (s := ((0 : Int), (0 : Int), List.replicate (Int.toNat (a.length : Int)) (0 : Int)))
    ⟨by simp, 0, rfl, by omega, by simp, Dig.replicate (by decide) _, fun j _ => getD_replicate _ _, by simp [val_replicate, val]⟩
  unfold W.whole_less
  rw [okIf_true (by simp; omega), bnd_val, h1]
  simp only at hc hd ht hv
  have h2 := val_lt (by decide) hd
  rw [ht] at h2
  have hc0 : c = 0 := by
    rcases (by omega : c = 0 ∨ c = 1) with h | h
    · exact h
    · subst h; omega
  subst hc0
  exact ⟨t, rfl, hd, ht, by omega⟩
end Go.Ql
end

section
/- The order of magnitudes. -/
namespace Go.Ql
theorem cmp_ok (x y : Int) : W.cmp_Compare_int x y = some (if x < y then -1 else if y < x then 1 else 0) := by
  unfold W.cmp_Compare_int W.cmp_isNaN_int
  simp only [bnd_val, bne_self_eq_false, br_ff]
  by_cases h : x < y
  · rw [br_pos h, if_pos h]
  · rw [br_neg h, if_neg h]
    by_cases h2 : y < x
    · rw [br_pos h2, if_pos h2]
    · rw [br_neg h2, if_neg h2]
theorem cmp32_ok (x y : Int) : W.cmp_Compare_uint32 x y = some (if x < y then -1 else if y < x then 1 else 0) := by
  unfold W.cmp_Compare_uint32 W.cmp_isNaN_uint32
  simp only [bnd_val, bne_self_eq_false, br_ff]
  by_cases h : x < y
  · rw [br_pos h, if_pos h]
  · rw [br_neg h, if_neg h]
    by_cases h2 : y < x
    · rw [br_pos h2, if_pos h2]
    · rw [br_neg h2, if_neg h2]

def Trim (l : List Int) : Prop := l ≠ [] → l.getD (l.length - 1) 0 ≠ 0
theorem val_ge {B : Int} (hB : 1 < B) {l : List Int} (h : Dig B l) (ht : Trim l) (hn : l ≠ []) : B ^ (l.length - 1) ≤ val B l := by
  have h0 : l.length ≠ 0 := fun e => hn (List.eq_nil_of_length_eq_zero e)
  have h1 := val_take_succ B (l.length - 1) l
  rw [show l.length - 1 + 1 = l.length by omega, List.take_length] at h1
  have h2 := h.getD (by omega) (l.length - 1)
  have h3 := ht hn
  have h4 := val_nonneg (by omega) (h.take (l.length - 1))
  have h5 : B ^ (l.length - 1) * 1 ≤ B ^ (l.length - 1) * l.getD (l.length - 1) 0 := Int.mul_le_mul_of_nonneg_left (by omega) (Int.le_of_lt (Int.pow_pos (by omega)))
  omega
theorem pow_le {B : Int} (hB : 1 < B) {m n : Nat} (h : m ≤ n) : B ^ m ≤ B ^ n := by
  induction n with
  | zero => rw [show m = 0 by omega]; exact Int.le_refl _
  | succ n ih =>
    by_cases e : m = n + 1
    · rw [e]; exact Int.le_refl _
    · have h1 := ih (by omega)
      have h2 : 0 < B ^ n := Int.pow_pos (by omega)
      rw [Int.pow_succ]
      have h3 : B ^ n * 1 ≤ B ^ n * B := Int.mul_le_mul_of_nonneg_left (by omega) (by omega)
      omega
theorem val_lt_of_len {B : Int} (hB : 1 < B) {a b : List Int} (ha : Dig B a) (hb : Dig B b) (tb : Trim b) (h : a.length < b.length) : val B a < val B b := by
  have h1 := val_lt (by omega) ha
  have h2 := val_ge hB hb tb (by intro e; rw [e] at h; simp at h)
  have h3 := pow_le hB (show a.length ≤ b.length - 1 by omega)
  omega
theorem len_le {B : Int} (hB : 1 < B) {a b : List Int} (ha : Dig B a) (hb : Dig B b) (tb : Trim b) (h : val B b ≤ val B a) : b.length ≤ a.length := by
  by_cases h1 : b.length ≤ a.length
  · exact h1
  · have := val_lt_of_len hB ha hb tb (by omega); omega
/-- The highest place at which two numbers differ tells which is less. -/
theorem top_lt {B : Int} (hB : 1 < B) {a b : List Int} (ha : Dig B a) (hb : Dig B b) (k : Nat) (h : a.getD k 0 < b.getD k 0) : val B (a.take (k + 1)) < val B (b.take (k + 1)) := by
  have h1 := val_take_succ B k a
  have h2 := val_take_succ B k b
  have h3 := val_lt (by omega) (ha.take k)
  have h4 := val_nonneg (by omega) (hb.take k)
  have h5 := pow_le hB (show (a.take k).length ≤ k by rw [List.length_take]; omega)
  have h6 : B ^ k * (a.getD k 0 + 1) ≤ B ^ k * b.getD k 0 := Int.mul_le_mul_of_nonneg_left (by omega) (Int.le_of_lt (Int.pow_pos (by omega)))
  rw [Int.mul_add] at h6
  omega

def Ordered (x y c : Int) : Prop := (c = -1 ∧ x < y) ∨ (c = 0 ∧ x = y) ∨ (c = 1 ∧ y < x)

theorem order_ok (a b : List Int) (ha : Dig 4294967296 a) (hb : Dig 4294967296 b) (ta : Trim a) (tb : Trim b) (la : a.length < 1000000000) (lb : b.length < 1000000000) :
    ∃ c, W.whole_order a b = some c ∧ Ordered (val 4294967296 a) (val 4294967296 b) c := by
  unfold W.whole_order
  rw [cmp_ok, bnd_val]
  by_cases h1 : a.length < b.length
  · rw [if_pos (by omega)]
    exact ⟨_, rfl, Or.inl ⟨rfl, val_lt_of_len (by decide) ha hb tb h1⟩⟩
  rw [if_neg (by omega)]
  by_cases h2 : b.length < a.length
  · rw [if_pos (by omega)]
    exact ⟨_, rfl, Or.inr (Or.inr ⟨rfl, val_lt_of_len (by decide) hb ha ta h2⟩)⟩
  rw [if_neg (by omega)]
  have hl : a.length = b.length := by omega
  obtain ⟨r, h3, h4⟩ := iter_loop (f := fun s : Int ↦ W.whole_order.c100005 a b s Option.some)
    (J := fun i => ∃ k : Nat, i = (k : Int) - 1 ∧ k ≤ a.length ∧ val 4294967296 a - val 4294967296 b = val 4294967296 (a.take k) - val 4294967296 (b.take k))
    (Q := fun r => Ordered (val 4294967296 a) (val 4294967296 b) (match r with | .inl u => u.1 | .inr _ => 0))
    (fun i => (i + 1).toNat) (fun i ⟨k, hi, hk, hv⟩ => by
      subst hi
      simp only [W.whole_order.c100005]
      by_cases h0 : k = 0
      · subst h0
        rw [br_neg (by omega)]
        refine Or.inl ⟨_, rfl, Or.inr (Or.inl ⟨rfl, ?_⟩)⟩
        simp [val] at hv
        omega
      · rw [br_pos (by omega)]
        have e7 : W.whole_order.c7 a b ((k : Int) - 1) Option.some = some (if a.getD (k - 1) 0 < b.getD (k - 1) 0 then -1 else if b.getD (k - 1) 0 < a.getD (k - 1) 0 then 1 else 0) := by
          unfold W.whole_order.c7
          rw [idx_of (k - 1) (by omega) (by omega), bnd_val, idx_of (k - 1) (by omega) (by omega), bnd_val, cmp32_ok, bnd_val]
        rw [e7, bnd_val]
        have hk1 : k - 1 + 1 = k := by omega
        by_cases h5 : a.getD (k - 1) 0 < b.getD (k - 1) 0
        · have h6 := top_lt (by decide) ha hb (k - 1) h5
          rw [hk1] at h6
          rw [if_pos h5]
          exact Or.inl ⟨_, rfl, Or.inl ⟨rfl, by omega⟩⟩
        · rw [if_neg h5]
          by_cases h7 : b.getD (k - 1) 0 < a.getD (k - 1) 0
          · have h6 := top_lt (by decide) hb ha (k - 1) h7
            rw [hk1] at h6
            rw [if_pos h7]
            exact Or.inl ⟨_, rfl, Or.inr (Or.inr ⟨rfl, by omega⟩)⟩
          · rw [if_neg h7]
            refine Or.inr ⟨(k : Int) - 1 - 1, ?_, ⟨k - 1, by omega, by omega, ?_⟩, by omega⟩
            · show some (Sum.inl (IntKind.i64.wrap ((k : Int) - 1 - 1))) = _
              rw [wrap_i64 (by omega)]
            · have v1 := val_take_succ 4294967296 (k - 1) a
              have v2 := val_take_succ 4294967296 (k - 1) b
              have v3 : a.getD (k - 1) 0 = b.getD (k - 1) 0 := by omega
              rw [hk1] at v1 v2
              rw [v3] at v1
              omega)
    (s := (a.length : Int) - 1) ⟨a.length, rfl, Nat.le_refl _, by rw [val_take_len _ (Nat.le_refl _), val_take_len _ (by omega)]⟩
  rw [wrap_i64 (by omega)]
  refine ⟨_, ?_, h4⟩
  show bnd (iter _ _) _ = _
  rw [h3, bnd_val]
  cases r <;> rfl

theorem dcmp_ok (a b : List Int) (ha : Dig 10000 a) (hb : Dig 10000 b) (ta : Trim a) (tb : Trim b) (la : a.length < 1000000000) (lb : b.length < 1000000000) :
    ∃ c, W.R_dcmp a b = some c ∧ Ordered (val 10000 a) (val 10000 b) c := by
  unfold W.R_dcmp
  by_cases h1 : a.length < b.length
  · rw [br_true (bne_iff_ne.2 (by omega)), br_pos (by omega)]
    exact ⟨_, rfl, Or.inl ⟨rfl, val_lt_of_len (by decide) ha hb tb h1⟩⟩
  by_cases h2 : b.length < a.length
  · rw [br_true (bne_iff_ne.2 (by omega)), br_neg (by omega)]
    exact ⟨_, rfl, Or.inr (Or.inr ⟨rfl, val_lt_of_len (by decide) hb ha ta h2⟩)⟩
  have hl : a.length = b.length := by omega
  obtain ⟨r, h3, h4⟩ := iter_loop (f := fun s : Int ↦ W.R_dcmp.c100006 a b s Option.some)
    (J := fun i => ∃ k : Nat, i = (k : Int) - 1 ∧ k ≤ a.length ∧ val 10000 a - val 10000 b = val 10000 (a.take k) - val 10000 (b.take k))
    (Q := fun r => Ordered (val 10000 a) (val 10000 b) (match r with | .inl u => u.1 | .inr _ => 0))
    (fun i => (i + 1).toNat) (fun i ⟨k, hi, hk, hv⟩ => by
      subst hi
      simp only [W.R_dcmp.c100006]
      by_cases h0 : k = 0
      · subst h0
        rw [br_neg (by omega)]
        refine Or.inl ⟨_, rfl, Or.inr (Or.inl ⟨rfl, ?_⟩)⟩
        simp [val] at hv
        omega
      · rw [br_pos (by omega)]
        have hk1 : k - 1 + 1 = k := by omega
        have e8 : W.R_dcmp.c8 a b ((k : Int) - 1) Option.some = some (decide (a.getD (k - 1) 0 < b.getD (k - 1) 0)) := by
          unfold W.R_dcmp.c8
          rw [idx_of (k - 1) (by omega) (by omega), bnd_val, idx_of (k - 1) (by omega) (by omega), bnd_val]
        have e10 : W.R_dcmp.c10 a b ((k : Int) - 1) Option.some = some (decide (b.getD (k - 1) 0 < a.getD (k - 1) 0)) := by
          unfold W.R_dcmp.c10
          rw [idx_of (k - 1) (by omega) (by omega), bnd_val, idx_of (k - 1) (by omega) (by omega), bnd_val]
        rw [e8, bnd_val]
        by_cases h5 : a.getD (k - 1) 0 < b.getD (k - 1) 0
        · have h6 := top_lt (by decide) ha hb (k - 1) h5
          rw [hk1] at h6
          rw [br_pos h5]
          exact Or.inl ⟨_, rfl, Or.inl ⟨rfl, by omega⟩⟩
        · rw [br_neg h5, e10, bnd_val]
          by_cases h7 : b.getD (k - 1) 0 < a.getD (k - 1) 0
          · have h6 := top_lt (by decide) hb ha (k - 1) h7
            rw [hk1] at h6
            rw [br_pos h7]
            exact Or.inl ⟨_, rfl, Or.inr (Or.inr ⟨rfl, by omega⟩)⟩
          · rw [br_neg h7, wrap_i64 (by omega)]
            refine Or.inr ⟨(k : Int) - 1 - 1, rfl, ⟨k - 1, by omega, by omega, ?_⟩, by omega⟩
            have v1 := val_take_succ 10000 (k - 1) a
            have v2 := val_take_succ 10000 (k - 1) b
            have v3 : a.getD (k - 1) 0 = b.getD (k - 1) 0 := by omega
            rw [hk1] at v1 v2
            rw [v3] at v1
            omega)
    (s := (a.length : Int) - 1) ⟨a.length, rfl, Nat.le_refl _, by rw [val_take_len _ (Nat.le_refl _), val_take_len _ (by omega)]⟩
  rw [br_false (by simp [hl]), wrap_i64 (by omega), h3, bnd_val]
  refine ⟨_, ?_, h4⟩
  cases r <;> rfl
end Go.Ql
end

section
/- Adding, taking away, comparing whole numbers. -/
namespace Go.Ql
theorem add_ok {a b : Bool × List Int} {u v : Int} (ha : Rep 4294967296 a u) (hb : Rep 4294967296 b v) (la : a.2.length < 100000000) (lb : b.2.length < 100000000) :
    ∃ r, W.whole_Int_Add a b = some r ∧ Rep 4294967296 r (u + v) ∧ r.2.length ≤ a.2.length + b.2.length + 1 := by
  obtain ⟨a0, a1⟩ := a
  obtain ⟨b0, b1⟩ := b
  simp only at la lb
  have va := ha.val
  have vb := hb.val
  simp only at va vb
  unfold W.whole_Int_Add
  by_cases h0 : a0 = b0
  · subst h0
    obtain ⟨t, h1, h2, h3, h4⟩ := sum_ok a1 b1 ha.dig hb.dig (by omega) (by omega)
    obtain ⟨r, h5, h6, h7⟩ := made_ok a0 t h2 (by omega)
    refine ⟨r, ?_, ?_, by show r.2.length ≤ a1.length + b1.length + 1; omega⟩
    · rw [br_true (beq_self_eq_true a0)]
      unfold W.whole_Int_Add.c2
      rw [h1, bnd_val, h5]; rfl
    · have : u + v = if a0 = true then -val 4294967296 t else val 4294967296 t := by rw [va, vb, h4]; split <;> omega
      rw [this]; exact h6
  · have hb0 : b0 = !a0 := by cases a0 <;> cases b0 <;> simp_all
    rw [br_false (beq_false_of_ne h0)]
    obtain ⟨c, h1, h2⟩ := order_ok a1 b1 ha.dig hb.dig ha.last hb.last (by omega) (by omega)
    rw [h1, bnd_val]
    by_cases hc : c ≥ 0
    · have hle : val 4294967296 b1 ≤ val 4294967296 a1 := by rcases h2 with h | h | h <;> omega
      obtain ⟨t, h3, h4, h5, h6⟩ := less_ok a1 b1 ha.dig hb.dig (by omega) (len_le (by decide) ha.dig hb.dig hb.last hle) hle
      obtain ⟨r, h7, h8, h9⟩ := made_ok a0 t h4 (by omega)
      refine ⟨r, ?_, ?_, by show r.2.length ≤ a1.length + b1.length + 1; omega⟩
      · rw [br_pos hc]
        unfold W.whole_Int_Add.c4
        rw [h3, bnd_val, h7]; rfl
      · have : u + v = if a0 = true then -val 4294967296 t else val 4294967296 t := by rw [va, vb, h6, hb0]; cases a0 <;> simp <;> omega
        rw [this]; exact h8
    · have hle : val 4294967296 a1 ≤ val 4294967296 b1 := by rcases h2 with h | h | h <;> omega
      obtain ⟨t, h3, h4, h5, h6⟩ := less_ok b1 a1 hb.dig ha.dig (by omega) (len_le (by decide) hb.dig ha.dig ha.last hle) hle
      obtain ⟨r, h7, h8, h9⟩ := made_ok b0 t h4 (by omega)
      refine ⟨r, ?_, ?_, by show r.2.length ≤ a1.length + b1.length + 1; omega⟩
      · rw [br_neg hc]
        unfold W.whole_Int_Add.c5
        rw [h3, bnd_val, h7]; rfl
      · have : u + v = if b0 = true then -val 4294967296 t else val 4294967296 t := by rw [va, vb, h6, hb0]; cases a0 <;> simp <;> omega
        rw [this]; exact h8

theorem zadd_ok {a b : Bool × List Int} {u v : Int} (ha : Rep 10000 a u) (hb : Rep 10000 b v) (la : a.2.length < 100000000) (lb : b.2.length < 100000000) :
    ∃ r, W.R_ZAdd a b = some r ∧ Rep 10000 r (u + v) ∧ r.2.length ≤ a.2.length + b.2.length + 1 := by
  obtain ⟨a0, a1⟩ := a
  obtain ⟨b0, b1⟩ := b
  simp only at la lb
  have va := ha.val
  have vb := hb.val
  simp only at va vb
  unfold W.R_ZAdd
  by_cases za : a1 = []
  · subst za
    refine ⟨(b0, b1), rfl, ?_, by simp only; omega⟩
    have : u = 0 := by rw [va]; simp [val]
    rw [this, Int.zero_add]
    exact hb
  have za' : a1.length ≠ 0 := fun e => za (List.eq_nil_of_length_eq_zero e)
  rw [br_false (beq_false_of_ne (by show ((a1.length : Nat) : Int) ≠ 0; omega))]
  by_cases zb : b1 = []
  · subst zb
    refine ⟨(a0, a1), rfl, ?_, by simp only; omega⟩
    have : v = 0 := by rw [vb]; simp [val]
    rw [this, Int.add_zero]
    exact ha
  have zb' : b1.length ≠ 0 := fun e => zb (List.eq_nil_of_length_eq_zero e)
  rw [br_false (beq_false_of_ne (by show ((b1.length : Nat) : Int) ≠ 0; omega))]
  by_cases h0 : a0 = b0
  · subst h0
    obtain ⟨t, h1, h2, h3, h4⟩ := dadd_ok a1 b1 ha.dig hb.dig (by omega) (by omega)
    obtain ⟨r, h5, h6, h7⟩ := zmade_ok a0 t h2 (by omega)
    refine ⟨r, ?_, ?_, by show r.2.length ≤ a1.length + b1.length + 1; omega⟩
    · rw [br_true (beq_self_eq_true a0)]
      unfold W.R_ZAdd.c6
      rw [h1, bnd_val, h5]; rfl
    · have : u + v = if a0 = true then -val 10000 t else val 10000 t := by rw [va, vb, h4]; split <;> omega
      rw [this]; exact h6
  · have hb0 : b0 = !a0 := by cases a0 <;> cases b0 <;> simp_all
    rw [br_false (beq_false_of_ne h0)]
    obtain ⟨c, h1, h2⟩ := dcmp_ok a1 b1 ha.dig hb.dig ha.last hb.last (by omega) (by omega)
    rw [h1, bnd_val]
    by_cases hc : c ≥ 0
    · have hle : val 10000 b1 ≤ val 10000 a1 := by rcases h2 with h | h | h <;> omega
      obtain ⟨t, h3, h4, h5, h6⟩ := dsub_ok a1 b1 ha.dig hb.dig (by omega) (len_le (by decide) ha.dig hb.dig hb.last hle) hle
      obtain ⟨r, h7, h8, h9⟩ := zmade_ok a0 t h4 (by omega)
      refine ⟨r, ?_, ?_, by show r.2.length ≤ a1.length + b1.length + 1; omega⟩
      · rw [br_pos hc]
        unfold W.R_ZAdd.c8
        rw [h3, bnd_val, h7]; rfl
      · have : u + v = if a0 = true then -val 10000 t else val 10000 t := by rw [va, vb, h6, hb0]; cases a0 <;> simp <;> omega
        rw [this]; exact h8
    · have hle : val 10000 a1 ≤ val 10000 b1 := by rcases h2 with h | h | h <;> omega
      obtain ⟨t, h3, h4, h5, h6⟩ := dsub_ok b1 a1 hb.dig ha.dig (by omega) (len_le (by decide) hb.dig ha.dig ha.last hle) hle
      obtain ⟨r, h7, h8, h9⟩ := zmade_ok b0 t h4 (by omega)
      refine ⟨r, ?_, ?_, by show r.2.length ≤ a1.length + b1.length + 1; omega⟩
      · rw [br_neg hc]
        unfold W.R_ZAdd.c9
        rw [h3, bnd_val, h7]; rfl
      · have : u + v = if b0 = true then -val 10000 t else val 10000 t := by rw [va, vb, h6, hb0]; cases a0 <;> simp <;> omega
        rw [this]; exact h8

theorem neg_ok {a : Bool × List Int} {u : Int} (ha : Rep 4294967296 a u) (la : a.2.length < 100000000) :
    ∃ r, W.whole_Int_Neg a = some r ∧ Rep 4294967296 r (-u) ∧ r.2.length ≤ a.2.length := by
  obtain ⟨r, h1, h2, h3⟩ := made_ok (!a.1) a.2 ha.dig (by omega)
  refine ⟨r, by unfold W.whole_Int_Neg; rw [h1]; rfl, ?_, h3⟩
  have : -u = if (!a.1) = true then -val 4294967296 a.2 else val 4294967296 a.2 := by rw [ha.val]; cases a.1 <;> simp
  rw [this]; exact h2
theorem sub_ok {a b : Bool × List Int} {u v : Int} (ha : Rep 4294967296 a u) (hb : Rep 4294967296 b v) (la : a.2.length < 100000000) (lb : b.2.length < 100000000) :
    ∃ r, W.whole_Int_Sub a b = some r ∧ Rep 4294967296 r (u - v) ∧ r.2.length ≤ a.2.length + b.2.length + 1 := by
  obtain ⟨n, h1, h2, h3⟩ := neg_ok hb lb
  obtain ⟨r, h4, h5, h6⟩ := add_ok ha h2 la (by omega)
  refine ⟨r, ?_, by rw [Int.sub_eq_add_neg]; exact h5, by omega⟩
  unfold W.whole_Int_Sub W.whole_Int_Sub.c1
  rw [show ((b.1, b.2) : Bool × List Int) = b from rfl, h1, bnd_val, show ((a.1, a.2) : Bool × List Int) = a from rfl, h4]; rfl

theorem zneg_ok {a : Bool × List Int} {u : Int} (ha : Rep 10000 a u) (la : a.2.length < 100000000) :
    ∃ r, W.R_ZNeg a = some r ∧ Rep 10000 r (-u) ∧ r.2.length ≤ a.2.length := by
  obtain ⟨r, h1, h2, h3⟩ := zmade_ok (!a.1) a.2 ha.dig (by omega)
  refine ⟨r, by unfold W.R_ZNeg; rw [h1]; rfl, ?_, h3⟩
  have : -u = if (!a.1) = true then -val 10000 a.2 else val 10000 a.2 := by rw [ha.val]; cases a.1 <;> simp
  rw [this]; exact h2
theorem zsub_ok {a b : Bool × List Int} {u v : Int} (ha : Rep 10000 a u) (hb : Rep 10000 b v) (la : a.2.length < 100000000) (lb : b.2.length < 100000000) :
    ∃ r, W.R_ZSub a b = some r ∧ Rep 10000 r (u - v) ∧ r.2.length ≤ a.2.length + b.2.length + 1 := by
  obtain ⟨n, h1, h2, h3⟩ := zneg_ok hb lb
  obtain ⟨r, h4, h5, h6⟩ := zadd_ok ha h2 la (by omega)
  refine ⟨r, ?_, by rw [Int.sub_eq_add_neg]; exact h5, by omega⟩
  unfold W.R_ZSub W.R_ZSub.c1
  rw [show ((b.1, b.2) : Bool × List Int) = b from rfl, h1, bnd_val, show ((a.1, a.2) : Bool × List Int) = a from rfl, h4]; rfl

def sgn (v : Int) : Int := if v < 0 then -1 else if v = 0 then 0 else 1
theorem Rep.pos {B : Int} (hB : 1 < B) {x : Bool × List Int} {v : Int} (h : Rep B x v) (hn : x.2 ≠ []) : 0 < Ql.val B x.2 := by
  have h1 := val_ge hB h.dig h.last hn
  have h2 : 0 < B ^ (x.2.length - 1) := Int.pow_pos (by omega)
  omega
theorem Rep.sgn {B : Int} (hB : 1 < B) {x : Bool × List Int} {v : Int} (h : Rep B x v) :
    sgn v = if x.2.length = 0 then 0 else if x.1 then -1 else 1 := by
  by_cases hn : x.2 = []
  · have h1 := h.val
    rw [hn] at h1 ⊢
    have : v = 0 := by rw [h1]; simp [Ql.val]
    simp [this, Ql.sgn]
  · have h1 := h.pos hB hn
    have h2 : x.2.length ≠ 0 := fun e => hn (List.eq_nil_of_length_eq_zero e)
    have h3 := h.val
    rw [if_neg h2]
    unfold Ql.sgn
    cases hx : x.1 <;> simp only [hx, Bool.false_eq_true, if_false, if_true] at h3 ⊢ <;> split <;> (try split) <;> omega
theorem sign_ok {a : Bool × List Int} {u : Int} (ha : Rep 4294967296 a u) : W.whole_Int_Sign a = some (sgn u) := by
  rw [ha.sgn (by decide)]
  unfold W.whole_Int_Sign
  by_cases h : a.2.length = 0
  · rw [br_true (beq_iff_eq.2 (by omega)), if_pos h]
  · rw [br_false (beq_false_of_ne (by omega)), if_neg h]; cases a.1 <;> rfl
theorem zsign_ok {a : Bool × List Int} {u : Int} (ha : Rep 10000 a u) : W.R_zsign a = some (sgn u) := by
  rw [ha.sgn (by decide)]
  unfold W.R_zsign
  by_cases h : a.2.length = 0
  · rw [br_true (beq_iff_eq.2 (by omega)), if_pos h]
  · rw [br_false (beq_false_of_ne (by omega)), if_neg h]; cases a.1 <;> rfl
theorem zcmp_ok {a b : Bool × List Int} {u v : Int} (ha : Rep 10000 a u) (hb : Rep 10000 b v) (la : a.2.length < 100000000) (lb : b.2.length < 100000000) :
    W.R_ZCmp a b = some (sgn (u - v)) := by
  obtain ⟨r, h1, h2, h3⟩ := zsub_ok ha hb la lb
  unfold W.R_ZCmp
  rw [show ((b.1, b.2) : Bool × List Int) = b from rfl, show ((a.1, a.2) : Bool × List Int) = a from rfl, h1, bnd_val, zsign_ok h2]; rfl
theorem icmp_ok {a b : Bool × List Int} {u v : Int} (ha : Rep 4294967296 a u) (hb : Rep 4294967296 b v) (la : a.2.length < 100000000) (lb : b.2.length < 100000000) :
    W.whole_Int_Cmp a b = some (sgn (u - v)) := by
  unfold W.whole_Int_Cmp W.whole_Int_Cmp.c1 W.whole_Int_Cmp.c2 W.whole_Int_Cmp.c4
  simp only [show ((b.1, b.2) : Bool × List Int) = b from rfl, show ((a.1, a.2) : Bool × List Int) = a from rfl]
  rw [sign_ok ha, sign_ok hb]
  simp only [bnd_val, cmp_ok]
  obtain ⟨c, h1, h2⟩ := order_ok a.2 b.2 ha.dig hb.dig ha.last hb.last (by omega) (by omega)
  have sa := ha.sgn (by decide)
  have sb := hb.sgn (by decide)
  have va := ha.val
  have vb := hb.val
  by_cases h3 : sgn u < sgn v
  · rw [if_pos h3]
    simp only [show ((-1 : Int) != 0) = true from rfl, br_tt, bnd_val]
    congr 1
    revert h3; unfold sgn; repeat (first | split | omega)
    all_goals (intro _; omega)
  rw [if_neg h3]
  by_cases h4 : sgn v < sgn u
  · rw [if_pos h4]
    simp only [show ((1 : Int) != 0) = true from rfl, br_tt, bnd_val]
    congr 1
    revert h4; unfold sgn; repeat (first | split | omega)
    all_goals (intro _; omega)
  rw [if_neg h4]
  have h5 : sgn u = sgn v := by omega
  simp only [show ((0 : Int) != 0) = false from rfl, br_ff, bnd_val]
  by_cases h6 : sgn u = 0
  · rw [br_true (beq_iff_eq.2 h6)]
    congr 1
    have hu0 : u = 0 := by revert h6; unfold sgn; split; omega; split; intro; assumption; omega
    have hv0 : v = 0 := by rw [h5] at h6; revert h6; unfold sgn; split; omega; split; intro; assumption; omega
    rw [hu0, hv0]; rfl
  · rw [br_false (beq_false_of_ne h6), h1]
    simp only [bnd_val]
    congr 1
    rw [h5] at sa
    have na : a.2.length ≠ 0 := by intro e; rw [if_pos e] at sa; omega
    have nb : b.2.length ≠ 0 := by intro e; rw [if_pos e] at sb; omega
    rw [if_neg na] at sa
    rw [if_neg nb] at sb
    have hs : a.1 = b.1 := by
      rw [sa] at sb
      cases ha1 : a.1 <;> cases hb1 : b.1 <;> simp [ha1, hb1] at sb <;> rfl
    rw [h5, sa]
    rw [hs] at va ⊢
    cases hb1 : b.1 <;> simp only [hb1, Bool.false_eq_true, if_false, if_true] at va vb ⊢ <;> rcases h2 with ⟨rfl, h⟩ | ⟨rfl, h⟩ | ⟨rfl, h⟩ <;> unfold sgn <;> (rw [wrap_i64 (by omega)]) <;> split <;> (try split) <;> omega
end Go.Ql
end

section
/- Products. -/
namespace Go.Ql
theorem mul_le {a b A : Int} (h0 : 0 ≤ a) (h1 : a ≤ A) (k0 : 0 ≤ b) (k1 : b ≤ A) : 0 ≤ a * b ∧ a * b ≤ A * A :=
  ⟨Int.mul_nonneg h0 k0, Int.le_trans (Int.mul_le_mul_of_nonneg_right h1 k0) (Int.mul_le_mul_of_nonneg_left k1 (by omega))⟩

theorem mul_in (i : Nat) (x : Int) (b t0 : List Int) (hx : 0 ≤ x ∧ x < 4294967296) (hb : Dig 4294967296 b) (h0 : Dig 4294967296 t0) (hl : i + b.length < t0.length) (hL : t0.length < 1000000000) (hz : ∀ k, i + b.length ≤ k → t0.getD k 0 = 0) :
    ∃ r, Go.Ql.iter (fun s : Int × Int × List Int ↦ W.whole_Int_Mul.c100007 (i : Int) x (Prod.fst s) b (b.length : Int) (Prod.fst (Prod.snd s)) (Prod.snd (Prod.snd s)) Option.some) ((0 : Int), (0 : Int), t0) = some r ∧
      (0 ≤ r.1 ∧ r.1 < 4294967296) ∧ r.2.2.length = t0.length ∧ Dig 4294967296 r.2.2 ∧ (∀ k, i + b.length ≤ k → r.2.2.getD k 0 = 0) ∧ val 4294967296 r.2.2 + r.1 * 4294967296 ^ (i + b.length) = val 4294967296 t0 + 4294967296 ^ i * x * val 4294967296 b :=
  iter_loop
    (f := fun s : Int × Int × List Int ↦ W.whole_Int_Mul.c100007 (i : Int) x (Prod.fst s) b (b.length : Int) (Prod.fst (Prod.snd s)) (Prod.snd (Prod.snd s)) Option.some)
    (J := fun s => (0 ≤ s.1 ∧ s.1 < 4294967296) ∧ ∃ j : Nat, s.2.1 = j ∧ j ≤ b.length ∧ s.2.2.length = t0.length ∧ Dig 4294967296 s.2.2 ∧ (∀ k, i + b.length ≤ k → s.2.2.getD k 0 = 0) ∧ val 4294967296 s.2.2 + s.1 * 4294967296 ^ (i + j) = val 4294967296 t0 + 4294967296 ^ i * x * val 4294967296 (b.take j))
    (Q := fun r => (0 ≤ r.1 ∧ r.1 < 4294967296) ∧ r.2.2.length = t0.length ∧ Dig 4294967296 r.2.2 ∧ (∀ k, i + b.length ≤ k → r.2.2.getD k 0 = 0) ∧ val 4294967296 r.2.2 + r.1 * 4294967296 ^ (i + b.length) = val 4294967296 t0 + 4294967296 ^ i * x * val 4294967296 b)
    (fun s => b.length - s.2.1.toNat) (fun ⟨c, j', t⟩ ⟨hc, j, hj, hjl, ht, hd, hz, hv⟩ => by
      simp only at hc hj ht hd hz hv ⊢
      subst hj
      simp only [W.whole_Int_Mul.c100007]
      by_cases h0 : j < b.length
      · have dy := hb.getD (by decide) j
        have dt := hd.getD (by decide) (i + j)
        have hxy := mul_le (A := 4294967295) hx.1 (by omega) dy.1 (by omega)
        have hw : IntKind.i64.wrap ((j : Int) + 1) = ((j + 1 : Nat) : Int) := by rw [wrap_i64 (by omega)]; omega
        have hw2 : IntKind.i64.wrap ((i : Int) + j) = ((i + j : Nat) : Int) := by rw [wrap_i64 (by omega)]; omega
        have e1 : IntKind.u64.wrap (c + IntKind.u64.wrap (IntKind.u64.wrap (IntKind.u64.wrap x * IntKind.u64.wrap (b.getD j 0)) + IntKind.u64.wrap (t.getD (i + j) 0))) = c + (x * b.getD j 0 + t.getD (i + j) 0) := by
          rw [wrap_u64 (x := x) (by omega), wrap_u64 (x := b.getD j 0) (by omega), wrap_u64 (x := t.getD (i + j) 0) (by omega), wrap_u64 (x := x * b.getD j 0) (by omega), wrap_u64 (x := x * b.getD j 0 + t.getD (i + j) 0) (by omega), wrap_u64 (by omega)]
        refine Or.inr ⟨(_, _, _), by rw [br_pos (by omega), idx_of j rfl h0, bnd_val, hw2, inR_of (by omega) (by omega), bnd_val, idx_of (i + j) rfl (by omega), bnd_val, bnd_val, bnd_val, e1, hw, Int.toNat_natCast, wrap_u32_mod, Int.fdiv_eq_ediv_of_nonneg _ (by decide), show ((2 : Int) ^ (32 : Nat)) = 4294967296 from by decide], ⟨?_, j + 1, rfl, by omega, by simpa using ht, ?_, ?_, ?_⟩, by show b.length - ((j + 1 : Nat) : Int).toNat < b.length - (j : Int).toNat; omega⟩
        · simp only; omega
        · exact hd.set (by omega) _
        · intro k hk
          simp only
          rw [getD_set (by omega), if_neg (by omega)]
          exact hz k hk
        · have v2 := val_take_succ 4294967296 j b
          have v3 := val_set 4294967296 ((c + (x * b.getD j 0 + t.getD (i + j) 0)) % 4294967296) (i + j) t (by omega)
          have v5 : c + (x * b.getD j 0 + t.getD (i + j) 0) = (c + (x * b.getD j 0 + t.getD (i + j) 0)) % 4294967296 + 4294967296 * ((c + (x * b.getD j 0 + t.getD (i + j) 0)) / 4294967296) := (Int.emod_add_mul_ediv _ _).symm
          simp only [← Nat.add_assoc, Int.pow_succ]
          rw [v2, v3]
          rw [Int.pow_add] at hv ⊢
          generalize (4294967296 : Int) ^ i = P at *
          generalize (4294967296 : Int) ^ j = R at *
          generalize (c + (x * b.getD j 0 + t.getD (i + j) 0)) % 4294967296 = r at *
          generalize (c + (x * b.getD j 0 + t.getD (i + j) 0)) / 4294967296 = q at *
          generalize b.getD j 0 = y at *
          generalize t.getD (i + j) 0 = z at *
          grind
      · have e : j = b.length := by omega
        subst e
        refine Or.inl ⟨(_, _, _), by rw [br_neg (by omega)], hc, ht, hd, hz, ?_⟩
        rw [List.take_length] at hv
        exact hv)
    (s := ((0 : Int), (0 : Int), t0)) ⟨by simp, 0, rfl, by omega, rfl, h0, hz, by simp [val]⟩

theorem mul_ok {a b : Bool × List Int} {u v : Int} (ha : Rep 4294967296 a u) (hb : Rep 4294967296 b v) (la : a.2.length < 100000000) (lb : b.2.length < 100000000) :
    ∃ r, W.whole_Int_Mul a b = some r ∧ Rep 4294967296 r (u * v) ∧ r.2.length ≤ a.2.length + b.2.length := by
  obtain ⟨⟨i, t⟩, h1, ht, hd, hv⟩ := iter_loop
    (f := fun s : Int × List Int ↦ W.whole_Int_Mul.c100003 a.2 (a.2.length : Int) (Prod.fst s) b.2 (Prod.snd s) Option.some)
    (J := fun s => ∃ i : Nat, s.1 = i ∧ i ≤ a.2.length ∧ s.2.length = a.2.length + b.2.length ∧ Dig 4294967296 s.2 ∧ (∀ k, i + b.2.length ≤ k → s.2.getD k 0 = 0) ∧ val 4294967296 s.2 = val 4294967296 (a.2.take i) * val 4294967296 b.2)
    (Q := fun s => s.2.length = a.2.length + b.2.length ∧ Dig 4294967296 s.2 ∧ val 4294967296 s.2 = val 4294967296 a.2 * val 4294967296 b.2)
    (fun s => a.2.length - s.1.toNat) (fun ⟨i', t⟩ ⟨i, hi, hil, ht, hd, hz, hv⟩ => by
      simp only at hi ht hd hz hv ⊢
      subst hi
      simp only [W.whole_Int_Mul.c100003]
      by_cases h0 : i < a.2.length
      · have dx := ha.dig.getD (by decide) i
        obtain ⟨⟨c, j, t'⟩, h2, hc, ht', hd', hz', hv'⟩ := mul_in i (a.2.getD i 0) b.2 t dx hb.dig hd (by omega) (by omega) hz
        simp only at hc ht' hd' hz' hv'
        have hw : IntKind.i64.wrap ((i : Int) + 1) = ((i + 1 : Nat) : Int) := by rw [wrap_i64 (by omega)]; omega
        have hw2 : IntKind.i64.wrap ((i : Int) + (b.2.length : Int)) = ((i + b.2.length : Nat) : Int) := by rw [wrap_i64 (by omega)]; omega
        refine Or.inr ⟨(_, _), by rw [br_pos (by omega), idx_of i rfl h0, bnd_val, h2, bnd_val, hw2, inR_of (by omega) (by simp only; omega), bnd_val, idx_of (i + b.2.length) rfl (by simp only; omega), bnd_val, hw, Int.toNat_natCast, wrap_u32 hc], ⟨i + 1, rfl, by omega, by simpa using ht'.trans ht, hd'.set hc _, ?_, ?_⟩, by show a.2.length - ((i + 1 : Nat) : Int).toNat < a.2.length - (i : Int).toNat; omega⟩
        · intro k hk
          simp only
          rw [getD_set (by omega), if_neg (by omega)]
          exact hz' k (by omega)
        · have v1 := val_take_succ 4294967296 i a.2
          have v3 := val_set 4294967296 c (i + b.2.length) t' (by omega)
          have v4 := hz' (i + b.2.length) (Nat.le_refl _)
          simp only
          rw [v1, v3, v4]
          grind
      · have e : i = a.2.length := by omega
        subst e
        refine Or.inl ⟨(_, _), by rw [br_neg (by omega)], ht, hd, ?_⟩
        rw [List.take_length] at hv
        exact hv)
    (s := ((0 : Int), List.replicate (Int.toNat (IntKind.i64.wrap ((a.2.length : Int) + (b.2.length : Int)))) (0 : Int)))
    ⟨0, rfl, by omega, by rw [wrap_i64 (by omega)]; simp <;> omega, Dig.replicate (by decide) _, fun j _ => getD_replicate _ _, by simp [val_replicate, val]⟩
  simp only at ht hd hv
  obtain ⟨r, h2, h3, h4⟩ := made_ok (!(a.1 == b.1)) t hd (by omega)
  refine ⟨r, ?_, ?_, by omega⟩
  · unfold W.whole_Int_Mul
    rw [okIf_true (by rw [wrap_i64 (by omega)]; simp; try omega), bnd_val, h1, bnd_val, h2]; rfl
  · have : u * v = if (!(a.1 == b.1)) = true then -val 4294967296 t else val 4294967296 t := by
      rw [ha.val, hb.val, hv]; cases a.1 <;> cases b.1 <;> simp [Int.neg_mul, Int.mul_neg]
    rw [this]; exact h3
end Go.Ql
end

section
/- Products of the reference. -/
namespace Go.Ql
theorem zmul_in (i : Nat) (a b t0 : List Int) (ha : Dig 10000 a) (hb : Dig 10000 b) (hi : i < a.length) (h0 : Dig 10000 t0) (hl : i + b.length + 1 < t0.length) (hL : t0.length < 1000000000) (hz : ∀ k, i + b.length ≤ k → t0.getD k 0 = 0) :
    ∃ r, Go.Ql.iter (fun s : Int × Int × List Int ↦ W.R_ZMul.c100007 (i : Int) (Prod.fst s) (Prod.fst (Prod.snd s)) a b (Prod.snd (Prod.snd s)) Option.some) ((0 : Int), (0 : Int), t0) = some r ∧
      r.2.2.length = t0.length ∧ Dig 10000 r.2.2 ∧ (∀ k, i + b.length + 1 ≤ k → r.2.2.getD k 0 = 0) ∧ val 10000 r.2.2 = val 10000 t0 + 10000 ^ i * a.getD i 0 * val 10000 b :=
  iter_loop
    (f := fun s : Int × Int × List Int ↦ W.R_ZMul.c100007 (i : Int) (Prod.fst s) (Prod.fst (Prod.snd s)) a b (Prod.snd (Prod.snd s)) Option.some)
    (J := fun s => (0 ≤ s.1 ∧ s.1 < 10000) ∧ ∃ j : Nat, s.2.1 = j ∧ j ≤ b.length + 1 ∧ (j = b.length + 1 → s.1 = 0) ∧ s.2.2.length = t0.length ∧ Dig 10000 s.2.2 ∧ (∀ k, i + b.length ≤ k → i + j ≤ k → s.2.2.getD k 0 = 0) ∧ val 10000 s.2.2 + s.1 * 10000 ^ (i + j) = val 10000 t0 + 10000 ^ i * a.getD i 0 * val 10000 (b.take j))
    (Q := fun r => r.2.2.length = t0.length ∧ Dig 10000 r.2.2 ∧ (∀ k, i + b.length + 1 ≤ k → r.2.2.getD k 0 = 0) ∧ val 10000 r.2.2 = val 10000 t0 + 10000 ^ i * a.getD i 0 * val 10000 b)
    (fun s => b.length + 2 - s.2.1.toNat) (fun ⟨c, j', t⟩ ⟨hc, j, hj, hjl, hj0, ht, hd, hz, hv⟩ => by
      simp only at hc hj ht hd hz hv hj0 ⊢
      subst hj
      simp only [W.R_ZMul.c100007]
      have dx := ha.getD (by decide) i
      have dy := hb.getD (by decide) j
      have dt := hd.getD (by decide) (i + j)
      have hxy := mul_le (A := 9999) dx.1 (by omega) dy.1 (by omega)
      have e7 : W.R_ZMul.c7 c (j : Int) b Option.some = some (decide (j < b.length ∨ 0 < c)) := by
        unfold W.R_ZMul.c7
        by_cases h1 : j < b.length
        · rw [br_pos (by omega)]; simp [h1]
        · rw [br_neg (by omega)]; simp [h1]
      have e2 : W.R_ZMul.c240965 (i : Int) (c + t.getD (i + j) 0) (j : Int) a b Option.some = some (c + t.getD (i + j) 0 + a.getD i 0 * b.getD j 0) := by
        unfold W.R_ZMul.c240965 W.R_ZMul.c11
        by_cases h1 : j < b.length
        · rw [br_pos (by omega), idx_of i rfl hi, bnd_val, idx_of j rfl h1, bnd_val, bnd_val, wrap_i64 (x := a.getD i 0 * b.getD j 0) (by omega), wrap_i64 (by omega)]
        · rw [br_neg (by omega), getD_out (l := b) (by omega)]; simp
      rw [e7, bnd_val]
      by_cases h0 : j < b.length ∨ 0 < c
      · have hjb : j ≤ b.length := by
          rcases h0 with h | h
          · omega
          · by_cases e : j = b.length + 1
            · have := hj0 e; omega
            · omega
        have hw : IntKind.i64.wrap ((j : Int) + 1) = ((j + 1 : Nat) : Int) := by rw [wrap_i64 (by omega)]; omega
        have hw2 : IntKind.i64.wrap ((i : Int) + j) = ((i + j : Nat) : Int) := by rw [wrap_i64 (by omega)]; omega
        rw [br_pos h0]
        refine Or.inr ⟨(_, _, _), by rw [hw2, inR_of (by omega) (by omega), bnd_val, idx_of (i + j) rfl (by omega), bnd_val, wrap_i64 (x := c + t.getD (i + j) 0) (by omega), e2, bnd_val, bnd_val, bnd_val, hw, Int.toNat_natCast, tdiv_pos (by omega), tmod_pos (by omega), wrap_i64 (by omega)], ⟨?_, j + 1, rfl, by omega, ?_, by simpa using ht, ?_, ?_, ?_⟩, by show b.length + 2 - ((j + 1 : Nat) : Int).toNat < b.length + 2 - (j : Int).toNat; omega⟩
        · simp only; omega
        · intro hj1
          have h3 : b.getD j 0 = 0 := getD_out (by omega)
          have h4 := hz (i + j) (by omega) (by omega)
          simp only [h3, h4]
          omega
        · exact hd.set (by omega) _
        · intro k hk hk2
          simp only
          rw [getD_set (by omega), if_neg (by omega)]
          exact hz k hk (by omega)
        · have v2 := val_take_succ 10000 j b
          have v3 := val_set 10000 ((c + t.getD (i + j) 0 + a.getD i 0 * b.getD j 0) % 10000) (i + j) t (by omega)
          have v5 : c + t.getD (i + j) 0 + a.getD i 0 * b.getD j 0 = (c + t.getD (i + j) 0 + a.getD i 0 * b.getD j 0) % 10000 + 10000 * ((c + t.getD (i + j) 0 + a.getD i 0 * b.getD j 0) / 10000) := (Int.emod_add_mul_ediv _ _).symm
          simp only [← Nat.add_assoc, Int.pow_succ]
          rw [v2, v3]
          rw [Int.pow_add] at hv ⊢
          generalize (10000 : Int) ^ i = P at *
          generalize (10000 : Int) ^ j = R at *
          generalize (c + t.getD (i + j) 0 + a.getD i 0 * b.getD j 0) % 10000 = r at *
          generalize (c + t.getD (i + j) 0 + a.getD i 0 * b.getD j 0) / 10000 = q at *
          generalize a.getD i 0 = x at *
          generalize b.getD j 0 = y at *
          generalize t.getD (i + j) 0 = z at *
          grind
      · rw [br_neg h0]
        have hc0 : c = 0 := by omega
        subst hc0
        refine Or.inl ⟨(_, _, _), rfl, ht, hd, fun k hk => hz k (by omega) (by omega), ?_⟩
        rw [val_take_len _ (by omega)] at hv
        simp only
        omega)
    (s := ((0 : Int), (0 : Int), t0)) ⟨by simp, 0, rfl, by omega, by omega, rfl, h0, fun k hk _ => hz k hk, by simp [val]⟩

theorem zmul_ok {a b : Bool × List Int} {u v : Int} (ha : Rep 10000 a u) (hb : Rep 10000 b v) (la : a.2.length < 100000000) (lb : b.2.length < 100000000) :
    ∃ r, W.R_ZMul a b = some r ∧ Rep 10000 r (u * v) ∧ r.2.length ≤ a.2.length + b.2.length + 1 := by
  obtain ⟨⟨i, t⟩, h1, ht, hd, hv⟩ := iter_loop
    (f := fun s : Int × List Int ↦ W.R_ZMul.c100003 (Prod.fst s) a.2 b.2 (Prod.snd s) Option.some)
    (J := fun s => ∃ i : Nat, s.1 = i ∧ i ≤ a.2.length ∧ s.2.length = a.2.length + b.2.length + 1 ∧ Dig 10000 s.2 ∧ (∀ k, i + b.2.length ≤ k → s.2.getD k 0 = 0) ∧ val 10000 s.2 = val 10000 (a.2.take i) * val 10000 b.2)
    (Q := fun s => s.2.length = a.2.length + b.2.length + 1 ∧ Dig 10000 s.2 ∧ val 10000 s.2 = val 10000 a.2 * val 10000 b.2)
    (fun s => a.2.length - s.1.toNat) (fun ⟨i', t⟩ ⟨i, hi, hil, ht, hd, hz, hv⟩ => by
      simp only at hi ht hd hz hv ⊢
      subst hi
      simp only [W.R_ZMul.c100003]
      by_cases h0 : i < a.2.length
      · obtain ⟨⟨c, j, t'⟩, h2, ht', hd', hz', hv'⟩ := zmul_in i a.2 b.2 t ha.dig hb.dig h0 hd (by omega) (by omega) hz
        simp only at ht' hd' hz' hv'
        have hw : IntKind.i64.wrap ((i : Int) + 1) = ((i + 1 : Nat) : Int) := by rw [wrap_i64 (by omega)]; omega
        refine Or.inr ⟨(_, _), by rw [br_pos (by omega), h2, bnd_val, hw], ⟨i + 1, rfl, by omega, ht'.trans ht, hd', fun k hk => hz' k (by omega), ?_⟩, by show a.2.length - ((i + 1 : Nat) : Int).toNat < a.2.length - (i : Int).toNat; omega⟩
        have v1 := val_take_succ 10000 i a.2
        simp only
        rw [v1, hv', hv]
        grind
      · have e : i = a.2.length := by omega
        subst e
        refine Or.inl ⟨(_, _), by rw [br_neg (by omega)], ht, hd, ?_⟩
        rw [List.take_length] at hv
        exact hv)
    (s := ((0 : Int), List.replicate (Int.toNat (IntKind.i64.wrap (IntKind.i64.wrap ((a.2.length : Int) + (b.2.length : Int)) + 1))) (0 : Int)))
    ⟨0, rfl, by omega, by rw [wrap_i64 (x := (a.2.length : Int) + (b.2.length : Int)) (by omega), wrap_i64 (by omega)]; simp <;> omega, Dig.replicate (by decide) _, fun j _ => getD_replicate _ _, by simp [val_replicate, val]⟩
  simp only at ht hd hv
  obtain ⟨r, h2, h3, h4⟩ := zmade_ok (!(a.1 == b.1)) t hd (by omega)
  refine ⟨r, ?_, ?_, by omega⟩
  · unfold W.R_ZMul
    rw [okIf_true (by rw [wrap_i64 (x := (a.2.length : Int) + (b.2.length : Int)) (by omega), wrap_i64 (by omega)]; simp; try omega), bnd_val, h1, bnd_val, h2]; rfl
  · have : u * v = if (!(a.1 == b.1)) = true then -val 10000 t else val 10000 t := by
      rw [ha.val, hb.val, hv]; cases a.1 <;> cases b.1 <;> simp [Int.neg_mul, Int.mul_neg]
    rw [this]; exact h3
end Go.Ql
end
