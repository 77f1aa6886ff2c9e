/- Plain laws: shifts and division. -/
import Derived.Test.YtmhhlfpejfajaaaPd
import Derived.Test.YtmhhlfpejfajaaaWb
section
/- Whole numbers shifted to the left. -/
namespace Go.Ql
theorem or32 (m : Nat) {a x q : Int} (ha : 0 ≤ a ∧ a < 2 ^ m) (hx : x = 2 ^ m * q) (hq : 0 ≤ q) (hb : a + x < 4294967296) : ibits Go.BinOp.or Go.IntKind.u32 a x = a + x := by
  obtain ⟨a, rfl⟩ : ∃ n : Nat, a = n := ⟨a.toNat, by omega⟩
  obtain ⟨q, rfl⟩ : ∃ n : Nat, q = n := ⟨q.toNat, by omega⟩
  have hx2 : x = ((2 ^ m * q : Nat) : Int) := by rw [hx]; simp
  have ham : a < 2 ^ m := by
    have := ha.2
    rw [show ((2 : Int) ^ m) = ((2 ^ m : Nat) : Int) by simp] at this
    omega
  have h : (BitVec.ofInt IntKind.u32.bits (a : Int) ||| BitVec.ofInt IntKind.u32.bits ((2 ^ m * q : Nat) : Int)).toNat = a + 2 ^ m * q := by
    rw [BitVec.toNat_or, BitVec.toNat_ofInt, BitVec.toNat_ofInt]
    have e1 : ((a : Int) % ((2 ^ IntKind.u32.bits : Nat) : Int)).toNat = a := by
      show ((a : Int) % 4294967296).toNat = a
      omega
    have e2 : (((2 ^ m * q : Nat) : Int) % ((2 ^ IntKind.u32.bits : Nat) : Int)).toNat = 2 ^ m * q := by
      show (((2 ^ m * q : Nat) : Int) % 4294967296).toNat = 2 ^ m * q
      omega
    rw [e1, e2, Nat.or_comm, ← Nat.two_pow_add_eq_or_of_lt ham]
    omega
  show IntKind.u32.wrap ((BitVec.ofInt IntKind.u32.bits (a : Int) ||| BitVec.ofInt IntKind.u32.bits x).toNat : Int) = _
  rw [hx2, h, wrap_u32 (by omega)]
  omega
theorem two_parts (m : Nat) (hm : m < 32) : (0 : Int) < 2 ^ m ∧ (2 : Int) ^ m ≤ 2147483648 ∧ (2 : Int) ^ m * 2 ^ (32 - m) = 4294967296 ∧ (0 : Int) < 2 ^ (32 - m) := by
  have h1 : (0 : Int) < 2 ^ m := Int.pow_pos (by decide)
  have h2 : (2 : Int) ^ m ≤ 2 ^ 31 := pow_le (by decide) (by omega)
  have h3 : (2 : Int) ^ m * 2 ^ (32 - m) = 2 ^ 32 := by rw [← Int.pow_add]; congr 1; omega
  exact ⟨h1, h2, h3, Int.pow_pos (by decide)⟩
theorem pow_split (n : Nat) : (2 : Int) ^ n = 4294967296 ^ (n / 32) * 2 ^ (n % 32) := by
  have h : (4294967296 : Int) = 2 ^ 32 := rfl
  rw [h, ← Int.pow_mul, ← Int.pow_add]
  congr 1
  omega
theorem left_ok (a : List Int) (n : Nat) (ha : Dig 4294967296 a) (la : a.length < 100000000) (hn : n < 100000000) :
    ∃ t, W.whole_left a (n : Int) = some (t, ()) ∧ Dig 4294967296 t ∧ t.length = a.length + n / 32 + 1 ∧ val 4294967296 t = val 4294967296 a * 2 ^ n := by
  obtain ⟨hP, hP2, hPQ, hQ⟩ := two_parts (n % 32) (by omega)
  have e1 : Int.tdiv (n : Int) 32 = ((n / 32 : Nat) : Int) := by rw [tdiv_pos (by omega)]; omega
  have e2 : Int.tmod (n : Int) 32 = ((n % 32 : Nat) : Int) := by rw [tmod_pos (by omega)]; omega
  have hpow := pow_split n
  obtain ⟨⟨i, t⟩, h1, ht, hd, hv⟩ := iter_loop
    (f := fun s : Int × List Int ↦ W.whole_left.c100003 (n : Int) a (a.length : Int) (Prod.fst s) (Prod.snd s) Option.some)
    (J := fun s => ∃ i : Nat, s.1 = i ∧ i ≤ a.length ∧ s.2.length = a.length + n / 32 + 1 ∧ Dig 4294967296 s.2 ∧ (∀ t, i + n / 32 < t → s.2.getD t 0 = 0) ∧ s.2.getD (i + n / 32) 0 < 2 ^ (n % 32) ∧ val 4294967296 s.2 = val 4294967296 (a.take i) * 2 ^ n)
    (Q := fun s => s.2.length = a.length + n / 32 + 1 ∧ Dig 4294967296 s.2 ∧ val 4294967296 s.2 = val 4294967296 a * 2 ^ n)
    (fun s => a.length - s.1.toNat) (fun ⟨i', t⟩ ⟨i, hi, hil, hl, hd, hz, ho, hv⟩ => by
      simp only at hi hl hd hz ho hv ⊢
      subst hi
      simp only [W.whole_left.c100003]
      by_cases h0 : i < a.length
      · have hda := ha.getD (by decide) i
        have hdt := hd.getD (by decide) (i + n / 32)
        have htk := val_take_succ 4294967296 i a
        rw [br_pos (by omega), e1, e2, idx_of i rfl h0, wrap_i64 (x := ((n / 32 : Nat) : Int)) (by omega), wrap_i64 (x := (i : Int) + ((n / 32 : Nat) : Int)) (by omega), show (i : Int) + ((n / 32 : Nat) : Int) = ((i + n / 32 : Nat) : Int) by omega, wrap_i64 (x := ((i + n / 32 : Nat) : Int) + 1) (by omega), show ((i + n / 32 : Nat) : Int) + 1 = ((i + n / 32 + 1 : Nat) : Int) by omega]
        rw [okIf_true (by simp; omega), inR_of (by omega) (by omega), idx_of (i + n / 32) rfl (by omega)]
        simp only [bnd_val, Int.toNat_natCast]
        rw [inR_of (by omega) (by rw [List.length_set]; omega), idx_of (i + n / 32 + 1) rfl (by rw [List.length_set]; omega)]
        simp only [bnd_val]
        rw [getD_set (by omega), if_neg (by omega), hz (i + n / 32 + 1) (by omega)]
        rw [show min (n % 32) 64 = n % 32 by omega]
        generalize hy : a.getD i 0 = y at *
        generalize hoo : t.getD (i + n / 32) 0 = o at *
        generalize hPP : (2 : Int) ^ (n % 32) = P at *
        generalize (2 : Int) ^ (32 - n % 32) = Qq at *
        have b1 : 0 ≤ y * P := Int.mul_nonneg hda.1 (by omega)
        have b2 : y * P ≤ 4294967295 * P := Int.mul_le_mul_of_nonneg_right (by omega) (by omega)
        rw [wrap_u64 (x := y) (by omega), wrap_u64 (x := y * P) (by omega), wrap_u32_mod, wrap_u32_mod, show (2 : Int) ^ 32 = 4294967296 from rfl, Int.fdiv_eq_ediv_of_nonneg _ (by decide)]
        have e3 : y * P % 4294967296 = P * (y % Qq) := by
          rw [← hPQ, Int.mul_comm y P, Int.mul_emod_mul_of_pos _ _ hP]
        have b3 : 0 ≤ y % Qq := Int.emod_nonneg _ (by omega)
        have b4 : P * (y % Qq + 1) ≤ P * Qq := Int.mul_le_mul_of_nonneg_left (by have := Int.emod_lt_of_pos y hQ; omega) (by omega)
        rw [Int.mul_add, Int.mul_one] at b4
        have e4 : ibits Go.BinOp.or Go.IntKind.u32 o (y * P % 4294967296) = o + y * P % 4294967296 :=
          or32 (n % 32) (q := y % Qq) (by rw [hPP]; omega) (by rw [hPP]; exact e3) b3 (by omega)
        have e5 : ibits Go.BinOp.or Go.IntKind.u32 0 (y * P / 4294967296 % 4294967296) = y * P / 4294967296 := by
          rw [or32 0 (q := y * P / 4294967296 % 4294967296) (by simp) (by simp) (by omega) (by omega)]; omega
        rw [e4, e5]
        have s1 := val_set 4294967296 (o + y * P % 4294967296) (i + n / 32) t (by omega)
        have s2 := val_set 4294967296 (y * P / 4294967296) (i + n / 32 + 1) (t.set (i + n / 32) (o + y * P % 4294967296)) (by rw [List.length_set]; omega)
        rw [getD_set (by omega), if_neg (by omega), hz (i + n / 32 + 1) (by omega), s1, hoo, Int.pow_succ] at s2
        have c1 : 0 ≤ o + y * P % 4294967296 ∧ o + y * P % 4294967296 < 4294967296 := by omega
        have c2 : 0 ≤ y * P / 4294967296 ∧ y * P / 4294967296 < P := by omega
        refine Or.inr ⟨(_, _), rfl, ⟨i + 1, ?_, by omega, by simp only [List.length_set]; exact hl, (hd.set c1 _).set (by omega) _, fun x hx => ?_, ?_, ?_⟩, ?_⟩
        · simp only; rw [wrap_i64 (by omega)]; omega
        · simp only
          rw [getD_set (by rw [List.length_set]; omega), if_neg (by omega), getD_set (by omega), if_neg (by omega)]
          exact hz x (by omega)
        · simp only
          rw [show i + 1 + n / 32 = i + n / 32 + 1 by omega, getD_set (by rw [List.length_set]; omega), if_pos rfl]
          exact c2.2
        · simp only
          rw [s2, htk, hv, hpow, Int.pow_add]
          have hq : y * P = 4294967296 * (y * P / 4294967296) + y * P % 4294967296 := by omega
          generalize y * P / 4294967296 = hh at *
          generalize y * P % 4294967296 = ll at *
          generalize (4294967296 : Int) ^ i = A at *
          generalize (4294967296 : Int) ^ (n / 32) = C at *
          have : C * P * (A * y) = C * A * (y * P) := by grind
          grind
        · simp only; rw [wrap_i64 (by omega)]; omega
      · have e : i = a.length := by omega
        subst e
        rw [br_neg (by omega)]
        rw [List.take_length] at hv
        exact Or.inl ⟨(_, _), rfl, hl, hd, hv⟩)
    (s := ((0 : Int), List.replicate (a.length + n / 32 + 1) 0)) ⟨0, rfl, by omega, by simp, Dig.replicate (by decide) _, fun t _ => getD_replicate _ _, by rw [getD_replicate]; exact hP, by simp [val_replicate, val]⟩
  unfold W.whole_left
  rw [e1, wrap_i64 (x := ((n / 32 : Nat) : Int)) (by omega), wrap_i64 (x := (a.length : Int) + ((n / 32 : Nat) : Int)) (by omega), wrap_i64 (by omega), okIf_true (by simp; omega), bnd_val, show ((a.length : Int) + ((n / 32 : Nat) : Int) + 1).toNat = a.length + n / 32 + 1 by omega, h1, bnd_val]
  exact ⟨t, rfl, hd, ht, hv⟩
end Go.Ql
end

section
/- Whole numbers shifted to the right. -/
namespace Go.Ql
theorem getD_drop (l : List Int) (k i : Nat) : (l.drop k).getD i 0 = l.getD (k + i) 0 := by
  simp [List.getD, List.getElem?_drop]
theorem val_cut (B : Int) (l : List Int) (k : Nat) (h : k ≤ l.length) : val B l = val B (l.take k) + B ^ k * val B (l.drop k) := by
  have := val_append B (l.drop k) (l.take k)
  rw [List.take_append_drop, show (l.take k).length = k by rw [List.length_take]; omega] at this
  exact this
/-- The digits of the number, shifted by less than a digit. -/
theorem right_loop (a : List Int) (n : Nat) (ha : Dig 4294967296 a) (la : a.length < 100000000) (hn : n < 10000000000) (hk : n / 32 < a.length) :
    ∃ r : Int × List Int, iter (fun s : Int × List Int ↦ W.whole_right.c100011 a (n : Int) ((a.length - n / 32 : Nat) : Int) (Prod.fst s) (Prod.snd s) Option.some) ((0 : Int), List.replicate (a.length - n / 32) 0) = some r ∧
      r.2.length = a.length - n / 32 ∧ Dig 4294967296 r.2 ∧ val 4294967296 (a.drop (n / 32)) = 2 ^ (n % 32) * val 4294967296 r.2 + a.getD (n / 32) 0 % 2 ^ (n % 32) := by
  obtain ⟨hP, hP2, hPQ, hQ⟩ := two_parts (n % 32) (by omega)
  have e1 : Int.tdiv (n : Int) 32 = ((n / 32 : Nat) : Int) := by rw [tdiv_pos (by omega)]; omega
  have e2 : Int.tmod (n : Int) 32 = ((n % 32 : Nat) : Int) := by rw [tmod_pos (by omega)]; omega
  exact iter_loop
    (f := fun s : Int × List Int ↦ W.whole_right.c100011 a (n : Int) ((a.length - n / 32 : Nat) : Int) (Prod.fst s) (Prod.snd s) Option.some)
    (J := fun s => ∃ i : Nat, s.1 = i ∧ i ≤ a.length - n / 32 ∧ s.2.length = a.length - n / 32 ∧ Dig 4294967296 s.2 ∧
      2 ^ (n % 32) * val 4294967296 (s.2.take i) = val 4294967296 ((a.drop (n / 32)).take i) - a.getD (n / 32) 0 % 2 ^ (n % 32) + 4294967296 ^ i * (a.getD (n / 32 + i) 0 % 2 ^ (n % 32)))
    (Q := fun r => r.2.length = a.length - n / 32 ∧ Dig 4294967296 r.2 ∧ val 4294967296 (a.drop (n / 32)) = 2 ^ (n % 32) * val 4294967296 r.2 + a.getD (n / 32) 0 % 2 ^ (n % 32))
    (fun s => a.length - n / 32 - s.1.toNat) (fun ⟨i', t⟩ ⟨i, hi, hil, hl, hd, hv⟩ => by
      simp only at hi hl hd hv ⊢
      subst hi
      simp only [W.whole_right.c100011]
      by_cases h0 : i < a.length - n / 32
      · rw [br_pos (by omega)]
        have hda := ha.getD (by decide) (n / 32 + i)
        have hdb := ha.getD (by decide) (n / 32 + i + 1)
        have htk := val_take_succ 4294967296 i (a.drop (n / 32))
        rw [getD_drop] at htk
        have hb5 : 0 ≤ a.getD (n / 32 + i + 1) 0 % 2 ^ (n % 32) := Int.emod_nonneg _ (by omega)
        have hb6 := Int.emod_lt_of_pos (a.getD (n / 32 + i + 1) 0) hP
        have c : W.whole_right.c249162 a (n : Int) (i : Int) t Option.some = some (t.set i (a.getD (n / 32 + i) 0 / 2 ^ (n % 32) + 2 ^ (32 - n % 32) * (a.getD (n / 32 + i + 1) 0 % 2 ^ (n % 32)))) := by
          unfold W.whole_right.c249162
          rw [e1, e2, wrap_i64 (x := ((n / 32 : Nat) : Int)) (by omega), wrap_i64 (x := (i : Int) + ((n / 32 : Nat) : Int)) (by omega), idx_of (n / 32 + i) (by omega) (by omega), okIf_true (by simp; omega), inR_of (by omega) (by omega), idx_of i rfl (by omega)]
          simp only [bnd_val, Int.toNat_natCast]
          rw [show min (n % 32) 32 = n % 32 by omega, Int.fdiv_eq_ediv_of_nonneg _ (by omega)]
          have e14 : W.whole_right.c14 a (n : Int) (i : Int) Option.some = some (decide (n / 32 + i + 1 < a.length ∧ 0 < n % 32)) := by
            unfold W.whole_right.c14
            rw [e1, e2, wrap_i64 (x := ((n / 32 : Nat) : Int)) (by omega), wrap_i64 (x := (i : Int) + ((n / 32 : Nat) : Int)) (by omega), wrap_i64 (by omega)]
            by_cases h : n / 32 + i + 1 < a.length
            · rw [br_pos (by omega)]
              congr 1
              rw [decide_eq_decide]; omega
            · rw [br_neg (by omega), decide_eq_false (by omega)]
          rw [e14, bnd_val]
          by_cases h : n / 32 + i + 1 < a.length ∧ 0 < n % 32
          · rw [br_pos h]
            unfold W.whole_right.c15
            rw [e1, e2, wrap_i64 (x := ((n / 32 : Nat) : Int)) (by omega), wrap_i64 (x := (i : Int) + ((n / 32 : Nat) : Int)) (by omega), wrap_i64 (x := (i : Int) + ((n / 32 : Nat) : Int) + 1) (by omega), wrap_i64 (x := 32 - ((n % 32 : Nat) : Int)) (by omega)]
            rw [inR_of (by omega) (by rw [List.length_set]; omega), idx_of i rfl (by rw [List.length_set]; omega), idx_of (n / 32 + i + 1) (by omega) (by omega), okIf_true (by simp; omega)]
            simp only [bnd_val]
            rw [getD_set (by omega), if_pos rfl, show min (32 - ((n % 32 : Nat) : Int)).toNat 32 = 32 - n % 32 by omega, wrap_u32_mod]
            have e3 : a.getD (n / 32 + i + 1) 0 * 2 ^ (32 - n % 32) % 4294967296 = 2 ^ (32 - n % 32) * (a.getD (n / 32 + i + 1) 0 % 2 ^ (n % 32)) := by
              rw [← hPQ, Int.mul_comm, Int.mul_comm (2 ^ (n % 32)), Int.mul_emod_mul_of_pos _ _ hQ]
            rw [e3]
            have b1 : 0 ≤ a.getD (n / 32 + i) 0 / 2 ^ (n % 32) := Int.ediv_nonneg hda.1 (by omega)
            have b2 : a.getD (n / 32 + i) 0 / 2 ^ (n % 32) < 2 ^ (32 - n % 32) := Int.ediv_lt_of_lt_mul hP (by rw [Int.mul_comm, hPQ]; exact hda.2)
            have b3 : 2 ^ (32 - n % 32) * (a.getD (n / 32 + i + 1) 0 % 2 ^ (n % 32) + 1) ≤ 2 ^ (32 - n % 32) * 2 ^ (n % 32) := Int.mul_le_mul_of_nonneg_left (by omega) (by omega)
            rw [Int.mul_comm (2 ^ (32 - n % 32)) (2 ^ (n % 32)), hPQ, Int.mul_add] at b3
            rw [or32 (32 - n % 32) (q := a.getD (n / 32 + i + 1) 0 % 2 ^ (n % 32)) ⟨b1, b2⟩ rfl hb5 (by omega), Int.toNat_natCast, List.set_set]
          · rw [br_neg h]
            have hz : a.getD (n / 32 + i + 1) 0 % 2 ^ (n % 32) = 0 := by
              by_cases h1 : n / 32 + i + 1 < a.length
              · have : n % 32 = 0 := by omega
                rw [this]; simp
              · rw [getD_out (by omega)]; simp
            rw [hz, Int.mul_zero, Int.add_zero]
        rw [c, bnd_val, wrap_i64 (by omega)]
        have hb7 : 0 ≤ a.getD (n / 32 + i) 0 % 2 ^ (n % 32) := Int.emod_nonneg _ (by omega)
        have hdiv := Int.mul_ediv_add_emod (a.getD (n / 32 + i) 0) (2 ^ (n % 32))
        generalize a.getD (n / 32 + i) 0 = x at *
        have b1 : 0 ≤ x / 2 ^ (n % 32) := Int.ediv_nonneg hda.1 (by omega)
        have b2 : x / 2 ^ (n % 32) < 2 ^ (32 - n % 32) := Int.ediv_lt_of_lt_mul hP (by rw [Int.mul_comm, hPQ]; exact hda.2)
        have b3 : 2 ^ (32 - n % 32) * (a.getD (n / 32 + i + 1) 0 % 2 ^ (n % 32) + 1) ≤ 2 ^ (32 - n % 32) * 2 ^ (n % 32) := Int.mul_le_mul_of_nonneg_left (by omega) (by omega)
        rw [Int.mul_comm (2 ^ (32 - n % 32)) (2 ^ (n % 32)), hPQ, Int.mul_add] at b3
        have b4 : 0 ≤ 2 ^ (32 - n % 32) * (a.getD (n / 32 + i + 1) 0 % 2 ^ (n % 32)) := Int.mul_nonneg (by omega) hb5
        refine Or.inr ⟨(_, _), rfl, ⟨i + 1, by simp, by omega, by simp only [List.length_set]; exact hl, hd.set (by omega) i, ?_⟩, by simp only; omega⟩
        simp only
        have hset := val_take_succ 4294967296 i (t.set i (x / 2 ^ (n % 32) + 2 ^ (32 - n % 32) * (a.getD (n / 32 + i + 1) 0 % 2 ^ (n % 32))))
        rw [List.take_set_of_le (Nat.le_refl _), getD_set (by omega), if_pos rfl] at hset
        rw [hset, htk, show n / 32 + (i + 1) = n / 32 + i + 1 by omega, Int.pow_succ]
        generalize a.getD (n / 32 + i + 1) 0 % 2 ^ (n % 32) = r1 at *
        generalize x % 2 ^ (n % 32) = r0 at *
        generalize x / 2 ^ (n % 32) = q at *
        generalize (2 : Int) ^ (n % 32) = P at *
        generalize (2 : Int) ^ (32 - n % 32) = Qq at *
        generalize (4294967296 : Int) ^ i = A at *
        have : P * (A * (q + Qq * r1)) = A * (P * q) + A * (P * Qq) * r1 := by grind
        rw [hPQ] at this
        grind
      · have e : i = a.length - n / 32 := by omega
        subst e
        rw [br_neg (by omega)]
        rw [getD_out (l := a) (i := n / 32 + (a.length - n / 32)) (by omega), List.take_of_length_le (by omega), List.take_of_length_le (by rw [List.length_drop]; omega)] at hv
        simp only [Int.zero_emod, Int.mul_zero, Int.add_zero] at hv
        exact Or.inl ⟨(_, _), rfl, hl, hd, by simp only; omega⟩)
    (s := ((0 : Int), List.replicate (a.length - n / 32) 0)) ⟨0, rfl, by omega, by simp, Dig.replicate (by decide) _, by simp only [List.take_zero, val, Nat.add_zero, Int.pow_zero]; omega⟩
theorem lost_loop (l : List Int) (hl : Dig 4294967296 l) (b : Bool) (hL : l.length < 100000000) :
    ∃ r : Bool × Int, iter (fun s : Bool × Int ↦ W.whole_right.c100005 (Prod.fst s) l (l.length : Int) (Prod.snd s) Option.some) (b, (0 : Int)) = some r ∧ r.1 = (b || decide (val 4294967296 l ≠ 0)) :=
  iter_loop
    (f := fun s : Bool × Int ↦ W.whole_right.c100005 (Prod.fst s) l (l.length : Int) (Prod.snd s) Option.some)
    (J := fun s => ∃ i : Nat, s.2 = i ∧ i ≤ l.length ∧ s.1 = (b || decide (val 4294967296 (l.take i) ≠ 0)))
    (Q := fun r => r.1 = (b || decide (val 4294967296 l ≠ 0)))
    (fun s => l.length - s.2.toNat) (fun ⟨c, i'⟩ ⟨i, hi, hil, hc⟩ => by
      simp only at hi hc ⊢
      subst hi
      simp only [W.whole_right.c100005]
      by_cases h0 : i < l.length
      · have e : W.whole_right.c7 c (l.getD i 0) Option.some = some (c || decide (l.getD i 0 ≠ 0)) := by
          unfold W.whole_right.c7
          cases c
          · rw [br_ff]
            congr 1
            generalize l.getD i 0 = x
            by_cases h : x = 0
            · subst h; rfl
            · rw [decide_eq_true h]; simp [h]
          · rfl
        rw [br_pos (by omega), idx_of i rfl h0, bnd_val, e, bnd_val, wrap_i64 (by omega)]
        have h1 := val_take_succ 4294967296 i l
        have h2 := val_nonneg (B := 4294967296) (by decide) (hl.take i)
        have h3 := hl.getD (by decide) i
        have h4 : (0 : Int) < 4294967296 ^ i := Int.pow_pos (by decide)
        have h5 : 0 ≤ 4294967296 ^ i * l.getD i 0 := Int.mul_nonneg (by omega) h3.1
        refine Or.inr ⟨(_, _), rfl, ⟨i + 1, by simp, by omega, ?_⟩, by simp only; omega⟩
        simp only
        rw [hc, Bool.or_assoc]
        congr 1
        by_cases h6 : l.getD i 0 = 0
        · rw [h6, Int.mul_zero, Int.add_zero] at h1
          rw [h1, h6]; simp
        · have h7 : 0 < 4294967296 ^ i * l.getD i 0 := Int.mul_pos h4 (by omega)
          rw [decide_eq_true h6, decide_eq_true (p := val 4294967296 (l.take (i + 1)) ≠ 0) (by omega)]; simp
      · have e : i = l.length := by omega
        subst e
        rw [List.take_length] at hc
        rw [br_neg (by omega)]
        exact Or.inl ⟨(_, _), rfl, hc⟩)
    (s := (b, (0 : Int))) ⟨0, rfl, by omega, by simp [val]⟩
theorem right_ok (a : List Int) (n : Nat) (ha : Dig 4294967296 a) (la : a.length < 100000000) (hn : n < 10000000000) :
    ∃ t lost, W.whole_right a (n : Int) = some (t, lost) ∧ Dig 4294967296 t ∧ t.length ≤ a.length ∧ val 4294967296 t = val 4294967296 a / 2 ^ n ∧ (Trim a → lost = decide (val 4294967296 a % 2 ^ n ≠ 0)) := by
  obtain ⟨hP, hP2, hPQ, hQ⟩ := two_parts (n % 32) (by omega)
  have e1 : Int.tdiv (n : Int) 32 = ((n / 32 : Nat) : Int) := by rw [tdiv_pos (by omega)]; omega
  have e2 : Int.tmod (n : Int) 32 = ((n % 32 : Nat) : Int) := by rw [tmod_pos (by omega)]; omega
  have hpow := pow_split n
  have hv0 := val_nonneg (B := 4294967296) (by decide) ha
  have hBk : (0 : Int) < 4294967296 ^ (n / 32) := Int.pow_pos (by decide)
  unfold W.whole_right
  rw [e1, wrap_i64 (x := ((n / 32 : Nat) : Int)) (by omega)]
  by_cases hk : n / 32 < a.length
  · rw [br_neg (by omega)]
    have hx := ha.getD (by decide) (n / 32)
    have c3 : W.whole_right.c3 a (n : Int) Option.some = some (decide (a.getD (n / 32) 0 % 2 ^ (n % 32) ≠ 0)) := by
      unfold W.whole_right.c3
      rw [e1, e2, wrap_i64 (x := ((n / 32 : Nat) : Int)) (by omega), wrap_i64 (x := 32 - ((n % 32 : Nat) : Int)) (by omega), idx_of (n / 32) rfl hk, okIf_true (by simp; omega)]
      simp only [bnd_val]
      rw [show min (32 - ((n % 32 : Nat) : Int)).toNat 32 = 32 - n % 32 by omega, wrap_u32_mod]
      have e3 : a.getD (n / 32) 0 * 2 ^ (32 - n % 32) % 4294967296 = 2 ^ (32 - n % 32) * (a.getD (n / 32) 0 % 2 ^ (n % 32)) := by
        rw [← hPQ, Int.mul_comm, Int.mul_comm (2 ^ (n % 32)), Int.mul_emod_mul_of_pos _ _ hQ]
      rw [e3]
      by_cases h : a.getD (n / 32) 0 % 2 ^ (n % 32) = 0
      · rw [h, Int.mul_zero]; rfl
      · have h1 : 0 ≤ a.getD (n / 32) 0 % 2 ^ (n % 32) := Int.emod_nonneg _ (by omega)
        have h2 : 0 < 2 ^ (32 - n % 32) * (a.getD (n / 32) 0 % 2 ^ (n % 32)) := Int.mul_pos hQ (by omega)
        have h3 : n % 32 ≠ 0 := fun e => h (by rw [e]; simp)
        rw [br_true (by simp only [bne_iff_ne]; omega), decide_eq_true h, decide_eq_true (by omega)]
    obtain ⟨⟨b, i0⟩, h1, h2⟩ := lost_loop (a.take (n / 32)) (ha.take _) (decide (a.getD (n / 32) 0 % 2 ^ (n % 32) ≠ 0)) (by rw [List.length_take]; omega)
    obtain ⟨⟨i1, t⟩, h3, h4, h5, h6⟩ := right_loop a n ha la hn hk
    simp only at h2 h4 h5 h6
    have hlr : (List.replicate (a.length - n / 32) (0 : Int)).length = a.length - n / 32 := List.length_replicate
    rw [c3, bnd_val, okIf_true (by simp; omega), bnd_val, Int.toNat_natCast, h1, bnd_val]
    rw [wrap_i64 (by omega), okIf_true (by simp; omega), bnd_val, show ((a.length : Int) - ((n / 32 : Nat) : Int)).toNat = a.length - n / 32 by omega, hlr, h3, bnd_val]
    have hcut := val_cut 4294967296 a (n / 32) (by omega)
    have hlow := val_lt (B := 4294967296) (by decide) (ha.take (n / 32))
    have hlow0 := val_nonneg (B := 4294967296) (by decide) (ha.take (n / 32))
    rw [show (a.take (n / 32)).length = n / 32 by rw [List.length_take]; omega] at hlow
    rw [h6] at hcut
    have hr0 : 0 ≤ a.getD (n / 32) 0 % 2 ^ (n % 32) := Int.emod_nonneg _ (by omega)
    have hr1 := Int.emod_lt_of_pos (a.getD (n / 32) 0) hP
    generalize a.getD (n / 32) 0 % 2 ^ (n % 32) = r at *
    have hb1 : 4294967296 ^ (n / 32) * (r + 1) ≤ 4294967296 ^ (n / 32) * 2 ^ (n % 32) := Int.mul_le_mul_of_nonneg_left (by omega) (by omega)
    rw [Int.mul_add, Int.mul_one] at hb1
    have hb2 : 0 ≤ 4294967296 ^ (n / 32) * r := Int.mul_nonneg (by omega) hr0
    have hsum : val 4294967296 a = (val 4294967296 (a.take (n / 32)) + 4294967296 ^ (n / 32) * r) + 2 ^ n * val 4294967296 t := by
      rw [hcut, hpow]; grind
    refine ⟨t, b, rfl, h5, by omega, ?_, fun _ => ?_⟩
    · rw [hsum, Int.add_mul_ediv_left _ _ (by rw [hpow]; exact Int.ne_of_gt (Int.mul_pos hBk hP)), Int.ediv_eq_zero_of_lt (by omega) (by rw [hpow]; omega)]
      omega
    · rw [h2, hsum, Int.add_mul_emod_self_left, Int.emod_eq_of_lt (by omega) (by rw [hpow]; omega)]
      by_cases hr : r = 0
      · rw [hr]; simp
      · have : 0 < 4294967296 ^ (n / 32) * r := Int.mul_pos hBk (by omega)
        rw [decide_eq_true hr, decide_eq_true (p := _ + _ ≠ (0 : Int)) (by omega)]; rfl
  · rw [br_pos (by omega)]
    have hlt := val_lt (B := 4294967296) (by decide) ha
    have hle := pow_le (B := 4294967296) (by decide) (show a.length ≤ n / 32 by omega)
    have h2 : 4294967296 ^ (n / 32) * 1 ≤ 4294967296 ^ (n / 32) * (2 : Int) ^ (n % 32) := Int.mul_le_mul_of_nonneg_left (by omega) (by omega)
    refine ⟨[], _, rfl, Dig.nil, by simp, ?_, fun ht => ?_⟩
    · rw [Int.ediv_eq_zero_of_lt hv0 (by rw [hpow]; omega)]; rfl
    · rw [Int.emod_eq_of_lt hv0 (by rw [hpow]; omega), decide_eq_decide]
      by_cases h0 : a = []
      · subst h0; simp [val]
      · have h0' : a.length ≠ 0 := fun e => h0 (List.eq_nil_of_length_eq_zero e)
        have := val_ge (by decide) ha ht h0
        have : (0 : Int) < 4294967296 ^ (a.length - 1) := Int.pow_pos (by decide)
        constructor <;> omega
end Go.Ql
end

section
/- Division: what is taken away and given back. -/
namespace Go.Ql
theorem and_low {x : Int} (h : 0 ≤ x ∧ x < 18446744073709551616) : ibits Go.BinOp.and Go.IntKind.u64 x 4294967295 = x % 4294967296 := by
  obtain ⟨a, rfl⟩ : ∃ n : Nat, x = n := ⟨x.toNat, by omega⟩
  have e : (BitVec.ofInt IntKind.u64.bits (a : Int) &&& BitVec.ofInt IntKind.u64.bits (4294967295 : Int)).toNat = a % 4294967296 := by
    rw [BitVec.toNat_and, BitVec.toNat_ofInt, BitVec.toNat_ofInt]
    have e1 : ((a : Int) % ((2 ^ IntKind.u64.bits : Nat) : Int)).toNat = a := by
      show ((a : Int) % 18446744073709551616).toNat = a
      omega
    have e2 : ((4294967295 : Int) % ((2 ^ IntKind.u64.bits : Nat) : Int)).toNat = 2 ^ 32 - 1 := by decide
    rw [e1, e2, Nat.and_two_pow_sub_one_eq_mod]
  show IntKind.u64.wrap ((BitVec.ofInt IntKind.u64.bits (a : Int) &&& BitVec.ofInt IntKind.u64.bits (4294967295 : Int)).toNat : Int) = _
  rw [e, wrap_u64 (by omega)]
  omega
theorem take_ok (A v : List Int) (j : Nat) (g : Int) (hA : Dig 4294967296 A) (hv : Dig 4294967296 v) (hg : 0 ≤ g ∧ g < 4294967296) (hj : j + v.length + 1 ≤ A.length) (hL : A.length < 1000000000) :
    ∃ (f : Bool) (t : List Int), W.whole_takeAway (j : Int) ((v.length + 1 : Nat) : Int) v g A = some (f, t, ()) ∧ Dig 4294967296 t ∧ t.length = A.length ∧ (∀ x, j + v.length < x → t.getD x 0 = A.getD x 0) ∧
      val 4294967296 t + 4294967296 ^ j * (g * val 4294967296 v) = val 4294967296 A + 4294967296 ^ (j + v.length + 1) * (if f then 1 else 0) := by
  obtain ⟨⟨bo, ca, i, t⟩, h1, hb0, hb1, hc0, hc1, hd, hl, hu, hval⟩ := iter_loop
    (f := fun s : Int × Int × Int × List Int ↦ W.whole_takeAway.c100003 (j : Int) ((v.length + 1 : Nat) : Int) g (Prod.fst s) (Prod.fst (Prod.snd s)) v (v.length : Int) (Prod.fst (Prod.snd (Prod.snd s))) (Prod.snd (Prod.snd (Prod.snd s))) Option.some)
    (J := fun s => ∃ i : Nat, s.2.2.1 = i ∧ i ≤ v.length ∧ 0 ≤ s.1 ∧ s.1 ≤ 1 ∧ 0 ≤ s.2.1 ∧ s.2.1 < 4294967296 ∧ Dig 4294967296 s.2.2.2 ∧ s.2.2.2.length = A.length ∧ (∀ x, j + i ≤ x → s.2.2.2.getD x 0 = A.getD x 0) ∧
      val 4294967296 s.2.2.2 + 4294967296 ^ j * (g * val 4294967296 (v.take i)) = val 4294967296 A + 4294967296 ^ (j + i) * (s.1 + s.2.1))
    (Q := fun s => 0 ≤ s.1 ∧ s.1 ≤ 1 ∧ 0 ≤ s.2.1 ∧ s.2.1 < 4294967296 ∧ Dig 4294967296 s.2.2.2 ∧ s.2.2.2.length = A.length ∧ (∀ x, j + v.length ≤ x → s.2.2.2.getD x 0 = A.getD x 0) ∧
      val 4294967296 s.2.2.2 + 4294967296 ^ j * (g * val 4294967296 v) = val 4294967296 A + 4294967296 ^ (j + v.length) * (s.1 + s.2.1))
    (fun s => v.length - s.2.2.1.toNat) (fun ⟨bo, ca, i', t⟩ ⟨i, hi, hil, hb0, hb1, hc0, hc1, hd, hl, hu, hval⟩ => by
      simp only at hi hb0 hb1 hc0 hc1 hd hl hu hval ⊢
      subst hi
      simp only [W.whole_takeAway.c100003]
      by_cases h0 : i < v.length
      · have hy := hv.getD (by decide) i
        have hx := hd.getD (by decide) (j + i)
        have htk := val_take_succ 4294967296 i v
        rw [br_pos (by omega), idx_of i rfl h0, okIf_true (by simp; omega), show (j : Int) + (i : Int) = ((j + i : Nat) : Int) by omega, idx_of (j + i) rfl (by omega)]
        simp only [bnd_val, Int.toNat_natCast]
        generalize v.getD i 0 = y at *
        have hset := fun d => val_set 4294967296 d (j + i) t (by omega)
        generalize hxx : t.getD (j + i) 0 = x at *
        have b1 : 0 ≤ y * g := Int.mul_nonneg hy.1 hg.1
        have b2 : y * g ≤ 4294967295 * 4294967295 := Int.mul_le_mul (by omega) (by omega) (by omega) (by omega)
        rw [wrap_u64 (x := y) (by omega), wrap_u64 (x := g) (by omega), wrap_u64 (x := x) (by omega), wrap_u64 (x := y * g) (by omega), wrap_u64 (x := ca + y * g) (by omega), and_low (by omega), wrap_u32_mod, wrap_i64 (by omega), show (2 : Int) ^ 32 = 4294967296 from rfl, show (2 : Int) ^ 63 = 9223372036854775808 from rfl, Int.fdiv_eq_ediv_of_nonneg _ (by decide), Int.fdiv_eq_ediv_of_nonneg _ (by decide), u64_mod, u64_mod]
        have d1 : (x - (ca + y * g) % 4294967296 - bo) = ((x - (ca + y * g) % 4294967296) % 18446744073709551616 - bo) % 18446744073709551616 % 4294967296 - 4294967296 * (((x - (ca + y * g) % 4294967296) % 18446744073709551616 - bo) % 18446744073709551616 / 9223372036854775808) := by omega
        have d2 : 0 ≤ ((x - (ca + y * g) % 4294967296) % 18446744073709551616 - bo) % 18446744073709551616 / 9223372036854775808 ∧ ((x - (ca + y * g) % 4294967296) % 18446744073709551616 - bo) % 18446744073709551616 / 9223372036854775808 ≤ 1 := by omega
        have hset' := hset (((x - (ca + y * g) % 4294967296) % 18446744073709551616 - bo) % 18446744073709551616 % 4294967296)
        refine Or.inr ⟨(_, _, _, _), rfl, ⟨i + 1, by simp, by omega, d2.1, d2.2, by simp only; omega, by simp only; omega, hd.set (by omega) _, by simp only [List.length_set]; exact hl, fun z hz => ?_, ?_⟩, by simp only; omega⟩
        · simp only
          rw [getD_set (by omega), if_neg (by omega)]
          exact hu z (by omega)
        · simp only
          rw [hset', htk, show j + (i + 1) = j + i + 1 by omega, Int.pow_succ]
          have d3 : ca + y * g = 4294967296 * ((ca + y * g) / 4294967296) + (ca + y * g) % 4294967296 := by omega
          generalize ((x - (ca + y * g) % 4294967296) % 18446744073709551616 - bo) % 18446744073709551616 / 9223372036854775808 = bo' at *
          generalize ((x - (ca + y * g) % 4294967296) % 18446744073709551616 - bo) % 18446744073709551616 % 4294967296 = d at *
          generalize (ca + y * g) % 4294967296 = cl at *
          generalize (ca + y * g) / 4294967296 = ch at *
          rw [Int.pow_add] at hval ⊢
          generalize (4294967296 : Int) ^ i = P at *
          generalize (4294967296 : Int) ^ j = R at *
          have d4 : y * g = 4294967296 * ch + cl - ca := by omega
          have : R * (g * (P * y)) = R * P * (y * g) := by grind
          rw [d4] at this
          have d5 : d = x - cl - bo + 4294967296 * bo' := by omega
          subst d5
          grind
      · have e : i = v.length := by omega
        subst e
        rw [List.take_length] at hval
        rw [br_neg (by omega)]
        exact Or.inl ⟨(_, _, _, _), rfl, hb0, hb1, hc0, hc1, hd, hl, hu, hval⟩)
    (s := ((0 : Int), (0 : Int), (0 : Int), A)) ⟨0, rfl, by omega, by simp, by simp, by simp, by simp, hA, rfl, fun _ _ => rfl, by simp [val]⟩
  simp only at hb0 hb1 hc0 hc1 hd hl hu hval
  have hx := hd.getD (by decide) (j + v.length)
  unfold W.whole_takeAway
  rw [h1]
  simp only [bnd_val]
  rw [okIf_true (by simp; omega), show (j : Int) + (v.length : Int) = ((j + v.length : Nat) : Int) by omega, idx_of (j + v.length) rfl (by omega)]
  simp only [bnd_val, Int.toNat_natCast]
  have hset := fun d => val_set 4294967296 d (j + v.length) t (by omega)
  generalize t.getD (j + v.length) 0 = x at *
  rw [wrap_u64 (x := x) (by omega), wrap_u32_mod, show (2 : Int) ^ 63 = 9223372036854775808 from rfl, Int.fdiv_eq_ediv_of_nonneg _ (by decide), u64_mod, u64_mod]
  have d1 : (x - ca - bo) = ((x - ca) % 18446744073709551616 - bo) % 18446744073709551616 % 4294967296 - 4294967296 * (((x - ca) % 18446744073709551616 - bo) % 18446744073709551616 / 9223372036854775808) := by omega
  have d2 : 0 ≤ ((x - ca) % 18446744073709551616 - bo) % 18446744073709551616 / 9223372036854775808 ∧ ((x - ca) % 18446744073709551616 - bo) % 18446744073709551616 / 9223372036854775808 ≤ 1 := by omega
  have hset' := hset (((x - ca) % 18446744073709551616 - bo) % 18446744073709551616 % 4294967296)
  refine ⟨_, _, rfl, hd.set (by omega) _, by simp only [List.length_set]; exact hl, fun z hz => ?_, ?_⟩
  · rw [getD_set (by omega), if_neg (by omega)]
    exact hu z (by omega)
  · rw [hset', Int.pow_succ]
    have d3 : (if decide (((x - ca) % 18446744073709551616 - bo) % 18446744073709551616 / 9223372036854775808 > 0) = true then (1 : Int) else 0) = ((x - ca) % 18446744073709551616 - bo) % 18446744073709551616 / 9223372036854775808 := by
      generalize ((x - ca) % 18446744073709551616 - bo) % 18446744073709551616 / 9223372036854775808 = e at *
      rcases (by omega : e = 0 ∨ e = 1) with rfl | rfl <;> rfl
    rw [d3]
    generalize ((x - ca) % 18446744073709551616 - bo) % 18446744073709551616 / 9223372036854775808 = bo' at *
    generalize ((x - ca) % 18446744073709551616 - bo) % 18446744073709551616 % 4294967296 = d at *
    generalize (4294967296 : Int) ^ (j + v.length) = P at *
    have d5 : d = x - ca - bo + 4294967296 * bo' := by omega
    subst d5
    grind
theorem give_ok (A v : List Int) (j : Nat) (hA : Dig 4294967296 A) (hv : Dig 4294967296 v) (hj : j + v.length + 1 ≤ A.length) (hL : A.length < 1000000000) :
    ∃ (t : List Int) (e : Int), W.whole_giveBack (j : Int) ((v.length + 1 : Nat) : Int) v A = some (t, ()) ∧ Dig 4294967296 t ∧ t.length = A.length ∧ (∀ x, j + v.length < x → t.getD x 0 = A.getD x 0) ∧
      val 4294967296 t + 4294967296 ^ (j + v.length + 1) * e = val 4294967296 A + 4294967296 ^ j * val 4294967296 v := by
  obtain ⟨⟨c, i, t⟩, h1, hc0, hc1, hd, hl, hu, hval⟩ := iter_loop
    (f := fun s : Int × Int × List Int ↦ W.whole_giveBack.c100002 (j : Int) ((v.length + 1 : Nat) : Int) (Prod.fst s) v (v.length : Int) (Prod.fst (Prod.snd s)) (Prod.snd (Prod.snd s)) Option.some)
    (J := fun s => ∃ i : Nat, s.2.1 = i ∧ i ≤ v.length ∧ 0 ≤ s.1 ∧ s.1 ≤ 1 ∧ Dig 4294967296 s.2.2 ∧ s.2.2.length = A.length ∧ (∀ x, j + i ≤ x → s.2.2.getD x 0 = A.getD x 0) ∧
      val 4294967296 s.2.2 + 4294967296 ^ (j + i) * s.1 = val 4294967296 A + 4294967296 ^ j * val 4294967296 (v.take i))
    (Q := fun s => 0 ≤ s.1 ∧ s.1 ≤ 1 ∧ Dig 4294967296 s.2.2 ∧ s.2.2.length = A.length ∧ (∀ x, j + v.length ≤ x → s.2.2.getD x 0 = A.getD x 0) ∧
      val 4294967296 s.2.2 + 4294967296 ^ (j + v.length) * s.1 = val 4294967296 A + 4294967296 ^ j * val 4294967296 v)
    (fun s => v.length - s.2.1.toNat) (fun ⟨c, i', t⟩ ⟨i, hi, hil, hc0, hc1, hd, hl, hu, hval⟩ => by
      simp only at hi hc0 hc1 hd hl hu hval ⊢
      subst hi
      simp only [W.whole_giveBack.c100002]
      by_cases h0 : i < v.length
      · have hy := hv.getD (by decide) i
        have hx := hd.getD (by decide) (j + i)
        have htk := val_take_succ 4294967296 i v
        rw [br_pos (by omega), idx_of i rfl h0, okIf_true (by simp; omega), show (j : Int) + (i : Int) = ((j + i : Nat) : Int) by omega, idx_of (j + i) rfl (by omega)]
        simp only [bnd_val, Int.toNat_natCast]
        generalize v.getD i 0 = y at *
        have hset := fun d => val_set 4294967296 d (j + i) t (by omega)
        generalize hxx : t.getD (j + i) 0 = x at *
        rw [add32_ok hx hy ⟨hc0, hc1⟩, bnd_val, wrap_i64 (by omega)]
        have hset' := hset ((x + y + c) % 4294967296)
        refine Or.inr ⟨(_, _, _), rfl, ⟨i + 1, by simp, by omega, by simp only; omega, by simp only; omega, hd.set (by omega) _, by simp only [List.length_set]; exact hl, fun z hz => ?_, ?_⟩, by simp only; omega⟩
        · simp only
          rw [getD_set (by omega), if_neg (by omega)]
          exact hu z (by omega)
        · simp only
          rw [hset', htk, show j + (i + 1) = j + i + 1 by omega, Int.pow_succ]
          have d3 : x + y + c = 4294967296 * ((x + y + c) / 4294967296) + (x + y + c) % 4294967296 := by omega
          generalize (x + y + c) / 4294967296 = hh at *
          generalize (x + y + c) % 4294967296 = ll at *
          rw [Int.pow_add] at hval ⊢
          generalize (4294967296 : Int) ^ i = P at *
          generalize (4294967296 : Int) ^ j = R at *
          have d4 : y = 4294967296 * hh + ll - x - c := by omega
          subst d4
          grind
      · have e : i = v.length := by omega
        subst e
        rw [List.take_length] at hval
        rw [br_neg (by omega)]
        exact Or.inl ⟨(_, _, _), rfl, hc0, hc1, hd, hl, hu, hval⟩)
    (s := ((0 : Int), (0 : Int), A)) ⟨0, rfl, by omega, by simp, by simp, hA, rfl, fun _ _ => rfl, by simp [val]⟩
  simp only at hc0 hc1 hd hl hu hval
  have hx := hd.getD (by decide) (j + v.length)
  unfold W.whole_giveBack
  rw [h1]
  simp only [bnd_val]
  rw [okIf_true (by simp; omega), show (j : Int) + (v.length : Int) = ((j + v.length : Nat) : Int) by omega, idx_of (j + v.length) rfl (by omega)]
  simp only [bnd_val, Int.toNat_natCast]
  have hset := val_set 4294967296 ((t.getD (j + v.length) 0 + c) % 4294967296) (j + v.length) t (by omega)
  generalize t.getD (j + v.length) 0 = x at *
  rw [wrap_u32_mod]
  refine ⟨_, (x + c) / 4294967296, rfl, hd.set (by omega) _, by simp only [List.length_set]; exact hl, fun z hz => ?_, ?_⟩
  · rw [getD_set (by omega), if_neg (by omega)]
    exact hu z (by omega)
  · rw [hset, Int.pow_succ, ← hval]
    have d3 : x + c = 4294967296 * ((x + c) / 4294967296) + (x + c) % 4294967296 := by omega
    generalize (x + c) / 4294967296 = hh at *
    generalize (x + c) % 4294967296 = ll at *
    generalize (4294967296 : Int) ^ (j + v.length) = P at *
    have d4 : x = 4294967296 * hh + ll - c := by omega
    subst d4
    grind
end Go.Ql
end

section
/- Division: the guess of a digit. -/
namespace Go.Ql
section
variable {W V P top v2 vl head x0 wl : Int}
/-- What is known of a digit's place: the divisor's two highest digits, the three highest of what is left. -/
structure Place (W V P top v2 vl head x0 wl : Int) : Prop where
  P0 : 0 < P
  hV : V = (top * 4294967296 + v2) * P + vl
  hW : W = (head * 4294967296 + x0) * P + wl
  top0 : 2147483648 ≤ top
  top1 : top < 4294967296
  v20 : 0 ≤ v2
  v21 : v2 < 4294967296
  vl0 : 0 ≤ vl
  vl1 : vl < P
  head0 : 0 ≤ head
  x00 : 0 ≤ x0
  x01 : x0 < 4294967296
  wl0 : 0 ≤ wl
  wl1 : wl < P
  hlt : W < V * 4294967296
theorem Place.Vpos (h : Place W V P top v2 vl head x0 wl) : 0 < V := by
  have h1 : 1 * P ≤ (top * 4294967296 + v2) * P := Int.mul_le_mul_of_nonneg_right (by have := h.top0; have := h.v20; omega) (by have := h.P0; omega)
  have := h.hV; have := h.P0; have := h.vl0
  omega
theorem lt_of_mul {a b P : Int} (hP : 0 < P) (h : a * P < b * P) : a < b := Int.lt_of_mul_lt_mul_right h (Int.le_of_lt hP)
theorem Place.head_le (h : Place W V P top v2 vl head x0 wl) : head ≤ 4294967296 * top + 4294967295 := by
  obtain ⟨P0, hV, hW, top0, top1, v20, v21, vl0, vl1, head0, x00, x01, wl0, wl1, hlt⟩ := h
  have h1 : V < (top * 4294967296 + v2 + 1) * P := by rw [hV, Int.add_mul _ 1]; omega
  have h2 : (head * 4294967296 + x0) * P < ((top * 4294967296 + v2 + 1) * 4294967296) * P := by
    have : V * 4294967296 ≤ (top * 4294967296 + v2 + 1) * P * 4294967296 := by omega
    have e : (top * 4294967296 + v2 + 1) * P * 4294967296 = ((top * 4294967296 + v2 + 1) * 4294967296) * P := by grind
    omega
  have h3 := lt_of_mul P0 h2
  omega
theorem Place.first (h : Place W V P top v2 vl head x0 wl) : W / V ≤ head / top := by
  have hVp := h.Vpos
  obtain ⟨P0, hV, hW, top0, top1, v20, v21, vl0, vl1, head0, x00, x01, wl0, wl1, hlt⟩ := h
  have h0 : 0 ≤ W := by rw [hW]; have := Int.mul_nonneg (show 0 ≤ head * 4294967296 + x0 by omega) (Int.le_of_lt P0); omega
  have hq : 0 ≤ W / V := Int.ediv_nonneg h0 (by omega)
  have hqV := Int.ediv_mul_le W (show V ≠ 0 by omega)
  generalize W / V = q at *
  apply Int.le_ediv_of_mul_le (by omega)
  have h1 : q * ((top * 4294967296) * P) ≤ q * V := Int.mul_le_mul_of_nonneg_left (by rw [hV, Int.add_mul]; have := Int.mul_nonneg v20 (Int.le_of_lt P0); omega) hq
  have h2 : W < (head * 4294967296 + x0 + 1) * P := by rw [hW, Int.add_mul _ 1]; omega
  have h3 : (q * top * 4294967296) * P < (head * 4294967296 + x0 + 1) * P := by
    have e : q * ((top * 4294967296) * P) = (q * top * 4294967296) * P := by grind
    omega
  have h4 := lt_of_mul P0 h3
  omega
theorem Place.less (h : Place W V P top v2 vl head x0 wl) {g rest : Int} (hg : 0 ≤ g) (hr : g * top + rest = head) (hc : rest * 4294967296 + x0 < g * v2) : W / V ≤ g - 1 := by
  have hVp := h.Vpos
  obtain ⟨P0, hV, hW, top0, top1, v20, v21, vl0, vl1, head0, x00, x01, wl0, wl1, hlt⟩ := h
  have h1 : (head * 4294967296 + x0 + 1) * P ≤ (g * (top * 4294967296 + v2)) * P := by
    apply Int.mul_le_mul_of_nonneg_right _ (Int.le_of_lt P0)
    rw [← hr, Int.mul_add]
    have : g * (top * 4294967296) = g * top * 4294967296 := by grind
    omega
  have h2 : W < (head * 4294967296 + x0 + 1) * P := by rw [hW, Int.add_mul _ 1]; omega
  have h3 : g * V = (g * (top * 4294967296 + v2)) * P + g * vl := by rw [hV]; grind
  have h5 := Int.mul_nonneg hg vl0
  have h4 : W / V < g := Int.ediv_lt_of_lt_mul hVp (by omega)
  omega
theorem Place.last (h : Place W V P top v2 vl head x0 wl) {g rest : Int} (hg : 0 ≤ g) (hg1 : g < 4294967296) (hr : g * top + rest = head) (hc : g * v2 ≤ rest * 4294967296 + x0) : g ≤ W / V + 1 := by
  have hVp := h.Vpos
  obtain ⟨P0, hV, hW, top0, top1, v20, v21, vl0, vl1, head0, x00, x01, wl0, wl1, hlt⟩ := h
  have h1 : (g * (top * 4294967296 + v2)) * P ≤ (head * 4294967296 + x0) * P := by
    apply Int.mul_le_mul_of_nonneg_right _ (Int.le_of_lt P0)
    rw [← hr, Int.mul_add]
    have : g * (top * 4294967296) = g * top * 4294967296 := by grind
    omega
  have h2 : g * vl ≤ 4294967295 * P := Int.mul_le_mul (by omega) (by omega) vl0 (by omega)
  have h3 : (2147483648 * 4294967296) * P ≤ (top * 4294967296 + v2) * P := Int.mul_le_mul_of_nonneg_right (by omega) (by omega)
  have h4 : g * V = (g * (top * 4294967296 + v2)) * P + g * vl := by rw [hV]; grind
  have h5 : (g - 1) * V ≤ W := by
    rw [Int.sub_mul]; omega
  have := Int.le_ediv_of_mul_le hVp h5
  omega
end
end Go.Ql
end

section
/- Division: one digit of the quotient. -/
namespace Go.Ql
theorem c12_ok {v t : List Int} {j : Nat} {guess rest : Int} (hv : Dig 4294967296 v) (ht : Dig 4294967296 t) (hn : 2 ≤ v.length) (hj : j + v.length + 1 ≤ t.length) (hL : t.length < 1000000000)
    (hg : 0 ≤ guess) (hr : 0 ≤ rest ∧ rest < 4294967296) :
    W.whole_quotient.c12 v (v.length : Int) (j : Int) guess rest t Option.some = some (decide (4294967296 ≤ guess ∨ rest * 4294967296 + t.getD (j + v.length - 2) 0 < guess * v.getD (v.length - 2) 0)) := by
  unfold W.whole_quotient.c12
  by_cases h : guess ≥ 4294967296
  · rw [br_pos h, decide_eq_true (Or.inl h)]
  · have hy := hv.getD (by decide) (v.length - 2)
    have hx := ht.getD (by decide) (j + v.length - 2)
    have b1 : 0 ≤ guess * v.getD (v.length - 2) 0 := Int.mul_nonneg hg hy.1
    have b2 : guess * v.getD (v.length - 2) 0 ≤ 4294967295 * 4294967295 := Int.mul_le_mul (by omega) (by omega) hy.1 (by omega)
    rw [br_neg h, wrap_i64 (x := (v.length : Int) - 2) (by omega), idx_of (v.length - 2) (by omega) (by omega), wrap_i64 (x := (j : Int) + (v.length : Int)) (by omega), wrap_i64 (by omega), inR_of (by omega) (by omega), idx_of (j + v.length - 2) (by omega) (by omega)]
    simp only [bnd_val]
    rw [or_add hr hx, wrap_u64 (x := v.getD (v.length - 2) 0) (by omega), wrap_u64 (by omega)]
    congr 1
    rw [decide_eq_decide]
    constructor
    · intro h'; exact Or.inr h'
    · intro h'; rcases h' with h' | h'
      · omega
      · exact h'
theorem guess_ok {v t : List Int} {j : Nat} {Wd V P top v2 vl head x0 wl : Int} (p : Place Wd V P top v2 vl head x0 wl) (hv : Dig 4294967296 v) (ht : Dig 4294967296 t) (hn : 2 ≤ v.length) (hj : j + v.length + 1 ≤ t.length) (hL : t.length < 1000000000)
    (e2 : v.getD (v.length - 2) 0 = v2) (e0 : t.getD (j + v.length - 2) 0 = x0) :
    ∃ r : Int × Int, iter (fun s : Int × Int ↦ W.whole_quotient.c100012 v (v.length : Int) top (j : Int) (Prod.fst s) (Prod.snd s) t Option.some) (IntKind.u64.wrap (Int.tdiv head top), Int.tmod head top) = some r ∧
      0 ≤ r.1 ∧ r.1 < 4294967296 ∧ Wd / V ≤ r.1 ∧ r.1 ≤ Wd / V + 1 := by
  have hle := p.head_le
  have hfirst := p.first
  have h0 := p.head0
  have t0 := p.top0
  have t1 := p.top1
  have x00 := p.x00
  have x01 := p.x01
  have v20 := p.v20
  have v21 := p.v21
  have hq0 : 0 ≤ Wd / V := by
    have hW0 : 0 ≤ Wd := by
      rw [p.hW]
      have := Int.mul_nonneg (show 0 ≤ head * 4294967296 + x0 by omega) (Int.le_of_lt p.P0)
      have := p.wl0
      omega
    exact Int.ediv_nonneg hW0 (Int.le_of_lt p.Vpos)
  have hqB : Wd / V < 4294967296 := Int.ediv_lt_of_lt_mul p.Vpos (by rw [Int.mul_comm]; exact p.hlt)
  have hd0 : 0 ≤ head / top := Int.ediv_nonneg h0 (by omega)
  have hm0 : 0 ≤ head % top := Int.emod_nonneg _ (by omega)
  have hm1 := Int.emod_lt_of_pos head (show 0 < top by omega)
  have hdm := Int.mul_ediv_add_emod head top
  have hd1 : head / top ≤ 4294967297 := by
    rcases Int.lt_or_le 4294967297 (head / top) with h | h
    · have : top * 4294967298 ≤ top * (head / top) := Int.mul_le_mul_of_nonneg_left (by omega) (by omega)
      omega
    · exact h
  rw [tdiv_pos h0, tmod_pos h0, wrap_u64 (by omega)]
  exact iter_loop
    (f := fun s : Int × Int ↦ W.whole_quotient.c100012 v (v.length : Int) top (j : Int) (Prod.fst s) (Prod.snd s) t Option.some)
    (J := fun s => 0 ≤ s.1 ∧ s.1 ≤ 4294967297 ∧ 0 ≤ s.2 ∧ s.2 < 4294967296 ∧ s.1 * top + s.2 = head ∧ Wd / V ≤ s.1)
    (Q := fun r => 0 ≤ r.1 ∧ r.1 < 4294967296 ∧ Wd / V ≤ r.1 ∧ r.1 ≤ Wd / V + 1)
    (fun s => s.1.toNat) (fun ⟨g, r⟩ ⟨g0, g1, r0, r1, hgr, hq⟩ => by
      simp only at g0 g1 r0 r1 hgr hq ⊢
      simp only [W.whole_quotient.c100012]
      rw [c12_ok hv ht hn hj hL g0 ⟨r0, r1⟩, bnd_val, e2, e0]
      by_cases h : 4294967296 ≤ g ∨ r * 4294967296 + x0 < g * v2
      · rw [br_pos h]
        have hg1 : Wd / V ≤ g - 1 := by
          rcases h with h | h
          · omega
          · exact p.less g0 hgr h
        rw [wrap_u64 (x := r + top) (by omega), wrap_u64 (by omega)]
        have hgr' : (g - 1) * top + (r + top) = head := by rw [Int.sub_mul]; omega
        by_cases h2 : r + top ≥ 4294967296
        · rw [br_pos h2]
          have hlt : g - 1 < 4294967296 := by
            rcases Int.lt_or_le (g - 1) 4294967296 with h3 | h3
            · exact h3
            · have : 4294967296 * top ≤ (g - 1) * top := Int.mul_le_mul_of_nonneg_right h3 (by omega)
              omega
          refine Or.inl ⟨(_, _), rfl, by simp only; omega, hlt, hg1, p.last (g := g - 1) (rest := r + top) (by omega) hlt hgr' ?_⟩
          have : (g - 1) * v2 ≤ 4294967295 * 4294967295 := Int.mul_le_mul (by omega) (by omega) (by omega) (by omega)
          skip
          omega
        · rw [br_neg h2]
          exact Or.inr ⟨(_, _), rfl, ⟨by simp only; omega, by simp only; omega, by simp only; omega, by simp only; omega, hgr', hg1⟩, by simp only; omega⟩
      · rw [br_neg h]
        exact Or.inl ⟨(_, _), rfl, g0, by simp only; omega, hq, p.last (g := g) (rest := r) g0 (by omega) hgr (by omega)⟩)
    (s := (head / top, head % top)) ⟨hd0, hd1, hm0, by simp only; omega, by simp only; rw [Int.mul_comm]; exact hdm, hfirst⟩
end Go.Ql
end

section
/- Division: the digits of the quotient one after the other. -/
namespace Go.Ql
theorem val_zero {B : Int} (hB : 0 < B) : ∀ {l : List Int}, Dig B l → val B l = 0 → ∀ x, l.getD x 0 = 0
  | [], _, _, x => by simp
  | d :: l, h, hv, x => by
    have h1 := val_nonneg (by omega) h.tail
    have h2 := h.head
    have h3 := Int.mul_nonneg (Int.le_of_lt hB) h1
    simp only [val] at hv
    have h4 : B * val B l = 0 := by omega
    have h5 : val B l = 0 := by
      rcases Int.mul_eq_zero.1 h4 with h | h
      · omega
      · exact h
    cases x with
    | zero => simp; omega
    | succ x => simpa using val_zero hB h.tail h5 x
theorem val_above {B : Int} (hB : 0 < B) {l : List Int} (h : Dig B l) {k : Nat} (hv : val B l < B ^ k) : val B (l.drop k) = 0 := by
  by_cases hk : k ≤ l.length
  · have h1 := val_cut B l k hk
    have h2 := val_nonneg (by omega) (h.take k)
    have h3 := val_nonneg (by omega) (h.drop k)
    have h4 : B ^ k * val B (l.drop k) < B ^ k * 1 := by omega
    have := Int.lt_of_mul_lt_mul_left h4 (Int.le_of_lt (pow_pos hB k))
    omega
  · rw [List.drop_eq_nil_of_le (by omega)]; rfl
theorem val_upto {B : Int} (hB : 0 < B) {l : List Int} (h : Dig B l) {k : Nat} (hk : k ≤ l.length) (hv : val B l < B ^ k) : val B l = val B (l.take k) := by
  have := val_cut B l k hk
  rw [val_above hB h hv] at this
  simpa using this
theorem same_above {B : Int} (hB : 0 < B) {t t1 : List Int} {k : Nat} (ht : Dig B t) (h1 : Dig B t1) (hl : t1.length = t.length) (hk : k ≤ t.length) (hs : ∀ x, k ≤ x → t1.getD x 0 = t.getD x 0) (hv : val B t < B ^ k) : val B t1 < B ^ k := by
  have hz := val_above hB ht hv
  have hcut1 := val_cut B t1 k (by omega)
  have e : t1.drop k = t.drop k := by
    apply List.ext_getElem (by simp only [List.length_drop]; omega)
    intro i h1 h2
    have := hs (k + i) (by omega)
    rw [List.length_drop] at h1 h2
    simp only [List.getElem_drop]
    simp only [List.getD, List.getElem?_eq_getElem (show k + i < t1.length by omega), List.getElem?_eq_getElem (show k + i < t.length by omega), Option.getD_some] at this
    exact this
  have := val_lt hB (h1.take k)
  rw [show (t1.take k).length = k by rw [List.length_take]; omega] at this
  rw [e, hz] at hcut1
  omega
theorem digit_ok {v t q : List Int} {j : Nat} (hv : Dig 4294967296 v) (ht : Dig 4294967296 t) (hn : 2 ≤ v.length) (hj : j + v.length + 1 ≤ t.length) (hL : t.length < 1000000000)
    (htop : 2147483648 ≤ v.getD (v.length - 1) 0) (hq : j < q.length) (hlt : val 4294967296 t < val 4294967296 v * 4294967296 ^ (j + 1)) :
    ∃ (g : Int) (t' : List Int), W.whole_quotient.c100008 v (v.length : Int) (v.getD (v.length - 1) 0) (j : Int) t q Option.some = some (.inl ((j : Int) - 1, t', q.set j g)) ∧ 0 ≤ g ∧ g < 4294967296 ∧
      Dig 4294967296 t' ∧ t'.length = t.length ∧ val 4294967296 t = 4294967296 ^ j * (g * val 4294967296 v) + val 4294967296 t' ∧ val 4294967296 t' < val 4294967296 v * 4294967296 ^ j := by
  have hB : (0 : Int) < 4294967296 := by decide
  have hBj := pow_pos hB j
  have hVlt := val_lt hB hv
  have hVnn := val_nonneg (B := 4294967296) (by decide) hv
  have hcut := val_cut 4294967296 t j (by omega)
  have hlow := val_lt hB (ht.take j)
  have hlow0 := val_nonneg (B := 4294967296) (by decide) (ht.take j)
  rw [show (t.take j).length = j by rw [List.length_take]; omega] at hlow
  -- the part above
  have hWlt : val 4294967296 (t.drop j) < val 4294967296 v * 4294967296 := by
    have : 4294967296 ^ j * val 4294967296 (t.drop j) < 4294967296 ^ j * (val 4294967296 v * 4294967296) := by
      rw [Int.pow_succ] at hlt
      have e : 4294967296 ^ j * (val 4294967296 v * 4294967296) = val 4294967296 v * (4294967296 ^ j * 4294967296) := by grind
      omega
    exact Int.lt_of_mul_lt_mul_left this (Int.le_of_lt hBj)
  have hWp : val 4294967296 (t.drop j) < 4294967296 ^ (v.length + 1) := by
    rw [Int.pow_succ]
    have : val 4294967296 v * 4294967296 ≤ 4294967296 ^ v.length * 4294967296 := by omega
    omega
  have hWup := val_upto hB (ht.drop j) (k := v.length + 1) (by rw [List.length_drop]; omega) hWp
  have w1 := val_take_succ 4294967296 v.length (t.drop j)
  have w2 := val_take_succ 4294967296 (v.length - 1) (t.drop j)
  have w3 := val_take_succ 4294967296 (v.length - 2) (t.drop j)
  have v1 := val_take_succ 4294967296 (v.length - 1) v
  have v2 := val_take_succ 4294967296 (v.length - 2) v
  rw [show v.length - 1 + 1 = v.length by omega] at w2 v1
  rw [show v.length - 2 + 1 = v.length - 1 by omega] at w3 v2
  rw [List.take_length] at v1
  have hwl := val_lt hB ((ht.drop j).take (v.length - 2))
  have hwl0 := val_nonneg (B := 4294967296) (by decide) ((ht.drop j).take (v.length - 2))
  rw [show ((t.drop j).take (v.length - 2)).length = v.length - 2 by rw [List.length_take, List.length_drop]; omega] at hwl
  have hvl := val_lt hB (hv.take (v.length - 2))
  have hvl0 := val_nonneg (B := 4294967296) (by decide) (hv.take (v.length - 2))
  rw [show (v.take (v.length - 2)).length = v.length - 2 by rw [List.length_take]; omega] at hvl
  rw [getD_drop] at w1 w2 w3
  have hp1 : (4294967296 : Int) ^ (v.length - 1) = 4294967296 ^ (v.length - 2) * 4294967296 := by rw [← Int.pow_succ]; congr 1; omega
  have hp2 : (4294967296 : Int) ^ v.length = 4294967296 ^ (v.length - 2) * 4294967296 * 4294967296 := by rw [← Int.pow_succ, ← Int.pow_succ]; congr 1; omega
  have d2 := ht.getD hB (j + v.length)
  have d1 := ht.getD hB (j + (v.length - 1))
  have d0 := ht.getD hB (j + (v.length - 2))
  have e2 := hv.getD hB (v.length - 2)
  have e1 := hv.getD hB (v.length - 1)
  have pl : Place (val 4294967296 (t.drop j)) (val 4294967296 v) (4294967296 ^ (v.length - 2)) (v.getD (v.length - 1) 0) (v.getD (v.length - 2) 0) (val 4294967296 (v.take (v.length - 2)))
      (t.getD (j + v.length) 0 * 4294967296 + t.getD (j + (v.length - 1)) 0) (t.getD (j + (v.length - 2)) 0) (val 4294967296 ((t.drop j).take (v.length - 2))) :=
    { P0 := pow_pos hB _
      hV := by rw [v1, v2, hp1]; grind
      hW := by rw [hWup, w1, w2, w3, hp1, hp2]; grind
      top0 := htop
      top1 := e1.2
      v20 := e2.1
      v21 := e2.2
      vl0 := hvl0
      vl1 := hvl
      head0 := by omega
      x00 := d0.1
      x01 := d0.2
      wl0 := hwl0
      wl1 := hwl
      hlt := hWlt }
  obtain ⟨⟨g, gr⟩, k1, g0, g1, g2, g3⟩ := guess_ok pl hv ht hn hj hL rfl (by congr 1; omega)
  simp only at g0 g1 g2 g3
  have hVp := pl.Vpos
  have c10 : W.whole_quotient.c10 (v.length : Int) (j : Int) t Option.some = some (t.getD (j + v.length) 0 * 4294967296 + t.getD (j + (v.length - 1)) 0) := by
    unfold W.whole_quotient.c10
    rw [wrap_i64 (x := (j : Int) + (v.length : Int)) (by omega), wrap_i64 (x := (j : Int) + (v.length : Int) - 1) (by omega), inR_of (by omega) (by omega), idx_of (j + v.length) (by omega) (by omega), inR_of (by omega) (by omega), idx_of (j + (v.length - 1)) (by omega) (by omega)]
    simp only [bnd_val]
    rw [wrap_u64 (x := t.getD (j + v.length) 0) (by omega), or_add d2 d1]
  have c11 : W.whole_quotient.c11 (v.getD (v.length - 1) 0) Option.some = some () := by
    unfold W.whole_quotient.c11
    rw [okIf_true (bne_iff_ne.2 (by omega))]; rfl
  simp only [W.whole_quotient.c100008]
  rw [br_pos (by omega), c10, bnd_val, c11, bnd_val, k1, bnd_val]
  -- what is taken away
  obtain ⟨f, t1, m1, m2, m3, m4, m5⟩ := take_ok t v j g ht hv ⟨g0, g1⟩ hj hL
  have hdm := Int.mul_ediv_add_emod (val 4294967296 (t.drop j)) (val 4294967296 v)
  have hm0 := Int.emod_nonneg (val 4294967296 (t.drop j)) (show val 4294967296 v ≠ 0 by omega)
  have hm1 := Int.emod_lt_of_pos (val 4294967296 (t.drop j)) hVp
  have hQ0 : 0 ≤ val 4294967296 (t.drop j) / val 4294967296 v := Int.ediv_nonneg (val_nonneg (by decide) (ht.drop j)) (Int.le_of_lt hVp)
  generalize hQ : val 4294967296 (t.drop j) / val 4294967296 v = Q at *
  generalize hR : val 4294967296 (t.drop j) % val 4294967296 v = R at *
  generalize hW' : val 4294967296 (t.drop j) = Wd at *
  generalize hV' : val 4294967296 v = V at *
  have hval : val 4294967296 t = val 4294967296 (t.take j) + 4294967296 ^ j * R + 4294967296 ^ j * (Q * V) := by
    rw [hcut, ← hdm]; grind
  generalize hlo : val 4294967296 (t.take j) = low at *
  have hrem0 : 0 ≤ 4294967296 ^ j * R := Int.mul_nonneg (by omega) hm0
  have hrem1 : 4294967296 ^ j * (R + 1) ≤ 4294967296 ^ j * V := Int.mul_le_mul_of_nonneg_left (by omega) (by omega)
  rw [Int.mul_add, Int.mul_one] at hrem1
  have hbig : val 4294967296 t < 4294967296 ^ (j + v.length + 1) := by
    rw [show j + v.length + 1 = j + (v.length + 1) by omega, Int.pow_add]
    have h1 : 4294967296 ^ j * (Wd + 1) ≤ 4294967296 ^ j * 4294967296 ^ (v.length + 1) := Int.mul_le_mul_of_nonneg_left (by omega) (by omega)
    rw [Int.mul_add] at h1
    omega
  have hbig2 : 4294967296 ^ j * V < 4294967296 ^ (j + v.length + 1) := by
    rw [show j + v.length + 1 = j + (v.length + 1) by omega, Int.pow_add, Int.pow_succ]
    have h1 : 4294967296 ^ j * (V + 1) ≤ 4294967296 ^ j * (4294967296 ^ v.length * 4294967296) := Int.mul_le_mul_of_nonneg_left (by omega) (by omega)
    rw [Int.mul_add] at h1
    omega
  have hn1 := val_nonneg (B := 4294967296) (by decide) m2
  have hu1 : val 4294967296 t1 < 4294967296 ^ (j + v.length + 1) := same_above hB ht m2 m3 (by omega) (fun x hx => m4 x (by omega)) hbig
  have hcom : Q * V = V * Q := Int.mul_comm ..
  have hcomV : V * 4294967296 ^ j = 4294967296 ^ j * V := Int.mul_comm ..
  rcases (by omega : g = Q ∨ g = Q + 1) with hg | hg
  · subst hg
    have hf : f = false := by
      cases f with
      | false => rfl
      | true => simp only [if_true, Int.mul_one] at m5; omega
    subst hf
    simp only [Bool.false_eq_true, if_false, Int.mul_zero, Int.add_zero] at m5
    refine ⟨g, t1, ?_, g0, g1, m2, m3, by omega, by omega⟩
    have c26 : W.whole_quotient.c265543 v (v.length : Int) (j : Int) g t Option.some = some (g, t1) := by
      unfold W.whole_quotient.c265543
      rw [wrap_i64 (x := (j : Int) + (v.length : Int)) (by omega), wrap_i64 (x := (j : Int) + (v.length : Int) + 1) (by omega), okIf_true (by simp; omega), bnd_val, show (j : Int) + (v.length : Int) + 1 - (j : Int) = ((v.length + 1 : Nat) : Int) by omega, wrap_u32 (by omega), m1, bnd_val]
      rfl
    rw [c26, bnd_val, inR_of (by omega) (by omega), bnd_val, idx_of j rfl hq, bnd_val, wrap_i64 (by omega), wrap_u32 (by omega), Int.toNat_natCast]
  · subst hg
    rw [Int.add_mul, Int.one_mul, Int.mul_add] at m5
    have hf : f = true := by
      cases f with
      | true => rfl
      | false => simp only [Bool.false_eq_true, if_false, Int.mul_zero, Int.add_zero] at m5; omega
    subst hf
    simp only [if_true, Int.mul_one] at m5
    obtain ⟨t2, e, n1, n2, n3, n4, n5⟩ := give_ok t1 v j m2 hv (by omega) (by omega)
    rw [hV'] at n5
    have hn2 := val_nonneg (B := 4294967296) (by decide) n2
    have hu2 : val 4294967296 t2 < 4294967296 ^ (j + v.length + 1) := same_above hB ht n2 (by omega) (by omega) (fun x hx => by rw [n4 x (by omega), m4 x (by omega)]) hbig
    generalize hPP : (4294967296 : Int) ^ (j + v.length + 1) = PP at *
    have he : e = 1 := by
      rcases Int.lt_trichotomy e 1 with h | h | h
      · have : PP * e ≤ PP * 0 := Int.mul_le_mul_of_nonneg_left (by omega) (by omega)
        omega
      · exact h
      · have : PP * 2 ≤ PP * e := Int.mul_le_mul_of_nonneg_left (by omega) (by omega)
        omega
    subst he
    refine ⟨Q, t2, ?_, by omega, by omega, n2, by omega, by omega, by omega⟩
    have c26 : W.whole_quotient.c265543 v (v.length : Int) (j : Int) (Q + 1) t Option.some = some (Q, t2) := by
      unfold W.whole_quotient.c265543
      rw [wrap_i64 (x := (j : Int) + (v.length : Int)) (by omega), wrap_i64 (x := (j : Int) + (v.length : Int) + 1) (by omega), okIf_true (by simp; omega), bnd_val, show (j : Int) + (v.length : Int) + 1 - (j : Int) = ((v.length + 1 : Nat) : Int) by omega, wrap_u32 (by omega), m1, bnd_val]
      simp only [br_tt]
      rw [okIf_true (by simp; omega), bnd_val, n1, bnd_val, wrap_u64 (by omega)]
      simp only [Int.add_sub_cancel]
    rw [c26, bnd_val, inR_of (by omega) (by omega), bnd_val, idx_of j rfl hq, bnd_val, wrap_i64 (by omega), wrap_u32 (by simp only; omega), Int.toNat_natCast]
end Go.Ql
end

section
/- Division: the first digit's noughts, and the quotient of long numbers. -/
namespace Go.Ql
theorem u8_small {x : Int} (h : 0 ≤ x ∧ x < 256) : IntKind.u8.wrap x = x := IntWalk.u8_in _ (by omega)
def lens : List UInt8 := (List.range 256).map fun n => UInt8.ofNat (if n = 0 then 0 else Nat.log2 n + 1)
theorem lens_ok : ∀ n : Fin 256, 0 < n.val → ∃ k : Fin 9, lens[n.val]? = some (UInt8.ofNat k.val) ∧ 1 ≤ k.val ∧ 2 ^ (k.val - 1) ≤ n.val ∧ n.val < 2 ^ k.val := by decide +kernel
theorem idx_nat {α : Type} {xs : List α} {i : Int} (n : Nat) (hi : i = n) {x : α} (h : xs[n]? = some x) : idx xs i = some x := by
  subst hi; unfold idx; simp [h]
theorem len_ok {x : Int} (h : 0 < x ∧ x < 4294967296) : ∃ k : Nat, W.bits_Len32 x = some (k : Int) ∧ 1 ≤ k ∧ k ≤ 32 ∧ 2 ^ (k - 1) ≤ x ∧ x < 2 ^ k := by
  have key : ∀ (T : List UInt8), T = lens → ∀ (sh : Nat) (y : Int), sh ≤ 24 → y = x / 2 ^ sh → 0 < y → y < 256 → ∃ k : Nat, (bnd (idx T (IntKind.u8.wrap y)) fun y_2 => some (IntKind.i64.wrap ((sh : Int) + IntKind.i64.wrap (UInt8.toNat y_2 : Int)))) = some (k : Int) ∧ 1 ≤ k ∧ k ≤ 32 ∧ 2 ^ (k - 1) ≤ x ∧ x < 2 ^ k := by
    intro T hT sh y hsh hy h0 h1
    subst hT
    obtain ⟨k, e1, e2, e3, e4⟩ := lens_ok ⟨y.toNat, by omega⟩ (by simp; omega)
    simp only at e1 e2 e3 e4
    have hk := k.isLt
    have hP : (0 : Int) < 2 ^ sh := Int.pow_pos (by decide)
    have hdm := Int.mul_ediv_add_emod x (2 ^ sh)
    have hm0 := Int.emod_nonneg x (show (2 : Int) ^ sh ≠ 0 by omega)
    have hm1 := Int.emod_lt_of_pos x hP
    rw [← hy] at hdm
    have f3 : (2 : Int) ^ (k.val - 1) ≤ y := by have : ((2 ^ (k.val - 1) : Nat) : Int) ≤ (y.toNat : Int) := by omega
                                                rw [Int.natCast_pow] at this; simp at this; omega
    have f4 : y + 1 ≤ (2 : Int) ^ k.val := by have : (y.toNat : Int) < ((2 ^ k.val : Nat) : Int) := by omega
                                              rw [Int.natCast_pow] at this; simp at this; omega
    have g3 : (2 : Int) ^ sh * 2 ^ (k.val - 1) ≤ 2 ^ sh * y := Int.mul_le_mul_of_nonneg_left f3 (by omega)
    have g4 : (2 : Int) ^ sh * (y + 1) ≤ 2 ^ sh * 2 ^ k.val := Int.mul_le_mul_of_nonneg_left f4 (by omega)
    rw [Int.mul_add, Int.mul_one] at g4
    rw [← Int.pow_add] at g3 g4
    refine ⟨sh + k.val, ?_, by omega, by omega, ?_, ?_⟩
    · rw [u8_small (by omega), idx_nat y.toNat (by omega) e1, bnd_val]
      have : (UInt8.ofNat k.val).toNat = k.val := by simp; omega
      rw [this, wrap_i64 (x := (k.val : Int)) (by omega), wrap_i64 (by omega)]
      congr 1
    · rw [show sh + k.val - 1 = sh + (k.val - 1) by omega]; omega
    · omega
  unfold W.bits_Len32 W.bits_Len32.c204103
  have l16 : (2 : Int) ^ 16 = 65536 := rfl
  have l8 : (2 : Int) ^ 8 = 256 := rfl
  by_cases h1 : x ≥ 65536
  · rw [br_pos h1, bnd_val]
    simp only
    rw [l16, Int.fdiv_eq_ediv_of_nonneg _ (by decide)]
    unfold W.bits_Len32.c216391
    by_cases h2 : x / 65536 ≥ 256
    · rw [br_pos h2, bnd_val, l8, Int.fdiv_eq_ediv_of_nonneg _ (by decide)]
      exact key _ (by decide +kernel) 24 _ (by decide) (by rw [show (2 : Int) ^ 24 = 16777216 from rfl]; omega) (by omega) (by omega)
    · rw [br_neg h2, bnd_val]
      exact key _ (by decide +kernel) 16 _ (by decide) (by rw [l16]) (by omega) (by omega)
  · rw [br_neg h1, bnd_val]
    simp only
    unfold W.bits_Len32.c216391
    by_cases h2 : x ≥ 256
    · rw [br_pos h2, bnd_val, l8, Int.fdiv_eq_ediv_of_nonneg _ (by decide)]
      exact key _ (by decide +kernel) 8 _ (by decide) (by rw [l8]) (by omega) (by omega)
    · rw [br_neg h2, bnd_val]
      exact key _ (by decide +kernel) 0 _ (by decide) (by simp) (by omega) (by omega)
theorem zeros_ok {x : Int} (h : 0 < x ∧ x < 4294967296) : ∃ s : Nat, W.bits_LeadingZeros32 x = some (s : Int) ∧ s < 32 ∧ 2147483648 ≤ x * 2 ^ s ∧ x * 2 ^ s + 2 ^ s ≤ 4294967296 := by
  obtain ⟨k, h1, h2, h3, h4, h5⟩ := len_ok h
  refine ⟨32 - k, ?_, by omega, ?_, ?_⟩
  · unfold W.bits_LeadingZeros32
    rw [h1, bnd_val, wrap_i64 (by omega)]
    congr 1; omega
  · have := Int.mul_le_mul_of_nonneg_right h4 (show (0 : Int) ≤ 2 ^ (32 - k) from Int.le_of_lt (Int.pow_pos (by decide)))
    rw [← Int.pow_add, show k - 1 + (32 - k) = 31 by omega] at this
    exact this
  · have := Int.mul_le_mul_of_nonneg_right (show x + 1 ≤ 2 ^ k by omega) (show (0 : Int) ≤ 2 ^ (32 - k) from Int.le_of_lt (Int.pow_pos (by decide)))
    rw [← Int.pow_add, show k + (32 - k) = 32 by omega, Int.add_mul, Int.one_mul] at this
    exact this
theorem quotient_ok (a b : List Int) (ha : Dig 4294967296 a) (hb : Dig 4294967296 b) (tb : Trim b) (hn : 2 ≤ b.length) (la : a.length < 1000000) (lb : b.length < 1000000) :
    ∃ q r, W.whole_quotient a b = some (q, r) ∧ Dig 4294967296 q ∧ Dig 4294967296 r ∧ q.length ≤ a.length + 1 ∧ r.length ≤ a.length + 1 ∧
      val 4294967296 q = val 4294967296 a / val 4294967296 b ∧ val 4294967296 r = val 4294967296 a % val 4294967296 b := by
  have hB : (0 : Int) < 4294967296 := by decide
  have hne : b ≠ [] := fun e => by rw [e] at hn; simp at hn
  have ht0 := tb hne
  have hd0 := hb.getD hB (b.length - 1)
  obtain ⟨s, s1, s2, s3, s4⟩ := zeros_ok (x := b.getD (b.length - 1) 0) (by omega)
  obtain ⟨u, u1, u2, u3, u4⟩ := left_ok a s ha (by omega) (by omega)
  obtain ⟨w, w1, w2, w3, w4⟩ := left_ok b s hb (by omega) (by omega)
  have hs0 : s / 32 = 0 := by omega
  rw [hs0] at u3 w3
  have hS : (0 : Int) < 2 ^ s := Int.pow_pos (by decide)
  have hBn := pow_pos hB (b.length - 1)
  have hpn : (4294967296 : Int) ^ b.length = 4294967296 ^ (b.length - 1) * 4294967296 := by rw [← Int.pow_succ]; congr 1; omega
  have hbt := val_take_succ 4294967296 (b.length - 1) b
  rw [show b.length - 1 + 1 = b.length by omega, List.take_length] at hbt
  have hlo := val_lt hB (hb.take (b.length - 1))
  have hlo0 := val_nonneg (B := 4294967296) (by decide) (hb.take (b.length - 1))
  rw [show (b.take (b.length - 1)).length = b.length - 1 by rw [List.length_take]; omega] at hlo
  have hbpos : 0 < val 4294967296 b := by
    have : (4294967296 : Int) ^ (b.length - 1) * 1 ≤ 4294967296 ^ (b.length - 1) * b.getD (b.length - 1) 0 := Int.mul_le_mul_of_nonneg_left (by omega) (by omega)
    omega
  -- the divisor keeps its length
  have hwlt : val 4294967296 w < 4294967296 ^ b.length := by
    rw [w4, hbt, hpn]
    have h1 : (val 4294967296 (b.take (b.length - 1)) + 1) * 2 ^ s ≤ 4294967296 ^ (b.length - 1) * 2 ^ s := Int.mul_le_mul_of_nonneg_right (by omega) (by omega)
    have h2 : 4294967296 ^ (b.length - 1) * (b.getD (b.length - 1) 0 * 2 ^ s + 2 ^ s) ≤ 4294967296 ^ (b.length - 1) * 4294967296 := Int.mul_le_mul_of_nonneg_left s4 (by omega)
    rw [Int.add_mul, Int.one_mul] at h1
    rw [Int.mul_add] at h2
    rw [Int.add_mul, Int.mul_assoc (4294967296 ^ (b.length - 1))]
    omega
  have hvval := val_upto hB w2 (k := b.length) (by omega) hwlt
  have hvd := w2.take b.length
  have hvl : (w.take b.length).length = b.length := by rw [List.length_take]; omega
  generalize hvv : w.take b.length = v at *
  rw [w4] at hvval
  have hvt := val_take_succ 4294967296 (v.length - 1) v
  rw [show v.length - 1 + 1 = v.length by omega, List.take_length, hvl] at hvt
  have hvlo := val_lt hB (hvd.take (b.length - 1))
  rw [show (v.take (b.length - 1)).length = b.length - 1 by rw [List.length_take]; omega] at hvlo
  have hvtop : 2147483648 ≤ v.getD (v.length - 1) 0 := by
    have h1 : 4294967296 ^ (b.length - 1) * 2147483648 ≤ 4294967296 ^ (b.length - 1) * (b.getD (b.length - 1) 0 * 2 ^ s) := Int.mul_le_mul_of_nonneg_left s3 (by omega)
    have h2 : 0 ≤ val 4294967296 (b.take (b.length - 1)) * 2 ^ s := Int.mul_nonneg hlo0 (by omega)
    rw [← hvval, hbt, Int.add_mul, Int.mul_assoc (4294967296 ^ (b.length - 1))] at hvt
    have h3 : 4294967296 ^ (b.length - 1) * 2147483648 < 4294967296 ^ (b.length - 1) * (v.getD (b.length - 1) 0 + 1) := by rw [Int.mul_add (4294967296 ^ (b.length - 1)) _ 1]; omega
    have := Int.lt_of_mul_lt_mul_left h3 (Int.le_of_lt hBn)
    rw [hvl]; omega
  have c2 : W.whole_quotient.c2 a b (s : Int) Option.some = some (v, u) := by
    unfold W.whole_quotient.c2
    rw [u1, bnd_val, w1, bnd_val, okIf_true (by simp; omega), bnd_val]
    simp only [Int.toNat_natCast, hvv]
  have hvdt := hvd.getD hB (v.length - 1)
  have c3 : W.whole_quotient.c3 v Option.some = some (v.getD (v.length - 1) 0) := by
    unfold W.whole_quotient.c3
    rw [wrap_i64 (by omega), idx_of (v.length - 1) (by omega) (by omega), bnd_val, wrap_u64 (by omega)]
  unfold W.whole_quotient
  rw [wrap_i64 (x := (b.length : Int) - 1) (by omega), idx_of (b.length - 1) (by omega) (by omega), bnd_val, s1, bnd_val, c2, bnd_val]
  simp only
  rw [c3, bnd_val]
  have hann := val_nonneg (B := 4294967296) (by decide) ha
  by_cases hsh : u.length ≤ v.length
  · rw [br_pos (by omega)]
    have h1 := val_lt hB ha
    have h2 := pow_le (B := 4294967296) (by decide) (show a.length ≤ b.length - 1 by omega)
    have h3 : (4294967296 : Int) ^ (b.length - 1) * 1 ≤ 4294967296 ^ (b.length - 1) * b.getD (b.length - 1) 0 := Int.mul_le_mul_of_nonneg_left (by omega) (by omega)
    refine ⟨[], a, rfl, Dig.nil, ha, by simp, by omega, ?_, ?_⟩
    · rw [Int.ediv_eq_zero_of_lt hann (by omega)]; rfl
    · rw [Int.emod_eq_of_lt hann (by omega)]
  · rw [br_neg (by omega)]
    obtain ⟨⟨j, t, q⟩, l1, l2, l3, l4, l5, l6, l7⟩ := iter_loop
      (f := fun s : Int × List Int × List Int ↦ W.whole_quotient.c100008 v (v.length : Int) (v.getD (v.length - 1) 0) (Prod.fst s) (Prod.fst (Prod.snd s)) (Prod.snd (Prod.snd s)) Option.some)
      (J := fun s => ∃ k : Nat, s.1 = (k : Int) - 1 ∧ k ≤ u.length - v.length ∧ Dig 4294967296 s.2.1 ∧ s.2.1.length = u.length ∧ Dig 4294967296 s.2.2 ∧ s.2.2.length = u.length - v.length ∧ (∀ x, x < k → s.2.2.getD x 0 = 0) ∧
        val 4294967296 u = val 4294967296 s.2.1 + val 4294967296 v * val 4294967296 s.2.2 ∧ val 4294967296 s.2.1 < val 4294967296 v * 4294967296 ^ k)
      (Q := fun s => Dig 4294967296 s.2.1 ∧ s.2.1.length = u.length ∧ Dig 4294967296 s.2.2 ∧ s.2.2.length = u.length - v.length ∧
        val 4294967296 u = val 4294967296 s.2.1 + val 4294967296 v * val 4294967296 s.2.2 ∧ val 4294967296 s.2.1 < val 4294967296 v)
      (fun s => (s.1 + 1).toNat) (fun ⟨j', t, q⟩ ⟨k, k1, k2, k3, k4, k5, k6, k7, k8, k9⟩ => by
        simp only at k1 k3 k4 k5 k6 k7 k8 k9 ⊢
        subst k1
        cases k with
        | zero =>
          refine Or.inl ⟨(((0 : Nat) : Int) - 1, t, q), ?_, k3, k4, k5, k6, k8, by simpa using k9⟩
          simp only [W.whole_quotient.c100008]
          rw [br_neg (by omega)]
        | succ k =>
          rw [show ((k + 1 : Nat) : Int) - 1 = (k : Int) by omega]
          obtain ⟨g, t', g1, g2, g3, g4, g5, g6, g7⟩ := digit_ok (q := q) hvd k3 (by omega) (j := k) (by omega) (by omega) hvtop (by omega) k9
          refine Or.inr ⟨_, g1, ⟨k, rfl, by omega, g4, by simp only; omega, k5.set ⟨g2, g3⟩ k, by simp only [List.length_set]; exact k6, fun x hx => ?_, ?_, g7⟩, by simp only; omega⟩
          · simp only
            rw [getD_set (by omega), if_neg (by omega)]
            exact k7 x (by omega)
          · simp only
            rw [val_set _ _ _ _ (by omega), k7 k (by omega), k8, g6]
            grind)
      (s := (((u.length - v.length : Nat) : Int) - 1, u, List.replicate (u.length - v.length) 0))
      ⟨u.length - v.length, rfl, Nat.le_refl _, u2, rfl, Dig.replicate hB _, by simp, fun x _ => getD_replicate _ _, by simp [val_replicate], by
        simp only
        have h1 := val_lt hB ha
        have h2 : 4294967296 ^ (b.length - 1) * 2147483648 ≤ val 4294967296 v := by
          rw [hvt]
          have h1 : 4294967296 ^ (b.length - 1) * 2147483648 ≤ 4294967296 ^ (b.length - 1) * v.getD (b.length - 1) 0 := Int.mul_le_mul_of_nonneg_left (by rw [hvl] at hvtop; exact hvtop) (by omega)
          have := val_nonneg (B := 4294967296) (by decide) (hvd.take (b.length - 1))
          omega
        have h3 : (2 : Int) ^ s ≤ 2147483648 := pow_le (by decide) (show s ≤ 31 by omega)
        have h4 : val 4294967296 a * 2 ^ s ≤ val 4294967296 a * 2147483648 := Int.mul_le_mul_of_nonneg_left h3 hann
        have h5 : (4294967296 ^ (b.length - 1) * 2147483648) * 4294967296 ^ (u.length - v.length) ≤ val 4294967296 v * 4294967296 ^ (u.length - v.length) := Int.mul_le_mul_of_nonneg_right h2 (Int.le_of_lt (pow_pos hB _))
        have h6 : (4294967296 : Int) ^ a.length = 4294967296 ^ (b.length - 1) * 4294967296 ^ (u.length - v.length) := by rw [← Int.pow_add]; congr 1; omega
        rw [u4]
        have h7 : (4294967296 ^ (b.length - 1) * 2147483648 : Int) * 4294967296 ^ (u.length - v.length) = 4294967296 ^ a.length * 2147483648 := by rw [h6]; grind
        omega⟩
    simp only at l2 l3 l4 l5 l6 l7
    rw [wrap_i64 (x := (u.length : Int) - (v.length : Int)) (by omega), wrap_i64 (by omega), okIf_true (by simp; omega), bnd_val, show ((u.length : Int) - (v.length : Int)) = ((u.length - v.length : Nat) : Int) by omega, Int.toNat_natCast, l1, bnd_val]
    obtain ⟨r, lost, r1, r2, r3, r4, _⟩ := right_ok t s l2 (by omega) (by omega)
    simp only
    rw [r1, bnd_val]
    have hr : val 4294967296 t = (val 4294967296 a - val 4294967296 b * val 4294967296 q) * 2 ^ s := by
      rw [u4, ← hvval] at l6
      rw [Int.sub_mul]
      have : val 4294967296 b * 2 ^ s * val 4294967296 q = val 4294967296 b * val 4294967296 q * 2 ^ s := by grind
      omega
    rw [hr, Int.mul_ediv_cancel _ (show (2 : Int) ^ s ≠ 0 by omega)] at r4
    have ht0' := val_nonneg (B := 4294967296) (by decide) l2
    have hx0 : 0 ≤ val 4294967296 a - val 4294967296 b * val 4294967296 q := by
      rw [← r4]; exact val_nonneg (by decide) r2
    have hx1 : val 4294967296 a - val 4294967296 b * val 4294967296 q < val 4294967296 b := by
      rw [hr, ← hvval] at l7
      exact Int.lt_of_mul_lt_mul_right l7 (Int.le_of_lt hS)
    have hdm := Int.mul_ediv_add_emod (val 4294967296 a) (val 4294967296 b)
    have hx : val 4294967296 a = (val 4294967296 a - val 4294967296 b * val 4294967296 q) + val 4294967296 b * val 4294967296 q := by omega
    refine ⟨q, r, rfl, l4, r2, by omega, by omega, ?_, ?_⟩
    · generalize val 4294967296 a - val 4294967296 b * val 4294967296 q = x at *
      rw [hx, Int.add_mul_ediv_left _ _ (by omega), Int.ediv_eq_zero_of_lt hx0 hx1]; omega
    · rw [r4]
      generalize val 4294967296 a - val 4294967296 b * val 4294967296 q = x at *
      rw [hx, Int.add_mul_emod_self_left, Int.emod_eq_of_lt hx0 hx1]
end Go.Ql
end

section
/- Division by one place, and the division of whole numbers. -/
namespace Go.Ql
theorem div32_ok {hi lo y : Int} (hy : 0 < y ∧ y < 4294967296) (hh : 0 ≤ hi ∧ hi < y) (hl : 0 ≤ lo ∧ lo < 4294967296) :
    W.bits_Div32 hi lo y = some ((hi * 4294967296 + lo) / y, (hi * 4294967296 + lo) % y) := by
  unfold W.bits_Div32 W.bits_Div32.c204101 W.bits_Div32.c1 W.bits_Div32.c4
  have e : (y != 0) = true := by simp; omega
  rw [wrap_u64 (x := y) (by omega), wrap_u64 (x := hi) (by omega), or_add (by omega) hl, e]
  simp only [br_tt, bnd_val, okIf_true]
  rw [br_neg (by omega), bnd_val, tdiv_pos (by omega), tmod_pos (by omega)]
  have h1 : (hi * 4294967296 + lo) / y < 4294967296 := Int.ediv_lt_of_lt_mul hy.1 (by
    have : 4294967296 * (hi + 1) ≤ 4294967296 * y := by omega
    omega)
  have h0 : 0 ≤ (hi * 4294967296 + lo) / y := Int.ediv_nonneg (by omega) (by omega)
  have h2 := Int.emod_nonneg (hi * 4294967296 + lo) (show y ≠ 0 by omega)
  have h3 := Int.emod_lt_of_pos (hi * 4294967296 + lo) hy.1
  rw [wrap_u64 (by omega), wrap_u32 (by omega), wrap_u32 (by omega)]
theorem short_ok (a : List Int) (d : Int) (ha : Dig 4294967296 a) (la : a.length < 1000000) (hd : 0 < d ∧ d < 4294967296) :
    ∃ q r, W.whole_short a d = some (q, r) ∧ Dig 4294967296 q ∧ q.length = a.length ∧ 0 ≤ r ∧ r < d ∧ val 4294967296 a = d * val 4294967296 q + r := by
  have hB : (0 : Int) < 4294967296 := by decide
  obtain ⟨⟨r, j, t⟩, l1, l2, l3, l4, l5, l6⟩ := iter_loop
    (f := fun s : Int × Int × List Int ↦ W.whole_short.c100004 a d (Prod.fst s) (Prod.fst (Prod.snd s)) (Prod.snd (Prod.snd s)) Option.some)
    (J := fun s => ∃ k : Nat, s.2.1 = (k : Int) - 1 ∧ k ≤ a.length ∧ 0 ≤ s.1 ∧ s.1 < d ∧ Dig 4294967296 s.2.2 ∧ s.2.2.length = a.length ∧ (∀ x, x < k → s.2.2.getD x 0 = 0) ∧
      val 4294967296 a = val 4294967296 (a.take k) + d * val 4294967296 s.2.2 + 4294967296 ^ k * s.1)
    (Q := fun s => 0 ≤ s.1 ∧ s.1 < d ∧ Dig 4294967296 s.2.2 ∧ s.2.2.length = a.length ∧ val 4294967296 a = d * val 4294967296 s.2.2 + s.1)
    (fun s => (s.2.1 + 1).toNat) (fun ⟨r, j', t⟩ ⟨k, k1, k2, k3, k4, k5, k6, k7, k8⟩ => by
      simp only at k1 k3 k4 k5 k6 k7 k8 ⊢
      subst k1
      simp only [W.whole_short.c100004]
      cases k with
      | zero =>
        rw [br_neg (by omega)]
        refine Or.inl ⟨(_, _, _), rfl, k3, k4, k5, k6, ?_⟩
        simpa [val] using k8
      | succ k =>
        rw [show ((k + 1 : Nat) : Int) - 1 = (k : Int) by omega, br_pos (by omega)]
        have hx := ha.getD hB k
        have htk := val_take_succ 4294967296 k a
        have hdm := Int.mul_ediv_add_emod (r * 4294967296 + a.getD k 0) d
        have h1 : (r * 4294967296 + a.getD k 0) / d < 4294967296 := Int.ediv_lt_of_lt_mul hd.1 (by
          have : 4294967296 * (r + 1) ≤ 4294967296 * d := by omega
          omega)
        have h0 : 0 ≤ (r * 4294967296 + a.getD k 0) / d := Int.ediv_nonneg (by omega) (by omega)
        have h2 := Int.emod_nonneg (r * 4294967296 + a.getD k 0) (show d ≠ 0 by omega)
        have h3 := Int.emod_lt_of_pos (r * 4294967296 + a.getD k 0) hd.1
        rw [idx_of k rfl (by omega), bnd_val, div32_ok hd ⟨k3, k4⟩ hx, bnd_val, inR_of (by omega) (by omega), bnd_val, idx_of k rfl (by omega), bnd_val, wrap_i64 (by omega), Int.toNat_natCast]
        generalize (r * 4294967296 + a.getD k 0) / d = qq at *
        generalize (r * 4294967296 + a.getD k 0) % d = rr at *
        refine Or.inr ⟨(_, _, _), rfl, ⟨k, rfl, by omega, h2, h3, k5.set ⟨h0, h1⟩ k, by simp only [List.length_set]; exact k6, fun x hx => ?_, ?_⟩, by simp only; omega⟩
        · simp only
          rw [getD_set (by omega), if_neg (by omega)]
          exact k7 x (by omega)
        · simp only
          rw [val_set _ _ _ _ (by omega), k7 k (by omega), k8, htk, Int.pow_succ]
          generalize (4294967296 : Int) ^ k = P at *
          have : P * (r * 4294967296 + a.getD k 0) = P * (d * qq + rr) := by rw [hdm]
          grind)
    (s := ((0 : Int), (a.length : Int) - 1, List.replicate a.length 0))
    ⟨a.length, rfl, Nat.le_refl _, by simp, hd.1, Dig.replicate hB _, by simp, fun x _ => getD_replicate _ _, by simp [val_replicate]⟩
  simp only at l2 l3 l4 l5 l6
  unfold W.whole_short
  rw [okIf_true (by simp; omega), bnd_val, wrap_i64 (by omega), Int.toNat_natCast, l1, bnd_val]
  exact ⟨t, r, rfl, l4, l5, l2, l3, l6⟩

theorem Rep.nil {B : Int} : Rep B (false, []) 0 := ⟨Dig.nil, by simp, by simp, by simp [Ql.val]⟩
theorem Rep.absval {B : Int} (hB : 0 ≤ B) {x : Bool × List Int} {v : Int} (h : Rep B x v) : Ql.val B x.2 = (v.natAbs : Int) := by
  have h1 := val_nonneg hB h.dig
  have h2 := h.val
  cases h0 : x.1 <;> simp only [h0, Bool.false_eq_true, if_false, if_true] at h2 <;> omega
theorem Rep.zero_iff {B : Int} (hB : 1 < B) {x : Bool × List Int} {v : Int} (h : Rep B x v) : x.2 = [] ↔ v = 0 := by
  constructor
  · intro h0
    have := h.absval (by omega)
    rw [h0] at this
    simp only [Ql.val] at this
    omega
  · intro h0
    rcases Classical.em (x.2 = []) with h1 | h1
    · exact h1
    · have := h.pos hB h1
      have := h.absval (by omega)
      omega
/-- A number that is no greater has no more places. -/
theorem Rep.short {B : Int} (hB : 1 < B) {x y : Bool × List Int} {u v : Int} (hx : Rep B x u) (hy : Rep B y v) (h : u.natAbs ≤ v.natAbs) : x.2.length ≤ y.2.length := by
  apply len_le hB hy.dig hx.dig hx.last
  rw [hx.absval (by omega), hy.absval (by omega)]
  omega
theorem Rep.eq_of {B : Int} {x : Bool × List Int} {u v : Int} (h : Rep B x u) (e : u = v) : Rep B x v := e ▸ h
theorem ediv_unique {a b q r : Int} (hb : 0 < b) (h : a = b * q + r) (h0 : 0 ≤ r) (h1 : r < b) : a / b = q ∧ a % b = r := by
  subst h
  constructor
  · rw [Int.add_comm, Int.add_mul_ediv_left _ _ (by omega), Int.ediv_eq_zero_of_lt h0 h1]; omega
  · rw [Int.add_comm, Int.add_mul_emod_self_left, Int.emod_eq_of_lt h0 h1]
/-- What the division without signs answers, and what it is with the signs. -/
theorem div_signs {A V : Int} (hA : 0 ≤ A) (hV : 0 < V) (sa sb : Bool) :
    (if sa then -A else A) / (if sb then -V else V) = (if sa != sb then -(if sa && decide (A % V ≠ 0) then A / V + 1 else A / V) else (if sa && decide (A % V ≠ 0) then A / V + 1 else A / V)) ∧
    (if sa then -A else A) % (if sb then -V else V) = (if sa && decide (A % V ≠ 0) then V - A % V else A % V) := by
  have hdm := Int.mul_ediv_add_emod A V
  have h0 := Int.emod_nonneg A (show V ≠ 0 by omega)
  have h1 := Int.emod_lt_of_pos A hV
  by_cases hr : A % V = 0
  · obtain ⟨e1, e2⟩ := ediv_unique (a := -A) (b := V) (q := -(A / V)) (r := 0) hV (by rw [Int.mul_neg]; omega) (by omega) hV
    cases sa <;> cases sb <;> simp [hr, Int.ediv_neg, Int.emod_neg, e1, e2]
  · obtain ⟨e1, e2⟩ := ediv_unique (a := -A) (b := V) (q := -(A / V + 1)) (r := V - A % V) hV (by rw [Int.mul_neg, Int.mul_add]; omega) (by omega) (by omega)
    cases sa <;> cases sb <;> simp [hr, Int.ediv_neg, Int.emod_neg, e1, e2]
theorem idiv_ok {a b : Bool × List Int} {u v : Int} (ha : Rep 4294967296 a u) (hb : Rep 4294967296 b v) (la : a.2.length < 100000) (lb : b.2.length < 100000) (hv : v ≠ 0) :
    ∃ q r, W.whole_Int_Div a b = some (q, r, 0, 0) ∧ Rep 4294967296 q (u / v) ∧ Rep 4294967296 r (u % v) ∧ q.2.length ≤ a.2.length + 4 ∧ r.2.length ≤ b.2.length := by
  have hB : (1 : Int) < 4294967296 := by decide
  have hbn : b.2 ≠ [] := fun e => hv ((hb.zero_iff hB).1 e)
  have hbl : b.2.length ≠ 0 := fun e => hbn (List.eq_nil_of_length_eq_zero e)
  have hVp := hb.pos hB hbn
  have hA0 := val_nonneg (B := 4294967296) (by decide) ha.dig
  -- without signs
  have c21 : ∃ q r : Bool × List Int, W.whole_Int_Div.c216397 a.2 b.2 false [] Option.some = some (q.1, q.2, r.1, r.2) ∧ Rep 4294967296 q (val 4294967296 a.2 / val 4294967296 b.2) ∧ Rep 4294967296 r (val 4294967296 a.2 % val 4294967296 b.2) ∧ q.2.length ≤ a.2.length + 1 ∧ r.2.length ≤ b.2.length := by
    obtain ⟨c, o1, o2⟩ := order_ok a.2 b.2 ha.dig hb.dig ha.last hb.last (by omega) (by omega)
    unfold W.whole_Int_Div.c216397
    rw [o1, bnd_val]
    have hrlen : ∀ r : Bool × List Int, Rep 4294967296 r (val 4294967296 a.2 % val 4294967296 b.2) → r.2.length ≤ b.2.length := fun r hr => by
      refine Rep.short hB hr hb ?_
      rw [hb.absval (by decide)]
      have := Int.emod_nonneg (val 4294967296 a.2) (show ((v.natAbs : Nat) : Int) ≠ 0 by omega)
      have := Int.emod_lt_of_pos (val 4294967296 a.2) (show 0 < ((v.natAbs : Nat) : Int) by omega)
      omega
    by_cases hc : c < 0
    · rw [br_pos hc]
      obtain ⟨r, r1, r2, r3⟩ := made_ok (B := 4294967296) false a.2 ha.dig (by omega)
      have hlt : val 4294967296 a.2 < val 4294967296 b.2 := by rcases o2 with o | o | o <;> omega
      rw [if_neg (by simp)] at r2
      refine ⟨(false, []), r, by rw [r1]; rfl, Rep.nil.eq_of (by rw [Int.ediv_eq_zero_of_lt hA0 hlt]), r2.eq_of (by rw [Int.emod_eq_of_lt hA0 hlt]), by simp, ?_⟩
      exact hrlen r (r2.eq_of (by rw [Int.emod_eq_of_lt hA0 hlt]))
    · rw [br_neg hc]
      by_cases h1 : b.2.length = 1
      · rw [show ((b.2.length : Int) == 1) = true by simp; omega, br_tt]
        have hd := hb.dig.getD (by decide) 0
        have hbv : val 4294967296 b.2 = b.2.getD 0 0 := by
          have := val_take_succ 4294967296 0 b.2
          rw [List.take_of_length_le (by omega)] at this
          simpa [val] using this
        rw [hbv] at hVp
        obtain ⟨q, r, s1, s2, s3, s4, s5, s6⟩ := short_ok a.2 (b.2.getD 0 0) ha.dig (by omega) ⟨hVp, hd.2⟩
        have c7 : W.whole_Int_Div.c7 a.2 b.2 Option.some = some (q, r) := by
          unfold W.whole_Int_Div.c7
          rw [idx_of (i := 0) 0 rfl (by omega), bnd_val, s1, bnd_val]
        obtain ⟨x, x1, x2, x3⟩ := made_ok (B := 4294967296) false q s2 (by omega)
        obtain ⟨y, y1, y2, y3⟩ := made_ok (B := 4294967296) false [r] (Dig.cons ⟨s4, by omega⟩ Dig.nil) (by simp)
        rw [if_neg (by simp)] at x2 y2
        obtain ⟨e1, e2⟩ := ediv_unique hVp s6 s4 s5
        rw [hbv, e1, e2]
        rw [c7, bnd_val]
        simp only
        refine ⟨x, y, by rw [x1, bnd_val, y1]; rfl, x2, y2.eq_of (by simp [val]), by omega, by simp at y3; omega⟩
      · rw [show ((b.2.length : Int) == 1) = false by simp; omega, br_ff]
        obtain ⟨q, r, s1, s2, s3, s4, s5, s6, s7⟩ := quotient_ok a.2 b.2 ha.dig hb.dig hb.last (by omega) (by omega) (by omega)
        obtain ⟨x, x1, x2, x3⟩ := made_ok (B := 4294967296) false q s2 (by omega)
        obtain ⟨y, y1, y2, y3⟩ := made_ok (B := 4294967296) false r s3 (by omega)
        rw [if_neg (by simp)] at x2 y2
        refine ⟨x, y, by rw [s1, bnd_val]; simp only; rw [x1, bnd_val, y1]; rfl, x2.eq_of s6, y2.eq_of s7, by omega, hrlen y (y2.eq_of s7)⟩
  obtain ⟨q, r, d1, d2, d3, d4, d5⟩ := c21
  have hm0 := Int.emod_nonneg (val 4294967296 a.2) (show val 4294967296 b.2 ≠ 0 by omega)
  have hm1 := Int.emod_lt_of_pos (val 4294967296 a.2) hVp
  have hq0 : 0 ≤ val 4294967296 a.2 / val 4294967296 b.2 := Int.ediv_nonneg hA0 (by omega)
  have hrz := d3.zero_iff hB
  have c24 : ∃ q' r' : Bool × List Int, W.whole_Int_Div.c245061 a.1 b.2 q.1 q.2 r.1 r.2 Option.some = some (q'.1, q'.2, r'.1, r'.2) ∧
      Rep 4294967296 q' (if a.1 && decide (val 4294967296 a.2 % val 4294967296 b.2 ≠ 0) then val 4294967296 a.2 / val 4294967296 b.2 + 1 else val 4294967296 a.2 / val 4294967296 b.2) ∧
      Rep 4294967296 r' (if a.1 && decide (val 4294967296 a.2 % val 4294967296 b.2 ≠ 0) then val 4294967296 b.2 - val 4294967296 a.2 % val 4294967296 b.2 else val 4294967296 a.2 % val 4294967296 b.2) ∧ q'.2.length ≤ a.2.length + 4 ∧ r'.2.length ≤ b.2.length := by
    unfold W.whole_Int_Div.c245061
    have c11 : W.whole_Int_Div.c11 a.1 r.2 Option.some = some (a.1 && decide (val 4294967296 a.2 % val 4294967296 b.2 ≠ 0)) := by
      unfold W.whole_Int_Div.c11
      cases ha1 : a.1
      · rfl
      · rw [br_tt]
        congr 1
        rw [Bool.true_and, decide_eq_decide]
        constructor
        · intro h e
          rw [hrz.2 e] at h
          simp at h
        · intro h
          have : r.2.length ≠ 0 := fun e => h (hrz.1 (List.eq_nil_of_length_eq_zero e))
          omega
    rw [c11, bnd_val]
    cases hc : (a.1 && decide (val 4294967296 a.2 % val 4294967296 b.2 ≠ 0))
    · rw [br_ff]
      simp only [Bool.false_eq_true, if_false]
      exact ⟨q, r, rfl, d2, d3, by omega, d5⟩
    · rw [br_tt]
      simp only [if_true]
      have hne : val 4294967296 a.2 % val 4294967296 b.2 ≠ 0 := by
        intro e; rw [e] at hc; simp at hc
      obtain ⟨o, o1, o2, o3⟩ := of_ok (n := 1) (by decide)
      obtain ⟨x, x1, x2, x3⟩ := add_ok d2 o2 (by omega) (by omega)
      have hrv := d3.absval (by decide)
      obtain ⟨t, t1, t2, t3, t4⟩ := less_ok b.2 r.2 hb.dig d3.dig (by omega) d5 (by omega)
      obtain ⟨y, y1, y2, y3⟩ := made_ok (B := 4294967296) false t t2 (by omega)
      rw [if_neg (by simp)] at y2
      have c12 : W.whole_Int_Div.c12 b.2 q.1 q.2 r.2 Option.some = some (x.1, x.2, y.1, y.2) := by
        unfold W.whole_Int_Div.c12
        simp only [pair_eta]
        rw [o1, bnd_val, x1, bnd_val, t1, bnd_val, y1, bnd_val]
      rw [c12, bnd_val]
      exact ⟨x, y, rfl, x2, y2.eq_of (by omega), by omega, by omega⟩
  obtain ⟨q', r', f1, f2, f3, f4, f5⟩ := c24
  have hq' : val 4294967296 q'.2 = (if a.1 && decide (val 4294967296 a.2 % val 4294967296 b.2 ≠ 0) then val 4294967296 a.2 / val 4294967296 b.2 + 1 else val 4294967296 a.2 / val 4294967296 b.2) := by
    rw [f2.absval (by decide)]
    split <;> omega
  obtain ⟨z, z1, z2, z3⟩ := made_ok (B := 4294967296) (!a.1 == b.1) q'.2 f2.dig (by omega)
  obtain ⟨g1, g2⟩ := div_signs hA0 hVp a.1 b.1
  unfold W.whole_Int_Div
  rw [show ((b.2.length : Int) == 0) = false by simp; omega, br_ff, d1, bnd_val]
  simp only
  rw [f1, bnd_val]
  simp only
  have c13 : W.whole_Int_Div.c13 a.1 b.1 q'.2 Option.some = some (z.1, z.2) := by
    unfold W.whole_Int_Div.c13
    rw [z1, bnd_val]
  rw [c13, bnd_val]
  refine ⟨z, r', rfl, z2.eq_of ?_, f3.eq_of ?_, by omega, f5⟩
  · rw [ha.val, hb.val, g1, hq']
    cases a.1 <;> cases b.1 <;> rfl
  · rw [ha.val, hb.val, g2]
theorem idiv_zero {a b : Bool × List Int} (hb : Rep 4294967296 b 0) : W.whole_Int_Div a b = some ((false, []), (false, []), 4, 0) := by
  have := (hb.zero_iff (by decide)).2 rfl
  unfold W.whole_Int_Div
  rw [this]
  rfl
end Go.Ql
end
