/- Plain laws: small numbers, twos, the law. -/
import Derived.Test.YtmhhlfpejfajaaaDoorPa
section
/- What is asked of one number: as a machine's number, how often 2 divides it; the law. -/
namespace Go.Ql
theorem or_comm (x y : Int) : ibits Go.BinOp.or Go.IntKind.u64 x y = ibits Go.BinOp.or Go.IntKind.u64 y x := by
  simp only [ibits, BitVec.or_comm]
theorem or_zero {x : Int} (h : 0 ≤ x ∧ x < 4294967296) : ibits Go.BinOp.or Go.IntKind.u64 0 (IntKind.u64.wrap (IntKind.u64.wrap x * (2 : Int) ^ Min.min (Int.toNat (IntKind.wrap IntKind.i64 (32 * 0))) 64)) = x := by
  have := or_add (p := 0) (w := x) (by decide) h
  rw [wrap_u64 (x := x) (by omega), show (IntKind.wrap IntKind.i64 (32 * 0)) = 0 from rfl, show Min.min (Int.toNat 0) 64 = 0 from rfl, Int.pow_zero, Int.mul_one]
  rw [Int.zero_mul, show IntKind.u64.wrap 0 = 0 from rfl] at this
  omega
theorem or_one {x y : Int} (hx : 0 ≤ x ∧ x < 4294967296) (hy : 0 ≤ y ∧ y < 4294967296) : ibits Go.BinOp.or Go.IntKind.u64 x (IntKind.u64.wrap (IntKind.u64.wrap y * (2 : Int) ^ Min.min (Int.toNat (IntKind.wrap IntKind.i64 (32 * 1))) 64)) = x + 4294967296 * y := by
  have := or_add hy hx
  rw [wrap_u64 (x := y) (by omega), show (IntKind.wrap IntKind.i64 (32 * 1)) = 32 from rfl, show Min.min (Int.toNat 32) 64 = 32 from rfl, or_comm]
  rw [wrap_u64 (x := x) (by omega)] at this
  omega
theorem wrap_neg {n : Int} (h : 0 < n ∧ n ≤ 9223372036854775808) : IntKind.i64.wrap (18446744073709551616 - n) = -n := by
  simp only [IntKind.wrap, IntKind.signed, IntKind.bits, Bool.true_and, decide_eq_true_eq, show (2 : Int) ^ 64 = 18446744073709551616 from rfl, show (2 : Int) ^ (64 - 1) = 9223372036854775808 from rfl]
  split <;> omega
def small (v : Int) : Int × Bool := if -9223372036854775808 ≤ v ∧ v ≤ 9223372036854775807 then (v, true) else (0, false)
theorem small_loop (l : List Int) (hl : l.length ≤ 2) (hd : Dig 4294967296 l) : ∃ i, iter (fun s ↦ W.whole_Int_Small.c100005 (Prod.fst s) l (l.length : Int) (Prod.snd s) some) ((0 : Int), (0 : Int)) = some (val 4294967296 l, i) := by
  match l, hl, hd with
  | [], _, _ => exact ⟨0, iter_inr (by simp only [W.whole_Int_Small.c100005]; rw [br_neg (by simp)]; rfl)⟩
  | [x], _, hd =>
    have hx := hd.head
    refine ⟨1, iter_inl (s' := (x, 1)) ?_ (iter_inr ?_)⟩
    · simp only [W.whole_Int_Small.c100005]
      rw [br_pos (by simp), show idx (x :: _) (0 : Int) = some x from rfl, bnd_val]
      simp only [or_zero hx]
      rw [show IntKind.wrap IntKind.i64 (32 * 0) = 0 from rfl, okIf_true (b := decide ((0 : Int) ≤ 0)) (by decide), bnd_val]
      rfl
    · simp only [W.whole_Int_Small.c100005]
      rw [br_neg (by simp)]
      simp [val]
  | [x, y], _, hd =>
    have hx := hd.head
    have hy := hd.tail.head
    refine ⟨2, iter_inl (s' := (x, 1)) ?_ (iter_inl (s' := (x + 4294967296 * y, 2)) ?_ (iter_inr ?_))⟩
    · simp only [W.whole_Int_Small.c100005]
      rw [br_pos (by simp), show idx (x :: _) (0 : Int) = some x from rfl, bnd_val]
      simp only [or_zero hx]
      rw [show IntKind.wrap IntKind.i64 (32 * 0) = 0 from rfl, okIf_true (b := decide ((0 : Int) ≤ 0)) (by decide), bnd_val]
      rfl
    · simp only [W.whole_Int_Small.c100005]
      rw [br_pos (by simp), show idx [x, y] (1 : Int) = some y from rfl, bnd_val]
      simp only [or_one hx hy]
      rw [show IntKind.wrap IntKind.i64 (32 * 1) = 32 from rfl, okIf_true (b := decide ((0 : Int) ≤ 32)) (by decide), bnd_val]
      rfl
    · simp only [W.whole_Int_Small.c100005]
      rw [br_neg (by simp)]
      simp [val]
theorem small_ok {a : Bool × List Int} {v : Int} (ha : Rep 4294967296 a v) (la : a.2.length < 1000000) : W.whole_Int_Small a = some (small v) := by
  have hB : (1 : Int) < 4294967296 := by decide
  unfold W.whole_Int_Small
  by_cases h2 : a.2.length > 2
  · rw [br_pos (by omega)]
    have hn : a.2 ≠ [] := fun e => by rw [e] at h2; simp at h2
    have h3 := val_ge hB ha.dig ha.last hn
    have h4 : (4294967296 : Int) ^ 2 ≤ 4294967296 ^ (a.2.length - 1) := pow_le hB (by omega)
    have h5 : (4294967296 : Int) ^ 2 = 18446744073709551616 := rfl
    have h6 := ha.absval (by decide)
    unfold small
    rw [if_neg (by omega)]
  · rw [br_neg (by omega)]
    obtain ⟨i, h3⟩ := small_loop a.2 (by omega) ha.dig
    rw [h3, bnd_val]
    have h6 := ha.absval (by decide)
    have h7 := val_lt (B := 4294967296) (by decide) ha.dig
    have h8 : (4294967296 : Int) ^ a.2.length ≤ 4294967296 ^ 2 := pow_le hB (by omega)
    have h5 : (4294967296 : Int) ^ 2 = 18446744073709551616 := rfl
    have h9 := ha.val
    have hz := ha.zero_iff hB
    simp only
    have c9 : W.whole_Int_Small.c9 (val 4294967296 a.2) a.1 some = some (a.1 && decide (val 4294967296 a.2 ≤ 9223372036854775808)) := by
      unfold W.whole_Int_Small.c9
      cases a.1 <;> rfl
    rw [c9, bnd_val]
    unfold small
    cases hs : a.1 with
    | false =>
      rw [hs] at h9
      simp only [Bool.false_eq_true, if_false] at h9
      rw [Bool.false_and, br_ff]
      by_cases h : val 4294967296 a.2 > 9223372036854775807
      · rw [br_pos h, if_neg (by omega)]
      · rw [br_neg h, if_pos (by omega), wrap_i64 (by omega), h9]
    | true =>
      rw [hs] at h9
      simp only [if_true] at h9
      rw [Bool.true_and]
      have hne := ha.neg hs
      have hpos := ha.pos hB hne
      by_cases h : val 4294967296 a.2 ≤ 9223372036854775808
      · rw [br_pos h, if_pos (by omega), u64_mod]
        have : IntKind.i64.wrap ((0 - val 4294967296 a.2) % 18446744073709551616) = v := by
          have e : (0 - val 4294967296 a.2) % 18446744073709551616 = 18446744073709551616 - val 4294967296 a.2 := by omega
          rw [e, wrap_neg (by omega), h9]
        rw [this]
      · rw [br_neg h, br_pos (by omega), if_neg (by omega)]

theorem val_drop_le {B : Int} (hB : 1 ≤ B) {l : List Int} (h : Dig B l) (i : Nat) : val B (l.drop i) ≤ val B l := by
  induction i with
  | zero => simp
  | succ i ih =>
    by_cases hi : i < l.length
    · have h1 := val_drop B i l hi
      have h2 := h.getD (by omega) i
      have h3 := val_nonneg (B := B) (by omega) (h.drop (i + 1))
      have h4 : 1 * val B (l.drop (i + 1)) ≤ B * val B (l.drop (i + 1)) := Int.mul_le_mul_of_nonneg_right hB h3
      omega
    · rw [List.drop_eq_nil_of_le (by omega)]
      exact val_nonneg (by omega) h
theorem sgn_lt {v : Int} : sgn v < 0 ↔ v < 0 := by unfold sgn; split <;> (try split) <;> omega
theorem sgn_gt {v : Int} : sgn v > 0 ↔ v > 0 := by unfold sgn; split <;> (try split) <;> omega
theorem zsmall_ok {a : Bool × List Int} {v : Int} (ha : Rep 10000 a v) (la : a.2.length < 1000000) : W.R_ZSmall a = some (small v) := by
  unfold W.R_ZSmall
  obtain ⟨o, o1, o2, o3⟩ := zof_ok (n := -9223372036854775808) (by decide)
  obtain ⟨p, p1, p2, p3⟩ := zof_ok (n := 9223372036854775807) (by decide)
  have c1 : W.R_ZSmall.c1 a.1 a.2 some = some (decide (v < -9223372036854775808) || decide (v > 9223372036854775807)) := by
    unfold W.R_ZSmall.c1
    simp only [pair_eta]
    rw [o1, bnd_val, zcmp_ok ha o2 (by omega) (by omega), bnd_val, p1, bnd_val, zcmp_ok ha p2 (by omega) (by omega), bnd_val]
    by_cases h : v < -9223372036854775808
    · rw [br_pos (sgn_lt.2 (by omega)), decide_eq_true h]; rfl
    · rw [br_neg (fun e => by have := sgn_lt.1 e; omega), decide_eq_false h, Bool.false_or]
      congr 1
      rw [decide_eq_decide, sgn_gt]
      omega
  rw [c1, bnd_val]
  unfold small
  by_cases h : -9223372036854775808 ≤ v ∧ v ≤ 9223372036854775807
  · rw [br_false (by simp; omega), if_pos h, wrap_i64 (by omega)]
    have h6 := ha.absval (by decide)
    obtain ⟨⟨n, i⟩, l1, l2⟩ := iter_loop
      (f := fun s : Int × Int ↦ W.R_ZSmall.c100005 (Prod.fst s) (Prod.snd s) a.2 some)
      (J := fun s => ∃ k : Nat, k ≤ a.2.length ∧ s.2 = (k : Int) - 1 ∧ s.1 = - val 10000 (a.2.drop k))
      (Q := fun s => s.1 = - val 10000 a.2)
      (fun s => (s.2 + 1).toNat) (fun ⟨n, i⟩ ⟨k, h1, h2, h3⟩ => by
        simp only at h2 h3 ⊢
        subst h2; subst h3
        unfold W.R_ZSmall.c100005
        by_cases h0 : k = 0
        · subst h0
          rw [br_neg (by omega)]
          exact Or.inl ⟨_, rfl, by simp⟩
        · have hk := val_drop 10000 (k - 1) a.2 (by omega)
          rw [show k - 1 + 1 = k by omega] at hk
          have hle := val_drop_le (B := 10000) (by decide) ha.dig (k - 1)
          have hnn := val_nonneg (B := 10000) (by decide) (ha.dig.drop k)
          have hdg := ha.dig.getD (by decide) (k - 1)
          rw [br_pos (by omega), idx_of (k - 1) (by omega) (by omega), bnd_val, wrap_i64 (x := -val 10000 (a.2.drop k) * 10000) (by omega), wrap_i64 (by omega), wrap_i64 (by omega)]
          exact Or.inr ⟨_, rfl, ⟨k - 1, by omega, by simp only; omega, by simp only; omega⟩, by simp only; omega⟩)
      (s := ((0 : Int), (a.2.length : Int) - 1)) ⟨a.2.length, Nat.le_refl _, rfl, by simp [val]⟩
    simp only at l2
    rw [l1, bnd_val, l2]
    have h9 := ha.val
    have c2 : W.R_ZSmall.c232773 (-val 10000 a.2) a.1 some = some v := by
      unfold W.R_ZSmall.c232773
      cases hs : a.1 with
      | false =>
        rw [hs] at h9
        simp only [Bool.false_eq_true, if_false] at h9
        rw [Bool.not_false, br_tt, wrap_i64 (by omega)]
        congr 1; omega
      | true =>
        rw [hs] at h9
        simp only [if_true] at h9
        rw [Bool.not_true, br_ff, h9]
    simp only
    rw [c2, bnd_val]
  · rw [br_true (by simp; omega), if_neg h]
end Go.Ql
end

section
/- How often 2 divides a number; the law of what is asked of one number. -/
namespace Go.Ql
theorem twos_unique : ∀ {n k : Nat} {m l : Nat}, 2 ^ n * (2 * m + 1) = 2 ^ k * (2 * l + 1) → n = k
  | 0, 0, _, _, _ => rfl
  | 0, k + 1, m, l, h => by
    rw [Nat.pow_zero, Nat.one_mul, Nat.pow_succ, Nat.mul_comm (2 ^ k) 2, Nat.mul_assoc] at h
    omega
  | n + 1, 0, m, l, h => by
    rw [Nat.pow_zero, Nat.one_mul, Nat.pow_succ, Nat.mul_comm (2 ^ n) 2, Nat.mul_assoc] at h
    omega
  | n + 1, k + 1, m, l, h => by
    rw [Nat.pow_succ, Nat.pow_succ, Nat.mul_comm (2 ^ n) 2, Nat.mul_comm (2 ^ k) 2, Nat.mul_assoc, Nat.mul_assoc] at h
    rw [twos_unique (n := n) (k := k) (m := m) (l := l) (by omega)]
/-- n is how often 2 divides v. -/
def Twos (v : Nat) (n : Nat) : Prop := (v = 0 → n = 0) ∧ (v ≠ 0 → ∃ m, v = 2 ^ n * (2 * m + 1))
theorem Twos.one {v n k : Nat} (h : Twos v n) (g : Twos v k) : n = k := by
  by_cases hv : v = 0
  · rw [h.1 hv, g.1 hv]
  · obtain ⟨m, h1⟩ := h.2 hv
    obtain ⟨l, h2⟩ := g.2 hv
    exact twos_unique (h1.symm.trans h2)
theorem tz_of {y : Int} (h : 0 ≤ y ∧ y < 4294967296) : W.bits_TrailingZeros32 y = some (Go.Lib.ctz 32 y.toNat : Int) := by
  unfold W.bits_TrailingZeros32
  rw [decide_eq_true h.1, decide_eq_true h.2]
  rfl
theorem itwos_ok {a : Bool × List Int} {v : Int} (ha : Rep 4294967296 a v) (la : a.2.length < 1000000) : ∃ n : Nat, W.whole_Int_Twos a = some (n : Int) ∧ Twos v.natAbs n := by
  have hB : (1 : Int) < 4294967296 := by decide
  have h6 := ha.absval (by decide)
  obtain ⟨r, l1, l2⟩ := iter_loop
    (f := fun s : Int ↦ W.whole_Int_Twos.c100002 a.2 (a.2.length : Int) s some)
    (J := fun s => ∃ k : Nat, s = (k : Int) ∧ k ≤ a.2.length ∧ val 4294967296 (a.2.take k) = 0)
    (Q := fun r => match r with
      | .inl p => ∃ n : Nat, p.1 = (n : Int) ∧ Twos v.natAbs n
      | .inr _ => v = 0)
    (fun s => (a.2.length - s).toNat) (fun s ⟨k, h1, h2, h3⟩ => by
      subst h1
      unfold W.whole_Int_Twos.c100002
      by_cases hk : k < a.2.length
      · have hdg := ha.dig.getD (by decide) k
        rw [br_pos (by omega), idx_of k rfl hk, bnd_val]
        by_cases hz : a.2.getD k 0 = 0
        · rw [hz, show ((0 : Int) != 0) = false from rfl, br_ff, wrap_i64 (by omega)]
          refine Or.inr ⟨_, rfl, ⟨k + 1, by omega, by omega, ?_⟩, by omega⟩
          rw [val_take_succ, h3, hz]; simp
        · rw [br_true (by simpa using hz), tz_of hdg, bnd_val]
          obtain ⟨d, hd⟩ : ∃ d : Nat, a.2.getD k 0 = d := ⟨(a.2.getD k 0).toNat, by omega⟩
          rw [hd, Int.toNat_natCast]
          have hd0 : d ≠ 0 := by omega
          have hd1 : d < 2 ^ 32 := by omega
          obtain ⟨m, hm, hc⟩ := Go.Lib.ctzFrom_spec 32 d (by omega) hd1
          have hctz : Go.Lib.ctz 32 d = Go.Lib.ctzFrom 32 d := by unfold Go.Lib.ctz; rw [if_neg hd0]
          rw [hctz]
          generalize Go.Lib.ctzFrom 32 d = c at hm hc
          rw [wrap_i64 (x := 32 * (k : Int)) (by omega), wrap_i64 (by omega)]
          refine Or.inl ⟨_, rfl, 32 * k + c, by simp only; omega, ?_⟩
          have hrest := val_nonneg (B := 4294967296) (by decide) (ha.dig.drop (k + 1))
          obtain ⟨e, he⟩ : ∃ e : Nat, val 4294967296 (a.2.drop (k + 1)) = e := ⟨(val 4294967296 (a.2.drop (k + 1))).toNat, by omega⟩
          have hcut := val_cut 4294967296 a.2 k (by omega)
          rw [h3, val_drop _ _ _ hk, hd, he, h6] at hcut
          have hN : v.natAbs = 4294967296 ^ k * (d + 4294967296 * e) := by
            apply Int.ofNat_inj.1
            rw [hcut, Int.zero_add, Int.natCast_mul, Int.natCast_pow, Int.natCast_add, Int.natCast_mul]
            rfl
          have hp : 4294967296 ^ k = 2 ^ (32 * k) := by
            rw [show 4294967296 = 2 ^ 32 from rfl, ← Nat.pow_mul]
          have hs : 4294967296 = 2 ^ c * (2 * 2 ^ (31 - c)) := by
            rw [← Nat.mul_assoc, Nat.mul_comm (2 ^ c) 2, Nat.mul_assoc, ← Nat.pow_add, show c + (31 - c) = 31 by omega]
          have hval : v.natAbs = 2 ^ (32 * k + c) * (2 * (m + 2 ^ (31 - c) * e) + 1) := by
            rw [hN, hp, Nat.pow_add, Nat.mul_assoc]
            congr 1
            rw [hm]
            have hs' : 4294967296 * e = 2 ^ c * (2 * (2 ^ (31 - c) * e)) := by rw [show 4294967296 * e = (2 ^ c * (2 * 2 ^ (31 - c))) * e from congrArg (· * e) hs]; simp only [Nat.mul_assoc]
            rw [hs', ← Nat.mul_add]
            congr 1
            omega
          refine ⟨fun h0 => ?_, fun _ => ⟨_, hval⟩⟩
          exfalso
          rw [h0] at hval
          have : 0 < 2 ^ (32 * k + c) * (2 * (m + 2 ^ (31 - c) * e) + 1) := Nat.mul_pos (Nat.pow_pos (by decide)) (by omega)
          omega
      · rw [br_neg (by omega)]
        refine Or.inl ⟨_, rfl, ?_⟩
        simp only
        rw [List.take_of_length_le (by omega)] at h3
        omega)
    (s := (0 : Int)) ⟨0, rfl, Nat.zero_le _, rfl⟩
  unfold W.whole_Int_Twos
  rw [l1, bnd_val]
  cases r with
  | inl p =>
    obtain ⟨n, h1, h2⟩ := l2
    exact ⟨n, by show some p.1 = _; rw [h1], h2⟩
  | inr q =>
    have l2 : v = 0 := l2
    subst l2
    exact ⟨0, rfl, fun _ => rfl, fun h => absurd rfl h⟩
end Go.Ql
end

section
/- The reference's halving; the law of what is asked of one number. -/
namespace Go.Ql
theorem zhalf_ok {a : Bool × List Int} {u : Int} (ha : Rep 10000 a u) (la : a.2.length < 1000000) :
    ∃ r o, W.R_zhalf a = some (r, o) ∧ ∃ w, Rep 10000 r w ∧ w.natAbs = u.natAbs / 2 ∧ r.2.length ≤ a.2.length := by
  have h6 := ha.absval (by decide)
  obtain ⟨⟨c, i, t⟩, l1, l2, l3, l4, l5⟩ := iter_loop
    (f := fun s : Int × Int × List Int ↦ W.R_zhalf.c100004 (Prod.fst s) (Prod.fst (Prod.snd s)) a.2 (Prod.snd (Prod.snd s)) some)
    (J := fun s => ∃ k : Nat, s.2.1 = (k : Int) - 1 ∧ k ≤ a.2.length ∧ 0 ≤ s.1 ∧ s.1 < 2 ∧ Dig 10000 s.2.2 ∧ s.2.2.length = a.2.length ∧ (∀ x, x < k → s.2.2.getD x 0 = 0) ∧
      val 10000 a.2 = val 10000 (a.2.take k) + 2 * val 10000 s.2.2 + 10000 ^ k * s.1)
    (Q := fun s => 0 ≤ s.1 ∧ s.1 < 2 ∧ Dig 10000 s.2.2 ∧ s.2.2.length = a.2.length ∧ val 10000 a.2 = 2 * val 10000 s.2.2 + s.1)
    (fun s => (s.2.1 + 1).toNat) (fun ⟨c, i, t⟩ ⟨k, k1, k2, k3, k4, k5, k6, k7, k8⟩ => by
      simp only at k1 k3 k4 k5 k6 k7 k8 ⊢
      subst k1
      unfold W.R_zhalf.c100004
      by_cases h0 : k = 0
      · subst h0
        rw [br_neg (by omega)]
        refine Or.inl ⟨_, rfl, k3, k4, k5, k6, ?_⟩
        simp only [List.take_zero, val, Int.pow_zero, Int.one_mul, Int.zero_add] at k8 ⊢
        exact k8
      · obtain ⟨j, rfl⟩ : ∃ j, k = j + 1 := ⟨k - 1, by omega⟩
        have hdg := ha.dig.getD (by decide) j
        have ej : ((j + 1 : Nat) : Int) - 1 = j := by omega
        have htk := val_take_succ 10000 j a.2
        rw [ej, br_pos (by omega), idx_of j rfl (by omega), bnd_val, inR_of (by omega) (by omega), bnd_val, idx_of j rfl (by omega), bnd_val, wrap_i64 (x := c * 10000) (by omega), wrap_i64 (x := c * 10000 + a.2.getD j 0) (by omega), tmod_pos (by omega), tdiv_pos (by omega),
          wrap_i64 (x := (c * 10000 + a.2.getD j 0) / 2) (by omega), wrap_i64 (by omega), Int.toNat_natCast]
        refine Or.inr ⟨_, rfl, ⟨j, by simp only, by omega, by simp only; omega, by simp only; omega, k5.set ⟨by omega, by omega⟩ j, by simp only [List.length_set]; exact k6, fun x hx => ?_, ?_⟩, by simp only; omega⟩
        · simp only
          rw [getD_set (by omega), if_neg (by omega)]
          exact k7 x (by omega)
        · simp only
          have hdm := Int.mul_ediv_add_emod (c * 10000 + a.2.getD j 0) 2
          rw [val_set _ _ _ _ (by omega), k7 j (by omega), k8, htk, Int.pow_succ]
          generalize (c * 10000 + a.2.getD j 0) / 2 = q at *
          generalize (c * 10000 + a.2.getD j 0) % 2 = m at *
          generalize (10000 : Int) ^ j = P at *
          grind)
    (s := ((0 : Int), (a.2.length : Int) - 1, List.replicate a.2.length 0))
    ⟨a.2.length, rfl, Nat.le_refl _, by simp, by simp, Dig.replicate (by decide) _, by simp, fun x _ => getD_replicate _ _, by simp [val_replicate]⟩
  simp only at l2 l3 l4 l5
  obtain ⟨z, z1, z2, z3⟩ := zmade_ok (B := 10000) a.1 t l4 (by omega)
  have hz : ∃ w, Rep 10000 z w ∧ w.natAbs = u.natAbs / 2 := by
    have h7 := val_nonneg (B := 10000) (by decide) l4
    refine ⟨_, z2, ?_⟩
    split <;> omega
  obtain ⟨w, w1, w2⟩ := hz
  unfold W.R_zhalf
  rw [okIf_true (by simp; omega), bnd_val, wrap_i64 (by omega), Int.toNat_natCast, l1, bnd_val]
  simp only
  rw [z1, bnd_val]
  exact ⟨z, _, rfl, w, w1, w2, by omega⟩
theorem zodd_ok {a : Bool × List Int} {u : Int} (ha : Rep 10000 a u) : W.R_zodd a = some (decide (u.natAbs % 2 = 1)) := by
  have h6 := ha.absval (by decide)
  unfold W.R_zodd W.R_zodd.c1
  cases hl : a.2 with
  | nil =>
    rw [hl] at h6
    simp only [val] at h6
    rw [br_neg (by simp), bnd_val, show u.natAbs = 0 by omega]
    rfl
  | cons d l =>
    rw [hl] at h6
    have hd : 0 ≤ d ∧ d < 10000 := ha.dig d (by rw [hl]; simp)
    have hn := val_nonneg (B := 10000) (by decide) (l := l) (fun x hx => ha.dig x (by rw [hl]; simp [hx]))
    simp only [val] at h6
    rw [br_pos (by simp), show idx (d :: l) (0 : Int) = some d from rfl, bnd_val, bnd_val, tmod_pos hd.1]
    congr 1
    rw [Bool.eq_iff_iff, beq_iff_eq, decide_eq_true_iff]
    omega
theorem ztwos_ok {a : Bool × List Int} {v : Int} (ha : Rep 10000 a v) (la : a.2.length < 1000000) : ∃ n : Nat, W.R_ZTwos a = some (n : Int) ∧ Twos v.natAbs n := by
  have h6 := ha.absval (by decide)
  have h7 := val_lt (B := 10000) (by decide) ha.dig
  have hB : (1 : Int) < 10000 := by decide
  -- no more than so often
  have hmost : ∀ n m : Nat, v.natAbs = 2 ^ n * m → m ≠ 0 → n < 14000000 := by
    intro n m h hm
    have h1 : 2 ^ n ≤ v.natAbs := by rw [h]; exact Nat.le_mul_of_pos_right _ (by omega)
    have h2 : v.natAbs < 10000 ^ a.2.length := by
      have : ((10000 ^ a.2.length : Nat) : Int) = (10000 : Int) ^ a.2.length := by rw [Int.natCast_pow]; rfl
      omega
    have h3 : (10000 : Nat) ^ a.2.length ≤ (2 ^ 14) ^ a.2.length := Nat.pow_le_pow_left (by decide) _
    rw [← Nat.pow_mul] at h3
    have h4 : 2 ^ n < 2 ^ (14 * a.2.length) := by omega
    have := (Nat.pow_lt_pow_iff_right (a := 2) (by decide)).1 h4
    omega
  obtain ⟨⟨n, x, D⟩, l1, k, l2, l3⟩ := iter_loop
    (f := fun s : Int × Bool × List Int ↦ W.R_ZTwos.c100002 (Prod.fst s) (Prod.fst (Prod.snd s)) (Prod.snd (Prod.snd s)) some)
    (J := fun s => ∃ (k : Nat) (w : Int), s.1 = (k : Int) ∧ Rep 10000 (s.2.1, s.2.2) w ∧ s.2.2.length < 1000000 ∧ (v = 0 → w = 0 ∧ k = 0) ∧ (v ≠ 0 → w ≠ 0 ∧ v.natAbs = 2 ^ k * w.natAbs))
    (Q := fun s => ∃ k : Nat, s.1 = (k : Int) ∧ Twos v.natAbs k)
    (fun s => (val 10000 s.2.2).toNat) (fun ⟨n, x, D⟩ ⟨k, w, k1, k2, k3, k4, k5⟩ => by
      simp only at k1 k2 k3 ⊢
      subst k1
      have hw := k2.absval (by decide)
      have hz := k2.zero_iff hB
      simp only at hw hz
      unfold W.R_ZTwos.c100002
      have c2 : W.R_ZTwos.c2 x D some = some (decide (D.length > 0) && !decide (w.natAbs % 2 = 1)) := by
        unfold W.R_ZTwos.c2
        rw [zodd_ok k2, bnd_val]
        by_cases h : D.length > 0
        · rw [br_pos (by omega), decide_eq_true h, Bool.true_and]
        · rw [br_neg (by omega), decide_eq_false h, Bool.false_and]
      rw [c2, bnd_val]
      by_cases h : D.length > 0 ∧ ¬ w.natAbs % 2 = 1
      · rw [br_true (by simpa using h)]
        obtain ⟨r, o, r1, w', r2, r3, r4⟩ := zhalf_ok k2 k3
        rw [r1, bnd_val]
        have hw0 : w ≠ 0 := fun e => by
          have := hz.2 e
          rw [this] at h
          exact absurd h.1 (by simp)
        have hv0 : v ≠ 0 := fun e => hw0 (k4 e).1
        obtain ⟨_, hv⟩ := k5 hv0
        have hk := hmost k w.natAbs hv (by omega)
        have hr := r2.absval (by decide)
        rw [wrap_i64 (by omega)]
        refine Or.inr ⟨_, rfl, ⟨k + 1, w', by simp only; omega, r2, by simp only at r4 ⊢; omega, fun e => absurd e hv0, fun _ => ⟨by omega, ?_⟩⟩, by simp only; omega⟩
        rw [hv, r3, Nat.pow_succ, Nat.mul_assoc]
        congr 1
        omega
      · rw [br_false (by
          cases hd : decide (D.length > 0) && !decide (w.natAbs % 2 = 1) with
          | false => rfl
          | true => exact absurd (by simpa using hd) h)]
        refine Or.inl ⟨_, rfl, k, rfl, fun e => (k4 (by omega)).2, fun e => ?_⟩
        obtain ⟨hw0, hv⟩ := k5 (by omega)
        have hD : D.length > 0 := by
          rcases Nat.eq_zero_or_pos D.length with e0 | e0
          · exact absurd (hz.1 (List.eq_nil_of_length_eq_zero e0)) hw0
          · exact e0
        have hodd : w.natAbs % 2 = 1 := by
          rcases Classical.em (w.natAbs % 2 = 1) with e1 | e1
          · exact e1
          · exact absurd ⟨hD, e1⟩ h
        exact ⟨w.natAbs / 2, by rw [hv]; congr 1; omega⟩)
    (s := ((0 : Int), a.1, a.2)) ⟨0, v, rfl, ha, la, fun e => ⟨e, rfl⟩, fun e => ⟨e, by simp⟩⟩
  unfold W.R_ZTwos
  rw [l1, bnd_val]
  exact ⟨k, congrArg some l2, l3⟩

theorem reads_law (text : List UInt8) (n : Int) (ht : text.length ≤ 9223372036854775807) (hn : -9223372036854775808 ≤ n ∧ n ≤ 9223372036854775807) : W.Law_WholeReads text n = some true := by
  have key : ∃ x z v f, W.whole_Parse text = some (x, f) ∧ W.R_ZParse text = some (z, f) ∧ Rep 4294967296 x v ∧ Rep 10000 z v ∧ x.2.length ≤ 1000 ∧ z.2.length ≤ 1000 ∧ (f.1 = 0 → Txt v text) := by
    rcases parses text ht with ⟨ds, v, hs, hd⟩ | ⟨f, h0, h1, h2⟩
    · obtain ⟨x, z, r1, r2, r3, r4, r5, r6, r7⟩ := hs.rd hd
      exact ⟨x, z, v, _, r1, r2, r4, r5, r6, r7, fun _ => hs.txt⟩
    · exact ⟨_, _, 0, f, h1, h2, Rep.nil, Rep.nil, by simp, by simp, fun e => absurd e h0⟩
  obtain ⟨x, z, v, f, h1, h2, h3, h4, h5, h6, h7⟩ := key
  unfold W.Law_WholeReads
  rw [h1, bnd_val, h2, bnd_val]
  have c3 : W.Law_WholeReads.c3 f.1 f.2 f.1 f.2 some = some false := by
    unfold W.Law_WholeReads.c3
    simp only [pair_eta]
    rw [begun_ok, bnd_val, eqT_ff]; rfl
  simp only [pair_eta]
  rw [c3, bnd_val, br_ff, small_ok h3 (by omega), bnd_val, zsmall_ok h4 (by omega), bnd_val]
  obtain ⟨l, a1, a2⟩ := tt_ok h3 h4 (by omega) (by omega)
  obtain ⟨o, o1, o2, o3⟩ := of_ok hn
  obtain ⟨p, p1, p2, p3⟩ := zof_ok hn
  obtain ⟨m, b1, b2⟩ := tt_ok o2 p2 (by omega) (by omega)
  have c7 : W.Law_WholeReads.c7 text n x.1 x.2 z.1 z.2 f.1 some = some false := by
    unfold W.Law_WholeReads.c7
    simp only [pair_eta, a1, a2, o1, p1, b1, b2, bnd_val, beq_self_eq_true, Bool.not_true, br_ff]
    by_cases h0 : f.1 = 0
    · obtain ⟨l', t1, t2⟩ := text_ok h3 (by omega)
      rw [a1] at t1
      cases t1
      have : l = text := t2.one (h7 h0)
      rw [br_true (by simpa using h0), this, beq_self_eq_true, Bool.not_true, br_ff]
    · rw [br_false (by simpa using h0)]
  rw [c7, bnd_val, br_ff]
  obtain ⟨i, i1, i2, i3⟩ := neg_ok h3 (by omega)
  obtain ⟨j, j1, j2, j3⟩ := zneg_ok h4 (by omega)
  obtain ⟨q, d1, d2⟩ := tt_ok i2 j2 (by omega) (by omega)
  obtain ⟨s, s1, s2⟩ := itwos_ok h3 (by omega)
  obtain ⟨t, t1, t2⟩ := ztwos_ok h4 (by omega)
  have hst := s2.one t2
  subst hst
  have zs : W.R_ZSign z = some (sgn v) := by
    unfold W.R_ZSign
    simp only [pair_eta]
    rw [zsign_ok h4, bnd_val]
  have c9 : W.Law_WholeReads.c9 (small v).1 (small v).2 (small v).1 (small v).2 x.1 x.2 z.1 z.2 some = some true := by
    unfold W.Law_WholeReads.c9
    simp only [pair_eta, sign_ok h3, zs, i1, j1, d1, d2, s1, t1, bnd_val, beq_self_eq_true, br_tt]
  rw [c9, bnd_val]
end Go.Ql
end
