/- Plain laws: common divisors, the reference's division, fractions, the law. -/
import Derived.Test.YtmhhlfpejfajaaaPe
import Derived.Test.YtmhhlfpejfajaaaWb
section
/- Common divisors and shifts of whole numbers. -/
namespace Go.Ql
theorem gcd_step (u v : Int) : Int.gcd v (u % v) = Int.gcd u v := by
  have h := Int.mul_ediv_add_emod u v
  have e : u % v = u - v * (u / v) := by omega
  rw [e, Int.gcd_sub_mul_left_right, Int.gcd_comm]
theorem Rep.pos_of {B : Int} (hB : 1 < B) {x : Bool × List Int} {v : Int} (h : Rep B x v) : (x.2.length : Int) > 0 ↔ v ≠ 0 := by
  constructor
  · intro h1 h2
    rw [(h.zero_iff hB).2 h2] at h1
    simp at h1
  · intro h1
    have : x.2.length ≠ 0 := fun e => h1 ((h.zero_iff hB).1 (List.eq_nil_of_length_eq_zero e))
    omega
theorem mod_less (u : Int) {v : Int} (h : v ≠ 0) : (u % v).natAbs < v.natAbs := by
  have h1 := Int.emod_nonneg u h
  have h2 := Int.emod_lt u h
  omega
theorem igcd_ok {a b : Bool × List Int} {u v : Int} (ha : Rep 4294967296 a u) (hb : Rep 4294967296 b v) {L : Nat} (la : a.2.length ≤ L) (lb : b.2.length ≤ L) (hL : L < 100000) :
    ∃ r, W.whole_Gcd a b = some r ∧ Rep 4294967296 r (Int.gcd u v : Int) ∧ r.2.length ≤ L := by
  have hB : (1 : Int) < 4294967296 := by decide
  obtain ⟨⟨x0, x1, y0, y1⟩, l1, w, l2, l3, l4⟩ := iter_loop
    (f := fun s : Bool × List Int × Bool × List Int ↦ W.whole_Gcd.c100001 (Prod.fst s) (Prod.fst (Prod.snd s)) (Prod.fst (Prod.snd (Prod.snd s))) (Prod.snd (Prod.snd (Prod.snd s))) Option.some)
    (J := fun s => ∃ p q : Int, Rep 4294967296 (s.1, s.2.1) p ∧ Rep 4294967296 (s.2.2.1, s.2.2.2) q ∧ Int.gcd p q = Int.gcd u v ∧ s.2.1.length ≤ L ∧ s.2.2.2.length ≤ L)
    (Q := fun s => ∃ w : Int, Rep 4294967296 (s.1, s.2.1) w ∧ w.natAbs = Int.gcd u v ∧ s.2.1.length ≤ L)
    (fun s => (val 4294967296 s.2.2.2).toNat) (fun ⟨x0, x1, y0, y1⟩ ⟨p, q, h1, h2, h3, h4, h5⟩ => by
      simp only at h1 h2 h3 h4 h5 ⊢
      have hq := h2.pos_of hB
      simp only at hq
      unfold W.whole_Gcd.c100001
      by_cases h0 : q = 0
      · rw [br_neg (fun h => hq.1 h h0)]
        subst h0
        exact Or.inl ⟨_, rfl, p, h1, by rw [← h3]; simp, h4⟩
      · rw [br_pos (hq.2 h0)]
        obtain ⟨d, r, d1, d2, d3, d4, d5⟩ := idiv_ok h1 h2 (by simp only; omega) (by simp only; omega) h0
        rw [d1, bnd_val]
        refine Or.inr ⟨_, rfl, ⟨q, p % q, h2, d3, by rw [gcd_step, h3], h5, by simp only at d5 ⊢; omega⟩, ?_⟩
        have e1 := d3.absval (by decide)
        have e2 := h2.absval (by decide)
        have := mod_less p h0
        simp only at e1 e2 ⊢
        omega)
    (s := (a.1, a.2, b.1, b.2)) ⟨u, v, ha, hb, rfl, la, lb⟩
  simp only at l2 l4
  obtain ⟨r, r1, r2, r3⟩ := made_ok (B := 4294967296) false x1 l2.dig (by omega)
  unfold W.whole_Gcd
  rw [l1, bnd_val, r1]
  rw [if_neg (by simp), l2.absval (by decide), l3] at r2
  exact ⟨r, rfl, r2, by omega⟩
theorem shift_ok {a : Bool × List Int} {u : Int} (ha : Rep 4294967296 a u) (la : a.2.length < 100000) (n : Int) :
    (n < -10000 ∨ n > 10000 → W.whole_Int_Shift a n = some ((false, []), 5, 0)) ∧
    (0 ≤ n ∧ n ≤ 10000 → ∃ r, W.whole_Int_Shift a n = some (r, 0, 0) ∧ Rep 4294967296 r (u * 2 ^ n.toNat) ∧ r.2.length ≤ a.2.length + 400) ∧
    (-10000 ≤ n ∧ n < 0 → ∃ r, W.whole_Int_Shift a n = some (r, 0, 0) ∧ Rep 4294967296 r (u / 2 ^ (-n).toNat) ∧ r.2.length ≤ a.2.length + 400) := by
  have hA0 := val_nonneg (B := 4294967296) (by decide) ha.dig
  have c1 : W.whole_Int_Shift.c1 n Option.some = some (decide (n < -10000 ∨ n > 10000)) := by
    unfold W.whole_Int_Shift.c1
    by_cases h : n < -10000
    · rw [br_pos h, decide_eq_true (Or.inl h)]
    · rw [br_neg h]; congr 1; rw [decide_eq_decide]; omega
  unfold W.whole_Int_Shift
  rw [c1, bnd_val]
  refine ⟨fun h => by rw [br_pos h], fun h => ?_, fun h => ?_⟩
  · rw [br_neg (by omega), br_pos (by omega)]
    obtain ⟨k, rfl⟩ : ∃ k : Nat, n = k := ⟨n.toNat, by omega⟩
    obtain ⟨t, t1, t2, t3, t4⟩ := left_ok a.2 k ha.dig (by omega) (by omega)
    obtain ⟨r, r1, r2, r3⟩ := made_ok (B := 4294967296) a.1 t t2 (by omega)
    have c4 : W.whole_Int_Shift.c4 (k : Int) a.1 a.2 Option.some = some (r.1, r.2) := by
      show (bnd (W.whole_left a.2 (k : Int)) fun y => bnd (W.whole_made a.1 y.1) fun y_1 => some (y_1.1, y_1.2)) = _
      rw [t1, bnd_val]
      simp only
      rw [r1, bnd_val]
    rw [c4, bnd_val]
    refine ⟨r, rfl, r2.eq_of ?_, by omega⟩
    rw [t4, ha.val, Int.toNat_natCast]
    split <;> simp [Int.neg_mul]
  · rw [br_neg (by omega), br_neg (by omega)]
    obtain ⟨k, rfl⟩ : ∃ k : Nat, n = -(k : Int) := ⟨(-n).toNat, by omega⟩
    obtain ⟨t, lost, t1, t2, t3, t4, t5⟩ := right_ok a.2 k ha.dig (by omega) (by omega)
    obtain ⟨r, r1, r2, r3⟩ := made_ok (B := 4294967296) a.1 t t2 (by omega)
    rw [wrap_i64 (by omega), show (0 : Int) - -(k : Int) = k by omega, t1, bnd_val]
    simp only
    rw [r1, bnd_val, t5 ha.last]
    have hP : (0 : Int) < 2 ^ k := Int.pow_pos (by decide)
    have hs := (div_signs hA0 hP a.1 false).1
    have hu : u / 2 ^ (- -(k : Int)).toNat = (if a.1 then -val 4294967296 a.2 else val 4294967296 a.2) / (if false then -2 ^ k else 2 ^ k) := by
      rw [← ha.val, show (- -(k : Int)).toNat = k by omega]; simp
    rw [hs] at hu
    rw [t4] at r2
    have c22 : ∃ x : Bool × List Int, W.whole_Int_Shift.c228677 (decide (val 4294967296 a.2 % 2 ^ k ≠ 0)) a.1 r.1 r.2 Option.some = some (x.1, x.2) ∧ Rep 4294967296 x (u / 2 ^ (- -(k : Int)).toNat) ∧ x.2.length ≤ a.2.length + 400 := by
      unfold W.whole_Int_Shift.c228677
      have c7 : W.whole_Int_Shift.c7 (decide (val 4294967296 a.2 % 2 ^ k ≠ 0)) a.1 Option.some = some (a.1 && decide (val 4294967296 a.2 % 2 ^ k ≠ 0)) := by
        unfold W.whole_Int_Shift.c7
        cases decide (val 4294967296 a.2 % 2 ^ k ≠ 0) <;> cases a.1 <;> rfl
      rw [c7, bnd_val, hu]
      cases ha1 : a.1
      · refine ⟨r, rfl, r2.eq_of ?_, by omega⟩
        simp [ha1]
      · cases hl : decide (val 4294967296 a.2 % 2 ^ k ≠ 0)
        · refine ⟨r, rfl, r2.eq_of ?_, by omega⟩
          simp [ha1]
        · obtain ⟨o, o1, o2, o3⟩ := of_ok (n := 1) (by decide)
          obtain ⟨x, x1, x2, x3⟩ := sub_ok r2 o2 (by omega) (by omega)
          have c8 : W.whole_Int_Shift.c8 r.1 r.2 Option.some = some (x.1, x.2) := by
            unfold W.whole_Int_Shift.c8
            simp only [pair_eta]
            rw [o1, bnd_val, x1, bnd_val]
          refine ⟨x, ?_, x2.eq_of ?_, by omega⟩
          · simp only [Bool.and_self, br_tt]
            rw [c8, bnd_val]
          · simp [ha1]; omega
    obtain ⟨x, x1, x2, x3⟩ := c22
    rw [x1, bnd_val]
    exact ⟨x, rfl, x2, x3⟩
end Go.Ql
end

section
/- The reference's numbers: of a machine's number, division, common divisors, powers of two, shifts. -/
namespace Go.Ql
theorem zof_ok {n : Int} (h : -9223372036854775808 ≤ n ∧ n ≤ 9223372036854775807) :
    ∃ r, W.R_ZOf n = some r ∧ Rep 10000 r n ∧ r.2.length ≤ 5 := by
  unfold W.R_ZOf
  have e : W.R_ZOf.c208197 n (IntKind.u64.wrap n) Option.some = some (n.natAbs : Int) := by
    unfold W.R_ZOf.c208197
    by_cases h0 : n < 0
    · rw [br_pos h0, u64_mod, u64_mod]; congr 1; omega
    · rw [br_neg h0, u64_mod]; congr 1; omega
  rw [e, bnd_val]
  have hB : (0 : Int) < 10000 := by decide
  obtain ⟨⟨u, d⟩, l1, l2, l3, l4⟩ := iter_loop
    (f := fun s : Int × List Int ↦ W.R_ZOf.c100005 (Prod.fst s) (Prod.snd s) Option.some)
    (J := fun s => 0 ≤ s.1 ∧ s.1 < 10000 ^ (5 - s.2.length) ∧ s.2.length ≤ 5 ∧ Dig 10000 s.2 ∧ val 10000 s.2 + 10000 ^ s.2.length * s.1 = (n.natAbs : Int))
    (Q := fun s => s.2.length ≤ 5 ∧ Dig 10000 s.2 ∧ val 10000 s.2 = (n.natAbs : Int))
    (fun s => s.1.toNat) (fun ⟨u, d⟩ ⟨h1, h2, h3, h4, h5⟩ => by
      simp only at h1 h2 h3 h4 h5 ⊢
      unfold W.R_ZOf.c100005
      by_cases h0 : u > 0
      · have hl : d.length ≠ 5 := fun e => by rw [e] at h2; simp at h2; omega
        rw [br_pos h0, tmod_pos h1, tdiv_pos h1, wrap_i64 (by omega), wrap_u64 (by
          have : (10000 : Int) ^ (5 - d.length) ≤ 10000 ^ 5 := pow_le (by decide) (by omega)
          rw [show (10000 : Int) ^ 5 = 100000000000000000000 from rfl] at this
          have h7 : u ≤ (n.natAbs : Int) := by
            have : 1 * u ≤ 10000 ^ d.length * u := Int.mul_le_mul_of_nonneg_right (by have := pow_pos hB d.length; omega) h1
            have := val_nonneg (B := 10000) (by decide) h4
            omega
          omega), okIf_true (by simp; omega), bnd_val]
        refine Or.inr ⟨(_, _), rfl, ⟨by simp only; omega, ?_, by simp; omega, h4.append (Dig.cons (by omega) Dig.nil), ?_⟩, by simp only; omega⟩
        · simp only [List.length_append, List.length_cons, List.length_nil]
          have e5 : 5 - d.length = (5 - (d.length + (0 + 1))) + 1 := by omega
          rw [e5, Int.pow_succ] at h2
          omega
        · simp only [List.length_append, List.length_cons, List.length_nil]
          rw [val_snoc, Int.pow_succ, ← h5]
          have : u = 10000 * (u / 10000) + u % 10000 := by omega
          generalize u / 10000 = q at *
          generalize u % 10000 = r at *
          subst this
          grind
      · rw [br_neg h0]
        have : u = 0 := by omega
        subst this
        exact Or.inl ⟨(_, _), rfl, h3, h4, by simpa using h5⟩)
    (s := ((n.natAbs : Int), [])) ⟨by simp, by simp only [List.length_nil]; rw [show (10000 : Int) ^ (5 - 0) = 100000000000000000000 from rfl]; omega, by simp, Dig.nil, by simp [val]⟩
  simp only at l2 l3 l4
  obtain ⟨r, r1, r2, r3⟩ := zmade_ok (B := 10000) (decide (n < 0)) d l3 (by omega)
  rw [l1, bnd_val, r1]
  refine ⟨r, rfl, r2.eq_of ?_, by omega⟩
  rw [l4]
  by_cases h0 : n < 0
  · rw [if_pos (decide_eq_true h0)]; omega
  · rw [if_neg (by simpa using h0)]; omega
theorem zhalve_ok {b r : Bool × List Int} {V R : Int} (hb : Rep 10000 b V) (hr : Rep 10000 r R) (lb : b.2.length < 1000000) (lr : r.2.length < 1000000) (hV : 0 < V) {h : Int} (h0 : 1 ≤ h ∧ h ≤ 10000) (hR0 : 0 ≤ R) (hR : R < V * h) :
    ∃ g : Int, iter (fun s : Int × Int ↦ W.R_ZDiv.c100013 (Prod.fst s) (Prod.snd s) b.1 b.2 r.1 r.2 Option.some) ((0 : Int), h) = some (g, g + 1) ∧ 0 ≤ g ∧ g < 10000 ∧ V * g ≤ R ∧ R < V * (g + 1) := by
  obtain ⟨⟨g, g'⟩, l1, l2, l3, l4, l5, l6⟩ := iter_loop
    (f := fun s : Int × Int ↦ W.R_ZDiv.c100013 (Prod.fst s) (Prod.snd s) b.1 b.2 r.1 r.2 Option.some)
    (J := fun s => 0 ≤ s.1 ∧ s.1 < s.2 ∧ s.2 ≤ 10000 ∧ V * s.1 ≤ R ∧ R < V * s.2)
    (Q := fun s => s.2 = s.1 + 1 ∧ 0 ≤ s.1 ∧ s.1 < 10000 ∧ V * s.1 ≤ R ∧ R < V * s.2)
    (fun s => (s.2 - s.1).toNat) (fun ⟨l, g⟩ ⟨h1, h2, h3, h4, h5⟩ => by
      simp only at h1 h2 h3 h4 h5 ⊢
      unfold W.R_ZDiv.c100013
      rw [wrap_i64 (x := g - l) (by omega), wrap_i64 (x := l + g) (by omega)]
      by_cases hc : g - l > 1
      · rw [br_pos hc, tdiv_pos (by omega), wrap_i64 (by omega)]
        obtain ⟨o, o1, o2, o3⟩ := zof_ok (n := (l + g) / 2) (by omega)
        obtain ⟨m, m1, m2, m3⟩ := zmul_ok hb o2 (by omega) (by omega)
        have c15 : W.R_ZDiv.c15 ((l + g) / 2) b.1 b.2 r.1 r.2 Option.some = some (decide (V * ((l + g) / 2) ≤ R)) := by
          unfold W.R_ZDiv.c15
          simp only [pair_eta]
          rw [o1, bnd_val, m1, bnd_val, zcmp_ok m2 hr (by omega) (by omega), bnd_val]
          congr 1
          rw [decide_eq_decide]
          unfold sgn
          split
          · omega
          · split <;> omega
        rw [c15, bnd_val]
        by_cases hd : V * ((l + g) / 2) ≤ R
        · rw [br_pos hd]
          exact Or.inr ⟨(_, _), rfl, ⟨by simp only; omega, by simp only; omega, h3, hd, h5⟩, by simp only; omega⟩
        · rw [br_neg hd]
          exact Or.inr ⟨(_, _), rfl, ⟨h1, by simp only; omega, by simp only; omega, h4, by simp only; omega⟩, by simp only; omega⟩
      · rw [br_neg hc]
        exact Or.inl ⟨(_, _), rfl, by simp only; omega, h1, by simp only; omega, h4, h5⟩)
    (s := ((0 : Int), h)) ⟨by simp, by simp only; omega, h0.2, by simpa using hR0, hR⟩
  simp only at l2 l3 l4 l5 l6
  subst l2
  exact ⟨g, l1, l3, l4, l5, l6⟩
theorem zdiv_ok {a b : Bool × List Int} {u v : Int} (ha : Rep 10000 a u) (hb : Rep 10000 b v) (la : a.2.length < 100000) (lb : b.2.length < 100000) (hv : v ≠ 0) :
    ∃ q r, W.R_ZDiv a b = some (q, r, 0, 0) ∧ Rep 10000 q (u / v) ∧ Rep 10000 r (u % v) ∧ q.2.length ≤ a.2.length + 6 ∧ r.2.length ≤ b.2.length := by
  have hB : (1 : Int) < 10000 := by decide
  have hbn : b.2 ≠ [] := fun e => hv ((hb.zero_iff hB).1 e)
  have hbl : b.2.length ≠ 0 := fun e => hbn (List.eq_nil_of_length_eq_zero e)
  have hVp := hb.pos hB hbn
  have hA0 := val_nonneg (B := 10000) (by decide) ha.dig
  obtain ⟨w, w1, w2, w3⟩ := zmade_ok (B := 10000) false b.2 hb.dig (by omega)
  rw [if_neg (by simp)] at w2
  have hwv := w2.absval (by decide)
  obtain ⟨⟨j, r0, r1, t⟩, l1, R, l2, l3, l4, l5, l6, l7⟩ := iter_loop
    (f := fun s : Int × Bool × List Int × List Int ↦ W.R_ZDiv.c100007 (Prod.fst s) a.2 w.1 w.2 (Prod.fst (Prod.snd s)) (Prod.fst (Prod.snd (Prod.snd s))) (Prod.snd (Prod.snd (Prod.snd s))) Option.some)
    (J := fun s => ∃ (k : Nat) (R : Int), s.1 = (k : Int) - 1 ∧ k ≤ a.2.length ∧ Rep 10000 (s.2.1, s.2.2.1) R ∧ 0 ≤ R ∧ R < val 10000 b.2 ∧ Dig 10000 s.2.2.2 ∧ s.2.2.2.length = a.2.length ∧ (∀ x, x < k → s.2.2.2.getD x 0 = 0) ∧
      val 10000 a.2 = val 10000 (a.2.take k) + val 10000 b.2 * val 10000 s.2.2.2 + 10000 ^ k * R)
    (Q := fun s => ∃ R : Int, Rep 10000 (s.2.1, s.2.2.1) R ∧ 0 ≤ R ∧ R < val 10000 b.2 ∧ Dig 10000 s.2.2.2 ∧ s.2.2.2.length = a.2.length ∧ val 10000 a.2 = val 10000 b.2 * val 10000 s.2.2.2 + R)
    (fun s => (s.1 + 1).toNat) (fun ⟨j', r0, r1, t⟩ ⟨k, R, k1, k2, k3, k4, k5, k6, k7, k8, k9⟩ => by
      simp only at k1 k2 k3 k4 k5 k6 k7 k8 k9 ⊢
      subst k1
      unfold W.R_ZDiv.c100007
      cases k with
      | zero =>
        rw [br_neg (by omega)]
        exact Or.inl ⟨_, rfl, R, k3, k4, k5, k6, k7, by simpa [val] using k9⟩
      | succ k =>
        rw [show ((k + 1 : Nat) : Int) - 1 = (k : Int) by omega, br_pos (by omega)]
        have hx := ha.dig.getD (by decide) k
        have htk := val_take_succ 10000 k a.2
        have hrl : r1.length ≤ b.2.length := by
          have := Rep.short hB k3 w2 (by omega)
          simp only at this; omega
        have hrv := k3.absval (by decide)
        simp only at hrv
        obtain ⟨y, y1, y2, y3⟩ := zmade_ok (B := 10000) false ([a.2.getD k 0] ++ r1) (Dig.append (Dig.cons hx Dig.nil) k3.dig) (by simp; omega)
        rw [if_neg (by simp)] at y2
        have c9 : W.R_ZDiv.c9 (k : Int) a.2 r1 Option.some = some (y.1, y.2) := by
          unfold W.R_ZDiv.c9
          rw [idx_of k rfl (by omega), bnd_val, okIf_true (by simp; omega), bnd_val, y1, bnd_val]
        have hyR : val 10000 ([a.2.getD k 0] ++ r1) = a.2.getD k 0 + 10000 * R := by
          show a.2.getD k 0 + 10000 * val 10000 r1 = _
          rw [hrv]; omega
        rw [hyR] at y2
        simp only [List.length_append, List.length_cons, List.length_nil] at y3
        obtain ⟨c, o1, o2⟩ := dcmp_ok y.2 w.2 y2.dig w2.dig y2.last w2.last (by omega) (by omega)
        rw [y2.absval (by decide), w2.absval (by decide)] at o2
        obtain ⟨h, h1, h2, h3⟩ : ∃ h : Int, W.R_ZDiv.c245061 10000 w.2 y.2 Option.some = some h ∧ (1 ≤ h ∧ h ≤ 10000) ∧ a.2.getD k 0 + 10000 * R < val 10000 b.2 * h := by
          unfold W.R_ZDiv.c245061
          rw [o1, bnd_val]
          by_cases hc : c < 0
          · rw [br_pos hc]
            refine ⟨1, rfl, by decide, ?_⟩
            rcases o2 with o | o | o <;> omega
          · rw [br_neg hc]
            exact ⟨10000, rfl, by decide, by omega⟩
        obtain ⟨g, g1, g2, g3, g4, g5⟩ := zhalve_ok w2 y2 (by omega) (by omega) hVp h2 (by omega) h3
        obtain ⟨o, p1, p2, p3⟩ := zof_ok (n := g) (by omega)
        obtain ⟨m, m1, m2, m3⟩ := zmul_ok w2 p2 (by omega) (by omega)
        obtain ⟨z, z1, z2, z3⟩ := zsub_ok y2 m2 (by omega) (by omega)
        have c19 : W.R_ZDiv.c19 g w.1 w.2 y.1 y.2 Option.some = some (z.1, z.2) := by
          unfold W.R_ZDiv.c19
          simp only [pair_eta]
          rw [p1, bnd_val, m1, bnd_val, z1, bnd_val]
        rw [c9, bnd_val, h1, bnd_val, g1, bnd_val, inR_of (by omega) (by omega), bnd_val, idx_of k rfl (by omega), bnd_val, c19, bnd_val, wrap_i64 (by omega), Int.toNat_natCast]
        refine Or.inr ⟨_, rfl, ⟨k, a.2.getD k 0 + 10000 * R - val 10000 b.2 * g, rfl, by omega, z2, by omega, by rw [Int.mul_add] at g5; omega, k6.set ⟨g2, g3⟩ k, by simp only [List.length_set]; exact k7, fun x hx => ?_, ?_⟩, by simp only; omega⟩
        · simp only
          rw [getD_set (by omega), if_neg (by omega)]
          exact k8 x (by omega)
        · simp only
          rw [val_set _ _ _ _ (by omega), k8 k (by omega), k9, htk, Int.pow_succ]
          generalize (10000 : Int) ^ k = P at *
          grind)
    (s := ((a.2.length : Int) - 1, false, [], List.replicate a.2.length 0))
    ⟨a.2.length, 0, rfl, Nat.le_refl _, Rep.nil, by simp, hVp, Dig.replicate (by decide) _, by simp, fun x _ => getD_replicate _ _, by simp [val_replicate]⟩
  simp only at l2 l3 l4 l5 l6 l7
  obtain ⟨e1, e2⟩ := ediv_unique hVp l7 l3 l4
  obtain ⟨z, z1, z2, z3⟩ := zmade_ok (B := 10000) false t l5 (by omega)
  rw [if_neg (by simp)] at z2
  rw [← e1] at z2
  rw [← e2] at l2
  have hrl : r1.length ≤ b.2.length := by
    have := Rep.short hB l2 w2 (by omega)
    simp only at this; omega
  have hq0 : 0 ≤ val 10000 a.2 / val 10000 b.2 := Int.ediv_nonneg hA0 (by omega)
  have c28 : ∃ q' r' : Bool × List Int, W.R_ZDiv.c286023 a.1 w.1 w.2 r0 r1 z.1 z.2 Option.some = some (r'.1, r'.2, q'.1, q'.2) ∧
      Rep 10000 q' (if a.1 && decide (val 10000 a.2 % val 10000 b.2 ≠ 0) then val 10000 a.2 / val 10000 b.2 + 1 else val 10000 a.2 / val 10000 b.2) ∧
      Rep 10000 r' (if a.1 && decide (val 10000 a.2 % val 10000 b.2 ≠ 0) then val 10000 b.2 - val 10000 a.2 % val 10000 b.2 else val 10000 a.2 % val 10000 b.2) ∧ q'.2.length ≤ a.2.length + 6 := by
    unfold W.R_ZDiv.c286023
    have c21 : W.R_ZDiv.c21 a.1 r1 Option.some = some (a.1 && decide (val 10000 a.2 % val 10000 b.2 ≠ 0)) := by
      unfold W.R_ZDiv.c21
      cases ha1 : a.1
      · rfl
      · rw [br_tt]
        congr 1
        rw [Bool.true_and, decide_eq_decide]
        exact l2.pos_of hB
    rw [c21, bnd_val]
    cases hc : (a.1 && decide (val 10000 a.2 % val 10000 b.2 ≠ 0))
    · rw [br_ff]
      simp only [Bool.false_eq_true, if_false]
      exact ⟨z, (r0, r1), rfl, z2, l2, by omega⟩
    · rw [br_tt]
      simp only [if_true]
      obtain ⟨o, o1, o2, o3⟩ := zof_ok (n := 1) (by decide)
      obtain ⟨x, x1, x2, x3⟩ := zadd_ok z2 o2 (by omega) (by omega)
      obtain ⟨y, y1, y2, y3⟩ := zsub_ok w2 l2 (by omega) (by simp only; omega)
      have c22 : W.R_ZDiv.c22 z.1 z.2 Option.some = some (x.1, x.2) := by
        unfold W.R_ZDiv.c22
        simp only [pair_eta]
        rw [o1, bnd_val, x1, bnd_val]
      rw [c22, bnd_val]
      simp only [pair_eta]
      rw [y1, bnd_val]
      exact ⟨x, y, rfl, x2, y2, by omega⟩
  obtain ⟨q', r', f1, f2, f3, f4⟩ := c28
  have hq' : val 10000 q'.2 = (if a.1 && decide (val 10000 a.2 % val 10000 b.2 ≠ 0) then val 10000 a.2 / val 10000 b.2 + 1 else val 10000 a.2 / val 10000 b.2) := by
    rw [f2.absval (by decide)]
    split <;> omega
  obtain ⟨x, x1, x2, x3⟩ := zmade_ok (B := 10000) (!a.1 == b.1) q'.2 f2.dig (by omega)
  obtain ⟨g1, g2⟩ := div_signs hA0 hVp a.1 b.1
  have hr' : Rep 10000 r' (u % v) := f3.eq_of (by rw [ha.val, hb.val, g2])
  unfold W.R_ZDiv
  rw [show ((b.2.length : Int) == 0) = false by simp; omega, br_ff, w1, bnd_val, okIf_true (by simp; omega), bnd_val, wrap_i64 (by omega), Int.toNat_natCast, l1, bnd_val]
  simp only
  rw [z1, bnd_val, f1, bnd_val]
  simp only
  have c24 : W.R_ZDiv.c24 a.1 b.1 q'.2 Option.some = some (x.1, x.2) := by
    unfold W.R_ZDiv.c24
    rw [x1, bnd_val]
  rw [c24, bnd_val]
  refine ⟨x, r', rfl, x2.eq_of ?_, hr', by omega, Rep.short hB hr' hb (Nat.le_of_lt (mod_less u hv))⟩
  rw [ha.val, hb.val, g1, hq']
  cases a.1 <;> cases b.1 <;> rfl
theorem zdiv_zero {a b : Bool × List Int} (hb : Rep 10000 b 0) : W.R_ZDiv a b = some ((false, []), (false, []), 4, 0) := by
  have := (hb.zero_iff (by decide)).2 rfl
  unfold W.R_ZDiv
  rw [this]
  rfl
theorem zgcd_ok {a b : Bool × List Int} {u v : Int} (ha : Rep 10000 a u) (hb : Rep 10000 b v) {L : Nat} (la : a.2.length ≤ L) (lb : b.2.length ≤ L) (hL : L < 100000) :
    ∃ r, W.R_ZGcd a b = some r ∧ Rep 10000 r (Int.gcd u v : Int) ∧ r.2.length ≤ L := by
  have hB : (1 : Int) < 10000 := by decide
  obtain ⟨⟨x0, x1, y0, y1⟩, l1, w, l2, l3, l4⟩ := iter_loop
    (f := fun s : Bool × List Int × Bool × List Int ↦ W.R_ZGcd.c100001 (Prod.fst s) (Prod.fst (Prod.snd s)) (Prod.fst (Prod.snd (Prod.snd s))) (Prod.snd (Prod.snd (Prod.snd s))) Option.some)
    (J := fun s => ∃ p q : Int, Rep 10000 (s.1, s.2.1) p ∧ Rep 10000 (s.2.2.1, s.2.2.2) q ∧ Int.gcd p q = Int.gcd u v ∧ s.2.1.length ≤ L ∧ s.2.2.2.length ≤ L)
    (Q := fun s => ∃ w : Int, Rep 10000 (s.1, s.2.1) w ∧ w.natAbs = Int.gcd u v ∧ s.2.1.length ≤ L)
    (fun s => (val 10000 s.2.2.2).toNat) (fun ⟨x0, x1, y0, y1⟩ ⟨p, q, h1, h2, h3, h4, h5⟩ => by
      simp only at h1 h2 h3 h4 h5 ⊢
      have hq := h2.pos_of hB
      simp only at hq
      unfold W.R_ZGcd.c100001
      by_cases h0 : q = 0
      · rw [br_neg (fun h => hq.1 h h0)]
        subst h0
        exact Or.inl ⟨_, rfl, p, h1, by rw [← h3]; simp, h4⟩
      · rw [br_pos (hq.2 h0)]
        obtain ⟨d, r, d1, d2, d3, d4, d5⟩ := zdiv_ok h1 h2 (by simp only; omega) (by simp only; omega) h0
        rw [d1, bnd_val]
        refine Or.inr ⟨_, rfl, ⟨q, p % q, h2, d3, by rw [gcd_step, h3], h5, by simp only at d5 ⊢; omega⟩, ?_⟩
        have e1 := d3.absval (by decide)
        have e2 := h2.absval (by decide)
        have := mod_less p h0
        simp only at e1 e2 ⊢
        omega)
    (s := (a.1, a.2, b.1, b.2)) ⟨u, v, ha, hb, rfl, la, lb⟩
  simp only at l2 l4
  obtain ⟨r, r1, r2, r3⟩ := zmade_ok (B := 10000) false x1 l2.dig (by omega)
  unfold W.R_ZGcd
  rw [l1, bnd_val, r1]
  rw [if_neg (by simp), l2.absval (by decide), l3] at r2
  exact ⟨r, rfl, r2, by omega⟩
/-- A number below a power of two has few places. -/
theorem Rep.few {B : Int} (hB : 1 < B) {x : Bool × List Int} {e : Nat} (h : Rep B x (2 ^ e)) : x.2.length ≤ e + 1 := by
  have h2 : (0 : Int) < 2 ^ e := Int.pow_pos (by decide)
  have hn : x.2 ≠ [] := fun h0 => by have := (h.zero_iff hB).1 h0; omega
  have h1 := val_ge hB h.dig h.last hn
  rw [h.absval (by omega)] at h1
  rcases Nat.lt_or_ge e (x.2.length - 1) with hc | hc
  · have h3 : (2 : Int) ^ (x.2.length - 1) ≤ B ^ (x.2.length - 1) := by
      have : ∀ k : Nat, (2 : Int) ^ k ≤ B ^ k := by
        intro k
        induction k with
        | zero => simp
        | succ k ih =>
          rw [Int.pow_succ, Int.pow_succ]
          exact Int.mul_le_mul ih (by omega) (by decide) (Int.le_of_lt (pow_pos (by omega) k))
      exact this _
    have h4 : (2 : Int) ^ (e + 1) ≤ 2 ^ (x.2.length - 1) := pow_le (by decide) (by omega)
    rw [Int.pow_succ] at h4
    omega
  · omega
theorem zpow2_ok (n : Nat) (hn : n ≤ 10000) : ∃ r, W.R_ZPow2 (n : Int) = some r ∧ Rep 10000 r (2 ^ n) ∧ r.2.length ≤ n + 1 := by
  have hB : (1 : Int) < 10000 := by decide
  obtain ⟨o, o1, o2, o3⟩ := zof_ok (n := 1) (by decide)
  obtain ⟨t, t1, t2, t3⟩ := zof_ok (n := 2) (by decide)
  obtain ⟨⟨m, x0, x1, y0, y1⟩, l1, l2⟩ := iter_loop
    (f := fun s : Int × Bool × List Int × Bool × List Int ↦ W.R_ZPow2.c100003 (Prod.fst s) (Prod.fst (Prod.snd s)) (Prod.fst (Prod.snd (Prod.snd s))) (Prod.fst (Prod.snd (Prod.snd (Prod.snd s)))) (Prod.snd (Prod.snd (Prod.snd (Prod.snd s)))) Option.some)
    (J := fun s => ∃ m e f : Nat, s.1 = m ∧ m ≤ n ∧ Rep 10000 (s.2.1, s.2.2.1) (2 ^ f) ∧ Rep 10000 (s.2.2.2.1, s.2.2.2.2) (2 ^ e) ∧ f + e * m = n)
    (Q := fun s => Rep 10000 (s.2.1, s.2.2.1) (2 ^ n))
    (fun s => s.1.toNat) (fun ⟨m', x0, x1, y0, y1⟩ ⟨m, e, f, h1, hm, h2, h3, h4⟩ => by
      simp only at h1 h2 h3 h4 ⊢
      subst h1
      unfold W.R_ZPow2.c100003
      by_cases h0 : (m : Int) > 0
      · have he : e * 1 ≤ e * m := Nat.mul_le_mul_left e (by omega)
        have hx := h2.few hB
        have hy := h3.few hB
        simp only at hx hy
        rw [br_pos h0]
        obtain ⟨p, p1, p2, p3⟩ := zmul_ok h3 h3 (by simp only; omega) (by simp only; omega)
        rw [← Int.pow_add] at p2
        have c : ∃ z : Bool × List Int, W.R_ZPow2.c216389 (m : Int) x0 x1 y0 y1 Option.some = some (z.1, z.2) ∧ Rep 10000 z (2 ^ (f + e * (m % 2))) := by
          unfold W.R_ZPow2.c216389
          rw [tmod_pos (by omega)]
          by_cases hm : m % 2 = 1
          · obtain ⟨z, z1, z2, z3⟩ := zmul_ok h2 h3 (by simp only; omega) (by simp only; omega)
            rw [show ((m : Int) % 2 == 1) = true by simp; omega, br_tt, z1, bnd_val]
            rw [← Int.pow_add] at z2
            exact ⟨z, rfl, by rw [hm, Nat.mul_one]; exact z2⟩
          · rw [show ((m : Int) % 2 == 1) = false by simp; omega, br_ff]
            exact ⟨(x0, x1), rfl, by rw [show m % 2 = 0 by omega]; exact h2⟩
        obtain ⟨z, z1, z2⟩ := c
        rw [z1, bnd_val, p1, bnd_val, tdiv_pos (by omega), wrap_i64 (by omega)]
        refine Or.inr ⟨_, rfl, ⟨m / 2, e + e, f + e * (m % 2), by simp only; omega, by omega, z2, p2, ?_⟩, by simp only; omega⟩
        have : e * m = e * (2 * (m / 2) + m % 2) := by rw [Nat.div_add_mod]
        rw [Nat.mul_add] at this
        rw [← h4, this, Nat.add_mul, ← Nat.two_mul, ← Nat.mul_assoc e 2, Nat.mul_comm e 2, Nat.mul_assoc]
        omega
      · rw [br_neg h0]
        have : m = 0 := by omega
        subst this
        refine Or.inl ⟨_, rfl, ?_⟩
        simp only
        rw [← h4]
        simpa using h2)
    (s := ((n : Int), o.1, o.2, t.1, t.2)) ⟨n, 1, 0, rfl, Nat.le_refl _, o2.eq_of (by simp), t2.eq_of (by simp), by omega⟩
  simp only at l2
  unfold W.R_ZPow2
  rw [o1, bnd_val, t1, bnd_val, l1, bnd_val]
  exact ⟨(x0, x1), rfl, l2, l2.few hB⟩
theorem zshift_ok {a : Bool × List Int} {u : Int} (ha : Rep 10000 a u) (la : a.2.length < 80000) (n : Int) :
    (n < -10000 ∨ n > 10000 → W.R_ZShift a n = some ((false, []), 5, 0)) ∧
    (0 ≤ n ∧ n ≤ 10000 → ∃ r, W.R_ZShift a n = some (r, 0, 0) ∧ Rep 10000 r (u * 2 ^ n.toNat) ∧ r.2.length ≤ a.2.length + 10010) ∧
    (-10000 ≤ n ∧ n < 0 → ∃ r, W.R_ZShift a n = some (r, 0, 0) ∧ Rep 10000 r (u / 2 ^ (-n).toNat) ∧ r.2.length ≤ a.2.length + 10010) := by
  have c1 : W.R_ZShift.c1 n Option.some = some (decide (n < -10000 ∨ n > 10000)) := by
    unfold W.R_ZShift.c1
    by_cases h : n < -10000
    · rw [br_pos h, decide_eq_true (Or.inl h)]
    · rw [br_neg h]; congr 1; rw [decide_eq_decide]; omega
  unfold W.R_ZShift
  rw [c1, bnd_val]
  refine ⟨fun h => by rw [br_pos h], fun h => ?_, fun h => ?_⟩
  · rw [br_neg (by omega), br_pos (by omega)]
    obtain ⟨k, rfl⟩ : ∃ k : Nat, n = k := ⟨n.toNat, by omega⟩
    obtain ⟨p, p1, p2, p3⟩ := zpow2_ok k (by omega)
    obtain ⟨r, r1, r2, r3⟩ := zmul_ok ha p2 (by omega) (by omega)
    have c4 : W.R_ZShift.c4 (k : Int) a.1 a.2 Option.some = some (r.1, r.2) := by
      unfold W.R_ZShift.c4
      simp only [pair_eta]
      rw [p1, bnd_val, r1, bnd_val]
    rw [c4, bnd_val]
    exact ⟨r, rfl, by rw [Int.toNat_natCast]; exact r2, by omega⟩
  · rw [br_neg (by omega), br_neg (by omega)]
    obtain ⟨k, rfl⟩ : ∃ k : Nat, n = -(k : Int) := ⟨(-n).toNat, by omega⟩
    obtain ⟨p, p1, p2, p3⟩ := zpow2_ok k (by omega)
    have hP : (0 : Int) < 2 ^ k := Int.pow_pos (by decide)
    obtain ⟨q, r, r1, r2, r3, r4, r5⟩ := zdiv_ok ha p2 (by omega) (by omega) (by omega)
    have c5 : W.R_ZShift.c5 (-(k : Int)) a.1 a.2 Option.some = some (q.1, q.2, r.1, r.2, 0, 0) := by
      unfold W.R_ZShift.c5
      simp only [pair_eta]
      rw [wrap_i64 (by omega), show (0 : Int) - -(k : Int) = k by omega, p1, bnd_val, r1, bnd_val]
    rw [c5, bnd_val]
    exact ⟨q, rfl, by rw [show (- -(k : Int)).toNat = k by omega]; exact r2, by omega⟩
end Go.Ql
end

section
/- Quotients, common divisors, shifts: the law. -/
namespace Go.Ql
theorem shifts_ok {a b : Bool × List Int} {u : Int} (ha : Rep 4294967296 a u) (hb : Rep 10000 b u) (la : a.2.length < 50000) (lb : b.2.length < 50000) (n : Int) :
    ∃ x z f v, W.whole_Int_Shift a n = some (x, f) ∧ W.R_ZShift b n = some (z, f) ∧ Rep 4294967296 x v ∧ Rep 10000 z v ∧ x.2.length ≤ a.2.length + 10010 ∧ z.2.length ≤ b.2.length + 10010 := by
  obtain ⟨s1, s2, s3⟩ := shift_ok ha (by omega) n
  obtain ⟨t1, t2, t3⟩ := zshift_ok hb (by omega) n
  by_cases h1 : n < -10000 ∨ n > 10000
  · exact ⟨_, _, _, 0, s1 h1, t1 h1, Rep.nil, Rep.nil, by simp, by simp⟩
  · by_cases h2 : 0 ≤ n
    · obtain ⟨r, r1, r2, r3⟩ := s2 (by omega)
      obtain ⟨q, q1, q2, q3⟩ := t2 (by omega)
      exact ⟨r, q, (0, 0), _, r1, q1, r2, q2, by omega, by omega⟩
    · obtain ⟨r, r1, r2, r3⟩ := s3 (by omega)
      obtain ⟨q, q1, q2, q3⟩ := t3 (by omega)
      exact ⟨r, q, (0, 0), _, r1, q1, r2, q2, by omega, by omega⟩
theorem divs_ok {a b : Bool × List Int} {c d : Bool × List Int} {u v : Int} (ha : Rep 4294967296 a u) (hb : Rep 4294967296 b v) (hc : Rep 10000 c u) (hd : Rep 10000 d v)
    (la : a.2.length < 50000) (lb : b.2.length < 50000) (lc : c.2.length < 50000) (ld : d.2.length < 50000) :
    ∃ q r s t f x y, W.whole_Int_Div a b = some (q, r, f) ∧ W.R_ZDiv c d = some (s, t, f) ∧ Rep 4294967296 q x ∧ Rep 4294967296 r y ∧ Rep 10000 s x ∧ Rep 10000 t y ∧
      q.2.length ≤ a.2.length + 6 ∧ r.2.length ≤ b.2.length ∧ s.2.length ≤ c.2.length + 6 ∧ t.2.length ≤ d.2.length := by
  by_cases h : v = 0
  · subst h
    exact ⟨_, _, _, _, _, 0, 0, idiv_zero hb, zdiv_zero hd, Rep.nil, Rep.nil, Rep.nil, Rep.nil, by simp, by simp, by simp, by simp⟩
  · obtain ⟨q, r, e1, e2, e3, e4, e5⟩ := idiv_ok ha hb (by omega) (by omega) h
    obtain ⟨s, t, f1, f2, f3, f4, f5⟩ := zdiv_ok hc hd (by omega) (by omega) h
    exact ⟨q, r, s, t, (0, 0), _, _, e1, f1, e2, e3, f2, f3, by omega, e5, by omega, f5⟩
theorem divides_law (text other : List UInt8) (n : Int) (ht : text.length ≤ 9223372036854775807) (ho : other.length ≤ 9223372036854775807) : W.Law_WholeDivides text other n = some true := by
  obtain ⟨x, z, u, f, h1, h2, h3, h4, h5, h6⟩ := parse_ok text ht
  obtain ⟨y, w, v, g, k1, k2, k3, k4, k5, k6⟩ := parse_ok other ho
  unfold W.Law_WholeDivides
  rw [h1, k1, h2, k2]
  simp only [bnd_val, pair_eta]
  have c5 : W.Law_WholeDivides.c5 f.1 f.2 g.1 g.2 f.1 f.2 g.1 g.2 some = some false := by
    unfold W.Law_WholeDivides.c5
    rw [begun_ok, bnd_val, pair_eta, pair_eta, eqT_ff, eqT_ff]; rfl
  obtain ⟨q, r, s, t, e, p, o, d1, d2, d3, d4, d5, d6, d7, d8, d9, d10⟩ := divs_ok h3 k3 h4 k4 (by omega) (by omega) (by omega) (by omega)
  obtain ⟨i, j, l, m, s1, s2, s3, s4, s5, s6⟩ := shifts_ok h3 h4 (by omega) (by omega) n
  obtain ⟨gi, a1, a2, a3⟩ := igcd_ok h3 k3 (L := 1000) (by omega) (by omega) (by omega)
  obtain ⟨gz, b1, b2, b3⟩ := zgcd_ok h4 k4 (L := 1000) (by omega) (by omega) (by omega)
  obtain ⟨t1, t11, t12⟩ := tt_ok d3 d5 (by omega) (by omega)
  obtain ⟨t2, t21, t22⟩ := tt_ok d4 d6 (by omega) (by omega)
  obtain ⟨t3, t31, t32⟩ := tt_ok a2 b2 (by omega) (by omega)
  obtain ⟨t4, t41, t42⟩ := tt_ok s3 s4 (by omega) (by omega)
  rw [c5, bnd_val, br_ff, d1, bnd_val, d2, bnd_val]
  simp only [pair_eta]
  have c9 : W.Law_WholeDivides.c9 x.1 x.2 e.1 e.2 y.1 y.2 z.1 z.2 e.1 e.2 w.1 w.2 q.1 q.2 r.1 r.2 s.1 s.2 t.1 t.2 some = some false := by
    unfold W.Law_WholeDivides.c9
    simp only [pair_eta, eqT_ff, a1, b1, t11, t12, t21, t22, t31, t32, bnd_val, beq_self_eq_true, Bool.not_true, br_ff]
  rw [c9, bnd_val, br_ff, s1, bnd_val, s2, bnd_val]
  simp only
  have c13 : W.Law_WholeDivides.c13 l.1 l.2 l.1 l.2 i.1 i.2 j.1 j.2 some = some true := by
    unfold W.Law_WholeDivides.c13
    simp only [pair_eta, eqT_ff, t41, t42, bnd_val, beq_self_eq_true, br_tt]
  rw [c13, bnd_val]
end Go.Ql
end

section
/- How a number's text is read: what is read, and that what is written is read again. -/
namespace Go.Ql
/-- The length of the longest beginning with which a number begins, and whether it is a number. -/
def numLen (sg : Bool) (text : List UInt8) : Nat × Bool :=
  let i := if sg && (text.head? == some 45) then 1 else 0
  if (text.drop i).head? == some 48 then (if sg && i == 0 then (1, true) else (i, false))
  else (i + ((text.drop i).takeWhile isDigit).length, decide (0 < ((text.drop i).takeWhile isDigit).length))
theorem tw_le (p : UInt8 → Bool) (l : List UInt8) : (l.takeWhile p).length ≤ l.length := (List.takeWhile_sublist p).length_le
theorem digits_loop (text : List UInt8) (i : Nat) (hi : i ≤ text.length) (hL : text.length ≤ 9223372036854775807) :
    iter (fun s ↦ W.R_word.c100010 text s Option.some) (i : Int) = some ((i + ((text.drop i).takeWhile isDigit).length : Nat) : Int) := by
  obtain ⟨k, h1, h2⟩ := iter_loop (f := fun s ↦ W.R_word.c100010 text s Option.some)
    (J := fun s => ∃ k : Nat, s = k ∧ k ≤ text.length ∧ i + ((text.drop i).takeWhile isDigit).length = k + ((text.drop k).takeWhile isDigit).length)
    (Q := fun s : Int => s = ((i + ((text.drop i).takeWhile isDigit).length : Nat) : Int))
    (fun s => text.length - s.toNat) (fun s ⟨k, hs, hk, hd⟩ => by
      subst hs
      simp only [W.R_word.c100010]
      have e : W.R_word.c10 text (k : Int) Option.some = some (if h : k < text.length then isDigit text[k] else false) := by
        unfold W.R_word.c10
        by_cases h : k < text.length
        · rw [br_pos (by omega), idx_text text k h, bnd_val, bnd_val, dif_pos h]
          unfold isDigit
          by_cases h5 : (48 : Nat) ≤ text[k].toNat
          · rw [br_pos (by omega)]; simp [h5]; omega
          · rw [br_neg (by omega)]; simp [h5]
        · rw [br_neg (by omega), dif_neg h]
      rw [e, bnd_val]
      by_cases h : k < text.length
      · have hdr : text.drop k = text[k] :: text.drop (k + 1) := List.drop_eq_getElem_cons h
        rw [dif_pos h]
        by_cases h5 : isDigit text[k] = true
        · rw [h5, br_tt]
          refine Or.inr ⟨((k + 1 : Nat) : Int), by rw [wrap_i64 (by omega)]; rfl, ⟨k + 1, rfl, by omega, ?_⟩, by omega⟩
          rw [hd, hdr, List.takeWhile_cons_of_pos h5, List.length_cons]; omega
        · rw [eq_false_of_ne_true h5, br_ff]
          refine Or.inl ⟨_, rfl, ?_⟩
          rw [hd, hdr, List.takeWhile_cons_of_neg h5]; simp
      · rw [dif_neg h, br_ff]
        refine Or.inl ⟨_, rfl, ?_⟩
        rw [hd, List.drop_eq_nil_of_le (by omega)]; simp)
    (s := (i : Int)) ⟨i, rfl, hi, rfl⟩
  rw [h1, h2]
theorem number_ok (sg : Bool) (text : List UInt8) (hL : text.length ≤ 9223372036854775807) :
    W.whole_number text sg = some (((numLen sg text).1 : Int), (numLen sg text).2) ∧ W.R_word text sg sg = some (((numLen sg text).1 : Int), (numLen sg text).2) := by
  obtain ⟨i, hi0⟩ : ∃ i : Nat, (if sg && (text.head? == some 45) then 1 else 0) = i := ⟨_, rfl⟩
  have hi : i ≤ text.length := by
    rw [← hi0]
    split
    · rename_i h
      cases text with
      | nil => simp at h
      | cons => simp
    · omega
  have hi1 : i ≤ 1 := by rw [← hi0]; split <;> omega
  have e1 : W.whole_number.c208197 text sg 0 Option.some = some (i : Int) := by
    unfold W.whole_number.c208197 W.whole_number.c2
    rw [← hi0]
    cases sg
    · rfl
    · rw [br_tt, show Array.toList (ByteArray.data (ByteArray.mk #[(45 : UInt8)])) = [45] from rfl, hasPrefix1, bnd_val, bnd_val, Bool.true_and]
      cases text.head? == some 45 <;> rfl
  have e2 : W.R_word.c208199 text sg sg 0 Option.some = some (sg && decide (i = 0), (i : Int)) := by
    unfold W.R_word.c208199 W.R_word.c2
    rw [← hi0]
    cases sg
    · rfl
    · rw [br_tt]
      cases text with
      | nil => rfl
      | cons c l =>
        rw [br_pos (by simp <;> omega), show ((0 : Int)) = ((0 : Nat) : Int) from rfl, idx_text _ 0 (by simp), bnd_val, bnd_val]
        simp only [List.head?_cons, List.getElem_cons_zero, Bool.true_and]
        by_cases h3 : c = 45
        · subst h3; rfl
        · have h4 : ((c.toNat : Int) == 45) = false := by
            apply beq_false_of_ne
            intro e
            apply h3
            apply UInt8.toNat_inj.1
            show c.toNat = 45
            omega
          have h5 : (some c == some 45) = false := beq_false_of_ne (by simpa using h3)
          rw [h4, h5]; rfl
  have e3 : W.R_word.c5 text (i : Int) Option.some = some ((text.drop i).head? == some 48) := by
    unfold W.R_word.c5
    by_cases h : i < text.length
    · rw [br_pos (by omega), idx_text _ i h, bnd_val, List.head?_drop, List.getElem?_eq_getElem h]
      congr 1
      generalize text[i] = c
      by_cases h5 : c = 48
      · subst h5; rfl
      · have h6 : (some c == some 48) = false := beq_false_of_ne (by simpa using h5)
        rw [h6]
        apply beq_false_of_ne
        intro e
        apply h5
        apply UInt8.toNat_inj.1
        show c.toNat = 48
        omega
    · rw [br_neg (by omega), List.head?_drop, List.getElem?_eq_none (by omega)]; rfl
  have hl := digits_loop text i hi hL
  obtain ⟨m, hm⟩ : ∃ m : Nat, ((text.drop i).takeWhile isDigit).length = m := ⟨_, rfl⟩
  have hml : i + m ≤ text.length := by
    have := tw_le isDigit (text.drop i)
    rw [List.length_drop] at this; omega
  rw [hm] at hl
  have hspec : numLen sg text = if (text.drop i).head? == some 48 then (if sg && i == 0 then (1, true) else (i, false)) else (i + m, decide (0 < m)) := by
    unfold numLen
    simp only [hi0, hm]
  have hpos : decide (((i + m : Nat) : Int) > (i : Int)) = decide (0 < m) := by rw [decide_eq_decide]; omega
  have hnum : W.whole_number text sg = br ((text.drop i).head? == some 48) (br (sg && decide (i = 0)) (some (1, true)) (some ((i : Int), false))) (some (((i + m : Nat) : Int), decide (0 < m))) := by
    unfold W.whole_number
    rw [e1, bnd_val, okIf_true (by simp <;> omega), bnd_val, show Array.toList (ByteArray.data (ByteArray.mk #[(48 : UInt8)])) = [48] from rfl, hasPrefix1, bnd_val, loops_same, hl, bnd_val]
    rw [Int.toNat_natCast, Int.toNat_natCast, List.take_length, hpos]
    unfold W.whole_number.c5
    congr 1
    cases sg
    · rfl
    · simp only [Bool.not_true, br_ff, bnd_val]
      rcases (by omega : i = 0 ∨ i = 1) with h | h <;> subst h <;> rfl
  have hword : W.R_word text sg sg = br ((text.drop i).head? == some 48) (br (sg && decide (i = 0)) (some (1, true)) (some ((i : Int), false))) (some (((i + m : Nat) : Int), decide (0 < m))) := by
    unfold W.R_word
    rw [e2, bnd_val, e3, bnd_val]
    simp only
    rw [hl, bnd_val, hpos]
    congr 1
    rcases (by omega : i = 0 ∨ i = 1) with h | h <;> subst h
    · cases sg <;> rfl
    · cases sg <;> rfl
  rw [hnum, hword, hspec]
  have key : br ((text.drop i).head? == some 48) (br (sg && decide (i = 0)) (some ((1 : Int), true)) (some ((i : Int), false))) (some (((i + m : Nat) : Int), decide (0 < m))) =
      some ((((if (text.drop i).head? == some 48 then (if sg && i == 0 then (1, true) else (i, false)) else (i + m, decide (0 < m)) : Nat × Bool)).1 : Int), ((if (text.drop i).head? == some 48 then (if sg && i == 0 then (1, true) else (i, false)) else (i + m, decide (0 < m)) : Nat × Bool)).2) := by
    cases (text.drop i).head? == some 48
    · rfl
    · rcases (by omega : i = 0 ∨ i = 1) with h | h <;> subst h <;> cases sg <;> rfl
  exact ⟨key, key⟩
theorem takeWhile_all {p : UInt8 → Bool} {l : List UInt8} (h : ∀ c ∈ l, p c = true) : l.takeWhile p = l := by
  induction l with
  | nil => rfl
  | cons c l ih =>
    rw [List.takeWhile_cons_of_pos (h c (List.mem_cons_self ..)), ih fun x hx => h x (List.mem_cons_of_mem _ hx)]
theorem Canon.whole {text : List UInt8} (h : Canon text) : numLen true text = (text.length, true) := by
  rcases h with rfl | ⟨neg, ds, h1, h2, h3, rfl⟩
  · rfl
  · unfold numLen
    have hd := takeWhile_all h2
    have hl : 0 < ds.length := by cases ds with | nil => exact absurd rfl h1 | cons => simp
    cases neg
    · have : ds.head? ≠ some 45 := head_digit h2
      simp [beq_false_of_ne this, beq_false_of_ne h3, hd, h1]
      omega
    · simp [beq_false_of_ne h3, hd, h1]
      omega
theorem numLen_le (sg : Bool) (text : List UInt8) : (numLen sg text).1 ≤ text.length := by
  unfold numLen
  have key : ∀ i : Nat, i ≤ text.length → i + ((text.drop i).takeWhile isDigit).length ≤ text.length := by
    intro i hi
    have := tw_le isDigit (text.drop i)
    rw [List.length_drop] at this; omega
  by_cases hs : (sg && (text.head? == some 45)) = true
  · have h1 : 1 ≤ text.length := by
      cases text with
      | nil => simp at hs
      | cons => simp
    simp only [hs, if_true]
    split
    · split
      · exact h1
      · exact h1
    · exact key 1 h1
  · simp only [eq_false_of_ne_true hs, Bool.false_eq_true, if_false]
    split
    · rename_i h0
      have h1 : 1 ≤ text.length := by
        cases text with
        | nil => simp at h0
        | cons => simp
      split <;> simp only <;> omega
    · exact key 0 (Nat.zero_le _)
/-- Where it is a number, its text is one. -/
theorem numLen_canon {sg : Bool} {text : List UInt8} (h : (numLen sg text).2 = true) : Canon (text.take (numLen sg text).1) ∧ (sg = false → Digits (text.take (numLen sg text).1) ∧ (text.take (numLen sg text).1).head? ≠ some 48 ∧ text.take (numLen sg text).1 ≠ []) := by
  have tk : ∀ l : List UInt8, l.take (l.takeWhile isDigit).length = l.takeWhile isDigit := fun l => by
    induction l with
    | nil => rfl
    | cons c l ih =>
      by_cases hc : isDigit c = true
      · rw [List.takeWhile_cons_of_pos hc, List.length_cons, List.take_succ_cons, ih]
      · rw [List.takeWhile_cons_of_neg hc]; rfl
  have dw : ∀ l : List UInt8, Digits (l.takeWhile isDigit) := fun l c hc => by
    induction l with
    | nil => cases hc
    | cons a l ih =>
      by_cases ha : isDigit a = true
      · rw [List.takeWhile_cons_of_pos ha] at hc
        rcases List.mem_cons.1 hc with rfl | hc
        · exact ha
        · exact ih hc
      · rw [List.takeWhile_cons_of_neg ha] at hc; cases hc
  have hw : ∀ l : List UInt8, l.head? ≠ some 48 → (l.takeWhile isDigit).head? ≠ some 48 := fun l hl => by
    cases l with
    | nil => simp
    | cons a l =>
      by_cases ha : isDigit a = true
      · rw [List.takeWhile_cons_of_pos ha]; simpa using hl
      · rw [List.takeWhile_cons_of_neg ha]; simp
  unfold numLen at h ⊢
  by_cases hs : (sg && (text.head? == some 45)) = true
  · simp only [hs, if_true] at h ⊢
    rw [Bool.and_eq_true] at hs
    obtain ⟨hsg, hhd⟩ := hs
    have hhd := beq_iff_eq.1 hhd
    obtain ⟨l, rfl⟩ : ∃ l, text = 45 :: l := by
      cases text with
      | nil => simp at hhd
      | cons c l => simp at hhd; exact ⟨l, by rw [hhd]⟩
    simp only [List.drop_succ_cons, List.drop_zero] at h ⊢
    by_cases h0 : l.head? = some 48
    · rw [h0] at h; simp at h
    · rw [beq_false_of_ne h0] at h ⊢
      simp only [Bool.false_eq_true, if_false, decide_eq_true_eq] at h ⊢
      rw [Nat.add_comm, List.take_succ_cons, tk]
      refine ⟨Or.inr ⟨true, l.takeWhile isDigit, fun e => by rw [e] at h; simp at h, dw l, hw l h0, rfl⟩, fun e => by rw [e] at hsg; cases hsg⟩
  · simp only [eq_false_of_ne_true hs, Bool.false_eq_true, if_false, List.drop_zero, Nat.zero_add] at h ⊢
    by_cases h0 : text.head? = some 48
    · rw [h0] at h ⊢
      cases sg with
      | false => simp at h
      | true =>
        simp only [beq_self_eq_true, if_true, Bool.and_self] at h ⊢
        obtain ⟨l, rfl⟩ : ∃ l, text = 48 :: l := by
          cases text with
          | nil => simp at h0
          | cons c l => simp at h0; exact ⟨l, by rw [h0]⟩
        exact ⟨Or.inl rfl, fun e => by cases e⟩
    · rw [beq_false_of_ne h0] at h ⊢
      simp only [Bool.false_eq_true, if_false, decide_eq_true_eq] at h ⊢
      rw [tk]
      have hne : text.takeWhile isDigit ≠ [] := fun e => by rw [e] at h; simp at h
      exact ⟨Or.inr ⟨false, _, hne, dw text, hw text h0, rfl⟩, fun _ => ⟨dw text, hw text h0, hne⟩⟩
/-- The digits of a number's text, and the number. -/
structure Said (text ds : List UInt8) (v : Int) : Prop where
  dg : Digits ds
  ne : ds ≠ []
  len : text.length ≤ ds.length + 1
  txt : Txt v text
  small : v.natAbs < 10 ^ ds.length
  trim : W.strings_TrimPrefix text [45] = some ds
  of : W.R_digitsOf text = some (ds.length : Int)
  rd : ds.length ≤ 1000 → ∃ x z, W.whole_Parse text = some (x, (0, 0)) ∧ W.R_ZParse text = some (z, (0, 0)) ∧ W.R_zread text = some z ∧ Rep 4294967296 x v ∧ Rep 10000 z v ∧ x.2.length ≤ 1000 ∧ z.2.length ≤ 1000
theorem Canon.said {text : List UInt8} (h : Canon text) (hL : text.length ≤ 9223372036854775807) : ∃ ds v, Said text ds v := by
  obtain ⟨n1, n2⟩ := number_ok true text hL
  rw [h.whole] at n1 n2
  obtain ⟨neg, ds, p1, p2, p3⟩ := h.parts
  have hh : (text.head? == some 45) = neg := by
    rw [p3]
    cases neg
    · exact beq_false_of_ne (head_digit p2)
    · rfl
  have hlen : text.length = (if neg then 1 else 0) + ds.length := by rw [p3]; cases neg <;> simp <;> omega
  have htrim : W.strings_TrimPrefix text [45] = some ds := by
    rw [trim_ok text hL]
    cases neg
    · rw [if_neg (by simpa using hh), p3]; rfl
    · rw [if_pos (by simpa using hh), p3]; rfl
  have hdo : W.R_digitsOf text = some (ds.length : Int) := by
    unfold W.R_digitsOf
    rw [(sign_test text).2, bnd_val, hh]
    cases neg
    · rw [br_ff, hlen]; simp
    · rw [br_tt, wrap_i64 (by omega), hlen]; simp; omega
  have hb := dec_bound p2
  have hnat : (dec ds).natAbs < 10 ^ ds.length := by
    have h2 := hb.2
    have : ((10 ^ ds.length : Nat) : Int) = (10 : Int) ^ ds.length := by rw [Int.natCast_pow]; rfl
    omega
  refine ⟨ds, if neg then - dec ds else dec ds, p2, p1, by rw [hlen]; split <;> omega, ?_, by cases neg <;> simpa using hnat, htrim, hdo, fun hs => ?_⟩
  · rcases h with rfl | ⟨neg', ds', q1, q2, q3, q4⟩
    · have : ds = [48] ∧ neg = false := by
        cases neg
        · exact ⟨by simpa using p3.symm, rfl⟩
        · simp at p3
      rw [this.1, this.2]
      exact Or.inl ⟨rfl, rfl⟩
    · have hsame : neg' = neg ∧ ds' = ds := by
        have e : (if neg then [45] else []) ++ ds = (if neg' then [45] else []) ++ ds' := by rw [← p3, q4]
        cases neg <;> cases neg'
        · exact ⟨rfl, by simpa using e.symm⟩
        · exfalso
          have := head_digit p2
          rw [show ds = 45 :: ds' by simpa using e] at this
          simp at this
        · exfalso
          have := head_digit q2
          rw [show ds' = 45 :: ds by simpa using e.symm] at this
          simp at this
        · exact ⟨rfl, by simpa using e.symm⟩
      obtain ⟨rfl, rfl⟩ := hsame
      have hge := dec_ge q2 q1 q3
      have hp : (0 : Int) < 10 ^ (ds'.length - 1) := Int.pow_pos (by decide)
      refine Or.inr ⟨by cases neg' <;> simp <;> omega, ds', ⟨q2, q1, q3, by cases neg' <;> simp <;> omega⟩, ?_⟩
      rw [q4]
      cases neg'
      · have : ¬ dec ds' < 0 := by omega
        simp [this]
      · have : - dec ds' < 0 := by omega
        rw [if_pos rfl, if_pos rfl, if_pos this]
  · obtain ⟨m, q1, q2, q3, q4⟩ := digits_ok ds p2 (by omega)
    obtain ⟨r, s1, s2, s3⟩ := made_ok (decide ((ds.length : Int) < (text.length : Int))) m q2 (by omega)
    have hneg : decide ((ds.length : Int) < (text.length : Int)) = neg := by
      rw [hlen]; cases neg <;> simp <;> omega
    obtain ⟨w, t1, t2, t3, t4⟩ := zdigits_ok ds p2 (by omega)
    obtain ⟨z, u1, u2, u3⟩ := zmade_ok neg w.2 t2 (by omega)
    have hz : W.R_zread text = some z := by
      unfold W.R_zread
      rw [(sign_test text).1, bnd_val, hh]
      have : W.R_zread.c208197 text neg Option.some = some ds := by
        unfold W.R_zread.c208197
        cases neg
        · rw [br_ff, p3]; rfl
        · rw [br_tt, okIf_true (by rw [hlen]; simp; omega), bnd_val, Int.toNat_natCast, List.take_length, p3]; rfl
      rw [this, bnd_val, t1, bnd_val, u1]; rfl
    refine ⟨r, z, ?_, ?_, hz, by rw [hneg, q4] at s2; exact s2, by rw [t4] at u2; exact u2, by omega, by omega⟩
    · unfold W.whole_Parse
      have c2 : W.whole_Parse.c2 text (text.length : Int) true Option.some = some false := by
        unfold W.whole_Parse.c2
        simp [br]
      rw [n1, bnd_val]
      simp only
      rw [c2, bnd_val, br_ff, htrim, bnd_val, br_neg (by omega), q1, bnd_val, s1]; rfl
    · unfold W.R_ZParse
      have c2 : W.R_ZParse.c2 text (text.length : Int) true Option.some = some false := by
        unfold W.R_ZParse.c2
        simp [br]
      rw [n2, bnd_val]
      simp only
      rw [c2, bnd_val, br_ff, hdo, bnd_val, br_neg (by omega), hz]; rfl
/-- Each text: it is a number's, of at most 1000 digits; or both say the same fault. -/
theorem parses (text : List UInt8) (hL : text.length ≤ 9223372036854775807) :
    (∃ ds v, Said text ds v ∧ ds.length ≤ 1000) ∨ ∃ f : Int × Int, f.1 ≠ 0 ∧ W.whole_Parse text = some ((false, []), f) ∧ W.R_ZParse text = some ((false, []), f) := by
  obtain ⟨n1, n2⟩ := number_ok true text hL
  have hle := numLen_le true text
  by_cases h : (numLen true text).2 = true ∧ text.length ≤ (numLen true text).1
  · have hc : Canon text := by
      have := (numLen_canon h.1).1
      rwa [List.take_of_length_le h.2] at this
    obtain ⟨ds, v, hs⟩ := hc.said hL
    by_cases hd : ds.length ≤ 1000
    · exact Or.inl ⟨ds, v, hs, hd⟩
    · right
      refine ⟨(2, 0), by decide, ?_, ?_⟩
      · unfold W.whole_Parse
        have c2 : W.whole_Parse.c2 text ((numLen true text).1 : Int) true Option.some = some false := by
          unfold W.whole_Parse.c2
          simp [br]; omega
        rw [n1, h.1, bnd_val]
        simp only
        rw [c2, bnd_val, br_ff, hs.trim, bnd_val, br_pos (by omega)]
      · unfold W.R_ZParse
        have c2 : W.R_ZParse.c2 text ((numLen true text).1 : Int) true Option.some = some false := by
          unfold W.R_ZParse.c2
          simp [br]; omega
        rw [n2, h.1, bnd_val]
        simp only
        rw [c2, bnd_val, br_ff, hs.of, bnd_val, br_pos (by omega)]
  · right
    refine ⟨(1, ((numLen true text).1 : Int)), by simp, ?_, ?_⟩
    · unfold W.whole_Parse
      have c2 : W.whole_Parse.c2 text ((numLen true text).1 : Int) (numLen true text).2 Option.some = some true := by
        unfold W.whole_Parse.c2
        cases h2 : (numLen true text).2
        · rfl
        · rw [Bool.not_true, br_ff, decide_eq_true]
          have : ¬ text.length ≤ (numLen true text).1 := fun h3 => h ⟨h2, h3⟩
          omega
      rw [n1, bnd_val]
      simp only
      rw [c2, bnd_val, br_tt]
    · unfold W.R_ZParse
      have c2 : W.R_ZParse.c2 text ((numLen true text).1 : Int) (numLen true text).2 Option.some = some true := by
        unfold W.R_ZParse.c2
        cases h2 : (numLen true text).2
        · rfl
        · rw [Bool.not_true, br_ff, decide_eq_true]
          have : ¬ text.length ≤ (numLen true text).1 := fun h3 => h ⟨h2, h3⟩
          omega
      rw [n2, bnd_val]
      simp only
      rw [c2, bnd_val, br_tt]
/-- A number that is not too long: its text is read again. -/
theorem Txt.canon {v : Int} {l : List UInt8} (h : Txt v l) : Canon l := by
  rcases h with ⟨_, rfl⟩ | ⟨h0, D, ⟨d1, d2, d3, d4⟩, rfl⟩
  · exact Or.inl rfl
  · by_cases hv : v < 0
    · exact Or.inr ⟨true, D, d2, d1, d3, by simp [hv]⟩
    · exact Or.inr ⟨false, D, d2, d1, d3, by simp [hv]⟩
theorem Txt.inj {u v : Int} {l : List UInt8} (h : Txt u l) (k : Txt v l) : u = v := by
  rcases h with ⟨h0, rfl⟩ | ⟨h0, D, ⟨d1, d2, d3, d4⟩, rfl⟩
  · rcases k with ⟨k0, _⟩ | ⟨k0, E, ⟨e1, e2, e3, e4⟩, h⟩
    · omega
    · exfalso
      split at h
      · cases h
      · simp only [List.nil_append] at h
        rw [← h] at e3
        simp at e3
  · rcases k with ⟨k0, h⟩ | ⟨k0, E, ⟨e1, e2, e3, e4⟩, h⟩
    · exfalso
      split at h
      · cases h
      · simp only [List.nil_append] at h
        rw [h] at d3
        simp at d3
    · by_cases hu : u < 0 <;> by_cases hv : v < 0
      · simp [hu, hv] at h
        rw [h] at d4; omega
      · exfalso
        simp only [hu, hv, if_true, if_false, List.nil_append, List.cons_append] at h
        have := head_digit e1
        rw [← h] at this; simp at this
      · exfalso
        simp only [hu, hv, if_true, if_false, List.nil_append, List.cons_append] at h
        have := head_digit d1
        rw [h] at this; simp at this
      · simp [hu, hv] at h
        rw [h] at d4; omega
theorem IsDec.len {D : List UInt8} {v : Int} {n : Nat} (h : IsDec D v) (hv : v < 10 ^ n) : D.length ≤ n := by
  obtain ⟨d1, d2, d3, d4⟩ := h
  have := dec_ge d1 d2 d3
  rcases Nat.lt_or_ge n D.length with hc | hc
  · have : (10 : Int) ^ n ≤ 10 ^ (D.length - 1) := pow_le (by decide) (by omega)
    omega
  · exact hc
theorem Txt.back {v : Int} {l : List UInt8} {n : Nat} (h : Txt v l) (hn : n ≤ 1000) (hv : v.natAbs < 10 ^ n) :
    ∃ x z, W.whole_Parse l = some (x, (0, 0)) ∧ W.R_ZParse l = some (z, (0, 0)) ∧ Rep 4294967296 x v ∧ Rep 10000 z v ∧ x.2.length ≤ 1000 ∧ z.2.length ≤ 1000 := by
  have hlen : l.length ≤ 1001 := by
    rcases h with ⟨_, rfl⟩ | ⟨h0, D, hd, rfl⟩
    · simp
    · have := hd.len (n := n) (by
        have : ((10 ^ n : Nat) : Int) = (10 : Int) ^ n := by rw [Int.natCast_pow]; rfl
        omega)
      rw [List.length_append]
      split <;> simp <;> omega
  obtain ⟨ds, w, hs⟩ := h.canon.said (by omega)
  have hw : w = v := hs.txt.inj h
  subst hw
  have hds : ds.length ≤ 1000 := by
    rcases h with ⟨h0, hl⟩ | ⟨h0, D, hd, hl⟩
    · have := hs.trim
      rw [hl, trim_ok _ (by simp)] at this
      have := Option.some.inj this
      rw [← this]; decide
    · have h1 := hd.len (n := n) (by
        have : ((10 ^ n : Nat) : Int) = (10 : Int) ^ n := by rw [Int.natCast_pow]; rfl
        omega)
      have := hs.trim
      rw [trim_ok _ (by omega)] at this
      have h2 := Option.some.inj this
      rw [← h2, hl]
      by_cases hv0 : w < 0
      · simp [hv0]; omega
      · simp only [hv0, if_false, List.nil_append]
        rw [if_neg (head_digit hd.1)]
        omega
  obtain ⟨x, z, r1, r2, r3, r4, r5, r6, r7⟩ := hs.rd hds
  exact ⟨x, z, r1, r2, r4, r5, r6, r7⟩
end Go.Ql
end

section
/- Fractions: lowest terms, sums, products, quotients, order, text. -/
namespace Go.Ql
def lowP (u v : Int) : Int := if v < 0 then - (u / (Int.gcd u v : Int)) else u / (Int.gcd u v : Int)
def lowQ (u v : Int) : Int := if v < 0 then - (v / (Int.gcd u v : Int)) else v / (Int.gcd u v : Int)
abbrev Fr := (Bool × List Int) × (Bool × List Int)
/-- A fraction p/q, of the program and of the reference. -/
structure FF (x g : Fr) (p q : Int) (L : Nat) : Prop where
  x1 : Rep 4294967296 x.1 p
  x2 : Rep 4294967296 x.2 (q - 1)
  g1 : Rep 10000 g.1 p
  g2 : Rep 10000 g.2 q
  pos : 0 < q
  l1 : x.1.2.length ≤ L
  l2 : x.2.2.length ≤ L
  l3 : g.1.2.length ≤ L
  l4 : g.2.2.length ≤ L
theorem gcd_facts (u : Int) {v : Int} (hv : v ≠ 0) : 0 < (Int.gcd u v : Int) ∧ (Int.gcd u v : Int) * (u / (Int.gcd u v : Int)) = u ∧ (Int.gcd u v : Int) * (v / (Int.gcd u v : Int)) = v := by
  refine ⟨?_, Int.mul_ediv_cancel' (Int.gcd_dvd_left ..), Int.mul_ediv_cancel' (Int.gcd_dvd_right ..)⟩
  have : Int.gcd u v ≠ 0 := fun e => hv (Int.gcd_eq_zero_iff.1 e).2
  omega
theorem abs_ediv_le (u : Int) {g : Int} (hg : 0 < g) (h : g * (u / g) = u) : (u / g).natAbs ≤ u.natAbs := by
  have h1 : u.natAbs = g.natAbs * (u / g).natAbs := by rw [← Int.natAbs_mul, h]
  have h2 : 1 * (u / g).natAbs ≤ g.natAbs * (u / g).natAbs := Nat.mul_le_mul_right _ (by omega)
  omega
theorem low_facts (u : Int) {v : Int} (hv : v ≠ 0) : 0 < lowQ u v ∧ (lowP u v).natAbs ≤ u.natAbs ∧ (lowQ u v).natAbs ≤ v.natAbs := by
  obtain ⟨h1, h2, h3⟩ := gcd_facts u hv
  have h4 := abs_ediv_le u h1 h2
  have h5 := abs_ediv_le v h1 h3
  have h6 : v / (Int.gcd u v : Int) ≠ 0 := fun e => by rw [e] at h3; omega
  unfold lowP lowQ
  by_cases h : v < 0
  · simp only [h, if_true]
    have : v / (Int.gcd u v : Int) < 0 := by
      rcases Int.lt_trichotomy (v / (Int.gcd u v : Int)) 0 with h7 | h7 | h7
      · exact h7
      · exact absurd h7 h6
      · have := Int.mul_pos h1 h7; omega
    omega
  · simp only [h, if_false]
    have : 0 < v / (Int.gcd u v : Int) := by
      rcases Int.lt_trichotomy (v / (Int.gcd u v : Int)) 0 with h7 | h7 | h7
      · have := Int.mul_neg_of_pos_of_neg h1 h7; omega
      · exact absurd h7 h6
      · exact h7
    omega
theorem sgn_neg {v : Int} : decide (sgn v < 0) = decide (v < 0) := by
  unfold sgn
  rw [decide_eq_decide]
  split
  · simp; omega
  · split <;> simp <;> omega
theorem lowest_ff {a b c d : Bool × List Int} {u v : Int} {L : Nat} (ha : Rep 4294967296 a u) (hb : Rep 4294967296 b v) (hc : Rep 10000 c u) (hd : Rep 10000 d v)
    (la : a.2.length ≤ L) (lb : b.2.length ≤ L) (lc : c.2.length ≤ L) (ld : d.2.length ≤ L) (hL : L < 50000) (hv : v ≠ 0) :
    ∃ z k, W.whole_lowest a b = some z ∧ W.R_FOver c d = some (k, 0, 0) ∧ FF z k (lowP u v) (lowQ u v) (L + 1) := by
  have hB : (1 : Int) < 4294967296 := by decide
  have hC : (1 : Int) < 10000 := by decide
  obtain ⟨f1, f2, f3⟩ := gcd_facts u hv
  obtain ⟨p1, p2, p3⟩ := low_facts u hv
  have f4 := abs_ediv_le u f1 f2
  have f5 := abs_ediv_le v f1 f3
  have hne : v / (Int.gcd u v : Int) ≠ 0 := fun e => by rw [e] at f3; omega
  obtain ⟨gi, a1, a2, a3⟩ := igcd_ok ha hb (L := L) la lb (by omega)
  obtain ⟨gz, b1, b2, b3⟩ := zgcd_ok hc hd (L := L) lc ld (by omega)
  obtain ⟨q1, r1, c1, c2, _, _, _⟩ := idiv_ok ha a2 (by omega) (by omega) (by omega)
  obtain ⟨q2, r2, d1, d2, _, _, _⟩ := idiv_ok hb a2 (by omega) (by omega) (by omega)
  obtain ⟨q3, r3, e1, e2, _, _, _⟩ := zdiv_ok hc b2 (by omega) (by omega) (by omega)
  obtain ⟨q4, r4, g1, g2, _, _, _⟩ := zdiv_ok hd b2 (by omega) (by omega) (by omega)
  have m1 := Rep.short hB c2 ha f4
  have m2 := Rep.short hB d2 hb f5
  have m3 := Rep.short hC e2 hc f4
  have m4 := Rep.short hC g2 hd f5
  have hsame : v / (Int.gcd u v : Int) < 0 ↔ v < 0 := by
    constructor
    · intro h
      have := Int.mul_neg_of_pos_of_neg f1 h; omega
    · intro h
      rcases Int.lt_trichotomy (v / (Int.gcd u v : Int)) 0 with h7 | h7 | h7
      · exact h7
      · exact absurd h7 hne
      · have := Int.mul_pos f1 h7; omega
  have k1 : ∃ x y : Bool × List Int, W.whole_lowest.c216389 q1.1 q1.2 q2.1 q2.2 Option.some = some (x.1, x.2, y.1, y.2) ∧ Rep 4294967296 x (lowP u v) ∧ Rep 4294967296 y (lowQ u v) := by
    unfold W.whole_lowest.c216389
    simp only [pair_eta]
    rw [sign_ok d2, bnd_val, sgn_neg]
    unfold lowP lowQ
    by_cases h : v < 0
    · rw [br_pos (hsame.2 h), if_pos h, if_pos h]
      obtain ⟨x, x1, x2, x3⟩ := neg_ok c2 (by omega)
      obtain ⟨y, y1, y2, y3⟩ := neg_ok d2 (by omega)
      have c5 : W.whole_lowest.c5 q1.1 q1.2 q2.1 q2.2 Option.some = some (x.1, x.2, y.1, y.2) := by
        unfold W.whole_lowest.c5
        simp only [pair_eta]
        rw [x1, bnd_val, y1, bnd_val]
      rw [c5, bnd_val]
      exact ⟨x, y, rfl, x2, y2⟩
    · rw [br_neg (fun h2 => h (hsame.1 h2)), if_neg h, if_neg h]
      exact ⟨q1, q2, rfl, c2, d2⟩
  have k2 : ∃ x y : Bool × List Int, W.R_FOver.c224581 q3.1 q3.2 q4.1 q4.2 Option.some = some (x.1, x.2, y.1, y.2) ∧ Rep 10000 x (lowP u v) ∧ Rep 10000 y (lowQ u v) := by
    unfold W.R_FOver.c224581
    have hneg : q4.1 = decide (v < 0) := by
      have h1 := g2.val
      have h2 := g2.absval (by decide)
      have h3 := g2.neg
      have h4 := g2.pos hC
      cases hq : q4.1
      · rw [hq] at h1
        simp only [Bool.false_eq_true, if_false] at h1
        rw [eq_comm, decide_eq_false_iff_not]
        intro h5
        have := hsame.2 h5; omega
      · rw [hq] at h1
        simp only [if_true] at h1
        have := h4 (h3 hq)
        rw [eq_comm, decide_eq_true_eq, ← hsame]
        omega
    rw [hneg]
    unfold lowP lowQ
    by_cases h : v < 0
    · rw [br_pos h, if_pos h, if_pos h]
      obtain ⟨x, x1, x2, x3⟩ := zneg_ok e2 (by omega)
      obtain ⟨y, y1, y2, y3⟩ := zneg_ok g2 (by omega)
      have c7 : W.R_FOver.c7 q3.1 q3.2 (decide (v < 0)) q4.2 Option.some = some (x.1, x.2, y.1, y.2) := by
        unfold W.R_FOver.c7
        rw [← hneg]
        simp only [pair_eta]
        rw [x1, bnd_val, y1, bnd_val]
      rw [c7, bnd_val]
      exact ⟨x, y, rfl, x2, y2⟩
    · rw [br_neg h, if_neg h, if_neg h, ← hneg]
      exact ⟨q3, q4, rfl, e2, g2⟩
  obtain ⟨x, y, x0, x1, y1⟩ := k1
  obtain ⟨s, t, s0, s1, t1⟩ := k2
  have n1 := Rep.short hB x1 ha p2
  have n2 := Rep.short hB y1 hb p3
  have n3 := Rep.short hC s1 hc p2
  have n4 := Rep.short hC t1 hd p3
  obtain ⟨o, o1, o2, o3⟩ := of_ok (n := 1) (by decide)
  obtain ⟨w, w1, w2, w3⟩ := sub_ok y1 o2 (by omega) (by omega)
  have n5 := Rep.short hB w2 hb (by omega)
  have c6 : W.whole_lowest.c6 y.1 y.2 Option.some = some (w.1, w.2) := by
    unfold W.whole_lowest.c6
    simp only [pair_eta]
    rw [o1, bnd_val, w1, bnd_val]
  refine ⟨(x, w), (s, t), ?_, ?_, ⟨x1, w2, s1, t1, p1, by simp only; omega, by simp only; omega, by simp only; omega, by simp only; omega⟩⟩
  · unfold W.whole_lowest
    simp only [pair_eta]
    rw [a1, bnd_val, c1, bnd_val, d1, bnd_val]
    simp only
    rw [x0, bnd_val]
    simp only
    rw [c6, bnd_val]
  · unfold W.R_FOver
    simp only [pair_eta]
    have hz : ((d.2.length : Int) == 0) = false := by
      have := (hd.pos_of hC).2 hv
      apply beq_false_of_ne; omega
    rw [hz, br_ff, b1, bnd_val, e1, bnd_val, g1, bnd_val]
    simp only
    rw [s0, bnd_val]
theorem fover_of {c d : Bool × List Int} {k : Fr} {f : Int × Int} (h : W.R_FOver c d = some (k, f)) : W.R_fover c d = some k := by
  unfold W.R_fover
  simp only [pair_eta]
  rw [h, bnd_val]
theorem one_ff : ∃ g, W.R_ZOf 1 = some g ∧ FF ((false, []), false, []) ((false, []), g) 0 1 5 := by
  obtain ⟨o, o1, o2, o3⟩ := zof_ok (n := 1) (by decide)
  exact ⟨o, o1, ⟨Rep.nil, Rep.nil, Rep.nil, o2, by decide, by simp, by simp, by simp, o3⟩⟩
theorem below_ok {x : Fr} {q : Int} (h : Rep 4294967296 x.2 (q - 1)) (l : x.2.2.length < 1000000) : ∃ r, W.whole_Frac_below x = some r ∧ Rep 4294967296 r q ∧ r.2.length ≤ x.2.2.length + 3 := by
  obtain ⟨o, o1, o2, o3⟩ := of_ok (n := 1) (by decide)
  obtain ⟨w, w1, w2, w3⟩ := add_ok h o2 (by omega) (by omega)
  refine ⟨w, ?_, w2.eq_of (by omega), by omega⟩
  unfold W.whole_Frac_below W.whole_Frac_below.c1
  simp only [pair_eta]
  rw [o1, bnd_val, w1, bnd_val, bnd_val]
theorem Txt.one_iff {q : Int} {l : List UInt8} (h : Txt q l) : l = [49] ↔ q = 1 := by
  have h1 : Txt 1 [49] := Or.inr ⟨by decide, [49], ⟨by unfold Digits; decide, by decide, by decide, by decide⟩, rfl⟩
  constructor
  · intro e; subst e; exact h.inj h1
  · intro e; subst e; exact h.one h1
theorem txt_len {x : Bool × List Int} {v : Int} {l : List UInt8} (h : Rep 4294967296 x v) (k : Txt v l) : l.length ≤ 10 * x.2.length + 2 := by
  rcases k with ⟨_, rfl⟩ | ⟨h0, D, hd, rfl⟩
  · simp
  · have h1 := val_lt (B := 4294967296) (by decide) h.dig
    rw [h.absval (by decide)] at h1
    have h2 : ∀ n : Nat, (4294967296 : Int) ^ n ≤ 10 ^ (10 * n) := by
      intro n
      induction n with
      | zero => simp
      | succ n ih =>
        rw [Int.pow_succ, show 10 * (n + 1) = 10 * n + 10 by omega, Int.pow_add]
        exact Int.mul_le_mul ih (by decide) (by decide) (Int.le_of_lt (Int.pow_pos (by decide)))
    have := hd.len (n := 10 * x.2.length) (by have := h2 x.2.length; omega)
    rw [List.length_append]
    split <;> simp <;> omega
theorem ftext_ff {x g : Fr} {p q : Int} {L : Nat} (h : FF x g p q L) (hL : L < 500000) : ∃ l, W.whole_Frac_Text x = some l ∧ W.R_FText g = some l ∧ (q = 1 → Txt p l) := by
  obtain ⟨x1, x2, g1, g2, pos, l1, l2, l3, l4⟩ := h
  obtain ⟨t, t1, t2⟩ := text_ok x1 (by omega)
  obtain ⟨t', t3, t4⟩ := ztext_ok g1 (by omega)
  have e := t4.one t2
  subst e
  obtain ⟨b, b1, b2, b3⟩ := below_ok x2 (by omega)
  obtain ⟨s, s1, s2⟩ := text_ok b2 (by omega)
  obtain ⟨s', s3, s4⟩ := ztext_ok g2 (by omega)
  have e := s4.one s2
  subst e
  have ln1 := txt_len x1 t2
  have ln2 := txt_len b2 s2
  have hsg : (sgn (q - 1) == 0) = decide (q = 1) := by
    unfold sgn
    split
    · omega
    · split
      · rw [decide_eq_true (by omega)]; rfl
      · rw [decide_eq_false (by omega)]; rfl
  have hs1 : (s' == [49]) = decide (q = 1) := by
    by_cases h : q = 1
    · rw [decide_eq_true h, s4.one_iff.2 h]; rfl
    · rw [decide_eq_false h]
      exact beq_false_of_ne fun e => h (s4.one_iff.1 e)
  have hx : W.whole_Frac_Text x = br (decide (q = 1)) (some t') (some (t' ++ [47] ++ s')) := by
    unfold W.whole_Frac_Text
    simp only [pair_eta]
    rw [sign_ok x2, bnd_val, hsg, t1]
    congr 1
    have c3 : W.whole_Frac_Text.c3 x.1.1 x.1.2 x.2.1 x.2.2 Option.some = some (t' ++ [47] ++ s') := by
      unfold W.whole_Frac_Text.c3
      simp only [pair_eta]
      rw [t1, bnd_val, okIf_true (by simp; omega), bnd_val, b1, bnd_val, s1, bnd_val, okIf_true (by simp; omega), bnd_val]
    rw [c3, bnd_val]
  have hg : W.R_FText g = br (decide (q = 1)) (some t') (some (t' ++ [47] ++ s')) := by
    unfold W.R_FText
    simp only [pair_eta]
    rw [s3, bnd_val, hs1, t3]
    congr 1
    have c3 : W.R_FText.c3 g.1.1 g.1.2 g.2.1 g.2.2 Option.some = some (t' ++ [47] ++ s') := by
      unfold W.R_FText.c3
      simp only [pair_eta]
      rw [t3, bnd_val, okIf_true (by simp; omega), bnd_val, s3, bnd_val, okIf_true (by simp; omega), bnd_val]
    rw [c3, bnd_val]
  rw [hx, hg]
  by_cases h : q = 1
  · rw [br_pos h]; exact ⟨_, rfl, rfl, fun _ => t2⟩
  · rw [br_neg h]; exact ⟨_, rfl, rfl, fun e => absurd e h⟩
/-- Sums of fractions. -/
theorem add_ff {x g y h : Fr} {p q r s : Int} {L : Nat} (hx : FF x g p q L) (hy : FF y h r s L) (hL : L < 5000) :
    ∃ z k, W.whole_Frac_Add x y = some z ∧ W.R_FAdd g h = some k ∧ FF z k (lowP (p * s + r * q) (q * s)) (lowQ (p * s + r * q) (q * s)) (5 * L + 20) := by
  obtain ⟨x1, x2, g1, g2, xp, l1, l2, l3, l4⟩ := hx
  obtain ⟨y1, y2, h1, h2, yp, m1, m2, m3, m4⟩ := hy
  obtain ⟨bx, bx1, bx2, bx3⟩ := below_ok x2 (by omega)
  obtain ⟨by', by1, by2, by3⟩ := below_ok y2 (by omega)
  obtain ⟨a, a1, a2, a3⟩ := mul_ok x1 by2 (by omega) (by omega)
  obtain ⟨b, b1, b2, b3⟩ := mul_ok y1 bx2 (by omega) (by omega)
  obtain ⟨c, c1, c2, c3⟩ := add_ok a2 b2 (by omega) (by omega)
  obtain ⟨d, d1, d2, d3⟩ := mul_ok bx2 by2 (by omega) (by omega)
  obtain ⟨e, e1, e2, e3⟩ := zmul_ok g1 h2 (by omega) (by omega)
  obtain ⟨f, f1, f2, f3⟩ := zmul_ok h1 g2 (by omega) (by omega)
  obtain ⟨i, i1, i2, i3⟩ := zadd_ok e2 f2 (by omega) (by omega)
  obtain ⟨j, j1, j2, j3⟩ := zmul_ok g2 h2 (by omega) (by omega)
  have hne : q * s ≠ 0 := Int.ne_of_gt (Int.mul_pos xp yp)
  obtain ⟨z, k, z1, k1, zz⟩ := lowest_ff c2 d2 i2 j2 (L := 5 * L + 19) (by omega) (by omega) (by omega) (by omega) (by omega) hne
  refine ⟨z, k, ?_, ?_, zz⟩
  · unfold W.whole_Frac_Add W.whole_Frac_Add.c1
    simp only [pair_eta]
    simp only [bx1, by1, a1, b1, c1, d1, z1, bnd_val, pair_eta]
  · unfold W.R_FAdd W.R_FAdd.c1
    simp only [pair_eta]
    simp only [e1, f1, i1, j1, fover_of k1, bnd_val, pair_eta]
theorem sub_ff {x g y h : Fr} {p q r s : Int} {L : Nat} (hx : FF x g p q L) (hy : FF y h r s L) (hL : L < 5000) :
    ∃ z k, W.whole_Frac_Sub x y = some z ∧ W.R_FSub g h = some k ∧ FF z k (lowP (p * s + -r * q) (q * s)) (lowQ (p * s + -r * q) (q * s)) (5 * L + 20) := by
  obtain ⟨n, n1, n2, n3⟩ := neg_ok hy.x1 (by have := hy.l1; omega)
  obtain ⟨m, m1, m2, m3⟩ := zneg_ok hy.g1 (by have := hy.l3; omega)
  have hy' : FF (n, y.2) (m, h.2) (-r) s L := ⟨n2, hy.x2, m2, hy.g2, hy.pos, by have := hy.l1; simp only; omega, hy.l2, by have := hy.l3; simp only; omega, hy.l4⟩
  obtain ⟨z, k, z1, k1, zz⟩ := add_ff hx hy' hL
  refine ⟨z, k, ?_, ?_, zz⟩
  · unfold W.whole_Frac_Sub W.whole_Frac_Sub.c1
    simp only [pair_eta]
    simp only [n1, bnd_val, pair_eta]
    rw [z1, bnd_val, bnd_val]
  · unfold W.R_FSub W.R_FSub.c1
    simp only [pair_eta]
    simp only [m1, bnd_val, pair_eta]
    rw [k1, bnd_val, bnd_val]
theorem mul_ff {x g y h : Fr} {p q r s : Int} {L : Nat} (hx : FF x g p q L) (hy : FF y h r s L) (hL : L < 5000) :
    ∃ z k, W.whole_Frac_Mul x y = some z ∧ W.R_FMul g h = some k ∧ FF z k (lowP (p * r) (q * s)) (lowQ (p * r) (q * s)) (5 * L + 20) := by
  obtain ⟨x1, x2, g1, g2, xp, l1, l2, l3, l4⟩ := hx
  obtain ⟨y1, y2, h1, h2, yp, m1, m2, m3, m4⟩ := hy
  obtain ⟨bx, bx1, bx2, bx3⟩ := below_ok x2 (by omega)
  obtain ⟨by', by1, by2, by3⟩ := below_ok y2 (by omega)
  obtain ⟨c, c1, c2, c3⟩ := mul_ok x1 y1 (by omega) (by omega)
  obtain ⟨d, d1, d2, d3⟩ := mul_ok bx2 by2 (by omega) (by omega)
  obtain ⟨i, i1, i2, i3⟩ := zmul_ok g1 h1 (by omega) (by omega)
  obtain ⟨j, j1, j2, j3⟩ := zmul_ok g2 h2 (by omega) (by omega)
  have hne : q * s ≠ 0 := Int.ne_of_gt (Int.mul_pos xp yp)
  obtain ⟨z, k, z1, k1, zz⟩ := lowest_ff c2 d2 i2 j2 (L := 5 * L + 19) (by omega) (by omega) (by omega) (by omega) (by omega) hne
  refine ⟨z, k, ?_, ?_, zz⟩
  · unfold W.whole_Frac_Mul W.whole_Frac_Mul.c1
    simp only [pair_eta]
    simp only [bx1, by1, c1, d1, z1, bnd_val, pair_eta]
  · unfold W.R_FMul W.R_FMul.c1
    simp only [pair_eta]
    simp only [i1, j1, fover_of k1, bnd_val, pair_eta]
theorem quo_ff {x g y h : Fr} {p q r s : Int} {L : Nat} (hx : FF x g p q L) (hy : FF y h r s L) (hL : L < 5000) :
    ∃ z k f m n, W.whole_Frac_Quo x y = some (z, f) ∧ W.R_FQuo g h = some (k, f) ∧ FF z k m n (5 * L + 20) := by
  obtain ⟨x1, x2, g1, g2, xp, l1, l2, l3, l4⟩ := hx
  obtain ⟨y1, y2, h1, h2, yp, m1, m2, m3, m4⟩ := hy
  obtain ⟨bx, bx1, bx2, bx3⟩ := below_ok x2 (by omega)
  obtain ⟨by', by1, by2, by3⟩ := below_ok y2 (by omega)
  obtain ⟨c, c1, c2, c3⟩ := mul_ok x1 by2 (by omega) (by omega)
  obtain ⟨d, d1, d2, d3⟩ := mul_ok bx2 y1 (by omega) (by omega)
  obtain ⟨i, i1, i2, i3⟩ := zmul_ok g1 h2 (by omega) (by omega)
  obtain ⟨j, j1, j2, j3⟩ := zmul_ok g2 h1 (by omega) (by omega)
  unfold W.whole_Frac_Quo W.R_FQuo W.R_FQuo.c1
  simp only [pair_eta]
  rw [sign_ok y1, bnd_val, i1, bnd_val, j1, bnd_val]
  by_cases h0 : r = 0
  · subst h0
    have hz : (sgn 0 == 0) = true := by decide
    rw [hz, br_tt]
    have hj := (j2.zero_iff (by decide)).2 (by simp)
    obtain ⟨o, o1, o2⟩ := one_ff
    have : W.R_FOver i j = some (((false, []), o), 4, 0) := by
      unfold W.R_FOver
      rw [hj, o1]; rfl
    rw [this, bnd_val, bnd_val]
    refine ⟨_, _, _, 0, 1, rfl, rfl, ⟨o2.x1, o2.x2, o2.g1, o2.g2, o2.pos, by simp, by simp, by simp, ?_⟩⟩
    have := o2.l4
    simp only at this ⊢; omega
  · have hz : (sgn r == 0) = false := by
      unfold sgn
      split
      · rfl
      · rfl
    have hne : q * r ≠ 0 := fun e => by rcases Int.mul_eq_zero.1 e with e | e <;> omega
    obtain ⟨z, k, z1, k1, zz⟩ := lowest_ff c2 d2 i2 j2 (L := 5 * L + 19) (by omega) (by omega) (by omega) (by omega) (by omega) hne
    rw [hz, br_ff, k1, bnd_val, bnd_val]
    have c3 : W.whole_Frac_Quo.c3 x.1.1 x.1.2 x.2.1 x.2.2 y.1.1 y.1.2 y.2.1 y.2.2 Option.some = some (z.1.1, z.1.2, z.2.1, z.2.2) := by
      unfold W.whole_Frac_Quo.c3
      simp only [pair_eta]
      simp only [bx1, by1, c1, d1, z1, bnd_val]
    rw [c3, bnd_val]
    exact ⟨z, k, (0, 0), _, _, rfl, rfl, zz⟩
theorem cmp_ff {x g y h : Fr} {p q r s : Int} {L : Nat} (hx : FF x g p q L) (hy : FF y h r s L) (hL : L < 5000) :
    ∃ c, W.whole_Frac_Cmp x y = some c ∧ W.R_FCmp g h = some c := by
  obtain ⟨x1, x2, g1, g2, xp, l1, l2, l3, l4⟩ := hx
  obtain ⟨y1, y2, h1, h2, yp, m1, m2, m3, m4⟩ := hy
  obtain ⟨bx, bx1, bx2, bx3⟩ := below_ok x2 (by omega)
  obtain ⟨by', by1, by2, by3⟩ := below_ok y2 (by omega)
  obtain ⟨c, c1, c2, c3⟩ := mul_ok x1 by2 (by omega) (by omega)
  obtain ⟨d, d1, d2, d3⟩ := mul_ok y1 bx2 (by omega) (by omega)
  obtain ⟨i, i1, i2, i3⟩ := zmul_ok g1 h2 (by omega) (by omega)
  obtain ⟨j, j1, j2, j3⟩ := zmul_ok h1 g2 (by omega) (by omega)
  refine ⟨sgn (p * s - r * q), ?_, ?_⟩
  · unfold W.whole_Frac_Cmp W.whole_Frac_Cmp.c1
    simp only [pair_eta]
    simp only [bx1, by1, c1, d1, bnd_val, icmp_ok c2 d2 (by omega) (by omega)]
  · unfold W.R_FCmp W.R_FCmp.c1
    simp only [pair_eta]
    simp only [i1, j1, bnd_val, zcmp_ok i2 j2 (by omega) (by omega)]
end Go.Ql
end

section
/- Fractions read from texts; the law. -/
namespace Go.Ql
theorem take_all (l : List UInt8) : l.take (Int.toNat (l.length : Int)) = l := by rw [Int.toNat_natCast, List.take_length]
theorem fparse_ok (text : List UInt8) (hL : text.length ≤ 9223372036854775807) :
    ∃ x g f p q, W.whole_ParseFrac text = some (x, f) ∧ W.R_FParse text = some (g, f) ∧ FF x g p q 1001 := by
  obtain ⟨n1, n2⟩ := number_ok true text hL
  have hle := numLen_le true text
  have hcan := numLen_canon (sg := true) (text := text)
  obtain ⟨o, o1, o2⟩ := one_ff
  have nought : ∀ f : Int × Int, ∃ x g f' p q, (some (((false, []), (false, [])), f) : Option (Fr × Int × Int)) = some (x, f') ∧ (some (((false, []), o), f) : Option (Fr × Int × Int)) = some (g, f') ∧ FF x g p q 1001 := fun f =>
    ⟨_, _, f, 0, 1, rfl, rfl, o2.x1, o2.x2, o2.g1, o2.g2, o2.pos, by simp, by simp, by simp, by have := o2.l4; simp only at this ⊢; omega⟩
  generalize hn : (numLen true text).1 = n at *
  generalize hok : (numLen true text).2 = ok at *
  -- is there a bar?
  have c3 : W.whole_ParseFrac.c3 text (n : Int) ok Option.some = some (ok && (text[n]? == some 47)) ∧ W.R_FParse.c4 text (n : Int) ok Option.some = some (ok && (text[n]? == some 47)) := by
    have key : W.whole_ParseFrac.c3 text (n : Int) ok Option.some = some (ok && (text[n]? == some 47)) := by
      unfold W.whole_ParseFrac.c3
      cases ok
      · rfl
      · rw [br_tt, Bool.true_and]
        by_cases h : n < text.length
        · rw [br_pos (by omega), idx_text text n h, bnd_val, List.getElem?_eq_getElem h]
          congr 1
          generalize text[n] = c
          by_cases h5 : c = 47
          · subst h5; rfl
          · have h6 : (some c == some 47) = false := beq_false_of_ne (by simpa using h5)
            rw [h6]
            apply beq_false_of_ne
            intro e
            apply h5
            apply UInt8.toNat_inj.1
            show c.toNat = 47
            omega
        · rw [br_neg (by omega), List.getElem?_eq_none (by omega)]; rfl
    exact ⟨key, key⟩
  unfold W.whole_ParseFrac W.R_FParse
  rw [n1, bnd_val, o1, bnd_val, n2, bnd_val]
  simp only
  rw [okIf_true (by simp; omega), bnd_val]
  unfold W.whole_ParseFrac.c212295 W.R_FParse.c216393
  rw [c3.1, c3.2, bnd_val, bnd_val]
  simp only [Int.toNat_natCast, List.take_length]
  by_cases hcut : (ok && (text[n]? == some 47)) = true
  · -- a bar
    rw [hcut, br_tt, br_tt]
    rw [Bool.and_eq_true] at hcut
    obtain ⟨hokt, hbar⟩ := hcut
    subst hokt
    have hbar := beq_iff_eq.1 hbar
    have hnl : n < text.length := by
      rcases Nat.lt_or_ge n text.length with h | h
      · exact h
      · rw [List.getElem?_eq_none h] at hbar; cases hbar
    rw [wrap_i64 (x := (n : Int) + 1) (by omega), okIf_true (by simp; omega), bnd_val, show ((n : Int) + 1).toNat = n + 1 by omega]
    obtain ⟨m1, m2⟩ := number_ok false (text.drop (n + 1)) (by rw [List.length_drop]; omega)
    have mle := numLen_le false (text.drop (n + 1))
    have mcan := numLen_canon (sg := false) (text := text.drop (n + 1))
    rw [List.length_drop] at mle
    generalize hk : (numLen false (text.drop (n + 1))).1 = k at *
    generalize hmore : (numLen false (text.drop (n + 1))).2 = more at *
    rw [m1, bnd_val, m2, bnd_val, bnd_val]
    simp only
    rw [wrap_i64 (x := (n : Int) + 1 + (k : Int)) (by omega), okIf_true (by simp; omega), bnd_val, bnd_val]
    simp only
    have c6 : W.whole_ParseFrac.c6 text ((n : Int) + 1 + (k : Int)) more Option.some = some (!more || decide (n + 1 + k < text.length)) ∧ W.R_FParse.c8 text more ((n : Int) + 1 + (k : Int)) Option.some = some (!more || decide (n + 1 + k < text.length)) := by
      have key : W.whole_ParseFrac.c6 text ((n : Int) + 1 + (k : Int)) more Option.some = some (!more || decide (n + 1 + k < text.length)) := by
        unfold W.whole_ParseFrac.c6
        cases more
        · rfl
        · rw [Bool.not_true, br_ff, Bool.false_or]; congr 1; rw [decide_eq_decide]; omega
      exact ⟨key, key⟩
    simp only [bnd_val, c6.1, c6.2]
    by_cases hbad : (!more || decide (n + 1 + k < text.length)) = true
    · rw [br_true hbad, br_true hbad]
      exact nought (1, (n : Int) + 1 + (k : Int))
    rw [br_false (eq_false_of_ne_true hbad), br_false (eq_false_of_ne_true hbad)]
    have hg : more = true ∧ text.length = n + 1 + k := by
      cases more <;> simp at hbad ⊢
      omega
    obtain ⟨hcan1, _⟩ := hcan rfl
    obtain ⟨mcan1, mcan2⟩ := mcan hg.1
    have hk' : (text.drop (n + 1)).take k = text.drop (n + 1) := List.take_of_length_le (by rw [List.length_drop]; omega)
    rw [hk'] at mcan1 mcan2
    have htail : List.drop (n + 1) (List.take ((n : Int) + 1 + (k : Int)).toNat text) = text.drop (n + 1) := by
      rw [List.take_of_length_le (by omega)]
    rw [htail]
    obtain ⟨ds, u, hs⟩ := hcan1.said (by rw [List.length_take]; omega)
    obtain ⟨es, v, ht⟩ := mcan1.said (by rw [List.length_drop]; omega)
    have hes : es = text.drop (n + 1) := by
      have := ht.trim
      rw [trim_ok _ (by rw [List.length_drop]; omega), if_neg (head_digit (mcan2 rfl).1)] at this
      exact (Option.some.inj this).symm
    have hesl : es.length = k := by rw [hes, List.length_drop]; omega
    have c8 : W.whole_ParseFrac.c8 (text.take n) (text.drop (n + 1)) Option.some = some (decide (ds.length > 1000 ∨ k > 1000)) := by
      unfold W.whole_ParseFrac.c8
      rw [show Array.toList (ByteArray.data (ByteArray.mk #[(45 : UInt8)])) = [45] from rfl, hs.trim, bnd_val, List.length_drop]
      by_cases h : (ds.length : Int) > 1000
      · rw [br_pos h, decide_eq_true (Or.inl (by omega))]
      · rw [br_neg h]; congr 1; rw [decide_eq_decide]; omega
    have c10 : W.R_FParse.c10 text (n : Int) ((n : Int) + 1 + (k : Int)) Option.some = some (decide (ds.length > 1000 ∨ k > 1000)) := by
      unfold W.R_FParse.c10
      rw [okIf_true (by simp; omega), bnd_val, Int.toNat_natCast, hs.of, bnd_val, wrap_i64 (x := (n : Int) + 1 + (k : Int) - (n : Int)) (by omega), wrap_i64 (by omega)]
      by_cases h : (ds.length : Int) > 1000
      · rw [br_pos h, decide_eq_true (Or.inl (by omega))]
      · rw [br_neg h]; congr 1; rw [decide_eq_decide]; omega
    simp only [bnd_val, c8, c10]
    by_cases hlong : ds.length > 1000 ∨ k > 1000
    · rw [br_pos hlong, br_pos hlong]
      exact nought (2, 0)
    rw [br_neg hlong, br_neg hlong]
    obtain ⟨a, c, a1, _, a3, a4, a5, a6, a7⟩ := hs.rd (by omega)
    obtain ⟨b, d, b1, _, b3, b4, b5, b6, b7⟩ := ht.rd (by omega)
    have hv : v ≠ 0 := by
      intro e
      have h1 := ht.txt
      rw [e] at h1
      rcases h1 with ⟨_, h1⟩ | ⟨h1, _⟩
      · exact (mcan2 rfl).2.1 (by rw [h1]; rfl)
      · exact h1 rfl
    obtain ⟨z, w, z1, w1, zz⟩ := lowest_ff a4 b4 a5 b5 (L := 1000) (by omega) (by omega) (by omega) (by omega) (by omega) hv
    obtain ⟨t, t1, t2, _⟩ := ftext_ff zz (by omega)
    simp only [a1, bnd_val, Bool.not_true, br_ff, b1, pair_eta, z1, t1, a3]
    have c14 : W.R_FParse.c14 text (n : Int) Option.some = some (w.1.1, w.1.2, w.2.1, w.2.2) := by
      unfold W.R_FParse.c14
      rw [okIf_true (by simp; omega), bnd_val, Int.toNat_natCast, a3, bnd_val, wrap_i64 (x := (n : Int) + 1) (by omega), okIf_true (by simp; omega), bnd_val, take_all, show ((n : Int) + 1).toNat = n + 1 by omega, b3, bnd_val, fover_of w1, bnd_val]
    have c25 : W.R_FParse.c253253 text (n : Int) ((n : Int) + 1 + (k : Int)) c.1 c.2 o.1 o.2 Option.some = some (w.1.1, w.1.2, w.2.1, w.2.2) := by
      unfold W.R_FParse.c253253
      rw [br_pos (by omega), c14, bnd_val]
    simp only [c25, bnd_val, pair_eta, t2]
    by_cases hform : (!t == text) = true
    · rw [br_true hform, br_true hform]
      exact nought (3, 0)
    · rw [br_false (eq_false_of_ne_true hform), br_false (eq_false_of_ne_true hform)]
      exact ⟨z, w, (0, 0), _, _, rfl, rfl, zz⟩
  · rw [eq_false_of_ne_true hcut, br_ff, br_ff, bnd_val, bnd_val]
    simp only
    have c6 : W.whole_ParseFrac.c6 text (n : Int) ok Option.some = some (!ok || decide (n < text.length)) ∧ W.R_FParse.c8 text ok (n : Int) Option.some = some (!ok || decide (n < text.length)) := by
      have key : W.whole_ParseFrac.c6 text (n : Int) ok Option.some = some (!ok || decide (n < text.length)) := by
        unfold W.whole_ParseFrac.c6
        cases ok
        · rfl
        · rw [Bool.not_true, br_ff, Bool.false_or]; congr 1; rw [decide_eq_decide]; omega
      exact ⟨key, key⟩
    simp only [bnd_val, c6.1, c6.2]
    by_cases hbad : (!ok || decide (n < text.length)) = true
    · rw [br_true hbad, br_true hbad]
      exact nought (1, (n : Int))
    rw [br_false (eq_false_of_ne_true hbad), br_false (eq_false_of_ne_true hbad)]
    have hg : ok = true ∧ text.length = n := by
      cases ok <;> simp at hbad ⊢
      omega
    obtain ⟨hcan1, _⟩ := hcan hg.1
    have htk : text.take n = text := List.take_of_length_le (by omega)
    rw [htk] at hcan1 ⊢
    obtain ⟨ds, u, hs⟩ := hcan1.said hL
    have c8 : W.whole_ParseFrac.c8 text [] Option.some = some (decide (ds.length > 1000)) := by
      unfold W.whole_ParseFrac.c8
      rw [show Array.toList (ByteArray.data (ByteArray.mk #[(45 : UInt8)])) = [45] from rfl, hs.trim, bnd_val]
      by_cases h : (ds.length : Int) > 1000
      · rw [br_pos h, decide_eq_true (by omega)]
      · rw [br_neg h, decide_eq_false (by simp), decide_eq_false (by omega)]
    have c10 : W.R_FParse.c10 text (n : Int) (n : Int) Option.some = some (decide (ds.length > 1000)) := by
      unfold W.R_FParse.c10
      rw [okIf_true (by simp; omega), bnd_val, Int.toNat_natCast, htk, hs.of, bnd_val, wrap_i64 (x := (n : Int) - (n : Int)) (by omega), wrap_i64 (by omega)]
      by_cases h : (ds.length : Int) > 1000
      · rw [br_pos h, decide_eq_true (by omega)]
      · rw [br_neg h]; congr 1; rw [decide_eq_decide]; omega
    simp only [bnd_val, c8, c10]
    by_cases hlong : ds.length > 1000
    · rw [br_pos hlong, br_pos hlong]
      exact nought (2, 0)
    rw [br_neg hlong, br_neg hlong]
    obtain ⟨a, c, a1, _, a3, a4, a5, a6, a7⟩ := hs.rd (by omega)
    have zz : FF (a, false, []) (c, o) u 1 1001 := ⟨a4, Rep.nil, a5, o2.g2, by decide, by simp only; omega, by simp, by simp only; omega, by have := o2.l4; simp only at this ⊢; omega⟩
    obtain ⟨t, t1, t2, t3⟩ := ftext_ff zz (by omega)
    have htt : t = text := (t3 rfl).one hs.txt
    simp only [a1, bnd_val, Bool.not_false, br_tt, a3, pair_eta]
    have c25 : W.R_FParse.c253253 text (n : Int) (n : Int) c.1 c.2 o.1 o.2 Option.some = some (c.1, c.2, o.1, o.2) := by
      unfold W.R_FParse.c253253
      rw [br_neg (by omega)]
    simp only [c25, bnd_val, pair_eta, t2, htt]
    have : (!text == text) = false := by simp
    rw [this, br_ff]
    exact ⟨_, _, (0, 0), _, _, rfl, rfl, zz⟩
theorem fracs_law (text other : List UInt8) (ht : text.length ≤ 9223372036854775807) (ho : other.length ≤ 9223372036854775807) : W.Law_WholeFracs text other = some true := by
  obtain ⟨x, a, f, p, q, h1, h2, h3⟩ := fparse_ok text ht
  obtain ⟨y, b, g, r, s, k1, k2, k3⟩ := fparse_ok other ho
  obtain ⟨t1, t11, t12, _⟩ := ftext_ff h3 (by omega)
  obtain ⟨t2, t21, t22, _⟩ := ftext_ff k3 (by omega)
  obtain ⟨bx, bx1, bx2, bx3⟩ := below_ok h3.x2 (by have := h3.l2; omega)
  obtain ⟨t3, t31, t32⟩ := tt_ok h3.x1 h3.g1 (by have := h3.l1; omega) (by have := h3.l3; omega)
  obtain ⟨t4, t41, t42⟩ := tt_ok bx2 h3.g2 (by have := h3.l2; omega) (by have := h3.l4; omega)
  obtain ⟨z, k, e, m, n, q1, q2, q3⟩ := quo_ff h3 k3 (by omega)
  obtain ⟨t5, t51, t52, _⟩ := ftext_ff q3 (by omega)
  obtain ⟨c, c1, c2⟩ := cmp_ff h3 k3 (by omega)
  obtain ⟨s1, s2, s3, s4, s5⟩ := add_ff h3 k3 (by omega)
  obtain ⟨t6, t61, t62, _⟩ := ftext_ff s5 (by omega)
  obtain ⟨d1, d2, d3, d4, d5⟩ := sub_ff h3 k3 (by omega)
  obtain ⟨t7, t71, t72, _⟩ := ftext_ff d5 (by omega)
  obtain ⟨m1, m2, m3, m4, m5⟩ := mul_ff h3 k3 (by omega)
  obtain ⟨t8, t81, t82, _⟩ := ftext_ff m5 (by omega)
  unfold W.Law_WholeFracs
  rw [h1, bnd_val, k1, bnd_val, h2, bnd_val, k2, bnd_val]
  simp only [pair_eta]
  have c5 : W.Law_WholeFracs.c5 x.1.1 x.1.2 x.2.1 x.2.2 f.1 f.2 y.1.1 y.1.2 y.2.1 y.2.2 g.1 g.2 a.1.1 a.1.2 a.2.1 a.2.2 f.1 f.2 b.1.1 b.1.2 b.2.1 b.2.2 g.1 g.2 some = some false := by
    unfold W.Law_WholeFracs.c5
    simp only [pair_eta, begun_ok, bnd_val, eqT_ff, t11, t12, t21, t22, Bool.not_true, br_ff, beq_self_eq_true]
  have hparts : W.whole_Frac_Parts x = some (x.1, bx) := by
    unfold W.whole_Frac_Parts W.whole_Frac_Parts.c1
    simp only [pair_eta, bx1, bnd_val]
  have c8 : W.Law_WholeFracs.c8 a.1.1 a.1.2 a.2.1 a.2.2 x.1.1 x.1.2 bx.1 bx.2 some = some false := by
    unfold W.Law_WholeFracs.c8
    simp only [pair_eta, t31, t32, t41, t42, bnd_val, Bool.not_true, br_ff, beq_self_eq_true]
  have c12 : W.Law_WholeFracs.c12 x.1.1 x.1.2 x.2.1 x.2.2 e.1 e.2 y.1.1 y.1.2 y.2.1 y.2.2 a.1.1 a.1.2 a.2.1 a.2.2 e.1 e.2 b.1.1 b.1.2 b.2.1 b.2.2 z.1.1 z.1.2 z.2.1 z.2.2 k.1.1 k.1.2 k.2.1 k.2.2 some = some false := by
    unfold W.Law_WholeFracs.c12
    simp only [pair_eta, eqT_ff, t51, t52, c1, c2, bnd_val, Bool.not_true, br_ff, beq_self_eq_true, bne_self_eq_false]
  have c14 : W.Law_WholeFracs.c14 x.1.1 x.1.2 x.2.1 x.2.2 y.1.1 y.1.2 y.2.1 y.2.2 a.1.1 a.1.2 a.2.1 a.2.2 b.1.1 b.1.2 b.2.1 b.2.2 some = some true := by
    unfold W.Law_WholeFracs.c14
    simp only [pair_eta, s3, s4, t61, t62, d3, d4, t71, t72, m3, m4, t81, t82, bnd_val, br_tt, beq_self_eq_true]
  rw [c5, bnd_val, br_ff, hparts, bnd_val, c8, bnd_val, br_ff, q1, bnd_val, q2, bnd_val]
  simp only [pair_eta]
  rw [c12, bnd_val, br_ff, c14, bnd_val]
end Go.Ql
end

section
/- The laws of whole numbers: a ring with an order; division with rest; what is written is read again. -/
namespace Go.Ql
theorem parses2 (text : List UInt8) (hL : text.length ≤ 9223372036854775807) :
    ∃ x f u n, W.whole_Parse text = some (x, f) ∧ Rep 4294967296 x u ∧ x.2.length ≤ 1000 ∧ n ≤ 1000 ∧ u.natAbs < 10 ^ n := by
  rcases parses text hL with ⟨ds, v, hs, hd⟩ | ⟨f, _, h1, _⟩
  · obtain ⟨x, z, r1, r2, r3, r4, r5, r6, r7⟩ := hs.rd hd
    exact ⟨x, _, v, ds.length, r1, r4, r6, hd, hs.small⟩
  · exact ⟨_, f, 0, 0, h1, Rep.nil, by simp, by omega, by simp⟩
theorem sgn_zero {v : Int} (h : v = 0) : sgn v = 0 := by subst h; rfl
theorem sgn_swap (u v : Int) : sgn (u - v) = - sgn (v - u) := by
  unfold sgn
  split <;> split <;> (try split) <;> (try split) <;> omega
theorem low_gcd (u : Int) {v : Int} (hv : v ≠ 0) : Int.gcd (lowP u v) (lowQ u v) = 1 := by
  obtain ⟨h1, h2, h3⟩ := gcd_facts u hv
  have h4 : Int.gcd (u / (Int.gcd u v : Int)) (v / (Int.gcd u v : Int)) = 1 := by
    have h5 : Int.gcd ((Int.gcd u v : Int) * (u / (Int.gcd u v : Int))) ((Int.gcd u v : Int) * (v / (Int.gcd u v : Int))) = (Int.gcd u v : Int).natAbs * Int.gcd (u / (Int.gcd u v : Int)) (v / (Int.gcd u v : Int)) := Int.gcd_mul_left ..
    rw [h2, h3] at h5
    have h6 : (Int.gcd u v : Int).natAbs = Int.gcd u v := Int.natAbs_natCast _
    rw [h6] at h5
    have h7 : Int.gcd u v * 1 = Int.gcd u v * Int.gcd (u / (Int.gcd u v : Int)) (v / (Int.gcd u v : Int)) := by rw [Nat.mul_one]; exact h5
    exact (Nat.eq_of_mul_eq_mul_left (by omega) h7).symm
  unfold lowP lowQ
  split <;> simp [h4]
theorem low_cross (u : Int) {v : Int} (hv : v ≠ 0) : lowP u v * v = lowQ u v * u := by
  obtain ⟨h1, h2, h3⟩ := gcd_facts u hv
  have h4 : u / (Int.gcd u v : Int) * v = v / (Int.gcd u v : Int) * u := by
    generalize (Int.gcd u v : Int) = g at *
    generalize u / g = x at *
    generalize v / g = y at *
    rw [← h2, ← h3]; grind
  unfold lowP lowQ
  split
  · rw [Int.neg_mul, Int.neg_mul, h4]
  · exact h4
theorem laws_law (one two three : List UInt8) (h1 : one.length ≤ 9223372036854775807) (h2 : two.length ≤ 9223372036854775807) (h3 : three.length ≤ 9223372036854775807) : W.Law_WholeLaws one two three = some true := by
  obtain ⟨a, fa, u, n, a1, a2, a3, a4, a5⟩ := parses2 one h1
  obtain ⟨b, fb, v, _, b1, b2, b3, _, _⟩ := parses2 two h2
  obtain ⟨c, fc, w, _, c1, c2, c3, _, _⟩ := parses2 three h3
  have hB : (1 : Int) < 4294967296 := by decide
  unfold W.Law_WholeLaws
  simp only [a1, b1, c1, bnd_val, pair_eta]
  obtain ⟨ab, ab1, ab2, ab3⟩ := add_ok a2 b2 (by omega) (by omega)
  obtain ⟨bc, bc1, bc2, bc3⟩ := add_ok b2 c2 (by omega) (by omega)
  obtain ⟨s, s1, s2, s3⟩ := sub_ok a2 b2 (by omega) (by omega)
  obtain ⟨sb, sb1, sb2, sb3⟩ := add_ok s2 b2 (by omega) (by omega)
  obtain ⟨mab, mab1, mab2, mab3⟩ := mul_ok a2 b2 (by omega) (by omega)
  obtain ⟨mba, mba1, mba2, mba3⟩ := mul_ok b2 a2 (by omega) (by omega)
  obtain ⟨l, l1, l2, l3⟩ := mul_ok ab2 c2 (by omega) (by omega)
  obtain ⟨mac, mac1, mac2, mac3⟩ := mul_ok a2 c2 (by omega) (by omega)
  obtain ⟨mbc, mbc1, mbc2, mbc3⟩ := mul_ok b2 c2 (by omega) (by omega)
  obtain ⟨r, r1, r2, r3⟩ := add_ok mac2 mbc2 (by omega) (by omega)
  obtain ⟨x, x1, x2, x3⟩ := add_ok a2 bc2 (by omega) (by omega)
  obtain ⟨y, y1, y2, y3⟩ := add_ok ab2 c2 (by omega) (by omega)
  have z0 : ((0 : Int) != 0) = false := rfl
  have c4 : W.Law_WholeLaws.c4 a.1 a.2 b.1 b.2 c.1 c.2 some = some false := by
    unfold W.Law_WholeLaws.c4
    simp only [pair_eta, begun_ok, bnd_val, Bool.not_true, br_ff, ab1, l1, mac1, mbc1, r1, s1, sb1, mab1, mba1]
    rw [icmp_ok l2 r2 (by omega) (by omega), bnd_val, sgn_zero (by rw [Int.add_mul]; omega), z0, br_ff, icmp_ok sb2 a2 (by omega) (by omega), bnd_val, sgn_zero (by omega), z0, br_ff, icmp_ok mab2 mba2 (by omega) (by omega), bnd_val, sgn_zero (by rw [Int.mul_comm]; omega)]
    rfl
  have c6 : W.Law_WholeLaws.c6 a.1 a.2 b.1 b.2 c.1 c.2 some = some false := by
    unfold W.Law_WholeLaws.c6
    simp only [pair_eta, bnd_val]
    have hw : IntKind.i64.wrap (0 - sgn (v - u)) = sgn (u - v) := by
      have : -1 ≤ sgn (v - u) ∧ sgn (v - u) ≤ 1 := by unfold sgn; split <;> (try split) <;> omega
      rw [sgn_swap u v, wrap_i64 (by omega)]; omega
    rw [icmp_ok a2 b2 (by omega) (by omega), bnd_val, icmp_ok b2 a2 (by omega) (by omega), bnd_val, hw, bne_self_eq_false, br_ff, bnd_val, s1, bnd_val, sign_ok s2, bnd_val, bne_self_eq_false, br_ff, bc1, bnd_val, x1, bnd_val, ab1, bnd_val, y1, bnd_val, icmp_ok x2 y2 (by omega) (by omega), bnd_val, sgn_zero (by omega)]
    rfl
  obtain ⟨t, t1, t2⟩ := text_ok a2 (by omega)
  obtain ⟨bk, _, bk1, _, bk2, _, bk3, _⟩ := t2.back a4 a5
  have c9 : W.Law_WholeLaws.c9 a.1 a.2 bk.1 bk.2 0 some = some false := by
    unfold W.Law_WholeLaws.c9
    simp only [pair_eta]
    rw [z0, br_ff, icmp_ok bk2 a2 (by omega) (by omega), bnd_val, sgn_zero (by omega)]
    rfl
  rw [c4, bnd_val, br_ff, c6, bnd_val, br_ff, t1, bnd_val, bk1, bnd_val]
  simp only
  rw [c9, bnd_val, br_ff]
  by_cases hv : v = 0
  · subst hv
    rw [idiv_zero b2, bnd_val, sign_ok b2, bnd_val]
    rfl
  obtain ⟨q, m, d1, d2, d3, d4, d5⟩ := idiv_ok a2 b2 (by omega) (by omega) hv
  have hsv : (sgn v == 0) = false := by
    unfold sgn
    split
    · rfl
    · rfl
  rw [d1, bnd_val, sign_ok b2, bnd_val, hsv, br_ff]
  have c26 : ∃ z : Bool × List Int, W.Law_WholeLaws.c261445 b.1 b.2 b.1 b.2 some = some (z.1, z.2) ∧ Rep 4294967296 z (v.natAbs : Int) ∧ z.2.length ≤ 1000 := by
    unfold W.Law_WholeLaws.c261445
    simp only [pair_eta]
    rw [sign_ok b2, bnd_val, sgn_neg]
    by_cases h : v < 0
    · obtain ⟨k, k1, k2, k3⟩ := neg_ok b2 (by omega)
      rw [br_pos h, k1, bnd_val]
      exact ⟨k, rfl, k2.eq_of (by omega), by omega⟩
    · rw [br_neg h]
      exact ⟨b, rfl, b2.eq_of (by omega), by omega⟩
  obtain ⟨z, z1, z2, z3⟩ := c26
  rw [z1, bnd_val]
  simp only
  have hm0 := Int.emod_nonneg u hv
  have hm1 := Int.emod_lt u hv
  obtain ⟨qb, qb1, qb2, qb3⟩ := mul_ok d2 b2 (by omega) (by omega)
  obtain ⟨e, e1, e2, e3⟩ := add_ok qb2 d3 (by omega) (by omega)
  have hdm := Int.ediv_mul_add_emod u v
  have c17 : W.Law_WholeLaws.c17 a.1 a.2 b.1 b.2 0 q.1 q.2 m.1 m.2 z.1 z.2 some = some false := by
    unfold W.Law_WholeLaws.c17
    simp only [pair_eta]
    rw [z0, br_ff, qb1, bnd_val, e1, bnd_val, icmp_ok e2 a2 (by omega) (by omega), bnd_val, sgn_zero (by omega), z0, br_ff, sign_ok d3, bnd_val, sgn_neg, br_neg (by omega), icmp_ok d3 z2 (by omega) (by omega), bnd_val]
    congr 1
    rw [decide_eq_false_iff_not]
    unfold sgn
    rw [if_pos (by omega)]
    decide
  rw [c17, bnd_val, br_ff]
  obtain ⟨x5, k, o1, _, zz⟩ : ∃ z k, W.whole_lowest a b = some z ∧ True ∧ FF z k (lowP u v) (lowQ u v) 1006 := by
    obtain ⟨c', cc⟩ : ∃ z, Rep 10000 z u ∧ z.2.length ≤ 1005 := by
      rcases parses one h1 with ⟨ds, v', hs, hd⟩ | ⟨f, _, g1, g2⟩
      · obtain ⟨x', z', r1', r2', r3', r4', r5', r6', r7'⟩ := hs.rd hd
        rw [a1] at r1'
        have e := (Prod.mk.inj (Option.some.inj r1')).1
        subst e
        have : v' = u := by rw [r4'.val, a2.val]
        subst this
        exact ⟨z', r5', by omega⟩
      · rw [a1] at g1
        have e := (Prod.mk.inj (Option.some.inj g1)).1
        subst e
        have : u = 0 := by rw [a2.val]; rfl
        subst this
        exact ⟨_, Rep.nil, by simp⟩
    obtain ⟨d', dd⟩ : ∃ z, Rep 10000 z v ∧ z.2.length ≤ 1005 := by
      rcases parses two h2 with ⟨ds, v', hs, hd⟩ | ⟨f, _, g1, g2⟩
      · obtain ⟨x', z', r1', r2', r3', r4', r5', r6', r7'⟩ := hs.rd hd
        rw [b1] at r1'
        have e := (Prod.mk.inj (Option.some.inj r1')).1
        subst e
        have : v' = v := by rw [r4'.val, b2.val]
        subst this
        exact ⟨z', r5', by omega⟩
      · rw [b1] at g1
        have e := (Prod.mk.inj (Option.some.inj g1)).1
        subst e
        have : v = 0 := by rw [b2.val]; rfl
        exact absurd this hv
    obtain ⟨z, k, y1, y2, y3⟩ := lowest_ff a2 b2 cc.1 dd.1 (L := 1005) (by omega) (by omega) (by omega) (by omega) (by omega) hv
    exact ⟨z, k, y1, trivial, y3⟩
  have hover : W.whole_Over a b = some (x5, 0, 0) := by
    unfold W.whole_Over
    simp only [pair_eta]
    rw [sign_ok b2, bnd_val, hsv, br_ff, o1, bnd_val]
  obtain ⟨bx, bx1, bx2, bx3⟩ := below_ok zz.x2 (by have := zz.l2; omega)
  have hparts : W.whole_Frac_Parts x5 = some (x5.1, bx) := by
    unfold W.whole_Frac_Parts W.whole_Frac_Parts.c1
    simp only [pair_eta, bx1, bnd_val]
  rw [hover, bnd_val]
  simp only [pair_eta]
  rw [hparts, bnd_val]
  simp only
  have hl1 := zz.l1
  have hl2 := zz.l2
  obtain ⟨g, g1, g2, g3⟩ := igcd_ok zz.x1 bx2 (L := 1010) (by omega) (by omega) (by omega)
  rw [low_gcd u hv] at g2
  obtain ⟨t', t1', t2'⟩ := text_ok g2 (by omega)
  have ht' : t' = [49] := t2'.one_iff.2 rfl
  obtain ⟨f, f1, f2, f3⟩ := mul_ok zz.x1 b2 (by omega) (by omega)
  obtain ⟨h, h1', h2', h3'⟩ := mul_ok bx2 a2 (by omega) (by omega)
  have hpos := zz.pos
  have hsl : decide (sgn (lowQ u v) > 0) = true := by
    unfold sgn
    rw [if_neg (by omega), if_neg (by omega)]
    rfl
  have c21 : W.Law_WholeLaws.c21 a.1 a.2 b.1 b.2 0 x5.1.1 x5.1.2 bx.1 bx.2 some = some true := by
    unfold W.Law_WholeLaws.c21
    simp only [pair_eta]
    rw [show ((0 : Int) == 0) = true from rfl, br_tt, sign_ok bx2, bnd_val, hsl, br_tt, g1, bnd_val, t1', bnd_val, ht']
    rw [show ([(49 : UInt8)] == [49]) = true from rfl, br_tt, f1, bnd_val, h1', bnd_val, icmp_ok f2 h2' (by omega) (by omega), bnd_val, sgn_zero (by rw [low_cross u hv]; omega)]
    rfl
  rw [c21, bnd_val]
end Go.Ql
end
