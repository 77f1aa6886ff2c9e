/- Plain laws: common divisors, the reference's division, fractions, the law. -/
import Derived.Test.YtmhhlfpejfajaaaPe
import Derived.Test.YtmhhlfpejfajaaaWb
section
/- Common divisors and shifts of whole numbers. -/
namespace Go.Ql
theorem gcd_step (u v : Int) : Int.gcd v (u % v) = Int.gcd u v := by
  have h := Int.mul_ediv_add_emod u v
  have e : u % v = u - v * (u / v) := by omega
  rw [e, Int.gcd_sub_mul_left_right, Int.gcd_comm]
theorem Rep.pos_of {B : Int} (hB : 1 < B) {x : Bool × List Int} {v : Int} (h : Rep B x v) : (x.2.length : Int) > 0 ↔ v ≠ 0 := by
  constructor
  · intro h1 h2
    rw [(h.zero_iff hB).2 h2] at h1
    simp at h1
  · intro h1
    have : x.2.length ≠ 0 := fun e => h1 ((h.zero_iff hB).1 (List.eq_nil_of_length_eq_zero e))
    omega
theorem mod_less (u : Int) {v : Int} (h : v ≠ 0) : (u % v).natAbs < v.natAbs := by
  have h1 := Int.emod_nonneg u h
  have h2 := Int.emod_lt u h
  omega
theorem igcd_ok {a b : Bool × List Int} {u v : Int} (ha : Rep 4294967296 a u) (hb : Rep 4294967296 b v) {L : Nat} (la : a.2.length ≤ L) (lb : b.2.length ≤ L) (hL : L < 100000) :
    ∃ r, W.whole_Gcd a b = some r ∧ Rep 4294967296 r (Int.gcd u v : Int) ∧ r.2.length ≤ L := by
  have hB : (1 : Int) < 4294967296 := by decide
  obtain ⟨⟨x0, x1, y0, y1⟩, l1, w, l2, l3, l4⟩ := iter_loop
    (f := fun s : Bool × List Int × Bool × List Int ↦ W.whole_Gcd.c100001 (Prod.fst s) (Prod.fst (Prod.snd s)) (Prod.fst (Prod.snd (Prod.snd s))) (Prod.snd (Prod.snd (Prod.snd s))) Option.some)
    (J := fun s => ∃ p q : Int, Rep 4294967296 (s.1, s.2.1) p ∧ Rep 4294967296 (s.2.2.1, s.2.2.2) q ∧ Int.gcd p q = Int.gcd u v ∧ s.2.1.length ≤ L ∧ s.2.2.2.length ≤ L)
    (Q := fun s => ∃ w : Int, Rep 4294967296 (s.1, s.2.1) w ∧ w.natAbs = Int.gcd u v ∧ s.2.1.length ≤ L)
    (fun s => (val 4294967296 s.2.2.2).toNat) (fun ⟨x0, x1, y0, y1⟩ ⟨p, q, h1, h2, h3, h4, h5⟩ => by
      simp only at h1 h2 h3 h4 h5 ⊢
      have hq := h2.pos_of hB
      simp only at hq
      unfold W.whole_Gcd.c100001
      by_cases h0 : q = 0
      · rw [br_neg (fun h => hq.1 h h0)]
        subst h0
        exact Or.inl ⟨_, rfl, p, h1, by rw [← h3]; simp, h4⟩
      · rw [br_pos (hq.2 h0)]
        obtain ⟨d, r, d1, d2, d3, d4, d5⟩ := idiv_ok h1 h2 (by simp only; omega) (by simp only; omega) h0
        rw [d1, bnd_val]
        refine Or.inr ⟨_, rfl, ⟨q, p % q, h2, d3, by rw [gcd_step, h3], h5, by simp only at d5 ⊢; omega⟩, ?_⟩
        have e1 := d3.absval (by decide)
        have e2 := h2.absval (by decide)
        have := mod_less p h0
        simp only at e1 e2 ⊢
        omega)
    (s := (a.1, a.2, b.1, b.2)) ⟨u, v, ha, hb, rfl, la, lb⟩
  simp only at l2 l4
  obtain ⟨r, r1, r2, r3⟩ := made_ok (B := 4294967296) false x1 l2.dig (by omega)
  unfold W.whole_Gcd
  rw [l1, bnd_val, r1]
  rw [if_neg (by simp), l2.absval (by decide), l3] at r2
  exact ⟨r, rfl, r2, by omega⟩
theorem shift_ok {a : Bool × List Int} {u : Int} (ha : Rep 4294967296 a u) (la : a.2.length < 100000) (n : Int) :
    (n < -10000 ∨ n > 10000 → W.whole_Int_Shift a n = some ((false, []), 5, 0)) ∧
    (0 ≤ n ∧ n ≤ 10000 → ∃ r, W.whole_Int_Shift a n = some (r, 0, 0) ∧ Rep 4294967296 r (u * 2 ^ n.toNat) ∧ r.2.length ≤ a.2.length + 400) ∧
    (-10000 ≤ n ∧ n < 0 → ∃ r, W.whole_Int_Shift a n = some (r, 0, 0) ∧ Rep 4294967296 r (u / 2 ^ (-n).toNat) ∧ r.2.length ≤ a.2.length + 400) := by
  have hA0 := val_nonneg (B := 4294967296) (by decide) ha.dig
  have c1 : W.whole_Int_Shift.c1 n Option.some = some (decide (n < -10000 ∨ n > 10000)) := by
    unfold W.whole_Int_Shift.c1
    by_cases h : n < -10000
    · rw [br_pos h, decide_eq_true (Or.inl h)]
    · rw [br_neg h]; congr 1; rw [decide_eq_decide]; omega
  unfold W.whole_Int_Shift
  rw [c1, bnd_val]
  refine ⟨fun h => by rw [br_pos h], fun h => ?_, fun h => ?_⟩
  · rw [br_neg (by omega), br_pos (by omega)]
    obtain ⟨k, rfl⟩ : ∃ k : Nat, n = k := ⟨n.toNat, by omega⟩
    obtain ⟨t, t1, t2, t3, t4⟩ := left_ok a.2 k ha.dig (by omega) (by omega)
    obtain ⟨r, r1, r2, r3⟩ := made_ok (B := 4294967296) a.1 t t2 (by omega)
    have c4 : W.whole_Int_Shift.c4 (k : Int) a.1 a.2 Option.some = some (r.1, r.2) := by
      show (bnd (W.whole_left a.2 (k : Int)) fun y => bnd (W.whole_made a.1 y.1) fun y_1 => some (y_1.1, y_1.2)) = _
      rw [t1, bnd_val]
      simp only
      rw [r1, bnd_val]
    rw [c4, bnd_val]
    refine ⟨r, rfl, r2.eq_of ?_, by omega⟩
    rw [t4, ha.val, Int.toNat_natCast]
    split <;> simp [Int.neg_mul]
  · rw [br_neg (by omega), br_neg (by omega)]
    obtain ⟨k, rfl⟩ : ∃ k : Nat, n = -(k : Int) := ⟨(-n).toNat, by omega⟩
    obtain ⟨t, lost, t1, t2, t3, t4, t5⟩ := right_ok a.2 k ha.dig (by omega) (by omega)
    obtain ⟨r, r1, r2, r3⟩ := made_ok (B := 4294967296) a.1 t t2 (by omega)
    rw [wrap_i64 (by omega), show (0 : Int) - -(k : Int) = k by omega, t1, bnd_val]
    simp only
    rw [r1, bnd_val, t5 ha.last]
    have hP : (0 : Int) < 2 ^ k := Int.pow_pos (by decide)
    have hs := (div_signs hA0 hP a.1 false).1
    have hu : u / 2 ^ (- -(k : Int)).toNat = (if a.1 then -val 4294967296 a.2 else val 4294967296 a.2) / (if false then -2 ^ k else 2 ^ k) := by
      rw [← ha.val, show (- -(k : Int)).toNat = k by omega]; simp
    rw [hs] at hu
    rw [t4] at r2
    have c22 : ∃ x : Bool × List Int, W.whole_Int_Shift.c228677 (decide (val 4294967296 a.2 % 2 ^ k ≠ 0)) a.1 r.1 r.2 Option.some = some (x.1, x.2) ∧ Rep 4294967296 x (u / 2 ^ (- -(k : Int)).toNat) ∧ x.2.length ≤ a.2.length + 400 := by
      unfold W.whole_Int_Shift.c228677
      have c7 : W.whole_Int_Shift.c7 (decide (val 4294967296 a.2 % 2 ^ k ≠ 0)) a.1 Option.some = some (a.1 && decide (val 4294967296 a.2 % 2 ^ k ≠ 0)) := by
        unfold W.whole_Int_Shift.c7
        cases decide (val 4294967296 a.2 % 2 ^ k ≠ 0) <;> cases a.1 <;> rfl
      rw [c7, bnd_val, hu]
      cases ha1 : a.1
      · refine ⟨r, rfl, r2.eq_of ?_, by omega⟩
        simp [ha1]
      · cases hl : decide (val 4294967296 a.2 % 2 ^ k ≠ 0)
        · refine ⟨r, rfl, r2.eq_of ?_, by omega⟩
          simp [ha1]
        · obtain ⟨o, o1, o2, o3⟩ := of_ok (n := 1) (by decide)
          obtain ⟨x, x1, x2, x3⟩ := sub_ok r2 o2 (by omega) (by omega)
          have c8 : W.whole_Int_Shift.c8 r.1 r.2 Option.some = some (x.1, x.2) := by
            unfold W.whole_Int_Shift.c8
            simp only [pair_eta]
            rw [o1, bnd_val, x1, bnd_val]
          refine ⟨x, ?_, x2.eq_of ?_, by omega⟩
          · simp only [Bool.and_self, br_tt]
            rw [c8, bnd_val]
          · simp [ha1]; omega
    obtain ⟨x, x1, x2, x3⟩ := c22
    rw [x1, bnd_val]
    exact ⟨x, rfl, x2, x3⟩
end Go.Ql
end

section
/- The reference's numbers: of a machine's number, division, common divisors, powers of two, shifts. -/
namespace Go.Ql
theorem zof_ok {n : Int} (h : -9223372036854775808 ≤ n ∧ n ≤ 9223372036854775807) :
    ∃ r, W.R_ZOf n = some r ∧ Rep 10000 r n ∧ r.2.length ≤ 5 := by
  unfold W.R_ZOf
  have e : W.R_ZOf.c208197 n (IntKind.u64.wrap n) Option.some = some (n.natAbs : Int) := by
    unfold W.R_ZOf.c208197
    by_cases h0 : n < 0
    · rw [br_pos h0, u64_mod, u64_mod]; congr 1; omega
    · rw [br_neg h0, u64_mod]; congr 1; omega
  rw [e, bnd_val]
  have hB : (0 : Int) < 10000 := by decide
  obtain ⟨⟨u, d⟩, l1, l2, l3, l4⟩ := iter_loop
    (f := fun s : Int × List Int ↦ W.R_ZOf.c100005 (Prod.fst s) (Prod.snd s) Option.some)
    (J := fun s => 0 ≤ s.1 ∧ s.1 < 10000 ^ (5 - s.2.length) ∧ s.2.length ≤ 5 ∧ Dig 10000 s.2 ∧ val 10000 s.2 + 10000 ^ s.2.length * s.1 = (n.natAbs : Int))
    (Q := fun s => s.2.length ≤ 5 ∧ Dig 10000 s.2 ∧ val 10000 s.2 = (n.natAbs : Int))
    (fun s => s.1.toNat) (fun ⟨u, d⟩ ⟨h1, h2, h3, h4, h5⟩ => by
      simp only at h1 h2 h3 h4 h5 ⊢
      unfold W.R_ZOf.c100005
      by_cases h0 : u > 0
      · have hl : d.length ≠ 5 := fun e => by rw [e] at h2; simp at h2; omega
        rw [br_pos h0, tmod_pos h1, tdiv_pos h1, wrap_i64 (by omega), wrap_u64 (by
          have : (10000 : Int) ^ (5 - d.length) ≤ 10000 ^ 5 := pow_le (by decide) (by omega)
          rw [show (10000 : Int) ^ 5 = 100000000000000000000 from rfl] at this
          have h7 : u ≤ (n.natAbs : Int) := by
            have : 1 * u ≤ 10000 ^ d.length * u := Int.mul_le_mul_of_nonneg_right (by have := pow_pos hB d.length; omega) h1
            have := val_nonneg (B := 10000) (by decide) h4
            omega
          omega), okIf_true (by simp; omega), bnd_val]
        refine Or.inr ⟨(_, _), rfl, ⟨by simp only; omega, ?_, by simp; omega, h4.append (Dig.cons (by omega) Dig.nil), ?_⟩, by simp only; omega⟩
        · simp only [List.length_append, List.length_cons, List.length_nil]
          have e5 : 5 - d.length = (5 - (d.length + (0 + 1))) + 1 := by omega
          rw [e5, Int.pow_succ] at h2
          omega
        · simp only [List.length_append, List.length_cons, List.length_nil]
          rw [val_snoc, Int.pow_succ, ← h5]
          have : u = 10000 * (u / 10000) + u % 10000 := by omega
          generalize u / 10000 = q at *
          generalize u % 10000 = r at *
          subst this
          grind
      · rw [br_neg h0]
        have : u = 0 := by omega
        subst this
        exact Or.inl ⟨(_, _), rfl, h3, h4, by simpa using h5⟩)
    (s := ((n.natAbs : Int), [])) ⟨by simp, by simp only [List.length_nil]; rw [show (10000 : Int) ^ (5 - 0) = 100000000000000000000 from rfl]; omega, by simp, Dig.nil, by simp [val]⟩
  simp only at l2 l3 l4
  obtain ⟨r, r1, r2, r3⟩ := zmade_ok (B := 10000) (decide (n < 0)) d l3 (by omega)
  rw [l1, bnd_val, r1]
  refine ⟨r, rfl, r2.eq_of ?_, by omega⟩
  rw [l4]
  by_cases h0 : n < 0
  · rw [if_pos (decide_eq_true h0)]; omega
  · rw [if_neg (by simpa using h0)]; omega
theorem zhalve_ok {b r : Bool × List Int} {V R : Int} (hb : Rep 10000 b V) (hr : Rep 10000 r R) (lb : b.2.length < 1000000) (lr : r.2.length < 1000000) (hV : 0 < V) {h : Int} (h0 : 1 ≤ h ∧ h ≤ 10000) (hR0 : 0 ≤ R) (hR : R < V * h) :
    ∃ g : Int, iter (fun s : Int × Int ↦ W.R_ZDiv.c100013 (Prod.fst s) (Prod.snd s) b.1 b.2 r.1 r.2 Option.some) ((0 : Int), h) = some (g, g + 1) ∧ 0 ≤ g ∧ g < 10000 ∧ V * g ≤ R ∧ R < V * (g + 1) := by
  obtain ⟨⟨g, g'⟩, l1, l2, l3, l4, l5, l6⟩ := iter_loop
    (f := fun s : Int × Int ↦ W.R_ZDiv.c100013 (Prod.fst s) (Prod.snd s) b.1 b.2 r.1 r.2 Option.some)
    (J := fun s => 0 ≤ s.1 ∧ s.1 < s.2 ∧ s.2 ≤ 10000 ∧ V * s.1 ≤ R ∧ R < V * s.2)
    (Q := fun s => s.2 = s.1 + 1 ∧ 0 ≤ s.1 ∧ s.1 < 10000 ∧ V * s.1 ≤ R ∧ R < V * s.2)
    (fun s => (s.2 - s.1).toNat) (fun ⟨l, g⟩ ⟨h1, h2, h3, h4, h5⟩ => by
      simp only at h1 h2 h3 h4 h5 ⊢
      unfold W.R_ZDiv.c100013
      rw [wrap_i64 (x := g - l) (by omega), wrap_i64 (x := l + g) (by omega)]
      by_cases hc : g - l > 1
      · rw [br_pos hc, tdiv_pos (by omega), wrap_i64 (by omega)]
        obtain ⟨o, o1, o2, o3⟩ := zof_ok (n := (l + g) / 2) (by omega)
        obtain ⟨m, m1, m2, m3⟩ := zmul_ok hb o2 (by omega) (by omega)
        have c15 : W.R_ZDiv.c15 ((l + g) / 2) b.1 b.2 r.1 r.2 Option.some = some (decide (V * ((l + g) / 2) ≤ R)) := by
          unfold W.R_ZDiv.c15
          simp only [pair_eta]
          rw [o1, bnd_val, m1, bnd_val, zcmp_ok m2 hr (by omega) (by omega), bnd_val]
          congr 1
          rw [decide_eq_decide]
          unfold sgn
          split
          · omega
          · split <;> omega
        rw [c15, bnd_val]
        by_cases hd : V * ((l + g) / 2) ≤ R
        · rw [br_pos hd]
          exact Or.inr ⟨(_, _), rfl, ⟨by simp only; omega, by simp only; omega, h3, hd, h5⟩, by simp only; omega⟩
        · rw [br_neg hd]
          exact Or.inr ⟨(_, _), rfl, ⟨h1, by simp only; omega, by simp only; omega, h4, by simp only; omega⟩, by simp only; omega⟩
      · rw [br_neg hc]
        exact Or.inl ⟨(_, _), rfl, by simp only; omega, h1, by simp only; omega, h4, h5⟩)
    (s := ((0 : Int), h)) ⟨by simp, by simp only; omega, h0.2, by simpa using hR0, hR⟩
  simp only at l2 l3 l4 l5 l6
  subst l2
  exact ⟨g, l1, l3, l4, l5, l6⟩
theorem zdiv_ok {a b : Bool × List Int} {u v : Int} (ha : Rep 10000 a u) (hb : Rep 10000 b v) (la : a.2.length < 100000) (lb : b.2.length < 100000) (hv : v ≠ 0) :
    ∃ q r, W.R_ZDiv a b = some (q, r, 0, 0) ∧ Rep 10000 q (u / v) ∧ Rep 10000 r (u % v) ∧ q.2.length ≤ a.2.length + 6 ∧ r.2.length ≤ b.2.length := by
  have hB : (1 : Int) < 10000 := by decide
  have hbn : b.2 ≠ [] := fun e => hv ((hb.zero_iff hB).1 e)
  have hbl : b.2.length ≠ 0 := fun e => hbn (List.eq_nil_of_length_eq_zero e)
  have hVp := hb.pos hB hbn
  have hA0 := val_nonneg (B := 10000) (by decide) ha.dig
  obtain ⟨w, w1, w2, w3⟩ := zmade_ok (B := 10000) false b.2 hb.dig (by omega)
  rw [if_neg (by simp)] at w2
  have hwv := w2.absval (by decide)
  obtain ⟨⟨j, r0, r1, t⟩, l1, R, l2, l3, l4, l5, l6, l7⟩ := iter_loop
    (f := fun s : Int × Bool × List Int × List Int ↦ W.R_ZDiv.c100007 (Prod.fst s) a.2 w.1 w.2 (Prod.fst (Prod.snd s)) (Prod.fst (Prod.snd (Prod.snd s))) (Prod.snd (Prod.snd (Prod.snd s))) Option.some)
    (J := fun s => ∃ (k : Nat) (R : Int), s.1 = (k : Int) - 1 ∧ k ≤ a.2.length ∧ Rep 10000 (s.2.1, s.2.2.1) R ∧ 0 ≤ R ∧ R < val 10000 b.2 ∧ Dig 10000 s.2.2.2 ∧ s.2.2.2.length = a.2.length ∧ (∀ x, x < k → s.2.2.2.getD x 0 = 0) ∧
      val 10000 a.2 = val 10000 (a.2.take k) + val 10000 b.2 * val 10000 s.2.2.2 + 10000 ^ k * R)
    (Q := fun s => ∃ R : Int, Rep 10000 (s.2.1, s.2.2.1) R ∧ 0 ≤ R ∧ R < val 10000 b.2 ∧ Dig 10000 s.2.2.2 ∧ s.2.2.2.length = a.2.length ∧ val 10000 a.2 = val 10000 b.2 * val 10000 s.2.2.2 + R)
    (fun s => (s.1 + 1).toNat) (fun ⟨j', r0, r1, t⟩ ⟨k, R, k1, k2, k3, k4, k5, k6, k7, k8, k9⟩ => by
      simp only at k1 k2 k3 k4 k5 k6 k7 k8 k9 ⊢
      subst k1
      unfold W.R_ZDiv.c100007
      cases k with
      | zero =>
        rw [br_neg (by omega)]
        exact Or.inl ⟨_, rfl, R, k3, k4, k5, k6, k7, by simpa [val] using k9⟩
      | succ k =>
        rw [show ((k + 1 : Nat) : Int) - 1 = (k : Int) by omega, br_pos (by omega)]
        have hx := ha.dig.getD (by decide) k
        have htk := val_take_succ 10000 k a.2
        have hrl : r1.length ≤ b.2.length := by
          have := Rep.short hB k3 w2 (by omega)
          simp only at this; omega
        have hrv := k3.absval (by decide)
        simp only at hrv
        obtain ⟨y, y1, y2, y3⟩ := zmade_ok (B := 10000) false ([a.2.getD k 0] ++ r1) (Dig.append (Dig.cons hx Dig.nil) k3.dig) (by simp; omega)
        rw [if_neg (by simp)] at y2
        have c9 : W.R_ZDiv.c9 (k : Int) a.2 r1 Option.some = some (y.1, y.2) := by
          unfold W.R_ZDiv.c9
          rw [idx_of k rfl (by omega), bnd_val, okIf_true (by simp; omega), bnd_val, y1, bnd_val]
        have hyR : val 10000 ([a.2.getD k 0] ++ r1) = a.2.getD k 0 + 10000 * R := by
          show a.2.getD k 0 + 10000 * val 10000 r1 = _
          rw [hrv]; omega
        rw [hyR] at y2
        simp only [List.length_append, List.length_cons, List.length_nil] at y3
        obtain ⟨c, o1, o2⟩ := dcmp_ok y.2 w.2 y2.dig w2.dig y2.last w2.last (by omega) (by omega)
        rw [y2.absval (by decide), w2.absval (by decide)] at o2
        obtain ⟨h, h1, h2, h3⟩ : ∃ h : Int, W.R_ZDiv.c245061 10000 w.2 y.2 Option.some = some h ∧ (1 ≤ h ∧ h ≤ 10000) ∧ a.2.getD k 0 + 10000 * R < val 10000 b.2 * h := by
          unfold W.R_ZDiv.c245061
          rw [o1, bnd_val]
          by_cases hc : c < 0
          · rw [br_pos hc]
            refine ⟨1, rfl, by decide, ?_⟩
            rcases o2 with o | o | o <;> omega
          · rw [br_neg hc]
            exact ⟨10000, rfl, by decide, by omega⟩
        obtain ⟨g, g1, g2, g3, g4, g5⟩ := zhalve_ok w2 y2 (by omega) (by omega) hVp h2 (by omega) h3
        obtain ⟨o, p1, p2, p3⟩ := zof_ok (n := g) (by omega)
        obtain ⟨m, m1, m2, m3⟩ := zmul_ok w2 p2 (by omega) (by omega)
        obtain ⟨z, z1, z2, z3⟩ := zsub_ok y2 m2 (by omega) (by omega)
        have c19 : W.R_ZDiv.c19 g w.1 w.2 y.1 y.2 Option.some = some (z.1, z.2) := by
          unfold W.R_ZDiv.c19
          simp only [pair_eta]
          rw [p1, bnd_val, m1, bnd_val, z1, bnd_val]
        rw [c9, bnd_val, h1, bnd_val, g1, bnd_val, inR_of (by omega) (by omega), bnd_val, idx_of k rfl (by omega), bnd_val, c19, bnd_val, wrap_i64 (by omega), Int.toNat_natCast]
        refine Or.inr ⟨_, rfl, ⟨k, a.2.getD k 0 + 10000 * R - val 10000 b.2 * g, rfl, by omega, z2, by omega, by rw [Int.mul_add] at g5; omega, k6.set ⟨g2, g3⟩ k, by simp only [List.length_set]; exact k7, fun x hx => ?_, ?_⟩, by simp only; omega⟩
        · simp only
          rw [getD_set (by omega), if_neg (by omega)]
          exact k8 x (by omega)
        · simp only
          rw [val_set _ _ _ _ (by omega), k8 k (by omega), k9, htk, Int.pow_succ]
          generalize (10000 : Int) ^ k = P at *
          grind)
    (s := ((a.2.length : Int) - 1, false, [], List.replicate a.2.length 0))
    ⟨a.2.length, 0, rfl, Nat.le_refl _, Rep.nil, by simp, hVp, Dig.replicate (by decide) _, by simp, fun x _ => getD_replicate _ _, by simp [val_replicate]⟩
  simp only at l2 l3 l4 l5 l6 l7
  obtain ⟨e1, e2⟩ := ediv_unique hVp l7 l3 l4
  obtain ⟨z, z1, z2, z3⟩ := zmade_ok (B := 10000) false t l5 (by omega)
  rw [if_neg (by simp)] at z2
  rw [← e1] at z2
  rw [← e2] at l2
  have hrl : r1.length ≤ b.2.length := by
    have := Rep.short hB l2 w2 (by omega)
    simp only at this; omega
  have hq0 : 0 ≤ val 10000 a.2 / val 10000 b.2 := Int.ediv_nonneg hA0 (by omega)
  have c28 : ∃ q' r' : Bool × List Int, W.R_ZDiv.c286023 a.1 w.1 w.2 r0 r1 z.1 z.2 Option.some = some (r'.1, r'.2, q'.1, q'.2) ∧
      Rep 10000 q' (if a.1 && decide (val 10000 a.2 % val 10000 b.2 ≠ 0) then val 10000 a.2 / val 10000 b.2 + 1 else val 10000 a.2 / val 10000 b.2) ∧
      Rep 10000 r' (if a.1 && decide (val 10000 a.2 % val 10000 b.2 ≠ 0) then val 10000 b.2 - val 10000 a.2 % val 10000 b.2 else val 10000 a.2 % val 10000 b.2) ∧ q'.2.length ≤ a.2.length + 6 := by
    unfold W.R_ZDiv.c286023
    have c21 : W.R_ZDiv.c21 a.1 r1 Option.some = some (a.1 && decide (val 10000 a.2 % val 10000 b.2 ≠ 0)) := by
      unfold W.R_ZDiv.c21
      cases ha1 : a.1
      · rfl
      · rw [br_tt]
        congr 1
        rw [Bool.true_and, decide_eq_decide]
        exact l2.pos_of hB
    rw [c21, bnd_val]
    cases hc : (a.1 && decide (val 10000 a.2 % val 10000 b.2 ≠ 0))
    · rw [br_ff]
      simp only [Bool.false_eq_true, if_false]
      exact ⟨z, (r0, r1), rfl, z2, l2, by omega⟩
    · rw [br_tt]
      simp only [if_true]
      obtain ⟨o, o1, o2, o3⟩ := zof_ok (n := 1) (by decide)
      obtain ⟨x, x1, x2, x3⟩ := zadd_ok z2 o2 (by omega) (by omega)
      obtain ⟨y, y1, y2, y3⟩ := zsub_ok w2 l2 (by omega) (by simp only; omega)
      have c22 : W.R_ZDiv.c22 z.1 z.2 Option.some = some (x.1, x.2) := by
        unfold W.R_ZDiv.c22
        simp only [pair_eta]
        rw [o1, bnd_val, x1, bnd_val]
      rw [c22, bnd_val]
      simp only [pair_eta]
      rw [y1, bnd_val]
      exact ⟨x, y, rfl, x2, y2, by omega⟩
  obtain ⟨q', r', f1, f2, f3, f4⟩ := c28
  have hq' : val 10000 q'.2 = (if a.1 && decide (val 10000 a.2 % val 10000 b.2 ≠ 0) then val 10000 a.2 / val 10000 b.2 + 1 else val 10000 a.2 / val 10000 b.2) := by
    rw [f2.absval (by decide)]
    split <;> omega
  obtain ⟨x, x1, x2, x3⟩ := zmade_ok (B := 10000) (!a.1 == b.1) q'.2 f2.dig (by omega)
  obtain ⟨g1, g2⟩ := div_signs hA0 hVp a.1 b.1
  have hr' : Rep 10000 r' (u % v) := f3.eq_of (by rw [ha.val, hb.val, g2])
  unfold W.R_ZDiv
  rw [show ((b.2.length : Int) == 0) = false by simp; omega, br_ff, w1, bnd_val, okIf_true (by simp; omega), bnd_val, wrap_i64 (by omega), Int.toNat_natCast, l1, bnd_val]
  simp only
  rw [z1, bnd_val, f1, bnd_val]
  simp only
  have c24 : W.R_ZDiv.c24 a.1 b.1 q'.2 Option.some = some (x.1, x.2) := by
    unfold W.R_ZDiv.c24
    rw [x1, bnd_val]
  rw [c24, bnd_val]
  refine ⟨x, r', rfl, x2.eq_of ?_, hr', by omega, Rep.short hB hr' hb (Nat.le_of_lt (mod_less u hv))⟩
  rw [ha.val, hb.val, g1, hq']
  cases a.1 <;> cases b.1 <;> rfl
theorem zdiv_zero {a b : Bool × List Int} (hb : Rep 10000 b 0) : W.R_ZDiv a b = some ((false, []), (false, []), 4, 0) := by
  have := (hb.zero_iff (by decide)).2 rfl
  unfold W.R_ZDiv
  rw [this]
  rfl
theorem zgcd_ok {a b : Bool × List Int} {u v : Int} (ha : Rep 10000 a u) (hb : Rep 10000 b v) {L : Nat} (la : a.2.length ≤ L) (lb : b.2.length ≤ L) (hL : L < 100000) :
    ∃ r, W.R_ZGcd a b = some r ∧ Rep 10000 r (Int.gcd u v : Int) ∧ r.2.length ≤ L := by
  have hB : (1 : Int) < 10000 := by decide
  obtain ⟨⟨x0, x1, y0, y1⟩, l1, w, l2, l3, l4⟩ := iter_loop
    (f := fun s : Bool × List Int × Bool × List Int ↦ W.R_ZGcd.c100001 (Prod.fst s) (Prod.fst (Prod.snd s)) (Prod.fst (Prod.snd (Prod.snd s))) (Prod.snd (Prod.snd (Prod.snd s))) Option.some)
    (J := fun s => ∃ p q : Int, Rep 10000 (s.1, s.2.1) p ∧ Rep 10000 (s.2.2.1, s.2.2.2) q ∧ Int.gcd p q = Int.gcd u v ∧ s.2.1.length ≤ L ∧ s.2.2.2.length ≤ L)
    (Q := fun s => ∃ w : Int, Rep 10000 (s.1, s.2.1) w ∧ w.natAbs = Int.gcd u v ∧ s.2.1.length ≤ L)
    (fun s => (val 10000 s.2.2.2).toNat) (fun ⟨x0, x1, y0, y1⟩ ⟨p, q, h1, h2, h3, h4, h5⟩ => by
      simp only at h1 h2 h3 h4 h5 ⊢
      have hq := h2.pos_of hB
      simp only at hq
      unfold W.R_ZGcd.c100001
      by_cases h0 : q = 0
      · rw [br_neg (fun h => hq.1 h h0)]
        subst h0
        exact Or.inl ⟨_, rfl, p, h1, by rw [← h3]; simp, h4⟩
      · rw [br_pos (hq.2 h0)]
        obtain ⟨d, r, d1, d2, d3, d4, d5⟩ := zdiv_ok h1 h2 (by simp only; omega) (by simp only; omega) h0
        rw [d1, bnd_val]
        refine Or.inr ⟨_, rfl, ⟨q, p % q, h2, d3, by rw [gcd_step, h3], h5, by simp only at d5 ⊢; omega⟩, ?_⟩
        have e1 := d3.absval (by decide)
        have e2 := h2.absval (by decide)
        have := mod_less p h0
        simp only at e1 e2 ⊢
        omega)
    (s := (a.1, a.2, b.1, b.2)) ⟨u, v, ha, hb, rfl, la, lb⟩
  simp only at l2 l4
  obtain ⟨r, r1, r2, r3⟩ := zmade_ok (B := 10000) false x1 l2.dig (by omega)
  unfold W.R_ZGcd
  rw [l1, bnd_val, r1]
  rw [if_neg (by simp), l2.absval (by decide), l3] at r2
  exact ⟨r, rfl, r2, by omega⟩
/-- A number below a power of two has few places. -/
theorem Rep.few {B : Int} (hB : 1 < B) {x : Bool × List Int} {e : Nat} (h : Rep B x (2 ^ e)) : x.2.length ≤ e + 1 := by
  have h2 : (0 : Int) < 2 ^ e := Int.pow_pos (by decide)
  have hn : x.2 ≠ [] := fun h0 => by have := (h.zero_iff hB).1 h0; omega
  have h1 := val_ge hB h.dig h.last hn
  rw [h.absval (by omega)] at h1
  rcases Nat.lt_or_ge e (x.2.length - 1) with hc | hc
  · have h3 : (2 : Int) ^ (x.2.length - 1) ≤ B ^ (x.2.length - 1) := by
      have : ∀ k : Nat, (2 : Int) ^ k ≤ B ^ k := by
        intro k
        induction k with
        | zero => simp
        | succ k ih =>
          rw [Int.pow_succ, Int.pow_succ]
          exact Int.mul_le_mul ih (by omega) (by decide) (Int.le_of_lt (pow_pos (by omega) k))
      exact this _
    have h4 : (2 : Int) ^ (e + 1) ≤ 2 ^ (x.2.length - 1) := pow_le (by decide) (by omega)
    rw [Int.pow_succ] at h4
    omega
  · omega
theorem zpow2_ok (n : Nat) (hn : n ≤ 10000) : ∃ r, W.R_ZPow2 (n : Int) = some r ∧ Rep 10000 r (2 ^ n) ∧ r.2.length ≤ n + 1 := by
  have hB : (1 : Int) < 10000 := by decide
  obtain ⟨o, o1, o2, o3⟩ := zof_ok (n := 1) (by decide)
  obtain ⟨t, t1, t2, t3⟩ := zof_ok (n := 2) (by decide)
  obtain ⟨⟨m, x0, x1, y0, y1⟩, l1, l2⟩ := iter_loop
    (f := fun s : Int × Bool × List Int × Bool × List Int ↦ W.R_ZPow2.c100003 (Prod.fst s) (Prod.fst (Prod.snd s)) (Prod.fst (Prod.snd (Prod.snd s))) (Prod.fst (Prod.snd (Prod.snd (Prod.snd s)))) (Prod.snd (Prod.snd (Prod.snd (Prod.snd s)))) Option.some)
    (J := fun s => ∃ m e f : Nat, s.1 = m ∧ m ≤ n ∧ Rep 10000 (s.2.1, s.2.2.1) (2 ^ f) ∧ Rep 10000 (s.2.2.2.1, s.2.2.2.2) (2 ^ e) ∧ f + e * m = n)
    (Q := fun s => Rep 10000 (s.2.1, s.2.2.1) (2 ^ n))
    (fun s => s.1.toNat) (fun ⟨m', x0, x1, y0, y1⟩ ⟨m, e, f, h1, hm, h2, h3, h4⟩ => by
      simp only at h1 h2 h3 h4 ⊢
      subst h1
      unfold W.R_ZPow2.c100003
      by_cases h0 : (m : Int) > 0
      · have he : e * 1 ≤ e * m := Nat.mul_le_mul_left e (by omega)
        have hx := h2.few hB
        have hy := h3.few hB
        simp only at hx hy
        rw [br_pos h0]
        obtain ⟨p, p1, p2, p3⟩ := zmul_ok h3 h3 (by simp only; omega) (by simp only; omega)
        rw [← Int.pow_add] at p2
        have c : ∃ z : Bool × List Int, W.R_ZPow2.c216389 (m : Int) x0 x1 y0 y1 Option.some = some (z.1, z.2) ∧ Rep 10000 z (2 ^ (f + e * (m % 2))) := by
          unfold W.R_ZPow2.c216389
          rw [tmod_pos (by omega)]
          by_cases hm : m % 2 = 1
          · obtain ⟨z, z1, z2, z3⟩ := zmul_ok h2 h3 (by simp only; omega) (by simp only; omega)
            rw [show ((m : Int) % 2 == 1) = true by simp; omega, br_tt, z1, bnd_val]
            rw [← Int.pow_add] at z2
            exact ⟨z, rfl, by rw [hm, Nat.mul_one]; exact z2⟩
          · rw [show ((m : Int) % 2 == 1) = false by simp; omega, br_ff]
            exact ⟨(x0, x1), rfl, by rw [show m % 2 = 0 by omega]; exact h2⟩
        obtain ⟨z, z1, z2⟩ := c
        rw [z1, bnd_val, p1, bnd_val, tdiv_pos (by omega), wrap_i64 (by omega)]
        refine Or.inr ⟨_, rfl, ⟨m / 2, e + e, f + e * (m % 2), by simp only; omega, by omega, z2, p2, ?_⟩, by simp only; omega⟩
        have : e * m = e * (2 * (m / 2) + m % 2) := by rw [Nat.div_add_mod]
        rw [Nat.mul_add] at this
        rw [← h4, this, Nat.add_mul, ← Nat.two_mul, ← Nat.mul_assoc e 2, Nat.mul_comm e 2, Nat.mul_assoc]
        omega
      · rw [br_neg h0]
        have : m = 0 := by omega
        subst this
        refine Or.inl ⟨_, rfl, ?_⟩
        simp only
        rw [← h4]
        simpa using h2)
    (s := ((n : Int), o.1, o.2, t.1, t.2)) ⟨n, 1, 0, rfl, Nat.le_refl _, o2.eq_of (by simp), t2.eq_of (by simp), by omega⟩
  simp only at l2
  unfold W.R_ZPow2
  rw [o1, bnd_val, t1, bnd_val, l1, bnd_val]
  exact ⟨(x0, x1), rfl, l2, l2.few hB⟩
theorem zshift_ok {a : Bool × List Int} {u : Int} (ha : Rep 10000 a u) (la : a.2.length < 80000) (n : Int) :
    (n < -10000 ∨ n > 10000 → W.R_ZShift a n = some ((false, []), 5, 0)) ∧
    (0 ≤ n ∧ n ≤ 10000 → ∃ r, W.R_ZShift a n = some (r, 0, 0) ∧ Rep 10000 r (u * 2 ^ n.toNat) ∧ r.2.length ≤ a.2.length + 10010) ∧
    (-10000 ≤ n ∧ n < 0 → ∃ r, W.R_ZShift a n = some (r, 0, 0) ∧ Rep 10000 r (u / 2 ^ (-n).toNat) ∧ r.2.length ≤ a.2.length + 10010) := by
  have c1 : W.R_ZShift.c1 n Option.some = some (decide (n < -10000 ∨ n > 10000)) := by
    unfold W.R_ZShift.c1
    by_cases h : n < -10000
    · rw [br_pos h, decide_eq_true (Or.inl h)]
    · rw [br_neg h]; congr 1; rw [decide_eq_decide]; omega
  unfold W.R_ZShift
  rw [c1, bnd_val]
  refine ⟨fun h => by rw [br_pos h], fun h => ?_, fun h => ?_⟩
  · rw [br_neg (by omega), br_pos (by omega)]
    obtain ⟨k, rfl⟩ : ∃ k : Nat, n = k := ⟨n.toNat, by omega⟩
    obtain ⟨p, p1, p2, p3⟩ := zpow2_ok k (by omega)
    obtain ⟨r, r1, r2, r3⟩ := zmul_ok ha p2 (by omega) (by omega)
    have c4 : W.R_ZShift.c4 (k : Int) a.1 a.2 Option.some = some (r.1, r.2) := by
      unfold W.R_ZShift.c4
      simp only [pair_eta]
      rw [p1, bnd_val, r1, bnd_val]
    rw [c4, bnd_val]
    exact ⟨r, rfl, by rw [Int.toNat_natCast]; exact r2, by omega⟩
  · rw [br_neg (by omega), br_neg (by omega)]
    obtain ⟨k, rfl⟩ : ∃ k : Nat, n = -(k : Int) := ⟨(-n).toNat, by omega⟩
    obtain ⟨p, p1, p2, p3⟩ := zpow2_ok k (by omega)
    have hP : (0 : Int) < 2 ^ k := Int.pow_pos (by decide)
    obtain ⟨q, r, r1, r2, r3, r4, r5⟩ := zdiv_ok ha p2 (by omega) (by omega) (by omega)
    have c5 : W.R_ZShift.c5 (-(k : Int)) a.1 a.2 Option.some = some (q.1, q.2, r.1, r.2, 0, 0) := by
      unfold W.R_ZShift.c5
      simp only [pair_eta]
      rw [wrap_i64 (by omega), show (0 : Int) - -(k : Int) = k by omega, p1, bnd_val, r1, bnd_val]
    rw [c5, bnd_val]
    exact ⟨q, rfl, by rw [show (- -(k : Int)).toNat = k by omega]; exact r2, by omega⟩
end Go.Ql
end

section
/- Quotients, common divisors, shifts: the law. -/
namespace Go.Ql
theorem shifts_ok {a b : Bool × List Int} {u : Int} (ha : Rep 4294967296 a u) (hb : Rep 10000 b u) (la : a.2.length < 50000) (lb : b.2.length < 50000) (n : Int) :
    ∃ x z f v, W.whole_Int_Shift a n = some (x, f) ∧ W.R_ZShift b n = some (z, f) ∧ Rep 4294967296 x v ∧ Rep 10000 z v ∧ x.2.length ≤ a.2.length + 10010 ∧ z.2.length ≤ b.2.length + 10010 := by
  obtain ⟨s1, s2, s3⟩ := shift_ok ha (by omega) n
  obtain ⟨t1, t2, t3⟩ := zshift_ok hb (by omega) n
  by_cases h1 : n < -10000 ∨ n > 10000
  · exact ⟨_, _, _, 0, s1 h1, t1 h1, Rep.nil, Rep.nil, by simp, by simp⟩
  · by_cases h2 : 0 ≤ n
    · obtain ⟨r, r1, r2, r3⟩ := s2 (by omega)
      obtain ⟨q, q1, q2, q3⟩ := t2 (by omega)
      exact ⟨r, q, (0, 0), _, r1, q1, r2, q2, by omega, by omega⟩
    · obtain ⟨r, r1, r2, r3⟩ := s3 (by omega)
      obtain ⟨q, q1, q2, q3⟩ := t3 (by omega)
      exact ⟨r, q, (0, 0), _, r1, q1, r2, q2, by omega, by omega⟩
theorem divs_ok {a b : Bool × List Int} {c d : Bool × List Int} {u v : Int} (ha : Rep 4294967296 a u) (hb : Rep 4294967296 b v) (hc : Rep 10000 c u) (hd : Rep 10000 d v)
    (la : a.2.length < 50000) (lb : b.2.length < 50000) (lc : c.2.length < 50000) (ld : d.2.length < 50000) :
    ∃ q r s t f x y, W.whole_Int_Div a b = some (q, r, f) ∧ W.R_ZDiv c d = some (s, t, f) ∧ Rep 4294967296 q x ∧ Rep 4294967296 r y ∧ Rep 10000 s x ∧ Rep 10000 t y ∧
      q.2.length ≤ a.2.length + 6 ∧ r.2.length ≤ b.2.length ∧ s.2.length ≤ c.2.length + 6 ∧ t.2.length ≤ d.2.length := by
  by_cases h : v = 0
  · subst h
    exact ⟨_, _, _, _, _, 0, 0, idiv_zero hb, zdiv_zero hd, Rep.nil, Rep.nil, Rep.nil, Rep.nil, by simp, by simp, by simp, by simp⟩
  · obtain ⟨q, r, e1, e2, e3, e4, e5⟩ := idiv_ok ha hb (by omega) (by omega) h
    obtain ⟨s, t, f1, f2, f3, f4, f5⟩ := zdiv_ok hc hd (by omega) (by omega) h
    exact ⟨q, r, s, t, (0, 0), _, _, e1, f1, e2, e3, f2, f3, by omega, e5, by omega, f5⟩
theorem divides_law (text other : List UInt8) (n : Int) (ht : text.length ≤ 9223372036854775807) (ho : other.length ≤ 9223372036854775807) : W.Law_WholeDivides text other n = some true := by
  obtain ⟨x, z, u, f, h1, h2, h3, h4, h5, h6⟩ := parse_ok text ht
  obtain ⟨y, w, v, g, k1, k2, k3, k4, k5, k6⟩ := parse_ok other ho
  unfold W.Law_WholeDivides
  rw [h1, k1, h2, k2]
  simp only [bnd_val, pair_eta]
  have c5 : W.Law_WholeDivides.c5 f.1 f.2 g.1 g.2 f.1 f.2 g.1 g.2 some = some false := by
    unfold W.Law_WholeDivides.c5
    rw [begun_ok, bnd_val, pair_eta, pair_eta, eqT_ff, eqT_ff]; rfl
  obtain ⟨q, r, s, t, e, p, o, d1, d2, d3, d4, d5, d6, d7, d8, d9, d10⟩ := divs_ok h3 k3 h4 k4 (by omega) (by omega) (by omega) (by omega)
  obtain ⟨i, j, l, m, s1, s2, s3, s4, s5, s6⟩ := shifts_ok h3 h4 (by omega) (by omega) n
  obtain ⟨gi, a1, a2, a3⟩ := igcd_ok h3 k3 (L := 1000) (by omega) (by omega) (by omega)
  obtain ⟨gz, b1, b2, b3⟩ := zgcd_ok h4 k4 (L := 1000) (by omega) (by omega) (by omega)
  obtain ⟨t1, t11, t12⟩ := tt_ok d3 d5 (by omega) (by omega)
  obtain ⟨t2, t21, t22⟩ := tt_ok d4 d6 (by omega) (by omega)
  obtain ⟨t3, t31, t32⟩ := tt_ok a2 b2 (by omega) (by omega)
  obtain ⟨t4, t41, t42⟩ := tt_ok s3 s4 (by omega) (by omega)
  rw [c5, bnd_val, br_ff, d1, bnd_val, d2, bnd_val]
  simp only [pair_eta]
  have c9 : W.Law_WholeDivides.c9 x.1 x.2 e.1 e.2 y.1 y.2 z.1 z.2 e.1 e.2 w.1 w.2 q.1 q.2 r.1 r.2 s.1 s.2 t.1 t.2 some = some false := by
    unfold W.Law_WholeDivides.c9
    simp only [pair_eta, eqT_ff, a1, b1, t11, t12, t21, t22, t31, t32, bnd_val, beq_self_eq_true, Bool.not_true, br_ff]
  rw [c9, bnd_val, br_ff, s1, bnd_val, s2, bnd_val]
  simp only
  have c13 : W.Law_WholeDivides.c13 l.1 l.2 l.1 l.2 i.1 i.2 j.1 j.2 some = some true := by
    unfold W.Law_WholeDivides.c13
    simp only [pair_eta, eqT_ff, t41, t42, bnd_val, beq_self_eq_true, br_tt]
  rw [c13, bnd_val]
end Go.Ql
end

section
/- How a number's text is read: what is read, and that what is written is read again. -/
namespace Go.Ql
/-- The length of the longest beginning with which a number begins, and whether it is a number. -/
def numLen (sg : Bool) (text : List UInt8) : Nat × Bool :=
  let i := if sg && (text.head? == some 45) then 1 else 0
  if (text.drop i).head? == some 48 then (if sg && i == 0 then (1, true) else (i, false))
  else (i + ((text.drop i).takeWhile isDigit).length, decide (0 < ((text.drop i).takeWhile isDigit).length))
theorem tw_le (p : UInt8 → Bool) (l : List UInt8) : (l.takeWhile p).length ≤ l.length := (List.takeWhile_sublist p).length_le
theorem digits_loop (text : List UInt8) (i : Nat) (hi : i ≤ text.length) (hL : text.length ≤ 9223372036854775807) :
    iter (fun s ↦ W.R_word.c100010 text s Option.some) (i : Int) = some ((i + ((text.drop i).takeWhile isDigit).length : Nat) : Int) := by
  obtain ⟨k, h1, h2⟩ := iter_loop (f := fun s ↦ W.R_word.c100010 text s Option.some)
    (J := fun s => ∃ k : Nat, s = k ∧ k ≤ text.length ∧ i + ((text.drop i).takeWhile isDigit).length = k + ((text.drop k).takeWhile isDigit).length)
    (Q := fun s : Int => s = ((i + ((text.drop i).takeWhile isDigit).length : Nat) : Int))
    (fun s => text.length - s.toNat) (fun s ⟨k, hs, hk, hd⟩ => by
      subst hs
      simp only [W.R_word.c100010]
      have e : W.R_word.c10 text (k : Int) Option.some = some (if h : k < text.length then isDigit text[k] else false) := by
        unfold W.R_word.c10
        by_cases h : k < text.length
        · rw [br_pos (by omega), idx_text text k h, bnd_val, bnd_val, dif_pos h]
          unfold isDigit
          by_cases h5 : (48 : Nat) ≤ text[k].toNat
          · rw [br_pos (by omega)]; simp [h5]; omega
          · rw [br_neg (by omega)]; simp [h5]
        · rw [br_neg (by omega), dif_neg h]
      rw [e, bnd_val]
      by_cases h : k < text.length
      · have hdr : text.drop k = text[k] :: text.drop (k + 1) := List.drop_eq_getElem_cons h
        rw [dif_pos h]
        by_cases h5 : isDigit text[k] = true
        · rw [h5, br_tt]
          refine Or.inr ⟨((k + 1 : Nat) : Int), by rw [wrap_i64 (by omega)]; rfl, ⟨k + 1, rfl, by omega, ?_⟩, by omega⟩
          rw [hd, hdr, List.takeWhile_cons_of_pos h5, List.length_cons]; omega
        · rw [eq_false_of_ne_true h5, br_ff]
          refine Or.inl ⟨_, rfl, ?_⟩
          rw [hd, hdr, List.takeWhile_cons_of_neg h5]; simp
      · rw [dif_neg h, br_ff]
        refine Or.inl ⟨_, rfl, ?_⟩
        rw [hd, List.drop_eq_nil_of_le (by omega)]; simp)
    (s := (i : Int)) ⟨i, rfl, hi, rfl⟩
  rw [h1, h2]
theorem number_ok (sg : Bool) (text : List UInt8) (hL : text.length ≤ 9223372036854775807) :
    W.whole_number text sg = some (((numLen sg text).1 : Int), (numLen sg text).2) ∧ W.R_word text sg sg = some (((numLen sg text).1 : Int), (numLen sg text).2) := by
  obtain ⟨i, hi0⟩ : ∃ i : Nat, (if sg && (text.head? == some 45) then 1 else 0) = i := ⟨_, rfl⟩
  have hi : i ≤ text.length := by
    rw [← hi0]
    split
    · rename_i h
      cases text with
      | nil => simp at h
      | cons => simp
    · omega
  have hi1 : i ≤ 1 := by rw [← hi0]; split <;> omega
  have e1 : W.whole_number.c208197 text sg 0 Option.some = some (i : Int) := by
    unfold W.whole_number.c208197 W.whole_number.c2
    rw [← hi0]
    cases sg
    · rfl
    · rw [br_tt, show Array.toList (ByteArray.data (ByteArray.mk #[(45 : UInt8)])) = [45] from rfl, hasPrefix1, bnd_val, bnd_val, Bool.true_and]
      cases text.head? == some 45 <;> rfl
  have e2 : W.R_word.c208199 text sg sg 0 Option.some = some (sg && decide (i = 0), (i : Int)) := by
    unfold W.R_word.c208199 W.R_word.c2
    rw [← hi0]
    cases sg
    · rfl
    · rw [br_tt]
      cases text with
      | nil => rfl
      | cons c l =>
        rw [br_pos (by simp <;> omega), show ((0 : Int)) = ((0 : Nat) : Int) from rfl, idx_text _ 0 (by simp), bnd_val, bnd_val]
        simp only [List.head?_cons, List.getElem_cons_zero, Bool.true_and]
        by_cases h3 : c = 45
        · subst h3; rfl
        · have h4 : ((c.toNat : Int) == 45) = false := by
            apply beq_false_of_ne
            intro e
            apply h3
            apply UInt8.toNat_inj.1
            show c.toNat = 45
            omega
          have h5 : (some c == some 45) = false := beq_false_of_ne (by simpa using h3)
          rw [h4, h5]; rfl
  have e3 : W.R_word.c5 text (i : Int) Option.some = some ((text.drop i).head? == some 48) := by
    unfold W.R_word.c5
    by_cases h : i < text.length
    · rw [br_pos (by omega), idx_text _ i h, bnd_val, List.head?_drop, List.getElem?_eq_getElem h]
      congr 1
      generalize text[i] = c
      by_cases h5 : c = 48
      · subst h5; rfl
      · have h6 : (some c == some 48) = false := beq_false_of_ne (by simpa using h5)
        rw [h6]
        apply beq_false_of_ne
        intro e
        apply h5
        apply UInt8.toNat_inj.1
        show c.toNat = 48
        omega
    · rw [br_neg (by omega), List.head?_drop, List.getElem?_eq_none (by omega)]; rfl
  have hl := digits_loop text i hi hL
  obtain ⟨m, hm⟩ : ∃ m : Nat, ((text.drop i).takeWhile isDigit).length = m := ⟨_, rfl⟩
  have hml : i + m ≤ text.length := by
    have := tw_le isDigit (text.drop i)
    rw [List.length_drop] at this; omega
  rw [hm] at hl
  have hspec : numLen sg text = if (text.drop i).head? == some 48 then (if sg && i == 0 then (1, true) else (i, false)) else (i + m, decide (0 < m)) := by
    unfold numLen
    simp only [hi0, hm]
  have hpos : decide (((i + m : Nat) : Int) > (i : Int)) = decide (0 < m) := by rw [decide_eq_decide]; omega
  have hnum : W.whole_number text sg = br ((text.drop i).head? == some 48) (br (sg && decide (i = 0)) (some (1, true)) (some ((i : Int), false))) (some (((i + m : Nat) : Int), decide (0 < m))) := by
    unfold W.whole_number
    rw [e1, bnd_val, okIf_true (by simp <;> omega), bnd_val, show Array.toList (ByteArray.data (ByteArray.mk #[(48 : UInt8)])) = [48] from rfl, hasPrefix1, bnd_val, loops_same, hl, bnd_val]
    rw [Int.toNat_natCast, Int.toNat_natCast, List.take_length, hpos]
    unfold W.whole_number.c5
    congr 1
    cases sg
    · rfl
    · simp only [Bool.not_true, br_ff, bnd_val]
      rcases (by omega : i = 0 ∨ i = 1) with h | h <;> subst h <;> rfl
  have hword : W.R_word text sg sg = br ((text.drop i).head? == some 48) (br (sg && decide (i = 0)) (some (1, true)) (some ((i : Int), false))) (some (((i + m : Nat) : Int), decide (0 < m))) := by
    unfold W.R_word
    rw [e2, bnd_val, e3, bnd_val]
    simp only
    rw [hl, bnd_val, hpos]
    congr 1
    rcases (by omega : i = 0 ∨ i = 1) with h | h <;> subst h
    · cases sg <;> rfl
    · cases sg <;> rfl
  rw [hnum, hword, hspec]
  have key : br ((text.drop i).head? == some 48) (br (sg && decide (i = 0)) (some ((1 : Int), true)) (some ((i : Int), false))) (some (((i + m : Nat) : Int), decide (0 < m))) =
      some ((((if (text.drop i).head? == some 48 then (if sg && i == 0 then (1, true) else (i, false)) else (i + m, decide (0 < m)) : Nat × Bool)).1 : Int), ((if (text.drop i).head? == some 48 then (if sg && i == 0 then (1, true) else (i, false)) else (i + m, decide (0 < m)) : Nat × Bool)).2) := by
    cases (text.drop i).head? == some 48
    · rfl
    · rcases (by omega : i = 0 ∨ i = 1) with h | h <;> subst h <;> cases sg <;> rfl
  exact ⟨key, key⟩
theorem takeWhile_all {p : UInt8 → Bool} {l : List UInt8} (h : ∀ c ∈ l, p c = true) : l.takeWhile p = l := by
  induction l with
  | nil => rfl
  | cons c l ih =>
    rw [List.takeWhile_cons_of_pos (h c (List.mem_cons_self ..)), ih fun x hx => h x (List.mem_cons_of_mem _ hx)]
theorem Canon.whole {text : List UInt8} (h : Canon text) : numLen true text = (text.length, true) := by
  rcases h with rfl | ⟨neg, ds, h1, h2, h3, rfl⟩
  · rfl
  · unfold numLen
    have hd := takeWhile_all h2
    have hl : 0 < ds.length := by cases ds with | nil => exact absurd rfl h1 | cons => simp
    cases neg
    · have : ds.head? ≠ some 45 := head_digit h2
      simp [beq_false_of_ne this, beq_false_of_ne h3, hd, h1]
      omega
    · simp [beq_false_of_ne h3, hd, h1]
      omega
theorem numLen_le (sg : Bool) (text : List UInt8) : (numLen sg text).1 ≤ text.length := by
  unfold numLen
  have key : ∀ i : Nat, i ≤ text.length → i + ((text.drop i).takeWhile isDigit).length ≤ text.length := by
    intro i hi
    have := tw_le isDigit (text.drop i)
    rw [List.length_drop] at this; omega
  by_cases hs : (sg && (text.head? == some 45)) = true
  · have h1 : 1 ≤ text.length := by
      cases text with
      | nil => simp at hs
      | cons => simp
    simp only [hs, if_true]
    split
    · split
      · exact h1
      · exact h1
    · exact key 1 h1
  · simp only [eq_false_of_ne_true hs, Bool.false_eq_true, if_false]
    split
    · rename_i h0
      have h1 : 1 ≤ text.length := by
        cases text with
        | nil => simp at h0
        | cons => simp
      split <;> simp only <;> omega
    · exact key 0 (Nat.zero_le _)
/-- Where it is a number, its text is one. -/
theorem numLen_canon {sg : Bool} {text : List UInt8} (h : (numLen sg text).2 = true) : Canon (text.take (numLen sg text).1) ∧ (sg = false → Digits (text.take (numLen sg text).1) ∧ (text.take (numLen sg text).1).head? ≠ some 48 ∧ text.take (numLen sg text).1 ≠ []) := by
  have tk : ∀ l : List UInt8, l.take (l.takeWhile isDigit).length = l.takeWhile isDigit := fun l => by
    induction l with
    | nil => rfl
    | cons c l ih =>
      by_cases hc : isDigit c = true
      · rw [List.takeWhile_cons_of_pos hc, List.length_cons, List.take_succ_cons, ih]
      · rw [List.takeWhile_cons_of_neg hc]; rfl
  have dw : ∀ l : List UInt8, Digits (l.takeWhile isDigit) := fun l c hc => by
    induction l with
    | nil => cases hc
    | cons a l ih =>
      by_cases ha : isDigit a = true
      · rw [List.takeWhile_cons_of_pos ha] at hc
        rcases List.mem_cons.1 hc with rfl | hc
        · exact ha
        · exact ih hc
      · rw [List.takeWhile_cons_of_neg ha] at hc; cases hc
  have hw : ∀ l : List UInt8, l.head? ≠ some 48 → (l.takeWhile isDigit).head? ≠ some 48 := fun l hl => by
    cases l with
    | nil => simp
    | cons a l =>
      by_cases ha : isDigit a = true
      · rw [List.takeWhile_cons_of_pos ha]; simpa using hl
      · rw [List.takeWhile_cons_of_neg ha]; simp
  unfold numLen at h ⊢
  by_cases hs : (sg && (text.head? == some 45)) = true
  · simp only [hs, if_true] at h ⊢
    rw [Bool.and_eq_true] at hs
    obtain ⟨hsg, hhd⟩ := hs
    have hhd := beq_iff_eq.1 hhd
    obtain ⟨l, rfl⟩ : ∃ l, text = 45 :: l := by
      cases text with
      | nil => simp at hhd
      | cons c l => simp at hhd; exact ⟨l, by rw [hhd]⟩
    simp only [List.drop_succ_cons, List.drop_zero] at h ⊢
    by_cases h0 : l.head? = some 48
    · rw [h0] at h; simp at h
    · rw [beq_false_of_ne h0] at h ⊢
      simp only [Bool.false_eq_true, if_false, decide_eq_true_eq] at h ⊢
      rw [Nat.add_comm, List.take_succ_cons, tk]
      refine ⟨Or.inr ⟨true, l.takeWhile isDigit, fun e => by rw [e] at h; simp at h, dw l, hw l h0, rfl⟩, fun e => by rw [e] at hsg; cases hsg⟩
  · simp only [eq_false_of_ne_true hs, Bool.false_eq_true, if_false, List.drop_zero, Nat.zero_add] at h ⊢
    by_cases h0 : text.head? = some 48
    · rw [h0] at h ⊢
      cases sg with
      | false => simp at h
      | true =>
        simp only [beq_self_eq_true, if_true, Bool.and_self] at h ⊢
        obtain ⟨l, rfl⟩ : ∃ l, text = 48 :: l := by
          cases text with
          | nil => simp at h0
          | cons c l => simp at h0; exact ⟨l, by rw [h0]⟩
        exact ⟨Or.inl rfl, fun e => by cases e⟩
    · rw [beq_false_of_ne h0] at h ⊢
      simp only [Bool.false_eq_true, if_false, decide_eq_true_eq] at h ⊢
      rw [tk]
      have hne : text.takeWhile isDigit ≠ [] := fun e => by rw [e] at h; simp at h
      exact ⟨Or.inr ⟨false, _, hne, dw text, hw text h0, rfl⟩, fun _ => ⟨dw text, hw text h0, hne⟩⟩
/-- The digits of a number's text, and the number. -/
structure Said (text ds : List UInt8) (v : Int) : Prop where
  dg : Digits ds
  ne : ds ≠ []
  len : text.length ≤ ds.length + 1
  txt : Txt v text
  small : v.natAbs < 10 ^ ds.length
  trim : W.strings_TrimPrefix text [45] = some ds
  of : W.R_digitsOf text = some (ds.length : Int)
  rd : ds.length ≤ 1000 → ∃ x z, W.whole_Parse text = some (x, (0, 0)) ∧ W.R_ZParse text = some (z, (0, 0)) ∧ W.R_zread text = some z ∧ Rep 4294967296 x v ∧ Rep 10000 z v ∧ x.2.length ≤ 1000 ∧ z.2.length ≤ 1000
theorem Canon.said {text : List UInt8} (h : Canon text) (hL : text.length ≤ 9223372036854775807) : ∃ ds v, Said text ds v := by
  obtain ⟨n1, n2⟩ := number_ok true text hL
  rw [h.whole] at n1 n2
  obtain ⟨neg, ds, p1, p2, p3⟩ := h.parts
  have hh : (text.head? == some 45) = neg := by
    rw [p3]
    cases neg
    · exact beq_false_of_ne (head_digit p2)
    · rfl
  have hlen : text.length = (if neg then 1 else 0) + ds.length := by rw [p3]; cases neg <;> simp <;> omega
  have htrim : W.strings_TrimPrefix text [45] = some ds := by
    rw [trim_ok text hL]
    cases neg
    · rw [if_neg (by simpa using hh), p3]; rfl
    · rw [if_pos (by simpa using hh), p3]; rfl
  have hdo : W.R_digitsOf text = some (ds.length : Int) := by
    unfold W.R_digitsOf
    rw [(sign_test text).2, bnd_val, hh]
    cases neg
    · rw [br_ff, hlen]; simp
    · rw [br_tt, wrap_i64 (by omega), hlen]; simp; omega
  have hb := dec_bound p2
  have hnat : (dec ds).natAbs < 10 ^ ds.length := by
    have h2 := hb.2
    have : ((10 ^ ds.length : Nat) : Int) = (10 : Int) ^ ds.length := by rw [Int.natCast_pow]; rfl
    omega
  refine ⟨ds, if neg then - dec ds else dec ds, p2, p1, by rw [hlen]; split <;> omega, ?_, by cases neg <;> simpa using hnat, htrim, hdo, fun hs => ?_⟩
  · rcases h with rfl | ⟨neg', ds', q1, q2, q3, q4⟩
    · have : ds = [48] ∧ neg = false := by
        cases neg
        · exact ⟨by simpa using p3.symm, rfl⟩
        · simp at p3
      rw [this.1, this.2]
      exact Or.inl ⟨rfl, rfl⟩
    · have hsame : neg' = neg ∧ ds' = ds := by
        have e : (if neg then [45] else []) ++ ds = (if neg' then [45] else []) ++ ds' := by rw [← p3, q4]
        cases neg <;> cases neg'
        · exact ⟨rfl, by simpa using e.symm⟩
        · exfalso
          have := head_digit p2
          rw [show ds = 45 :: ds' by simpa using e] at this
          simp at this
        · exfalso
          have := head_digit q2
          rw [show ds' = 45 :: ds by simpa using e.symm] at this
          simp at this
        · exact ⟨rfl, by simpa using e.symm⟩
      obtain ⟨rfl, rfl⟩ := hsame
      have hge := dec_ge q2 q1 q3
      have hp : (0 : Int) < 10 ^ (ds'.length - 1) := Int.pow_pos (by decide)
      refine Or.inr ⟨by cases neg' <;> simp <;> omega, ds', ⟨q2, q1, q3, by cases neg' <;> simp <;> omega⟩, ?_⟩
      rw [q4]
      cases neg'
      · have : ¬ dec ds' < 0 := by omega
        simp [this]
      · have : - dec ds' < 0 := by omega
        rw [if_pos rfl, if_pos rfl, if_pos this]
  · obtain ⟨m, q1, q2, q3, q4⟩ := digits_ok ds p2 (by omega)
    obtain ⟨r, s1, s2, s3⟩ := made_ok (decide ((ds.length : Int) < (text.length : Int))) m q2 (by omega)
    have hneg : decide ((ds.length : Int) < (text.length : Int)) = neg := by
      rw [hlen]; cases neg <;> simp <;> omega
    obtain ⟨w, t1, t2, t3, t4⟩ := zdigits_ok ds p2 (by omega)
    obtain ⟨z, u1, u2, u3⟩ := zmade_ok neg w.2 t2 (by omega)
    have hz : W.R_zread text = some z := by
      unfold W.R_zread
      rw [(sign_test text).1, bnd_val, hh]
      have : W.R_zread.c208197 text neg Option.some = some ds := by
        unfold W.R_zread.c208197
        cases neg
        · rw [br_ff, p3]; rfl
        · rw [br_tt, okIf_true (by rw [hlen]; simp; omega), bnd_val, Int.toNat_natCast, List.take_length, p3]; rfl
      rw [this, bnd_val, t1, bnd_val, u1]; rfl
    refine ⟨r, z, ?_, ?_, hz, by rw [hneg, q4] at s2; exact s2, by rw [t4] at u2; exact u2, by omega, by omega⟩
    · unfold W.whole_Parse
      have c2 : W.whole_Parse.c2 text (text.length : Int) true Option.some = some false := by
        unfold W.whole_Parse.c2
        simp [br]
      rw [n1, bnd_val]
      simp only
      rw [c2, bnd_val, br_ff, htrim, bnd_val, br_neg (by omega), q1, bnd_val, s1]; rfl
    · unfold W.R_ZParse
      have c2 : W.R_ZParse.c2 text (text.length : Int) true Option.some = some false := by
        unfold W.R_ZParse.c2
        simp [br]
      rw [n2, bnd_val]
      simp only
      rw [c2, bnd_val, br_ff, hdo, bnd_val, br_neg (by omega), hz]; rfl
/-- Each text: it is a number's, of at most 1000 digits; or both say the same fault. -/
theorem parses (text : List UInt8) (hL : text.length ≤ 9223372036854775807) :
    (∃ ds v, Said text ds v ∧ ds.length ≤ 1000) ∨ ∃ f : Int × Int, f.1 ≠ 0 ∧ W.whole_Parse text = some ((false, []), f) ∧ W.R_ZParse text = some ((false, []), f) := by
  obtain ⟨n1, n2⟩ := number_ok true text hL
  have hle := numLen_le true text
  by_cases h : (numLen true text).2 = true ∧ text.length ≤ (numLen true text).1
  · have hc : Canon text := by
      have := (numLen_canon h.1).1
      rwa [List.take_of_length_le h.2] at this
    obtain ⟨ds, v, hs⟩ := hc.said hL
    by_cases hd : ds.length ≤ 1000
    · exact Or.inl ⟨ds, v, hs, hd⟩
    · right
      refine ⟨(2, 0), by decide, ?_, ?_⟩
      · unfold W.whole_Parse
        have c2 : W.whole_Parse.c2 text ((numLen true text).1 : Int) true Option.some = some false := by
          unfold W.whole_Parse.c2
          simp [br]; omega
        rw [n1, h.1, bnd_val]
        simp only
        rw [c2, bnd_val, br_ff, hs.trim, bnd_val, br_pos (by omega)]
      · unfold W.R_ZParse
        have c2 : W.R_ZParse.c2 text ((numLen true text).1 : Int) true Option.some = some false := by
          unfold W.R_ZParse.c2
          simp [br]; omega
        rw [n2, h.1, bnd_val]
        simp only
        rw [c2, bnd_val, br_ff, hs.of, bnd_val, br_pos (by omega)]
  · right
    refine ⟨(1, ((numLen true text).1 : Int)), by simp, ?_, ?_⟩
    · unfold W.whole_Parse
      have c2 : W.whole_Parse.c2 text ((numLen true text).1 : Int) (numLen true text).2 Option.some = some true := by
        unfold W.whole_Parse.c2
        cases h2 : (numLen true text).2
        · rfl
        · rw [Bool.not_true, br_ff, decide_eq_true]
          have : ¬ text.length ≤ (numLen true text).1 := fun h3 => h ⟨h2, h3⟩
          omega
      rw [n1, bnd_val]
      simp only
      rw [c2, bnd_val, br_tt]
    · unfold W.R_ZParse
      have c2 : W.R_ZParse.c2 text ((numLen true text).1 : Int) (numLen true text).2 Option.some = some true := by
        unfold W.R_ZParse.c2
        cases h2 : (numLen true text).2
        · rfl
        · rw [Bool.not_true, br_ff, decide_eq_true]
          have : ¬ text.length ≤ (numLen true text).1 := fun h3 => h ⟨h2, h3⟩
          omega
      rw [n2, bnd_val]
      simp only
      rw [c2, bnd_val, br_tt]
/-- A number that is not too long: its text is read again. -/
theorem Txt.canon {v : Int} {l : List UInt8} (h : Txt v l) : Canon l := by
  rcases h with ⟨_, rfl⟩ | ⟨h0, D, ⟨d1, d2, d3, d4⟩, rfl⟩
  · exact Or.inl rfl
  · by_cases hv : v < 0
    · exact Or.inr ⟨true, D, d2, d1, d3, by simp [hv]⟩
    · exact Or.inr ⟨false, D, d2, d1, d3, by simp [hv]⟩
theorem Txt.inj {u v : Int} {l : List UInt8} (h : Txt u l) (k : Txt v l) : u = v := by
  rcases h with ⟨h0, rfl⟩ | ⟨h0, D, ⟨d1, d2, d3, d4⟩, rfl⟩
  · rcases k with ⟨k0, _⟩ | ⟨k0, E, ⟨e1, e2, e3, e4⟩, h⟩
    · omega
    · exfalso
      split at h
      · cases h
      · simp only [List.nil_append] at h
        rw [← h] at e3
        simp at e3
  · rcases k with ⟨k0, h⟩ | ⟨k0, E, ⟨e1, e2, e3, e4⟩, h⟩
    · exfalso
      split at h
      · cases h
      · simp only [List.nil_append] at h
        rw [h] at d3
        simp at d3
    · by_cases hu : u < 0 <;> by_cases hv : v < 0
      · simp [hu, hv] at h
        rw [h] at d4; omega
      · exfalso
        simp only [hu, hv, if_true, if_false, List.nil_append, List.cons_append] at h
        have := head_digit e1
        rw [← h] at this; simp at this
      · exfalso
        simp only [hu, hv, if_true, if_false, List.nil_append, List.cons_append] at h
        have := head_digit d1
        rw [h] at this; simp at this
      · simp [hu, hv] at h
        rw [h] at d4; omega
theorem IsDec.len {D : List UInt8} {v : Int} {n : Nat} (h : IsDec D v) (hv : v < 10 ^ n) : D.length ≤ n := by
  obtain ⟨d1, d2, d3, d4⟩ := h
  have := dec_ge d1 d2 d3
  rcases Nat.lt_or_ge n D.length with hc | hc
  · have : (10 : Int) ^ n ≤ 10 ^ (D.length - 1) := pow_le (by decide) (by omega)
    omega
  · exact hc
theorem Txt.back {v : Int} {l : List UInt8} {n : Nat} (h : Txt v l) (hn : n ≤ 1000) (hv : v.natAbs < 10 ^ n) :
    ∃ x z, W.whole_Parse l = some (x, (0, 0)) ∧ W.R_ZParse l = some (z, (0, 0)) ∧ Rep 4294967296 x v ∧ Rep 10000 z v ∧ x.2.length ≤ 1000 ∧ z.2.length ≤ 1000 := by
  have hlen : l.length ≤ 1001 := by
    rcases h with ⟨_, rfl⟩ | ⟨h0, D, hd, rfl⟩
    · simp
    · have := hd.len (n := n) (by
        have : ((10 ^ n : Nat) : Int) = (10 : Int) ^ n := by rw [Int.natCast_pow]; rfl
        omega)
      rw [List.length_append]
      split <;> simp <;> omega
  obtain ⟨ds, w, hs⟩ := h.canon.said (by omega)
  have hw : w = v := hs.txt.inj h
  subst hw
  have hds : ds.length ≤ 1000 := by
    rcases h with ⟨h0, hl⟩ | ⟨h0, D, hd, hl⟩
    · have := hs.trim
      rw [hl, trim_ok _ (by simp)] at this
      have := Option.some.inj this
      rw [← this]; decide
    · have h1 := hd.len (n := n) (by
        have : ((10 ^ n : Nat) : Int) = (10 : Int) ^ n := by rw [Int.natCast_pow]; rfl
        omega)
      have := hs.trim
      rw [trim_ok _ (by omega)] at this
      have h2 := Option.some.inj this
      rw [← h2, hl]
      by_cases hv0 : w < 0
      · simp [hv0]; omega
      · simp only [hv0, if_false, List.nil_append]
        rw [if_neg (head_digit hd.1)]
        omega
  obtain ⟨x, z, r1, r2, r3, r4, r5, r6, r7⟩ := hs.rd hds
  exact ⟨x, z, r1, r2, r4, r5, r6, r7⟩
end Go.Ql
end

section
/- Fractions: lowest terms, sums, products, quotients, order, text. -/
namespace Go.Ql
def lowP (u v : Int) : Int := if v < 0 then - (u / (Int.gcd u v : Int)) else u / (Int.gcd u v : Int)
def lowQ (u v : Int) : Int := if v < 0 then - (v / (Int.gcd u v : Int)) else v / (Int.gcd u v : Int)
abbrev Fr := (Bool × List Int) × (Bool × List Int)
/-- A fraction p/q, of the program and of the reference. -/
structure FF (x g : Fr) (p q : Int) (L : Nat) : Prop where
  x1 : Rep 4294967296 x.1 p
  x2 : Rep 4294967296 x.2 (q - 1)
  g1 : Rep 10000 g.1 p
  g2 : Rep 10000 g.2 q
  pos : 0 < q
  l1 : x.1.2.length ≤ L
  l2 : x.2.2.length ≤ L
  l3 : g.1.2.length ≤ L
  l4 : g.2.2.length ≤ L
theorem gcd_facts (u : Int) {v : Int} (hv : v ≠ 0) : 0 < (Int.gcd u v : Int) ∧ (Int.gcd u v : Int) * (u / (Int.gcd u v : Int)) = u ∧ (Int.gcd u v : Int) * (v / (Int.gcd u v : Int)) = v := by
  refine ⟨?_, Int.mul_ediv_cancel' (Int.gcd_dvd_left ..), Int.mul_ediv_cancel' (Int.gcd_dvd_right ..)⟩
  have : Int.gcd u v ≠ 0 := fun e => hv (Int.gcd_eq_zero_iff.1 e).2
  omega
theorem abs_ediv_le (u : Int) {g : Int} (hg : 0 < g) (h : g * (u / g) = u) : (u / g).natAbs ≤ u.natAbs := by
  have h1 : u.natAbs = g.natAbs * (u / g).natAbs := by rw [← Int.natAbs_mul, h]
  have h2 : 1 * (u / g).natAbs ≤ g.natAbs * (u / g).natAbs := Nat.mul_le_mul_right _ (by omega)
  omega
theorem low_facts (u : Int) {v : Int} (hv : v ≠ 0) : 0 < lowQ u v ∧ (lowP u v).natAbs ≤ u.natAbs ∧ (lowQ u v).natAbs ≤ v.natAbs := by
  obtain ⟨h1, h2, h3⟩ := gcd_facts u hv
  have h4 := abs_ediv_le u h1 h2
  have h5 := abs_ediv_le v h1 h3
  have h6 : v / (Int.gcd u v : Int) ≠ 0 := fun e => by rw [e] at h3; omega
  unfold lowP lowQ
  by_cases h : v < 0
  · simp only [h, if_true]
    have : v / (Int.gcd u v : Int) < 0 := by
      rcases Int.lt_trichotomy (v / (Int.gcd u v : Int)) 0 with h7 | h7 | h7
      · exact h7
      · exact absurd h7 h6
      · have := Int.mul_pos h1 h7; omega
    omega
  · simp only [h, if_false]
    have : 0 < v / (Int.gcd u v : Int) := by
      rcases Int.lt_trichotomy (v / (Int.gcd u v : Int)) 0 with h7 | h7 | h7
      · have := Int.mul_neg_of_pos_of_neg h1 h7; omega
      · exact absurd h7 h6
      · exact h7
    omega
theorem sgn_neg {v : Int} : decide (sgn v < 0) = decide (v < 0) := by
  unfold sgn
  rw [decide_eq_decide]
  split
  · simp; omega
  · split <;> simp <;> omega
theorem lowest_ff {a b c d : Bool × List Int} {u v : Int} {L : Nat} (ha : Rep 4294967296 a u) (hb : Rep 4294967296 b v) (hc : Rep 10000 c u) (hd : Rep 10000 d v)
    (la : a.2.length ≤ L) (lb : b.2.length ≤ L) (lc : c.2.length ≤ L) (ld : d.2.length ≤ L) (hL : L < 50000) (hv : v ≠ 0) :
    ∃ z k, W.whole_lowest a b = some z ∧ W.R_FOver c d = some (k, 0, 0) ∧ FF z k (lowP u v) (lowQ u v) (L + 1) := by
  have hB : (1 : Int) < 4294967296 := by decide
  have hC : (1 : Int) < 10000 := by decide
  obtain ⟨f1, f2, f3⟩ := gcd_facts u hv
  obtain ⟨p1, p2, p3⟩ := low_facts u hv
  have f4 := abs_ediv_le u f1 f2
  have f5 := abs_ediv_le v f1 f3
  have hne : v / (Int.gcd u v : Int) ≠ 0 := fun e => by rw [e] at f3; omega
  obtain ⟨gi, a1, a2, a3⟩ := igcd_ok ha hb (L := L) la lb (by omega)
  obtain ⟨gz, b1, b2, b3⟩ := zgcd_ok hc hd (L := L) lc ld (by omega)
  obtain ⟨q1, r1, c1, c2, _, _, _⟩ := idiv_ok ha a2 (by omega) (by omega) (by omega)
  obtain ⟨q2, r2, d1, d2, _, _, _⟩ := idiv_ok hb a2 (by omega) (by omega) (by omega)
  obtain ⟨q3, r3, e1, e2, _, _, _⟩ := zdiv_ok hc b2 (by omega) (by omega) (by omega)
  obtain ⟨q4, r4, g1, g2, _, _, _⟩ := zdiv_ok hd b2 (by omega) (by omega) (by omega)
  have m1 := Rep.short hB c2 ha f4
  have m2 := Rep.short hB d2 hb f5
  have m3 := Rep.short hC e2 hc f4
  have m4 := Rep.short hC g2 hd f5
  have hsame : v / (Int.gcd u v : Int) < 0 ↔ v < 0 := by
    constructor
    · intro h
      have := Int.mul_neg_of_pos_of_neg f1 h; omega
    · intro h
      rcases Int.lt_trichotomy (v / (Int.gcd u v : Int)) 0 with h7 | h7 | h7
      · exact h7
      · exact absurd h7 hne
      · have := Int.mul_pos f1 h7; omega
  have k1 : ∃ x y : Bool × List Int, W.whole_lowest.c216389 q1.1 q1.2 q2.1 q2.2 Option.some = some (x.1, x.2, y.1, y.2) ∧ Rep 4294967296 x (lowP u v) ∧ Rep 4294967296 y (lowQ u v) := by
    unfold W.whole_lowest.c216389
    simp only [pair_eta]
    rw [sign_ok d2, bnd_val, sgn_neg]
    unfold lowP lowQ
    by_cases h : v < 0
    · rw [br_pos (hsame.2 h), if_pos h, if_pos h]
      obtain ⟨x, x1, x2, x3⟩ := neg_ok c2 (by omega)
      obtain ⟨y, y1, y2, y3⟩ := neg_ok d2 (by omega)
      have c5 : W.whole_lowest.c5 q1.1 q1.2 q2.1 q2.2 Option.some = some (x.1, x.2, y.1, y.2) := by
        unfold W.whole_lowest.c5
        simp only [pair_eta]
        rw [x1, bnd_val, y1, bnd_val]
      rw [c5, bnd_val]
      exact ⟨x, y, rfl, x2, y2⟩
    · rw [br_neg (fun h2 => h (hsame.1 h2)), if_neg h, if_neg h]
      exact ⟨q1, q2, rfl, c2, d2⟩
  have k2 : ∃ x y : Bool × List Int, W.R_FOver.c224581 q3.1 q3.2 q4.1 q4.2 Option.some = some (x.1, x.2, y.1, y.2) ∧ Rep 10000 x (lowP u v) ∧ Rep 10000 y (lowQ u v) := by
    unfold W.R_FOver.c224581
    have hneg : q4.1 = decide (v < 0) := by
      have h1 := g2.val
      have h2 := g2.absval (by decide)
      have h3 := g2.neg
      have h4 := g2.pos hC
      cases hq : q4.1
      · rw [hq] at h1
        simp only [Bool.false_eq_true, if_false] at h1
        rw [eq_comm, decide_eq_false_iff_not]
        intro h5
        have := hsame.2 h5; omega
      · rw [hq] at h1
        simp only [if_true] at h1
        have := h4 (h3 hq)
        rw [eq_comm, decide_eq_true_eq, ← hsame]
        omega
    rw [hneg]
    unfold lowP lowQ
    by_cases h : v < 0
    · rw [br_pos h, if_pos h, if_pos h]
      obtain ⟨x, x1, x2, x3⟩ := zneg_ok e2 (by omega)
      obtain ⟨y, y1, y2, y3⟩ := zneg_ok g2 (by omega)
      have c7 : W.R_FOver.c7 q3.1 q3.2 (decide (v < 0)) q4.2 Option.some = some (x.1, x.2, y.1, y.2) := by
        unfold W.R_FOver.c7
        rw [← hneg]
        simp only [pair_eta]
        rw [x1, bnd_val, y1, bnd_val]
      rw [c7, bnd_val]
      exact ⟨x, y, rfl, x2, y2⟩
    · rw [br_neg h, if_neg h, if_neg h, ← hneg]
      exact ⟨q3, q4, rfl, e2, g2⟩
  obtain ⟨x, y, x0, x1, y1⟩ := k1
  obtain ⟨s, t, s0, s1, t1⟩ := k2
  have n1 := Rep.short hB x1 ha p2
  have n2 := Rep.short hB y1 hb p3
  have n3 := Rep.short hC s1 hc p2
  have n4 := Rep.short hC t1 hd p3
  obtain ⟨o, o1, o2, o3⟩ := of_ok (n := 1) (by decide)
  obtain ⟨w, w1, w2, w3⟩ := sub_ok y1 o2 (by omega) (by omega)
  have n5 := Rep.short hB w2 hb (by omega)
  have c6 : W.whole_lowest.c6 y.1 y.2 Option.some = some (w.1, w.2) := by
    unfold W.whole_lowest.c6
    simp only [pair_eta]
    rw [o1, bnd_val, w1, bnd_val]
  refine ⟨(x, w), (s, t), ?_, ?_, ⟨x1, w2, s1, t1, p1, by simp only; omega, by simp only; omega, by simp only; omega, by simp only; omega⟩⟩
  · unfold W.whole_lowest
    simp only [pair_eta]
    rw [a1, bnd_val, c1, bnd_val, d1, bnd_val]
    simp only
    rw [x0, bnd_val]
    simp only
    rw [c6, bnd_val]
  · unfold W.R_FOver
    simp only [pair_eta]
    have hz : ((d.2.length : Int) == 0) = false := by
      have := (hd.pos_of hC).2 hv
      apply beq_false_of_ne; omega
    rw [hz, br_ff, b1, bnd_val, e1, bnd_val, g1, bnd_val]
    simp only
    rw [s0, bnd_val]
theorem fover_of {c d : Bool × List Int} {k : Fr} {f : Int × Int} (h : W.R_FOver c d = some (k, f)) : W.R_fover c d = some k := by
  unfold W.R_fover
  simp only [pair_eta]
  rw [h, bnd_val]
theorem one_ff : ∃ g, W.R_ZOf 1 = some g ∧ FF ((false, []), false, []) ((false, []), g) 0 1 5 := by
  obtain ⟨o, o1, o2, o3⟩ := zof_ok (n := 1) (by decide)
  exact ⟨o, o1, ⟨Rep.nil, Rep.nil, Rep.nil, o2, by decide, by simp, by simp, by simp, o3⟩⟩
theorem below_ok {x : Fr} {q : Int} (h : Rep 4294967296 x.2 (q - 1)) (l : x.2.2.length < 1000000) : ∃ r, W.whole_Frac_below x = some r ∧ Rep 4294967296 r q ∧ r.2.length ≤ x.2.2.length + 3 := by
  obtain ⟨o, o1, o2, o3⟩ := of_ok (n := 1) (by decide)
  obtain ⟨w, w1, w2, w3⟩ := add_ok h o2 (by omega) (by omega)
  refine ⟨w, ?_, w2.eq_of (by omega), by omega⟩
  unfold W.whole_Frac_below W.whole_Frac_below.c1
  simp only [pair_eta]
  rw [o1, bnd_val, w1, bnd_val, bnd_val]
theorem Txt.one_iff {q : Int} {l : List UInt8} (h : Txt q l) : l = [49] ↔ q = 1 := by
  have h1 : Txt 1 [49] := Or.inr ⟨by decide, [49], ⟨by unfold Digits; decide, by decide, by decide, by decide⟩, rfl⟩
  constructor
  · intro e; subst e; exact h.inj h1
  · intro e; subst e; exact h.one h1
theorem txt_len {x : Bool × List Int} {v : Int} {l : List UInt8} (h : Rep 4294967296 x v) (k : Txt v l) : l.length ≤ 10 * x.2.length + 2 := by
  rcases k with ⟨_, rfl⟩ | ⟨h0, D, hd, rfl⟩
  · simp
  · have h1 := val_lt (B := 4294967296) (by decide) h.dig
    rw [h.absval (by decide)] at h1
    have h2 : ∀ n : Nat, (4294967296 : Int) ^ n ≤ 10 ^ (10 * n) := by
      intro n
      induction n with
      | zero => simp
      | succ n ih =>
        rw [Int.pow_succ, show 10 * (n + 1) = 10 * n + 10 by omega, Int.pow_add]
        exact Int.mul_le_mul ih (by decide) (by decide) (Int.le_of_lt (Int.pow_pos (by decide)))
    have := hd.len (n := 10 * x.2.length) (by have := h2 x.2.length; omega)
    rw [List.length_append]
    split <;> simp <;> omega
theorem ftext_ff {x g : Fr} {p q : Int} {L : Nat} (h : FF x g p q L) (hL : L < 500000) : ∃ l, W.whole_Frac_Text x = some l ∧ W.R_FText g = some l ∧ (q = 1 → Txt p l) := by
  obtain ⟨x1, x2, g1, g2, pos, l1, l2, l3, l4⟩ := h
  obtain ⟨t, t1, t2⟩ := text_ok x1 (by omega)
  obtain ⟨t', t3, t4⟩ := ztext_ok g1 (by omega)
  have e := t4.one t2
  subst e
  obtain ⟨b, b1, b2, b3⟩ := below_ok x2 (by omega)
  obtain ⟨s, s1, s2⟩ := text_ok b2 (by omega)
  obtain ⟨s', s3, s4⟩ := ztext_ok g2 (by omega)
  have e := s4.one s2
  subst e
  have ln1 := txt_len x1 t2
  have ln2 := txt_len b2 s2
  have hsg : (sgn (q - 1) == 0) = decide (q = 1) := by
    unfold sgn
    split
    · omega
    · split
      · rw [decide_eq_true (by omega)]; rfl
      · rw [decide_eq_false (by omega)]; rfl
  have hs1 : (s' == [49]) = decide (q = 1) := by
    by_cases h : q = 1
    · rw [decide_eq_true h, s4.one_iff.2 h]; rfl
    · rw [decide_eq_false h]
      exact beq_false_of_ne fun e => h (s4.one_iff.1 e)
  have hx : W.whole_Frac_Text x = br (decide (q = 1)) (some t') (some (t' ++ [47] ++ s')) := by
    unfold W.whole_Frac_Text
    simp only [pair_eta]
    rw [sign_ok x2, bnd_val, hsg, t1]
    congr 1
    have c3 : W.whole_Frac_Text.c3 x.1.1 x.1.2 x.2.1 x.2.2 Option.some = some (t' ++ [47] ++ s') := by
      unfold W.whole_Frac_Text.c3
      simp only [pair_eta]
      rw [t1, bnd_val, okIf_true (by simp; omega), bnd_val, b1, bnd_val, s1, bnd_val, okIf_true (by simp; omega), bnd_val]
    rw [c3, bnd_val]
  have hg : W.R_FText g = br (decide (q = 1)) (some t') (some (t' ++ [47] ++ s')) := by
    unfold W.R_FText
    simp only [pair_eta]
    rw [s3, bnd_val, hs1, t3]
    congr 1
    have c3 : W.R_FText.c3 g.1.1 g.1.2 g.2.1 g.2.2 Option.some = some (t' ++ [47] ++ s') := by
      unfold W.R_FText.c3
      simp only [pair_eta]
      rw [t3, bnd_val, okIf_true (by simp; omega), bnd_val, s3, bnd_val, okIf_true (by simp; omega), bnd_val]
    rw [c3, bnd_val]
  rw [hx, hg]
  by_cases h : q = 1
  · rw [br_pos h]; exact ⟨_, rfl, rfl, fun _ => t2⟩
  · rw [br_neg h]; exact ⟨_, rfl, rfl, fun e => absurd e h⟩
/-- Sums of fractions. -/
theorem add_ff {x g y h : Fr} {p q r s : Int} {L : Nat} (hx : FF x g p q L) (hy : FF y h r s L) (hL : L < 5000) :
    ∃ z k, W.whole_Frac_Add x y = some z ∧ W.R_FAdd g h = some k ∧ FF z k (lowP (p * s + r * q) (q * s)) (lowQ (p * s + r * q) (q * s)) (5 * L + 20) := by
  obtain ⟨x1, x2, g1, g2, xp, l1, l2, l3, l4⟩ := hx
  obtain ⟨y1, y2, h1, h2, yp, m1, m2, m3, m4⟩ := hy
  obtain ⟨bx, bx1, bx2, bx3⟩ := below_ok x2 (by omega)
  obtain ⟨by', by1, by2, by3⟩ := below_ok y2 (by omega)
  obtain ⟨a, a1, a2, a3⟩ := mul_ok x1 by2 (by omega) (by omega)
  obtain ⟨b, b1, b2, b3⟩ := mul_ok y1 bx2 (by omega) (by omega)
  obtain ⟨c, c1, c2, c3⟩ := add_ok a2 b2 (by omega) (by omega)
  obtain ⟨d, d1, d2, d3⟩ := mul_ok bx2 by2 (by omega) (by omega)
  obtain ⟨e, e1, e2, e3⟩ := zmul_ok g1 h2 (by omega) (by omega)
  obtain ⟨f, f1, f2, f3⟩ := zmul_ok h1 g2 (by omega) (by omega)
  obtain ⟨i, i1, i2, i3⟩ := zadd_ok e2 f2 (by omega) (by omega)
  obtain ⟨j, j1, j2, j3⟩ := zmul_ok g2 h2 (by omega) (by omega)
  have hne : q * s ≠ 0 := Int.ne_of_gt (Int.mul_pos xp yp)
  obtain ⟨z, k, z1, k1, zz⟩ := lowest_ff c2 d2 i2 j2 (L := 5 * L + 19) (by omega) (by omega) (by omega) (by omega) (by omega) hne
  refine ⟨z, k, ?_, ?_, zz⟩
  · unfold W.whole_Frac_Add W.whole_Frac_Add.c1
    simp only [pair_eta]
    simp only [bx1, by1, a1, b1, c1, d1, z1, bnd_val, pair_eta]
  · unfold W.R_FAdd W.R_FAdd.c1
    simp only [pair_eta]
    simp only [e1, f1, i1, j1, fover_of k1, bnd_val, pair_eta]
theorem sub_ff {x g y h : Fr} {p q r s : Int} {L : Nat} (hx : FF x g p q L) (hy : FF y h r s L) (hL : L < 5000) :
    ∃ z k, W.whole_Frac_Sub x y = some z ∧ W.R_FSub g h = some k ∧ FF z k (lowP (p * s + -r * q) (q * s)) (lowQ (p * s + -r * q) (q * s)) (5 * L + 20) := by
  obtain ⟨n, n1, n2, n3⟩ := neg_ok hy.x1 (by have := hy.l1; omega)
  obtain ⟨m, m1, m2, m3⟩ := zneg_ok hy.g1 (by have := hy.l3; omega)
  have hy' : FF (n, y.2) (m, h.2) (-r) s L := ⟨n2, hy.x2, m2, hy.g2, hy.pos, by have := hy.l1; simp only; omega, hy.l2, by have := hy.l3; simp only; omega, hy.l4⟩
  obtain ⟨z, k, z1, k1, zz⟩ := add_ff hx hy' hL
  refine ⟨z, k, ?_, ?_, zz⟩
  · unfold W.whole_Frac_Sub W.whole_Frac_Sub.c1
    simp only [pair_eta]
    simp only [n1, bnd_val, pair_eta]
    rw [z1, bnd_val, bnd_val]
  · unfold W.R_FSub W.R_FSub.c1
    simp only [pair_eta]
    simp only [m1, bnd_val, pair_eta]
    rw [k1, bnd_val, bnd_val]
theorem mul_ff {x g y h : Fr} {p q r s : Int} {L : Nat} (hx : FF x g p q L) (hy : FF y h r s L) (hL : L < 5000) :
    ∃ z k, W.whole_Frac_Mul x y = some z ∧ W.R_FMul g h = some k ∧ FF z k (lowP (p * r) (q * s)) (lowQ (p * r) (q * s)) (5 * L + 20) := by
  obtain ⟨x1, x2, g1, g2, xp, l1, l2, l3, l4⟩ := hx
  obtain ⟨y1, y2, h1, h2, yp, m1, m2, m3, m4⟩ := hy
  obtain ⟨bx, bx1, bx2, bx3⟩ := below_ok x2 (by omega)
  obtain ⟨by', by1, by2, by3⟩ := below_ok y2 (by omega)
  obtain ⟨c, c1, c2, c3⟩ := mul_ok x1 y1 (by omega) (by omega)
  obtain ⟨d, d1, d2, d3⟩ := mul_ok bx2 by2 (by omega) (by omega)
  obtain ⟨i, i1, i2, i3⟩ := zmul_ok g1 h1 (by omega) (by omega)
  obtain ⟨j, j1, j2, j3⟩ := zmul_ok g2 h2 (by omega) (by omega)
  have hne : q * s ≠ 0 := Int.ne_of_gt (Int.mul_pos xp yp)
  obtain ⟨z, k, z1, k1, zz⟩ := lowest_ff c2 d2 i2 j2 (L := 5 * L + 19) (by omega) (by omega) (by omega) (by omega) (by omega) hne
  refine ⟨z, k, ?_, ?_, zz⟩
  · unfold W.whole_Frac_Mul W.whole_Frac_Mul.c1
    simp only [pair_eta]
    simp only [bx1, by1, c1, d1, z1, bnd_val, pair_eta]
  · unfold W.R_FMul W.R_FMul.c1
    simp only [pair_eta]
    simp only [i1, j1, fover_of k1, bnd_val, pair_eta]
theorem quo_ff {x g y h : Fr} {p q r s : Int} {L : Nat} (hx : FF x g p q L) (hy : FF y h r s L) (hL : L < 5000) :
    ∃ z k f m n, W.whole_Frac_Quo x y = some (z, f) ∧ W.R_FQuo g h = some (k, f) ∧ FF z k m n (5 * L + 20) := by
  obtain ⟨x1, x2, g1, g2, xp, l1, l2, l3, l4⟩ := hx
  obtain ⟨y1, y2, h1, h2, yp, m1, m2, m3, m4⟩ := hy
  obtain ⟨bx, bx1, bx2, bx3⟩ := below_ok x2 (by omega)
  obtain ⟨by', by1, by2, by3⟩ := below_ok y2 (by omega)
  obtain ⟨c, c1, c2, c3⟩ := mul_ok x1 by2 (by omega) (by omega)
  obtain ⟨d, d1, d2, d3⟩ := mul_ok bx2 y1 (by omega) (by omega)
  obtain ⟨i, i1, i2, i3⟩ := zmul_ok g1 h2 (by omega) (by omega)
  obtain ⟨j, j1, j2, j3⟩ := zmul_ok g2 h1 (by omega) (by omega)
  unfold W.whole_Frac_Quo W.R_FQuo W.R_FQuo.c1
  simp only [pair_eta]
  rw [sign_ok y1, bnd_val, i1, bnd_val, j1, bnd_val]
  by_cases h0 : r = 0
  · subst h0
    have hz : (sgn 0 == 0) = true := by decide
    rw [hz, br_tt]
    have hj := (j2.zero_iff (by decide)).2 (by simp)
    obtain ⟨o, o1, o2⟩ := one_ff
    have : W.R_FOver i j = some (((false, []), o), 4, 0) := by
      unfold W.R_FOver
      rw [hj, o1]; rfl
    rw [this, bnd_val, bnd_val]
    refine ⟨_, _, _, 0, 1, rfl, rfl, ⟨o2.x1, o2.x2, o2.g1, o2.g2, o2.pos, by simp, by simp, by simp, ?_⟩⟩
    have := o2.l4
    simp only at this ⊢; omega
  · have hz : (sgn r == 0) = false := by
      unfold sgn
      split
      · rfl
      · rfl
    have hne : q * r ≠ 0 := fun e => by rcases Int.mul_eq_zero.1 e with e | e <;> omega
    obtain ⟨z, k, z1, k1, zz⟩ := lowest_ff c2 d2 i2 j2 (L := 5 * L + 19) (by omega) (by omega) (by omega) (by omega) (by omega) hne
    rw [hz, br_ff, k1, bnd_val, bnd_val]
    have c3 : W.whole_Frac_Quo.c3 x.1.1 x.1.2 x.2.1 x.2.2 y.1.1 y.1.2 y.2.1 y.2.2 Option.some = some (z.1.1, z.1.2, z.2.1, z.2.2) := by
      unfold W.whole_Frac_Quo.c3
      simp only [pair_eta]
      simp only [bx1, by1, c1, d1, z1, bnd_val]
    rw [c3, bnd_val]
    exact ⟨z, k, (0, 0), _, _, rfl, rfl, zz⟩
theorem cmp_ff {x g y h : Fr} {p q r s : Int} {L : Nat} (hx : FF x g p q L) (hy : FF y h r s L) (hL : L < 5000) :
    ∃ c, W.whole_Frac_Cmp x y = some c ∧ W.R_FCmp g h = some c := by
  obtain ⟨x1, x2, g1, g2, xp, l1, l2, l3, l4⟩ := hx
  obtain ⟨y1, y2, h1, h2, yp, m1, m2, m3, m4⟩ := hy
  obtain ⟨bx, bx1, bx2, bx3⟩ := below_ok x2 (by omega)
  obtain ⟨by', by1, by2, by3⟩ := below_ok y2 (by omega)
  obtain ⟨c, c1, c2, c3⟩ := mul_ok x1 by2 (by omega) (by omega)
  obtain ⟨d, d1, d2, d3⟩ := mul_ok y1 bx2 (by omega) (by omega)
  obtain ⟨i, i1, i2, i3⟩ := zmul_ok g1 h2 (by omega) (by omega)
  obtain ⟨j, j1, j2, j3⟩ := zmul_ok h1 g2 (by omega) (by omega)
  refine ⟨sgn (p * s - r * q), ?_, ?_⟩
  · unfold W.whole_Frac_Cmp W.whole_Frac_Cmp.c1
    simp only [pair_eta]
    simp only [bx1, by1, c1, d1, bnd_val, icmp_ok c2 d2 (by omega) (by omega)]
  · unfold W.R_FCmp W.R_FCmp.c1
    simp only [pair_eta]
    simp only [i1, j1, bnd_val, zcmp_ok i2 j2 (by omega) (by omega)]
end Go.Ql
end

section
/- Fractions read from texts; the law. -/
namespace Go.Ql
theorem take_all (l : List UInt8) : l.take (Int.toNat (l.length : Int)) = l := by rw [Int.toNat_natCast, List.take_length]
end Go.Ql
end

section
/- The laws of whole numbers: a ring with an order; division with rest; what is written is read again. -/
namespace Go.Ql
theorem sgn_zero {v : Int} (h : v = 0) : sgn v = 0 := by subst h; rfl
theorem sgn_swap (u v : Int) : sgn (u - v) = - sgn (v - u) := by
  unfold sgn
  split <;> split <;> (try split) <;> (try split) <;> omega
theorem low_gcd (u : Int) {v : Int} (hv : v ≠ 0) : Int.gcd (lowP u v) (lowQ u v) = 1 := by
  obtain ⟨h1, h2, h3⟩ := gcd_facts u hv
  have h4 : Int.gcd (u / (Int.gcd u v : Int)) (v / (Int.gcd u v : Int)) = 1 := by
    have h5 : Int.gcd ((Int.gcd u v : Int) * (u / (Int.gcd u v : Int))) ((Int.gcd u v : Int) * (v / (Int.gcd u v : Int))) = (Int.gcd u v : Int).natAbs * Int.gcd (u / (Int.gcd u v : Int)) (v / (Int.gcd u v : Int)) := Int.gcd_mul_left ..
    rw [h2, h3] at h5
    have h6 : (Int.gcd u v : Int).natAbs = Int.gcd u v := Int.natAbs_natCast _
    rw [h6] at h5
    have h7 : Int.gcd u v * 1 = Int.gcd u v * Int.gcd (u / (Int.gcd u v : Int)) (v / (Int.gcd u v : Int)) := by rw [Nat.mul_one]; exact h5
    exact (Nat.eq_of_mul_eq_mul_left (by omega) h7).symm
  unfold lowP lowQ
  split <;> simp [h4]
theorem low_cross (u : Int) {v : Int} (hv : v ≠ 0) : lowP u v * v = lowQ u v * u := by
  obtain ⟨h1, h2, h3⟩ := gcd_facts u hv
  have h4 : u / (Int.gcd u v : Int) * v = v / (Int.gcd u v : Int) * u := by
    generalize (Int.gcd u v : Int) = g at *
    generalize u / g = x at *
    generalize v / g = y at *
    rw [← h2, ← h3]; grind
  unfold lowP lowQ
  split
  · rw [Int.neg_mul, Int.neg_mul, h4]
  · exact h4
end Go.Ql
end

section
/- Continued fractions: the plain law. -/
namespace Go.Ql
/-- The quotients of the division that goes on with what is left. -/
def parts (a b : Int) : List Int := if h : b = 0 then [] else (a / b) :: parts b (a % b)
termination_by b.natAbs
decreasing_by exact mod_less a h
theorem parts_zero (a : Int) : parts a 0 = [] := by rw [parts]; simp
theorem parts_ne (a : Int) {b : Int} (h : b ≠ 0) : parts a b = (a / b) :: parts b (a % b) := by rw [parts]; simp [h]
/-- A continued fraction with a tail. -/
def cf : List Int → Int × Int → Int × Int
  | [], t => t
  | a :: l, t => (a * (cf l t).1 + (cf l t).2, (cf l t).1)
theorem cf_append (m : List Int) (t : Int × Int) : ∀ l : List Int, cf (l ++ m) t = cf l (cf m t)
  | [] => rfl
  | a :: l => by simp [cf, cf_append m t l]
theorem cf_lin (x y : Int) : ∀ l : List Int, cf l (x, y) = (x * (cf l (1, 0)).1 + y * (cf l (0, 1)).1, x * (cf l (1, 0)).2 + y * (cf l (0, 1)).2)
  | [] => by simp [cf]
  | a :: l => by
    have h := cf_lin x y l
    simp only [cf]
    rw [h]
    simp only
    congr 1
    grind
theorem cf_snoc (l : List Int) (a : Int) : cf (l ++ [a]) (1, 0) = (a * (cf l (1, 0)).1 + (cf l (0, 1)).1, a * (cf l (1, 0)).2 + (cf l (0, 1)).2) ∧ cf (l ++ [a]) (0, 1) = cf l (1, 0) := by
  constructor
  · rw [cf_append]
    show cf l (a * 1 + 0, 1) = _
    rw [cf_lin]; simp
  · rw [cf_append]
    show cf l (a * 0 + 1, 0) = _
    rw [show a * 0 + 1 = 1 by simp]
theorem cf_gcd : ∀ l : List Int, Int.gcd (cf l (1, 0)).1 (cf l (1, 0)).2 = 1
  | [] => by decide
  | a :: l => by
    have h := cf_gcd l
    simp only [cf]
    rw [Int.gcd_comm] at h
    rw [Int.gcd_comm, Int.add_comm, Int.mul_comm, Int.gcd_add_mul_left_right, Int.gcd_comm]
    exact h
def Pos (l : List Int) : Prop := ∀ x ∈ l, 1 ≤ x
theorem cf_pos {x y : Int} (hx : 1 ≤ x) (hy : 0 ≤ y) : ∀ {l : List Int}, Pos l → 1 ≤ (cf l (x, y)).1 ∧ 0 ≤ (cf l (x, y)).2
  | [], _ => ⟨hx, hy⟩
  | a :: l, h => by
    have h1 := cf_pos hx hy (l := l) fun z hz => h z (List.mem_cons_of_mem _ hz)
    have h2 := h a (List.mem_cons_self ..)
    simp only [cf]
    have : 1 * (cf l (x, y)).1 ≤ a * (cf l (x, y)).1 := Int.mul_le_mul_of_nonneg_right h2 (by omega)
    omega
theorem cf_nn : ∀ {l : List Int}, Pos l → 0 ≤ (cf l (0, 1)).1 ∧ 0 ≤ (cf l (0, 1)).2
  | [], _ => by decide
  | a :: l, h => by
    have h1 := cf_nn (l := l) fun z hz => h z (List.mem_cons_of_mem _ hz)
    have h2 := h a (List.mem_cons_self ..)
    simp only [cf]
    have : 0 ≤ a * (cf l (0, 1)).1 := Int.mul_nonneg (by omega) h1.1
    omega
/-- Whoever goes on grows. -/
theorem cf_mono {l m : List Int} (hl : Pos l) (hm : Pos m) : (cf l (1, 0)).1 ≤ (cf (l ++ m) (1, 0)).1 ∧ (cf l (1, 0)).2 ≤ (cf (l ++ m) (1, 0)).2 := by
  obtain ⟨h1, h2⟩ := cf_pos (x := 1) (y := 0) (by decide) (by decide) hm
  obtain ⟨h3, h4⟩ := cf_nn hl
  obtain ⟨h5, h6⟩ := cf_pos (x := 1) (y := 0) (by decide) (by decide) hl
  rw [cf_append]
  generalize cf m (1, 0) = t at *
  obtain ⟨x, y⟩ := t
  rw [cf_lin x y]
  simp only at h1 h2 ⊢
  have e1 : 1 * (cf l (1, 0)).1 ≤ x * (cf l (1, 0)).1 := Int.mul_le_mul_of_nonneg_right h1 (by omega)
  have e2 : 1 * (cf l (1, 0)).2 ≤ x * (cf l (1, 0)).2 := Int.mul_le_mul_of_nonneg_right h1 (by omega)
  have e3 := Int.mul_nonneg h2 h3
  have e4 := Int.mul_nonneg h2 h4
  omega
theorem cf_le {l : List Int} (hl : Pos l) : (cf l (1, 0)).2 ≤ (cf l (1, 0)).1 := by
  cases l with
  | nil => decide
  | cons a l =>
    obtain ⟨h5, h6⟩ := cf_pos (x := 1) (y := 0) (by decide) (by decide) (l := l) fun z hz => hl z (List.mem_cons_of_mem _ hz)
    have h2 := hl a (List.mem_cons_self ..)
    simp only [cf]
    have : 1 * (cf l (1, 0)).1 ≤ a * (cf l (1, 0)).1 := Int.mul_le_mul_of_nonneg_right h2 (by omega)
    omega
theorem cf_long : ∀ {l : List Int}, Pos l → (2 : Int) ^ (l.length / 2) ≤ (cf l (1, 0)).1
  | [], _ => by decide
  | [a], h => by
    have := h a (List.mem_cons_self ..)
    simp [cf]; omega
  | a :: b :: l, h => by
    have h0 : Pos l := fun z hz => h z (List.mem_cons_of_mem _ (List.mem_cons_of_mem _ hz))
    have h1 := cf_long h0
    obtain ⟨h5, h6⟩ := cf_pos (x := 1) (y := 0) (by decide) (by decide) h0
    have ha := h a (List.mem_cons_self ..)
    have hb := h b (List.mem_cons_of_mem _ (List.mem_cons_self ..))
    simp only [cf, List.length_cons]
    rw [show (l.length + 1 + 1) / 2 = l.length / 2 + 1 by omega, Int.pow_succ]
    generalize (cf l (1, 0)).1 = m at *
    generalize (cf l (1, 0)).2 = n at *
    have e1 : 1 * m ≤ b * m := Int.mul_le_mul_of_nonneg_right hb (by omega)
    have e2 : 1 * (b * m + n) ≤ a * (b * m + n) := Int.mul_le_mul_of_nonneg_right ha (by omega)
    omega
theorem parts_pos : ∀ (n : Nat) {a b : Int}, b.natAbs ≤ n → 0 ≤ b → b ≤ a → Pos (parts a b)
  | n, a, b, hn, h0, h1 => by
    by_cases hb : b = 0
    · subst hb; rw [parts_zero]; intro x hx; cases hx
    · cases n with
      | zero => omega
      | succ n =>
        have hm := mod_less a hb
        have hm0 := Int.emod_nonneg a hb
        have hm1 := Int.emod_lt_of_pos a (show 0 < b by omega)
        have ih := parts_pos n (a := b) (b := a % b) (by omega) hm0 (by omega)
        rw [parts_ne a hb]
        intro x hx
        rcases List.mem_cons.1 hx with rfl | hx
        · exact Int.le_ediv_of_mul_le (by omega) (by omega)
        · exact ih x hx
theorem parts_cf : ∀ (n : Nat) {a b : Int}, b.natAbs ≤ n → Int.gcd a b = 1 → (0 < b ∨ b = 0 ∧ a = 1) → cf (parts a b) (1, 0) = (a, b)
  | n, a, b, hn, hg, h => by
    by_cases hb : b = 0
    · subst hb
      rw [parts_zero]
      rcases h with h | ⟨_, h⟩
      · omega
      · rw [h]; rfl
    · cases n with
      | zero => omega
      | succ n =>
        have hm := mod_less a hb
        have hm0 := Int.emod_nonneg a hb
        have hg' : Int.gcd b (a % b) = 1 := by rw [gcd_step, hg]
        have hbp : 0 < b := by omega
        have ih := parts_cf n (a := b) (b := a % b) (by omega) hg' (by
          by_cases h0 : a % b = 0
          · right
            rw [h0] at hg'
            simp at hg'
            exact ⟨h0, by omega⟩
          · left; omega)
        rw [parts_ne a hb]
        simp only [cf]
        rw [ih]
        simp only
        rw [Int.mul_comm, Int.mul_ediv_add_emod]
/-- Which beginning is taken. -/
def pick (most : Int) (l : List Int) : List Int → List Int
  | [] => l
  | a :: r => if (cf (l ++ [a]) (1, 0)).2 > most then l else pick most (l ++ [a]) r
theorem low_self {u v : Int} (hg : Int.gcd u v = 1) (hv : 0 < v) : lowP u v = u ∧ lowQ u v = v := by
  unfold lowP lowQ
  rw [hg, if_neg (by omega), if_neg (by omega)]
  simp
/-- The bounds of a beginning. -/
theorem cf_bound {p q a0 : Int} {t r : List Int} (hp : cf (a0 :: (t ++ r)) (1, 0) = (p, q)) (ht : Pos t) (hr : Pos r) (h0 : a0.natAbs ≤ p.natAbs) :
    1 ≤ (cf (a0 :: t) (1, 0)).2 ∧ (cf (a0 :: t) (1, 0)).2 ≤ q ∧ (cf (a0 :: t) (1, 0)).1.natAbs ≤ (((p.natAbs : Int) + 1) * q).natAbs := by
  obtain ⟨h1, h2⟩ := cf_pos (x := 1) (y := 0) (by decide) (by decide) ht
  have h3 := cf_mono ht hr
  have h4 := cf_le ht
  simp only [cf] at hp ⊢
  have hq : (cf (t ++ r) (1, 0)).1 = q := (Prod.mk.inj hp).2
  rw [hq] at h3
  generalize (cf t (1, 0)).1 = m at *
  generalize (cf t (1, 0)).2 = n at *
  refine ⟨h1, h3.1, ?_⟩
  have e1 : (a0 * m).natAbs = a0.natAbs * m.natAbs := Int.natAbs_mul ..
  have e2 : a0.natAbs * m.natAbs ≤ p.natAbs * q.natAbs := Nat.mul_le_mul h0 (by omega)
  have e3 : (((p.natAbs : Int) + 1) * q).natAbs = (p.natAbs + 1) * q.natAbs := by rw [Int.natAbs_mul]; congr 1
  rw [e3, Nat.add_mul]
  omega
end Go.Ql
end

section
/- The convergents of a fraction: the program's and the reference's. -/
namespace Go.Ql
/-- What is known of a fraction whose convergents are asked for: the first quotient, the others. -/
structure Near (p q a0 : Int) (T : List Int) : Prop where
  q0 : 0 < q
  div : a0 = p / q
  rest : T = parts q (p % q)
  pos : Pos T
  all : cf (a0 :: T) (1, 0) = (p, q)
  small : a0.natAbs ≤ p.natAbs
theorem near_of {p q : Int} (hq : 0 < q) (hg : Int.gcd p q = 1) : Near p q (p / q) (parts q (p % q)) := by
  have h0 := Int.emod_nonneg p (show q ≠ 0 by omega)
  have h1 := Int.emod_lt_of_pos p hq
  have h := parts_cf q.natAbs (a := p) (b := q) (Nat.le_refl _) hg (.inl hq)
  rw [parts_ne p (by omega)] at h
  refine ⟨hq, rfl, rfl, parts_pos _ (Nat.le_refl _) h0 (by omega), h, ?_⟩
  have hdm := Int.mul_ediv_add_emod p q
  rcases Int.le_total 0 p with hp | hp
  · have := Int.ediv_nonneg hp (show 0 ≤ q by omega)
    have h2 : 1 * (p / q) ≤ q * (p / q) := Int.mul_le_mul_of_nonneg_right (by omega) this
    omega
  · rcases Int.lt_or_le (p / q) 0 with h2 | h2
    · have h3 : p ≤ p / q := Int.le_ediv_of_mul_le hq (by
        have : p * q ≤ p * 1 := Int.mul_le_mul_of_nonpos_left hp (by omega)
        omega)
      omega
    · have : p / q = 0 := by
        have h3 : p / q ≤ 0 := by
          have : q * (p / q) ≤ 0 := by omega
          rcases Int.lt_or_le 0 (p / q) with h4 | h4
          · have := Int.mul_pos hq h4; omega
          · exact h4
        omega
      omega
/-- Each beginning's numbers have at most M places, in the program and in the reference. -/
structure Room (p q : Int) (M : Nat) : Prop where
  i : ∀ {x : Bool × List Int} {v : Int}, Rep 4294967296 x v → v.natAbs ≤ (((p.natAbs : Int) + 1) * q).natAbs → x.2.length ≤ M
  z : ∀ {x : Bool × List Int} {v : Int}, Rep 10000 x v → v.natAbs ≤ (((p.natAbs : Int) + 1) * q).natAbs → x.2.length ≤ M
theorem cf_room {p q a0 : Int} {t r : List Int} (hp : cf (a0 :: (t ++ r)) (1, 0) = (p, q)) (ht : Pos t) (hr : Pos r) (h0 : a0.natAbs ≤ p.natAbs) :
    0 < (cf (a0 :: t) (1, 0)).2 ∧ (cf (a0 :: t) (1, 0)).2.natAbs ≤ (((p.natAbs : Int) + 1) * q).natAbs ∧ (cf (a0 :: t) (1, 0)).1.natAbs ≤ (((p.natAbs : Int) + 1) * q).natAbs := by
  obtain ⟨h1, h2, h3⟩ := cf_bound hp ht hr h0
  refine ⟨by omega, ?_, h3⟩
  have e3 : (((p.natAbs : Int) + 1) * q).natAbs = (p.natAbs + 1) * q.natAbs := by rw [Int.natAbs_mul]; congr 1
  rw [e3, Nat.add_mul]
  omega
theorem mul_big {p q v : Int} (hq : 0 < q) (h : v.natAbs ≤ q.natAbs ∨ v.natAbs ≤ p.natAbs) : v.natAbs ≤ (((p.natAbs : Int) + 1) * q).natAbs := by
  have e3 : (((p.natAbs : Int) + 1) * q).natAbs = (p.natAbs + 1) * q.natAbs := by rw [Int.natAbs_mul]; congr 1
  rw [e3]
  have h1 : 1 * q.natAbs ≤ (p.natAbs + 1) * q.natAbs := Nat.mul_le_mul_right _ (by omega)
  have h2 : (p.natAbs + 1) * 1 ≤ (p.natAbs + 1) * q.natAbs := Nat.mul_le_mul_left _ (by omega)
  omega
theorem Pos.left {l m : List Int} (h : Pos (l ++ m)) : Pos l := fun x hx => h x (List.mem_append_left _ hx)
theorem Pos.right {l m : List Int} (h : Pos (l ++ m)) : Pos m := fun x hx => h x (List.mem_append_right _ hx)
theorem sgn_gt {u v : Int} : decide (sgn (u - v) > 0) = decide (u > v) := by
  unfold sgn
  rw [decide_eq_decide]
  split
  · simp; omega
  · split <;> simp <;> omega
theorem near_ok {x g : Fr} {p q m : Int} {L : Nat} (hx : FF x g p q L) (hL : L < 2000) (hg : Int.gcd p q = 1) {M : Nat} (hM : M < 20000) (room : Room p q M)
    {mo : Bool × List Int} (hm : Rep 4294967296 mo m) (lm : mo.2.length < 20000) {z0 z1 : Bool × List Int}
    (hz0 : Rep 10000 z0 (cf (pick m [p / q] (parts q (p % q))) (1, 0)).1) (hz1 : Rep 10000 z1 (cf (pick m [p / q] (parts q (p % q))) (1, 0)).2) (l0 : z0.2.length ≤ M) (l1 : z1.2.length ≤ M) :
    ∃ z, W.whole_Near x mo = some z ∧ FF z (z0, z1) (cf (pick m [p / q] (parts q (p % q))) (1, 0)).1 (cf (pick m [p / q] (parts q (p % q))) (1, 0)).2 (M + 1) := by
  have hB : (1 : Int) < 4294967296 := by decide
  have nr := near_of hx.pos hg
  generalize ha0 : p / q = a0 at *
  generalize hT : parts q (p % q) = T at *
  obtain ⟨bx, bx1, bx2, bx3⟩ := below_ok hx.x2 (by have := hx.l2; omega)
  have hparts : W.whole_Frac_Parts x = some (x.1, bx) := by
    unfold W.whole_Frac_Parts W.whole_Frac_Parts.c1
    simp only [pair_eta, bx1, bnd_val]
  have hqp := hx.pos
  obtain ⟨d, r, d1, d2, d3, d4, d5⟩ := idiv_ok hx.x1 bx2 (by have := hx.l1; omega) (by have := hx.l2; omega) (by omega)
  rw [ha0] at d2
  obtain ⟨o, o1, o2, o3⟩ := of_ok (n := 1) (by decide)
  have c3 : W.whole_Near.c3 Option.some = some (o.1, o.2, o.1, o.2) := by
    unfold W.whole_Near.c3
    rw [o1, bnd_val, bnd_val]
  have hbxl := room.i bx2 (mul_big hqp (.inl (Nat.le_refl _)))
  have hr0 := Int.emod_nonneg p (show q ≠ 0 by omega)
  have hr1 := Int.emod_lt_of_pos p hqp
  have hrl := room.i d3 (mul_big hqp (.inl (by omega)))
  obtain ⟨s, i1, i2, i3⟩ := iter_loop
    (f := fun s : Bool × List Int × Bool × List Int × Bool × List Int × Bool × List Int × Bool × List Int × Bool × List Int × Bool × List Int × Bool × List Int ↦
      W.whole_Near.c100004 mo.1 mo.2 (Prod.fst s) (Prod.fst (Prod.snd s)) (Prod.fst (Prod.snd (Prod.snd s))) (Prod.fst (Prod.snd (Prod.snd (Prod.snd s)))) (Prod.fst (Prod.snd (Prod.snd (Prod.snd (Prod.snd s))))) (Prod.fst (Prod.snd (Prod.snd (Prod.snd (Prod.snd (Prod.snd s)))))) (Prod.fst (Prod.snd (Prod.snd (Prod.snd (Prod.snd (Prod.snd (Prod.snd s))))))) (Prod.fst (Prod.snd (Prod.snd (Prod.snd (Prod.snd (Prod.snd (Prod.snd (Prod.snd s)))))))) (Prod.fst (Prod.snd (Prod.snd (Prod.snd (Prod.snd (Prod.snd (Prod.snd (Prod.snd (Prod.snd s))))))))) (Prod.fst (Prod.snd (Prod.snd (Prod.snd (Prod.snd (Prod.snd (Prod.snd (Prod.snd (Prod.snd (Prod.snd s)))))))))) (Prod.fst (Prod.snd (Prod.snd (Prod.snd (Prod.snd (Prod.snd (Prod.snd (Prod.snd (Prod.snd (Prod.snd (Prod.snd s))))))))))) (Prod.fst (Prod.snd (Prod.snd (Prod.snd (Prod.snd (Prod.snd (Prod.snd (Prod.snd (Prod.snd (Prod.snd (Prod.snd (Prod.snd s)))))))))))) (Prod.fst (Prod.snd (Prod.snd (Prod.snd (Prod.snd (Prod.snd (Prod.snd (Prod.snd (Prod.snd (Prod.snd (Prod.snd (Prod.snd (Prod.snd s))))))))))))) (Prod.fst (Prod.snd (Prod.snd (Prod.snd (Prod.snd (Prod.snd (Prod.snd (Prod.snd (Prod.snd (Prod.snd (Prod.snd (Prod.snd (Prod.snd (Prod.snd s)))))))))))))) (Prod.fst (Prod.snd (Prod.snd (Prod.snd (Prod.snd (Prod.snd (Prod.snd (Prod.snd (Prod.snd (Prod.snd (Prod.snd (Prod.snd (Prod.snd (Prod.snd (Prod.snd s))))))))))))))) (Prod.snd (Prod.snd (Prod.snd (Prod.snd (Prod.snd (Prod.snd (Prod.snd (Prod.snd (Prod.snd (Prod.snd (Prod.snd (Prod.snd (Prod.snd (Prod.snd (Prod.snd s))))))))))))))) Option.some)
    (J := fun (xa, xb, b0, b1, _, _, r0, r1, e0, e1, f0, f1, g0, g1, h0, h1) => ∃ (t : List Int) (Bv R : Int), T = t ++ parts Bv R ∧ 0 < Bv ∧ 0 ≤ R ∧ R < Bv ∧ Bv ≤ q ∧ Rep 4294967296 (b0, b1) Bv ∧ Rep 4294967296 (r0, r1) R ∧
      Rep 4294967296 (e0, e1) (cf (a0 :: t) (0, 1)).1 ∧ Rep 4294967296 (f0, f1) (cf (a0 :: t) (0, 1)).2 ∧ Rep 4294967296 (g0, g1) (cf (a0 :: t) (1, 0)).1 ∧ Rep 4294967296 (h0, h1) (cf (a0 :: t) (1, 0)).2 ∧
      e1.length ≤ M + 2 ∧ f1.length ≤ M + 2 ∧ pick m (a0 :: t) (parts Bv R) = pick m [a0] T)
    (Q := fun (xa, xb, b0, b1, _, _, r0, r1, e0, e1, f0, f1, g0, g1, h0, h1) => Rep 4294967296 (g0, g1) (cf (pick m [a0] T) (1, 0)).1 ∧ Rep 4294967296 (h0, h1) (cf (pick m [a0] T) (1, 0)).2)
    (fun s => (val 4294967296 s.2.2.2.2.2.2.2.1).toNat) (fun (xa, xb, b0, b1, s0, s1, r0, r1, e0, e1, f0, f1, g0, g1, h0, h1) ⟨t, Bv, R, k1, k2, k3, k4, k5, k6, k7, k8, k9, k10, k11, k12, k13, k14⟩ => by
      simp only at k12 k13 k14 ⊢
      unfold W.whole_Near.c100004
      rw [sign_ok k7, bnd_val]
      have hsg : decide (sgn R > 0) = decide (R > 0) := by
        have := sgn_gt (u := R) (v := 0)
        simpa using this
      rw [hsg]
      by_cases hR : R > 0
      · rw [br_pos hR]
        have k1' := k1
        rw [parts_ne Bv (by omega)] at k1 k14
        have hposT := nr.pos
        rw [k1] at hposT
        have hall := nr.all
        rw [k1] at hall
        obtain ⟨u1, u2, u3⟩ := cf_room hall hposT.left hposT.right nr.small
        have hall2 : cf (a0 :: ((t ++ [Bv / R]) ++ parts R (Bv % R))) (1, 0) = (p, q) := by rw [← hall]; simp
        have hpos2 : Pos ((t ++ [Bv / R]) ++ parts R (Bv % R)) := by
          have e : (t ++ [Bv / R]) ++ parts R (Bv % R) = t ++ (Bv / R :: parts R (Bv % R)) := by simp
          rw [e]; exact hposT
        obtain ⟨v1, v2, v3⟩ := cf_room hall2 hpos2.left hpos2.right nr.small
        have hsn := cf_snoc (a0 :: t) (Bv / R)
        rw [List.cons_append] at hsn
        have lb := room.i k6 (mul_big hqp (.inl (by omega)))
        have lr := room.i k7 (mul_big hqp (.inl (by omega)))
        have lg := room.i k10 u3
        have lh := room.i k11 u2
        simp only at lb lr lg lh
        obtain ⟨e, w, e1', e2, e3, e4, e5⟩ := idiv_ok k6 k7 (by simp only; omega) (by simp only; omega) (by omega)
        simp only at e4 e5
        obtain ⟨x1, x11, x12, x13⟩ := mul_ok e2 k10 (by omega) (by simp only; omega)
        obtain ⟨x2, x21, x22, x23⟩ := add_ok x12 k8 (by simp only at x13; omega) (by simp only; omega)
        obtain ⟨y1, y11, y12, y13⟩ := mul_ok e2 k11 (by omega) (by simp only; omega)
        obtain ⟨y2, y21, y22, y23⟩ := add_ok y12 k9 (by simp only at y13; omega) (by simp only; omega)
        have hX : Rep 4294967296 x2 (cf (a0 :: (t ++ [Bv / R])) (1, 0)).1 := x22.eq_of (by rw [hsn.1])
        have hY : Rep 4294967296 y2 (cf (a0 :: (t ++ [Bv / R])) (1, 0)).2 := y22.eq_of (by rw [hsn.1])
        have lX := room.i hX v3
        have lY := room.i hY v2
        have c7 : W.whole_Near.c7 e.1 e.2 e0 e1 f0 f1 g0 g1 h0 h1 Option.some = some (x2.1, x2.2, y2.1, y2.2) := by
          unfold W.whole_Near.c7
          simp only [pair_eta]
          simp only [x11, x21, y11, y21, bnd_val]
        have c5 : W.whole_Near.c5 Option.some = some () := rfl
        have c9 : W.whole_Near.c9 Option.some = some () := rfl
        simp only [c5, c9, e1', c7, bnd_val, pair_eta]
        rw [icmp_ok hY hm (by omega) (by omega), bnd_val, sgn_gt]
        have hpk : pick m (a0 :: t) (Bv / R :: parts R (Bv % R)) = if (cf (a0 :: (t ++ [Bv / R])) (1, 0)).2 > m then a0 :: t else pick m (a0 :: (t ++ [Bv / R])) (parts R (Bv % R)) := by
          simp only [pick, List.cons_append]
        by_cases hc : (cf (a0 :: (t ++ [Bv / R])) (1, 0)).2 > m
        · rw [br_pos hc]
          rw [hpk, if_pos hc] at k14
          refine Or.inl ⟨_, rfl, ?_, ?_⟩
          · rw [← k14]; exact k10
          · rw [← k14]; exact k11
        · rw [br_neg hc]
          rw [hpk, if_neg hc] at k14
          have hm1 := Int.emod_lt_of_pos Bv hR
          have hm0 := Int.emod_nonneg Bv (show R ≠ 0 by omega)
          refine Or.inr ⟨_, rfl, ⟨t ++ [Bv / R], R, Bv % R, by rw [k1]; simp, hR, hm0, hm1, by omega, k7, e3, ?_, ?_, hX, hY, by simp only; omega, by simp only; omega, k14⟩, ?_⟩
          · rw [hsn.2]; exact k10
          · rw [hsn.2]; exact k11
          · simp only
            have q1 := e3.absval (by decide)
            have q2 := k7.absval (by decide)
            simp only at q2
            omega
      · rw [br_neg hR]
        have : R = 0 := by omega
        subst this
        rw [parts_zero] at k14
        simp only [pick] at k14
        refine Or.inl ⟨_, rfl, ?_, ?_⟩
        · rw [← k14]; exact k10
        · rw [← k14]; exact k11)
    (s := (x.1.1, x.1.2, bx.1, bx.2, d.1, d.2, r.1, r.2, o.1, o.2, false, [], d.1, d.2, o.1, o.2))
    ⟨[], q, p % q, by rw [hT]; rfl, hqp, hr0, hr1, Int.le_refl _, bx2, d3, o2.eq_of (by simp [cf]), Rep.nil.eq_of (by simp [cf]), d2.eq_of (by simp [cf]), o2.eq_of (by simp [cf]), by omega, by simp, by rw [hT]⟩
  obtain ⟨xa, xb, b0, b1, s0, s1, r0, r1, e0, e1, f0, f1, g0, g1, h0, h1⟩ := s
  simp only at i2 i3
  have hpickP : ∀ (r l : List Int), (∃ r', pick m l r ++ r' = l ++ r) ∧ ∃ u, pick m l r = l ++ u := by
    intro r
    induction r with
    | nil => intro l; exact ⟨⟨[], by simp [pick]⟩, [], by simp [pick]⟩
    | cons a r ih =>
      intro l
      simp only [pick]
      split
      · exact ⟨⟨a :: r, rfl⟩, [], by simp⟩
      · obtain ⟨⟨r', h1⟩, u, h2⟩ := ih (l ++ [a])
        exact ⟨⟨r', by rw [h1]; simp⟩, a :: u, by rw [h2]; simp⟩
  obtain ⟨⟨r', hr'⟩, u, hu⟩ := hpickP T [a0]
  have hu : pick m [a0] T = a0 :: u := hu
  rw [hu] at hr' hz0 hz1 i2 i3 ⊢
  have hTu : T = u ++ r' := by simpa using hr'.symm
  have hposT := nr.pos
  rw [hTu] at hposT
  have hall := nr.all
  rw [hTu] at hall
  obtain ⟨u1, u2, u3⟩ := cf_room hall hposT.left hposT.right nr.small
  have hgcd := cf_gcd (a0 :: u)
  have hl1 := room.i i2 u3
  have hl2 := room.i i3 u2
  simp only at hl1 hl2
  obtain ⟨z, k, z1', z2', zz⟩ := lowest_ff i2 i3 hz0 hz1 (L := M) hl1 hl2 l0 l1 (by omega) (by omega)
  obtain ⟨q1, q2⟩ := low_self hgcd u1
  rw [q1, q2] at zz
  have hk : k = (z0, z1) ∨ True := Or.inr trivial
  refine ⟨z, ?_, ⟨zz.x1, zz.x2, hz0, hz1, u1, zz.l1, zz.l2, by simp only; omega, by simp only; omega⟩⟩
  unfold W.whole_Near
  simp only [pair_eta]
  rw [hparts, bnd_val]
  simp only [pair_eta]
  rw [d1, bnd_val, c3, bnd_val]
  simp only
  rw [i1, bnd_val]
  simp only
  rw [z1', bnd_val]
end Go.Ql
end

section
/- The convergents of a fraction: the reference's; the law. -/
namespace Go.Ql
theorem digs_any {B : Int} (hB : 1 < B) : ∀ (n : Nat), ∃ l : List Int, Dig B l ∧ Trim l ∧ val B l = n := by
  intro n
  induction n using Nat.strongRecOn with
  | ind n ih =>
    by_cases h0 : n = 0
    · subst h0; exact ⟨[], Dig.nil, fun h => absurd rfl h, rfl⟩
    · have hlt : ((n : Int) / B).toNat < n := by
        have := Int.ediv_lt_self_of_pos_of_ne_one (x := (n : Int)) (y := B) (by omega) (by omega)
        have := Int.ediv_nonneg (show (0 : Int) ≤ n by omega) (show 0 ≤ B by omega)
        omega
      obtain ⟨l, h1, h2, h3⟩ := ih _ hlt
      have hd0 := Int.ediv_nonneg (show (0 : Int) ≤ n by omega) (show 0 ≤ B by omega)
      have hm0 := Int.emod_nonneg (n : Int) (show B ≠ 0 by omega)
      have hm1 := Int.emod_lt_of_pos (n : Int) (show 0 < B by omega)
      have hdm := Int.mul_ediv_add_emod (n : Int) B
      rw [show ((((n : Int) / B).toNat : Nat) : Int) = (n : Int) / B by omega] at h3
      refine ⟨((n : Int) % B) :: l, Dig.cons ⟨hm0, hm1⟩ h1, fun _ => ?_, by simp only [val]; rw [h3]; omega⟩
      cases l with
      | nil =>
        simp only [val] at h3
        rw [← h3] at hdm
        simp; omega
      | cons a l =>
        have := h2 (by simp)
        simpa using this
theorem rep_any {B : Int} (hB : 1 < B) (v : Int) : ∃ x, Rep B x v := by
  obtain ⟨l, h1, h2, h3⟩ := digs_any hB v.natAbs
  refine ⟨(decide (v < 0), l), h1, h2, fun h e => ?_, ?_⟩
  · have h := of_decide_eq_true h
    simp only at e
    rw [e] at h3
    simp only [val] at h3
    omega
  · simp only [h3]
    by_cases h : v < 0
    · rw [if_pos (decide_eq_true h)]; omega
    · rw [if_neg (by simpa using h)]; omega
section
variable {p q : Int} {M : Nat}
theorem ff_any (room : Room p q M) {c d : Bool × List Int} {u v : Int} (hc : Rep 10000 c u) (hd : Rep 10000 d v) (hv : 0 < v) (bu : u.natAbs ≤ (((p.natAbs : Int) + 1) * q).natAbs) (bv : v.natAbs ≤ (((p.natAbs : Int) + 1) * q).natAbs) :
    ∃ x, FF x (c, d) u v M := by
  obtain ⟨a, ha⟩ := rep_any (B := 4294967296) (by decide) u
  obtain ⟨b, hb⟩ := rep_any (B := 4294967296) (by decide) (v - 1)
  exact ⟨(a, b), ha, hb, hc, hd, hv, room.i ha bu, room.i hb (by omega), room.z hc bu, room.z hd bv⟩
theorem fover_z (room : Room p q M) (hM : M < 5000) {c d : Bool × List Int} {u v : Int} (hc : Rep 10000 c u) (hd : Rep 10000 d v) (hv : 0 < v) (bu : u.natAbs ≤ (((p.natAbs : Int) + 1) * q).natAbs) (bv : v.natAbs ≤ (((p.natAbs : Int) + 1) * q).natAbs) (hg : Int.gcd u v = 1) :
    ∃ k, W.R_fover c d = some k ∧ Rep 10000 k.1 u ∧ Rep 10000 k.2 v := by
  obtain ⟨a, ha⟩ := rep_any (B := 4294967296) (by decide) u
  obtain ⟨b, hb⟩ := rep_any (B := 4294967296) (by decide) v
  obtain ⟨z, k, _, k1, zz⟩ := lowest_ff ha hb hc hd (L := M) (room.i ha bu) (room.i hb bv) (room.z hc bu) (room.z hd bv) (by omega) (by omega)
  obtain ⟨h1, h2⟩ := low_self hg hv
  exact ⟨k, fover_of k1, zz.g1.eq_of h1, zz.g2.eq_of h2⟩
end
def Reps (M : Nat) (xs : List (Bool × List Int)) (vs : List Int) : Prop := xs.length = vs.length ∧ ∀ (i : Nat) (h : i < vs.length), ∃ x, xs[i]? = some x ∧ Rep 10000 x vs[i] ∧ x.2.length ≤ M
theorem Reps.nil {M : Nat} : Reps M [] [] := ⟨rfl, fun i h => by simp at h⟩
theorem Reps.snoc {M : Nat} {xs : List (Bool × List Int)} {vs : List Int} {x : Bool × List Int} {v : Int} (h : Reps M xs vs) (hx : Rep 10000 x v) (hl : x.2.length ≤ M) : Reps M (xs ++ [x]) (vs ++ [v]) := by
  refine ⟨by simp [h.1], fun i hi => ?_⟩
  by_cases h1 : i < vs.length
  · obtain ⟨y, h2, h3, h4⟩ := h.2 i h1
    refine ⟨y, by rw [List.getElem?_append_left (by rw [h.1]; exact h1), h2], ?_, h4⟩
    rw [List.getElem_append_left h1]; exact h3
  · have : i = vs.length := by simp at hi; omega
    subst this
    refine ⟨x, by rw [List.getElem?_append_right (by rw [h.1]; omega), h.1]; simp, ?_, hl⟩
    simpa using hx
theorem cf_tail {t : Int × Int} (h1 : 1 ≤ t.1) (h2 : 0 ≤ t.2) : ∀ {l : List Int}, Pos l → t.1 ≤ (cf l t).1
  | [], _ => Int.le_refl _
  | a :: l, h => by
    have h3 := cf_tail h1 h2 (l := l) fun z hz => h z (List.mem_cons_of_mem _ hz)
    have h4 := h a (List.mem_cons_self ..)
    obtain ⟨x, y⟩ := t
    have h5 := cf_pos (x := x) (y := y) h1 h2 (l := l) fun z hz => h z (List.mem_cons_of_mem _ hz)
    simp only [cf]
    have : 1 * (cf l (x, y)).1 ≤ a * (cf l (x, y)).1 := Int.mul_le_mul_of_nonneg_right h4 (by omega)
    simp only at h3 ⊢
    omega
theorem Pos.take {l : List Int} (h : Pos l) (n : Nat) : Pos (l.take n) := fun x hx => h x (List.mem_of_mem_take hx)
theorem Pos.drop {l : List Int} (h : Pos l) (n : Nat) : Pos (l.drop n) := fun x hx => h x (List.mem_of_mem_drop hx)
/-- A part of the list says no more than the whole. -/
theorem cf_part {T : List Int} (h : Pos T) (n k : Nat) : (cf ((T.take n).drop k) (1, 0)).1 ≤ (cf T (1, 0)).1 := by
  have h1 := cf_mono (h.take n |>.drop k) (h.drop n)
  have h2 : (T.take n).drop k ++ T.drop n = T.drop k ∨ n < k := by
    rcases Nat.lt_or_ge n k with hk | hk
    · exact Or.inr hk
    · left
      have e : T.drop k = (T.take n ++ T.drop n).drop k := by rw [List.take_append_drop]
      rw [e]
      by_cases hl : n ≤ T.length
      · rw [List.drop_append_of_le_length (by rw [List.length_take]; omega)]
      · have e2 : T.drop n = [] := List.drop_eq_nil_of_le (by omega)
        rw [e2, List.append_nil, List.append_nil]
  have h3 := cf_pos (x := 1) (y := 0) (by decide) (by decide) (h.drop k)
  have h4 := cf_tail (t := cf (T.drop k) (1, 0)) h3.1 h3.2 (h.take k)
  rw [← cf_append, List.take_append_drop] at h4
  rcases h2 with h2 | h2
  · rw [h2] at h1; omega
  · have : (T.take n).drop k = [] := List.drop_eq_nil_of_le (by rw [List.length_take]; omega)
    rw [this]
    have h5 := cf_pos (x := 1) (y := 0) (by decide) (by decide) h
    show (1 : Int) ≤ _
    omega
theorem znear_ok {g : Fr} {p q m : Int} (h1 : Rep 10000 g.1 p) (h2 : Rep 10000 g.2 q) (hq : 0 < q) (hg : Int.gcd p q = 1) {M : Nat} (hM : M < 5000) (room : Room p q M)
    {rm : Bool × List Int} (hm : Rep 10000 rm m) (lm : rm.2.length < 20000) :
    ∃ z0 z1, W.R_FNear g rm = some (z0, z1) ∧ Rep 10000 z0 (cf (pick m [p / q] (parts q (p % q))) (1, 0)).1 ∧ Rep 10000 z1 (cf (pick m [p / q] (parts q (p % q))) (1, 0)).2 ∧ z0.2.length ≤ M ∧ z1.2.length ≤ M := by
  have nr := near_of hq hg
  have hL0 : parts p q = p / q :: parts q (p % q) := parts_ne p (by omega)
  generalize ha0 : p / q = a0 at *
  generalize hT : parts q (p % q) = T at *
  have hcT : (cf T (1, 0)).1 = q := by
    have := nr.all
    simp only [cf] at this
    exact (Prod.mk.inj this).2
  have hTlen : T.length ≤ 64 * M + 1 := by
    have h3 := cf_long nr.pos
    rw [hcT] at h3
    obtain ⟨w, hw⟩ := rep_any (B := 4294967296) (by decide) q
    have h4 := room.i hw (mul_big hq (.inl (Nat.le_refl _)))
    have h5 := val_lt (B := 4294967296) (by decide) hw.dig
    rw [hw.absval (by decide)] at h5
    have h6 : (4294967296 : Int) ^ w.2.length ≤ 4294967296 ^ M := pow_le (by decide) h4
    have h7 : (4294967296 : Int) ^ M = 2 ^ (32 * M) := by
      rw [show (4294967296 : Int) = 2 ^ 32 from rfl, ← Int.pow_mul]
    rcases Nat.lt_or_ge (T.length / 2) (32 * M + 1) with h8 | h8
    · omega
    · have : (2 : Int) ^ (32 * M) ≤ 2 ^ (T.length / 2) := pow_le (by decide) (by omega)
      omega
  have big1 : ∀ {v : Int}, v.natAbs ≤ q.natAbs ∨ v.natAbs ≤ p.natAbs → v.natAbs ≤ (((p.natAbs : Int) + 1) * q).natAbs := fun h => mul_big hq h
  -- the quotients
  obtain ⟨⟨ps, _, _, _, _⟩, i1, i2⟩ := iter_loop
    (f := fun s : List (Bool × List Int) × Bool × List Int × Bool × List Int ↦ W.R_FNear.c100003 (Prod.fst s) (Prod.fst (Prod.snd s)) (Prod.fst (Prod.snd (Prod.snd s))) (Prod.fst (Prod.snd (Prod.snd (Prod.snd s)))) (Prod.snd (Prod.snd (Prod.snd (Prod.snd s)))) Option.some)
    (J := fun (ps, b0, b1, c0, c1) => ∃ (l : List Int) (A Bv : Int), Reps M ps l ∧ Rep 10000 (b0, b1) A ∧ Rep 10000 (c0, c1) Bv ∧ 0 ≤ Bv ∧ Bv ≤ q ∧ (A.natAbs ≤ q.natAbs ∧ Bv ≤ A ∧ True ∨ A = p ∧ Bv = q) ∧ l ++ parts A Bv = a0 :: T)
    (Q := fun (ps, _) => Reps M ps (a0 :: T))
    (fun s => (val 10000 s.2.2.2.2).toNat) (fun (ps, b0, b1, c0, c1) ⟨l, A, Bv, k1, k2, k3, k4, k5, k6, k7⟩ => by
      have hpo := k3.pos_of (by decide)
      unfold W.R_FNear.c100003
      simp only at hpo ⊢
      by_cases h0 : Bv = 0
      · rw [br_neg (fun h => hpo.1 h h0)]
        subst h0
        rw [parts_zero, List.append_nil] at k7
        exact Or.inl ⟨_, rfl, k7 ▸ k1⟩
      · rw [br_pos (hpo.2 h0)]
        have hA : A.natAbs ≤ (((p.natAbs : Int) + 1) * q).natAbs := big1 (by rcases k6 with k6 | k6 <;> omega)
        have hBb : Bv.natAbs ≤ (((p.natAbs : Int) + 1) * q).natAbs := big1 (by omega)
        have la := room.z k2 hA
        have lb := room.z k3 hBb
        simp only at la lb
        obtain ⟨d, r, d1, d2, d3, d4, d5⟩ := zdiv_ok k2 k3 (by simp only; omega) (by simp only; omega) h0
        rw [parts_ne A h0] at k7
        have hll : l.length ≤ 64 * M + 2 := by
          have := congrArg List.length k7
          simp at this; omega
        have hdl : d.2.length ≤ M := by
          apply room.z d2
          rcases k6 with k6 | k6
          · apply big1
            left
            have h9 := Int.ediv_nonneg (show 0 ≤ A by omega) k4
            have h10 : A / Bv ≤ A := by
              have hdm := Int.mul_ediv_add_emod A Bv
              have := Int.emod_nonneg A h0
              have : 1 * (A / Bv) ≤ Bv * (A / Bv) := Int.mul_le_mul_of_nonneg_right (by omega) h9
              omega
            omega
          · rw [k6.1, k6.2, ha0]
            exact big1 (.inr nr.small)
        have c6 : W.R_FNear.c6 Option.some = some () := rfl
        rw [d1, bnd_val, okIf_true (by simp [k1.1]; omega), bnd_val, c6, bnd_val]
        have hm0 := Int.emod_nonneg A h0
        have hm1 := Int.emod_lt_of_pos A (show 0 < Bv by omega)
        refine Or.inr ⟨_, rfl, ⟨l ++ [A / Bv], Bv, A % Bv, k1.snoc d2 hdl, k3, d3, hm0, by omega, .inl ⟨by omega, by omega, trivial⟩, by rw [← k7]; simp⟩, ?_⟩
        simp only
        have q1 := d3.absval (by decide)
        have q2 := k3.absval (by decide)
        simp only at q2
        omega)
    (s := ([], g.1.1, g.1.2, g.2.1, g.2.2)) ⟨[], p, q, Reps.nil, h1, h2, by omega, Int.le_refl _, .inr ⟨rfl, rfl⟩, by rw [hL0]; rfl⟩
  simp only at i2
  have hplen : ps.length = T.length + 1 := by rw [i2.1]; simp
  obtain ⟨x0, x01, x02, x03⟩ := i2.2 0 (by simp)
  obtain ⟨o, o1, o2, o3⟩ := zof_ok (n := 1) (by decide)
  have c7 : W.R_FNear.c7 ps Option.some = some (x0.1, x0.2, o.1, o.2) := by
    unfold W.R_FNear.c7
    rw [inR_of (by omega) (by omega), bnd_val, idx_nat (i := 0) 0 rfl x01, bnd_val, o1, bnd_val]
  -- each beginning, from its end
  have inner : ∀ k : Nat, 1 ≤ k → k ≤ T.length → ∃ (j : Int) (e0 : Bool) (e1 : List Int) (f0 : Bool) (f1 : List Int) (c : Bool × List Int × Bool × List Int), W.R_FNear.c11 ((k : Int) + 1) ps Option.some = some c ∧
      iter (fun s : Int × Bool × List Int × Bool × List Int ↦ W.R_FNear.c100013 (Prod.fst s) ps (Prod.fst (Prod.snd s)) (Prod.fst (Prod.snd (Prod.snd s))) (Prod.fst (Prod.snd (Prod.snd (Prod.snd s)))) (Prod.snd (Prod.snd (Prod.snd (Prod.snd s)))) Option.some)
        ((k : Int) - 1, Prod.fst c, Prod.fst (Prod.snd c), Prod.fst (Prod.snd (Prod.snd c)), Prod.snd (Prod.snd (Prod.snd c))) = some (j, e0, e1, f0, f1) ∧
      Rep 10000 (e0, e1) (cf ((a0 :: T).take (k + 1)) (1, 0)).1 ∧ Rep 10000 (f0, f1) (cf ((a0 :: T).take (k + 1)) (1, 0)).2 := by
    intro k hk1 hk2
    obtain ⟨y, y1, y2, y3⟩ := i2.2 k (by simp; omega)
    have c11 : W.R_FNear.c11 ((k : Int) + 1) ps Option.some = some (y.1, y.2, o.1, o.2) := by
      unfold W.R_FNear.c11
      rw [wrap_i64 (by omega), inR_of (by omega) (by omega), bnd_val, idx_nat k (by omega) y1, bnd_val, o1, bnd_val]
    obtain ⟨⟨j, e0, e1, f0, f1⟩, j1, j2, j3⟩ := iter_loop
      (f := fun s : Int × Bool × List Int × Bool × List Int ↦ W.R_FNear.c100013 (Prod.fst s) ps (Prod.fst (Prod.snd s)) (Prod.fst (Prod.snd (Prod.snd s))) (Prod.fst (Prod.snd (Prod.snd (Prod.snd s)))) (Prod.snd (Prod.snd (Prod.snd (Prod.snd s)))) Option.some)
      (J := fun (j, e0, e1, f0, f1) => ∃ n : Nat, j = (n : Int) - 1 ∧ n ≤ k ∧ Rep 10000 (e0, e1) (cf (((a0 :: T).take (k + 1)).drop n) (1, 0)).1 ∧ Rep 10000 (f0, f1) (cf (((a0 :: T).take (k + 1)).drop n) (1, 0)).2)
      (Q := fun (j, e0, e1, f0, f1) => Rep 10000 (e0, e1) (cf ((a0 :: T).take (k + 1)) (1, 0)).1 ∧ Rep 10000 (f0, f1) (cf ((a0 :: T).take (k + 1)) (1, 0)).2)
      (fun s => (s.1 + 1).toNat) (fun (j, e0, e1, f0, f1) ⟨n, n1, n2, n3, n4⟩ => by
        unfold W.R_FNear.c100013
        simp only
        subst n1
        cases n with
        | zero =>
          rw [br_neg (by omega)]
          exact Or.inl ⟨_, rfl, n3, n4⟩
        | succ n =>
          rw [show ((n + 1 : Nat) : Int) - 1 = (n : Int) by omega, br_pos (by omega)]
          have hsub : ((a0 :: T).take (k + 1)).drop (n + 1) = (T.take k).drop n := by simp
          rw [hsub] at n3 n4
          have hP : Pos ((T.take k).drop n) := (nr.pos.take k).drop n
          obtain ⟨s1, s2⟩ := cf_pos (x := 1) (y := 0) (by decide) (by decide) hP
          have s3 := cf_le hP
          have s4 := cf_part nr.pos k n
          rw [hcT] at s4
          have s5 := cf_gcd ((T.take k).drop n)
          obtain ⟨z, z1, z2, z3⟩ := i2.2 n (by simp; omega)
          have hzv : ((a0 :: T)[n]'(by simp; omega)).natAbs ≤ (((p.natAbs : Int) + 1) * q).natAbs := by
            cases n with
            | zero => exact big1 (.inr nr.small)
            | succ n =>
              have hmem : (T[n]'(by omega)) ∈ T := List.getElem_mem _
              have hge := nr.pos _ hmem
              have := cf_part nr.pos (n + 1) n
              have hone : (T.take (n + 1)).drop n = [T[n]'(by omega)] := by
                rw [take_snoc (show n < T.length by omega), List.drop_append_of_le_length (by rw [List.length_take]; omega), List.drop_eq_nil_of_le (by rw [List.length_take]; omega)]
                rfl
              rw [hone, hcT] at this
              simp only [cf] at this
              apply big1; left
              simp only [List.getElem_cons_succ]
              omega
          obtain ⟨w, w1, w2, w3⟩ := fover_z room hM n4 n3 (by omega) (big1 (.inl (by omega))) (big1 (.inl (by omega))) (by rw [Int.gcd_comm]; exact s5)
          obtain ⟨xa, hxa⟩ := ff_any room z2 o2 (by decide) hzv (big1 (.inl (by omega)))
          obtain ⟨xb, hxb⟩ := ff_any room w2 w3 (by omega) (big1 (.inl (by omega))) (big1 (.inl (by omega)))
          obtain ⟨_, t, _, t1, tt⟩ := add_ff hxa hxb (by omega)
          have hg' : Int.gcd (((a0 :: T)[n]'(by simp; omega)) * (cf ((T.take k).drop n) (1, 0)).1 + (cf ((T.take k).drop n) (1, 0)).2 * 1) (1 * (cf ((T.take k).drop n) (1, 0)).1) = 1 := by
            rw [Int.mul_one, Int.one_mul, Int.gcd_comm, Int.add_comm, Int.mul_comm, Int.gcd_add_mul_left_right]
            exact s5
          obtain ⟨g1, g2⟩ := low_self hg' (by omega)
          have ht1 := tt.g1
          have ht2 := tt.g2
          rw [g1] at ht1
          rw [g2] at ht2
          have hdr : ((a0 :: T).take (k + 1)).drop n = ((a0 :: T)[n]'(by simp; omega)) :: (T.take k).drop n := by
            rw [← hsub, List.drop_eq_getElem_cons (i := n) (by simp; omega), List.getElem_take]
          have c15 : W.R_FNear.c15 (n : Int) ps e0 e1 f0 f1 Option.some = some (t.1.1, t.1.2, t.2.1, t.2.2) := by
            unfold W.R_FNear.c15
            rw [inR_of (by omega) (by omega), bnd_val, idx_nat n rfl z1, bnd_val, o1, bnd_val, w1, bnd_val]
            simp only [pair_eta]
            rw [t1, bnd_val]
          rw [c15, bnd_val, wrap_i64 (by omega)]
          refine Or.inr ⟨_, rfl, ⟨n, rfl, by omega, ?_, ?_⟩, by simp only; omega⟩
          · rw [hdr]; simp only [cf]
            exact ht1.eq_of (by rw [Int.mul_one])
          · rw [hdr]; simp only [cf]
            exact ht2.eq_of (by rw [Int.one_mul]))
      (s := ((k : Int) - 1, y.1, y.2, o.1, o.2)) ⟨k, rfl, Nat.le_refl _, by
        have e : ((a0 :: T).take (k + 1)).drop k = [(a0 :: T)[k]'(by simp; omega)] := by
          rw [take_snoc (show k < (a0 :: T).length by simp; omega), List.drop_append_of_le_length (by rw [List.length_take]; simp; omega), List.drop_eq_nil_of_le (by rw [List.length_take]; omega)]
          rfl
        rw [e]
        exact ⟨y2.eq_of (by simp [cf]), o2.eq_of (by simp [cf])⟩⟩
    exact ⟨j, e0, e1, f0, f1, _, c11, j1, j2, j3⟩
  have bounds : ∀ k : Nat, 1 ≤ k → k ≤ T.length + 1 → 0 < (cf ((a0 :: T).take k) (1, 0)).2 ∧ (cf ((a0 :: T).take k) (1, 0)).2.natAbs ≤ (((p.natAbs : Int) + 1) * q).natAbs ∧ (cf ((a0 :: T).take k) (1, 0)).1.natAbs ≤ (((p.natAbs : Int) + 1) * q).natAbs := by
    intro k hk1 hk2
    obtain ⟨n, rfl⟩ : ∃ n, k = n + 1 := ⟨k - 1, by omega⟩
    rw [List.take_succ_cons]
    exact cf_room (r := T.drop n) (by rw [List.take_append_drop]; exact nr.all) (nr.pos.take n) (nr.pos.drop n) nr.small
  obtain ⟨w, j1, j2⟩ := iter_loop
    (f := fun s : Int × Bool × List Int × Bool × List Int ↦ W.R_FNear.c100009 (Prod.fst s) rm.1 rm.2 ps (Prod.fst (Prod.snd s)) (Prod.fst (Prod.snd (Prod.snd s))) (Prod.fst (Prod.snd (Prod.snd (Prod.snd s)))) (Prod.snd (Prod.snd (Prod.snd (Prod.snd s)))) Option.some)
    (J := fun (n, b0, b1, c0, c1) => ∃ k : Nat, n = (k : Int) + 1 ∧ 1 ≤ k ∧ k ≤ T.length + 1 ∧ Rep 10000 (b0, b1) (cf ((a0 :: T).take k) (1, 0)).1 ∧ Rep 10000 (c0, c1) (cf ((a0 :: T).take k) (1, 0)).2 ∧ pick m ((a0 :: T).take k) ((a0 :: T).drop k) = pick m [a0] T)
    (Q := fun r => ∃ (z0 z1 : Bool × List Int), (sel r (fun u => some (((u.2.1, u.2.2.1), (u.2.2.2.1, u.2.2.2.2.1)) : Fr)) (fun v => some ((v.2.1, v.2.2.1), (v.2.2.2.1, v.2.2.2.2)))) = some (z0, z1) ∧ Rep 10000 z0 (cf (pick m [a0] T) (1, 0)).1 ∧ Rep 10000 z1 (cf (pick m [a0] T) (1, 0)).2 ∧ z0.2.length ≤ M ∧ z1.2.length ≤ M)
    (fun s => (T.length + 2 - s.1.toNat)) (fun (n, b0, b1, c0, c1) ⟨k, k1, k2, k3, k4, k5, k6⟩ => by
      subst k1
      unfold W.R_FNear.c100009
      simp only
      obtain ⟨u1, u2, u3⟩ := bounds k k2 k3
      by_cases hk : k ≤ T.length
      · rw [br_pos (by omega)]
        obtain ⟨j, e0, e1, f0, f1, c, m1, m2, m3, m4⟩ := inner k k2 hk
        obtain ⟨v1, v2, v3⟩ := bounds (k + 1) (by omega) (by omega)
        have lf := room.z m4 v2
        simp only at lf
        rw [m1, bnd_val, wrap_i64 (by omega), show (k : Int) + 1 - 2 = (k : Int) - 1 by omega, m2, bnd_val]
        simp only [pair_eta]
        rw [zcmp_ok m4 hm (by simp only; omega) (by omega), bnd_val, sgn_gt]
        have hdr : (a0 :: T).drop k = ((a0 :: T)[k]'(by simp; omega)) :: (a0 :: T).drop (k + 1) := List.drop_eq_getElem_cons (by simp; omega)
        have htk : (a0 :: T).take k ++ [(a0 :: T)[k]'(by simp; omega)] = (a0 :: T).take (k + 1) := (take_snoc (by simp; omega)).symm
        rw [hdr] at k6
        simp only [pick] at k6
        rw [htk] at k6
        by_cases hc : (cf ((a0 :: T).take (k + 1)) (1, 0)).2 > m
        · rw [br_pos hc]
          rw [if_pos hc] at k6
          refine Or.inl ⟨_, rfl, (b0, b1), (c0, c1), rfl, by rw [← k6]; exact k4, by rw [← k6]; exact k5, room.z k4 u3, room.z k5 u2⟩
        · rw [br_neg hc]
          rw [if_neg hc] at k6
          rw [wrap_i64 (by omega)]
          exact Or.inr ⟨_, rfl, ⟨k + 1, by simp, by omega, by omega, m3, m4, k6⟩, by simp only; omega⟩
      · rw [br_neg (by omega)]
        have hk' : k = T.length + 1 := by omega
        subst hk'
        rw [List.drop_eq_nil_of_le (by simp)] at k6
        simp only [pick] at k6
        exact Or.inl ⟨_, rfl, (b0, b1), (c0, c1), rfl, by rw [← k6]; exact k4, by rw [← k6]; exact k5, room.z k4 u3, room.z k5 u2⟩)
    (s := ((2 : Int), x0.1, x0.2, o.1, o.2)) ⟨1, by omega, by omega, by omega, by
      simp only [List.take_succ_cons, List.take_zero]
      exact x02.eq_of (by simp [cf]), by
      simp only [List.take_succ_cons, List.take_zero]
      exact o2.eq_of (by simp [cf]), by simp⟩
  obtain ⟨z0, z1, hz, hz0, hz1, l0, l1⟩ := j2
  refine ⟨z0, z1, ?_, hz0, hz1, l0, l1⟩
  have c2 : W.R_FNear.c2 Option.some = some () := rfl
  unfold W.R_FNear
  rw [c2, bnd_val, i1, bnd_val]
  simp only
  rw [c7, bnd_val]
  simp only
  rw [j1, bnd_val]
  exact hz
theorem nears_law (text other most : List UInt8) (ht : text.length ≤ 9223372036854775807) (ho : other.length ≤ 9223372036854775807) (hm : most.length ≤ 9223372036854775807) : W.Law_WholeNears text other most = some true := by
  obtain ⟨a, c, u, fa, a1, a2, a3, a4, a5, a6⟩ := parse_ok text ht
  obtain ⟨b, d, v, fb, b1, b2, b3, b4, b5, b6⟩ := parse_ok other ho
  obtain ⟨mo, rm, m, fm, m1, m2, m3, m4, m5, m6⟩ := parse_ok most hm
  unfold W.Law_WholeNears
  simp only [a1, b1, m1, a2, b2, m2, bnd_val, pair_eta]
  obtain ⟨x, g, f, p, q, x1, x2, x3, x4⟩ : ∃ x g f p q, W.whole_Over a b = some (x, f) ∧ W.R_FOver c d = some (g, f) ∧ FF x g p q 1001 ∧ Int.gcd p q = 1 := by
    by_cases hv : v = 0
    · subst hv
      obtain ⟨o, o1, o2⟩ := one_ff
      refine ⟨_, _, (4, 0), 0, 1, ?_, ?_, ⟨o2.x1, o2.x2, o2.g1, o2.g2, o2.pos, by simp, by simp, by simp, by have := o2.l4; simp only at this ⊢; omega⟩, by decide⟩
      · unfold W.whole_Over
        simp only [pair_eta]
        rw [sign_ok b3, bnd_val]
        rfl
      · unfold W.R_FOver
        have := (b4.zero_iff (by decide)).2 rfl
        rw [this, o1]
        rfl
    · obtain ⟨z, k, z1, k1, zz⟩ := lowest_ff a3 b3 a4 b4 (L := 1000) (by omega) (by omega) (by omega) (by omega) (by omega) hv
      have hsv : (sgn v == 0) = false := by
        unfold sgn
        split
        · rfl
        · rfl
      refine ⟨z, k, (0, 0), _, _, ?_, k1, zz, low_gcd u hv⟩
      unfold W.whole_Over
      simp only [pair_eta]
      rw [sign_ok b3, bnd_val, hsv, br_ff, z1, bnd_val]
  obtain ⟨t, t1, t2, _⟩ := ftext_ff x3 (by omega)
  have c9 : W.Law_WholeNears.c9 x.1.1 x.1.2 x.2.1 x.2.2 f.1 f.2 g.1.1 g.1.2 g.2.1 g.2.2 f.1 f.2 some = some false := by
    unfold W.Law_WholeNears.c9
    simp only [pair_eta, begun_ok, bnd_val, eqT_ff, t1, t2, Bool.not_true, br_ff, beq_self_eq_true]
  have room : Room p q 2100 := by
    obtain ⟨px, hpx⟩ := rep_any (B := 4294967296) (by decide) ((p.natAbs : Int) + 1)
    obtain ⟨pz, hpz⟩ := rep_any (B := 10000) (by decide) ((p.natAbs : Int) + 1)
    obtain ⟨bx, bx1, bx2, bx3⟩ := below_ok x3.x2 (by have := x3.l2; omega)
    obtain ⟨o, o1, o2, o3⟩ := of_ok (n := 1) (by decide)
    obtain ⟨z, z1, z2, z3⟩ := zof_ok (n := 1) (by decide)
    have hl1 := x3.l1
    have hl2 := x3.l2
    have hl3 := x3.l3
    have hl4 := x3.l4
    have lpx : px.2.length ≤ 1010 := by
      obtain ⟨e, e1, e2⟩ : ∃ e, Rep 4294967296 e (p.natAbs : Int) ∧ e.2.length ≤ 1001 := by
        obtain ⟨e, he⟩ := rep_any (B := 4294967296) (by decide) (p.natAbs : Int)
        exact ⟨e, he, Nat.le_trans (Rep.short (by decide) he x3.x1 (by omega)) hl1⟩
      obtain ⟨w, w1, w2, w3⟩ := add_ok e1 o2 (by omega) (by omega)
      have := Rep.short (by decide) hpx w2 (Nat.le_refl _)
      omega
    have lpz : pz.2.length ≤ 1010 := by
      obtain ⟨e, e1, e2⟩ : ∃ e, Rep 10000 e (p.natAbs : Int) ∧ e.2.length ≤ 1001 := by
        obtain ⟨e, he⟩ := rep_any (B := 10000) (by decide) (p.natAbs : Int)
        exact ⟨e, he, Nat.le_trans (Rep.short (by decide) he x3.g1 (by omega)) hl3⟩
      obtain ⟨w, w1, w2, w3⟩ := zadd_ok e1 z2 (by omega) (by omega)
      have := Rep.short (by decide) hpz w2 (Nat.le_refl _)
      omega
    obtain ⟨s, s1, s2, s3⟩ := mul_ok hpx bx2 (by omega) (by omega)
    obtain ⟨r, r1, r2, r3⟩ := zmul_ok hpz x3.g2 (by omega) (by omega)
    exact ⟨fun hx hv => by have := Rep.short (by decide) hx s2 hv; omega, fun hx hv => by have := Rep.short (by decide) hx r2 hv; omega⟩
  obtain ⟨z0, z1, n1, n2, n3, n4, n5⟩ := znear_ok x3.g1 x3.g2 x3.pos x4 (by omega) room m4 (by omega)
  obtain ⟨z, y1, y2⟩ := near_ok x3 (by omega) x4 (by omega) room m3 (by omega) n2 n3 n4 n5
  obtain ⟨l, l1, l2, _⟩ := ftext_ff y2 (by omega)
  have c11 : W.Law_WholeNears.c11 mo.1 mo.2 rm.1 rm.2 x.1.1 x.1.2 x.2.1 x.2.2 g.1.1 g.1.2 g.2.1 g.2.2 some = some true := by
    unfold W.Law_WholeNears.c11
    simp only [pair_eta, y1, l1, n1, l2, bnd_val, beq_self_eq_true]
  simp only [x1, x2, bnd_val, pair_eta]
  rw [c9, bnd_val, br_ff, c11, bnd_val]
end Go.Ql
end
