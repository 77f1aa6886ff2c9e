/- Plain laws: common divisors, the reference's division, the law. -/
import Derived.Test.YtmhhlfpejfajaaaPe
import Derived.Test.YtmhhlfpejfajaaaWb
section
/- Common divisors and shifts of whole numbers. -/
namespace Go.Ql
theorem gcd_step (u v : Int) : Int.gcd v (u % v) = Int.gcd u v := by
  have h := Int.mul_ediv_add_emod u v
  have e : u % v = u - v * (u / v) := by omega
  rw [e, Int.gcd_sub_mul_left_right, Int.gcd_comm]
theorem Rep.pos_of {B : Int} (hB : 1 < B) {x : Bool × List Int} {v : Int} (h : Rep B x v) : (x.2.length : Int) > 0 ↔ v ≠ 0 := by
  constructor
  · intro h1 h2
    rw [(h.zero_iff hB).2 h2] at h1
    simp at h1
  · intro h1
    have : x.2.length ≠ 0 := fun e => h1 ((h.zero_iff hB).1 (List.eq_nil_of_length_eq_zero e))
    omega
theorem mod_less (u : Int) {v : Int} (h : v ≠ 0) : (u % v).natAbs < v.natAbs := by
  have h1 := Int.emod_nonneg u h
  have h2 := Int.emod_lt u h
  omega
theorem igcd_ok {a b : Bool × List Int} {u v : Int} (ha : Rep 4294967296 a u) (hb : Rep 4294967296 b v) {L : Nat} (la : a.2.length ≤ L) (lb : b.2.length ≤ L) (hL : L < 100000) :
    ∃ r, W.whole_Gcd a b = some r ∧ Rep 4294967296 r (Int.gcd u v : Int) ∧ r.2.length ≤ L := by
  have hB : (1 : Int) < 4294967296 := by decide
  obtain ⟨⟨x0, x1, y0, y1⟩, l1, w, l2, l3, l4⟩ := iter_loop
    (f := fun s : Bool × List Int × Bool × List Int ↦ W.whole_Gcd.c100001 (Prod.fst s) (Prod.fst (Prod.snd s)) (Prod.fst (Prod.snd (Prod.snd s))) (Prod.snd (Prod.snd (Prod.snd s))) Option.some)
    (J := fun s => ∃ p q : Int, Rep 4294967296 (s.1, s.2.1) p ∧ Rep 4294967296 (s.2.2.1, s.2.2.2) q ∧ Int.gcd p q = Int.gcd u v ∧ s.2.1.length ≤ L ∧ s.2.2.2.length ≤ L)
    (Q := fun s => ∃ w : Int, Rep 4294967296 (s.1, s.2.1) w ∧ w.natAbs = Int.gcd u v ∧ s.2.1.length ≤ L)
    (fun s => (val 4294967296 s.2.2.2).toNat) (fun ⟨x0, x1, y0, y1⟩ ⟨p, q, h1, h2, h3, h4, h5⟩ => by
      simp only at h1 h2 h3 h4 h5 ⊢
      have hq := h2.pos_of hB
      simp only at hq
      unfold W.whole_Gcd.c100001
      by_cases h0 : q = 0
      · rw [br_neg (fun h => hq.1 h h0)]
        subst h0
        exact Or.inl ⟨_, rfl, p, h1, by rw [← h3]; simp, h4⟩
      · rw [br_pos (hq.2 h0)]
        obtain ⟨d, r, d1, d2, d3, d4, d5⟩ := idiv_ok h1 h2 (by simp only; omega) (by simp only; omega) h0
        rw [d1, bnd_val]
        refine Or.inr ⟨_, rfl, ⟨q, p % q, h2, d3, by rw [gcd_step, h3], h5, by simp only at d5 ⊢; omega⟩, ?_⟩
        have e1 := d3.absval (by decide)
        have e2 := h2.absval (by decide)
        have := mod_less p h0
        simp only at e1 e2 ⊢
        omega)
    (s := (a.1, a.2, b.1, b.2)) ⟨u, v, ha, hb, rfl, la, lb⟩
  simp only at l2 l4
  obtain ⟨r, r1, r2, r3⟩ := made_ok (B := 4294967296) false x1 l2.dig (by omega)
  unfold W.whole_Gcd
  rw [l1, bnd_val, r1]
  rw [if_neg (by simp), l2.absval (by decide), l3] at r2
  exact ⟨r, rfl, r2, by omega⟩
theorem shift_ok {a : Bool × List Int} {u : Int} (ha : Rep 4294967296 a u) (la : a.2.length < 100000) (n : Int) :
    (n < -10000 ∨ n > 10000 → W.whole_Int_Shift a n = some ((false, []), 5, 0)) ∧
    (0 ≤ n ∧ n ≤ 10000 → ∃ r, W.whole_Int_Shift a n = some (r, 0, 0) ∧ Rep 4294967296 r (u * 2 ^ n.toNat) ∧ r.2.length ≤ a.2.length + 400) ∧
    (-10000 ≤ n ∧ n < 0 → ∃ r, W.whole_Int_Shift a n = some (r, 0, 0) ∧ Rep 4294967296 r (u / 2 ^ (-n).toNat) ∧ r.2.length ≤ a.2.length + 400) := by
  have hA0 := val_nonneg (B := 4294967296) (by decide) ha.dig
  have c1 : W.whole_Int_Shift.c1 n Option.some = some (decide (n < -10000 ∨ n > 10000)) := by
    unfold W.whole_Int_Shift.c1
    by_cases h : n < -10000
    · rw [br_pos h, decide_eq_true (Or.inl h)]
    · rw [br_neg h]; congr 1; rw [decide_eq_decide]; omega
  unfold W.whole_Int_Shift
  rw [c1, bnd_val]
  refine ⟨fun h => by rw [br_pos h], fun h => ?_, fun h => ?_⟩
  · rw [br_neg (by omega), br_pos (by omega)]
    obtain ⟨k, rfl⟩ : ∃ k : Nat, n = k := ⟨n.toNat, by omega⟩
    obtain ⟨t, t1, t2, t3, t4⟩ := left_ok a.2 k ha.dig (by omega) (by omega)
    obtain ⟨r, r1, r2, r3⟩ := made_ok (B := 4294967296) a.1 t t2 (by omega)
    have c4 : W.whole_Int_Shift.c4 (k : Int) a.1 a.2 Option.some = some (r.1, r.2) := by
      show (bnd (W.whole_left a.2 (k : Int)) fun y => bnd (W.whole_made a.1 y.1) fun y_1 => some (y_1.1, y_1.2)) = _
      rw [t1, bnd_val]
      simp only
      rw [r1, bnd_val]
    rw [c4, bnd_val]
    refine ⟨r, rfl, r2.eq_of ?_, by omega⟩
    rw [t4, ha.val, Int.toNat_natCast]
    split <;> simp [Int.neg_mul]
  · rw [br_neg (by omega), br_neg (by omega)]
    obtain ⟨k, rfl⟩ : ∃ k : Nat, n = -(k : Int) := ⟨(-n).toNat, by omega⟩
    obtain ⟨t, lost, t1, t2, t3, t4, t5⟩ := right_ok a.2 k ha.dig (by omega) (by omega)
    obtain ⟨r, r1, r2, r3⟩ := made_ok (B := 4294967296) a.1 t t2 (by omega)
    rw [wrap_i64 (by omega), show (0 : Int) - -(k : Int) = k by omega, t1, bnd_val]
    simp only
    rw [r1, bnd_val, t5 ha.last]
    have hP : (0 : Int) < 2 ^ k := Int.pow_pos (by decide)
    have hs := (div_signs hA0 hP a.1 false).1
    have hu : u / 2 ^ (- -(k : Int)).toNat = (if a.1 then -val 4294967296 a.2 else val 4294967296 a.2) / (if false then -2 ^ k else 2 ^ k) := by
      rw [← ha.val, show (- -(k : Int)).toNat = k by omega]; simp
    rw [hs] at hu
    rw [t4] at r2
    have c22 : ∃ x : Bool × List Int, W.whole_Int_Shift.c228677 (decide (val 4294967296 a.2 % 2 ^ k ≠ 0)) a.1 r.1 r.2 Option.some = some (x.1, x.2) ∧ Rep 4294967296 x (u / 2 ^ (- -(k : Int)).toNat) ∧ x.2.length ≤ a.2.length + 400 := by
      unfold W.whole_Int_Shift.c228677
      have c7 : W.whole_Int_Shift.c7 (decide (val 4294967296 a.2 % 2 ^ k ≠ 0)) a.1 Option.some = some (a.1 && decide (val 4294967296 a.2 % 2 ^ k ≠ 0)) := by
        unfold W.whole_Int_Shift.c7
        cases decide (val 4294967296 a.2 % 2 ^ k ≠ 0) <;> cases a.1 <;> rfl
      rw [c7, bnd_val, hu]
      cases ha1 : a.1
      · refine ⟨r, rfl, r2.eq_of ?_, by omega⟩
        simp [ha1]
      · cases hl : decide (val 4294967296 a.2 % 2 ^ k ≠ 0)
        · refine ⟨r, rfl, r2.eq_of ?_, by omega⟩
          simp [ha1]
        · obtain ⟨o, o1, o2, o3⟩ := of_ok (n := 1) (by decide)
          obtain ⟨x, x1, x2, x3⟩ := sub_ok r2 o2 (by omega) (by omega)
          have c8 : W.whole_Int_Shift.c8 r.1 r.2 Option.some = some (x.1, x.2) := by
            unfold W.whole_Int_Shift.c8
            simp only [pair_eta]
            rw [o1, bnd_val, x1, bnd_val]
          refine ⟨x, ?_, x2.eq_of ?_, by omega⟩
          · simp only [Bool.and_self, br_tt]
            rw [c8, bnd_val]
          · simp [ha1]; omega
    obtain ⟨x, x1, x2, x3⟩ := c22
    rw [x1, bnd_val]
    exact ⟨x, rfl, x2, x3⟩
end Go.Ql
end

section
/- The reference's numbers: of a machine's number, division, common divisors, powers of two, shifts. -/
namespace Go.Ql
theorem zof_ok {n : Int} (h : -9223372036854775808 ≤ n ∧ n ≤ 9223372036854775807) :
    ∃ r, W.R_ZOf n = some r ∧ Rep 10000 r n ∧ r.2.length ≤ 5 := by
  unfold W.R_ZOf
  have e : W.R_ZOf.c208197 n (IntKind.u64.wrap n) Option.some = some (n.natAbs : Int) := by
    unfold W.R_ZOf.c208197
    by_cases h0 : n < 0
    · rw [br_pos h0, u64_mod, u64_mod]; congr 1; omega
    · rw [br_neg h0, u64_mod]; congr 1; omega
  rw [e, bnd_val]
  have hB : (0 : Int) < 10000 := by decide
  obtain ⟨⟨u, d⟩, l1, l2, l3, l4⟩ := iter_loop
    (f := fun s : Int × List Int ↦ W.R_ZOf.c100005 (Prod.fst s) (Prod.snd s) Option.some)
    (J := fun s => 0 ≤ s.1 ∧ s.1 < 10000 ^ (5 - s.2.length) ∧ s.2.length ≤ 5 ∧ Dig 10000 s.2 ∧ val 10000 s.2 + 10000 ^ s.2.length * s.1 = (n.natAbs : Int))
    (Q := fun s => s.2.length ≤ 5 ∧ Dig 10000 s.2 ∧ val 10000 s.2 = (n.natAbs : Int))
    (fun s => s.1.toNat) (fun ⟨u, d⟩ ⟨h1, h2, h3, h4, h5⟩ => by
      simp only at h1 h2 h3 h4 h5 ⊢
      unfold W.R_ZOf.c100005
      by_cases h0 : u > 0
      · have hl : d.length ≠ 5 := fun e => by rw [e] at h2; simp at h2; omega
        rw [br_pos h0, tmod_pos h1, tdiv_pos h1, wrap_i64 (by omega), wrap_u64 (by
          have : (10000 : Int) ^ (5 - d.length) ≤ 10000 ^ 5 := pow_le (by decide) (by omega)
          rw [show (10000 : Int) ^ 5 = 100000000000000000000 from rfl] at this
          have h7 : u ≤ (n.natAbs : Int) := by
            have : 1 * u ≤ 10000 ^ d.length * u := Int.mul_le_mul_of_nonneg_right (by have := pow_pos hB d.length; omega) h1
            have := val_nonneg (B := 10000) (by decide) h4
            omega
          omega), okIf_true (by simp; omega), bnd_val]
        refine Or.inr ⟨(_, _), rfl, ⟨by simp only; omega, ?_, by simp; omega, h4.append (Dig.cons (by omega) Dig.nil), ?_⟩, by simp only; omega⟩
        · simp only [List.length_append, List.length_cons, List.length_nil]
          have e5 : 5 - d.length = (5 - (d.length + (0 + 1))) + 1 := by omega
          rw [e5, Int.pow_succ] at h2
          omega
        · simp only [List.length_append, List.length_cons, List.length_nil]
          rw [val_snoc, Int.pow_succ, ← h5]
          have : u = 10000 * (u / 10000) + u % 10000 := by omega
          generalize u / 10000 = q at *
          generalize u % 10000 = r at *
          subst this
          grind
      · rw [br_neg h0]
        have : u = 0 := by omega
        subst this
        exact Or.inl ⟨(_, _), rfl, h3, h4, by simpa using h5⟩)
    (s := ((n.natAbs : Int), [])) ⟨by simp, by simp only [List.length_nil]; rw [show (10000 : Int) ^ (5 - 0) = 100000000000000000000 from rfl]; omega, by simp, Dig.nil, by simp [val]⟩
  simp only at l2 l3 l4
  obtain ⟨r, r1, r2, r3⟩ := zmade_ok (B := 10000) (decide (n < 0)) d l3 (by omega)
  rw [l1, bnd_val, r1]
  refine ⟨r, rfl, r2.eq_of ?_, by omega⟩
  rw [l4]
  by_cases h0 : n < 0
  · rw [if_pos (decide_eq_true h0)]; omega
  · rw [if_neg (by simpa using h0)]; omega
theorem zhalve_ok {b r : Bool × List Int} {V R : Int} (hb : Rep 10000 b V) (hr : Rep 10000 r R) (lb : b.2.length < 1000000) (lr : r.2.length < 1000000) (hV : 0 < V) {h : Int} (h0 : 1 ≤ h ∧ h ≤ 10000) (hR0 : 0 ≤ R) (hR : R < V * h) :
    ∃ g : Int, iter (fun s : Int × Int ↦ W.R_ZDiv.c100013 (Prod.fst s) (Prod.snd s) b.1 b.2 r.1 r.2 Option.some) ((0 : Int), h) = some (g, g + 1) ∧ 0 ≤ g ∧ g < 10000 ∧ V * g ≤ R ∧ R < V * (g + 1) := by
  obtain ⟨⟨g, g'⟩, l1, l2, l3, l4, l5, l6⟩ := iter_loop
    (f := fun s : Int × Int ↦ W.R_ZDiv.c100013 (Prod.fst s) (Prod.snd s) b.1 b.2 r.1 r.2 Option.some)
    (J := fun s => 0 ≤ s.1 ∧ s.1 < s.2 ∧ s.2 ≤ 10000 ∧ V * s.1 ≤ R ∧ R < V * s.2)
    (Q := fun s => s.2 = s.1 + 1 ∧ 0 ≤ s.1 ∧ s.1 < 10000 ∧ V * s.1 ≤ R ∧ R < V * s.2)
    (fun s => (s.2 - s.1).toNat) (fun ⟨l, g⟩ ⟨h1, h2, h3, h4, h5⟩ => by
      simp only at h1 h2 h3 h4 h5 ⊢
      unfold W.R_ZDiv.c100013
      rw [wrap_i64 (x := g - l) (by omega), wrap_i64 (x := l + g) (by omega)]
      by_cases hc : g - l > 1
      · rw [br_pos hc, tdiv_pos (by omega), wrap_i64 (by omega)]
        obtain ⟨o, o1, o2, o3⟩ := zof_ok (n := (l + g) / 2) (by omega)
        obtain ⟨m, m1, m2, m3⟩ := zmul_ok hb o2 (by omega) (by omega)
        have c15 : W.R_ZDiv.c15 ((l + g) / 2) b.1 b.2 r.1 r.2 Option.some = some (decide (V * ((l + g) / 2) ≤ R)) := by
          unfold W.R_ZDiv.c15
          simp only [pair_eta]
          rw [o1, bnd_val, m1, bnd_val, zcmp_ok m2 hr (by omega) (by omega), bnd_val]
          congr 1
          rw [decide_eq_decide]
          unfold sgn
          split
          · omega
          · split <;> omega
        rw [c15, bnd_val]
        by_cases hd : V * ((l + g) / 2) ≤ R
        · rw [br_pos hd]
          exact Or.inr ⟨(_, _), rfl, ⟨by simp only; omega, by simp only; omega, h3, hd, h5⟩, by simp only; omega⟩
        · rw [br_neg hd]
          exact Or.inr ⟨(_, _), rfl, ⟨h1, by simp only; omega, by simp only; omega, h4, by simp only; omega⟩, by simp only; omega⟩
      · rw [br_neg hc]
        exact Or.inl ⟨(_, _), rfl, by simp only; omega, h1, by simp only; omega, h4, h5⟩)
    (s := ((0 : Int), h)) ⟨by simp, by simp only; omega, h0.2, by simpa using hR0, hR⟩
  simp only at l2 l3 l4 l5 l6
  subst l2
  exact ⟨g, l1, l3, l4, l5, l6⟩
theorem zdiv_ok {a b : Bool × List Int} {u v : Int} (ha : Rep 10000 a u) (hb : Rep 10000 b v) (la : a.2.length < 100000) (lb : b.2.length < 100000) (hv : v ≠ 0) :
    ∃ q r, W.R_ZDiv a b = some (q, r, 0, 0) ∧ Rep 10000 q (u / v) ∧ Rep 10000 r (u % v) ∧ q.2.length ≤ a.2.length + 6 ∧ r.2.length ≤ b.2.length := by
  have hB : (1 : Int) < 10000 := by decide
  have hbn : b.2 ≠ [] := fun e => hv ((hb.zero_iff hB).1 e)
  have hbl : b.2.length ≠ 0 := fun e => hbn (List.eq_nil_of_length_eq_zero e)
  have hVp := hb.pos hB hbn
  have hA0 := val_nonneg (B := 10000) (by decide) ha.dig
  obtain ⟨w, w1, w2, w3⟩ := zmade_ok (B := 10000) false b.2 hb.dig (by omega)
  rw [if_neg (by simp)] at w2
  have hwv := w2.absval (by decide)
  obtain ⟨⟨j, r0, r1, t⟩, l1, R, l2, l3, l4, l5, l6, l7⟩ := iter_loop
    (f := fun s : Int × Bool × List Int × List Int ↦ W.R_ZDiv.c100007 (Prod.fst s) a.2 w.1 w.2 (Prod.fst (Prod.snd s)) (Prod.fst (Prod.snd (Prod.snd s))) (Prod.snd (Prod.snd (Prod.snd s))) Option.some)
    (J := fun s => ∃ (k : Nat) (R : Int), s.1 = (k : Int) - 1 ∧ k ≤ a.2.length ∧ Rep 10000 (s.2.1, s.2.2.1) R ∧ 0 ≤ R ∧ R < val 10000 b.2 ∧ Dig 10000 s.2.2.2 ∧ s.2.2.2.length = a.2.length ∧ (∀ x, x < k → s.2.2.2.getD x 0 = 0) ∧
      val 10000 a.2 = val 10000 (a.2.take k) + val 10000 b.2 * val 10000 s.2.2.2 + 10000 ^ k * R)
    (Q := fun s => ∃ R : Int, Rep 10000 (s.2.1, s.2.2.1) R ∧ 0 ≤ R ∧ R < val 10000 b.2 ∧ Dig 10000 s.2.2.2 ∧ s.2.2.2.length = a.2.length ∧ val 10000 a.2 = val 10000 b.2 * val 10000 s.2.2.2 + R)
    (fun s => (s.1 + 1).toNat) (fun ⟨j', r0, r1, t⟩ ⟨k, R, k1, k2, k3, k4, k5, k6, k7, k8, k9⟩ => by
      simp only at k1 k2 k3 k4 k5 k6 k7 k8 k9 ⊢
      subst k1
      unfold W.R_ZDiv.c100007
      cases k with
      | zero =>
        rw [br_neg (by omega)]
        exact Or.inl ⟨_, rfl, R, k3, k4, k5, k6, k7, by simpa [val] using k9⟩
      | succ k =>
        rw [show ((k + 1 : Nat) : Int) - 1 = (k : Int) by omega, br_pos (by omega)]
        have hx := ha.dig.getD (by decide) k
        have htk := val_take_succ 10000 k a.2
        have hrl : r1.length ≤ b.2.length := by
          have := Rep.short hB k3 w2 (by omega)
          simp only at this; omega
        have hrv := k3.absval (by decide)
        simp only at hrv
        obtain ⟨y, y1, y2, y3⟩ := zmade_ok (B := 10000) false ([a.2.getD k 0] ++ r1) (Dig.append (Dig.cons hx Dig.nil) k3.dig) (by simp; omega)
        rw [if_neg (by simp)] at y2
        have c9 : W.R_ZDiv.c9 (k : Int) a.2 r1 Option.some = some (y.1, y.2) := by
          unfold W.R_ZDiv.c9
          rw [idx_of k rfl (by omega), bnd_val, okIf_true (by simp; omega), bnd_val, y1, bnd_val]
        have hyR : val 10000 ([a.2.getD k 0] ++ r1) = a.2.getD k 0 + 10000 * R := by
          show a.2.getD k 0 + 10000 * val 10000 r1 = _
          rw [hrv]; omega
        rw [hyR] at y2
        simp only [List.length_append, List.length_cons, List.length_nil] at y3
        obtain ⟨c, o1, o2⟩ := dcmp_ok y.2 w.2 y2.dig w2.dig y2.last w2.last (by omega) (by omega)
        rw [y2.absval (by decide), w2.absval (by decide)] at o2
        obtain ⟨h, h1, h2, h3⟩ : ∃ h : Int, W.R_ZDiv.c245061 10000 w.2 y.2 Option.some = some h ∧ (1 ≤ h ∧ h ≤ 10000) ∧ a.2.getD k 0 + 10000 * R < val 10000 b.2 * h := by
          unfold W.R_ZDiv.c245061
          rw [o1, bnd_val]
          by_cases hc : c < 0
          · rw [br_pos hc]
            refine ⟨1, rfl, by decide, ?_⟩
            rcases o2 with o | o | o <;> omega
          · rw [br_neg hc]
            exact ⟨10000, rfl, by decide, by omega⟩
        obtain ⟨g, g1, g2, g3, g4, g5⟩ := zhalve_ok w2 y2 (by omega) (by omega) hVp h2 (by omega) h3
        obtain ⟨o, p1, p2, p3⟩ := zof_ok (n := g) (by omega)
        obtain ⟨m, m1, m2, m3⟩ := zmul_ok w2 p2 (by omega) (by omega)
        obtain ⟨z, z1, z2, z3⟩ := zsub_ok y2 m2 (by omega) (by omega)
        have c19 : W.R_ZDiv.c19 g w.1 w.2 y.1 y.2 Option.some = some (z.1, z.2) := by
          unfold W.R_ZDiv.c19
          simp only [pair_eta]
          rw [p1, bnd_val, m1, bnd_val, z1, bnd_val]
        rw [c9, bnd_val, h1, bnd_val, g1, bnd_val, inR_of (by omega) (by omega), bnd_val, idx_of k rfl (by omega), bnd_val, c19, bnd_val, wrap_i64 (by omega), Int.toNat_natCast]
        refine Or.inr ⟨_, rfl, ⟨k, a.2.getD k 0 + 10000 * R - val 10000 b.2 * g, rfl, by omega, z2, by omega, by rw [Int.mul_add] at g5; omega, k6.set ⟨g2, g3⟩ k, by simp only [List.length_set]; exact k7, fun x hx => ?_, ?_⟩, by simp only; omega⟩
        · simp only
          rw [getD_set (by omega), if_neg (by omega)]
          exact k8 x (by omega)
        · simp only
          rw [val_set _ _ _ _ (by omega), k8 k (by omega), k9, htk, Int.pow_succ]
          generalize (10000 : Int) ^ k = P at *
          grind)
    (s := ((a.2.length : Int) - 1, false, [], List.replicate a.2.length 0))
    ⟨a.2.length, 0, rfl, Nat.le_refl _, Rep.nil, by simp, hVp, Dig.replicate (by decide) _, by simp, fun x _ => getD_replicate _ _, by simp [val_replicate]⟩
  simp only at l2 l3 l4 l5 l6 l7
  obtain ⟨e1, e2⟩ := ediv_unique hVp l7 l3 l4
  obtain ⟨z, z1, z2, z3⟩ := zmade_ok (B := 10000) false t l5 (by omega)
  rw [if_neg (by simp)] at z2
  rw [← e1] at z2
  rw [← e2] at l2
  have hrl : r1.length ≤ b.2.length := by
    have := Rep.short hB l2 w2 (by omega)
    simp only at this; omega
  have hq0 : 0 ≤ val 10000 a.2 / val 10000 b.2 := Int.ediv_nonneg hA0 (by omega)
  have c28 : ∃ q' r' : Bool × List Int, W.R_ZDiv.c286023 a.1 w.1 w.2 r0 r1 z.1 z.2 Option.some = some (r'.1, r'.2, q'.1, q'.2) ∧
      Rep 10000 q' (if a.1 && decide (val 10000 a.2 % val 10000 b.2 ≠ 0) then val 10000 a.2 / val 10000 b.2 + 1 else val 10000 a.2 / val 10000 b.2) ∧
      Rep 10000 r' (if a.1 && decide (val 10000 a.2 % val 10000 b.2 ≠ 0) then val 10000 b.2 - val 10000 a.2 % val 10000 b.2 else val 10000 a.2 % val 10000 b.2) ∧ q'.2.length ≤ a.2.length + 6 := by
    unfold W.R_ZDiv.c286023
    have c21 : W.R_ZDiv.c21 a.1 r1 Option.some = some (a.1 && decide (val 10000 a.2 % val 10000 b.2 ≠ 0)) := by
      unfold W.R_ZDiv.c21
      cases ha1 : a.1
      · rfl
      · rw [br_tt]
        congr 1
        rw [Bool.true_and, decide_eq_decide]
        exact l2.pos_of hB
    rw [c21, bnd_val]
    cases hc : (a.1 && decide (val 10000 a.2 % val 10000 b.2 ≠ 0))
    · rw [br_ff]
      simp only [Bool.false_eq_true, if_false]
      exact ⟨z, (r0, r1), rfl, z2, l2, by omega⟩
    · rw [br_tt]
      simp only [if_true]
      obtain ⟨o, o1, o2, o3⟩ := zof_ok (n := 1) (by decide)
      obtain ⟨x, x1, x2, x3⟩ := zadd_ok z2 o2 (by omega) (by omega)
      obtain ⟨y, y1, y2, y3⟩ := zsub_ok w2 l2 (by omega) (by simp only; omega)
      have c22 : W.R_ZDiv.c22 z.1 z.2 Option.some = some (x.1, x.2) := by
        unfold W.R_ZDiv.c22
        simp only [pair_eta]
        rw [o1, bnd_val, x1, bnd_val]
      rw [c22, bnd_val]
      simp only [pair_eta]
      rw [y1, bnd_val]
      exact ⟨x, y, rfl, x2, y2, by omega⟩
  obtain ⟨q', r', f1, f2, f3, f4⟩ := c28
  have hq' : val 10000 q'.2 = (if a.1 && decide (val 10000 a.2 % val 10000 b.2 ≠ 0) then val 10000 a.2 / val 10000 b.2 + 1 else val 10000 a.2 / val 10000 b.2) := by
    rw [f2.absval (by decide)]
    split <;> omega
  obtain ⟨x, x1, x2, x3⟩ := zmade_ok (B := 10000) (!a.1 == b.1) q'.2 f2.dig (by omega)
  obtain ⟨g1, g2⟩ := div_signs hA0 hVp a.1 b.1
  have hr' : Rep 10000 r' (u % v) := f3.eq_of (by rw [ha.val, hb.val, g2])
  unfold W.R_ZDiv
  rw [show ((b.2.length : Int) == 0) = false by simp; omega, br_ff, w1, bnd_val, okIf_true (by simp; omega), bnd_val, wrap_i64 (by omega), Int.toNat_natCast, l1, bnd_val]
  simp only
  rw [z1, bnd_val, f1, bnd_val]
  simp only
  have c24 : W.R_ZDiv.c24 a.1 b.1 q'.2 Option.some = some (x.1, x.2) := by
    unfold W.R_ZDiv.c24
    rw [x1, bnd_val]
  rw [c24, bnd_val]
  refine ⟨x, r', rfl, x2.eq_of ?_, hr', by omega, Rep.short hB hr' hb (Nat.le_of_lt (mod_less u hv))⟩
  rw [ha.val, hb.val, g1, hq']
  cases a.1 <;> cases b.1 <;> rfl
theorem zdiv_zero {a b : Bool × List Int} (hb : Rep 10000 b 0) : W.R_ZDiv a b = some ((false, []), (false, []), 4, 0) := by
  have := (hb.zero_iff (by decide)).2 rfl
  unfold W.R_ZDiv
  rw [this]
  rfl
theorem zgcd_ok {a b : Bool × List Int} {u v : Int} (ha : Rep 10000 a u) (hb : Rep 10000 b v) {L : Nat} (la : a.2.length ≤ L) (lb : b.2.length ≤ L) (hL : L < 100000) :
    ∃ r, W.R_ZGcd a b = some r ∧ Rep 10000 r (Int.gcd u v : Int) ∧ r.2.length ≤ L := by
  have hB : (1 : Int) < 10000 := by decide
  obtain ⟨⟨x0, x1, y0, y1⟩, l1, w, l2, l3, l4⟩ := iter_loop
    (f := fun s : Bool × List Int × Bool × List Int ↦ W.R_ZGcd.c100001 (Prod.fst s) (Prod.fst (Prod.snd s)) (Prod.fst (Prod.snd (Prod.snd s))) (Prod.snd (Prod.snd (Prod.snd s))) Option.some)
    (J := fun s => ∃ p q : Int, Rep 10000 (s.1, s.2.1) p ∧ Rep 10000 (s.2.2.1, s.2.2.2) q ∧ Int.gcd p q = Int.gcd u v ∧ s.2.1.length ≤ L ∧ s.2.2.2.length ≤ L)
    (Q := fun s => ∃ w : Int, Rep 10000 (s.1, s.2.1) w ∧ w.natAbs = Int.gcd u v ∧ s.2.1.length ≤ L)
    (fun s => (val 10000 s.2.2.2).toNat) (fun ⟨x0, x1, y0, y1⟩ ⟨p, q, h1, h2, h3, h4, h5⟩ => by
      simp only at h1 h2 h3 h4 h5 ⊢
      have hq := h2.pos_of hB
      simp only at hq
      unfold W.R_ZGcd.c100001
      by_cases h0 : q = 0
      · rw [br_neg (fun h => hq.1 h h0)]
        subst h0
        exact Or.inl ⟨_, rfl, p, h1, by rw [← h3]; simp, h4⟩
      · rw [br_pos (hq.2 h0)]
        obtain ⟨d, r, d1, d2, d3, d4, d5⟩ := zdiv_ok h1 h2 (by simp only; omega) (by simp only; omega) h0
        rw [d1, bnd_val]
        refine Or.inr ⟨_, rfl, ⟨q, p % q, h2, d3, by rw [gcd_step, h3], h5, by simp only at d5 ⊢; omega⟩, ?_⟩
        have e1 := d3.absval (by decide)
        have e2 := h2.absval (by decide)
        have := mod_less p h0
        simp only at e1 e2 ⊢
        omega)
    (s := (a.1, a.2, b.1, b.2)) ⟨u, v, ha, hb, rfl, la, lb⟩
  simp only at l2 l4
  obtain ⟨r, r1, r2, r3⟩ := zmade_ok (B := 10000) false x1 l2.dig (by omega)
  unfold W.R_ZGcd
  rw [l1, bnd_val, r1]
  rw [if_neg (by simp), l2.absval (by decide), l3] at r2
  exact ⟨r, rfl, r2, by omega⟩
/-- A number below a power of two has few places. -/
theorem Rep.few {B : Int} (hB : 1 < B) {x : Bool × List Int} {e : Nat} (h : Rep B x (2 ^ e)) : x.2.length ≤ e + 1 := by
  have h2 : (0 : Int) < 2 ^ e := Int.pow_pos (by decide)
  have hn : x.2 ≠ [] := fun h0 => by have := (h.zero_iff hB).1 h0; omega
  have h1 := val_ge hB h.dig h.last hn
  rw [h.absval (by omega)] at h1
  rcases Nat.lt_or_ge e (x.2.length - 1) with hc | hc
  · have h3 : (2 : Int) ^ (x.2.length - 1) ≤ B ^ (x.2.length - 1) := by
      have : ∀ k : Nat, (2 : Int) ^ k ≤ B ^ k := by
        intro k
        induction k with
        | zero => simp
        | succ k ih =>
          rw [Int.pow_succ, Int.pow_succ]
          exact Int.mul_le_mul ih (by omega) (by decide) (Int.le_of_lt (pow_pos (by omega) k))
      exact this _
    have h4 : (2 : Int) ^ (e + 1) ≤ 2 ^ (x.2.length - 1) := pow_le (by decide) (by omega)
    rw [Int.pow_succ] at h4
    omega
  · omega
theorem zpow2_ok (n : Nat) (hn : n ≤ 10000) : ∃ r, W.R_ZPow2 (n : Int) = some r ∧ Rep 10000 r (2 ^ n) ∧ r.2.length ≤ n + 1 := by
  have hB : (1 : Int) < 10000 := by decide
  obtain ⟨o, o1, o2, o3⟩ := zof_ok (n := 1) (by decide)
  obtain ⟨t, t1, t2, t3⟩ := zof_ok (n := 2) (by decide)
  obtain ⟨⟨m, x0, x1, y0, y1⟩, l1, l2⟩ := iter_loop
    (f := fun s : Int × Bool × List Int × Bool × List Int ↦ W.R_ZPow2.c100003 (Prod.fst s) (Prod.fst (Prod.snd s)) (Prod.fst (Prod.snd (Prod.snd s))) (Prod.fst (Prod.snd (Prod.snd (Prod.snd s)))) (Prod.snd (Prod.snd (Prod.snd (Prod.snd s)))) Option.some)
    (J := fun s => ∃ m e f : Nat, s.1 = m ∧ m ≤ n ∧ Rep 10000 (s.2.1, s.2.2.1) (2 ^ f) ∧ Rep 10000 (s.2.2.2.1, s.2.2.2.2) (2 ^ e) ∧ f + e * m = n)
    (Q := fun s => Rep 10000 (s.2.1, s.2.2.1) (2 ^ n))
    (fun s => s.1.toNat) (fun ⟨m', x0, x1, y0, y1⟩ ⟨m, e, f, h1, hm, h2, h3, h4⟩ => by
      simp only at h1 h2 h3 h4 ⊢
      subst h1
      unfold W.R_ZPow2.c100003
      by_cases h0 : (m : Int) > 0
      · have he : e * 1 ≤ e * m := Nat.mul_le_mul_left e (by omega)
        have hx := h2.few hB
        have hy := h3.few hB
        simp only at hx hy
        rw [br_pos h0]
        obtain ⟨p, p1, p2, p3⟩ := zmul_ok h3 h3 (by simp only; omega) (by simp only; omega)
        rw [← Int.pow_add] at p2
        have c : ∃ z : Bool × List Int, W.R_ZPow2.c216389 (m : Int) x0 x1 y0 y1 Option.some = some (z.1, z.2) ∧ Rep 10000 z (2 ^ (f + e * (m % 2))) := by
          unfold W.R_ZPow2.c216389
          rw [tmod_pos (by omega)]
          by_cases hm : m % 2 = 1
          · obtain ⟨z, z1, z2, z3⟩ := zmul_ok h2 h3 (by simp only; omega) (by simp only; omega)
            rw [show ((m : Int) % 2 == 1) = true by simp; omega, br_tt, z1, bnd_val]
            rw [← Int.pow_add] at z2
            exact ⟨z, rfl, by rw [hm, Nat.mul_one]; exact z2⟩
          · rw [show ((m : Int) % 2 == 1) = false by simp; omega, br_ff]
            exact ⟨(x0, x1), rfl, by rw [show m % 2 = 0 by omega]; exact h2⟩
        obtain ⟨z, z1, z2⟩ := c
        rw [z1, bnd_val, p1, bnd_val, tdiv_pos (by omega), wrap_i64 (by omega)]
        refine Or.inr ⟨_, rfl, ⟨m / 2, e + e, f + e * (m % 2), by simp only; omega, by omega, z2, p2, ?_⟩, by simp only; omega⟩
        have : e * m = e * (2 * (m / 2) + m % 2) := by rw [Nat.div_add_mod]
        rw [Nat.mul_add] at this
        rw [← h4, this, Nat.add_mul, ← Nat.two_mul, ← Nat.mul_assoc e 2, Nat.mul_comm e 2, Nat.mul_assoc]
        omega
      · rw [br_neg h0]
        have : m = 0 := by omega
        subst this
        refine Or.inl ⟨_, rfl, ?_⟩
        simp only
        rw [← h4]
        simpa using h2)
    (s := ((n : Int), o.1, o.2, t.1, t.2)) ⟨n, 1, 0, rfl, Nat.le_refl _, o2.eq_of (by simp), t2.eq_of (by simp), by omega⟩
  simp only at l2
  unfold W.R_ZPow2
  rw [o1, bnd_val, t1, bnd_val, l1, bnd_val]
  exact ⟨(x0, x1), rfl, l2, l2.few hB⟩
theorem zshift_ok {a : Bool × List Int} {u : Int} (ha : Rep 10000 a u) (la : a.2.length < 80000) (n : Int) :
    (n < -10000 ∨ n > 10000 → W.R_ZShift a n = some ((false, []), 5, 0)) ∧
    (0 ≤ n ∧ n ≤ 10000 → ∃ r, W.R_ZShift a n = some (r, 0, 0) ∧ Rep 10000 r (u * 2 ^ n.toNat) ∧ r.2.length ≤ a.2.length + 10010) ∧
    (-10000 ≤ n ∧ n < 0 → ∃ r, W.R_ZShift a n = some (r, 0, 0) ∧ Rep 10000 r (u / 2 ^ (-n).toNat) ∧ r.2.length ≤ a.2.length + 10010) := by
  have c1 : W.R_ZShift.c1 n Option.some = some (decide (n < -10000 ∨ n > 10000)) := by
    unfold W.R_ZShift.c1
    by_cases h : n < -10000
    · rw [br_pos h, decide_eq_true (Or.inl h)]
    · rw [br_neg h]; congr 1; rw [decide_eq_decide]; omega
  unfold W.R_ZShift
  rw [c1, bnd_val]
  refine ⟨fun h => by rw [br_pos h], fun h => ?_, fun h => ?_⟩
  · rw [br_neg (by omega), br_pos (by omega)]
    obtain ⟨k, rfl⟩ : ∃ k : Nat, n = k := ⟨n.toNat, by omega⟩
    obtain ⟨p, p1, p2, p3⟩ := zpow2_ok k (by omega)
    obtain ⟨r, r1, r2, r3⟩ := zmul_ok ha p2 (by omega) (by omega)
    have c4 : W.R_ZShift.c4 (k : Int) a.1 a.2 Option.some = some (r.1, r.2) := by
      unfold W.R_ZShift.c4
      simp only [pair_eta]
      rw [p1, bnd_val, r1, bnd_val]
    rw [c4, bnd_val]
    exact ⟨r, rfl, by rw [Int.toNat_natCast]; exact r2, by omega⟩
  · rw [br_neg (by omega), br_neg (by omega)]
    obtain ⟨k, rfl⟩ : ∃ k : Nat, n = -(k : Int) := ⟨(-n).toNat, by omega⟩
    obtain ⟨p, p1, p2, p3⟩ := zpow2_ok k (by omega)
    have hP : (0 : Int) < 2 ^ k := Int.pow_pos (by decide)
    obtain ⟨q, r, r1, r2, r3, r4, r5⟩ := zdiv_ok ha p2 (by omega) (by omega) (by omega)
    have c5 : W.R_ZShift.c5 (-(k : Int)) a.1 a.2 Option.some = some (q.1, q.2, r.1, r.2, 0, 0) := by
      unfold W.R_ZShift.c5
      simp only [pair_eta]
      rw [wrap_i64 (by omega), show (0 : Int) - -(k : Int) = k by omega, p1, bnd_val, r1, bnd_val]
    rw [c5, bnd_val]
    exact ⟨q, rfl, by rw [show (- -(k : Int)).toNat = k by omega]; exact r2, by omega⟩
end Go.Ql
end

section
/- Quotients, common divisors, shifts: the law. -/
namespace Go.Ql
theorem shifts_ok {a b : Bool × List Int} {u : Int} (ha : Rep 4294967296 a u) (hb : Rep 10000 b u) (la : a.2.length < 50000) (lb : b.2.length < 50000) (n : Int) :
    ∃ x z f v, W.whole_Int_Shift a n = some (x, f) ∧ W.R_ZShift b n = some (z, f) ∧ Rep 4294967296 x v ∧ Rep 10000 z v ∧ x.2.length ≤ a.2.length + 10010 ∧ z.2.length ≤ b.2.length + 10010 := by
  obtain ⟨s1, s2, s3⟩ := shift_ok ha (by omega) n
  obtain ⟨t1, t2, t3⟩ := zshift_ok hb (by omega) n
  by_cases h1 : n < -10000 ∨ n > 10000
  · exact ⟨_, _, _, 0, s1 h1, t1 h1, Rep.nil, Rep.nil, by simp, by simp⟩
  · by_cases h2 : 0 ≤ n
    · obtain ⟨r, r1, r2, r3⟩ := s2 (by omega)
      obtain ⟨q, q1, q2, q3⟩ := t2 (by omega)
      exact ⟨r, q, (0, 0), _, r1, q1, r2, q2, by omega, by omega⟩
    · obtain ⟨r, r1, r2, r3⟩ := s3 (by omega)
      obtain ⟨q, q1, q2, q3⟩ := t3 (by omega)
      exact ⟨r, q, (0, 0), _, r1, q1, r2, q2, by omega, by omega⟩
theorem divs_ok {a b : Bool × List Int} {c d : Bool × List Int} {u v : Int} (ha : Rep 4294967296 a u) (hb : Rep 4294967296 b v) (hc : Rep 10000 c u) (hd : Rep 10000 d v)
    (la : a.2.length < 50000) (lb : b.2.length < 50000) (lc : c.2.length < 50000) (ld : d.2.length < 50000) :
    ∃ q r s t f x y, W.whole_Int_Div a b = some (q, r, f) ∧ W.R_ZDiv c d = some (s, t, f) ∧ Rep 4294967296 q x ∧ Rep 4294967296 r y ∧ Rep 10000 s x ∧ Rep 10000 t y ∧
      q.2.length ≤ a.2.length + 6 ∧ r.2.length ≤ b.2.length ∧ s.2.length ≤ c.2.length + 6 ∧ t.2.length ≤ d.2.length := by
  by_cases h : v = 0
  · subst h
    exact ⟨_, _, _, _, _, 0, 0, idiv_zero hb, zdiv_zero hd, Rep.nil, Rep.nil, Rep.nil, Rep.nil, by simp, by simp, by simp, by simp⟩
  · obtain ⟨q, r, e1, e2, e3, e4, e5⟩ := idiv_ok ha hb (by omega) (by omega) h
    obtain ⟨s, t, f1, f2, f3, f4, f5⟩ := zdiv_ok hc hd (by omega) (by omega) h
    exact ⟨q, r, s, t, (0, 0), _, _, e1, f1, e2, e3, f2, f3, by omega, e5, by omega, f5⟩
theorem divides_law (text other : List UInt8) (n : Int) (ht : text.length ≤ 9223372036854775807) (ho : other.length ≤ 9223372036854775807) : W.Law_WholeDivides text other n = some true := by
  obtain ⟨x, z, u, f, h1, h2, h3, h4, h5, h6⟩ := parse_ok text ht
  obtain ⟨y, w, v, g, k1, k2, k3, k4, k5, k6⟩ := parse_ok other ho
  unfold W.Law_WholeDivides
  rw [h1, k1, h2, k2]
  simp only [bnd_val, pair_eta]
  have c5 : W.Law_WholeDivides.c5 f.1 f.2 g.1 g.2 f.1 f.2 g.1 g.2 some = some false := by
    unfold W.Law_WholeDivides.c5
    rw [begun_ok, bnd_val, pair_eta, pair_eta, eqT_ff, eqT_ff]; rfl
  obtain ⟨q, r, s, t, e, p, o, d1, d2, d3, d4, d5, d6, d7, d8, d9, d10⟩ := divs_ok h3 k3 h4 k4 (by omega) (by omega) (by omega) (by omega)
  obtain ⟨i, j, l, m, s1, s2, s3, s4, s5, s6⟩ := shifts_ok h3 h4 (by omega) (by omega) n
  obtain ⟨gi, a1, a2, a3⟩ := igcd_ok h3 k3 (L := 1000) (by omega) (by omega) (by omega)
  obtain ⟨gz, b1, b2, b3⟩ := zgcd_ok h4 k4 (L := 1000) (by omega) (by omega) (by omega)
  obtain ⟨t1, t11, t12⟩ := tt_ok d3 d5 (by omega) (by omega)
  obtain ⟨t2, t21, t22⟩ := tt_ok d4 d6 (by omega) (by omega)
  obtain ⟨t3, t31, t32⟩ := tt_ok a2 b2 (by omega) (by omega)
  obtain ⟨t4, t41, t42⟩ := tt_ok s3 s4 (by omega) (by omega)
  rw [c5, bnd_val, br_ff, d1, bnd_val, d2, bnd_val]
  simp only [pair_eta]
  have c9 : W.Law_WholeDivides.c9 x.1 x.2 e.1 e.2 y.1 y.2 z.1 z.2 e.1 e.2 w.1 w.2 q.1 q.2 r.1 r.2 s.1 s.2 t.1 t.2 some = some false := by
    unfold W.Law_WholeDivides.c9
    simp only [pair_eta, eqT_ff, a1, b1, t11, t12, t21, t22, t31, t32, bnd_val, beq_self_eq_true, Bool.not_true, br_ff]
  rw [c9, bnd_val, br_ff, s1, bnd_val, s2, bnd_val]
  simp only
  have c13 : W.Law_WholeDivides.c13 l.1 l.2 l.1 l.2 i.1 i.2 j.1 j.2 some = some true := by
    unfold W.Law_WholeDivides.c13
    simp only [pair_eta, eqT_ff, t41, t42, bnd_val, beq_self_eq_true, br_tt]
  rw [c13, bnd_val]
end Go.Ql
end
