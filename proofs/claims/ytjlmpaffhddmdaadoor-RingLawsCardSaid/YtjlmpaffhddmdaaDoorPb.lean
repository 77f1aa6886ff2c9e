/- Plain laws: what the numbers keep; what is read. -/
import Derived.Test.YtjlmpaffhddmdaaDoorPa
import Derived.Test.YtjlmpaffhddmdaaDoorGa
set_option linter.all false
section
set_option maxRecDepth 100000
set_option linter.unusedVariables false
namespace Go.Ql
theorem Bd.add1 {v w : Nat → Int} {L : Nat} (h : Bd v L) (g : Bd w L) : Bd (fun i => v i + w i) (L + 1) := fun i hi => by
  have h1 := h i hi
  have h2 := g i hi
  rw [Nat.pow_succ]
  have := Int.natAbs_add_le (v i) (w i)
  simp only
  omega
theorem nadd_t {a b : List Dg × Int} {k l : K} {L M E F : Nat} (h : Num 4294967296 a k L E) (g : Num 4294967296 b l M F) (hs : L + M + 2 * (E + F) < 79000) :
    ∃ r, W.ring_Num_Add a b = some r ∧ Num 4294967296 r (K.add k l) (Max.max (L + F) (M + E) + 1) (Max.max E F) := by
  obtain ⟨c, ae⟩ := a
  obtain ⟨d, be⟩ := b
  obtain ⟨v, e, h1, h2, h3, h4, h5, h6⟩ := h.has
  obtain ⟨w, f, g1, g2, g3, g4, g5, g6⟩ := g.has
  simp only at h2 g2
  subst h2
  subst g2
  obtain ⟨x, y, g', q1, q2, q3⟩ := add_align (L := L) (M := M) (e := e) (f := f) h1 g1 h5 g5 (by omega)
  have b1 := (h5.up (Max.max e f - e)).mono (show L + (Max.max e f - e) ≤ Max.max (L + F) (M + E) by omega)
  have b2 := (g5.up (Max.max e f - f)).mono (show M + (Max.max e f - f) ≤ Max.max (L + F) (M + E) by omega)
  obtain ⟨r, r1, r2⟩ := add_loop (L := Max.max (L + F) (M + E)) q2 q3 b1 b2 (by omega) ((Max.max e f : Nat) : Int) g'
  obtain ⟨z, z1, z2⟩ := least_ok (L := Max.max (L + F) (M + E) + 1) r2 (b1.add1 b2) ((Max.max e f : Nat) : Int) (by omega)
  unfold W.ring_Num_Add
  rw [q1, bnd_val, r1, bnd_val]
  simp only [show ∀ z : List Dg × Int, inR (List.length [z]) (0 : Int) = some () from fun _ => rfl, show ∀ z : List Dg × Int, idx [z] (0 : Int) = some z from fun _ => rfl, bnd_val]
  rw [z1, bnd_val]
  refine ⟨z, rfl, ?_⟩
  obtain ⟨u, m, u1, u2, u3, u4, u5, u6⟩ := z2.has
  refine Num.mk' u1 u2 u3 ?_ (u5.mono (by omega)) (by omega)
  rw [u4, kvz_nat, ← kv_add, ← h4, ← g4]
  have e1 := kv_up v e (Max.max e f - e)
  have e2 := kv_up w f (Max.max e f - f)
  rw [show e + (Max.max e f - e) = Max.max e f by omega] at e1
  rw [show f + (Max.max e f - f) = Max.max e f by omega] at e2
  rw [e1, e2]
theorem nsub_t {a b : List Dg × Int} {k l : K} {L M E F : Nat} (h : Num 4294967296 a k L E) (g : Num 4294967296 b l M F) (hs : L + M + 2 * (E + F) < 79000) :
    ∃ r, W.ring_Num_Sub a b = some r ∧ Num 4294967296 r (K.sub k l) (Max.max (L + F) (M + E) + 1) (Max.max E F) := by
  obtain ⟨n, n1, n2⟩ := nneg_ok g (by omega)
  obtain ⟨r, r1, r2⟩ := nadd_t h n2 hs
  refine ⟨r, ?_, r2⟩
  unfold W.ring_Num_Sub W.ring_Num_Sub.c1
  refine bnd_of (x := [r]) ?_ rfl
  exact bnd_of n1 (bnd_of r1 rfl)
theorem nmul_t {a b : List Dg × Int} {k l : K} {L M E F : Nat} (h : Num 4294967296 a k L E) (g : Num 4294967296 b l M F) (hs : L + M + E + F < 44000) :
    ∃ r, W.ring_Num_Mul a b = some r ∧ Num 4294967296 r (K.mul k l) (L + M + 8) (E + F) := by
  obtain ⟨c, ae⟩ := a
  obtain ⟨d, be⟩ := b
  obtain ⟨v, e, h1, h2, h3, h4, h5, h6⟩ := h.has
  obtain ⟨w, f, g1, g2, g3, g4, g5, g6⟩ := g.has
  simp only at h1 g1 h2 g2
  subst h2
  subst g2
  obtain ⟨y, q1, r, q2, q3⟩ := iter_upto (f := fun s : Int × List Dg ↦ W.ring_Num_Mul.c100003 (d, (f : Int)) c (Prod.fst s) (Prod.snd s) some) 8
    (fun i s => s.1 = (i : Int) ∧ Reps 4294967296 s.2 (rows v w i))
    (fun y => ∃ r, y = ((8 : Int), r) ∧ Reps 4294967296 r (rows v w 8))
    (by
      rintro i ⟨t, out⟩ hi ⟨p1, p2⟩
      simp only at p1 p2
      subst p1
      left
      have hri := h1.at_ i hi
      have hrb := rows_bd h5 g5 i (by omega)
      simp only [W.ring_Num_Mul.c100003, W.ring_Num_Mul.c216417]
      rw [br_pos (by omega), h1.idx hi, bnd_val, show (((c.getD i d0).1, (c.getD i d0).2) : Dg) = c.getD i d0 from rfl, sign_ok hri, bnd_val]
      by_cases h0 : v i = 0
      · refine ⟨(((i + 1 : Nat) : Int), out), ?_, rfl, p2.congr (fun p _ => by simp [rows, h0])⟩
        rw [br_true (by simp [h0, sgn]), bnd_val, wrap_i64 (by omega)]
        rfl
      · obtain ⟨r, r1, r2⟩ := mul_row (L := L) (M := M) (N := L + M + i) hi hri (h5 i hi) g1 g5 p2 hrb (by omega)
        refine ⟨(((i + 1 : Nat) : Int), r), ?_, rfl, r2⟩
        have hsg : (sgn (v i) == 0) = false := by
          simp only [sgn, beq_eq_false_iff_ne, ne_eq]
          split <;> (try split) <;> omega
        rw [br_false hsg, r1, bnd_val, bnd_val, wrap_i64 (by omega)]
        rfl)
    (by
      rintro ⟨t, out⟩ ⟨p1, p2⟩
      simp only at p1 p2
      subst p1
      refine ⟨((8 : Int), out), ?_, out, rfl, p2⟩
      simp only [W.ring_Num_Mul.c100003]
      rw [br_neg (by omega)]
      rfl)
    (s := ((0 : Int), List.replicate 8 d0)) ⟨rfl, Reps.zero⟩
  subst q2
  obtain ⟨z, z1, z2⟩ := least_ok (L := L + M + 8) q3 (rows_bd h5 g5 8 (by omega)) ((e + f : Nat) : Int) (by omega)
  unfold W.ring_Num_Mul
  rw [q1, bnd_val, okIf_true (by simp [q3.len]), bnd_val]
  simp only
  rw [wrap_i64 (by omega), show (e : Int) + (f : Int) = ((e + f : Nat) : Int) by omega, z1, bnd_val]
  refine ⟨z, rfl, ?_⟩
  obtain ⟨u, m, u1, u2, u3, u4, u5, u6⟩ := z2.has
  refine Num.mk' u1 u2 u3 ?_ (u5.mono (by omega)) (by omega)
  rw [u4, kvz_nat, ← kv_mul, h4, g4]
theorem nhalf_t {a : NumT} {k : K} {L E : Nat} (h : Num 4294967296 a k L E) (hL : L + L + 2 * (E + E) < 79000) :
    ∃ r, W.ring_Num_Half a = some r ∧ Num 4294967296 r (K.half k) (L + E + 1) (E + 1) := by
  obtain ⟨t, t1, t2⟩ := nturn_ok h (by omega) 2 (by decide)
  obtain ⟨u, u1, u2⟩ := nturn_ok h (by omega) 6 (by decide)
  obtain ⟨⟨c, ae⟩, s1, s2⟩ := nsub_t t2 u2 (by omega)
  obtain ⟨v, e, h1, h2, h3, h4, h5, h6⟩ := s2.has
  simp only at h1 h2
  subst h2
  have t1' : W.ring_Num_Turn a (2 : Int) = some t := t1
  have u1' : W.ring_Num_Turn a (6 : Int) = some u := u1
  obtain ⟨r, r1, r2⟩ := least_ok h1 h5 ((e + 1 : Nat) : Int) (by omega)
  refine ⟨r, ?_, ?_⟩
  · unfold W.ring_Num_Half W.ring_Num_Half.c1
    rw [t1', bnd_val, u1', bnd_val, s1, bnd_val, bnd_val]
    simp only [bx_in, bx_at, bnd_val]
    rw [wrap_i64 (by omega), show (e : Int) + 1 = ((e + 1 : Nat) : Int) by omega, r1]
    rfl
  · obtain ⟨w', f', q1, q2, q3, q4, q5, q6⟩ := r2.has
    refine ⟨w', f', q1, q2, q3, ?_, q5.mono (by omega), by omega⟩
    rw [q4, kvz_nat, kv_half1, h4]
    rfl

theorem nzero_ok {a : NumT} {k : K} {L E : Nat} (h : Num 4294967296 a k L E) : ∃ t, W.ring_Num_Zero a = some t ∧ (t = true ↔ k = K.zero) := by
  obtain ⟨c, ae⟩ := a
  obtain ⟨v, e, h1, h2, h3, h4, h5, h6⟩ := h.has
  simp only at h1 h2
  subst h2
  obtain ⟨x, x1, x2⟩ := iter_upto (f := fun s : Int ↦ W.ring_Num_Zero.c100002 c s some) 8
    (fun i s => s = (i : Int) ∧ ∀ j, j < i → v j = 0)
    (fun x => (∃ i, x = .inl i ∧ ∃ j, j < 8 ∧ v j ≠ 0) ∨ (∃ i, x = .inr i ∧ ∀ j, j < 8 → v j = 0))
    (by
      rintro i s hi ⟨rfl, p2⟩
      simp only [W.ring_Num_Zero.c100002]
      rw [br_pos (by omega), h1.idx hi, bnd_val, show (((c.getD i d0).1, (c.getD i d0).2) : Dg) = c.getD i d0 from rfl, sign_ok (h1.at_ i hi), bnd_val]
      by_cases e2 : v i = 0
      · rw [br_false (by simp [sgn, e2]), wrap_i64 (by omega)]
        refine .inl ⟨_, rfl, by omega, fun j hj => ?_⟩
        by_cases e3 : j = i
        · rw [e3]; exact e2
        · exact p2 j (by omega)
      · have hsg : (sgn (v i) != 0) = true := by
          simp only [sgn, bne_iff_ne, ne_eq]
          split <;> (try split) <;> omega
        rw [br_true hsg]
        exact .inr ⟨_, rfl, .inl ⟨_, rfl, i, hi, e2⟩⟩)
    (by
      rintro s ⟨rfl, p2⟩
      simp only [W.ring_Num_Zero.c100002]
      rw [br_neg (by omega)]
      exact ⟨_, rfl, .inr ⟨_, rfl, p2⟩⟩)
    (s := (0 : Int)) ⟨rfl, fun j hj => by omega⟩
  unfold W.ring_Num_Zero
  rw [x1, bnd_val]
  rcases x2 with ⟨i, rfl, j, j1, j2⟩ | ⟨i, rfl, hall⟩
  · refine ⟨false, rfl, ?_⟩
    constructor
    · intro h; cases h
    · intro hk
      exact absurd (nought_kv.2 (h4.trans hk) j j1) j2
  · exact ⟨true, rfl, fun _ => h4.symm.trans (nought_kv.1 hall), fun _ => rfl⟩
theorem and15i (k : Int) (h : -9223372036854775808 ≤ k ∧ k ≤ 9223372036854775807) : ibits .and .i64 k 15 = ((k % 16).toNat : Int) := by
  show IntKind.i64.wrap (((BitVec.ofInt 64 k &&& BitVec.ofInt 64 15).toNat : Nat) : Int) = _
  rw [BitVec.toNat_and, BitVec.toNat_ofInt, BitVec.toNat_ofInt, show ((15 : Int) % ((2 ^ 64 : Nat) : Int)).toNat = 2 ^ 4 - 1 by decide, Nat.and_two_pow_sub_one_eq_mod, show (k % ((2 ^ 64 : Nat) : Int)).toNat % 2 ^ 4 = (k % 16).toNat by omega, wrap_i64 (by omega)]
theorem nturn_i {a : List Dg × Int} {x : K} {L E : Nat} (h : Num 4294967296 a x L E) (hL : L < 80000) (k : Int) (hk : -9223372036854775808 ≤ k ∧ k ≤ 9223372036854775807) :
    ∃ r, W.ring_Num_Turn a k = some r ∧ Num 4294967296 r (K.turn x (k % 16).toNat) L E := by
  obtain ⟨r, h1, h2⟩ := nturn_ok h hL (k % 16).toNat (by omega)
  refine ⟨r, ?_, h2⟩
  rw [← h1]
  unfold W.ring_Num_Turn
  rw [and15i k hk, and15 _ (by omega), show (k % 16).toNat % 16 = (k % 16).toNat by omega]
theorem one_ok : ∃ r, W.ring_one = some r ∧ Num 4294967296 r K.one 1 0 := by
  obtain ⟨p, p1, p2, _⟩ := of_ok (n := 1) (by decide)
  refine ⟨((List.replicate 8 d0).set 0 p, (0 : Int)), ?_, ?_⟩
  · unfold W.ring_one
    rw [p1, bnd_val]
  · refine Num.mk' (Reps.zero.set (by decide) p2) (e := 0) rfl (.inl rfl) ?_ ?_ (Nat.le_refl _)
    · simp [kv, K.one, hp]
    · intro i _
      show Int.natAbs (if i = 0 then 1 else 0) < 2 ^ 1
      split <;> decide
theorem root_ok (k : Int) (hk : -9223372036854775808 ≤ k ∧ k ≤ 9223372036854775807) : ∃ r, W.ring_Root k = some r ∧ Num 4294967296 r (K.turn K.one (k % 16).toNat) 1 0 := by
  obtain ⟨o, o1, o2⟩ := one_ok
  obtain ⟨r, r1, r2⟩ := nturn_i o2 (by decide) k hk
  refine ⟨r, ?_, r2⟩
  unfold W.ring_Root
  rw [o1, bnd_val, r1, bnd_val]
def rtV : Nat → Int := fun j => if j = 6 then -1 else if j = 2 then 1 else 0
theorem rt_ok : ∃ r, W.ring_Rt = some r ∧ Num 4294967296 r (kv rtV 1) 1 1 := by
  obtain ⟨p, p1, p2, _⟩ := of_ok (n := 1) (by decide)
  obtain ⟨q, q1, q2, _⟩ := of_ok (n := -1) (by decide)
  refine ⟨(((List.replicate 8 d0).set 2 p).set 6 q, ((1 : Nat) : Int)), ?_, ?_⟩
  · unfold W.ring_Rt
    rw [p1, bnd_val, q1, bnd_val]
    rfl
  · exact Num.mk' ((Reps.zero.set (by decide) p2).set (by decide) q2) rfl (.inr ⟨2, by decide, by decide⟩) rfl (fun i _ => by show Int.natAbs (if i = 6 then -1 else if i = 2 then 1 else 0) < 2 ^ 1; split <;> (try split) <;> decide) (Nat.le_refl _)
theorem half_rt (x : K) : K.half x = K.mul x (kv rtV 1) := by
  apply K.eq_of <;> simp [K.half, K.sm, K.sub, K.add, K.neg, K.turn, K.turn1, K.mul, kv, rtV, hp] <;> grind
theorem turn_norm (x : K) : ∀ n, K.mul (K.turn x n) (K.conj (K.turn x n)) = K.mul x (K.conj x)
  | 0 => rfl
  | n + 1 => by
    rw [show K.turn x (n + 1) = K.turn1 (K.turn x n) from rfl, ← turn_norm x n]
    generalize K.turn x n = y
    apply K.eq_of <;> simp only [K.mul, K.conj, K.turn1] <;> grind
theorem norm_zero {x : K} : K.mul x (K.conj x) = K.zero ↔ x = K.zero := by
  constructor
  · intro h
    have h0 : (K.mul x (K.conj x)).c0 = 0 := by rw [h]; rfl
    simp only [K.mul, K.conj] at h0
    have hs : ∀ r : Rat, 0 ≤ r * r := fun r => by
      rcases Rat.le_total (a := 0) (b := r) with h | h
      · exact Rat.mul_nonneg h h
      · have h' : 0 ≤ -r := by grind
        have := Rat.mul_nonneg h' h'
        grind
    have h1 : x.c0 * x.c0 + x.c1 * x.c1 + x.c2 * x.c2 + x.c3 * x.c3 + x.c4 * x.c4 + x.c5 * x.c5 + x.c6 * x.c6 + x.c7 * x.c7 = 0 := by grind
    have z : ∀ r : Rat, r * r = 0 → r = 0 := fun r hr => by
      rcases Rat.mul_eq_zero.1 hr with h | h <;> exact h
    have := hs x.c0; have := hs x.c1; have := hs x.c2; have := hs x.c3; have := hs x.c4; have := hs x.c5; have := hs x.c6; have := hs x.c7
    apply K.eq_of <;> (apply z; grind)
  · rintro rfl
    exact K.zero_mul _
theorem rt_norm : K.mul (kv rtV 1) (K.conj (kv rtV 1)) = kv (fun p => if p = 0 then 1 else 0) 1 := by
  apply K.eq_of <;> simp [K.mul, K.conj, kv, rtV, hp] <;> grind
theorem make_ok {cs : List Int} (h : I64s cs) (hl : cs.length < 281474976710656) (e : Int) :
    ∃ a f, W.ring_Make cs e = some (a, f) ∧ ∃ k L E, Num 4294967296 a k L E ∧ L + E ≤ 10200 ∧ (e = 0 → L ≤ 120 ∧ E = 0) := by
  by_cases hr : e < -10000 ∨ 10000 < e
  · refine ⟨_, ((5 : Int), (0 : Int)), ?_, K.zero, 0, 0, num_zero, by decide, fun _ => by decide⟩
    unfold W.ring_Make W.ring_Make.c1
    rcases hr with hr | hr
    · rw [br_pos hr, bnd_val, br_tt]
    · rw [br_neg (by omega), bnd_val, br_pos hr]
  · obtain ⟨c, c1, c2⟩ := make_loop h hl
    have hb := mv_bd h cs.length hl
    obtain ⟨a, a1, a2⟩ := least_ok c2 hb e (by omega)
    refine ⟨a, ((0 : Int), (0 : Int)), ?_, _, _, _, a2, by omega, fun h0 => by omega⟩
    unfold W.ring_Make W.ring_Make.c1
    rw [br_neg (by omega), bnd_val, br_neg (by omega)]
    rw [c1, bnd_val]
    simp only
    rw [okIf_true (by simp [c2.len]), bnd_val, a1, bnd_val]
end Go.Ql
end

section
set_option maxRecDepth 100000
set_option maxHeartbeats 1000000
set_option linter.unusedVariables false
namespace Go.Ql
theorem same_true {a b : NumT} {k l : K} {L M E F : Nat} (h : Num 4294967296 a k L E) (g : Num 4294967296 b l M F) (hs : L < 90000 ∧ M < 90000) (e : k = l) : W.ring_Num_Same a b = some true := by
  obtain ⟨t, h1, h2⟩ := nsame_ok h g hs
  rw [h1, h2.2 e]
theorem idx1 (a : NumT) : idx [a] (0 : Int) = some a := rfl
theorem K.sub_add (x y : K) : K.add (K.sub x y) y = x := by apply K.eq_of <;> simp only [K.sub, K.add, K.neg] <;> grind
theorem K.add_mul (x y z : K) : K.mul (K.add x y) z = K.add (K.mul x z) (K.mul y z) := by rw [K.mul_comm, K.mul_add, K.mul_comm z x, K.mul_comm z y]
theorem K.turn_eight_one : K.add (K.turn K.one 8) (K.turn K.one 0) = K.zero := by apply K.eq_of <;> simp [K.add, K.turn, K.turn1, K.one, K.zero] <;> grind
section
variable {a b c : NumT} {k l m : K} {L M N E F G : Nat}
theorem c4_ok (ha : Num 4294967296 a k L E) (hb : Num 4294967296 b l M F) (hc : Num 4294967296 c m N G) (sa : L + E ≤ 10200) (sb : M + F ≤ 10200) (sc : N ≤ 120 ∧ G = 0) : W.Law_RingLaws.c4 [a] [b] [c] some = some false := by
  obtain ⟨x1, p1, q1⟩ := nadd_t ha hb (by omega)
  obtain ⟨x2, p2, q2⟩ := nmul_t q1 hc (by omega)
  obtain ⟨x3, p3, q3⟩ := nmul_t ha hc (by omega)
  obtain ⟨x4, p4, q4⟩ := nmul_t hb hc (by omega)
  obtain ⟨x5, p5, q5⟩ := nadd_t q3 q4 (by omega)
  have s1 := same_true q2 q5 (by omega) (K.add_mul _ _ _)
  obtain ⟨x6, p6, q6⟩ := nmul_t ha hb (by omega)
  obtain ⟨x7, p7, q7⟩ := nmul_t hb ha (by omega)
  have s2 := same_true q6 q7 (by omega) (K.mul_comm _ _)
  obtain ⟨x8, p8, q8⟩ := nmul_t ha q4 (by omega)
  obtain ⟨x9, p9, q9⟩ := nmul_t q6 hc (by omega)
  have s3 := same_true q8 q9 (by omega) (K.mul_assoc _ _ _).symm
  obtain ⟨y1, r1, t1⟩ := nsub_t ha hb (by omega)
  obtain ⟨y2, r2, t2⟩ := nadd_t t1 hb (by omega)
  have s4 := same_true t2 ha (by omega) (K.sub_add _ _)
  unfold W.Law_RingLaws.c4
  simp only [idx1, bnd_val, begun_ring, p1, p2, p3, p4, p5, p6, p7, p8, p9, r1, r2, s1, s2, s3, s4, Bool.not_true, br_ff]
theorem c6_ok (ha : Num 4294967296 a k L E) (hb : Num 4294967296 b l M F) (sa : L + E ≤ 10200) (sb : M + F ≤ 10200) (t : Int) (ht : -9223372036854775808 ≤ t ∧ t ≤ 9223372036854775807) : W.Law_RingLaws.c6 t [a] [b] some = some false := by
  obtain ⟨x1, p1, q1⟩ := nmul_t ha hb (by omega)
  obtain ⟨x2, p2, q2⟩ := nconj_ok q1 (by omega)
  obtain ⟨x3, p3, q3⟩ := nconj_ok ha (by omega)
  obtain ⟨x4, p4, q4⟩ := nconj_ok hb (by omega)
  obtain ⟨x5, p5, q5⟩ := nmul_t q3 q4 (by omega)
  have s1 := same_true q2 q5 (by omega) (K.conj_mul _ _)
  obtain ⟨x6, p6, q6⟩ := nnorm_ok ha (by omega)
  obtain ⟨x7, p7, q7⟩ := nconj_ok q6 (by omega)
  have s2 := same_true q7 q6 (by omega) (by rw [K.conj_mul, K.conj_conj, K.mul_comm])
  obtain ⟨z1, w1, w1'⟩ := nzero_ok q6
  obtain ⟨z2, w2, w2'⟩ := nzero_ok ha
  have hz : z1 = z2 := by
    rw [Bool.eq_iff_iff, w1', w2', norm_zero]
  obtain ⟨x8, p8, q8⟩ := nturn_i ha (by omega) t ht
  obtain ⟨x9, p9, q9⟩ := nnorm_ok q8 (by omega)
  have s3 := same_true q9 q6 (by omega) (turn_norm _ _)
  subst hz
  unfold W.Law_RingLaws.c6
  simp only [idx1, bnd_val, p1, p2, p3, p4, p5, p6, p7, p8, p9, w1, w2, s1, s2, s3, Bool.not_true, br_ff, beq_self_eq_true]
theorem norm_text : ∀ {r : NumT} {L E : Nat}, Num 4294967296 r (kv (fun p => if p = 0 then 1 else 0) 1) L E → L < 90000 → E < 1000000 → W.ring_Num_Text r = some [49, 47, 49] := by
  intro r L E h h1 h2
  obtain ⟨t, t1, t2⟩ := ntext_ok h h1 h2
  rw [t1]
  congr 1
  have i1 : Go.Lib.itoa 1 = [49] := by unfold Go.Lib.itoa; rw [if_neg (by decide), Go.Lib.decDigits, dif_pos (by decide)]; rfl
  have e : ntext (fun p => if p = 0 then 1 else 0) 1 = [49, 47, 49] := by simp [ntext, lastTo, bodyT, i1]
  rw [← e]
  exact t2.one ⟨_, 1, .inr ⟨0, by decide, by decide⟩, rfl, rfl⟩
theorem c8_ok (ha : Num 4294967296 a k L E) (sa : L + E ≤ 10200) (t : Int) (ht : -9223372036854775808 ≤ t ∧ t ≤ 9223372036854775807) : W.Law_RingLaws.c8 t [a] some = some false := by
  obtain ⟨x1, p1, q1⟩ := nturn_i ha (by omega) t ht
  obtain ⟨x2, p2, q2⟩ := root_ok t ht
  obtain ⟨x3, p3, q3⟩ := nmul_t ha q2 (by omega)
  have s1 := same_true q1 q3 (by omega) (K.turn_root _ _)
  obtain ⟨x4, p4, q4⟩ := root_ok 8 (by decide)
  obtain ⟨x5, p5, q5⟩ := root_ok 0 (by decide)
  obtain ⟨x6, p6, q6⟩ := nadd_t q4 q5 (by omega)
  obtain ⟨z, w1, w2⟩ := nzero_ok q6
  have hz := w2.2 K.turn_eight_one
  subst hz
  obtain ⟨x7, p7, q7⟩ := nhalf_t ha (by omega)
  obtain ⟨x8, p8, q8⟩ := rt_ok
  obtain ⟨x9, p9, q9⟩ := nmul_t ha q8 (by omega)
  have s2 := same_true q7 q9 (by omega) (half_rt _)
  obtain ⟨y1, r1, t1⟩ := nnorm_ok q8 (by omega)
  have s3 := norm_text (t1.eq_of rt_norm) (by omega) (by omega)
  unfold W.Law_RingLaws.c8
  simp only [idx1, bnd_val, p1, p2, p3, p4, p5, p6, p7, p8, p9, r1, w1, s1, s2, s3, Bool.not_true, br_ff]
  rfl
end
end Go.Ql
end

section
set_option maxRecDepth 100000
set_option linter.unusedVariables false
namespace Go.Ql
theorem word_loop1 (text : List UInt8) (i : Nat) (hi : i ≤ text.length) (hL : text.length ≤ 9223372036854775807) :
    ∃ k : Nat, iter (fun s ↦ W.whole_number.c100009 text s Option.some) (i : Int) = some (k : Int) ∧ i ≤ k ∧ k ≤ text.length ∧ (∀ j (h : j < text.length), i ≤ j → j < k → isDigit text[j] = true) := by
  obtain ⟨r, h1, k, h2, h3⟩ := iter_loop (f := fun s : Int ↦ W.whole_number.c100009 text s Option.some)
    (J := fun s => ∃ k : Nat, s = k ∧ i ≤ k ∧ k ≤ text.length ∧ (∀ j (h : j < text.length), i ≤ j → j < k → isDigit text[j] = true))
    (Q := fun s => ∃ k : Nat, s = k ∧ i ≤ k ∧ k ≤ text.length ∧ (∀ j (h : j < text.length), i ≤ j → j < k → isDigit text[j] = true))
    (fun s => text.length - s.toNat) (fun s ⟨k, hs, hik, hk, hd⟩ => by
      subst hs
      simp only [W.whole_number.c100009]
      have e : W.whole_number.c9 text (k : Int) Option.some = some (if h : k < text.length then isDigit text[k] else false) := by
        unfold W.whole_number.c9
        by_cases h : k < text.length
        · rw [br_pos (by omega), idx_text text k h, bnd_val, bnd_val, dif_pos h]
          unfold isDigit
          by_cases h5 : (48 : Nat) ≤ text[k].toNat
          · rw [br_pos (by omega)]; simp [h5]; omega
          · rw [br_neg (by omega)]; simp [h5]
        · rw [br_neg (by omega), dif_neg h]
      rw [e, bnd_val]
      by_cases h : k < text.length
      · rw [dif_pos h]
        by_cases h5 : isDigit text[k] = true
        · rw [h5, br_tt]
          refine Or.inr ⟨((k + 1 : Nat) : Int), by rw [wrap_i64 (by omega)]; rfl, ⟨k + 1, rfl, by omega, by omega, fun j hj h6 h7 => ?_⟩, by omega⟩
          by_cases h8 : j = k
          · subst h8; exact h5
          · exact hd j hj h6 (by omega)
        · rw [eq_false_of_ne_true h5, br_ff]
          exact Or.inl ⟨_, rfl, k, rfl, hik, hk, hd⟩
      · rw [dif_neg h, br_ff]
        exact Or.inl ⟨_, rfl, k, rfl, hik, hk, hd⟩)
    (s := (i : Int)) ⟨i, rfl, Nat.le_refl _, hi, fun j h h1 h2 => by omega⟩
  exact ⟨k, by rw [h1, h2], h3⟩
theorem word_ok1 (text : List UInt8) (hL : text.length ≤ 9223372036854775807) :
    ∃ (n : Nat) (ok : Bool), W.whole_number text true = some ((n : Int), ok) ∧ (ok = true → text.length ≤ n → Canon text) := by
  obtain ⟨i, hi, hs, hw2⟩ : ∃ i : Nat, i ≤ text.length ∧ (if i = 1 then text.head? = some 45 else i = 0 ∧ text.head? ≠ some 45) ∧ True := by
    by_cases h : text.head? = some 45
    · exact ⟨1, by cases text with | nil => simp at h | cons => simp, by simp [h], trivial⟩
    · exact ⟨0, by omega, by simp [h], trivial⟩
  have hi1 : i ≤ 1 := by split at hs <;> omega
  have e1 : W.whole_number.c208197 text true 0 Option.some = some (i : Int) := by
    unfold W.whole_number.c208197 W.whole_number.c2
    rw [br_tt, show Array.toList (ByteArray.data (ByteArray.mk #[(45 : UInt8)])) = [45] from rfl, hasPrefix1, bnd_val, bnd_val]
    split at hs
    · rename_i h; subst h; rw [hs]; rfl
    · rw [beq_false_of_ne hs.2, hs.1]; rfl
  obtain ⟨k, h1, h2, h3, h4⟩ := word_loop1 text i hi hL
  have hnum : W.whole_number text true = br ((text.drop i).head? == some 48) (br (decide (i = 1)) (some ((i : Int), false)) (some (1, true))) (some ((k : Int), decide ((k : Int) > i))) := by
    unfold W.whole_number
    rw [e1, bnd_val, okIf_true (by simp <;> omega), bnd_val, show Array.toList (ByteArray.data (ByteArray.mk #[(48 : UInt8)])) = [48] from rfl, hasPrefix1, bnd_val, h1, bnd_val]
    rw [Int.toNat_natCast, Int.toNat_natCast, List.take_length]
    unfold W.whole_number.c5
    simp only [Bool.not_true, br_ff, bnd_val]
    congr 2
    by_cases h : i = 1
    · subst h; rfl
    · rw [show i = 0 by omega]; rfl
  rw [hnum]
  by_cases h5 : (text.drop i).head? = some 48
  · rw [br_true (beq_iff_eq.2 h5)]
    by_cases h : i = 1
    · rw [br_pos h]
      exact ⟨i, false, rfl, fun h => by cases h⟩
    · rw [br_neg h]
      refine ⟨1, true, rfl, fun _ hl => Or.inl ?_⟩
      rw [show i = 0 by omega, List.drop_zero] at h5
      cases text with
      | nil => simp at h5
      | cons c l =>
        simp only [List.length_cons] at hl
        have : l = [] := List.eq_nil_of_length_eq_zero (by omega)
        subst this
        simp at h5
        rw [h5]
  · rw [br_false (beq_false_of_ne h5)]
    refine ⟨k, decide ((k : Int) > i), rfl, fun hk hl => Or.inr ⟨decide (i = 1), text.drop i, ?_, ?_, h5, ?_⟩⟩
    · have : (k : Int) > i := of_decide_eq_true hk
      intro e
      have := congrArg List.length e
      simp at this
      omega
    · intro c hc
      obtain ⟨j, hj, rfl⟩ := List.getElem_of_mem hc
      rw [List.getElem_drop]
      exact h4 _ _ (by omega) (by simp at hj; omega)
    · split at hs
      · rename_i h
        subst h
        cases text with
        | nil => simp at hs
        | cons c l => simp at hs; simp [hs]
      · simp [hs.1]
theorem parse_ok1 (text : List UInt8) (hL : text.length ≤ 9223372036854775807) :
    ∃ x v f, W.whole_Parse text = some (x, f) ∧ Rep 4294967296 x v ∧ x.2.length ≤ 1000 := by
  obtain ⟨n, ok, h1, h3⟩ := word_ok1 text hL
  have e0 : Rep 4294967296 (false, []) 0 := ⟨Dig.nil, by simp, by simp, by simp [val]⟩
  have c2 : W.whole_Parse.c2 text (n : Int) ok Option.some = some (!ok || decide (n < text.length)) := by
    unfold W.whole_Parse.c2
    cases ok <;> simp [br]
  unfold W.whole_Parse
  rw [h1]
  simp only [bnd_val]
  rw [c2]
  simp only [bnd_val]
  by_cases hbad : (!ok || decide (n < text.length)) = true
  · rw [br_true hbad]
    exact ⟨_, 0, _, rfl, e0, by simp⟩
  rw [br_false (eq_false_of_ne_true hbad)]
  have hg : ok = true ∧ text.length ≤ n := by
    cases ok <;> simp at hbad ⊢
    exact hbad
  obtain ⟨neg, ds, p1, p2, p3⟩ := (h3 hg.1 hg.2).parts
  have hh : (text.head? == some 45) = neg := by
    rw [p3]
    cases neg
    · exact beq_false_of_ne (head_digit p2)
    · rfl
  have hlen : text.length = (if neg then 1 else 0) + ds.length := by rw [p3]; cases neg <;> simp <;> omega
  have htrim : W.strings_TrimPrefix text (Array.toList (ByteArray.data (ByteArray.mk #[(45 : UInt8)]))) = some ds := by
    show W.strings_TrimPrefix text [45] = some ds
    rw [trim_ok text hL]
    cases neg
    · rw [if_neg (by simpa using hh), p3]; rfl
    · rw [if_pos (by simpa using hh), p3]; rfl
  rw [htrim]
  simp only [bnd_val]
  by_cases hlong : (ds.length : Int) > 1000
  · rw [br_pos hlong]
    exact ⟨_, 0, _, rfl, e0, by simp⟩
  rw [br_neg hlong]
  obtain ⟨m, q1, q2, q3, q4⟩ := digits_ok ds p2 (by omega)
  obtain ⟨r, s1, s2, s3⟩ := made_ok (decide ((ds.length : Int) < (text.length : Int))) m q2 (by omega)
  have hneg : decide ((ds.length : Int) < (text.length : Int)) = neg := by
    rw [hlen]; cases neg <;> simp <;> omega
  exact ⟨r, if neg then - dec ds else dec ds, (0, 0), by rw [q1, bnd_val, s1]; rfl, by rw [hneg, q4] at s2; exact s2, by omega⟩
end Go.Ql
end

section
set_option maxRecDepth 100000
set_option linter.unusedVariables false
namespace Go.Ql
theorem itoa_chars {n : Int} : ∀ c ∈ Go.Lib.itoa n, isDigit c = true ∨ c = 45 := by
  intro c hc
  rcases itoa_txt n with ⟨_, e⟩ | ⟨_, D, hd, e⟩
  · rw [e] at hc; rw [List.mem_singleton.1 hc]; exact .inl rfl
  · rw [e, List.mem_append] at hc
    rcases hc with hc | hc
    · split at hc
      · rw [List.mem_singleton.1 hc]; exact .inr rfl
      · cases hc
    · exact .inl (hd.1 c hc)
theorem itoa_no (n : Int) {c : UInt8} (h : c = 44 ∨ c = 47) : c ∉ Go.Lib.itoa n := by
  intro hc
  have := itoa_chars c hc
  rcases h with rfl | rfl
  · revert this; decide
  · revert this; decide
theorem itoa_inj {n m : Int} (h : Go.Lib.itoa n = Go.Lib.itoa m) : n = m := by
  have d48 : dec [48] = 0 := by decide
  have key : ∀ {l : List UInt8} {v : Int}, Txt v l → v = (if l.head? = some 45 then - dec l.tail else dec l) := by
    intro l v ht
    rcases ht with ⟨h1, h2⟩ | ⟨h1, D, hd, h2⟩
    · rw [h1, h2]; rfl
    · by_cases hv : v < 0
      · rw [if_pos hv] at h2
        rw [h2]
        simp only [List.singleton_append, List.head?_cons, List.tail_cons, if_true]
        rw [hd.2.2.2]
        omega
      · rw [if_neg hv, List.nil_append] at h2
        rw [h2]
        have hh : D.head? ≠ some 45 := by
          intro e
          cases D with
          | nil => cases e
          | cons c r =>
            simp only [List.head?_cons, Option.some.injEq] at e
            have := hd.1 c (by simp)
            rw [e] at this
            revert this; decide
        rw [if_neg hh, hd.2.2.2]
        omega
  have h1 := key (itoa_txt n)
  have h2 := key (itoa_txt m)
  rw [h] at h1
  exact h1.trans h2.symm
theorem last_split {c : UInt8} {A B X Y : List UInt8} (hX : c ∉ X) (hY : c ∉ Y) (h : A ++ c :: X = B ++ c :: Y) : A = B ∧ X = Y := by
  rcases List.append_eq_append_iff.1 h with ⟨xs, h1, h2⟩ | ⟨bs, h1, h2⟩
  · cases xs with
    | nil => simp at h1 h2; exact ⟨h1.symm, h2⟩
    | cons d r =>
      simp only [List.cons_append, List.cons.injEq] at h2
      exact absurd (by rw [h2.2]; simp) hX
  · cases bs with
    | nil => simp at h1 h2; exact ⟨h1, h2.symm⟩
    | cons d r =>
      simp only [List.cons_append, List.cons.injEq] at h2
      exact absurd (by rw [h2.2]; simp) hY
theorem bodyT_inj {v w : Nat → Int} : ∀ n m, bodyT v n = bodyT w m → n = m ∧ ∀ i, i ≤ n → v i = w i
  | 0, 0, h => ⟨rfl, fun i hi => by rw [show i = 0 by omega]; exact itoa_inj h⟩
  | 0, m + 1, h => by
    simp only [bodyT] at h
    exact absurd (by rw [h]; simp) (itoa_no (v 0) (c := 44) (.inl rfl))
  | n + 1, 0, h => by
    simp only [bodyT] at h
    exact absurd (by rw [← h]; simp) (itoa_no (w 0) (c := 44) (.inl rfl))
  | n + 1, m + 1, h => by
    simp only [bodyT] at h
    obtain ⟨h1, h2⟩ := last_split (itoa_no _ (.inl rfl)) (itoa_no _ (.inl rfl)) h
    obtain ⟨e, h3⟩ := bodyT_inj n m h1
    subst e
    refine ⟨rfl, fun i hi => ?_⟩
    by_cases e : i = n + 1
    · rw [e]; exact itoa_inj h2
    · exact h3 i (by omega)
theorem bodyT_no {v : Nat → Int} : ∀ n, (47 : UInt8) ∉ bodyT v n
  | 0 => itoa_no _ (.inr rfl)
  | n + 1 => by
    simp only [bodyT, List.mem_append, List.mem_cons, not_or]
    exact ⟨bodyT_no n, by decide, itoa_no _ (.inr rfl)⟩
theorem lastTo_zero {v : Nat → Int} : ∀ n i, lastTo v n < i → i < n → v i = 0
  | 0, i, _, h => by omega
  | n + 1, i, h1, h2 => by
    unfold lastTo at h1
    split at h1
    · omega
    · rename_i h0
      by_cases e : i = n
      · rw [e]; simpa using h0
      · exact lastTo_zero n i h1 (by omega)
theorem ntext_inj {v w : Nat → Int} {e f : Nat} (h : ntext v e = ntext w f) : e = f ∧ ∀ i, i < 8 → v i = w i := by
  have key : bodyT v (lastTo v 8) = bodyT w (lastTo w 8) ∧ e = f := by
    unfold ntext at h
    by_cases he : e = 0 <;> by_cases hf : f = 0
    · rw [if_pos he, if_pos hf, List.append_nil, List.append_nil] at h
      exact ⟨h, by omega⟩
    · rw [if_pos he, if_neg hf, List.append_nil] at h
      exact absurd (by rw [h]; simp) (bodyT_no (v := v) (lastTo v 8))
    · rw [if_neg he, if_pos hf, List.append_nil] at h
      exact absurd (by rw [← h]; simp) (bodyT_no (v := w) (lastTo w 8))
    · rw [if_neg he, if_neg hf] at h
      obtain ⟨h1, h2⟩ := last_split (itoa_no _ (.inr rfl)) (itoa_no _ (.inr rfl)) h
      have := itoa_inj h2
      exact ⟨h1, by omega⟩
  obtain ⟨h1, h2⟩ := key
  obtain ⟨h3, h4⟩ := bodyT_inj _ _ h1
  refine ⟨h2, fun i hi => ?_⟩
  by_cases hl : i ≤ lastTo v 8
  · exact h4 i hl
  · rw [lastTo_zero (v := v) 8 i (by omega) hi, lastTo_zero (v := w) 8 i (by omega) hi]
theorem KTxt.inj {k l : K} {t : List UInt8} (h : KTxt k t) (g : KTxt l t) : k = l := by
  obtain ⟨v, e, _, h2, h3⟩ := h
  obtain ⟨w, f, _, g2, g3⟩ := g
  obtain ⟨rfl, hv⟩ := ntext_inj (h3.symm.trans g3)
  rw [← h2, ← g2]
  exact kv_congr hv
theorem text_len {a : NumT} {k : K} {L E : Nat} {t : List UInt8} (h : Num 4294967296 a k L E) (hE : E < 1000000) (ht : KTxt k t) : t.length ≤ 8 * (L + 3) + 30 := by
  obtain ⟨v, e, h1, h2, h3, h4, h5, h6⟩ := h.has
  rw [ht.one ⟨v, e, h3, h4, rfl⟩]
  have h7 := bodyT_len8 h5 (lastTo v 8) (lastTo_lt v 8 (by decide))
  have hit := itoa_len (v := (e : Int)) (L := 20) (by simp; omega)
  unfold ntext
  rw [List.length_append]
  split <;> simp <;> omega
end Go.Ql
end

section
set_option maxRecDepth 100000
set_option maxHeartbeats 1000000
set_option linter.unusedVariables false
namespace Go.Ql
section
variable {text : List UInt8} (hL : text.length ≤ 1000000000)
include hL
theorem meets_any (c : Int) (p : Nat) (hp : p ≤ text.length) : ∃ (b : Bool) (q : Nat), W.ring_reader_meets c text (p : Int) = some (b, text, (q : Int), ()) ∧ p ≤ q ∧ q ≤ text.length := by
  unfold W.ring_reader_meets W.ring_reader_meets.c1
  by_cases h : p < text.length
  · rw [br_pos (by omega), idx_text _ p h, bnd_val, bnd_val]
    cases ((↑(UInt8.toNat text[p]) : Int) == c)
    · exact ⟨false, p, by rw [br_ff], Nat.le_refl _, hp⟩
    · exact ⟨true, p + 1, by rw [br_tt, wrap_i64 (by omega)]; rfl, by omega, by omega⟩
  · rw [br_neg (by omega), bnd_val, br_ff]
    exact ⟨false, p, rfl, Nat.le_refl _, hp⟩
omit hL in
theorem digit_at (p : Nat) (hp : p ≤ text.length) : W.ring_reader_digits.c2 text (p : Int) some = some (if h : p < text.length then isDigit text[p] else false) := by
  unfold W.ring_reader_digits.c2
  by_cases h : p < text.length
  · rw [br_pos (by omega), idx_text text p h, bnd_val, bnd_val, dif_pos h]
    unfold isDigit
    by_cases h5 : (48 : Nat) ≤ text[p].toNat
    · rw [br_pos (by omega)]; simp [h5]; omega
    · rw [br_neg (by omega)]; simp [h5]
  · rw [br_neg (by omega), dif_neg h]
theorem digits_any (nought : Bool) (p : Nat) (hp : p ≤ text.length) : (∃ (q : Nat) (s : List UInt8), W.ring_reader_digits nought text (p : Int) = some (.inl (s, text, (q : Int), ())) ∧ p < q ∧ q ≤ text.length ∧ s.length ≤ text.length ∧ s.head? ≠ some 45 ∧ s ≠ []) ∨
    ∃ (q : Int), W.ring_reader_digits nought text (p : Int) = some (.inr ((1, q), text, q, ())) := by
  obtain ⟨r, h1, q, h2, h3, h4, h5⟩ := iter_loop (f := fun s ↦ W.ring_reader_digits.c100002 nought (p : Int) text s some)
    (J := fun s => ∃ k : Nat, s = (k : Int) ∧ p ≤ k ∧ k ≤ text.length ∧ (p < k → ∃ h : p < text.length, isDigit text[p] = true))
    (Q := fun s => ∃ k : Nat, s = (k : Int) ∧ p ≤ k ∧ k ≤ text.length ∧ (p < k → ∃ h : p < text.length, isDigit text[p] = true))
    (fun s => text.length - s.toNat) (fun s ⟨k, hs, hpk, hk, hd⟩ => by
      subst hs
      simp only [W.ring_reader_digits.c100002]
      rw [digit_at k hk, bnd_val]
      by_cases h : k < text.length
      · rw [dif_pos h]
        by_cases hdk : isDigit text[k] = true
        · rw [hdk, br_tt]
          obtain ⟨t, ht⟩ : ∃ t, W.ring_reader_digits.c3 nought (p : Int) text (k : Int) some = some t := by
            unfold W.ring_reader_digits.c3
            rw [idx_text _ p (by omega), bnd_val]
            cases ((↑(UInt8.toNat text[p]) : Int) == 48) <;> cases nought <;> simp [br] <;> exact ⟨_, rfl⟩
          rw [ht, bnd_val]
          cases t
          · rw [br_ff]
            refine Or.inr ⟨((k + 1 : Nat) : Int), by rw [wrap_i64 (by omega)]; rfl, ⟨k + 1, rfl, by omega, by omega, fun _ => ?_⟩, by omega⟩
            by_cases e : p = k
            · subst e; exact ⟨h, hdk⟩
            · exact hd (by omega)
          · rw [br_tt]
            exact Or.inl ⟨_, rfl, k, rfl, hpk, hk, hd⟩
        · rw [eq_false_of_ne_true hdk, br_ff]
          exact Or.inl ⟨_, rfl, k, rfl, hpk, hk, hd⟩
      · rw [dif_neg h, br_ff]
        exact Or.inl ⟨_, rfl, k, rfl, hpk, hk, hd⟩)
    (s := (p : Int)) ⟨p, rfl, Nat.le_refl _, hp, fun h => by omega⟩
  subst h2
  unfold W.ring_reader_digits W.ring_reader_digits.c220485 W.ring_reader_digits.c7
  rw [h1, bnd_val]
  by_cases e : q = p
  · right
    subst e
    refine ⟨(q : Int), ?_⟩
    rw [br_true (by simp), bnd_val]
    rfl
  · left
    obtain ⟨hpl, hdig⟩ := h5 (by omega)
    refine ⟨q, (text.take q).drop p, ?_, by omega, h4, by simp; omega, ?_, ?_⟩
    · rw [br_false (by simp; omega), bnd_val]
      show bnd (bnd (okIf _) _) _ = _
      rw [okIf_true (by simp; omega), bnd_val, bnd_val, Int.toNat_natCast, Int.toNat_natCast]
    · rw [List.head?_drop, List.getElem?_take, if_pos (by omega), List.getElem?_eq_getElem hpl]
      intro h
      have h := Option.some.inj h
      rw [h] at hdig
      revert hdig; decide
    · intro h
      have := congrArg List.length h
      simp at this
      omega
theorem all_any : (∃ (cs : List (List UInt8)) (low : List UInt8) (q : Nat), W.ring_reader_all text 0 = some (.inl (cs, low, text, (q : Int), ())) ∧ cs.length ≤ 8 ∧ (∀ c ∈ cs, c.length ≤ 1000000001) ∧ low.length ≤ 1000000000 ∧ low.head? ≠ some 45) ∨
    ∃ (q r : Int), W.ring_reader_all text 0 = some (.inr ((1, q), text, r, ())) := by
  obtain ⟨r, h1, h2⟩ := iter_loop (f := fun s ↦ W.ring_reader_all.c100002 (Prod.fst s) (Prod.fst (Prod.snd s)) (Prod.snd (Prod.snd s)) some)
    (J := fun s => ∃ k : Nat, s.2 = (text, (k : Int)) ∧ k ≤ text.length ∧ s.1.length ≤ 7 ∧ ∀ c ∈ s.1, c.length ≤ 1000000001)
    (Q := fun y => (∃ (cs : List (List UInt8)) (k : Nat), y = .inl (cs, text, (k : Int)) ∧ k ≤ text.length ∧ cs.length ≤ 8 ∧ ∀ c ∈ cs, c.length ≤ 1000000001) ∨ ∃ (cs : List (List UInt8)) (q r : Int), y = .inr (cs, (1, q), text, r))
    (fun s => text.length - s.2.2.toNat) (fun ⟨cs, t, z⟩ ⟨k, hs, hk, hl, hc⟩ => by
      simp only [Prod.mk.injEq] at hs
      obtain ⟨rfl, rfl⟩ := hs
      replace hl : cs.length ≤ 7 := hl
      replace hc : ∀ c ∈ cs, c.length ≤ 1000000001 := hc
      simp only [W.ring_reader_all.c100002, W.ring_reader_all.c212293]
      obtain ⟨b, q, m1, m2, m3⟩ := meets_any hL 45 k hk
      rw [m1, bnd_val]
      obtain ⟨sg, hsg, hsl⟩ : ∃ sg : List UInt8, br b (some ((Array.toList (ByteArray.data (ByteArray.mk #[(45 : UInt8)]))), t, (q : Int))) (some ((Array.toList (ByteArray.data (ByteArray.mk #[]))), t, (q : Int))) = some (sg, t, (q : Int)) ∧ sg.length ≤ 1 := by
        cases b
        · exact ⟨_, br_ff, by simp⟩
        · exact ⟨_, br_tt, by simp⟩
      simp only
      rw [hsg, bnd_val]
      simp only
      rcases digits_any hL (sg == Array.toList (ByteArray.data (ByteArray.mk #[]))) q m3 with ⟨u, s, d1, d2, d3, d4, d5, d6⟩ | ⟨u, d1⟩
      · rw [d1, bnd_val]
        have hlen : (sg ++ s).length ≤ 1000000001 := by rw [List.length_append]; omega
        have hall : ∀ c ∈ cs ++ [sg ++ s], c.length ≤ 1000000001 := by
          intro c hcc
          rw [List.mem_append, List.mem_singleton] at hcc
          rcases hcc with hcc | rfl
          · exact hc c hcc
          · exact hlen
        have hc6 : ∃ (b : Bool) (n : Nat), W.ring_reader_all.c6 (cs ++ [sg ++ s]) t (u : Int) some = some (b, t, (n : Int)) ∧ q < n ∧ n ≤ t.length ∧ (b = false → cs.length + 1 ≤ 7) := by
          unfold W.ring_reader_all.c6
          by_cases h8 : cs.length + 1 = 8
          · rw [br_true (by simp; omega)]
            exact ⟨true, u, rfl, d2, d3, fun h => by cases h⟩
          · obtain ⟨b2, n, n1, n2, n3⟩ := meets_any hL 44 u d3
            rw [br_false (by simp; omega), n1, bnd_val]
            exact ⟨!b2, n, rfl, by omega, n3, fun _ => by omega⟩
        obtain ⟨b3, n, e1, e2, e3, e4⟩ := hc6
        simp only [sel]
        rw [okIf_true (by simp; omega), bnd_val, okIf_true (by simp; omega), bnd_val, e1, bnd_val]
        cases b3
        · rw [br_ff]
          exact Or.inr ⟨_, rfl, ⟨n, rfl, e3, by simp; have := e4 rfl; omega, hall⟩, by simp; omega⟩
        · rw [br_tt]
          exact Or.inl ⟨_, rfl, .inl ⟨_, n, rfl, e3, by simp; omega, hall⟩⟩
      · rw [d1, bnd_val]
        exact Or.inl ⟨_, rfl, .inr ⟨_, _, _, rfl⟩⟩)
    (s := ([], text, (0 : Int))) ⟨0, rfl, by omega, by simp, by simp⟩
  unfold W.ring_reader_all
  rw [h1, bnd_val]
  rcases h2 with ⟨cs, k, rfl, hk, hl, hc⟩ | ⟨cs, q, r, rfl⟩
  · simp only [sel]
    unfold W.ring_reader_all.c232773
    obtain ⟨b, q, m1, m2, m3⟩ := meets_any hL 47 k hk
    rw [m1, bnd_val]
    have fin : ∀ (low : List UInt8) (u : Nat), u ≤ text.length → low.length ≤ 1000000000 → low.head? ≠ some 45 →
        ((∃ (cs' : List (List UInt8)) (low' : List UInt8) (q : Nat), (bnd (W.ring_reader_all.c240965 text (u : Int) some) fun y_2 => sel y_2 (fun u_2 => some (Sum.inr (((1 : Int), (u : Int)), text, (u : Int), ()))) (fun v_2 => some (Sum.inl (cs, low, text, (u : Int), ())))) = some (.inl (cs', low', text, (q : Int), ())) ∧ cs'.length ≤ 8 ∧ (∀ c ∈ cs', c.length ≤ 1000000001) ∧ low'.length ≤ 1000000000 ∧ low'.head? ≠ some 45) ∨
        ∃ (q r : Int), (bnd (W.ring_reader_all.c240965 text (u : Int) some) fun y_2 => sel y_2 (fun u_2 => some (Sum.inr (((1 : Int), (u : Int)), text, (u : Int), ()))) (fun v_2 => some (Sum.inl (cs, low, text, (u : Int), ())))) = some (.inr ((1, q), text, r, ()))) := by
      intro low u hu h3 h4
      unfold W.ring_reader_all.c240965 W.ring_reader_all.c10
      rw [bnd_val]
      by_cases h : (u : Int) < (text.length : Int)
      · rw [br_pos h, bnd_val]
        exact .inr ⟨_, _, rfl⟩
      · rw [br_neg h, bnd_val]
        exact .inl ⟨cs, low, u, rfl, hl, hc, h3, h4⟩
    cases b
    · rw [br_ff, bnd_val]
      exact fin [] q m3 (by simp) (by simp)
    · rw [br_tt]
      rcases digits_any hL false q m3 with ⟨u, s, d1, d2, d3, d4, d5, d6⟩ | ⟨u, d1⟩
      · rw [d1, bnd_val]
        simp only [sel, bnd_val]
        exact fin s u d3 (by omega) d5
      · rw [d1, bnd_val]
        exact .inr ⟨_, _, rfl⟩
  · exact .inr ⟨_, _, rfl⟩
end
end Go.Ql
end

section
set_option maxRecDepth 100000
set_option maxHeartbeats 1000000
set_option linter.unusedVariables false
namespace Go.Ql
theorem pow_le2 {a b : Nat} (h : a ≤ b) : 2 ^ a ≤ 2 ^ b := Nat.pow_le_pow_right (by decide) h
theorem rep_small {m : Nat} (hm : 32000 ≤ m) {x : Dg} {v : Int} (h : Rep 4294967296 x v) (hl : x.2.length ≤ 1000) : v.natAbs < 2 ^ m := by
  have h1 := h.absval (by decide)
  have h2 := val_lt (by decide) h.dig
  rw [h1] at h2
  have h3 : (4294967296 : Int) ^ x.2.length = ((2 ^ (32 * x.2.length) : Nat) : Int) := by
    rw [Nat.pow_mul]; simp
  rw [h3] at h2
  have h6 : 32 * x.2.length ≤ m := by omega
  have h5 : v.natAbs < 2 ^ (32 * x.2.length) := Int.ofNat_lt.1 h2
  exact Nat.lt_of_lt_of_le h5 (pow_le2 h6)
theorem coeffs_any {m : Nat} (hm : 32000 ≤ m) {cs : List (List UInt8)} (hl : cs.length ≤ 8) (hc : ∀ c ∈ cs, c.length ≤ 1000000001) :
    ∃ y, iter (fun s ↦ W.ring_ParseB.c100005 cs (↑(List.length cs) : Int) (Prod.fst s) (Prod.snd s) some) ((0 : Int), List.replicate 8 d0) = some y ∧
      ((∃ i c f, y = .inl (i, c, f) ∧ f.1 ≠ 0) ∨ ∃ i c v, y = .inr (i, c) ∧ Reps 4294967296 c v ∧ Bd v m) := by
  obtain ⟨r, h1, h2⟩ := iter_loop (f := fun s : Int × List Dg ↦ W.ring_ParseB.c100005 cs (↑(List.length cs) : Int) (Prod.fst s) (Prod.snd s) some)
    (J := fun s => ∃ i : Nat, s.1 = (i : Int) ∧ ∃ v, Reps 4294967296 s.2 v ∧ Bd v m)
    (Q := fun y => (∃ i c f, y = .inl (i, c, f) ∧ f.1 ≠ 0) ∨ ∃ i c v, y = .inr (i, c) ∧ Reps 4294967296 c v ∧ Bd v m)
    (fun s => cs.length - s.1.toNat) (fun ⟨t, c⟩ ⟨i, hs, v, h1, h2⟩ => by
      simp only at hs h1
      subst hs
      simp only [W.ring_ParseB.c100005, W.ring_ParseB.c232773]
      by_cases hi : i < cs.length
      · have hx := hc cs[i] (List.getElem_mem hi)
        obtain ⟨x, u, f, p1, p2, p3⟩ := parse_ok1 cs[i] (by omega)
        have hidx : idx cs (i : Int) = some cs[i] := by unfold idx; simp [hi]
        rw [br_pos (by omega), hidx, bnd_val, p1, bnd_val]
        by_cases hf : f.1 = 0
        · rw [br_false (by simp [hf]), bnd_val]
          simp only [sel]
          have h8 : i < 8 := by omega
          rw [okIf_true (by simp; omega), bnd_val, inR_at (by rw [h1.len]; exact h8), bnd_val, h1.idx h8, bnd_val, wrap_i64 (by omega)]
          refine Or.inr ⟨_, rfl, ⟨i + 1, by simp, _, h1.set h8 p2, ?_⟩, by simp only; omega⟩
          intro j hj
          simp only
          split
          · exact rep_small hm p2 p3
          · exact h2 j hj
        · rw [br_true (by simp [hf]), bnd_val]
          exact Or.inl ⟨_, rfl, .inl ⟨_, _, _, rfl, hf⟩⟩
      · rw [br_neg (by omega)]
        exact Or.inl ⟨_, rfl, .inr ⟨_, _, v, rfl, h1, h2⟩⟩)
    (s := ((0 : Int), List.replicate 8 d0)) ⟨0, rfl, _, Reps.zero, Bd.zero⟩
  exact ⟨r, h1, h2⟩
theorem atoi_nonneg {l : List UInt8} (h : l.head? ≠ some 45) {n : Int} (ha : Go.Lib.atoiAll l = .ok n) : 0 ≤ n := by
  unfold Go.Lib.atoiAll at ha
  split at ha
  · cases ha
  · rename_i c r
    have hc : ¬ c.toNat = 45 := by
      intro e
      apply h
      simp only [List.head?_cons, Option.some.injEq]
      apply UInt8.toNat_inj.1
      exact e
    simp only [hc, not_false_eq_true, true_and, false_and, if_false] at ha
    split at ha
    · cases ha
    · cases ha
    · split at ha
      · cases ha
      · cases ha
        omega
theorem low_any {low : List UInt8} (hl : low.length ≤ 1000000000) (h : low.head? ≠ some 45) :
    W.ring_ParseB.c253261 low 0 some = some (.inl ()) ∨ ∃ e : Int, W.ring_ParseB.c253261 low 0 some = some (.inr e) ∧ 0 ≤ e ∧ e ≤ 10000 := by
  unfold W.ring_ParseB.c253261
  by_cases h0 : low = []
  · subst h0
    right
    exact ⟨0, rfl, by decide, by decide⟩
  · rw [br_true (by simpa using h0)]
    have ha : ∃ n b, W.strconv_Atoi low = some (n, b) ∧ (b = false → 0 ≤ n) := by
      unfold W.strconv_Atoi
      rw [decide_eq_true (by omega), cond_true]
      cases hx : Go.Lib.atoiAll low with
      | ok v => exact ⟨v, false, rfl, fun _ => atoi_nonneg h hx⟩
      | range => exact ⟨_, true, rfl, fun h => by cases h⟩
      | _ => exact ⟨_, true, rfl, fun h => by cases h⟩
    obtain ⟨n, b, a1, a2⟩ := ha
    rw [a1, bnd_val]
    unfold W.ring_ParseB.c261445 W.ring_ParseB.c15
    cases b
    · simp only [Bool.not_false, Bool.not_true, br_ff, bnd_val]
      by_cases hn : n > 10000
      · rw [br_pos hn, bnd_val]; exact .inl rfl
      · rw [br_neg hn, bnd_val]
        exact .inr ⟨n, rfl, a2 rfl, by omega⟩
    · simp only [Bool.not_true, Bool.not_false, br_tt, bnd_val]
      exact .inl rfl
theorem parse_any {text : List UInt8} (hL : text.length ≤ 1000000000) :
    ∃ back f, W.ring_Parse text = some (back, f) ∧ (f.1 = 0 → ∃ k L E, Num 4294967296 back k L E ∧ L ≤ 32000 ∧ E ≤ 10000 ∧ KTxt k text) := by
  unfold W.ring_Parse W.ring_ParseB
  rcases all_any hL with ⟨cs, low, q, a1, a2, a3, a4, a5⟩ | ⟨q, r, a1⟩
  · rw [a1, bnd_val]
    simp only [sel]
    obtain ⟨y, y1, y2⟩ := coeffs_any (m := 32000) (Nat.le_refl _) a2 a3
    rw [show iter (fun s ↦ W.ring_ParseB.c100005 cs (↑(List.length cs) : Int) (Prod.fst s) (Prod.snd s) some) ((0 : Int), List.replicate (8 : Nat) (false, [])) = some y from y1, bnd_val]
    rcases y2 with ⟨i, c, f, rfl, hf⟩ | ⟨i, c, v, rfl, h1, h2⟩
    · exact ⟨_, f, rfl, fun h => absurd h hf⟩
    · simp only
      rcases low_any a4 a5 with e1 | ⟨e, e1, e2, e3⟩
      · rw [e1, bnd_val]
        exact ⟨_, _, rfl, fun h => by simp at h⟩
      · rw [e1, bnd_val]
        obtain ⟨z, z1, z2⟩ := least_ok h1 h2 e (by omega)
        obtain ⟨t, t1, t2⟩ := ntext_ok z2 (by omega) (by omega)
        simp only [W.ring_ParseB.c273735, W.ring_ParseB.c21]
        rw [okIf_true (by simp [h1.len]), bnd_val, z1, bnd_val]
        simp only [show ∀ a : NumT, idx [a] (0 : Int) = some a from fun _ => rfl, show ∀ a b : NumT, List.set [a] 0 b = [b] from fun _ _ => rfl, bnd_val, t1]
        by_cases ht : t = text
        · rw [br_false (by simp [ht])]
          simp only [bnd_val, show ∀ a : NumT, idx [a] (0 : Int) = some a from fun _ => rfl]
          exact ⟨z, _, rfl, fun _ => ⟨_, _, _, z2, by omega, by omega, ht ▸ t2⟩⟩
        · rw [br_true (by simp [ht])]
          exact ⟨_, _, rfl, fun h => by simp at h⟩
  · rw [a1, bnd_val]
    exact ⟨_, _, rfl, fun h => by simp at h⟩
theorem laws_law (cs ds es : List Int) (e d t : Int) (hc : I64s cs) (hd : I64s ds) (he : I64s es) (lc : cs.length < 281474976710656) (ld : ds.length < 281474976710656) (le : es.length < 281474976710656) (ht : -9223372036854775808 ≤ t ∧ t ≤ 9223372036854775807) :
    W.Law_RingLaws cs ds es e d t = some true := by
  obtain ⟨a, fa, a1, k, L, E, a2, a3, _⟩ := make_ok hc lc e
  obtain ⟨b, fb, b1, l, M, F, b2, b3, _⟩ := make_ok hd ld d
  obtain ⟨c, fc, c1, m, N, G, c2, _, c4⟩ := make_ok he le 0
  obtain ⟨w, w1, w2⟩ := ntext_ok a2 (by omega) (by omega)
  have hw := text_len a2 (by omega) w2
  obtain ⟨back, f, p1, p2⟩ := parse_any (text := w) (by omega)
  unfold W.Law_RingLaws
  rw [a1, bnd_val, b1, bnd_val, c1, bnd_val]
  simp only
  rw [c4_ok a2 b2 c2 a3 b3 (c4 rfl), bnd_val, br_ff, c6_ok a2 b2 a3 b3 t ht, bnd_val, br_ff, c8_ok a2 a3 t ht, bnd_val, br_ff, w1, bnd_val, p1, bnd_val]
  unfold W.Law_RingLaws.c11
  simp only
  by_cases hf : f.1 = 0
  · obtain ⟨k', L', E', q1, q2, q3, q4⟩ := p2 hf
    rw [br_false (by simp [hf]), idx1, bnd_val, idx1, bnd_val, same_true q1 a2 (by omega) (q4.inj w2), bnd_val, bnd_val]
  · rw [br_true (by simp [hf]), bnd_val]
end Go.Ql
end

section
namespace Go.Ql
theorem wf_ints {l : List Int} (h : Wf (.sl (.int .i64)) l) : I64s l ∧ l.length < 281474976710656 := by
  obtain ⟨h1, _, h2⟩ := h
  have hb : (Ty.int .i64).bytes = 8 := by decide
  rw [hb] at h1
  have h1 : l.length * 8 ≤ 140737488351232 := h1
  refine ⟨fun x hx => ?_, by omega⟩
  have h3 : (Lit.int .i64 x).wf = true := h2 x hx
  simp only [Lit.wf, Bool.and_eq_true, decide_eq_true_eq] at h3
  exact ⟨h3.1, h3.2⟩
theorem wf_int {n : Int} (h : Wf (.int .i64) n) : -9223372036854775808 ≤ n ∧ n ≤ 9223372036854775807 := by
  have h : (Lit.int .i64 n).wf = true := h
  simp only [Lit.wf, Bool.and_eq_true, decide_eq_true_eq] at h
  exact ⟨h.1, h.2⟩
theorem laws_wf : ∀ x : dens [.sl (.int .i64), .sl (.int .i64), .sl (.int .i64), .int .i64, .int .i64, .int .i64], WfL [.sl (.int .i64), .sl (.int .i64), .sl (.int .i64), .int .i64, .int .i64, .int .i64] x → W.Law_RingLaws.ce.F x = some true := by
  intro x ⟨h1, h2, h3, h4, h5, h6⟩
  exact laws_law x.1 x.2.1 x.2.2.1 x.2.2.2.1 x.2.2.2.2.1 x.2.2.2.2.2 (wf_ints h1).1 (wf_ints h2).1 (wf_ints h3).1 (wf_ints h1).2 (wf_ints h2).2 (wf_ints h3).2 (wf_int h6)
end Go.Ql
end
