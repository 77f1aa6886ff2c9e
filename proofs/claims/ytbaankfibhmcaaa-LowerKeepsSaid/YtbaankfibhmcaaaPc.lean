/- Plain laws: states as they are meant; runs; what Base writes does what the circuit does. -/
import Derived.Test.YtbaankfibhmcaaaPa
import Derived.Test.YtbaankfibhmcaaaPb
section
namespace Go.Ql
abbrev GOp := Int × Int × List Int × Int × Int × List Int
abbrev KV := Nat → K
def fl (q : Int) (x : Nat) : Nat := x ^^^ 2 ^ q.toNat
def bt (q : Int) (x : Nat) : Bool := x.testBit q.toNat
def onesB (l : List Int) (x : Nat) : Bool := l.all fun q => bt q x
def gateK (o : GOp) (v : KV) : KV := fun x =>
  if onesB o.2.2.1 x = false then v x
  else if o.1 = 1 then K.turn (v x) o.2.1.toNat
  else if o.1 = 4 then (if bt o.2.2.2.1 x = true then K.turn (v x) o.2.1.toNat else v x)
  else if o.1 = 2 then v (fl o.2.2.2.1 x)
  else K.add (K.half (v (fl o.2.2.2.1 x))) (if bt o.2.2.2.1 x = true then K.neg (K.half (v x)) else K.half (v x))
def runK : List GOp → KV → KV
  | [], v => v
  | o :: l, v => runK l (gateK o v)
theorem runK_app (a b : List GOp) (v : KV) : runK (a ++ b) v = runK b (runK a v) := by
  induction a generalizing v with
  | nil => rfl
  | cons o a ih => exact ih _
theorem fl_fl (q : Int) (x : Nat) : fl q (fl q x) = x := by
  unfold fl
  rw [Nat.xor_assoc, Nat.xor_self, Nat.xor_zero]
theorem bt_fl (p q : Int) (x : Nat) : bt p (fl q x) = if p.toNat = q.toNat then !bt p x else bt p x := by
  unfold bt fl
  rw [Nat.testBit_xor, Nat.testBit_two_pow]
  by_cases h : p.toNat = q.toNat
  · rw [if_pos h, decide_eq_true h.symm]; simp
  · rw [if_neg h, decide_eq_false (fun e => h e.symm)]; simp
theorem bt_self (q : Int) (x : Nat) : bt q (fl q x) = !bt q x := by rw [bt_fl, if_pos rfl]
def Nn (l : List Int) : Prop := ∀ q ∈ l, 0 ≤ q
theorem bt_other {p q : Int} (hp : 0 ≤ p) (hq : 0 ≤ q) (h : p ≠ q) (x : Nat) : bt p (fl q x) = bt p x := by
  rw [bt_fl, if_neg (by omega)]
theorem ones_other {l : List Int} {q : Int} (hl : Nn l) (hq : 0 ≤ q) (h : q ∉ l) (x : Nat) : onesB l (fl q x) = onesB l x := by
  induction l with
  | nil => rfl
  | cons p l ih =>
    unfold onesB at ih ⊢
    rw [List.all_cons, List.all_cons, ih (fun r hr => hl r (List.mem_cons_of_mem _ hr)) (fun hm => h (List.mem_cons_of_mem _ hm)), bt_other (hl p (List.mem_cons_self ..)) hq (fun e => h (e ▸ List.mem_cons_self ..))]
theorem ones_cons (q : Int) (l : List Int) (x : Nat) : onesB (q :: l) x = (bt q x && onesB l x) := rfl
theorem ones_app (a b : List Int) (x : Nat) : onesB (a ++ b) x = (onesB a x && onesB b x) := by simp [onesB]
def turnZ (x : K) (k : Int) : K := K.turn x (k % 16).toNat
theorem turnZ_add (x : K) (a b : Int) : turnZ (turnZ x a) b = turnZ x (a + b) := by
  unfold turnZ
  rw [K.turn_turn, ← K.turn_mod]
  congr 1
  omega
theorem turnZ_nought (k : Int) : turnZ K.zero k = K.zero := K.turn_zero _
theorem turnZ_nat (x : K) {k : Int} (h : 0 ≤ k) : turnZ x k = K.turn x k.toNat := by
  unfold turnZ
  rw [← K.turn_mod x k.toNat]
  congr 1
  omega
def hK (q : Int) (v : KV) : KV := fun x => K.add (K.half (v (fl q x))) (if bt q x = true then K.neg (K.half (v x)) else K.half (v x))
def xK (l : List Int) (q : Int) (v : KV) : KV := fun x => if onesB l x = true then v (fl q x) else v x
def pK (l : List Int) (k : Int) (v : KV) : KV := fun x => if onesB l x = true then turnZ (v x) k else v x
theorem gate_h (l : List Int) (k q b : Int) (on : List Int) (v : KV) : gateK (3, k, l, q, b, on) v = fun x => if onesB l x = true then hK q v x else v x := by
  funext x
  simp only [gateK, hK]
  by_cases h : onesB l x = true
  · rw [if_neg (by simp [h]), if_pos h]; rfl
  · rw [if_pos (by simpa using h), if_neg h]
theorem gate_h1 (k q b : Int) (on : List Int) (v : KV) : gateK (3, k, [], q, b, on) v = hK q v := by
  rw [gate_h]; rfl
theorem gate_x (l : List Int) (k q b : Int) (on : List Int) (v : KV) : gateK (2, k, l, q, b, on) v = xK l q v := by
  funext x
  simp only [gateK, xK]
  by_cases h : onesB l x = true
  · rw [if_neg (by simp [h]), if_pos h]; rfl
  · rw [if_pos (by simpa using h), if_neg h]
theorem gate_p (l : List Int) (k q b : Int) (on : List Int) (v : KV) (hk : 0 ≤ k) : gateK (4, k, l, q, b, on) v = pK (l ++ [q]) k v := by
  funext x
  simp only [gateK, pK, ones_app]
  by_cases h : onesB l x = true
  · rw [if_neg (by simp [h]), if_neg (by decide), turnZ_nat _ hk, h, show onesB [q] x = bt q x by simp [onesB]]
    simp
  · rw [if_pos (by simpa using h), if_neg (by simp [h])]
theorem hh0 (a b : K) : K.add (K.half (K.add (K.half a) (K.neg (K.half b)))) (K.half (K.add (K.half b) (K.half a))) = a := by
  apply K.eq_of <;> simp only [K.half, K.sm, K.sub, K.turn, K.turn1, K.neg, K.add] <;> grind
theorem hh1 (a b : K) : K.add (K.half (K.add (K.half a) (K.half b))) (K.neg (K.half (K.add (K.half b) (K.neg (K.half a))))) = a := by
  apply K.eq_of <;> simp only [K.half, K.sm, K.sub, K.turn, K.turn1, K.neg, K.add] <;> grind
theorem hx0 (a b : K) : K.add (K.half (K.neg (K.add (K.half a) (K.neg (K.half b))))) (K.half (K.add (K.half b) (K.half a))) = b := by
  apply K.eq_of <;> simp only [K.half, K.sm, K.sub, K.turn, K.turn1, K.neg, K.add] <;> grind
theorem hx1 (a b : K) : K.add (K.half (K.add (K.half a) (K.half b))) (K.neg (K.half (K.neg (K.add (K.half b) (K.neg (K.half a)))))) = b := by
  apply K.eq_of <;> simp only [K.half, K.sm, K.sub, K.turn, K.turn1, K.neg, K.add] <;> grind
theorem turnZ_eight (x : K) : turnZ x 8 = K.neg x := rfl
theorem hzh {l : List Int} {q : Int} (hl : Nn l) (hq : 0 ≤ q) (h : q ∉ l) (v : KV) : hK q (pK (l ++ [q]) 8 (hK q v)) = xK l q v := by
  funext x
  simp only [hK, pK, xK, ones_app, ones_other hl hq h, fl_fl, bt_self, turnZ_eight]
  have e : ∀ y, onesB [q] y = bt q y := fun y => by simp [onesB]
  simp only [e, bt_self]
  cases h1 : onesB l x <;> cases h2 : bt q x <;> simp [hh0, hh1, hx0, hx1]
theorem tz (x : K) : turnZ x 4 = K.turn x 4 ∧ turnZ x 2 = K.turn x 2 ∧ turnZ x (-2) = K.turn x 14 ∧ turnZ x (-4) = K.turn x 12 := ⟨rfl, rfl, rfl, rfl⟩
theorem chK {l : List Int} {q : Int} (hl : Nn l) (hq : 0 ≤ q) (h : q ∉ l) (v : KV) :
    pK [q] (-4) (hK q (pK [q] (-2) (xK l q (pK [q] 2 (hK q (pK [q] 4 v)))))) = fun x => if onesB l x = true then hK q v x else v x := by
  funext x
  have e : ∀ y, onesB [q] y = bt q y := fun y => by simp [onesB]
  simp only [hK, pK, xK, ones_other hl hq h, fl_fl, bt_self, e]
  generalize v x = a
  generalize v (fl q x) = b
  cases h1 : onesB l x <;> cases h2 : bt q x <;> simp only [Bool.not_true, Bool.not_false, if_true, if_false, Bool.false_eq_true, tz] <;>
    (apply K.eq_of <;> simp only [K.half, K.sm, K.sub, K.turn, K.turn1, K.neg, K.add] <;> grind)
end Go.Ql
end

section
namespace Go.Ql
theorem pow63 {q : Int} (h : 0 ≤ q ∧ q ≤ 62) : IntKind.i64.wrap ((1 : Int) * (2 : Int) ^ Min.min (Int.toNat q) (64 : Nat)) = ((2 ^ q.toNat : Nat) : Int) := by
  rw [Nat.min_eq_left (by omega), Int.one_mul]
  have h1 : (2 : Nat) ^ q.toNat ≤ 2 ^ 62 := Nat.pow_le_pow_right (by omega) (by omega)
  have h2 : ((2 ^ q.toNat : Nat) : Int) = (2 : Int) ^ q.toNat := by simp
  have h3 : (2 : Nat) ^ 62 = 4611686018427387904 := by decide
  rw [h3] at h1
  rw [← h2, wrap_i64 (by have := Int.natCast_nonneg (2 ^ q.toNat); omega)]
theorem bitOf_ok {x : Nat} {q : Int} (hx : x < 2 ^ 63) (hq : 0 ≤ q ∧ q < 64) : W.R_bitOf (x : Int) q = some (if bt q x = true then 1 else 0) := by
  unfold W.R_bitOf
  have h1 : Int.fdiv (x : Int) ((2 : Int) ^ Min.min (Int.toNat q) (64 : Nat)) = ((x / 2 ^ q.toNat : Nat) : Int) := by
    rw [Nat.min_eq_left (by omega), Int.fdiv_eq_ediv_of_nonneg _ (by have : (0 : Int) ≤ ((2 ^ q.toNat : Nat) : Int) := Int.natCast_nonneg _; simpa using this)]
    norm_cast
  have h2 := iandi64 (a := x / 2 ^ q.toNat) (b := 1) (Nat.lt_of_le_of_lt (Nat.div_le_self _ _) hx) (by decide)
  rw [show ((1 : Nat) : Int) = 1 from rfl] at h2
  rw [okIf_true (by simpa using hq.1), bnd_val, h1, h2]
  have h3 : x / 2 ^ q.toNat &&& 1 = x / 2 ^ q.toNat % 2 := Nat.and_one_is_mod _
  have h4 : bt q x = decide (x / 2 ^ q.toNat % 2 = 1) := by
    unfold bt
    rw [Nat.testBit, Nat.shiftRight_eq_div_pow, Nat.and_comm 1, h3]
    have : x / 2 ^ q.toNat % 2 = 0 ∨ x / 2 ^ q.toNat % 2 = 1 := by omega
    rcases this with h | h <;> rw [h] <;> rfl
  rw [h3, h4]
  have : x / 2 ^ q.toNat % 2 = 0 ∨ x / 2 ^ q.toNat % 2 = 1 := by omega
  rcases this with h | h <;> rw [h] <;> rfl
def Qs (l : List Int) : Prop := ∀ q ∈ l, 0 ≤ q ∧ q < 62
theorem ones_iff {l : List Int} {x : Nat} : onesB l x = true ↔ ∀ j, j < l.length → bt (l.getD j 0) x = true := by
  unfold onesB
  rw [List.all_eq_true]
  constructor
  · intro h j hj
    have e : l.getD j 0 = l[j] := by simp [hj]
    rw [e]; exact h _ (List.getElem_mem hj)
  · intro h q hq
    obtain ⟨j, hj, e⟩ := List.mem_iff_getElem.1 hq
    have := h j hj
    have e2 : l.getD j 0 = l[j] := by simp [hj]
    rw [e2, e] at this
    exact this
theorem qs_at {l : List Int} (h : Qs l) {j : Nat} (hj : j < l.length) : 0 ≤ l.getD j 0 ∧ l.getD j 0 < 62 := by
  have e : l.getD j 0 = l[j] := by simp [hj]
  rw [e]; exact h _ (List.getElem_mem hj)
theorem allOne_ok {x : Nat} {l : List Int} (hx : x < 2 ^ 63) (hl : Qs l) (hn : l.length < 2 ^ 62) : W.R_allOne (x : Int) l = some (onesB l x) := by
  obtain ⟨y, h1, h2⟩ := iter_upto (f := fun s : Int ↦ W.R_allOne.c100002 (x : Int) l s some) l.length
    (fun i s => s = (i : Int) ∧ ∀ j, j < i → bt (l.getD j 0) x = true)
    (fun y => (∃ i, y = .inl i ∧ onesB l x = false) ∨ (∃ i, y = .inr i ∧ onesB l x = true))
    (by
      rintro i s hi ⟨rfl, h2⟩
      have hq := qs_at hl hi
      simp only [W.R_allOne.c100002]
      rw [br_pos (by omega), idx_of i rfl hi, bnd_val, bitOf_ok hx (by omega), bnd_val]
      by_cases hb : bt (l.getD i 0) x = true
      · rw [if_pos hb, br_false (by decide), wrap_i64 (by omega)]
        refine .inl ⟨_, rfl, by omega, fun j hj => ?_⟩
        by_cases e : j = i
        · rw [e]; exact hb
        · exact h2 j (by omega)
      · rw [if_neg hb, br_true (by decide)]
        exact .inr ⟨_, rfl, .inl ⟨_, rfl, by
          rw [← Bool.not_eq_true]
          exact fun h => hb (ones_iff.1 h i hi)⟩⟩)
    (by
      rintro s ⟨rfl, h2⟩
      simp only [W.R_allOne.c100002]
      rw [br_neg (by omega)]
      exact ⟨_, rfl, .inr ⟨_, rfl, ones_iff.2 h2⟩⟩)
    (s := (0 : Int)) ⟨rfl, fun j hj => by omega⟩
  unfold W.R_allOne
  rw [h1, bnd_val]
  rcases h2 with ⟨i, rfl, h3⟩ | ⟨i, rfl, h3⟩
  · rw [sel_inl, h3]
  · rw [sel_inr, h3]
def condK (bits : List Int) (o : GOp) : Bool := o.2.2.2.2.2.all fun c => (decide (c ≤ 0) || bits.getD (c - 1).toNat 0 == 1) && (decide (0 ≤ c) || bits.getD (-c - 1).toNat 0 == 0)
theorem cond_ok {o : GOp} {bits : List Int} (hn : o.2.2.2.2.2.length < 2 ^ 62) (hb : bits.length < 2 ^ 62) (hc : ∀ c ∈ o.2.2.2.2.2, c ≠ 0 ∧ c ≤ bits.length ∧ -c ≤ bits.length) : W.R_condition o bits = some (condK bits o) := by
  obtain ⟨o0, o1, o2, o3, o4, l⟩ := o
  simp only at *
  obtain ⟨y, h1, h2⟩ := iter_upto (f := fun s : Int ↦ W.R_condition.c100002 bits s l some) l.length
    (fun i s => s = (i : Int) ∧ ∀ j, j < i → ((decide (l.getD j 0 ≤ 0) || bits.getD (l.getD j 0 - 1).toNat 0 == 1) && (decide (0 ≤ l.getD j 0) || bits.getD (-l.getD j 0 - 1).toNat 0 == 0)) = true)
    (fun y => (∃ i, y = .inl i ∧ condK bits (o0, o1, o2, o3, o4, l) = false) ∨ (∃ i, y = .inr i ∧ condK bits (o0, o1, o2, o3, o4, l) = true))
    (by
      rintro i s hi ⟨rfl, h2⟩
      have hm : l.getD i 0 ∈ l := by
        have e : l.getD i 0 = l[i] := by simp [hi]
        rw [e]; exact List.getElem_mem hi
      obtain ⟨c0, c1, c2⟩ := hc _ hm
      have hbad : ((decide (l.getD i 0 ≤ 0) || bits.getD (l.getD i 0 - 1).toNat 0 == 1) && (decide (0 ≤ l.getD i 0) || bits.getD (-l.getD i 0 - 1).toNat 0 == 0)) = false → condK bits (o0, o1, o2, o3, o4, l) = false := fun hf => by
        rw [← Bool.not_eq_true]
        intro ht
        unfold condK at ht
        rw [List.all_eq_true] at ht
        have := ht _ hm
        rw [hf] at this
        cases this
      have hgo : ((decide (l.getD i 0 ≤ 0) || bits.getD (l.getD i 0 - 1).toNat 0 == 1) && (decide (0 ≤ l.getD i 0) || bits.getD (-l.getD i 0 - 1).toNat 0 == 0)) = true → ∀ j, j < i + 1 → ((decide (l.getD j 0 ≤ 0) || bits.getD (l.getD j 0 - 1).toNat 0 == 1) && (decide (0 ≤ l.getD j 0) || bits.getD (-l.getD j 0 - 1).toNat 0 == 0)) = true := fun ht j hj => by
        by_cases e : j = i
        · rw [e]; exact ht
        · exact h2 j (by omega)
      simp only [W.R_condition.c100002, W.R_condition.c4, W.R_condition.c6]
      rw [br_pos (by omega), idx_of i rfl hi, bnd_val]
      simp only [bnd_val]
      generalize l.getD i 0 = c at *
      by_cases hp : c > 0
      · rw [br_pos hp, wrap_i64 (by omega), idx_of (c - 1).toNat (by omega) (by omega), bnd_val, bnd_val]
        have e2 : decide (0 ≤ c) = true := decide_eq_true (by omega)
        have e1 : decide (c ≤ 0) = false := decide_eq_false (by omega)
        rw [e1, e2] at hbad hgo
        by_cases hv : bits.getD (c - 1).toNat 0 = 1
        · rw [br_false (by rw [hv]; rfl)]
          rw [br_neg (by omega), bnd_val, br_ff, wrap_i64 (by omega)]
          exact .inl ⟨_, rfl, by omega, hgo (by rw [hv]; rfl)⟩
        · rw [br_true (bne_iff_ne.2 hv)]
          exact .inr ⟨_, rfl, .inl ⟨_, rfl, hbad (by rw [beq_false_of_ne hv]; rfl)⟩⟩
      · rw [br_neg hp, bnd_val, br_ff, br_pos (by omega), wrap_i64 (x := 0 - c) (by omega), wrap_i64 (by omega), Int.zero_sub, idx_of (-c - 1).toNat (by omega) (by omega), bnd_val, bnd_val]
        have e2 : decide (0 ≤ c) = false := decide_eq_false (by omega)
        have e1 : decide (c ≤ 0) = true := decide_eq_true (by omega)
        rw [e1, e2] at hbad hgo
        by_cases hv : bits.getD (-c - 1).toNat 0 = 0
        · rw [br_false (by rw [hv]; rfl), wrap_i64 (by omega)]
          exact .inl ⟨_, rfl, by omega, hgo (by rw [hv]; rfl)⟩
        · rw [br_true (bne_iff_ne.2 hv)]
          exact .inr ⟨_, rfl, .inl ⟨_, rfl, hbad (by rw [beq_false_of_ne hv]; rfl)⟩⟩)
    (by
      rintro s ⟨rfl, h2⟩
      simp only [W.R_condition.c100002]
      rw [br_neg (by omega)]
      refine ⟨_, rfl, .inr ⟨_, rfl, ?_⟩⟩
      unfold condK
      rw [List.all_eq_true]
      intro c hcm
      obtain ⟨j, hj, e⟩ := List.mem_iff_getElem.1 hcm
      have := h2 j hj
      have e2 : l.getD j 0 = l[j] := by simp [hj]
      rw [e2, e] at this
      exact this)
    (s := (0 : Int)) ⟨rfl, fun j hj => by omega⟩
  unfold W.R_condition
  rw [h1, bnd_val]
  rcases h2 with ⟨i, rfl, h3⟩ | ⟨i, rfl, h3⟩
  · rw [sel_inl, h3]
  · rw [sel_inr, h3]
theorem rhalf_ok {a : NumT} {k : K} {L E : Nat} (h : Num 10000 a k L E) (hL : L + L + E + E < 70000) (hE : E ≤ 10000) :
    ∃ r, W.R_RHalf a = some r ∧ Num 10000 r (K.half k) (L + L + E + E + 1) (E + 1) := by
  obtain ⟨t, t1, t2⟩ := rturn_ok h (by omega) 2
  obtain ⟨u, u1, u2⟩ := rturn_ok h (by omega) 6
  obtain ⟨⟨c, ae⟩, s1, s2⟩ := rsub_ok t2 u2 (by omega) (by omega)
  obtain ⟨v, e, h1, h2, h3, h4, h5, h6⟩ := s2.has
  simp only at h1 h2
  subst h2
  have hk : K.half k = K.sm (1 / 2) (kv v e) := by rw [h4]; rfl
  unfold W.R_RHalf W.R_RHalf.c1
  rw [t1, bnd_val, u1, bnd_val, s1, bnd_val]
  simp only [bx_in, bx_at, bnd_val]
  rw [rzero_ok h1, bnd_val]
  by_cases hz : Nought v
  · rw [br_pos hz]
    refine ⟨_, rfl, ?_⟩
    have e0 : K.half k = kv v e := by
      rw [hk, (nought_kv (e := e)).1 hz]
      apply K.eq_of <;> simp only [K.sm, K.zero] <;> grind
    rw [e0]
    exact Num.mk' h1 rfl h3 rfl (h5.mono (by omega)) (by omega)
  · rw [br_neg hz, wrap_i64 (by omega), show (e : Int) + 1 = ((e + 1 : Nat) : Int) by omega]
    simp only [List.set_cons_zero, bx_at, bnd_val]
    obtain ⟨r, r1, r2⟩ := rleast_ok h1 h5 (by omega) (e + 1) (by omega)
    rw [r1, bnd_val]
    refine ⟨r, rfl, ?_⟩
    obtain ⟨w, f, q1, q2, q3, q4, q5, q6⟩ := r2.has
    refine ⟨w, f, q1, q2, q3, ?_, q5.mono (by omega), by omega⟩
    rw [q4, kv_half1, hk]
end Go.Ql
end

section
namespace Go.Ql
def z0 : NumT := (List.replicate 8 d0, (0 : Int))
structure Amps (l : List NumT) (N : Nat) (v : KV) (t : Nat) : Prop where
  len : l.length = N
  at_ : ∀ x, x < N → Num 10000 (l.getD x z0) (v x) (2 * t + 1) t
  fit : ∀ x, x < N → FitsK (v x) (2 * t + 1) t
def cut (i : Nat) (v : KV) : KV := fun x => if x < i then v x else K.zero
theorem gate_fits {o : GOp} {w : KV} {L t : Nat} (h : ∀ x, FitsK (w x) L t) (y : Nat) : FitsK (gateK o w y) (L + 2) (t + 1) := by
  have h1 := fun x => ((h x).up 1).mono (show L + 1 ≤ L + 2 by omega)
  have h2 := fun x => (h x).half
  unfold gateK
  split
  · exact h1 y
  · split
    · exact (h1 y).turn _
    · split
      · split
        · exact (h1 y).turn _
        · exact h1 y
      · split
        · exact h1 _
        · split
          · exact (h2 _).add (h2 y).neg
          · exact (h2 _).add (h2 y)
theorem gate_loc {o : GOp} {w w' : KV} {y : Nat} (h1 : w y = w' y) (h2 : w (fl o.2.2.2.1 y) = w' (fl o.2.2.2.1 y)) : gateK o w y = gateK o w' y := by
  simp only [gateK, h1, h2]
theorem gate_off {o : GOp} {w : KV} {y : Nat} (h : onesB o.2.2.1 y = false) : gateK o w y = w y := by
  unfold gateK
  rw [if_pos h]
theorem gate_turn {o : GOp} {w : KV} {y : Nat} (h : onesB o.2.2.1 y = true) (hk : o.1 = 1 ∨ (o.1 = 4 ∧ bt o.2.2.2.1 y = true)) : gateK o w y = K.turn (w y) o.2.1.toNat := by
  unfold gateK
  rw [if_neg (by simp [h])]
  rcases hk with hk | ⟨hk, hb⟩
  · rw [if_pos hk]
  · rw [if_neg (by omega), if_pos hk, if_pos hb]
theorem gate_stay {o : GOp} {w : KV} {y : Nat} (h : onesB o.2.2.1 y = true) (hk : o.1 = 4) (hb : ¬ bt o.2.2.2.1 y = true) : gateK o w y = w y := by
  unfold gateK
  rw [if_neg (by simp [h]), if_neg (by omega), if_pos hk, if_neg hb]
theorem gate_flip {o : GOp} {w : KV} {y : Nat} (h : onesB o.2.2.1 y = true) (hk : o.1 = 2) : gateK o w y = w (fl o.2.2.2.1 y) := by
  unfold gateK
  rw [if_neg (by simp [h]), if_neg (by omega), if_neg (by omega), if_pos hk]
theorem gate_had {o : GOp} {w : KV} {y : Nat} (h : onesB o.2.2.1 y = true) (hk : o.1 ≠ 1 ∧ o.1 ≠ 2 ∧ o.1 ≠ 4) :
    gateK o w y = K.add (K.half (w (fl o.2.2.2.1 y))) (if bt o.2.2.2.1 y = true then K.neg (K.half (w y)) else K.half (w y)) := by
  unfold gateK
  rw [if_neg (by simp [h]), if_neg hk.1, if_neg hk.2.2, if_neg hk.2.1]
theorem gate_locP {o : GOp} {w w' : KV} {y : Nat} (h1 : w y = w' y) (hk : onesB o.2.2.1 y = false ∨ o.1 = 1 ∨ o.1 = 4) : gateK o w y = gateK o w' y := by
  unfold gateK
  split
  · exact h1
  · split
    · rw [h1]
    · split
      · rw [h1]
      · rename_i a b c
        rcases hk with hk | hk | hk
        · exact absurd hk a
        · exact absurd hk b
        · exact absurd hk c
theorem rzero_num {a : NumT} {k : K} {L E : Nat} (h : Num 10000 a k L E) : ∃ b, W.R_RZero a = some b ∧ (b = true ↔ k = K.zero) := by
  obtain ⟨c, ae⟩ := a
  obtain ⟨v, e, h1, h2, h3, h4, h5, h6⟩ := h.has
  refine ⟨_, rzero_ok h1 ae, ?_⟩
  rw [decide_eq_true_iff, nought_kv (e := e), h4]
theorem idxN {l : List NumT} {i : Nat} (h : i < l.length) : idx l (i : Int) = some (l.getD i z0) := by
  rw [idx_at]
  simp [h]
theorem setAmp {l : List NumT} {j y : Nat} {r : NumT} (h : j < l.length) : (l.set j r).getD y z0 = if y = j then r else l.getD y z0 := by
  by_cases e : y = j
  · subst e; simp [h]
  · rw [if_neg e]
    simp [List.getD, List.getElem?_set_ne (Ne.symm e)]
theorem fl_lt {q : Int} {i n : Nat} (hq : 0 ≤ q ∧ q < n) (hi : i < 2 ^ n) : fl q i < 2 ^ n :=
  Nat.xor_lt_two_pow hi (Nat.pow_lt_pow_right (by decide) (by omega))
theorem fl_ne (q : Int) (x : Nat) : fl q x ≠ x := fun h => by
  have h1 := bt_self q x
  rw [h] at h1
  cases hb : bt q x <;> rw [hb] at h1 <;> cases h1
theorem turn_toNat (x : K) {k : Int} (h : 0 ≤ k) : K.turn x (k % 16).toNat = K.turn x k.toNat := by
  rw [← K.turn_mod x k.toNat]
  congr 1
  omega
theorem cut_self (i : Nat) (v : KV) : cut i v i = K.zero := if_neg (Nat.lt_irrefl _)
theorem cut_at (i : Nat) (v : KV) : cut (i + 1) v i = v i := if_pos (Nat.lt_succ_self _)
theorem cut_ne {i y : Nat} (v : KV) (h : y ≠ i) : cut (i + 1) v y = cut i v y := by
  unfold cut
  by_cases h1 : y < i
  · rw [if_pos h1, if_pos (by omega)]
  · rw [if_neg h1, if_neg (by omega)]
structure Ok1 (o : GOp) (n : Nat) : Prop where
  q : 0 ≤ o.2.2.2.1 ∧ o.2.2.2.1 < n
  k : 0 ≤ o.2.1
  qs : Qs o.2.2.1
  len : o.2.2.1.length < 2 ^ 62
  out : o.2.2.2.1 ∉ o.2.2.1
theorem Ok1.ones {o : GOp} {n : Nat} (h : Ok1 o n) (x : Nat) : onesB o.2.2.1 (fl o.2.2.2.1 x) = onesB o.2.2.1 x :=
  ones_other (fun q hq => (h.qs q hq).1) h.q.1 h.out x
theorem gate_step {l out : List NumT} {v : KV} {o : GOp} {i n t : Nat} (hv : Amps l (2 ^ n) v t) (ho : Ok1 o n) (hn : n ≤ 20) (hi : i < 2 ^ n) (ht : t ≤ 9000)
    (h0 : out.length = 2 ^ n) (h1 : ∀ y, y < 2 ^ n → Num 10000 (out.getD y z0) (gateK o (cut i v) y) (2 * t + 3) (t + 1)) :
    ∃ out', W.R_Gate.c220520 l (i : Int) o.1 o.2.1 o.2.2.1 o.2.2.2.1 out some = some out' ∧ out'.length = 2 ^ n ∧ ∀ y, y < 2 ^ n → Num 10000 (out'.getD y z0) (gateK o (cut (i + 1) v) y) (2 * t + 3) (t + 1) := by
  have hN : 2 ^ n ≤ 2 ^ 20 := Nat.pow_le_pow_right (by decide) hn
  have hlen := hv.len
  have hni := hv.at_ i hi
  have hq := ho.q
  have hfi := fl_lt hq hi
  have hfits : ∀ y, FitsK (gateK o (cut (i + 1) v) y) (2 * t + 3) (t + 1) := gate_fits (L := 2 * t + 1) (t := t) (fun x => by
    unfold cut
    split
    · exact hv.fit x (by omega)
    · exact FitsK.zero _ _)
  have hx63 : i < 2 ^ 63 := by omega
  have hxor : ibits BinOp.xor IntKind.i64 (i : Int) (IntKind.wrap IntKind.i64 ((1 : Int) * (2 : Int) ^ Min.min (Int.toNat o.2.2.2.1) (64 : Nat))) = ((fl o.2.2.2.1 i : Nat) : Int) := by
    have hp : 2 ^ o.2.2.2.1.toNat < 2 ^ 63 := Nat.pow_lt_pow_right (by decide) (by omega)
    rw [pow63 (by omega), ixori64 hx63 hp]
    rfl
  have keep : ∀ (j : Nat) (r : NumT), j < 2 ^ n → Num 10000 r (gateK o (cut (i + 1) v) j) (2 * t + 3) (t + 1) → (∀ y, y < 2 ^ n → y ≠ j → gateK o (cut (i + 1) v) y = gateK o (cut i v) y) →
      (out.set j r).length = 2 ^ n ∧ ∀ y, y < 2 ^ n → Num 10000 ((out.set j r).getD y z0) (gateK o (cut (i + 1) v) y) (2 * t + 3) (t + 1) := by
    intro j r hj hr hk
    refine ⟨by rw [List.length_set]; exact h0, fun y hy => ?_⟩
    rw [setAmp (by omega)]
    by_cases e : y = j
    · rw [if_pos e, e]; exact hr
    · rw [if_neg e, hk y hy e]; exact h1 y hy
  have here : ∀ (k : Prop), (onesB o.2.2.1 i = false ∨ o.1 = 1 ∨ o.1 = 4) → ∀ y, y ≠ i → gateK o (cut (i + 1) v) y = gateK o (cut i v) y := by
    intro _ hk y hy
    by_cases e : fl o.2.2.2.1 y = i
    · refine gate_locP (cut_ne v hy) ?_
      rcases hk with hk | hk
      · left
        rw [← ho.ones, e]; exact hk
      · exact .inr hk
    · exact gate_loc (cut_ne v hy) (cut_ne v e)
  obtain ⟨b, b1, b2⟩ := rzero_num hni
  unfold W.R_Gate.c220520
  rw [idxN (by omega), bnd_val, b1, bnd_val]
  by_cases hz : v i = K.zero
  · rw [br_true (b2.2 hz)]
    refine ⟨out, rfl, h0, fun y hy => ?_⟩
    have e : cut (i + 1) v = cut i v := by
      funext x
      by_cases e : x = i
      · rw [e, cut_at, cut_self, hz]
      · exact cut_ne v e
    rw [e]
    exact h1 y hy
  · rw [br_false (by cases hb : b; rfl; exact absurd (b2.1 hb) hz), allOne_ok hx63 ho.qs ho.len, bnd_val]
    have hid := h1 i hi
    by_cases hon : onesB o.2.2.1 i = true
    · rw [hon, show (!true) = false from rfl, br_ff, okIf_true (by simpa using hq.1), bnd_val]
      unfold W.R_Gate.c9
      by_cases hk1 : o.1 = 1 ∨ (o.1 = 4 ∧ bt o.2.2.2.1 i = true)
      · have hc : (br (o.1 == (1 : Int)) (some true) (br (o.1 == (4 : Int)) (bnd (W.R_bitOf (i : Int) o.2.2.2.1) fun y => some (y == (1 : Int))) (some false))) = some true := by
          rcases hk1 with e | ⟨e, e2⟩
          · rw [e]; rfl
          · rw [e, br_false (by decide), br_true (by decide), bitOf_ok hx63 (by omega), bnd_val, if_pos e2]; rfl
        rw [hc, bnd_val, br_tt]
        unfold W.R_Gate.c10
        obtain ⟨r, r1, r2⟩ := rturn_ok hni (by omega) o.2.1
        rw [idxN (by omega), bnd_val, r1, bnd_val, inR_at (by omega), bnd_val, idxN (by omega), bnd_val, bnd_val]
        refine ⟨_, rfl, keep i r hi (Num.fit (k := gateK o (cut (i + 1) v) i) (L := 2 * t + 1) (E := t) ?_ (hfits i)) (fun y _ hy => here True (.inr (by omega)) y hy)⟩
        · rw [gate_turn hon hk1, cut_at, ← turn_toNat _ ho.k]
          exact r2
      · have hc : (br (o.1 == (1 : Int)) (some true) (br (o.1 == (4 : Int)) (bnd (W.R_bitOf (i : Int) o.2.2.2.1) fun y => some (y == (1 : Int))) (some false))) = some false := by
          by_cases e : o.1 = 4
          · have e2 : ¬ bt o.2.2.2.1 i = true := fun e2 => hk1 (.inr ⟨e, e2⟩)
            rw [e, br_false (by decide), br_true (by decide), bitOf_ok hx63 (by omega), bnd_val, if_neg e2]; rfl
          · rw [br_false (by simpa using fun e2 => hk1 (.inl e2)), br_false (by simpa using e)]
        rw [hc, bnd_val, br_ff]
        by_cases hk4 : o.1 = 4
        · have hb4 : ¬ bt o.2.2.2.1 i = true := fun e2 => hk1 (.inr ⟨hk4, e2⟩)
          rw [br_true (by simpa using hk4), bnd_val, inR_at (by omega), bnd_val, idxN (by omega), bnd_val]
          refine ⟨_, rfl, keep i _ hi (Num.fit (k := gateK o (cut (i + 1) v) i) (L := 2 * t + 1) (E := t) ?_ (hfits i)) (fun y _ hy => here True (.inr (by omega)) y hy)⟩
          rw [gate_stay hon hk4 hb4, cut_at]
          exact hni
        · rw [br_false (by simpa using hk4)]
          by_cases hk2 : o.1 = 2
          · rw [br_true (by simpa using hk2), hxor, bnd_val, inR_at (by omega), bnd_val, idxN (by omega), bnd_val]
            have hof : onesB o.2.2.1 (fl o.2.2.2.1 i) = true := by rw [ho.ones]; exact hon
            refine ⟨_, rfl, keep (fl o.2.2.2.1 i) _ hfi (Num.fit (k := gateK o (cut (i + 1) v) (fl o.2.2.2.1 i)) (L := 2 * t + 1) (E := t) ?_ (hfits _)) (fun y _ hy => ?_)⟩
            · rw [gate_flip hof hk2, fl_fl, cut_at]
              exact hni
            · have e : fl o.2.2.2.1 y ≠ i := fun e => hy (by rw [← e, fl_fl])
              by_cases hoy : onesB o.2.2.1 y = true
              · rw [gate_flip hoy hk2, gate_flip hoy hk2, cut_ne v e]
              · have hoy' : onesB o.2.2.1 y = false := by simpa using hoy
                rw [gate_off hoy', gate_off hoy']
                refine cut_ne v (fun e2 => hoy (e2 ▸ hon))
          · rw [br_false (by simpa using hk2), hxor, bnd_val]
            have hk3 : o.1 ≠ 1 ∧ o.1 ≠ 2 ∧ o.1 ≠ 4 := ⟨fun e => hk1 (.inl e), hk2, hk4⟩
            obtain ⟨r, r1, r2⟩ := rhalf_ok hni (by omega) (by omega)
            have rf := (hv.fit i hi).half
            have r3 := r2.fit rf
            have hof : onesB o.2.2.1 (fl o.2.2.2.1 i) = true := by rw [ho.ones]; exact hon
            obtain ⟨s, s1, s2⟩ := radd_ok (h1 _ hfi) r3 (by omega) (by omega)
            have hne := fl_ne o.2.2.2.1 i
            -- the other one
            have e1 : K.add (gateK o (cut i v) (fl o.2.2.2.1 i)) (K.half (v i)) = gateK o (cut (i + 1) v) (fl o.2.2.2.1 i) := by
              rw [gate_had hof hk3, gate_had hof hk3, fl_fl, cut_self, cut_at, cut_ne v hne, K.half_zero, K.zero_add, K.add_comm]
            rw [e1] at s2
            have s3 := s2.fit (hfits _)
            obtain ⟨m, m1, m2⟩ : ∃ m, W.R_Gate.c269637 (i : Int) o.2.2.2.1 [r] some = some [m] ∧ Num 10000 m (if bt o.2.2.2.1 i = true then K.neg (K.half (v i)) else K.half (v i)) (2 * t + 2) (t + 1) := by
              unfold W.R_Gate.c269637
              rw [bitOf_ok hx63 (by omega), bnd_val]
              by_cases hb : bt o.2.2.2.1 i = true
              · obtain ⟨m, m1, m2⟩ := rneg_ok r3 (by omega)
                rw [if_pos hb, br_true (by decide), if_pos hb]
                simp only [bx_at, bnd_val]
                rw [m1]
                exact ⟨m, rfl, m2⟩
              · rw [if_neg hb, br_false (by decide), if_neg hb]
                exact ⟨r, rfl, r3⟩
            obtain ⟨u, u1, u2⟩ := radd_ok hid m2 (by omega) (by omega)
            have e2 : K.add (gateK o (cut i v) i) (if bt o.2.2.2.1 i = true then K.neg (K.half (v i)) else K.half (v i)) = gateK o (cut (i + 1) v) i := by
              rw [gate_had hon hk3, gate_had hon hk3, cut_self, cut_at, cut_ne v hne, K.half_zero]
              have e0 : (if bt o.2.2.2.1 i = true then K.neg K.zero else K.zero) = K.zero := by
                split
                · rw [← K.turn_eight, K.turn_zero]
                · rfl
              rw [e0, K.add_zero]
            rw [e2] at u2
            have u3 := u2.fit (hfits _)
            unfold W.R_Gate.c16 W.R_Gate.c19
            simp only [bx_at, bnd_val]
            rw [r1]
            simp only [bnd_val, bx_at]
            rw [inR_at (by omega), bnd_val, idxN (by omega), bnd_val, s1]
            simp only [bnd_val]
            rw [m1]
            simp only [bnd_val, bx_at]
            have hsl : (out.set (fl o.2.2.2.1 i) s).length = 2 ^ n := by rw [List.length_set]; exact h0
            have hso : (out.set (fl o.2.2.2.1 i) s).getD i z0 = out.getD i z0 := by rw [setAmp (by omega), if_neg (Ne.symm hne)]
            rw [Int.toNat_natCast, inR_at (by omega), bnd_val, idxN (by omega), bnd_val, hso, u1]
            simp only [bnd_val]
            refine ⟨_, rfl, by rw [List.length_set]; exact hsl, fun y hy => ?_⟩
            rw [Int.toNat_natCast, setAmp (by omega)]
            by_cases ei : y = i
            · rw [if_pos ei, ei]; exact u3
            · rw [if_neg ei, setAmp (by omega)]
              by_cases ef : y = fl o.2.2.2.1 i
              · rw [if_pos ef, ef]; exact s3
              · rw [if_neg ef, gate_loc (w' := cut i v) (cut_ne v ei) (cut_ne v (fun e => ef (by rw [← e, fl_fl])))]
                exact h1 y hy
    · have hoff : onesB o.2.2.1 i = false := by simpa using hon
      rw [hoff, show (!false) = true from rfl, br_tt]
      unfold W.R_Gate.c7
      have e0 : gateK o (cut i v) i = K.zero := by rw [gate_off hoff, cut_self]
      rw [e0] at hid
      obtain ⟨s, s1, s2⟩ := radd_ok hid hni (by omega) (by omega)
      rw [inR_at (by omega), bnd_val, idxN (by omega), bnd_val, idxN (by omega), bnd_val, s1]
      simp only [bnd_val]
      have e1 : gateK o (cut (i + 1) v) i = K.add K.zero (v i) := by rw [gate_off hoff, cut_at, K.zero_add]
      refine ⟨_, rfl, keep i s hi (e1 ▸ s2.fit (e1 ▸ hfits i)) (fun y _ hy => here True (.inl hoff) y hy)⟩
theorem gate_walk {l : List NumT} {v : KV} {o : GOp} {n t : Nat} (hv : Amps l (2 ^ n) v t) (ho : Ok1 o n) (hn : n ≤ 20) (ht : t ≤ 9000) :
    ∃ r, W.R_Gate l o = some r ∧ Amps r (2 ^ n) (gateK o v) (t + 1) := by
  have hN : 2 ^ n ≤ 2 ^ 20 := Nat.pow_le_pow_right (by decide) hn
  have hlen := hv.len
  obtain ⟨y, q1, r, q2, q3, q4⟩ := iter_upto (f := fun s : Int × List NumT ↦ W.R_Gate.c100003 l (Prod.fst s) o.1 o.2.1 o.2.2.1 o.2.2.2.1 (Prod.snd s) some) (2 ^ n)
    (fun i s => s.1 = (i : Int) ∧ s.2.length = 2 ^ n ∧ ∀ y, y < 2 ^ n → Num 10000 (s.2.getD y z0) (gateK o (cut i v) y) (2 * t + 3) (t + 1))
    (fun y => ∃ r, y = (((2 ^ n : Nat) : Int), r) ∧ r.length = 2 ^ n ∧ ∀ y, y < 2 ^ n → Num 10000 (r.getD y z0) (gateK o (cut (2 ^ n) v) y) (2 * t + 3) (t + 1))
    (by
      rintro i ⟨s, out⟩ hi ⟨p1, p2, p3⟩
      simp only at p1 p2 p3
      subst p1
      left
      obtain ⟨r, r1, r2, r3⟩ := gate_step hv ho hn hi ht p2 p3
      refine ⟨(((i + 1 : Nat) : Int), r), ?_, rfl, r2, r3⟩
      simp only [W.R_Gate.c100003]
      rw [br_pos (by omega), r1, bnd_val, wrap_i64 (by omega)]
      rfl)
    (by
      rintro ⟨s, out⟩ ⟨p1, p2, p3⟩
      simp only at p1 p2 p3
      subst p1
      refine ⟨_, ?_, out, rfl, p2, p3⟩
      simp only [W.R_Gate.c100003]
      rw [br_neg (by omega)])
    (s := ((0 : Int), List.replicate (2 ^ n) z0)) ⟨rfl, by simp, fun y hy => by
      have e1 : (List.replicate (2 ^ n) z0).getD y z0 = z0 := by
        rw [List.getD, List.getElem?_replicate]
        split <;> rfl
      have e2 : gateK o (cut 0 v) y = K.zero := by
        have h : ∀ x, cut 0 v x = K.zero := fun x => if_neg (by omega)
        have hneg : K.neg K.zero = K.zero := by rw [← K.turn_eight, K.turn_zero]
        simp only [gateK, h, K.turn_zero, K.half_zero, hneg]
        split
        · rfl
        · split
          · rfl
          · split
            · split <;> rfl
            · split
              · rfl
              · split <;> exact K.add_zero _
      rw [e1, e2]
      exact num_zero⟩
  subst q2
  unfold W.R_Gate
  rw [okIf_true (by simp; omega), bnd_val, Int.toNat_natCast, hlen]
  rw [show (List.replicate (2 ^ n) ((List.replicate 8 (false, ([] : List Int))), (0 : Int))) = List.replicate (2 ^ n) z0 from rfl, q1, bnd_val]
  have hcut : ∀ y, y < 2 ^ n → gateK o (cut (2 ^ n) v) y = gateK o v y := fun y hy => gate_loc (if_pos hy) (if_pos (fl_lt ho.q hy))
  refine ⟨r, rfl, q3, fun y hy => ?_, fun y hy => ?_⟩
  · rw [← hcut y hy]
    exact q4 y hy
  · rw [← hcut y hy]
    exact gate_fits (L := 2 * t + 1) (t := t) (fun x => by
      unfold cut
      split
      · exact hv.fit x (by assumption)
      · exact FitsK.zero _ _) y
end Go.Ql
end

section
namespace Go.Ql
def outK (q : Int) (b : Int) (v : KV) : KV := fun x => if bt q x = decide (b = 1) then v x else K.zero
abbrev SK := KV × List Int × Nat
def meetK (o : GOp) (b : Int) (s : SK) : SK :=
  (if o.1 ≠ 5 ∧ b = 1 then xK [] o.2.2.2.1 (outK o.2.2.2.1 b s.1) else outK o.2.2.2.1 b s.1, if o.1 = 5 then s.2.1.set o.2.2.2.2.1.toNat b else s.2.1, s.2.2 + 1)
def playK (tape : List Int) : Nat → List GOp → SK → (Int × Nat) ⊕ SK
  | _, [], s => .inr s
  | i, o :: l, s =>
    if condK s.2.1 o = false then playK tape (i + 1) l s
    else if o.1 < 5 then playK tape (i + 1) l (gateK o s.1, s.2.1, s.2.2)
    else if s.2.2 = tape.length then .inl (19, i)
    else if tape.getD s.2.2 0 ≠ 0 ∧ tape.getD s.2.2 0 ≠ 1 then .inl (20, i)
    else playK tape (i + 1) l (meetK o (tape.getD s.2.2 0) s)
theorem Amps.up {l : List NumT} {N t : Nat} {v : KV} (h : Amps l N v t) : Amps l N v (t + 1) := by
  have hf : ∀ x, x < N → FitsK (v x) (2 * (t + 1) + 1) (t + 1) := fun x hx => ((h.fit x hx).up 1).mono (by omega)
  exact ⟨h.len, fun x hx => (h.at_ x hx).fit (hf x hx), hf⟩
theorem num_zero' (L E : Nat) : Num 10000 z0 K.zero L E := num_zero
theorem repl_at (N y : Nat) : (List.replicate N z0).getD y z0 = z0 := by
  rw [List.getD, List.getElem?_replicate]
  split <;> rfl
theorem outcome_walk {l : List NumT} {v : KV} {n t : Nat} {q b : Int} (hv : Amps l (2 ^ n) v t) (hn : n ≤ 20) (hq : 0 ≤ q ∧ q < 62) (hb : b = 0 ∨ b = 1) :
    ∃ r, W.R_Outcome l q b = some r ∧ Amps r (2 ^ n) (outK q b v) t := by
  have hN : 2 ^ n ≤ 2 ^ 20 := Nat.pow_le_pow_right (by decide) hn
  have hlen := hv.len
  obtain ⟨y, q1, r, q2, q3, q4⟩ := iter_upto (f := fun s : Int × List NumT ↦ W.R_Outcome.c100003 l q b (Prod.fst s) (Prod.snd s) some) (2 ^ n)
    (fun i s => s.1 = (i : Int) ∧ s.2.length = 2 ^ n ∧ ∀ y, y < 2 ^ n → Num 10000 (s.2.getD y z0) (cut i (outK q b v) y) (2 * t + 1) t)
    (fun y => ∃ r, y = (((2 ^ n : Nat) : Int), r) ∧ r.length = 2 ^ n ∧ ∀ y, y < 2 ^ n → Num 10000 (r.getD y z0) (cut (2 ^ n) (outK q b v) y) (2 * t + 1) t)
    (by
      rintro i ⟨s, out⟩ hi ⟨p1, p2, p3⟩
      simp only at p1 p2 p3
      subst p1
      left
      obtain ⟨r, r1, r2, r3⟩ : ∃ r, W.R_Outcome.c220486 l q b (i : Int) out some = some r ∧ r.length = 2 ^ n ∧ ∀ y, y < 2 ^ n → Num 10000 (r.getD y z0) (cut (i + 1) (outK q b v) y) (2 * t + 1) t := by
        unfold W.R_Outcome.c220486
        rw [bitOf_ok (by omega) (by omega), bnd_val]
        by_cases e : bt q i = decide (b = 1)
        · have hbb : ((if bt q i = true then 1 else 0 : Int) == b) = true := by
            rw [e]; rcases hb with rfl | rfl <;> decide
          rw [br_true hbb, idxN (by omega), bnd_val, inR_at (by omega), bnd_val, idxN (by omega), bnd_val]
          refine ⟨_, rfl, by rw [List.length_set]; exact p2, fun y hy => ?_⟩
          rw [Int.toNat_natCast, setAmp (by omega)]
          by_cases ey : y = i
          · rw [if_pos ey, ey, cut_at]
            unfold outK
            rw [if_pos e]
            exact hv.at_ i hi
          · rw [if_neg ey, cut_ne _ ey]
            exact p3 y hy
        · have hbb : ((if bt q i = true then 1 else 0 : Int) == b) = false := by
            rcases hb with rfl | rfl <;> cases hx : bt q i <;> rw [hx] at e <;> first | rfl | exact absurd rfl e
          rw [br_false hbb]
          refine ⟨_, rfl, p2, fun y hy => ?_⟩
          by_cases ey : y = i
          · have := p3 y hy
            rw [ey, cut_at]
            rw [ey, cut_self] at this
            unfold outK
            rw [if_neg e]
            exact this
          · rw [cut_ne _ ey]
            exact p3 y hy
      refine ⟨(((i + 1 : Nat) : Int), r), ?_, rfl, r2, r3⟩
      simp only [W.R_Outcome.c100003]
      rw [br_pos (by omega), r1, bnd_val, wrap_i64 (by omega)]
      rfl)
    (by
      rintro ⟨s, out⟩ ⟨p1, p2, p3⟩
      simp only at p1 p2 p3
      subst p1
      refine ⟨_, ?_, out, rfl, p2, p3⟩
      simp only [W.R_Outcome.c100003]
      rw [br_neg (by omega)])
    (s := ((0 : Int), List.replicate (2 ^ n) z0)) ⟨rfl, by simp, fun y hy => by
      rw [repl_at, show cut 0 (outK q b v) y = K.zero from if_neg (by omega)]
      exact num_zero' _ _⟩
  subst q2
  unfold W.R_Outcome
  rw [okIf_true (by simp; omega), bnd_val, Int.toNat_natCast, hlen]
  rw [show (List.replicate (2 ^ n) ((List.replicate 8 (false, ([] : List Int))), (0 : Int))) = List.replicate (2 ^ n) z0 from rfl, q1, bnd_val]
  have hcut : ∀ y, y < 2 ^ n → cut (2 ^ n) (outK q b v) y = outK q b v y := fun y hy => if_pos hy
  refine ⟨r, rfl, q3, fun y hy => ?_, fun y hy => ?_⟩
  · rw [← hcut y hy]
    exact q4 y hy
  · unfold outK
    split
    · exact hv.fit y hy
    · exact FitsK.zero _ _
def basisK (i : Nat) : KV := fun x => if x = i then K.one else K.zero
theorem one_kv : kv (single 1) 0 = K.one := by
  apply K.eq_of <;> simp [kv, single, hp, K.one]
theorem basis_walk {n i : Nat} (hn : n ≤ 20) (hi : i < 2 ^ n) : ∃ r, W.R_Basis (n : Int) (i : Int) = some r ∧ Amps r (2 ^ n) (basisK i) 0 := by
  have hN : 2 ^ n ≤ 2 ^ 20 := Nat.pow_le_pow_right (by decide) hn
  have hN0 : 0 < 2 ^ n := Nat.pow_pos (by decide)
  obtain ⟨z, z1, z2, z3⟩ := zof_ok (n := 1) (by decide)
  have hp := pow63 (q := (n : Int)) (by omega)
  rw [Int.toNat_natCast] at hp
  unfold W.R_Basis W.R_ROf
  rw [okIf_true (by simp), bnd_val]
  simp only [Int.toNat_natCast] at hp ⊢
  simp only [hp, Int.toNat_natCast]
  rw [okIf_true (by rw [Bool.and_eq_true, Bool.and_eq_true, Bool.and_eq_true, decide_eq_true_iff, decide_eq_true_iff, decide_eq_true_iff, decide_eq_true_iff]; omega), bnd_val, z1, bnd_val,
    show idx (List.replicate 8 (false, ([] : List (Ty.den (Ty.int IntKind.i64))))) (0 : Int) = some d0 from rfl]
  simp only [bnd_val]
  rw [show (List.replicate (2 ^ n) ((List.replicate 8 (false, ([] : List (Ty.den (Ty.int IntKind.i64))))), (0 : Int))) = List.replicate (2 ^ n) z0 from rfl, inR_at (by simpa using hi), bnd_val, idxN (by simpa using hi), bnd_val]
  have hbd : Bd (single 1) 1 := single_bd (by decide)
  have h1 : FitsK K.one (2 * 0 + 1) 0 := ⟨single 1, one_kv, hbd⟩
  refine ⟨_, rfl, by simp, fun y hy => ?_, fun y hy => ?_⟩
  · rw [setAmp (by simpa using hi), repl_at]
    unfold basisK
    by_cases e : y = i
    · rw [if_pos e, if_pos e]
      exact Num.mk' (e := 0) (single_reps z2) rfl (.inl rfl) one_kv hbd (Nat.le_refl _)
    · rw [if_neg e, if_neg e]
      exact num_zero' _ _
  · unfold basisK
    split
    · exact h1
    · exact FitsK.zero _ _
structure OkP (o : GOp) (n bn : Nat) : Prop where
  gate : Ok1 o n
  ifs : o.2.2.2.2.2.length < 2 ^ 62
  cond : ∀ c ∈ o.2.2.2.2.2, c ≠ 0 ∧ c ≤ (bn : Int) ∧ -c ≤ (bn : Int)
  bit : o.1 = 5 → 0 ≤ o.2.2.2.2.1 ∧ o.2.2.2.2.1 < (bn : Int)
theorem ok1_x {o : GOp} {n : Nat} (h : Ok1 o n) : Ok1 (2, 0, [], o.2.2.2.1, 0, []) n := ⟨h.q, by simp, fun _ h => by simp at h, by simp, by simp⟩
theorem play_walk {n bn : Nat} {ops : List GOp} {tape : List Int} {i0 : Nat} (hn : n ≤ 20) (hbn : bn < 2 ^ 40) (hl : ops.length ≤ 8000) (ht : tape.length < 2 ^ 62) (hi : i0 < 2 ^ n) (hops : ∀ o ∈ ops, OkP o n bn)
    (hck : W.R_Check ((n : Int), (bn : Int), ops) = some ((0 : Int), (0 : Int))) :
    (∀ x, playK tape 0 ops (basisK i0, List.replicate bn 0, 0) = .inl x → W.R_Play ((n : Int), (bn : Int), ops) (i0 : Int) tape = some ([], [], (0 : Int), x.1, (x.2 : Int))) ∧
    (∀ s, playK tape 0 ops (basisK i0, List.replicate bn 0, 0) = .inr s → ∃ l, W.R_Play ((n : Int), (bn : Int), ops) (i0 : Int) tape = some (l, s.2.1, (s.2.2 : Int), (0 : Int), (0 : Int)) ∧ Amps l (2 ^ n) s.1 ops.length) := by
  have hN : 2 ^ n ≤ 2 ^ 20 := Nat.pow_le_pow_right (by decide) hn
  obtain ⟨l0, b1, b2⟩ := basis_walk hn hi
  obtain ⟨R, hR⟩ : ∃ R, playK tape 0 ops (basisK i0, List.replicate bn 0, 0) = R := ⟨_, rfl⟩
  obtain ⟨y, y1, y2⟩ := iter_upto (f := fun s : List NumT × Int × Int × List Int ↦ W.R_Play.c100010 tape (Prod.fst s) (Prod.fst (Prod.snd s)) (Prod.fst (Prod.snd (Prod.snd s))) ops (Prod.snd (Prod.snd (Prod.snd s))) some) ops.length
    (fun i s => ∃ v bits used, s.2.1 = (used : Nat) ∧ s.2.2.1 = (i : Int) ∧ s.2.2.2 = bits ∧ Amps s.1 (2 ^ n) v i ∧ bits.length = bn ∧ used ≤ tape.length ∧ playK tape i (ops.drop i) (v, bits, used) = R)
    (fun y => (∃ u : List NumT × Int × Int × Int × Int × List Int, ∃ x : Int × Nat, y = .inl u ∧ R = .inl x ∧ u.2.2.2.1 = x.1 ∧ u.2.2.2.2.1 = (x.2 : Int)) ∨
      (∃ u : List NumT × Int × Int × List Int, ∃ s : SK, y = .inr u ∧ R = .inr s ∧ u.2.1 = (s.2.2 : Int) ∧ u.2.2.2 = s.2.1 ∧ Amps u.1 (2 ^ n) s.1 ops.length))
    (by
      rintro i ⟨l, us, i', bs⟩ hi ⟨v, bits, used, p1, p2, p3, p4, p5, p6, p7⟩
      simp only at p1 p2 p3 p4
      subst p1
      subst p2
      subst p3
      have hm : ops[i] ∈ ops := List.getElem_mem hi
      have hd : ops.drop i = ops[i] :: ops.drop (i + 1) := List.drop_eq_getElem_cons hi
      rw [hd] at p7
      simp only [playK] at p7
      obtain ⟨o, ho⟩ : ∃ o, ops[i] = o := ⟨_, rfl⟩
      rw [ho] at hm p7
      have hk := hops o hm
      have hidx : idx ops (i : Int) = some o := by rw [idx_get hi, ho]
      have hcond := cond_ok (o := o) (bits := bs) hk.ifs (by rw [p5]; omega) (by rw [p5]; exact hk.cond)
      simp only [W.R_Play.c100010, W.R_Play.c249200]
      rw [br_pos (by omega), hidx, bnd_val, show (o.1, o.2.1, o.2.2.1, o.2.2.2.1, o.2.2.2.2.1, o.2.2.2.2.2) = o from rfl, hcond, bnd_val]
      have hw : IntKind.i64.wrap ((i : Int) + 1) = ((i + 1 : Nat) : Int) := by rw [wrap_i64 (by omega)]; omega
      by_cases hc : condK bs o = false
      · rw [if_pos hc] at p7
        rw [hc, show (!false) = true from rfl, br_tt, bnd_val, sel_inl, hw]
        exact .inl ⟨_, rfl, v, bs, used, rfl, rfl, rfl, p4.up, p5, p6, p7⟩
      · rw [if_neg hc] at p7
        have hc' : condK bs o = true := by simpa using hc
        rw [hc', show (!true) = false from rfl, br_ff]
        by_cases h5 : o.1 < 5
        · rw [if_pos h5] at p7
          obtain ⟨r, r1, r2⟩ := gate_walk p4 hk.gate hn (by omega)
          rw [br_pos h5, r1, bnd_val, bnd_val, sel_inl, hw]
          exact .inl ⟨_, rfl, _, bs, used, rfl, rfl, rfl, r2, p5, p6, p7⟩
        · rw [if_neg h5] at p7
          rw [br_neg h5]
          by_cases hu : used = tape.length
          · rw [if_pos hu] at p7
            rw [br_true (by simp [hu]), show W.R_rfault (19 : Int) (i : Int) = some (19, (i : Int)) from rfl, bnd_val, bnd_val, sel_inr]
            exact .inr ⟨_, rfl, .inl ⟨_, _, rfl, p7.symm, rfl, rfl⟩⟩
          · rw [if_neg hu] at p7
            rw [br_false (beq_false_of_ne (by omega)), idx_of used rfl (by omega), bnd_val]
            unfold W.R_Play.c19
            obtain ⟨b, hb⟩ : ∃ b, tape.getD used 0 = b := ⟨_, rfl⟩
            rw [hb] at p7 ⊢
            by_cases hbad : b ≠ 0 ∧ b ≠ 1
            · rw [if_pos hbad] at p7
              rw [br_true (by simpa using hbad.1), bnd_val, br_true (by simpa using hbad.2), show W.R_rfault (20 : Int) (i : Int) = some (20, (i : Int)) from rfl, bnd_val, bnd_val, sel_inr]
              exact .inr ⟨_, rfl, .inl ⟨_, _, rfl, p7.symm, rfl, rfl⟩⟩
            · rw [if_neg hbad] at p7
              have hb01 : b = 0 ∨ b = 1 := by omega
              have hc19 : (br (b != (0 : Int)) (some (b != (1 : Int))) (some false)) = some false := by rcases hb01 with rfl | rfl <;> rfl
              rw [hc19, bnd_val, br_ff]
              have hq := hk.gate.q
              obtain ⟨r, r1, r2⟩ := outcome_walk (q := o.2.2.2.1) p4 hn (by omega) hb01
              rw [r1, bnd_val, wrap_i64 (x := (used : Int) + 1) (by omega), show (used : Int) + 1 = ((used + 1 : Nat) : Int) by omega]
              unfold meetK at p7
              simp only at p7
              by_cases hm5 : o.1 = 5
              · have hbit := hk.bit hm5
                rw [if_neg (fun h => h.1 hm5), if_pos hm5] at p7
                rw [br_true (by simpa using hm5), inR_of hbit.1 (by rw [p5]; exact hbit.2), bnd_val, idx_of o.2.2.2.2.1.toNat (by omega) (by rw [p5]; omega), bnd_val, bnd_val, sel_inl, hw]
                exact .inl ⟨_, rfl, _, _, used + 1, rfl, rfl, rfl, r2.up, by rw [List.length_set]; exact p5, by omega, p7⟩
              · rw [if_neg hm5] at p7
                rw [br_false (by simpa using hm5)]
                by_cases hb1 : b = 1
                · rw [if_pos ⟨hm5, hb1⟩, ← gate_x [] 0 o.2.2.2.1 0 []] at p7
                  obtain ⟨s, s1, s2⟩ := gate_walk r2 (ok1_x hk.gate) hn (by omega)
                  rw [br_true (by simpa using hb1), s1, bnd_val, bnd_val, sel_inl, hw]
                  exact .inl ⟨_, rfl, _, bs, used + 1, rfl, rfl, rfl, s2, p5, by omega, p7⟩
                · rw [if_neg (fun h => hb1 h.2)] at p7
                  rw [br_false (by simpa using hb1), bnd_val, sel_inl, hw]
                  exact .inl ⟨_, rfl, _, bs, used + 1, rfl, rfl, rfl, r2.up, p5, by omega, p7⟩)
    (by
      rintro ⟨l, us, i', bs⟩ ⟨v, bits, used, p1, p2, p3, p4, p5, p6, p7⟩
      simp only at p1 p2 p3 p4
      subst p1
      subst p2
      subst p3
      rw [List.drop_length] at p7
      simp only [W.R_Play.c100010]
      rw [br_neg (by omega)]
      exact ⟨_, rfl, .inr ⟨_, _, rfl, p7.symm, rfl, rfl, p4⟩⟩)
    (s := (l0, (0 : Int), (0 : Int), List.replicate bn 0)) ⟨basisK i0, List.replicate bn 0, 0, rfl, rfl, rfl, b2, by simp, Nat.zero_le _, hR⟩
  have hp := pow63 (q := (n : Int)) (by omega)
  have hrun : W.R_Play ((n : Int), (bn : Int), ops) (i0 : Int) tape = sel y (fun u => some ([], [], (0 : Int), Prod.fst (Prod.snd (Prod.snd (Prod.snd u))), Prod.fst (Prod.snd (Prod.snd (Prod.snd (Prod.snd u))))))
       (fun v => some (Prod.fst v, Prod.snd (Prod.snd (Prod.snd v)), Prod.fst (Prod.snd v), (0 : Int), (0 : Int))) := by
    unfold W.R_Play W.R_Play.c4
    simp only
    rw [hck, bnd_val, br_false (by decide), br_neg (by omega), okIf_true (by simp), bnd_val, hp, Int.toNat_natCast, decide_eq_false (by omega), bnd_val, br_ff, b1, bnd_val,
      okIf_true (by rw [Bool.and_eq_true, Bool.and_eq_true, Bool.and_eq_true, decide_eq_true_iff, decide_eq_true_iff, decide_eq_true_iff, decide_eq_true_iff]; omega), bnd_val, Int.toNat_natCast, y1, bnd_val]
  rw [hR]
  rcases y2 with ⟨u, x, rfl, e, e1, e2⟩ | ⟨u, s, rfl, e, e1, e2, e3⟩
  · subst e
    refine ⟨fun x' hx => ?_, fun s hs => (by cases hs)⟩
    cases hx
    rw [hrun, sel_inl, e1, e2]
  · subst e
    refine ⟨fun x' hx => (by cases hx), fun s' hs => ?_⟩
    cases hs
    rw [hrun, sel_inr, e1, e2]
    exact ⟨_, rfl, e3⟩
end Go.Ql
end

section
namespace Go.Ql
def parA (s : Nat) : Nat → List Bool → Bool
  | _, [] => false
  | i, b :: t => (s.testBit i && b) ^^ parA s (i + 1) t
def parO (s : Nat) (z : Int) (x : Nat) : Nat → List Int → Bool
  | _, [] => false
  | i, q :: t => (s.testBit i && (decide (q ≠ z) && bt q x)) ^^ parO s z x (i + 1) t
def Sel (s : Nat) (z : Int) : Nat → List Int → Prop
  | _, [] => False
  | i, q :: t => (s.testBit i = true ∧ q = z) ∨ Sel s z (i + 1) t
theorem sel_mem {s : Nat} {z : Int} : ∀ {l : List Int} {i : Nat}, Sel s z i l → z ∈ l
  | _ :: _, _, .inl h => h.2 ▸ List.mem_cons_self ..
  | _ :: _, _, .inr h => List.mem_cons_of_mem _ (sel_mem h)
theorem sel_last (s : Nat) : ∀ (l : List Int) (i : Nat) (x : Nat × Int), Hit s i l → Sel s (lastL s i l x).2 i l
  | q :: l, i, x, h => by
    simp only [lastL]
    by_cases h2 : Hit s (i + 1) l
    · exact .inr (sel_last s l (i + 1) _ h2)
    · rw [(last_mem s l (i + 1) _).2 h2]
      rcases h with h | h
      · rw [if_pos h]; exact .inl ⟨h, rfl⟩
      · exact absurd h h2
theorem par_out (s : Nat) (z : Int) (x : Nat) : ∀ (l : List Int) (i : Nat), z ∉ l → parA s i (l.map fun q => bt q x) = parO s z x i l
  | [], _, _ => rfl
  | q :: l, i, h => by
    simp only [List.map_cons, parA, parO]
    rw [par_out s z x l (i + 1) (fun hm => h (List.mem_cons_of_mem _ hm)), decide_eq_true (show q ≠ z from fun e => h (e ▸ List.mem_cons_self ..)), Bool.true_and]
theorem par_split (s : Nat) (z : Int) (x : Nat) : ∀ (l : List Int) (i : Nat), l.Nodup → Sel s z i l → parA s i (l.map fun q => bt q x) = (parO s z x i l ^^ bt z x)
  | q :: l, i, hn, h => by
    have hn2 := List.nodup_cons.1 hn
    simp only [List.map_cons, parA, parO]
    rcases h with ⟨h1, h2⟩ | h
    · subst h2
      rw [par_out s q x l (i + 1) hn2.1, h1]
      simp [Bool.xor_comm]
    · have hne : q ≠ z := fun e => hn2.1 (e ▸ sel_mem h)
      rw [par_split s z x l (i + 1) hn2.2 h, decide_eq_true hne, Bool.true_and, Bool.xor_assoc]
theorem parO_fl (s : Nat) {z : Int} (hz : 0 ≤ z) (x : Nat) : ∀ (l : List Int) (i : Nat), Nn l → parO s z (fl z x) i l = parO s z x i l
  | [], _, _ => rfl
  | q :: l, i, h => by
    simp only [parO]
    rw [parO_fl s hz x l (i + 1) (fun r hr => h r (List.mem_cons_of_mem _ hr))]
    by_cases e : q = z
    · simp [e]
    · rw [bt_other (h q (List.mem_cons_self ..)) hz e]
def piF (s : Nat) (z : Int) (l : List Int) (i : Nat) (x : Nat) : Nat := if parO s z x i l = true then fl z x else x
theorem fan_sem (on : List Int) (s : Nat) {z : Int} (hz : 0 ≤ z) : ∀ (l : List Int) (i : Nat) (v : KV), Nn l → runK (fanL on s z i l) v = fun x => v (piF s z l i x)
  | [], i, v, _ => by funext x; simp [fanL, runK, piF, parO]
  | q :: l, i, v, h => by
    have hq := h q (List.mem_cons_self ..)
    have ih := fun w => fan_sem on s hz l (i + 1) w (fun r hr => h r (List.mem_cons_of_mem _ hr))
    simp only [fanL, runK_app, ih]
    funext x
    by_cases hc : s.testBit i = true ∧ q ≠ z
    · rw [if_pos hc]
      simp only [runK, gate_x, xK, piF, parO, hc.1, decide_eq_true hc.2, Bool.true_and]
      have e : ∀ y, onesB [q] y = bt q y := fun y => by simp [onesB]
      simp only [e]
      cases h1 : parO s z x (i + 1) l <;> cases h2 : bt q x <;> simp [h2, bt_other hq hz hc.2, fl_fl]
    · rw [if_neg hc]
      have e : (s.testBit i && (decide (q ≠ z) && bt q x)) = false := by
        cases h1 : s.testBit i
        · rfl
        · have : ¬ q ≠ z := fun h2 => hc ⟨h1, h2⟩
          rw [decide_eq_false this]
          rfl
      simp only [runK, piF, parO, e, Bool.false_xor]
theorem turn_sem (on : List Int) {q : Int} (k : Int) (v : KV) : runK (turnL on q k) v = pK [q] k v := by
  have e : Int.tmod (Int.tmod k 16 + 16) 16 = k % 16 := by
    by_cases h0 : 0 ≤ k
    · rw [Int.tmod_eq_emod_of_nonneg h0, Int.tmod_eq_emod_of_nonneg (by omega)]; omega
    · obtain ⟨m, rfl⟩ : ∃ m : Nat, k = -(m : Int) := ⟨k.natAbs, by omega⟩
      have h1 : Int.tmod (m : Int) 16 = ((m % 16 : Nat) : Int) := by rw [Int.tmod_eq_emod_of_nonneg (by omega)]; omega
      rw [Int.neg_tmod, h1, Int.tmod_eq_emod_of_nonneg (by omega)]; omega
  unfold turnL
  rw [e]
  by_cases h0 : k % 16 = 0
  · rw [if_pos h0]
    funext x
    simp only [runK, pK, turnZ, h0]
    split <;> rfl
  · rw [if_neg h0]
    have h1 := gate_p [] (k % 16) q 0 on v (by omega)
    simp only [runK, h1]
    funext x
    simp only [pK, turnZ, List.nil_append]
    rw [show k % 16 % 16 = k % 16 by omega]
def cB (s : Nat) : Nat → Nat → Nat
  | _, 0 => 0
  | i, n + 1 => (if s.testBit i = true then 1 else 0) + cB s (i + 1) n
theorem last_cnt (s : Nat) : ∀ (l : List Int) (i : Nat) (x : Nat × Int), (lastL s i l x).1 = x.1 + cB s i l.length
  | [], _, _ => rfl
  | q :: l, i, x => by
    simp only [lastL, List.length_cons, cB]
    rw [last_cnt s l (i + 1)]
    split <;> simp <;> omega
def sgnS (s n : Nat) (k : Int) : Int := if cB s 0 n % 2 = 1 then k else - k
theorem set_sem (on qs : List Int) (k : Int) (s : Nat) (hq : Nn qs) (hn : qs.Nodup) (h0 : 0 < s) (h : s < 2 ^ qs.length) (v : KV) :
    runK (setL on qs k s) v = fun x => if parA s 0 (qs.map fun q => bt q x) = true then turnZ (v x) (sgnS s qs.length k) else v x := by
  have hs := sel_last s qs 0 (0, -1) (hit_lt h0 h)
  have hc := last_cnt s qs 0 (0, -1)
  unfold setL
  simp only
  generalize lastL s 0 qs (0, -1) = z at hs hc
  have hz := hq _ (sel_mem hs)
  rw [runK_app, runK_app, fan_sem on s hz qs 0 _ hq, turn_sem, fan_sem on s hz qs 0 _ hq]
  funext x
  have e : ∀ y, onesB [z.2] y = bt z.2 y := fun y => by simp [onesB]
  have hcn : z.1 = cB s 0 qs.length := by rw [hc]; simp
  simp only [pK, e, hcn]
  have hpp : piF s z.2 qs 0 (piF s z.2 qs 0 x) = x := by
    unfold piF
    by_cases hp : parO s z.2 x 0 qs = true
    · rw [if_pos hp, parO_fl s hz x qs 0 hq, if_pos hp, fl_fl]
    · rw [if_neg hp, if_neg hp]
  have hb : bt z.2 (piF s z.2 qs 0 x) = parA s 0 (qs.map fun q => bt q x) := by
    rw [par_split s z.2 x qs 0 hn hs]
    unfold piF
    cases hp : parO s z.2 x 0 qs <;> simp [bt_self]
  rw [hpp, hb]
  rfl
def dSum (bs : List Bool) (k : Int) : Nat → Int
  | 0 => 0
  | n + 1 => dSum bs k n + if parA (n + 1) 0 bs = true then sgnS (n + 1) bs.length k else 0
theorem sets_sem (on qs : List Int) (k : Int) (hq : Nn qs) (hn : qs.Nodup) : ∀ (n : Nat) (v : KV), n < 2 ^ qs.length → runK (setsL on qs k n) v = fun x => turnZ (v x) (dSum (qs.map fun q => bt q x) k n)
  | 0, v, _ => rfl
  | n + 1, v, h => by
    simp only [setsL, runK_app]
    rw [sets_sem on qs k hq hn n v (by omega), set_sem on qs k (n + 1) hq hn (by omega) h]
    funext x
    simp only [dSum, List.length_map]
    by_cases hp : parA (n + 1) 0 (qs.map fun q => bt q x) = true
    · rw [if_pos hp, if_pos hp, turnZ_add]
    · rw [if_neg hp, if_neg hp, Int.add_zero]
theorem sgnS_lin (s n : Nat) (k : Int) : sgnS s n k = k * sgnS s n 1 := by
  unfold sgnS
  split <;> omega
theorem dSum_lin (bs : List Bool) (k : Int) : ∀ n, dSum bs k n = k * dSum bs 1 n
  | 0 => by simp [dSum]
  | n + 1 => by
    simp only [dSum]
    rw [dSum_lin bs k n, sgnS_lin]
    split
    · rw [Int.mul_add]
    · simp
theorem dSum_all (bs : List Bool) (h : 1 ≤ bs.length ∧ bs.length ≤ 4) : dSum bs 1 (2 ^ bs.length - 1) = if bs.all id = true then 2 ^ (bs.length - 1) else 0 := by
  match bs, h with
  | [a], _ => revert a; decide
  | [a, b], _ => revert a b; decide
  | [a, b, c], _ => revert a b c; decide
  | [a, b, c, d], _ => revert a b c d; decide +kernel
theorem par_sem (on qs : List Int) (k : Int) (hq : Nn qs) (hn : qs.Nodup) (hl : 1 ≤ qs.length ∧ qs.length ≤ 4) (hk : Int.tmod k ((2 : Int) ^ (qs.length - 1)) = 0) (v : KV) :
    runK (parL on qs k) v = pK qs k v := by
  have h2 : 0 < 2 ^ qs.length := Nat.pow_pos (by decide)
  unfold parL
  rw [sets_sem on qs _ hq hn _ v (by omega)]
  funext x
  rw [dSum_lin]
  have hd := dSum_all (qs.map fun q => bt q x) (by simpa using hl)
  rw [List.length_map] at hd
  rw [hd]
  have ea : (qs.map fun q => bt q x).all id = onesB qs x := by simp [onesB, List.all_map]
  rw [ea]
  simp only [pK]
  have hm := Int.mul_tdiv_add_tmod k ((2 : Int) ^ (qs.length - 1))
  by_cases h1 : onesB qs x = true
  · rw [if_pos h1, if_pos h1, Int.mul_comm]
    congr 1
    omega
  · rw [if_neg h1, if_neg h1, Int.mul_zero]
    rfl
end Go.Ql
end

section
namespace Go.Ql
theorem h_sem (on : List Int) (q : Int) (v : KV) : runK (hL on q) v = hK q v := gate_h1 0 q 0 on v
theorem and_sem (on : List Int) {a b s : Int} (h : Nn [a, b, s]) (hn : [a, b, s].Nodup) (v : KV) : runK (andL on a b s) v = xK [a, b] s v := by
  unfold andL
  rw [runK_app, runK_app, h_sem, h_sem, par_sem on [a, b, s] 8 h hn (by simp) (show Int.tmod 8 ((2 : Int) ^ 2) = 0 by decide)]
  refine hzh (l := [a, b]) (fun q hq => h q ?_) (h s (by simp)) ?_ v
  · simp only [List.mem_cons, List.not_mem_nil, or_false] at hq ⊢
    rcases hq with h | h <;> simp [h]
  · intro hm
    simp only [List.nodup_cons, List.mem_cons, List.not_mem_nil, or_false] at hn hm
    rcases hm with e | e
    · exact hn.1 (.inr e.symm)
    · exact hn.2.1 e.symm
def ZS (f : Int) (j : Nat) (v : KV) : Prop := ∀ (x : Nat) (i : Int), f ≤ i → i < f + j → bt i x = true → v x = K.zero
theorem ZS.mono {f : Int} {j k : Nat} {v : KV} (h : ZS f j v) (hk : k ≤ j) : ZS f k v := fun x i h1 h2 h3 => h x i h1 (by omega) h3
theorem ZS.xK {f : Int} {j : Nat} {v : KV} (h : ZS f j v) (hf : 0 ≤ f) {l : List Int} {q : Int} (hq : 0 ≤ q) (ho : q < f ∨ f + j ≤ q) : ZS f j (xK l q v) := fun x i h1 h2 h3 => by
  unfold Ql.xK
  split
  · exact h _ i h1 h2 (by rw [bt_other (by omega) hq (by omega)]; exact h3)
  · exact h x i h1 h2 h3
theorem ZS.pK {f : Int} {j : Nat} {v : KV} (h : ZS f j v) (l : List Int) (k : Int) : ZS f j (pK l k v) := fun x i h1 h2 h3 => by
  unfold Ql.pK
  rw [h x i h1 h2 h3, turnZ_nought]
  split <;> rfl
theorem hK_nought : K.add (K.half K.zero) (K.half K.zero) = K.zero ∧ K.add (K.half K.zero) (K.neg (K.half K.zero)) = K.zero := by
  rw [K.half_zero]
  exact ⟨K.add_zero _, K.sub_self _⟩
theorem ZS.hK {f : Int} {j : Nat} {v : KV} (h : ZS f j v) (hf : 0 ≤ f) {q : Int} (hq : 0 ≤ q) (ho : q < f ∨ f + j ≤ q) : ZS f j (hK q v) := fun x i h1 h2 h3 => by
  unfold Ql.hK
  rw [h x i h1 h2 h3, h (fl q x) i h1 h2 (by rw [bt_other (by omega) hq (by omega)]; exact h3)]
  split
  · exact hK_nought.2
  · exact hK_nought.1
theorem prod_sem (on : List Int) (f k : Int) (hf : 0 ≤ f) : ∀ (j : Nat) (qs : List Int) (v : KV), Nn qs → qs.Nodup → (∀ q ∈ qs, q < f ∨ f + j ≤ q) → j + 1 ≤ qs.length → qs.length ≤ j + 4 →
    Int.tmod k ((2 : Int) ^ (qs.length - 1 - j)) = 0 → ZS f j v → runK (prodL on f k j qs) v = pK qs k v
  | 0, qs, v, h, hn, _, h1, h2, hk, _ => par_sem on qs k h hn ⟨by omega, by omega⟩ (by simpa using hk) v
  | j + 1, [], v, h, hn, ho, h1, h2, hk, hz => by simp at h1
  | j + 1, [a], v, h, hn, ho, h1, h2, hk, hz => by simp at h1
  | j + 1, a :: b :: r, v, h, hn, ho, h1, h2, hk, hz => by
    obtain ⟨s, hs⟩ : ∃ s : Int, s = f + j := ⟨_, rfl⟩
    have ha := ho a (by simp)
    have hb := ho b (by simp)
    have hn' := List.nodup_cons.1 hn
    have hn2 := List.nodup_cons.1 hn'.2
    have hab : a ≠ b := fun e => hn'.1 (e ▸ List.mem_cons_self ..)
    have hsr : s ∉ r := fun hm => by
      have := ho s (by simp [hm])
      omega
    have h3 : Nn [a, b, s] := fun q hq => by
      simp only [List.mem_cons, List.not_mem_nil, or_false] at hq
      rcases hq with rfl | rfl | rfl
      · exact h _ (by simp)
      · exact h _ (by simp)
      · omega
    have hn3 : [a, b, s].Nodup := by
      simp only [List.nodup_cons, List.mem_cons, List.not_mem_nil, or_false, not_false_eq_true, List.nodup_nil, and_true]
      exact ⟨fun hm => by rcases hm with e | e <;> omega, fun e => by omega⟩
    have hsr' : Nn (s :: r) := fun q hq => by
      rcases List.mem_cons.1 hq with rfl | hq
      · omega
      · exact h _ (by simp [hq])
    have hz1 : ZS f j (xK [a, b] s v) := (hz.mono (by omega)).xK hf (by omega) (by omega)
    have ih := prod_sem on f k hf j (s :: r) (xK [a, b] s v) hsr' (List.nodup_cons.2 ⟨hsr, hn2.2⟩)
      (fun q hq => by
        rcases List.mem_cons.1 hq with rfl | hq
        · omega
        · have := ho q (by simp [hq]); omega)
      (by simp only [List.length_cons] at h1 ⊢; omega) (by simp only [List.length_cons] at h2 ⊢; omega)
      (by simp only [List.length_cons] at hk ⊢; rw [show r.length + 1 - 1 - j = r.length + 1 + 1 - 1 - (j + 1) by omega]; exact hk) hz1
    simp only [prodL, List.getD_cons_zero, List.getD_cons_succ, List.drop_succ_cons, List.drop_zero]
    rw [← hs, runK_app, runK_app, and_sem on h3 hn3 v, ih, and_sem on h3 hn3]
    funext x
    have hA : onesB [a, b] (fl s x) = onesB [a, b] x := ones_other (fun q hq => h3 q (by
      simp only [List.mem_cons, List.not_mem_nil, or_false] at hq ⊢
      rcases hq with e | e <;> simp [e])) (by omega) (fun hm => by
        simp only [List.mem_cons, List.not_mem_nil, or_false] at hm
        rcases hm with e | e <;> omega) x
    have hR : onesB r (fl s x) = onesB r x := ones_other (fun q hq => hsr' q (by simp [hq])) (by omega) hsr x
    have hone : onesB (a :: b :: r) x = (onesB [a, b] x && onesB r x) := by simp [onesB, Bool.and_assoc]
    have hzx : bt s x = true → v x = K.zero := fun hb => hz x s (by omega) (by omega) hb
    simp only [xK, pK, hone, ones_cons s r, hA, hR, bt_self, fl_fl]
    rcases Bool.eq_false_or_eq_true (bt s x) with hs1 | hs1 <;> rcases Bool.eq_false_or_eq_true (onesB [a, b] x) with hA1 | hA1 <;> rcases Bool.eq_false_or_eq_true (onesB r x) with hr1 | hr1 <;>
      (try rw [hs1] at hzx) <;> simp [hs1, hA1, hr1, turnZ_nought] <;> (try rw [hzx rfl]) <;> (try rw [turnZ_nought])
theorem flip_sem (on : List Int) (f : Int) (hf : 0 ≤ f) (o : Op) (n : Nat) (h : Nn (o.2.2.1 ++ [o.2.2.2.1])) (hn : (o.2.2.1 ++ [o.2.2.2.1]).Nodup) (ho : ∀ q ∈ o.2.2.1 ++ [o.2.2.2.1], q < f)
    (h0 : o.2.2.1.length ≠ 0) (h1 : n ≤ o.2.2.1.length) (h2 : o.2.2.1.length ≤ n + 3) (hk : Int.tmod 8 ((2 : Int) ^ (o.2.2.1.length - n)) = 0) (v : KV) (hz : ZS f n v) :
    runK (flipL on f o n) v = xK o.2.2.1 o.2.2.2.1 v := by
  obtain ⟨k0, k1, C, q, k4, k5⟩ := o
  simp only at *
  have hqC : q ∉ C := fun hm => (List.nodup_append.1 hn).2.2 q hm q (by simp) rfl
  have hq0 : 0 ≤ q := h q (by simp)
  unfold flipL
  by_cases hl : C.length = 1
  · obtain ⟨a, rfl⟩ : ∃ a, C = [a] := List.length_eq_one_iff.1 hl
    rw [if_pos hl]
    exact gate_x [a] 0 q 0 on v
  · rw [if_neg hl, runK_app, runK_app]
    simp only
    rw [h_sem, h_sem]
    have hq := ho q (by simp)
    rw [prod_sem on f 8 hf n (C ++ [q]) (hK q v) h hn (fun p hp => .inl (ho p hp)) (by simp; omega) (by simp; omega)
      (by simpa using hk) (hz.hK hf hq0 (.inl hq))]
    exact hzh (fun p hp => h p (by simp [hp])) hq0 hqC v
theorem op_sem (f : Int) (hf : 0 ≤ f) (o : Op) (h : Nn (o.2.2.1 ++ [o.2.2.2.1])) (hn : (o.2.2.1 ++ [o.2.2.2.1]).Nodup) (ho : ∀ q ∈ o.2.2.1 ++ [o.2.2.2.1], q < f)
    (hk : 0 ≤ o.2.1 ∧ o.2.1 ≤ 15) (hc : o.2.2.1 ≠ [] → o.1 = 2 ∨ o.1 = 3 ∨ o.1 = 4) (v : KV) (hz : ZS f (spO o) v) :
    runK (opL f o) v = gateK o v := by
  unfold opL
  by_cases h0 : o.2.2.1.length = 0
  · rw [if_pos h0]; rfl
  · rw [if_neg h0]
    have hkind := hc (fun e => h0 (by rw [e]; rfl))
    by_cases h4 : o.1 = 4
    · by_cases hk0 : o.2.1 = 0
      · rw [if_pos ⟨h4, hk0⟩]
        obtain ⟨k0, k1, C, q, k4, k5⟩ := o
        simp only at *
        subst h4
        subst hk0
        rw [gate_p _ _ _ _ _ _ (by decide)]
        funext x
        simp only [runK, pK]
        split <;> rfl
      · rw [if_neg (fun e => hk0 e.2), if_pos h4]
        have hopk : opK o = o.2.1 := by unfold opK; rw [if_pos h4]
        have hroom := spO_room o (by rw [hopk]; omega)
        have hdiv := spG_div (opK o) o.2.2.1.length
        rw [prod_sem o.2.2.2.2.2 f o.2.1 hf (spO o) (o.2.2.1 ++ [o.2.2.2.1]) v h hn (fun p hp => .inl (ho p hp)) (by simp; omega) (by simp; omega)
          (by rw [hopk] at hdiv; simp only [List.length_append, List.length_singleton, Nat.add_sub_cancel]; unfold spO; rw [hopk]; exact hdiv) hz]
        obtain ⟨k0, k1, C, q, k4, k5⟩ := o
        simp only at *
        subst h4
        rw [gate_p _ _ _ _ _ _ hk.1]
    · rw [if_neg (fun e => h4 e.1), if_neg h4]
      have hopk : opK o = 8 := by unfold opK; rw [if_neg h4]
      have hroom := spO_room o (by rw [hopk]; decide)
      have hdiv := spG_div (opK o) o.2.2.1.length
      have hdiv' : Int.tmod 8 ((2 : Int) ^ (o.2.2.1.length - spO o)) = 0 := by unfold spO; rw [hopk] at hdiv ⊢; exact hdiv
      have hfl := fun w hw => flip_sem o.2.2.2.2.2 f hf o (spO o) h hn ho h0 hroom.1 hroom.2 hdiv' w hw
      by_cases h2 : o.1 = 2
      · rw [if_pos h2, hfl v hz]
        obtain ⟨k0, k1, C, q, k4, k5⟩ := o
        simp only at *
        subst h2
        rw [gate_x]
      · have h3 : o.1 = 3 := by omega
        have hq0 : 0 ≤ o.2.2.2.1 := h _ (by simp)
        have hqf : o.2.2.2.1 < f := ho _ (by simp)
        rw [if_neg h2, runK_app, runK_app, runK_app, runK_app, runK_app, runK_app]
        simp only [turn_sem, h_sem]
        rw [hfl _ (((hz.pK _ _).hK hf hq0 (.inl hqf)).pK _ _)]
        have hqC : o.2.2.2.1 ∉ o.2.2.1 := fun hm => (List.nodup_append.1 hn).2.2 _ hm _ (by simp) rfl
        rw [chK (fun p hp => h p (by simp [hp])) hq0 hqC]
        obtain ⟨k0, k1, C, q, k4, k5⟩ := o
        simp only at *
        subst h3
        rw [gate_h]
end Go.Ql
end

section
namespace Go.Ql
theorem play_code (tape : List Int) : ∀ (l : List GOp) (i : Nat) (s : SK) (x : Int × Nat), playK tape i l s = .inl x → x.1 = 19 ∨ x.1 = 20
  | [], i, s, x, h => by simp [playK] at h
  | o :: l, i, s, x, h => by
    simp only [playK] at h
    split at h
    · exact play_code tape l _ _ x h
    · split at h
      · exact play_code tape l _ _ x h
      · split at h
        · cases h; exact .inl rfl
        · split at h
          · cases h; exact .inr rfl
          · exact play_code tape l _ _ x h
theorem play_bits (tape : List Int) : ∀ (l : List GOp) (i : Nat) (s t : SK), playK tape i l s = .inr t → t.2.1.length = s.2.1.length
  | [], i, s, t, h => by
    simp only [playK, Sum.inr.injEq] at h
    rw [h]
  | o :: l, i, s, t, h => by
    simp only [playK] at h
    split at h
    · exact play_bits tape l _ _ t h
    · split at h
      · exact (play_bits tape l _ (gateK o s.1, s.2.1, s.2.2) t h)
      · split at h
        · cases h
        · split at h
          · cases h
          · have := play_bits tape l _ _ t h
            rw [this]
            unfold meetK
            simp only
            split
            · rw [List.length_set]
            · rfl
def Alike (a b : (Int × Nat) ⊕ SK) : Prop := match a, b with
  | .inl x, .inl y => x.1 = y.1
  | .inr s, .inr t => s = t
  | _, _ => False
theorem Alike.refl (a : (Int × Nat) ⊕ SK) : Alike a a := by cases a <;> simp [Alike]
theorem play_gates (tape on : List Int) : ∀ (g : List GOp) (i : Nat) (l : List GOp) (s : SK), (∀ o ∈ g, o.1 < 5 ∧ o.2.2.2.2.2 = on) →
    playK tape i (g ++ l) s = playK tape (i + g.length) l (if condK s.2.1 (0, 0, [], 0, 0, on) = true then (runK g s.1, s.2.1, s.2.2) else s)
  | [], i, l, s, _ => by
    simp only [List.nil_append, List.length_nil, Nat.add_zero, runK]
    split <;> rfl
  | o :: g, i, l, s, h => by
    have ho := h o (List.mem_cons_self ..)
    have hc : condK s.2.1 o = condK s.2.1 (0, 0, [], 0, 0, on) := by simp only [condK, ho.2]
    have ih := fun t => play_gates tape on g (i + 1) l t (fun p hp => h p (List.mem_cons_of_mem _ hp))
    simp only [List.cons_append, playK, List.length_cons]
    rw [hc, show i + (g.length + 1) = i + 1 + g.length by omega]
    cases hb : condK s.2.1 (0, 0, [], 0, 0, on) with
    | false =>
      rw [if_pos rfl, ih, hb, if_neg (by decide), if_neg (by decide)]
    | true =>
      rw [if_neg (by decide), if_pos ho.1, ih]
      simp only [hb, if_true, runK]
theorem ZS.outK {f : Int} {j : Nat} {v : KV} (h : ZS f j v) (q b : Int) : ZS f j (outK q b v) := fun x i h1 h2 h3 => by
  unfold Ql.outK
  rw [h x i h1 h2 h3]
  split <;> rfl
theorem ZS.gate {f : Int} {j : Nat} {v : KV} (h : ZS f j v) (hf : 0 ≤ f) {o : GOp} (hq : 0 ≤ o.2.2.2.1 ∧ o.2.2.2.1 < f) : ZS f j (gateK o v) := fun x i h1 h2 h3 => by
  have h4 := h x i h1 h2 h3
  have h5 := h (fl o.2.2.2.1 x) i h1 h2 (by rw [bt_other (by omega) hq.1 (by omega)]; exact h3)
  simp only [gateK, h4, h5, K.turn_zero]
  split
  · rfl
  · split
    · rfl
    · split
      · split <;> rfl
      · split
        · rfl
        · split
          · exact hK_nought.2
          · exact hK_nought.1
structure LowO (f : Int) (a : Nat) (o : Op) : Prop where
  nn : Nn (o.2.2.1 ++ [o.2.2.2.1])
  nd : (o.2.2.1 ++ [o.2.2.2.1]).Nodup
  lt : ∀ q ∈ o.2.2.1 ++ [o.2.2.2.1], q < f
  k : 0 ≤ o.2.1 ∧ o.2.1 ≤ 15
  ctl : o.2.2.1 ≠ [] → o.1 = 2 ∨ o.1 = 3 ∨ o.1 = 4
  sp : spO o ≤ a
  gates : o.2.2.1 ≠ [] → ∀ p ∈ opL f o, p.1 < 5 ∧ p.2.2.2.2.2 = o.2.2.2.2.2
theorem play_low (tape : List Int) (f : Int) (hf : 0 ≤ f) (a : Nat) : ∀ (l : List Op) (i j : Nat) (s : SK), (∀ o ∈ l, LowO f a o) → ZS f a s.1 →
    Alike (playK tape i l s) (playK tape j (l.flatMap (opL f)) s)
  | [], i, j, s, _, _ => by simp [playK, Alike]
  | o :: l, i, j, s, h, hz => by
    have ho := h o (List.mem_cons_self ..)
    have hl : ∀ p ∈ l, LowO f a p := fun p hp => h p (List.mem_cons_of_mem _ hp)
    have hq : 0 ≤ o.2.2.2.1 ∧ o.2.2.2.1 < f := ⟨ho.nn _ (by simp), ho.lt _ (by simp)⟩
    rw [List.flatMap_cons]
    by_cases h0 : o.2.2.1 = []
    · have e : opL f o = [o] := by unfold opL; rw [if_pos (by rw [h0]; rfl)]
      rw [e, List.singleton_append]
      simp only [playK]
      by_cases hc : condK s.2.1 o = false
      · rw [if_pos hc, if_pos hc]
        exact play_low tape f hf a l _ _ s hl hz
      · rw [if_neg hc, if_neg hc]
        by_cases h5 : o.1 < 5
        · rw [if_pos h5, if_pos h5]
          exact play_low tape f hf a l _ _ _ hl (hz.gate hf hq)
        · rw [if_neg h5, if_neg h5]
          by_cases ht : s.2.2 = tape.length
          · rw [if_pos ht, if_pos ht]; simp [Alike]
          · rw [if_neg ht, if_neg ht]
            by_cases hb : tape.getD s.2.2 0 ≠ 0 ∧ tape.getD s.2.2 0 ≠ 1
            · rw [if_pos hb, if_pos hb]; simp [Alike]
            · rw [if_neg hb, if_neg hb]
              refine play_low tape f hf a l _ _ _ hl ?_
              unfold meetK
              simp only
              split
              · exact (hz.outK _ _).xK hf hq.1 (.inl hq.2)
              · exact hz.outK _ _
    · have hg := ho.gates h0
      have hs := op_sem f hf o ho.nn ho.nd ho.lt ho.k ho.ctl s.1 (hz.mono ho.sp)
      rw [play_gates tape o.2.2.2.2.2 (opL f o) j _ s hg, hs]
      have hk := ho.ctl h0
      simp only [playK]
      have hc : condK s.2.1 (0, 0, [], 0, 0, o.2.2.2.2.2) = condK s.2.1 o := rfl
      rw [hc]
      by_cases hb : condK s.2.1 o = false
      · rw [if_pos hb, if_neg (by simp [hb])]
        exact play_low tape f hf a l _ _ s hl hz
      · rw [if_neg hb, if_pos (show o.1 < 5 by omega), if_pos (by simpa using hb)]
        exact play_low tape f hf a l _ _ _ hl (hz.gate hf hq)
end Go.Ql
end

section
namespace Go.Ql
theorem op_gates {o : Op} {qn bn Q : Int} (h : GoodOp o qn bn) (h0 : 0 ≤ qn) (hs : qn + (spO o : Nat) ≤ Q) (hQ : Q ≤ 12) (hctl : o.2.2.1 ≠ []) : Gates Q o.2.2.2.2.2 (opL qn o) := by
  unfold opL
  have ha : ¬ o.2.2.1.length = 0 := fun h => hctl (List.length_eq_zero_iff.1 h)
  rw [if_neg ha]
  have hc : o.2.2.1 ≠ [] := fun hh => ha (by rw [hh]; rfl)
  have hkind := h.ctl.resolve_left hc
  have hlen := goodOp_len h
  have hin : In Q (o.2.2.1 ++ [o.2.2.2.1]) := by
    intro q hq
    have := (goodOp_ctl h).2.mono (show qn ≤ Q by omega)
    rcases List.mem_append.mp hq with hh | hh
    · exact this q (List.mem_cons_of_mem _ hh)
    · rw [List.mem_singleton] at hh; rw [hh]; exact this _ (List.mem_cons_self ..)
  have hqQ : 0 ≤ o.2.2.2.1 ∧ o.2.2.2.1 < Q := hin _ (by simp)
  by_cases hb : o.1 = 4 ∧ o.2.1 = 0
  · rw [if_pos hb]; exact Gates.nil
  rw [if_neg hb]
  have hopk : 1 ≤ opK o ∧ opK o ≤ 15 := by
    have := h.k
    unfold opK
    by_cases hh : o.1 = 4
    · rw [if_pos hh]; omega
    · rw [if_neg hh]; omega
  have hsp := spO_room o hopk
  have hpg : ∀ k, Gates Q o.2.2.2.2.2 (prodL o.2.2.2.2.2 qn k (spO o) (o.2.2.1 ++ [o.2.2.2.1])) := fun k => prod_gates qn k h0 _ _ hin (by simp; omega) hs
  by_cases hd : o.1 = 4
  · rw [if_pos hd]; exact hpg _
  rw [if_neg hd]
  have hflip : Gates Q o.2.2.2.2.2 (flipL o.2.2.2.2.2 qn o (spO o)) := by
    unfold flipL
    by_cases he : o.2.2.1.length = 1
    · rw [if_pos he]
      have hm : o.2.2.1.getD 0 0 ∈ o.2.2.1 := by
        have : o.2.2.1.getD 0 0 = o.2.2.1[0]'(by omega) := by simp [he]
        rw [this]; exact List.getElem_mem _
      have h1 := (ctlBad_zero.mp h.ctls).1 _ hm
      exact cx_gates ⟨h1.1, by omega⟩ hqQ h1.2.2.1
    · rw [if_neg he]
      exact Gates.app (h_gates hqQ) (Gates.app (hpg 8) (h_gates hqQ))
  by_cases he : o.1 = 2
  · rw [if_pos he]; exact hflip
  rw [if_neg he]
  exact Gates.app (turn_gates _ hqQ) (Gates.app (h_gates hqQ) (Gates.app (turn_gates _ hqQ) (Gates.app hflip (Gates.app (turn_gates _ hqQ) (Gates.app (h_gates hqQ) (turn_gates _ hqQ))))))
theorem gates_if {Q : Int} {on : List Int} {l : List Op} (h : Gates Q on l) : ∀ p ∈ l, p.1 < 5 ∧ p.2.2.2.2.2 = on := fun p hp => by
  obtain ⟨h1, h2, h3, h4⟩ := h p hp
  refine ⟨?_, h4⟩
  rcases h1 with h1 | h1 | h1 <;> omega
theorem low_good {o : Op} {qn bn : Int} {a : Nat} (h : GoodOp o qn bn) (h0 : 0 ≤ qn) (hs : spO o ≤ a) (hQ : qn + (a : Nat) ≤ 12) : LowO qn a o := by
  obtain ⟨hn, hin⟩ := goodOp_ctl h
  have hn' := List.nodup_cons.1 hn
  refine ⟨fun q hq => ?_, ?_, fun q hq => ?_, h.k, fun hc => ?_, hs, fun hc => gates_if (op_gates h h0 (Q := 12) (by omega) (by omega) hc)⟩
  · rcases List.mem_append.1 hq with hq | hq
    · exact (hin q (by simp [hq])).1
    · rw [List.mem_singleton.1 hq]; exact h.q.1
  · rw [List.nodup_append]
    refine ⟨hn'.2, by simp, fun x hx y hy e => ?_⟩
    rw [List.mem_singleton] at hy
    exact hn'.1 (hy ▸ e ▸ hx)
  · rcases List.mem_append.1 hq with hq | hq
    · exact (hin q (by simp [hq])).2
    · rw [List.mem_singleton.1 hq]; exact h.q.2
  · rcases h.ctl with e | e
    · exact absurd e hc
    · exact e
theorem okp_good {o : Op} {n bn : Nat} (h : GoodOp o (n : Int) (bn : Int)) (hn : n ≤ 12) : OkP o n bn := by
  obtain ⟨hnd, hin⟩ := goodOp_ctl h
  have hlen := goodOp_len h
  have h24 := h.ifs
  refine ⟨⟨h.q, h.k.1, fun q hq => ?_, by omega, (List.nodup_cons.1 hnd).1⟩, by omega, fun c hc => ?_, fun h5 => ?_⟩
  · have := hin q (by simp [hq]); omega
  · have hcond := h.cond
    unfold ifBad at hcond
    have : ¬ (c = 0 ∨ (bn : Int) < c ∨ c < -(bn : Int)) := fun hh => hcond ⟨c, hc, hh⟩
    omega
  · rcases h.bit with hb | hb
    · exact hb.2
    · exact absurd h5 hb.1
theorem loop_same {l m : List NumT} {N M t u : Nat} {v : KV} (hl : Amps l N v t) (hm : Amps m M v u) (hNM : N ≤ M) (hM : M ≤ 2 ^ 20) (ht : t ≤ 5000) (hu : u ≤ 5000) (hz : ∀ x, N ≤ x → x < M → v x = K.zero) :
    ∃ i, iter (fun s ↦ W.Law_LowerKeeps.c100016 l m s some) (0 : Int) = some (.inr i) := by
  have h1 := hl.len
  have h2 := hm.len
  obtain ⟨y, y1, i, rfl⟩ := iter_upto (f := fun s : Int ↦ W.Law_LowerKeeps.c100016 l m s some) M
    (fun i s => s = (i : Int)) (fun y => ∃ i, y = .inr i)
    (by
      rintro i s hi rfl
      left
      refine ⟨((i + 1 : Nat) : Int), ?_, rfl⟩
      simp only [W.Law_LowerKeeps.c100016, W.Law_LowerKeeps.c18, W.Law_LowerKeeps.c20]
      rw [br_pos (by omega)]
      by_cases hx : i < N
      · obtain ⟨b, b1, b2⟩ := rsame_ok (hl.at_ i hx) (hm.at_ i hi) (by omega) (by omega)
        have hb : b = true := b2.2 rfl
        rw [br_pos (by omega), idxN (by omega), bnd_val, idxN (by omega), bnd_val, b1, hb]
        simp only [bnd_val, Bool.not_true, br_ff]
        rw [br_neg (by omega), bnd_val, br_ff, wrap_i64 (by omega)]
        rfl
      · obtain ⟨b, b1, b2⟩ := rzero_num (hm.at_ i hi)
        have hb : b = true := b2.2 (hz i (by omega) hi)
        rw [br_neg (by omega), bnd_val, br_ff, br_pos (by omega), idxN (by omega), bnd_val, b1, hb]
        simp only [bnd_val, Bool.not_true, br_ff]
        rw [wrap_i64 (by omega)]
        rfl)
    (by
      rintro s rfl
      simp only [W.Law_LowerKeeps.c100016]
      rw [br_neg (by omega)]
      exact ⟨_, rfl, _, rfl⟩)
    (s := (0 : Int)) rfl
  exact ⟨i, y1⟩
theorem play_zs (tape : List Int) (f : Int) (hf : 0 ≤ f) (j : Nat) : ∀ (l : List GOp) (i : Nat) (s t : SK), (∀ o ∈ l, 0 ≤ o.2.2.2.1 ∧ o.2.2.2.1 < f) → ZS f j s.1 → playK tape i l s = .inr t → ZS f j t.1
  | [], i, s, t, _, hz, h => by
    simp only [playK, Sum.inr.injEq] at h
    rw [← h]; exact hz
  | o :: l, i, s, t, ho, hz, h => by
    have hl : ∀ p ∈ l, 0 ≤ p.2.2.2.1 ∧ p.2.2.2.1 < f := fun p hp => ho p (List.mem_cons_of_mem _ hp)
    have hq := ho o (List.mem_cons_self ..)
    simp only [playK] at h
    split at h
    · exact play_zs tape f hf j l _ s t hl hz h
    · split at h
      · exact play_zs tape f hf j l _ _ t hl (hz.gate hf hq) h
      · split at h
        · cases h
        · split at h
          · cases h
          · refine play_zs tape f hf j l _ _ t hl ?_ h
            unfold meetK
            simp only
            split
            · exact (hz.outK _ _).xK hf hq.1 (.inl hq.2)
            · exact hz.outK _ _
theorem keeps_law (c : Cir) (hc : WCir c) (t1 : Int) (tape : List Int) (ht : tape.length < 2 ^ 62) : W.Law_LowerKeeps c t1 tape = some true := by
  unfold W.Law_LowerKeeps
  refine bnd_of (copyCircuit_ok c hc) ?_
  refine bnd_of (base_ok hc) ?_
  refine bnd_of (lowerFault_ok hc) ?_
  simp only
  refine bnd_of (x := false) ?_ ?_
  · unfold W.Law_LowerKeeps.c3
    rw [begun_ok, bnd_val, Bool.not_true, br_ff, eqT_refl]
    rfl
  rw [br_ff]
  unfold W.Law_LowerKeeps.c5
  by_cases h : (lowF c).1 = 0
  · obtain ⟨hb, _, _, _⟩ := baseL_good h
    obtain ⟨hg, hs, hm⟩ := lowF_good h
    have hq := hg.q
    have hbn := hg.b
    have ha : baseA c = baseL c := by unfold baseA; rw [if_neg (by simp [h])]
    rw [br_false (by simp [h]), ha, okIf_true (by have := hb.q; simp only [decide_eq_true_eq]; omega), bnd_val, bnd_val]
    by_cases hbig : IntKind.wrap IntKind.i64 ((↑(List.length (baseL c).2.2) : Int) * (2 : Int) ^ Min.min (Int.toNat (baseL c).1) (64 : Nat)) > (400000 : Int)
    · rw [br_pos hbig]
    rw [br_neg hbig]
    obtain ⟨q0, b0, ops⟩ := c
    simp only at hq hbn hm hs
    obtain ⟨n, rfl⟩ : ∃ n : Nat, q0 = n := ⟨q0.toNat, by omega⟩
    obtain ⟨bn, rfl⟩ : ∃ bn : Nat, b0 = bn := ⟨b0.toNat, by omega⟩
    have hp := pow63 (q := (n : Int)) (by omega)
    rw [Int.toNat_natCast] at hp
    have hN0 : 0 < 2 ^ n := Nat.pow_pos (by decide)
    obtain ⟨i0, e0, hi0⟩ : ∃ i0 : Nat, W.Law_LowerKeeps.c228677 t1 (n : Int) some = some (i0 : Int) ∧ i0 < 2 ^ n := by
      unfold W.Law_LowerKeeps.c228677 W.Law_LowerKeeps.c7
      by_cases h1 : t1 < 0
      · rw [br_pos h1, bnd_val, br_tt]
        exact ⟨0, rfl, hN0⟩
      · rw [br_neg h1, okIf_true (by simp), bnd_val, Int.toNat_natCast, hp, bnd_val]
        by_cases h2 : t1 ≥ ((2 ^ n : Nat) : Int)
        · rw [br_pos h2]
          exact ⟨0, rfl, hN0⟩
        · rw [br_neg h2]
          exact ⟨t1.toNat, by rw [Int.toNat_of_nonneg (by omega)], by omega⟩
    rw [e0, bnd_val]
    obtain ⟨a, hax⟩ : ∃ a, mxF ops = a := ⟨_, rfl⟩
    have hck1 : W.R_Check ((n : Int), (bn : Int), ops) = some ((0 : Int), (0 : Int)) := by rw [rcheck_ok _ hc, hg.chk]
    have hwc : WCir (baseL ((n : Int), (bn : Int), ops)) := ⟨by have := hb.n; omega, fun o ho => by
      have hgo := goodOp_of (hb.ops o ho)
      have h1 := good_len hgo hb.q.2
      have h2 := hgo.ifs
      exact ⟨by omega, by omega⟩⟩
    have hck2 := rcheck_ok _ hwc
    rw [hb.chk] at hck2
    have hbeq : baseL ((n : Int), (bn : Int), ops) = (((n + a : Nat) : Int), (bn : Int), ops.flatMap (opL (n : Int))) := by
      unfold baseL
      simp only [hax]
      rw [show ((n + a : Nat) : Int) = (n : Int) + (a : Int) by omega]
    have hbl := hb.n
    have hbops := hb.ops
    rw [hbeq] at hck2 hbl hbops ⊢
    simp only at hck2 hbl hbops ⊢
    have hln : ops.length ≤ 4096 := hg.n
    have hmn : n + a ≤ 12 := by rw [hax] at hm; omega
    have hi2 : i0 < 2 ^ (n + a) := Nat.lt_of_lt_of_le hi0 (Nat.pow_le_pow_right (by decide) (by omega))
    have w1 := play_walk (n := n) (bn := bn) (ops := ops) (tape := tape) (i0 := i0) (by omega) (by omega) (by omega) ht hi0 (fun o ho => okp_good (goodOp_of (hg.ops o ho)) (by omega)) hck1
    have w2 := play_walk (n := n + a) (bn := bn) (ops := ops.flatMap (opL (n : Int))) (tape := tape) (i0 := i0) (by omega) (by omega) (by omega) ht hi2 (fun o ho => okp_good (goodOp_of (hbops o ho)) (by omega)) hck2
    have hz0 : ZS (n : Int) a (basisK i0) := fun x i h1 h2 h3 => by
      unfold basisK
      refine if_neg (fun e => ?_)
      subst e
      unfold bt at h3
      have h4 := Nat.ge_two_pow_of_testBit h3
      have h5 : 2 ^ n ≤ 2 ^ i.toNat := Nat.pow_le_pow_right (by decide) (by omega)
      omega
    have hal := play_low tape (n : Int) (by omega) a ops 0 0 (basisK i0, List.replicate bn 0, 0)
      (fun o ho => low_good (goodOp_of (hg.ops o ho)) (by omega) (by rw [← hax]; exact mxF_mem ho) (by omega)) hz0
    obtain ⟨r1, hr1⟩ : ∃ r, playK tape 0 ops (basisK i0, List.replicate bn 0, 0) = r := ⟨_, rfl⟩
    obtain ⟨r2, hr2⟩ : ∃ r, playK tape 0 (ops.flatMap (opL (n : Int))) (basisK i0, List.replicate bn 0, 0) = r := ⟨_, rfl⟩
    rw [hr1, hr2] at hal
    rw [hr1] at w1
    rw [hr2] at w2
    cases r1 with
    | inl x =>
      cases r2 with
      | inr s => exact hal.elim
      | inl y =>
        have hxy : x.1 = y.1 := hal
        have hx0 : x.1 = 19 ∨ x.1 = 20 := play_code tape ops 0 _ x hr1
        rw [w1.1 x rfl, bnd_val, w2.1 y rfl, bnd_val]
        unfold W.Law_LowerKeeps.c11
        simp only [hxy]
        rw [br_false (by simp), br_false (by simp), show W.R_SameInts [] [] = some true from by rw [sameInts_ok [] [] (by simp)]; rfl, bnd_val, bnd_val, show (!true) = false from rfl, br_ff, br_true (by rw [bne_iff_ne]; omega)]
    | inr s =>
      cases r2 with
      | inl y => exact hal.elim
      | inr s2 =>
        have hss : s = s2 := hal
        subst hss
        obtain ⟨l, l1, l2⟩ := w1.2 s rfl
        obtain ⟨m, m1, m2⟩ := w2.2 s rfl
        have hzs := play_zs tape (n : Int) (by omega) a ops 0 _ s (fun o ho => (goodOp_of (hg.ops o ho)).q) hz0 hr1
        have hbits : s.2.1.length ≤ 17592186043904 := by
          have := play_bits tape ops 0 _ s hr1
          rw [this]
          simp
          omega
        obtain ⟨i, hi⟩ := loop_same l2 m2 (Nat.pow_le_pow_right (by decide) (by omega)) (Nat.pow_le_pow_right (by decide) (by omega)) (by omega) (by omega) (fun x hx1 hx2 => by
          obtain ⟨j, hj1, hj2⟩ := Nat.exists_ge_and_testBit_of_ge_two_pow hx1
          have h4 := Nat.ge_two_pow_of_testBit hj2
          have h5 : 2 ^ j < 2 ^ (n + a) := by omega
          have h6 := (Nat.pow_lt_pow_iff_right (show 1 < 2 by omega)).mp h5
          exact hzs x (j : Int) (by omega) (by omega) (by unfold bt; rw [Int.toNat_natCast]; exact hj2))
        rw [l1, bnd_val, m1, bnd_val]
        unfold W.Law_LowerKeeps.c11
        simp only
        rw [br_false (by simp), br_false (by simp), sameInts_ok _ _ hbits, bnd_val, bnd_val, decide_eq_true rfl, show (!true) = false from rfl, br_ff, br_false (by simp), hi, bnd_val, sel_inr]
  · rw [br_true (by simp [h]), bnd_val, br_tt]
end Go.Ql
end

section
namespace Go.Ql
theorem keeps_wf : ∀ x : dens [cirTy, .int .i64, .sl (.int .i64)], WfL [cirTy, .int .i64, .sl (.int .i64)] x → W.Law_LowerKeeps.ce.F x = some true := by
  intro x ⟨h1, _, h3, _⟩
  rw [int_bytes] at h3
  have h3 : x.2.2.length * 8 ≤ 140737488351232 := h3
  exact keeps_law x.1 (wcir_of h1) x.2.1 x.2.2 (by omega)
end Go.Ql
end
