/- Plain laws: permutations and expressions as circuits; each law, of all arguments. -/
import Derived.Test.YtajegnlkgnecoaaDoorPb
import Derived.Lib.ItoaNum
import Derived.Test.YtajegnlkgnecoaaDoorGa
set_option linter.all false
section
set_option linter.unusedSectionVars false
set_option linter.unusedVariables false
set_option maxHeartbeats 1000000
namespace W
open Go.Ql
open Go hiding Op
abbrev tz (m : Nat) : Nat := Go.Lib.ctz 64 m
def low (m : Nat) : Nat := m &&& (m - 1)
theorem tz_form {m : Nat} (h : 0 < m) (hm : m < 2 ^ 63) : ∃ k, m = 2 ^ (tz m + 1) * k + 2 ^ tz m ∧ tz m < 64 := by
  obtain ⟨k, h1, h2⟩ := Go.Lib.ctzFrom_spec 64 m h (by omega)
  have e : Go.Lib.ctz 64 m = Go.Lib.ctzFrom 64 m := by simp [Go.Lib.ctz, Nat.ne_of_gt h]
  refine ⟨k, ?_, by rw [tz, e]; exact h2⟩
  rw [tz, e, Nat.pow_succ]
  rw [Nat.mul_add, Nat.mul_one, ← Nat.mul_assoc] at h1
  exact h1
theorem tz_bit {m : Nat} (h : 0 < m) (hm : m < 2 ^ 63) : (∀ j, j < tz m → m.testBit j = false) ∧ m.testBit (tz m) = true ∧ (∀ j, (low m).testBit j = (m.testBit j && decide (j ≠ tz m))) := by
  obtain ⟨k, h1, _⟩ := tz_form h hm
  generalize tz m = c at h1 ⊢
  have hc : 2 ^ c < 2 ^ (c + 1) := Nat.pow_lt_pow_right (by decide) (Nat.lt_succ_self c)
  have hb (j : Nat) : m.testBit j = if j < c + 1 then decide (c = j) else k.testBit (j - (c + 1)) := by
    rw [h1, Nat.testBit_two_pow_mul_add k hc, Nat.testBit_two_pow]
  have h2 : m - 1 = 2 ^ (c + 1) * k + (2 ^ c - 1) := by
    have := Nat.two_pow_pos c
    omega
  have hb2 (j : Nat) : (m - 1).testBit j = if j < c + 1 then decide (j < c) else k.testBit (j - (c + 1)) := by
    rw [h2, Nat.testBit_two_pow_mul_add k (by omega), Nat.testBit_two_pow_sub_one]
  refine ⟨fun j hj => ?_, ?_, fun j => ?_⟩
  · rw [hb, if_pos (by omega), decide_eq_false (by omega)]
  · rw [hb, if_pos (by omega), decide_eq_true rfl]
  · rw [low, Nat.testBit_and, hb, hb2]
    by_cases hj : j < c + 1
    · rw [if_pos hj, if_pos hj]
      by_cases e : c = j
      · subst e; simp
      · simp [e]
    · rw [if_neg hj, if_neg hj, Bool.and_self, decide_eq_true (by omega), Bool.and_true]
theorem low_lt {m : Nat} (h : 0 < m) : low m < m := by
  have : low m ≤ m - 1 := Nat.and_le_right
  omega
theorem and_low {m : Nat} (h : 0 < m) (hm : m < 2 ^ 63) : ibits BinOp.and IntKind.i64 (m : Int) (IntKind.i64.wrap ((m : Int) - 1)) = ((low m : Nat) : Int) := by
  rw [wrap_i64 (by omega), show (m : Int) - 1 = ((m - 1 : Nat) : Int) by omega, iandi64 hm (by omega)]
  rfl
theorem and_neg {m : Nat} (h : 0 < m) (hm : m < 2 ^ 63) : ibits BinOp.and IntKind.i64 (m : Int) (IntKind.i64.wrap ((0 : Int) - m)) = ((2 ^ tz m : Nat) : Int) := by
  rw [wrap_i64 (by omega)]
  show IntKind.i64.wrap (((BitVec.ofInt 64 (m : Int) &&& BitVec.ofInt 64 ((0 : Int) - m)).toNat : Nat) : Int) = _
  have e1 : (BitVec.ofInt 64 ((0 : Int) - m)).toNat = 2 ^ 64 - m := by
    rw [BitVec.toNat_ofInt]
    omega
  have hl := Go.Lib.lowest_bit 64 m (by omega) (by omega)
  rw [BitVec.toNat_and, e1, bv_ofInt_nat, BitVec.toNat_ofNat, Nat.mod_eq_of_lt (by omega), hl.1]
  have : 2 ^ Go.Lib.ctz 64 m ≤ m := by
    have := (tz_bit h hm).2.1
    exact Nat.ge_two_pow_of_testBit this
  exact wrap_i64 (by omega)
theorem tz_ok {m : Nat} (hm : m < 2 ^ 63) : bits_TrailingZeros (IntKind.u64.wrap (m : Int)) = some (tz m : Int) := by
  rw [wrap_u64 (by omega)]
  unfold bits_TrailingZeros
  rw [decide_eq_true (by omega), decide_eq_true (by omega), Int.toNat_natCast]
  rfl
theorem tz_lt {m K : Nat} (h : 0 < m) (hm : m < 2 ^ 63) (hK : m < 2 ^ K) : tz m < K := by
  apply Nat.lt_of_not_le
  intro hle
  have := (tz_bit h hm).2.1
  rw [Nat.testBit_lt_two_pow (Nat.lt_of_lt_of_le hK (Nat.pow_le_pow_right (by decide) hle))] at this
  cases this
theorem tz_pow {q : Nat} (h : q < 63) : tz (2 ^ q) = q := by
  have hp : 2 ^ q < 2 ^ 63 := Nat.pow_lt_pow_right (by decide) h
  have := (tz_bit (Nat.two_pow_pos q) hp).2.1
  rw [Nat.testBit_two_pow] at this
  exact (of_decide_eq_true this).symm
def bN (m K : Nat) : List Nat := (List.range K).filter fun j => m.testBit j
theorem bN_mem {m K j : Nat} : j ∈ bN m K ↔ j < K ∧ m.testBit j = true := by rw [bN, List.mem_filter, List.mem_range]
theorem bN_inc (m K : Nat) : (bN m K).Pairwise (· < ·) := List.pairwise_lt_range.filter _
theorem bN_len (m K : Nat) : (bN m K).length ≤ K := Nat.le_trans (List.length_filter_le _ _) (by rw [List.length_range]; exact Nat.le_refl K)
theorem bN_zero (K : Nat) : bN 0 K = [] := by
  rw [List.eq_nil_iff_forall_not_mem]
  intro j hj
  have := (bN_mem.1 hj).2
  rw [Nat.zero_testBit] at this; cases this
theorem bN_step {m K : Nat} (h : 0 < m) (hm : m < 2 ^ 63) (hK : m < 2 ^ K) : bN m K = tz m :: bN (low m) K := by
  obtain ⟨h1, h2, h3⟩ := tz_bit h hm
  refine ext_inc (lt := (· < ·)) Nat.lt_irrefl (fun a b c => Nat.lt_trans) (bN_inc m K) ?_ fun j => ?_
  · rw [List.pairwise_cons]
    refine ⟨fun j hj => ?_, bN_inc _ _⟩
    have hj := (bN_mem.1 hj).2
    rw [h3, Bool.and_eq_true, decide_eq_true_eq] at hj
    apply Nat.lt_of_not_le
    intro hle
    have := h1 j (by omega)
    rw [hj.1] at this; cases this
  · rw [List.mem_cons, bN_mem, bN_mem, h3, Bool.and_eq_true, decide_eq_true_eq]
    constructor
    · rintro ⟨a, b⟩
      by_cases e : j = tz m
      · exact .inl e
      · exact .inr ⟨a, b, e⟩
    · rintro (rfl | ⟨a, b, _⟩)
      · exact ⟨tz_lt h hm hK, h2⟩
      · exact ⟨a, b⟩
theorem iter_bits {S T R : Type} {f : S → Option (S ⊕ R)} (K : Nat) (hK : K ≤ 63) (mk : Nat → T → S) (g : T → Nat → T) (out : T → R) (I : Nat → T → Prop)
    (step : ∀ m t, 0 < m → m < 2 ^ K → I m t → f (mk m t) = some (.inl (mk (low m) (g t (tz m)))) ∧ I (low m) (g t (tz m)))
    (done : ∀ t, I 0 t → f (mk 0 t) = some (.inr (out t))) : ∀ (k m : Nat) (t : T), m ≤ k → m < 2 ^ K → I m t → iter f (mk m t) = some (out ((bN m K).foldl g t))
  | 0, m, t, hk, hm, hi => by
    obtain rfl : m = 0 := by omega
    rw [bN_zero]
    exact iter_inr (done t hi)
  | k + 1, m, t, hk, hm, hi => by
    by_cases h : m = 0
    · subst h
      rw [bN_zero]
      exact iter_inr (done t hi)
    · have h63 : m < 2 ^ 63 := Nat.lt_of_lt_of_le hm (Nat.pow_le_pow_right (by decide) hK)
      obtain ⟨h1, h2⟩ := step m t (by omega) hm hi
      have hl := low_lt (m := m) (by omega)
      rw [bN_step (by omega) h63 hm]
      exact iter_inl h1 (iter_bits K hK mk g out I step done k (low m) _ (by omega) (by omega) h2)
theorem foldl_map {α β : Type} (h : β → α) : ∀ (l : List β) (t : List α), l.foldl (fun t q => t ++ [h q]) t = t ++ l.map h
  | [], t => by simp
  | a :: l, t => by rw [List.foldl_cons, foldl_map h l, List.map_cons, List.append_assoc]; rfl
theorem list_ok {m : Nat} (hm : m < 2 ^ 12) : rev_list (m : Int) = some ((bN m 12).map fun q : Nat => (q : Int)) := by
  unfold rev_list
  have key := iter_bits (f := fun s : Int × List Int => rev_list.c100002 (Prod.fst s) (Prod.snd s) some) 12 (by decide) (fun m (t : List Int) => ((m : Int), t)) (fun t q => t ++ [(q : Int)]) (fun t => ((0 : Int), t)) (fun m t => t.length + (bN m 12).length ≤ 12)
    (fun m t h0 h1 hi => by
      have h63 : m < 2 ^ 63 := by omega
      have hb := bN_step h0 h63 h1
      rw [hb, List.length_cons] at hi
      refine ⟨?_, by rw [List.length_append, List.length_singleton]; omega⟩
      show rev_list.c100002 (m : Int) t some = _
      unfold rev_list.c100002
      rw [br_pos (by omega), tz_ok h63, bnd_val, okIf_len (by omega), bnd_val, and_low h0 h63])
    (fun t _ => by
      show rev_list.c100002 ((0 : Nat) : Int) t some = _
      unfold rev_list.c100002
      rw [br_neg (by omega)]; rfl) m m [] (Nat.le_refl m) hm (by have := bN_len m 12; simpa using this)
  rw [show ((m : Int), ([] : List Int)) = (fun m (t : List Int) => ((m : Int), t)) m [] from rfl, key, bnd_val, foldl_map]
  rfl
end W
end

section
set_option linter.unusedSectionVars false
set_option linter.unusedVariables false
set_option maxHeartbeats 1000000
namespace W
open Go.Ql
open Go hiding Op
def mid {α : Type} (g : α → α) (l : List α) (i : Nat) : List α := (l.take i).map g ++ l.drop i
theorem mid_len {α : Type} (g : α → α) (l : List α) (i : Nat) : (mid g l i).length = l.length := by
  simp only [mid, List.length_append, List.length_map, List.length_take, List.length_drop]; omega
theorem mid_get {α : Type} (g : α → α) (l : List α) {i : Nat} (h : i < l.length) : idx (mid g l i) (i : Int) = some l[i] := by
  rw [idx_at, mid, List.getElem?_append_right (by simp; omega), List.length_map, List.length_take, Nat.min_eq_left (by omega), Nat.sub_self, List.getElem?_drop, Nat.add_zero, List.getElem?_eq_getElem h]
theorem mid_set {α : Type} (g : α → α) (l : List α) {i : Nat} (h : i < l.length) : (mid g l i).set i (g l[i]) = mid g l (i + 1) := by
  rw [mid, mid, List.set_append_right _ _ (by simp; omega), List.length_map, List.length_take, Nat.min_eq_left (by omega), Nat.sub_self, List.drop_eq_getElem_cons h, List.set_cons_zero, List.take_succ_eq_append_getElem h, List.map_append, List.append_assoc]
  rfl
theorem mid_same {α : Type} (g : α → α) (l : List α) {i : Nat} (h : i < l.length) (e : g l[i] = l[i]) : mid g l i = mid g l (i + 1) := by
  rw [mid, mid, List.drop_eq_getElem_cons h, List.take_succ_eq_append_getElem h, List.map_append, List.append_assoc, List.map_singleton, e]
  rfl
def tog (b on y : Nat) : Nat := if y &&& on = on then y ^^^ 2 ^ b else y
def iL (l : List Nat) : List Int := l.map fun q : Nat => (q : Int)
theorem iL_len (l : List Nat) : (iL l).length = l.length := List.length_map _
theorem iL_get {l : List Nat} {i : Nat} (h : i < l.length) : idx (iL l) (i : Int) = some ((l[i] : Nat) : Int) := by
  rw [idx_at, iL, List.getElem?_map, List.getElem?_eq_getElem h]; rfl
def togOp (t : Nat × Nat) : Op := opF (t.1 : Int) (iL (bN t.2 12))
theorem togI_ok {b on : Nat} (hb : b < 6) (hon : on < 64) (rest : List Nat) (hr : ∀ y ∈ rest, y < 64) (hl : rest.length ≤ 64) :
    iter (fun s : Int × List Int => rev_Table_1.c100002 ((2 ^ b : Nat) : Int) (on : Int) ((iL rest).length : Int) (Prod.fst s) (Prod.snd s) some) ((0 : Int), iL rest) = some (((iL rest).length : Int), iL (rest.map (tog b on))) := by
  have hp : 2 ^ b ≤ 64 := Nat.pow_le_pow_right (n := 2) (by decide) (by omega : b ≤ 6)
  have hmid : ∀ i, iL (mid (tog b on) rest i) = mid (fun y : Int => ((tog b on y.toNat : Nat) : Int)) (iL rest) i := by
    intro i
    simp only [mid, iL, List.map_append, List.map_map, List.map_take, List.map_drop]
    rfl
  refine iter_count (iL rest).length (fun i => ((i : Int), iL (mid (tog b on) rest i))) _ ?_ ?_ (by simp [mid])
  · intro i hi
    show rev_Table_1.c100002 ((2 ^ b : Nat) : Int) (on : Int) ((iL rest).length : Int) (i : Int) (iL (mid (tog b on) rest i)) some = _
    have hi' : i < rest.length := by rwa [iL_len] at hi
    have hy := hr _ (List.getElem_mem hi')
    have hm : i < (mid (tog b on) rest i).length := by rw [mid_len]; exact hi'
    have hg : idx (iL (mid (tog b on) rest i)) (i : Int) = some ((rest[i] : Nat) : Int) := by
      have := mid_get (tog b on) rest hi'
      rw [idx_at, List.getElem?_eq_getElem hm] at this
      rw [iL_get hm, Option.some.inj this]
    have hin : inR (iL (mid (tog b on) rest i)).length (i : Int) = some () := by rw [iL_len]; exact inR_at hm
    unfold rev_Table_1.c100002 rev_Table_1.c212296
    have hset : (iL (mid (tog b on) rest i)).set i ((tog b on rest[i] : Nat) : Int) = iL (mid (tog b on) rest (i + 1)) := by
      rw [← mid_set (tog b on) rest hi', iL, iL, List.map_set]
    have e : (ibits BinOp.and IntKind.i64 ((rest[i] : Nat) : Int) (on : Int) == (on : Int)) = decide (rest[i] &&& on = on) := by
      rw [iandi64 (by omega) (by omega), Bool.eq_iff_iff, beq_iff_eq, decide_eq_true_eq]
      omega
    simp only [hg, hin, bnd_val, e, Int.toNat_natCast]
    rw [br_pos (by omega), wrap_i64 (by omega)]
    by_cases h : rest[i] &&& on = on
    · rw [br_pos h, bnd_val, ixori64 (by omega) (by omega), ← hset, tog, if_pos h]; rfl
    · rw [br_neg h, bnd_val, mid_same (tog b on) rest hi' (by rw [tog, if_neg h])]; rfl
  · show rev_Table_1.c100002 ((2 ^ b : Nat) : Int) (on : Int) ((iL rest).length : Int) ((iL rest).length : Int) _ some = _
    unfold rev_Table_1.c100002
    rw [br_neg (by omega), iL_len]
    simp [mid]
theorem toggle_ok {b on : Nat} (hb : b < 6) (hon : on < 64) (c0 c1 : Int) (ops : List Op) (ho : ops.length ≤ 100000) (rest : List Nat) (hr : ∀ y ∈ rest, y < 64) (hl : rest.length ≤ 64) :
    rev_Table_1 ((2 ^ b : Nat) : Int) (on : Int) c0 c1 ops (iL rest) = some (iL (rest.map (tog b on)), ops ++ [togOp (b, on)], c0, c1, ()) := by
  have hp : 2 ^ b ≤ 64 := Nat.pow_le_pow_right (n := 2) (by decide) (by omega : b ≤ 6)
  unfold rev_Table_1
  have h0 : rev_Table_1.c0 ((2 ^ b : Nat) : Int) (on : Int) ops some = some (ops ++ [togOp (b, on)]) := by
    unfold rev_Table_1.c0
    rw [tz_ok (by omega), bnd_val, list_ok (by omega), bnd_val, okOps ho, bnd_val, tz_pow (by omega)]
    rfl
  rw [h0, bnd_val]
  exact bnd_of (togI_ok hb hon rest hr hl) rfl
theorem tog_tog {b on : Nat} (h : on.testBit b = false) (y : Nat) : tog b on (tog b on y) = y := by
  have key : (y ^^^ 2 ^ b) &&& on = y &&& on := by
    apply Nat.eq_of_testBit_eq
    intro j
    rw [Nat.testBit_and, Nat.testBit_and, flip_bit]
    by_cases e : b = j
    · subst e; rw [h, Bool.and_false, Bool.and_false]
    · rw [decide_eq_false e, Bool.bne_false]
  unfold tog
  by_cases hy : y &&& on = on
  · rw [if_pos hy, key, if_pos hy, xor_xor]
  · rw [if_neg hy, if_neg hy]
theorem tog_lt {b on y n : Nat} (hb : b < n) (hy : y < 2 ^ n) : tog b on y < 2 ^ n := by
  unfold tog
  split
  · exact Nat.xor_lt_two_pow hy (Nat.pow_lt_pow_right (by decide) hb)
  · exact hy
theorem and_eq {y on : Nat} : y &&& on = on ↔ ∀ j, on.testBit j = true → y.testBit j = true := by
  constructor
  · intro h j hj
    have := congrArg (·.testBit j) h
    simp only [Nat.testBit_and, hj, Bool.and_true] at this
    exact this
  · intro h
    apply Nat.eq_of_testBit_eq
    intro j
    rw [Nat.testBit_and]
    cases ho : on.testBit j with
    | false => rw [Bool.and_false]
    | true => rw [h j ho]; rfl
theorem cnF_drop {f g : Nat → Bool} {b : Nat} (hf : f b = true) (hg : g b = false) (h : ∀ j, j ≠ b → f j = g j) : ∀ k, cnF f k = cnF g k + if b < k then 1 else 0
  | 0 => rfl
  | k + 1 => by
    have := cnF_drop hf hg h k
    rw [cnF, cnF, this]
    by_cases e : k = b
    · subst e
      rw [hf, hg, if_neg (Nat.lt_irrefl k), if_pos (Nat.lt_succ_self k)]
      simp
    · rw [h k e]
      by_cases hb : b < k
      · rw [if_pos hb, if_pos (by omega)]; omega
      · rw [if_neg hb, if_neg (by omega)]; omega
structure TabI (n : Nat) (p : List Nat) (i : Nat) (C : Nat) (T : List (Nat × Nat)) (R : List Nat) : Prop where
  rows : R = p.map fun y => T.foldl (fun y t => tog t.1 t.2 y) y
  len : R.length = 2 ^ n
  lt : ∀ y ∈ R, y < 2 ^ n
  nodup : R.Nodup
  below : ∀ j (h : j < R.length), j < i → R[j] = j
  good : ∀ t ∈ T, t.1 < n ∧ t.2 < 2 ^ n ∧ t.2.testBit t.1 = false
  cost : T.length ≤ C
theorem TabI.at_le {n : Nat} {p : List Nat} {i C : Nat} {T : List (Nat × Nat)} {R : List Nat} (t : TabI n p i C T R) (h : i < R.length) : i ≤ R[i] := by
  apply Nat.le_of_not_lt
  intro hl
  have hlt : R[i] < R.length := by omega
  have := t.below _ hlt hl
  have hn := List.pairwise_iff_getElem.1 t.nodup _ _ hlt h hl
  exact hn this
theorem TabI.step {n : Nat} {p : List Nat} {i C : Nat} {T : List (Nat × Nat)} {R : List Nat} (t : TabI n p i C T R) {b on : Nat} (hb : b < n) (hon : on < 2 ^ n) (h0 : on.testBit b = false) (hj : ∀ j, j < i → ¬ (j &&& on = on)) :
    TabI n p i (C + 1) (T ++ [(b, on)]) (R.map (tog b on)) where
  rows := by
    rw [t.rows, List.map_map]
    refine List.map_congr_left fun y _ => ?_
    simp only [List.foldl_append, List.foldl_cons, List.foldl_nil, Function.comp]
  len := by rw [List.length_map]; exact t.len
  lt y hy := by
    obtain ⟨z, hz, rfl⟩ := List.mem_map.1 hy
    exact tog_lt hb (t.lt z hz)
  nodup := by
    unfold List.Nodup
    rw [List.pairwise_map]
    refine t.nodup.imp fun {a c} h e => h ?_
    rw [← tog_tog h0 a, e, tog_tog h0]
  below j h hji := by
    rw [List.length_map] at h
    rw [List.getElem_map, t.below j h hji, tog, if_neg (hj j hji)]
  good s hs := by
    rcases List.mem_append.1 hs with hs | hs
    · exact t.good s hs
    · rw [List.mem_singleton.1 hs]; exact ⟨hb, hon, h0⟩
  cost := by rw [List.length_append, List.length_singleton]; have := t.cost; omega
end W
end

section
set_option linter.unusedSectionVars false
set_option linter.unusedVariables false
set_option maxHeartbeats 1000000
namespace W
open Go.Ql
open Go hiding Op
def off (n r i : Nat) : Nat := cnF (fun j => r.testBit j != i.testBit j) n
theorem off_drop {n r i b : Nat} (hb : b < n) (h : r.testBit b ≠ i.testBit b) : off n r i = off n (r ^^^ 2 ^ b) i + 1 := by
  unfold off
  rw [cnF_drop (f := fun j => r.testBit j != i.testBit j) (g := fun j => (r ^^^ 2 ^ b).testBit j != i.testBit j) (b := b) (by simpa using h) ?_ ?_ n, if_pos hb]
  · simp only [flip_bit, decide_true]
    cases hr : r.testBit b <;> cases hi : i.testBit b <;> simp_all
  · intro j hj
    simp only [flip_bit, decide_eq_false (Ne.symm hj), Bool.bne_false]
abbrev TS := Int × Int × Int × List Int × List Op
def tS (m : Nat) (c0 c1 : Int) (R : List Nat) (T : List (Nat × Nat)) : TS := ((m : Int), c0, c1, iL R, T.map togOp)
theorem TabI.ops {n : Nat} {p : List Nat} {i C : Nat} {T : List (Nat × Nat)} {R : List Nat} (t : TabI n p i C T R) (hC : C ≤ 100000) : (T.map togOp).length ≤ 100000 := by
  rw [List.length_map]; have := t.cost; omega
theorem getq {R : List Nat} {i r : Nat} (h : R[i]? = some r) : ∃ hi : i < R.length, R[i] = r := by
  have hi : i < R.length := by
    apply Nat.lt_of_not_le
    intro hle
    rw [List.getElem?_eq_none hle] at h; cases h
  rw [List.getElem?_eq_getElem hi] at h
  exact ⟨hi, Option.some.inj h⟩
section
variable {n : Nat} {p : List Nat} {i : Nat} (c0 c1 : Int)
theorem row_up (hn : n ≤ 6) (hi : i < 2 ^ n) : ∀ (k m C : Nat) (T : List (Nat × Nat)) (R : List Nat) (r : Nat), m ≤ k → m < 2 ^ n → TabI n p i C T R → R[i]? = some r → C + off n r i ≤ (i + 1) * n →
    (∀ j, m.testBit j = true → i.testBit j = true ∧ r.testBit j = false) → (∀ j, i.testBit j = true → r.testBit j = true ∨ m.testBit j = true) →
    ∃ C' T' R' r', iter (fun s : TS => rev_Table.c100018 (i : Int) (Prod.fst s) (Prod.fst (Prod.snd s)) (Prod.fst (Prod.snd (Prod.snd s))) (Prod.fst (Prod.snd (Prod.snd (Prod.snd s)))) (Prod.snd (Prod.snd (Prod.snd (Prod.snd s)))) some) (tS m c0 c1 R T) = some (tS 0 c0 c1 R' T') ∧
      TabI n p i C' T' R' ∧ R'[i]? = some r' ∧ C' + off n r' i ≤ (i + 1) * n ∧ (∀ j, i.testBit j = true → r'.testBit j = true) := by
  have h64 : 2 ^ n ≤ 64 := Nat.pow_le_pow_right (n := 2) (by decide) hn
  have hC64 : (i + 1) * n ≤ 64 * 6 := Nat.mul_le_mul (by omega) hn
  intro k
  induction k with
  | zero =>
    intro m C T R r hk hm ht hr hc a1 a2
    obtain rfl : m = 0 := by omega
    refine ⟨C, T, R, r, iter_inr ?_, ht, hr, hc, fun j hj => ?_⟩
    · show rev_Table.c100018 (i : Int) ((0 : Nat) : Int) c0 c1 (iL R) (T.map togOp) some = _
      unfold rev_Table.c100018
      rw [br_neg (by omega)]; rfl
    · rcases a2 j hj with h | h
      · exact h
      · rw [Nat.zero_testBit] at h; cases h
  | succ k ih =>
    intro m C T R r hk hm ht hr hc a1 a2
    by_cases h0 : m = 0
    · exact ih m C T R r (by omega) hm ht hr hc a1 a2
    have hm0 : 0 < m := by omega
    have h63 : m < 2 ^ 63 := by omega
    obtain ⟨hil, hri⟩ := getq hr
    have hrlt : r < 2 ^ n := hri ▸ ht.lt _ (List.getElem_mem hil)
    have hir : i ≤ r := hri ▸ ht.at_le hil
    have hl64 : R.length ≤ 64 := by rw [ht.len]; exact h64
    obtain ⟨b1, b2, b3⟩ := tz_bit hm0 h63
    have hbn := tz_lt hm0 h63 hm
    obtain ⟨ib, rb⟩ := a1 _ b2
    have hst := ht.step (b := tz m) (on := r) hbn hrlt rb fun j hj h => by
      have := sub_le (and_eq.1 h); omega
    have hr' : (R.map (tog (tz m) r))[i]? = some (r ^^^ 2 ^ tz m) := by
      rw [List.getElem?_map, hr]
      show some (tog (tz m) r r) = _
      rw [tog, if_pos (Nat.and_self r)]
    have hoff := off_drop (n := n) (r := r) (i := i) hbn (by rw [ib, rb]; decide)
    obtain ⟨C', T', R', r', e1, e2⟩ := ih (low m) (C + 1) _ _ _ (by have := low_lt hm0; omega) (Nat.lt_trans (low_lt hm0) hm) hst hr' (by omega)
      (fun j hj => by
        rw [b3, Bool.and_eq_true, decide_eq_true_eq] at hj
        obtain ⟨h1, h2⟩ := a1 j hj.1
        refine ⟨h1, ?_⟩
        rw [flip_bit, h2, decide_eq_false (Ne.symm hj.2)]; rfl)
      (fun j hj => by
        rw [flip_bit, b3]
        by_cases e : tz m = j
        · left; rw [← e, rb]; simp
        · rcases a2 j hj with h | h
          · left; rw [h, decide_eq_false e]; rfl
          · right; rw [h, decide_eq_true (Ne.symm e)]; rfl)
    refine ⟨C', T', R', r', iter_inl ?_ e1, e2⟩
    show rev_Table.c100018 (i : Int) (m : Int) c0 c1 (iL R) (T.map togOp) some = _
    unfold rev_Table.c100018
    rw [br_pos (by omega), and_neg hm0 h63, iL_len, inR_at hil, bnd_val, iL_get hil, bnd_val, hri, toggle_ok (by omega) (by omega) c0 c1 _ (ht.ops (by omega)) R (fun y hy => by have := ht.lt y hy; omega) hl64, bnd_val, and_low hm0 h63]
    simp only [tS, List.map_append, List.map_cons, List.map_nil]
theorem row_down (hn : n ≤ 6) (hi : i < 2 ^ n) : ∀ (k m C : Nat) (T : List (Nat × Nat)) (R : List Nat) (r : Nat), m ≤ k → m < 2 ^ n → TabI n p i C T R → R[i]? = some r → C + off n r i ≤ (i + 1) * n →
    (∀ j, m.testBit j = true → r.testBit j = true ∧ i.testBit j = false) → (∀ j, r.testBit j = true → i.testBit j = true ∨ m.testBit j = true) → (∀ j, i.testBit j = true → r.testBit j = true) →
    ∃ C' T' R', iter (fun s : TS => rev_Table.c100022 (i : Int) (Prod.fst s) (Prod.fst (Prod.snd s)) (Prod.fst (Prod.snd (Prod.snd s))) (Prod.fst (Prod.snd (Prod.snd (Prod.snd s)))) (Prod.snd (Prod.snd (Prod.snd (Prod.snd s)))) some) (tS m c0 c1 R T) = some (tS 0 c0 c1 R' T') ∧
      TabI n p i C' T' R' ∧ R'[i]? = some i ∧ C' ≤ (i + 1) * n := by
  have h64 : 2 ^ n ≤ 64 := Nat.pow_le_pow_right (n := 2) (by decide) hn
  have hC64 : (i + 1) * n ≤ 64 * 6 := Nat.mul_le_mul (by omega) hn
  intro k
  induction k with
  | zero =>
    intro m C T R r hk hm ht hr hc a1 a2 a3
    obtain rfl : m = 0 := by omega
    have : r = i := by
      apply Nat.eq_of_testBit_eq
      intro j
      cases hj : i.testBit j with
      | true => exact a3 j hj
      | false =>
        cases hrj : r.testBit j with
        | false => rfl
        | true =>
          rcases a2 j hrj with h | h
          · rw [hj] at h; cases h
          · rw [Nat.zero_testBit] at h; cases h
    subst this
    refine ⟨C, T, R, iter_inr ?_, ht, hr, by omega⟩
    show rev_Table.c100022 (r : Int) ((0 : Nat) : Int) c0 c1 (iL R) (T.map togOp) some = _
    unfold rev_Table.c100022
    rw [br_neg (by omega)]; rfl
  | succ k ih =>
    intro m C T R r hk hm ht hr hc a1 a2 a3
    by_cases h0 : m = 0
    · exact ih m C T R r (by omega) hm ht hr hc a1 a2 a3
    have hm0 : 0 < m := by omega
    have h63 : m < 2 ^ 63 := by omega
    obtain ⟨hil, hri⟩ := getq hr
    have hrlt : r < 2 ^ n := hri ▸ ht.lt _ (List.getElem_mem hil)
    have hl64 : R.length ≤ 64 := by rw [ht.len]; exact h64
    obtain ⟨b1, b2, b3⟩ := tz_bit hm0 h63
    have hbn := tz_lt hm0 h63 hm
    have hp : 2 ^ tz m ≤ 64 := Nat.pow_le_pow_right (n := 2) (by decide) (by omega : tz m ≤ 6)
    obtain ⟨rb, ib⟩ := a1 _ b2
    have hon (j : Nat) : (nand r (2 ^ tz m)).testBit j = (r.testBit j && decide (tz m ≠ j)) := by
      rw [nand_bit, Nat.testBit_two_pow, decide_not]
    have hst := ht.step (b := tz m) (on := nand r (2 ^ tz m)) hbn (nand_lt hrlt) (by rw [hon]; simp) fun j hj h => by
      have h1 := sub_le (and_eq.1 h)
      have h2 : i ≤ nand r (2 ^ tz m) := sub_le fun q hq => by
        rw [hon, a3 q hq, Bool.true_and, decide_eq_true_eq]
        intro e
        rw [← e, ib] at hq; cases hq
      omega
    have hr' : (R.map (tog (tz m) (nand r (2 ^ tz m))))[i]? = some (r ^^^ 2 ^ tz m) := by
      rw [List.getElem?_map, hr]
      show some (tog (tz m) (nand r (2 ^ tz m)) r) = _
      rw [tog, if_pos]
      rw [and_eq]
      intro j hj
      rw [hon, Bool.and_eq_true] at hj
      exact hj.1
    have hoff := off_drop (n := n) (r := r) (i := i) hbn (by rw [ib, rb]; decide)
    obtain ⟨C', T', R', e1, e2⟩ := ih (low m) (C + 1) _ _ _ (by have := low_lt hm0; omega) (Nat.lt_trans (low_lt hm0) hm) hst hr' (by omega)
      (fun j hj => by
        rw [b3, Bool.and_eq_true, decide_eq_true_eq] at hj
        obtain ⟨h1, h2⟩ := a1 j hj.1
        refine ⟨?_, h2⟩
        rw [flip_bit, h1, decide_eq_false (Ne.symm hj.2)]; rfl)
      (fun j hj => by
        rw [flip_bit] at hj
        rw [b3]
        by_cases e : tz m = j
        · rw [← e, rb] at hj; simp at hj
        · rw [decide_eq_false e, Bool.bne_false] at hj
          rcases a2 j hj with h | h
          · exact .inl h
          · right; rw [h, decide_eq_true (Ne.symm e)]; rfl)
      (fun j hj => by
        rw [flip_bit, a3 j hj, decide_eq_false]; rfl
        intro e
        rw [← e, ib] at hj; cases hj)
    refine ⟨C', T', R', iter_inl ?_ e1, e2⟩
    show rev_Table.c100022 (i : Int) (m : Int) c0 c1 (iL R) (T.map togOp) some = _
    unfold rev_Table.c100022
    rw [br_pos (by omega), and_neg hm0 h63, iL_len, inR_at hil, bnd_val, iL_get hil, bnd_val, hri, inandi64 (by omega) (by omega), toggle_ok (by omega) (by have := nand_le r (2 ^ tz m); omega) c0 c1 _ (ht.ops (by omega)) R (fun y hy => by have := ht.lt y hy; omega) hl64, bnd_val, and_low hm0 h63]
    simp only [tS, List.map_append, List.map_cons, List.map_nil]
theorem row_ok (hn : n ≤ 6) (hi : i < 2 ^ n) {C : Nat} {T : List (Nat × Nat)} {R : List Nat} (ht : TabI n p i C T R) (hC : C ≤ i * n) :
    ∃ C' T' R', rev_Table.c100015 ((iL p).length : Int) (i : Int) c0 c1 (iL R) (T.map togOp) some = (if (i : Int) < ((iL p).length : Int) then some (.inl (((i + 1 : Nat) : Int), c0, c1, iL R', T'.map togOp)) else some (.inr ((i : Int), c0, c1, iL R, T.map togOp))) ∧
      TabI n p (i + 1) C' T' R' ∧ C' ≤ (i + 1) * n := by
  have h64 : 2 ^ n ≤ 64 := Nat.pow_le_pow_right (n := 2) (by decide) hn
  have hil : i < R.length := by rw [ht.len]; exact hi
  have hr : R[i]? = some R[i] := List.getElem?_eq_getElem hil
  have hrlt := ht.lt _ (List.getElem_mem hil)
  have hoff : off n R[i] i ≤ n := cnF_le _ n
  have hmul : (i + 1) * n = i * n + n := Nat.succ_mul i n
  obtain ⟨C1, T1, R1, r1, e1, t1, g1, k1, a1⟩ := row_up c0 c1 hn hi _ (nand i R[i]) C T R R[i] (Nat.le_refl _) (nand_lt hi) ht hr (by omega)
    (fun j hj => by rw [nand_bit, Bool.and_eq_true, Bool.not_eq_true'] at hj; exact hj)
    (fun j hj => by rw [nand_bit, hj]; cases (R[i]).testBit j <;> simp)
  obtain ⟨hil1, hri1⟩ := getq g1
  have hrlt1 : r1 < 2 ^ n := hri1 ▸ t1.lt _ (List.getElem_mem hil1)
  obtain ⟨C2, T2, R2, e2, t2, g2, k2⟩ := row_down c0 c1 hn hi _ (nand r1 i) C1 T1 R1 r1 (Nat.le_refl _) (nand_lt hrlt1) t1 g1 k1
    (fun j hj => by rw [nand_bit, Bool.and_eq_true, Bool.not_eq_true'] at hj; exact hj)
    (fun j hj => by rw [nand_bit, hj]; cases i.testBit j <;> simp) a1
  refine ⟨C2, T2, R2, ?_, ⟨t2.rows, t2.len, t2.lt, t2.nodup, fun j h hji => ?_, t2.good, t2.cost⟩, k2⟩
  · unfold rev_Table.c100015
    by_cases hl : (i : Int) < ((iL p).length : Int)
    · rw [br_pos hl, if_pos hl, iL_len, inR_at hil, bnd_val, iL_get hil, bnd_val, inandi64 (by omega) (by omega)]
      refine bnd_of e1 ?_
      show bnd (inR (iL R1).length (i : Int)) _ = _
      rw [iL_len, inR_at hil1, bnd_val]
      show bnd (idx (iL R1) (i : Int)) _ = _
      rw [iL_get hil1, bnd_val, hri1, inandi64 (by omega) (by omega)]
      refine bnd_of e2 ?_
      rw [wrap_i64 (by omega)]
      rfl
    · rw [br_neg hl, if_neg hl]
  · by_cases e : j = i
    · subst e
      obtain ⟨h1, h2⟩ := getq g2
      exact h2
    · exact t2.below j h (by omega)
theorem rows_ok (hn : n ≤ 6) (hl : p.length = 2 ^ n) (hlt : ∀ y ∈ p, y < 2 ^ n) (hnd : p.Nodup) :
    ∃ C T R, iter (fun s : TS => rev_Table.c100015 ((iL p).length : Int) (Prod.fst s) (Prod.fst (Prod.snd s)) (Prod.fst (Prod.snd (Prod.snd s))) (Prod.fst (Prod.snd (Prod.snd (Prod.snd s)))) (Prod.snd (Prod.snd (Prod.snd (Prod.snd s)))) some) ((0 : Int), c0, c1, iL p, []) = some ((((2 ^ n : Nat) : Int), c0, c1, iL R, T.map togOp) : TS) ∧
      TabI n p (2 ^ n) C T R ∧ C ≤ 2 ^ n * n := by
  have key : ∃ r, iter (fun s : TS => rev_Table.c100015 ((iL p).length : Int) (Prod.fst s) (Prod.fst (Prod.snd s)) (Prod.fst (Prod.snd (Prod.snd s))) (Prod.fst (Prod.snd (Prod.snd (Prod.snd s)))) (Prod.snd (Prod.snd (Prod.snd (Prod.snd s)))) some) ((0 : Int), c0, c1, iL p, []) = some r ∧
      ∃ C T R, r = ((((2 ^ n : Nat) : Int), c0, c1, iL R, T.map togOp) : TS) ∧ TabI n p (2 ^ n) C T R ∧ C ≤ 2 ^ n * n := by
    refine iter_upto (2 ^ n) (fun i (s : TS) => ∃ C T R, s = (((i : Int), c0, c1, iL R, T.map togOp) : TS) ∧ TabI n p i C T R ∧ C ≤ i * n) _ ?_ ?_ ⟨0, [], p, rfl, ⟨by simp, hl, hlt, hnd, fun j h h' => absurd h' (Nat.not_lt_zero _), (fun t h => nomatch h), Nat.le_refl _⟩, by omega⟩
    · rintro i s hi ⟨C, T, R, rfl, ht, hC⟩
      obtain ⟨C', T', R', e, ht', hC'⟩ := row_ok c0 c1 hn hi ht hC
      rw [if_pos (by rw [iL_len, hl]; omega)] at e
      exact .inl ⟨_, e, C', T', R', rfl, ht', hC'⟩
    · rintro s ⟨C, T, R, rfl, ht, hC⟩
      refine ⟨(((2 ^ n : Nat) : Int), c0, c1, iL R, T.map togOp), ?_, C, T, R, rfl, ht, hC⟩
      show rev_Table.c100015 ((iL p).length : Int) ((2 ^ n : Nat) : Int) c0 c1 (iL R) (T.map togOp) some = _
      unfold rev_Table.c100015
      rw [br_neg (by rw [iL_len, hl]; omega)]
  obtain ⟨r, h1, C, T, R, rfl, h2, h3⟩ := key
  exact ⟨C, T, R, h1, h2, h3⟩
end
end W
end

section
set_option linter.unusedSectionVars false
set_option linter.unusedVariables false
set_option maxHeartbeats 1000000
namespace W
open Go.Ql
open Go hiding Op
def tabN (len : Nat) : Option Nat := if len = 2 then some 1 else if len = 4 then some 2 else if len = 8 then some 3 else if len = 16 then some 4 else if len = 32 then some 5 else if len = 64 then some 6 else none
theorem tabN_some {len n : Nat} : tabN len = some n ↔ (1 ≤ n ∧ n ≤ 6) ∧ len = 2 ^ n := by
  constructor
  · intro h
    unfold tabN at h
    by_cases h1 : len = 2
    · subst h1; cases h; decide
    rw [if_neg h1] at h
    by_cases h1 : len = 4
    · subst h1; cases h; decide
    rw [if_neg h1] at h
    by_cases h1 : len = 8
    · subst h1; cases h; decide
    rw [if_neg h1] at h
    by_cases h1 : len = 16
    · subst h1; cases h; decide
    rw [if_neg h1] at h
    by_cases h1 : len = 32
    · subst h1; cases h; decide
    rw [if_neg h1] at h
    by_cases h1 : len = 64
    · subst h1; cases h; decide
    rw [if_neg h1] at h; cases h
  · rintro ⟨h, rfl⟩
    have : n = 1 ∨ n = 2 ∨ n = 3 ∨ n = 4 ∨ n = 5 ∨ n = 6 := by omega
    rcases this with rfl | rfl | rfl | rfl | rfl | rfl <;> decide
theorem tabN_none {len : Nat} : tabN len = none ↔ ∀ n, 1 ≤ n → n ≤ 6 → len ≠ 2 ^ n := by
  constructor
  · intro h n h1 h2 e
    rw [tabN_some.2 ⟨⟨h1, h2⟩, e⟩] at h; cases h
  · intro h
    cases ht : tabN len with
    | none => rfl
    | some n => obtain ⟨⟨h1, h2⟩, h3⟩ := tabN_some.1 ht; exact absurd h3 (h n h1 h2)
theorem pow_7 {i : Nat} (h : i ≤ 12) : IntKind.i64.wrap ((1 : Int) * (2 : Int) ^ Min.min (Int.toNat (i : Int)) (64 : Nat)) = ((2 ^ i : Nat) : Int) := by
  have := pow_12 (q := (i : Int)) ⟨by omega, by omega⟩
  rwa [Int.toNat_natCast] at this ⊢
theorem rsize_ok (p : List Int) : iter (fun s => R_CheckTable.c100002 p s some) (1 : Int) = some (match tabN p.length with | some n => (n : Int) | none => 7) := by
  have hstep : ∀ k : Nat, R_CheckTable.c100002 p (k : Int) some = if (k : Int) < 7 ∧ p.length ≠ 2 ^ k then some (.inl ((k + 1 : Nat) : Int)) else some (.inr (k : Int)) := by
    intro k
    unfold R_CheckTable.c100002
    have hc : R_CheckTable.c2 p (k : Int) some = some (decide ((k : Int) < 7 ∧ p.length ≠ 2 ^ k)) := by
      unfold R_CheckTable.c2
      by_cases h : (k : Int) < 7
      · rw [br_pos h, ok0, bnd_val, pow_7 (by omega)]
        refine some_dec ?_
        simp only [bne_iff_ne, h, true_and]
        omega
      · rw [br_neg h, decide_eq_false (fun h' => h h'.1)]
    rw [hc, bnd_val]
    by_cases h : (k : Int) < 7 ∧ p.length ≠ 2 ^ k
    · rw [br_pos h, if_pos h, wrap_i64 (by omega)]; rfl
    · rw [br_neg h, if_neg h]
  have go : ∀ (k m : Nat), k + m = 7 → 1 ≤ m → (∀ j, 1 ≤ j → j < m → p.length ≠ 2 ^ j) → iter (fun s => R_CheckTable.c100002 p s some) (m : Int) = some (match tabN p.length with | some n => (n : Int) | none => 7) := by
    intro k
    induction k with
    | zero =>
      intro m h1 h2 h3
      have h7 : m = 7 := by omega
      subst h7
      rw [tabN_none.2 fun n a b => h3 n a (by omega)]
      exact iter_inr (by rw [hstep, if_neg (by omega)]; rfl)
    | succ k ih =>
      intro m h1 h2 h3
      by_cases h : p.length = 2 ^ m
      · rw [tabN_some.2 ⟨⟨h2, by omega⟩, h⟩]
        exact iter_inr (by rw [hstep, if_neg (by simp [h])])
      · refine iter_inl ?_ (ih (m + 1) (by omega) (by omega) fun j a b => ?_)
        · show R_CheckTable.c100002 p (m : Int) some = _
          rw [hstep, if_pos ⟨by omega, h⟩]
        · by_cases e : j = m
          · subst e; exact h
          · exact h3 j a (by omega)
  exact go 6 1 rfl (Nat.le_refl 1) fun j a b => by omega
theorem vsize_ok (p : List Int) (hp : p.length < 4611686018427387904) : ∃ y : Int, bits_Len (IntKind.u64.wrap (p.length : Int)) = some y ∧
    rev_Table.c2 p (IntKind.i64.wrap (y - 1)) some = some (decide (tabN p.length = none)) ∧ ∀ n : Nat, tabN p.length = some n → IntKind.i64.wrap (y - 1) = (n : Int) := by
  have hs : Go.Lib.bitLen p.length ≤ 64 ∧ (∀ n, p.length = 2 ^ n → n < 64 → Go.Lib.bitLen p.length = n + 1) := by
    constructor
    · exact Go.Lib.bitLenAux_le 64 p.length 64 (by omega)
    · intro n e hn
      have hb := Go.Lib.bitLenAux_bounds 64 p.length (by omega) (by rw [e]; exact Nat.ne_of_gt (Nat.two_pow_pos n))
      have hb1 : 2 ^ (Go.Lib.bitLen p.length - 1) ≤ 2 ^ n := e ▸ hb.2.1
      have hb2 : 2 ^ n < 2 ^ Go.Lib.bitLen p.length := e ▸ hb.2.2
      have h1 := (Nat.pow_le_pow_iff_right (by decide : 1 < 2)).1 hb1
      have h2 := (Nat.pow_lt_pow_iff_right (by decide : 1 < 2)).1 hb2
      omega
  have hbl : bits_Len (IntKind.u64.wrap (p.length : Int)) = some ((Go.Lib.bitLen p.length : Nat) : Int) := by
    rw [wrap_u64 (by omega), bits_Len.is, decide_eq_true (by omega), decide_eq_true (by omega), Int.toNat_natCast]
    rfl
  refine ⟨_, hbl, ?_, fun n hn => ?_⟩
  · rw [wrap_i64 (by omega)]
    unfold rev_Table.c2
    by_cases h0 : Go.Lib.bitLen p.length < 2
    · rw [br_pos (by omega)]
      refine some_dec ?_
      simp only [true_iff]
      rw [tabN_none]
      intro n h1 h2 e
      have := hs.2 n e (by omega)
      omega
    rw [br_neg (by omega)]
    by_cases h6 : 7 < Go.Lib.bitLen p.length
    · rw [br_pos (by omega)]
      refine some_dec ?_
      simp only [true_iff]
      rw [tabN_none]
      intro n h1 h2 e
      have := hs.2 n e (by omega)
      omega
    rw [br_neg (by omega)]
    obtain ⟨k, hk⟩ : ∃ k, Go.Lib.bitLen p.length = k + 1 := ⟨Go.Lib.bitLen p.length - 1, by omega⟩
    rw [hk, show (((k + 1 : Nat) : Int) - 1) = (k : Int) by omega, ok0, bnd_val, pow_7 (by omega)]
    refine some_dec ?_
    rw [bne_iff_ne, tabN_none]
    constructor
    · intro h n h1 h2 e
      have h3 := hs.2 n e (by omega)
      have : n = k := by omega
      subst this
      exact h (by rw [e])
    · intro h e
      exact h k (by omega) (by omega) (by omega)
  · obtain ⟨h1, h2⟩ := tabN_some.1 hn
    rw [hs.2 n h2 (by omega), wrap_i64 (by omega)]
    omega
def badRow (p : List Int) (i : Nat) : Bool := decide (p.getD i 0 < 0 ∨ (p.length : Int) ≤ p.getD i 0 ∨ p.getD i 0 ∈ p.take i)
theorem getD_at {p : List Int} {i : Nat} (h : i < p.length) : p.getD i 0 = p[i] := by
  rw [List.getD_eq_getElem?_getD, List.getElem?_eq_getElem h]; rfl
theorem bit_u {x i : Nat} (hx : x < 2 ^ 64) (h : i ≤ 64) : ibits BinOp.and IntKind.u64 (Int.fdiv (x : Int) ((2 : Int) ^ Min.min (Int.toNat (i : Int)) (64 : Nat))) (1 : Int) = bI (x.testBit i) := by
  have h1 : Int.fdiv (x : Int) ((2 : Int) ^ Min.min (Int.toNat (i : Int)) (64 : Nat)) = ((x / 2 ^ i : Nat) : Int) := by
    rw [Int.toNat_natCast, Nat.min_eq_left (by omega), Int.fdiv_eq_ediv_of_nonneg _ (by have : (0 : Int) ≤ ((2 ^ i : Nat) : Int) := Int.natCast_nonneg _; simpa using this)]
    norm_cast
  have h2 := iand64 (a := x / 2 ^ i) (b := 1) (Nat.lt_of_le_of_lt (Nat.div_le_self _ _) hx) (by decide)
  rw [show ((1 : Nat) : Int) = 1 from rfl] at h2
  rw [h1, h2]
  have h3 : x / 2 ^ i &&& 1 = x / 2 ^ i % 2 := Nat.and_one_is_mod _
  rw [h3, bI, Nat.testBit, Nat.shiftRight_eq_div_pow, Nat.and_comm 1, h3]
  have : x / 2 ^ i % 2 = 0 ∨ x / 2 ^ i % 2 = 1 := by omega
  rcases this with h | h <;> rw [h] <;> rfl
theorem pow_u {q : Nat} (h : q < 64) : IntKind.u64.wrap ((1 : Int) * (2 : Int) ^ Min.min (Int.toNat (q : Int)) (64 : Nat)) = ((2 ^ q : Nat) : Int) := by
  have hp : 2 ^ q < 2 ^ 64 := Nat.pow_lt_pow_right (by decide) h
  rw [Int.toNat_natCast, Nat.min_eq_left (by omega), Int.one_mul, show (2 : Int) ^ q = ((2 ^ q : Nat) : Int) by norm_cast]
  generalize 2 ^ q = z at hp
  exact wrap_u64 (by omega)
theorem om_lt64 : ∀ (l : List Int) (a : Nat), a < 2 ^ 64 → (∀ q ∈ l, q.toNat < 64) → om a l < 2 ^ 64 := fun l a h hl => om_lt l a h hl
theorem take_get {p : List Int} {i : Nat} (h : i < p.length) : p.take (i + 1) = p.take i ++ [p.getD i 0] := by
  rw [List.take_succ_eq_append_getElem h, getD_at h]
theorem vcheck_ok (p : List Int) (hp : p.length ≤ 64) :
    (∃ i e, fstF (badRow p) 0 p.length = some i ∧ iter (fun s : Int × Int => rev_Table.c100006 p (Prod.fst s) p (p.length : Int) (Prod.snd s) some) ((0 : Int), (0 : Int)) = some (.inl e) ∧ e.2.2 = ((24 : Int), (i : Int))) ∨
    ∃ r, fstF (badRow p) 0 p.length = none ∧ iter (fun s : Int × Int => rev_Table.c100006 p (Prod.fst s) p (p.length : Int) (Prod.snd s) some) ((0 : Int), (0 : Int)) = some (.inr r) ∧ True := by
  have hc (i : Nat) (hi : i < p.length) (hg : ∀ q ∈ p.take i, 0 ≤ q ∧ q < (p.length : Int)) : rev_Table.c8 p (om 0 (p.take i) : Int) (p.getD i 0) some = some (badRow p i) := by
    unfold rev_Table.c8 badRow
    generalize p.getD i 0 = y
    by_cases h0 : y < 0
    · rw [br_pos h0, decide_eq_true (.inl h0)]
    by_cases h1 : y ≥ (p.length : Int)
    · rw [br_neg h0, br_pos h1, decide_eq_true (.inr (.inl h1))]
    obtain ⟨z, rfl⟩ := Int.eq_ofNat_of_zero_le (by omega : 0 ≤ y)
    rw [br_neg h0, br_neg h1, ok0, bnd_val, bit_u (om_lt64 _ 0 (by decide) fun q hq => by have := hg q hq; omega) (by omega), bI_one, om_bit, Nat.zero_testBit, Bool.false_or]
    refine some_dec ?_
    rw [List.any_eq_true]
    constructor
    · rintro ⟨q, hq, e⟩
      have := hg q hq
      have e := of_decide_eq_true e
      right; right
      rw [show (z : Int) = q by omega]; exact hq
    · rintro (h | h | h)
      · exact absurd h h0
      · exact absurd h h1
      · exact ⟨_, h, decide_eq_true (by rw [Int.toNat_natCast])⟩
  refine iter_first (P := fun i (s : Int × Int) => s = ((om 0 (p.take i) : Int), (i : Int)) ∧ ∀ q ∈ p.take i, 0 ≤ q ∧ q < (p.length : Int)) p.length (badRow p) ?_ ?_ ?_ ⟨rfl, fun q h => by simp at h⟩
  · rintro i s hi ⟨rfl, hg⟩ hb
    refine ⟨((om 0 (p.take i) : Int), (i : Int), 24, (i : Int)), ?_, rfl⟩
    show rev_Table.c100006 p (om 0 (p.take i) : Int) p (p.length : Int) (i : Int) some = _
    have h8 := hc i hi hg
    rw [getD_at hi] at h8
    unfold rev_Table.c100006
    rw [br_pos (by omega), idx_get hi, bnd_val, h8, bnd_val, br_true hb]
    rfl
  · rintro i s hi ⟨rfl, hg⟩ hb
    have h8 := hc i hi hg
    have hb2 : ¬ (p.getD i 0 < 0 ∨ (p.length : Int) ≤ p.getD i 0 ∨ p.getD i 0 ∈ p.take i) := of_decide_eq_false hb
    refine ⟨((om 0 (p.take (i + 1)) : Int), ((i + 1 : Nat) : Int)), ?_, rfl, fun q hq => ?_⟩
    · show rev_Table.c100006 p (om 0 (p.take i) : Int) p (p.length : Int) (i : Int) some = _
      rw [take_get hi, om_snoc]
      rw [getD_at hi] at h8 hb2 ⊢
      have ho := om_lt64 (p.take i) 0 (by decide) fun q hq => by have := hg q hq; omega
      obtain ⟨z, hz⟩ := Int.eq_ofNat_of_zero_le (by omega : 0 ≤ p[i])
      have hp2 : 2 ^ z < 2 ^ 64 := Nat.pow_lt_pow_right (by decide) (by omega)
      unfold rev_Table.c100006
      rw [br_pos (by omega), idx_get hi, bnd_val, h8, bnd_val, br_false hb, okIf_true (decide_eq_true (by omega)), bnd_val, hz, pow_u (by omega), ior64 ho hp2, wrap_i64 (by omega), Int.toNat_natCast]
      rfl
    · rw [take_get hi] at hq
      rcases List.mem_append.1 hq with hq | hq
      · exact hg q hq
      · rw [List.mem_singleton.1 hq]; omega
  · rintro s ⟨rfl, hg⟩
    refine ⟨((om 0 (p.take p.length) : Int), (p.length : Int)), ?_, trivial⟩
    show rev_Table.c100006 p (om 0 (p.take p.length) : Int) p (p.length : Int) (p.length : Int) some = _
    unfold rev_Table.c100006
    rw [br_neg (by omega)]
theorem rcheck2_ok (p : List Int) (hp : p.length ≤ 64) :
    (∃ i e, fstF (badRow p) 0 p.length = some i ∧ iter (fun s : Int => R_CheckTable.c100007 p s some) (0 : Int) = some (.inl e) ∧ e.2 = ((24 : Int), (i : Int))) ∨
    ∃ r, fstF (badRow p) 0 p.length = none ∧ iter (fun s : Int => R_CheckTable.c100007 p s some) (0 : Int) = some (.inr r) ∧ True := by
  have hc (i : Nat) (hi : i < p.length) : R_CheckTable.c9 p (i : Int) some = some (badRow p i) := by
    unfold R_CheckTable.c9 badRow
    simp only [idx_get hi, bnd_val]
    rw [getD_at hi]
    by_cases h0 : p[i] < 0
    · rw [br_pos h0, decide_eq_true (.inl h0)]
    by_cases h1 : p[i] ≥ (p.length : Int)
    · rw [br_neg h0, br_pos h1, decide_eq_true (.inr (.inl h1))]
    rw [br_neg h0, br_neg h1, okIf_true (by simp; omega), bnd_val, Int.toNat_natCast, member_ok _ _ (by rw [List.length_take]; omega), bnd_val]
    refine congrArg some (decide_eq_decide.2 ?_)
    constructor
    · exact fun h => .inr (.inr h)
    · rintro (h | h | h)
      · exact absurd h h0
      · exact absurd h h1
      · exact h
  refine iter_first (P := fun i (s : Int) => s = (i : Int)) p.length (badRow p) ?_ ?_ ?_ rfl
  · rintro i s hi rfl hb
    refine ⟨((i : Int), 24, (i : Int)), ?_, rfl⟩
    unfold R_CheckTable.c100007
    rw [br_pos (by omega), hc i hi, bnd_val, br_true hb]
    rfl
  · rintro i s hi rfl hb
    refine ⟨((i + 1 : Nat) : Int), ?_, rfl⟩
    unfold R_CheckTable.c100007
    rw [br_pos (by omega), hc i hi, bnd_val, br_false hb, wrap_i64 (by omega)]
    rfl
  · rintro s rfl
    refine ⟨(p.length : Int), ?_, trivial⟩
    unfold R_CheckTable.c100007
    rw [br_neg (by omega)]
def ckTab (p : List Int) : Int × Int × Int := match tabN p.length with
  | none => (0, 25, 0)
  | some n => match fstF (badRow p) 0 p.length with
    | some i => (0, 24, (i : Int))
    | none => ((n : Int), 0, 0)
theorem R_CheckTable_ok (p : List Int) : R_CheckTable p = some (ckTab p) := by
  unfold R_CheckTable ckTab
  rw [rsize_ok, bnd_val]
  cases ht : tabN p.length with
  | none => rfl
  | some n =>
    obtain ⟨h1, h2⟩ := tabN_some.1 ht
    have h64 : 2 ^ n ≤ 2 ^ 6 := Nat.pow_le_pow_right (by decide) h1.2
    rw [br_false (by simp; omega)]
    rcases rcheck2_ok p (by omega) with ⟨i, e, e1, e2, e3⟩ | ⟨r, e1, e2, _⟩
    · rw [e1, e2, bnd_val, sel_inl]
      simp only [e3]
    · rw [e1, e2, bnd_val, sel_inr]
theorem perm_of {p : List Int} (h : fstF (badRow p) 0 p.length = none) : ∃ l : List Nat, p = iL l ∧ (∀ y ∈ l, y < p.length) ∧ l.Nodup ∧ l.length = p.length := by
  have hb (i : Nat) (hi : i < p.length) : ¬ (p[i] < 0 ∨ (p.length : Int) ≤ p[i] ∨ p[i] ∈ p.take i) := by
    have := of_decide_eq_false (fstF_none.1 h i (Nat.zero_le i) (by omega))
    rwa [getD_at hi] at this
  have h0 : p = iL (p.map Int.toNat) := by
    rw [iL, List.map_map]
    refine (List.map_id p).symm.trans (List.map_congr_left fun a ha => ?_)
    obtain ⟨i, hi, rfl⟩ := List.getElem_of_mem ha
    have := hb i hi
    simp only [id, Function.comp]
    omega
  refine ⟨p.map Int.toNat, h0, fun y hy => ?_, ?_, List.length_map _⟩
  · obtain ⟨a, ha, rfl⟩ := List.mem_map.1 hy
    obtain ⟨i, hi, rfl⟩ := List.getElem_of_mem ha
    have := hb i hi
    omega
  · unfold List.Nodup
    rw [List.pairwise_map, List.pairwise_iff_getElem]
    intro i j hi hj hij e
    have h1 := hb i hi
    have h2 := hb j hj
    refine h2 (.inr (.inr ?_))
    rw [show p[j] = p[i] by omega, List.mem_take_iff_getElem]
    exact ⟨i, by omega, rfl⟩
def tabC (n : Nat) (T : List (Nat × Nat)) : Cir := ((n : Int), 0, (T.map togOp).reverse)
theorem rev_Table_ok (p : List Int) (hp : p.length < 4611686018427387904) :
    ((ckTab p).2.1 ≠ 0 ∧ rev_Table p = some ((0, 0, []), (ckTab p).2)) ∨
    ∃ (n : Nat) (l : List Nat) (C : Nat) (T : List (Nat × Nat)) (R : List Nat), (1 ≤ n ∧ n ≤ 6) ∧ p = iL l ∧ p.length = 2 ^ n ∧ ckTab p = ((n : Int), 0, 0) ∧ TabI n l (2 ^ n) C T R ∧ C ≤ 2 ^ n * n ∧ rev_Table p = some (tabC n T, 0, 0) := by
  obtain ⟨y, h1, h2, h3⟩ := vsize_ok p hp
  unfold rev_Table
  rw [h1, bnd_val, h2, bnd_val]
  cases ht : tabN p.length with
  | none =>
    refine .inl ⟨?_, ?_⟩
    · unfold ckTab; rw [ht]; show (25 : Int) ≠ 0; decide
    · rw [br_pos rfl]
      unfold ckTab; rw [ht]; rfl
  | some n =>
    obtain ⟨hn, hl⟩ := tabN_some.1 ht
    have h64 : 2 ^ n ≤ 2 ^ 6 := Nat.pow_le_pow_right (by decide) hn.2
    rw [br_neg (by simp), h3 n ht]
    rcases vcheck_ok p (by omega) with ⟨i, e, e1, e2, e3⟩ | ⟨r, e1, e2, _⟩
    · refine .inl ⟨?_, ?_⟩
      · unfold ckTab; rw [ht, e1]; show (24 : Int) ≠ 0; decide
      · rw [e2, bnd_val, sel_inl]
        unfold ckTab; rw [ht, e1]
        simp only [e3]
    · obtain ⟨l, rfl, l1, l2, l3⟩ := perm_of e1
      rw [iL_len] at hl
      obtain ⟨C, T, R, r1, r2, r3⟩ := rows_ok (n : Int) 0 hn.2 hl (fun y hy => by have := l1 y hy; rw [iL_len] at this; omega) l2
      refine .inr ⟨n, l, C, T, R, hn, rfl, by rw [iL_len]; exact hl, ?_, r2, r3, ?_⟩
      · unfold ckTab; rw [ht, e1]
      · rw [e2, bnd_val, sel_inr]
        have hcl : slices_Clone_int__own (iL l) = some (iL l, ()) := by
          unfold slices_Clone_int__own
          have ok : okIf (decide (((0 : Nat) + (iL l).length) * (8 : Nat) ≤ (140737488355328 : Nat)) && decide ((0 : Nat) + (iL l).length ≤ (140737488355328 : Nat))) = some () := okIf_len (by rw [iL_len]; omega)
          rw [ok, br_false]
          · rfl
          · cases hll : iL l with
            | nil =>
              have := iL_len l
              rw [hll] at this
              have h2 : 0 < 2 ^ n := Nat.two_pow_pos n
              simp only [List.length_nil] at this
              omega
            | cons a r => rfl
        refine bnd_of hcl (bnd_of r1 ?_)
        have hC : 2 ^ n * n ≤ 64 * 6 := Nat.mul_le_mul h64 hn.2
        refine bnd_of (reverse_ok (T.map togOp) (by have := r2.ops (by omega); omega)) ?_
        rfl
theorem bN_bits {on y : Nat} (h : on < 2 ^ 12) : allB y (iL (bN on 12)) = decide (y &&& on = on) := by
  unfold allB iL
  rw [Bool.eq_iff_iff, decide_eq_true_eq, and_eq, List.all_eq_true]
  constructor
  · intro hall j hj
    have hlt : j < 12 := by
      apply Nat.lt_of_not_le
      intro hle
      rw [Nat.testBit_lt_two_pow (Nat.lt_of_lt_of_le h (Nat.pow_le_pow_right (by decide) hle))] at hj; cases hj
    have := hall (j : Int) (List.mem_map.2 ⟨j, bN_mem.2 ⟨hlt, hj⟩, rfl⟩)
    rwa [Int.toNat_natCast] at this
  · intro hall q hq
    obtain ⟨j, hj, rfl⟩ := List.mem_map.1 hq
    rw [Int.toNat_natCast]
    exact hall j (bN_mem.1 hj).2
theorem stepX_tog {t : Nat × Nat} (h : t.2 < 2 ^ 12) (y : Nat) : stepX (togOp t) y = tog t.1 t.2 y := by
  have hb := bN_bits (y := y) h
  unfold stepX
  show (if allB y (iL (bN t.2 12)) = true then y ^^^ 2 ^ (Int.toNat (t.1 : Int)) else y) = _
  rw [hb, Int.toNat_natCast, tog]
  simp only [decide_eq_true_eq]
theorem run_back : ∀ (T : List (Nat × Nat)), (∀ t ∈ T, t.2 < 2 ^ 12 ∧ t.2.testBit t.1 = false) → ∀ y, runX (T.map togOp).reverse (T.foldl (fun y t => tog t.1 t.2 y) y) = y
  | [], _, _ => rfl
  | t :: T, h, y => by
    have ht := h t (List.mem_cons_self ..)
    have ih := run_back T (fun s hs => h s (List.mem_cons_of_mem _ hs)) (tog t.1 t.2 y)
    rw [List.map_cons, List.reverse_cons, List.foldl_cons, runX, List.foldl_append]
    rw [runX] at ih
    rw [ih, List.foldl_cons, List.foldl_nil, stepX_tog ht.1, tog_tog ht.2]
theorem tabC_good {n : Nat} (hn : 1 ≤ n ∧ n ≤ 6) {p : List Nat} {i C : Nat} {T : List (Nat × Nat)} {R : List Nat} (t : TabI n p i C T R) (hC : C ≤ 2 ^ n * n) : GoodC (tabC n T) where
  q := ⟨by show (1 : Int) ≤ (n : Int); omega, by show (n : Int) ≤ 12; omega⟩
  b := by show (0 : Int) ≤ 0 ∧ (0 : Int) ≤ 12; decide
  n := by
    show ((T.map togOp).reverse).length ≤ 4096
    have h64 : 2 ^ n ≤ 2 ^ 6 := Nat.pow_le_pow_right (by decide) hn.2
    have hC2 : 2 ^ n * n ≤ 2 ^ 6 * 6 := Nat.mul_le_mul h64 hn.2
    have := t.cost
    rw [List.length_reverse, List.length_map]; omega
  ops o ho := by
    obtain ⟨s, hs, rfl⟩ := List.mem_map.1 (List.mem_reverse.1 ho)
    obtain ⟨g1, g2, g3⟩ := t.good s hs
    refine opF_bad ⟨by omega, by show (s.1 : Int) < (n : Int); omega⟩ (fun c hc => ?_) ?_
    · obtain ⟨j, hj, rfl⟩ := List.mem_map.1 hc
      have hj := (bN_mem.1 hj).2
      have hlt : j < n := by
        apply Nat.lt_of_not_le
        intro hle
        rw [Nat.testBit_lt_two_pow (Nat.lt_of_lt_of_le g2 (Nat.pow_le_pow_right (by decide) hle))] at hj; cases hj
      refine ⟨by omega, by show (j : Int) < (n : Int); omega, fun e => ?_⟩
      rw [show j = s.1 by omega, g3] at hj; cases hj
    · unfold List.Nodup iL
      rw [List.pairwise_map]
      exact (bN_inc s.2 12).imp fun h e => by omega
theorem tabC_X (n : Nat) (T : List (Nat × Nat)) : Xs (tabC n T).2.2 := fun o ho => by
  obtain ⟨s, hs, rfl⟩ := List.mem_map.1 (List.mem_reverse.1 ho)
  exact ⟨rfl, rfl⟩
theorem tabC_run {n : Nat} (hn : 1 ≤ n ∧ n ≤ 6) {p : List Nat} {C : Nat} {T : List (Nat × Nat)} {R : List Nat} (t : TabI n p (2 ^ n) C T R) (hl : p.length = 2 ^ n) {x : Nat} (hx : x < p.length) : runX (tabC n T).2.2 x = p[x] := by
  have h6 : 2 ^ n ≤ 2 ^ 12 := Nat.pow_le_pow_right (by decide) (by omega)
  have hxR : x < R.length := by rw [t.len]; omega
  have e := t.below x hxR (by omega)
  have e2 : T.foldl (fun y t => tog t.1 t.2 y) p[x] = x := by
    have := t.rows
    subst this
    rwa [List.getElem_map] at e
  have := run_back T (fun s hs => by have := t.good s hs; exact ⟨by omega, this.2.2⟩) p[x]
  rw [e2] at this
  exact this
end W
end

section
set_option linter.unusedSectionVars false
set_option linter.unusedVariables false
set_option maxHeartbeats 1000000
namespace W
open Go.Ql
open Go hiding Op
theorem x_ok (q : Int) (ctl : List Int) (sp : Int) (ops : List Op) (h : ops.length ≤ 100000) : rev_builder_x q ctl sp ops = some (ops ++ [opF q ctl], sp, ()) := by
  unfold rev_builder_x
  rw [okOps h]
  rfl
def gOps (m : Nat) (one : Bool) (into : Nat) : List Op := (bN (nand m (2 ^ into)) 12).map (fun q : Nat => opF (into : Int) [(q : Int)]) ++ (if one = true then [opF (into : Int) []] else [])
theorem gOps_len (m : Nat) (one : Bool) (into : Nat) : (gOps m one into).length ≤ 13 := by
  have := bN_len (nand m (2 ^ into)) 12
  unfold gOps
  rw [List.length_append, List.length_map]
  cases one <;> simp <;> omega
theorem gather_ok {m into : Nat} (hm : m < 2 ^ 12) (hi : into < 12) (one : Bool) (sp : Int) (ops : List Op) (h : ops.length ≤ 50000) :
    rev_builder_gather ((m : Int), one) (into : Int) sp ops = some (ops ++ gOps m one into, sp, ()) := by
  unfold rev_builder_gather
  have hc : rev_builder_gather.c1 (into : Int) some = some () := by unfold rev_builder_gather.c1; rw [ok0]; rfl
  have hp := p12 (k := into) (by omega)
  rw [hc, bnd_val]
  show bnd (iter _ (ibits BinOp.andNot IntKind.i64 (m : Int) _, sp, ops)) _ = _
  rw [show IntKind.wrap IntKind.i64 ((1 : Int) * (2 : Int) ^ Min.min (Int.toNat (into : Int)) (64 : Nat)) = ((2 ^ into : Nat) : Int) by have := pow_12 (q := (into : Int)) ⟨by omega, by omega⟩; rwa [Int.toNat_natCast] at this ⊢, inandi64 (by omega) (by omega)]
  have hlt : nand m (2 ^ into) < 2 ^ 12 := nand_lt hm
  have key := iter_bits (f := fun s : Int × Int × List Op => rev_builder_gather.c100002 (into : Int) (Prod.fst s) (Prod.fst (Prod.snd s)) (Prod.snd (Prod.snd s)) some) 12 (by decide)
    (fun m (t : List Op) => ((m : Int), sp, t)) (fun t q => t ++ [opF (into : Int) [(q : Int)]]) (fun t => ((0 : Int), sp, t)) (fun m t => t.length + (bN m 12).length ≤ 60000)
    (fun m t h0 h1 hi => by
      have h63 : m < 2 ^ 63 := by omega
      have hb := bN_step h0 h63 h1
      rw [hb, List.length_cons] at hi
      refine ⟨?_, by rw [List.length_append, List.length_singleton]; omega⟩
      show rev_builder_gather.c100002 (into : Int) (m : Int) sp t some = _
      unfold rev_builder_gather.c100002
      rw [br_pos (by omega), tz_ok h63, bnd_val, x_ok _ _ _ _ (by omega), bnd_val, and_low h0 h63])
    (fun t _ => by
      show rev_builder_gather.c100002 (into : Int) ((0 : Nat) : Int) sp t some = _
      unfold rev_builder_gather.c100002
      rw [br_neg (by omega)]; rfl) _ (nand m (2 ^ into)) ops (Nat.le_refl _) hlt (by have := bN_len (nand m (2 ^ into)) 12; omega)
  refine bnd_of key ?_
  rw [foldl_map (fun q : Nat => opF (into : Int) [(q : Int)])]
  have hl := bN_len (nand m (2 ^ into)) 12
  unfold gOps
  cases one with
  | true =>
    rw [br_tt]
    refine bnd_of (x_ok _ _ _ _ (by rw [List.length_append, List.length_map]; omega)) ?_
    rw [if_pos rfl, List.append_assoc]
  | false =>
    rw [br_ff, if_neg (by decide), List.append_nil]
def BX (o : Op) : Prop := ∃ q ctl, o = opF q ctl
theorem bx_same {o : Op} (h : BX o) : opF o.2.2.2.1 o.2.2.1 = o := by
  obtain ⟨q, ctl, rfl⟩ := h; rfl
theorem clone_win (a b : Nat) (ops : List Op) (h : ops.length ≤ 100000) : slices_Clone_api_Op__win (a : Int) (b : Int) ops = some ((ops.drop a).take b, ops, ()) := by
  have e : Ql.part (a : Int) (b : Int) ops = (ops.drop a).take b := by simp [Ql.part]
  unfold slices_Clone_api_Op__win
  rw [e]
  have hl : ((ops.drop a).take b).length ≤ 100000 := by rw [List.length_take, List.length_drop]; omega
  generalize (ops.drop a).take b = l at hl
  have ok : okIf (decide (((0 : Nat) + l.length) * (80 : Nat) ≤ (140737488355328 : Nat)) && decide ((0 : Nat) + l.length ≤ (140737488355328 : Nat))) = some () := okIf_len (by omega)
  rw [ok, bnd_val]
  cases l with
  | nil => exact (br_true rfl).trans both_self
  | cons a l => exact br_false rfl
theorem undo_ok (pre A post : List Op) (sp : Int) (hA : ∀ o ∈ A, BX o) (hl : ∀ o ∈ A, o.2.2.1.length ≤ 100) (h : (pre ++ A ++ post).length ≤ 10000) :
    rev_builder_undo (pre.length : Int) ((pre ++ A).length : Int) sp (pre ++ A ++ post) = some (pre ++ A ++ post ++ A.reverse, sp, ()) := by
  have hlen : (pre ++ A ++ post).length = pre.length + A.length + post.length := by simp [List.length_append]; omega
  have hle : ((pre ++ A).length : Int) = (pre.length : Int) + A.length := by simp
  unfold rev_builder_undo
  rw [okIf_true (by simp only [Bool.and_eq_true, decide_eq_true_eq]; omega), bnd_val, show ((pre ++ A).length : Int) - (pre.length : Int) = (A.length : Int) by omega]
  refine bnd_of (clone_win pre.length A.length _ (by omega)) ?_
  rw [show ((pre ++ A ++ post).drop pre.length).take A.length = A by rw [List.append_assoc, List.drop_left, List.take_left]]
  refine bnd_of (reverse_ok A (by omega)) ?_
  generalize hops : pre ++ A ++ post = ops at h hlen ⊢
  have key : iter (fun s : Int × Int × List Op => rev_builder_undo.c100003 ((A.reverse).length : Int) (Prod.fst s) A.reverse (Prod.fst (Prod.snd s)) (Prod.snd (Prod.snd s)) some) ((0 : Int), sp, ops) = some (((A.reverse).length : Int), sp, ops ++ A.reverse) := by
    refine iter_count (A.reverse).length (fun i => ((i : Int), sp, ops ++ (A.reverse).take i)) _ ?_ ?_ (by simp)
    · intro i hi
      show rev_builder_undo.c100003 ((A.reverse).length : Int) (i : Int) A.reverse sp (ops ++ (A.reverse).take i) some = _
      have hm : (A.reverse)[i] ∈ A := List.mem_reverse.1 (List.getElem_mem hi)
      have hrl : A.reverse.length = A.length := List.length_reverse
      have hcl : slices_Clone_int (A.reverse)[i].2.2.1 = some (A.reverse)[i].2.2.1 := clone_ok _ (by have := hl _ hm; omega)
      unfold rev_builder_undo.c100003 rev_builder_undo.c5
      rw [br_pos (by omega), inR_at hi, bnd_val, idx_get hi, bnd_val]
      refine bnd_of (x := (sp, ops ++ (A.reverse).take i ++ [(A.reverse)[i]])) ?_ ?_
      · refine bnd_of hcl ?_
        refine bnd_of (x_ok _ _ _ _ (by rw [List.length_append, List.length_take]; omega)) ?_
        rw [bx_same (hA _ hm)]
      · rw [wrap_i64 (by omega), List.take_succ_eq_append_getElem hi, List.append_assoc]
        rfl
    · show rev_builder_undo.c100003 ((A.reverse).length : Int) ((A.reverse).length : Int) A.reverse sp _ some = _
      unfold rev_builder_undo.c100003
      rw [br_neg (by omega), List.take_length]
  exact bnd_of key rfl
end W
end

section
set_option linter.unusedSectionVars false
set_option linter.unusedVariables false
set_option maxHeartbeats 1000000
namespace W
open Go.Ql
open Go hiding Op
def fl (s b : Nat) (c : Bool) : Nat := if c = true then s ^^^ 2 ^ b else s
theorem fl_bit (s b : Nat) (c : Bool) (j : Nat) : (fl s b c).testBit j = (s.testBit j != (c && decide (b = j))) := by
  unfold fl
  cases c with
  | true => rw [if_pos rfl, flip_bit, Bool.true_and]
  | false => rw [if_neg (by decide), Bool.false_and, Bool.bne_false]
theorem fl_ne {s b j : Nat} {c : Bool} (h : b ≠ j) : (fl s b c).testBit j = s.testBit j := by rw [fl_bit, decide_eq_false h]; simp
theorem fl_fl (s b : Nat) (c d : Bool) : fl (fl s b c) b d = fl s b (c != d) := by
  unfold fl
  cases c <;> cases d <;> simp [xor_xor]
theorem fl_comm (s a b : Nat) (c d : Bool) : fl (fl s a c) b d = fl (fl s b d) a c := by
  apply Nat.eq_of_testBit_eq
  intro j
  simp only [fl_bit]
  cases s.testBit j <;> cases c <;> cases d <;> cases decide (a = j) <;> cases decide (b = j) <;> rfl
theorem fl_false (s b : Nat) : fl s b false = s := rfl
def par (m s : Nat) : Bool := xf (fun j => m.testBit j && s.testBit j) 12
theorem par_xor (m k s : Nat) : par (m ^^^ k) s = (par m s != par k s) := by
  unfold par
  rw [← xf_add]
  refine xf_congr fun j _ => ?_
  rw [Nat.testBit_xor]
  cases m.testBit j <;> cases k.testBit j <;> cases s.testBit j <;> rfl
theorem par_pow {i s : Nat} (h : i < 12) : par (2 ^ i) s = s.testBit i := by
  unfold par
  have : xf (fun j => (2 ^ i).testBit j && s.testBit j) 12 = xf (fun j => decide (j = i) && s.testBit j) 12 := xf_congr fun j _ => by
    rw [Nat.testBit_two_pow]
    by_cases e : i = j
    · subst e; simp
    · rw [decide_eq_false e, decide_eq_false (Ne.symm e)]
  rw [this, xf_one h]
theorem par_zero (s : Nat) : par 0 s = false := xf_zero fun j _ => by rw [Nat.zero_testBit]; rfl
theorem par_congr {m s t : Nat} (h : ∀ j, m.testBit j = true → s.testBit j = t.testBit j) : par m s = par m t := by
  refine xf_congr fun j _ => ?_
  cases hm : m.testBit j with
  | false => rfl
  | true => rw [h j hm]
theorem lx_bN (p : Nat → Bool) (m : Nat) : ∀ k, lx p (bN m k) = xf (fun j => m.testBit j && p j) k
  | 0 => rfl
  | k + 1 => by
    have e : bN m (k + 1) = bN m k ++ (if m.testBit k = true then [k] else []) := by
      unfold bN
      rw [List.range_succ, List.filter_append]
      congr 1
      by_cases h : m.testBit k = true
      · rw [if_pos h, List.filter_cons_of_pos h]; rfl
      · rw [if_neg h, List.filter_cons_of_neg h]; rfl
    rw [e, lx_app, xf, lx_bN p m k]
    cases m.testBit k <;> simp [lx]
def fv (f : Nat × Bool) (s : Nat) : Bool := par f.1 s != f.2
theorem fv_congr {f : Nat × Bool} {s t : Nat} (h : ∀ j, f.1.testBit j = true → s.testBit j = t.testBit j) : fv f s = fv f t := by rw [fv, fv, par_congr h]
def GX (K n : Nat) (o : Op) : Prop := ∃ (q : Nat) (ctl : List Nat), o = opF (q : Int) (iL ctl) ∧ q < K ∧ q ≠ n ∧ (∀ c ∈ ctl, c < K ∧ c ≠ q ∧ c ≠ n) ∧ ctl.Nodup ∧ ctl.length ≤ 2
theorem GX.mono {K L n : Nat} {o : Op} (h : GX K n o) (hl : K ≤ L) : GX L n o := by
  obtain ⟨q, ctl, e, h1, h2, h3, h4, h5⟩ := h
  exact ⟨q, ctl, e, by omega, h2, fun c hc => by have := h3 c hc; omega, h4, h5⟩
theorem GX.bx {K n : Nat} {o : Op} (h : GX K n o) : BX o := by
  obtain ⟨q, ctl, e, _⟩ := h; exact ⟨_, _, e⟩
theorem GX.ctl {K n : Nat} {o : Op} (h : GX K n o) : o.2.2.1.length ≤ 2 := by
  obtain ⟨q, ctl, rfl, h1, h2, h3, h4, h5⟩ := h
  show (iL ctl).length ≤ 2
  rw [iL_len]; exact h5
theorem step_fl (q : Nat) (ctl : List Nat) (s : Nat) : stepX (opF (q : Int) (iL ctl)) s = fl s q (ctl.all fun c => s.testBit c) := by
  have e : allB s (iL ctl) = ctl.all fun c => s.testBit c := by
    unfold allB iL
    rw [List.all_map]
    rfl
  unfold stepX fl
  show (if allB s (iL ctl) = true then s ^^^ 2 ^ Int.toNat (q : Int) else s) = _
  rw [e, Int.toNat_natCast]
def Av (z : Nat) (o : Op) : Prop := ∃ (q : Nat) (ctl : List Nat), o = opF (q : Int) (iL ctl) ∧ q ≠ z ∧ ∀ c ∈ ctl, c ≠ q ∧ c ≠ z
theorem GX.avK {K n z : Nat} {o : Op} (h : GX K n o) (hz : K ≤ z) : Av z o := by
  obtain ⟨q, ctl, e, h1, h2, h3, h4, h5⟩ := h
  exact ⟨q, ctl, e, by omega, fun c hc => ⟨(h3 c hc).2.1, by have := (h3 c hc).1; omega⟩⟩
theorem all_congr {ctl : List Nat} {s t : Nat} (h : ∀ c ∈ ctl, s.testBit c = t.testBit c) : (ctl.all fun c => s.testBit c) = ctl.all fun c => t.testBit c := by
  rw [Bool.eq_iff_iff, List.all_eq_true, List.all_eq_true]
  exact forall_congr' fun c => forall_congr' fun hc => by rw [h c hc]
theorem Av.twice {z : Nat} {o : Op} (h : Av z o) (s : Nat) : stepX o (stepX o s) = s := by
  obtain ⟨q, ctl, rfl, h1, h2⟩ := h
  rw [step_fl, step_fl, all_congr (t := s) fun c hc => fl_ne (Ne.symm (h2 c hc).1), fl_fl, bne_self_eq_false, fl_false]
theorem Av.comm {z : Nat} {o : Op} (h : Av z o) (s : Nat) (c : Bool) : stepX o (fl s z c) = fl (stepX o s) z c := by
  obtain ⟨q, ctl, rfl, h1, h2⟩ := h
  rw [step_fl, step_fl, all_congr (t := s) fun c hc => fl_ne (Ne.symm (h2 c hc).2), fl_comm]
theorem Av.keep {z : Nat} {o : Op} (h : Av z o) (s : Nat) : (stepX o s).testBit z = s.testBit z := by
  obtain ⟨q, ctl, rfl, h1, h2⟩ := h
  rw [step_fl, fl_ne h1]
theorem run_cons (o : Op) (l : List Op) (s : Nat) : runX (o :: l) s = runX l (stepX o s) := rfl
theorem run_app (l m : List Op) (s : Nat) : runX (l ++ m) s = runX m (runX l s) := by rw [runX, List.foldl_append]; rfl
theorem run_undo {z : Nat} {c : Bool} : ∀ {A : List Op} {s : Nat}, (∀ o ∈ A, Av z o) → runX A.reverse (fl (runX A s) z c) = fl s z c
  | [], _, _ => rfl
  | o :: A, s, h => by
    have ho := h o (List.mem_cons_self ..)
    rw [run_cons, List.reverse_cons, run_app, run_undo fun p hp => h p (List.mem_cons_of_mem _ hp), run_cons, ho.comm, ho.twice]
    rfl
theorem iL_one (q : Nat) : iL [q] = [(q : Int)] := rfl
theorem gmap_run {into : Nat} : ∀ {l : List Nat} {s : Nat}, into ∉ l → runX (l.map fun q : Nat => opF (into : Int) [(q : Int)]) s = fl s into (lx (fun j => s.testBit j) l)
  | [], _, _ => rfl
  | q :: l, s, h => by
    rw [List.mem_cons, not_or] at h
    have hlx : ∀ (l : List Nat) (c : Bool), into ∉ l → lx (fun j => (fl s into c).testBit j) l = lx (fun j => s.testBit j) l := by
      intro l c
      induction l with
      | nil => intro _; rfl
      | cons a l ih =>
        intro h
        rw [List.mem_cons, not_or] at h
        rw [lx, lx, ih h.2, fl_ne h.1]
    rw [List.map_cons, run_cons, ← iL_one, step_fl, gmap_run h.2, hlx l _ h.2, fl_fl, lx]
    simp
theorem gOps_run {m into : Nat} (hi : into < 12) (hm : m.testBit into = true) (one : Bool) (s : Nat) :
    runX (gOps m one into) s = fl s into (s.testBit into != fv (m, one) s) := by
  have e : nand m (2 ^ into) = m ^^^ 2 ^ into := by
    apply Nat.eq_of_testBit_eq
    intro j
    rw [nand_bit, flip_bit, Nat.testBit_two_pow]
    by_cases e : into = j
    · subst e; rw [hm]; simp
    · rw [decide_eq_false e]; simp
  have hn : into ∉ bN (nand m (2 ^ into)) 12 := fun h => by
    have := (bN_mem.1 h).2
    rw [e, flip_bit, hm] at this; simp at this
  have hp : lx (fun j => s.testBit j) (bN (nand m (2 ^ into)) 12) = (par m s != s.testBit into) := by
    rw [lx_bN, e]
    exact (par_xor m (2 ^ into) s).trans (by rw [par_pow hi])
  unfold gOps fv
  rw [run_app, gmap_run hn, hp]
  cases one with
  | false => rw [if_neg (by decide)]; show fl s into _ = _; congr 1; cases par m s <;> cases s.testBit into <;> rfl
  | true =>
    rw [if_pos rfl, run_cons]
    show stepX (opF (into : Int) (iL [])) _ = _
    rw [step_fl, fl_fl]
    congr 1
    cases par m s <;> cases s.testBit into <;> rfl
theorem gOps_GX {m into K n : Nat} (hK : m < 2 ^ K) (hm : m.testBit into = true) (hn : m.testBit n = false) (one : Bool) : ∀ o ∈ gOps m one into, GX K n o := by
  have bit {j : Nat} (h : m.testBit j = true) : j < K := by
    apply Nat.lt_of_not_le
    intro hle
    rw [Nat.testBit_lt_two_pow (Nat.lt_of_lt_of_le hK (Nat.pow_le_pow_right (by decide) hle))] at h; cases h
  have hin : into ≠ n := fun e => by rw [e, hn] at hm; cases hm
  intro o ho
  unfold gOps at ho
  rcases List.mem_append.1 ho with ho | ho
  · obtain ⟨q, hq, rfl⟩ := List.mem_map.1 ho
    have hq := (bN_mem.1 hq).2
    rw [nand_bit, Nat.testBit_two_pow, Bool.and_eq_true, Bool.not_eq_true', decide_eq_false_iff_not] at hq
    refine ⟨into, [q], rfl, bit hm, hin, fun c hc => ?_, by simp, by simp⟩
    rw [List.mem_singleton.1 hc]
    exact ⟨bit hq.1, Ne.symm hq.2, fun e => by rw [e, hn] at hq; exact absurd hq.1 (by decide)⟩
  · cases one with
    | false => rw [if_neg (by decide)] at ho; cases ho
    | true =>
      rw [if_pos rfl, List.mem_singleton] at ho
      exact ⟨into, [], ho, bit hm, hin, (fun c hc => nomatch hc), List.Pairwise.nil, by decide⟩
structure PS (n sp : Nat) (f g F : Nat × Bool) (new : List Op) : Prop where
  mask : F.1 < 2 ^ (sp + 1)
  free : F.1.testBit n = false
  ops : ∀ o ∈ new, GX (sp + 1) n o
  len : new.length ≤ 53
  run : ∀ s, s.testBit sp = false → (∀ j, j ≠ sp → (runX new s).testBit j = s.testBit j) ∧ fv F (runX new s) = (fv f s && fv g s)
def pOps (f g : Nat × Bool) (sp : Nat) : List Op :=
  let A := gOps f.1 f.2 (tz (nand f.1 g.1)) ++ gOps g.1 g.2 (tz g.1)
  A ++ [opF (sp : Int) [((tz (nand f.1 g.1) : Nat) : Int), ((tz g.1 : Nat) : Int)]] ++ A.reverse
theorem pOps_ok {n sp : Nat} {f g : Nat × Bool} (hsp : n < sp ∧ sp < 12) (hf : f.1 < 2 ^ sp) (hg : g.1 < 2 ^ sp) (fn : f.1.testBit n = false) (gn : g.1.testBit n = false) (h1 : nand f.1 g.1 ≠ 0) (h2 : g.1 ≠ 0) :
    PS n sp f g (2 ^ sp, false) (pOps f g sp) ∧ ∀ o ∈ gOps f.1 f.2 (tz (nand f.1 g.1)) ++ gOps g.1 g.2 (tz g.1), GX sp n o := by
  have hp12 : 2 ^ sp ≤ 2 ^ 11 := Nat.pow_le_pow_right (by decide) (by omega)
  have hnl : nand f.1 g.1 < 2 ^ sp := nand_lt hf
  have p2 := (tz_bit (Nat.pos_of_ne_zero h1) (by omega)).2.1
  have q2 := (tz_bit (Nat.pos_of_ne_zero h2) (by omega)).2.1
  have pl := tz_lt (K := sp) (Nat.pos_of_ne_zero h1) (by omega) hnl
  have ql := tz_lt (K := sp) (Nat.pos_of_ne_zero h2) (by omega) hg
  rw [nand_bit, Bool.and_eq_true, Bool.not_eq_true'] at p2
  unfold pOps
  generalize tz (nand f.1 g.1) = p at p2 pl ⊢
  generalize tz g.1 = q at q2 ql ⊢
  have hpq : p ≠ q := fun e => by rw [e, q2] at p2; exact absurd p2.2 (by decide)
  have hA : ∀ o ∈ gOps f.1 f.2 p ++ gOps g.1 g.2 q, GX sp n o := fun o ho => by
    rcases List.mem_append.1 ho with ho | ho
    · exact gOps_GX hf p2.1 fn _ o ho
    · exact gOps_GX hg q2 gn _ o ho
  have hl : (gOps f.1 f.2 p ++ gOps g.1 g.2 q).length ≤ 26 := by
    have := gOps_len f.1 f.2 p
    have := gOps_len g.1 g.2 q
    rw [List.length_append]; omega
  have hpn : p ≠ n := fun e => by rw [e, fn] at p2; exact absurd p2.1 (by decide)
  have hqn : q ≠ n := fun e => by rw [e, gn] at q2; exact absurd q2 (by decide)
  have hrun : ∀ s, (runX (gOps f.1 f.2 p ++ gOps g.1 g.2 q) s).testBit p = fv f s ∧ (runX (gOps f.1 f.2 p ++ gOps g.1 g.2 q) s).testBit q = fv g s := by
    intro s
    rw [run_app, gOps_run (by omega) p2.1, gOps_run (by omega) q2]
    have e : fv (g.1, g.2) (fl s p (s.testBit p != fv (f.1, f.2) s)) = fv g s := fv_congr fun j hj => fl_ne fun e => by
      rw [← e, p2.2] at hj; cases hj
    constructor
    · rw [fl_ne (Ne.symm hpq), fl_bit]
      show (s.testBit p != ((s.testBit p != fv f s) && decide (p = p))) = _
      cases s.testBit p <;> cases fv f s <;> simp
    · rw [e]
      generalize fl s p _ = t
      rw [fl_bit]
      cases t.testBit q <;> cases fv g s <;> simp
  generalize gOps f.1 f.2 p ++ gOps g.1 g.2 q = A at hA hl hrun
  refine ⟨⟨?_, ?_, fun o ho => ?_, ?_, fun s hs => ?_⟩, hA⟩
  · exact Nat.pow_lt_pow_right (by decide) (Nat.lt_succ_self sp)
  · rw [Nat.testBit_two_pow]; exact decide_eq_false (by omega)
  · rcases List.mem_append.1 ho with ho | ho
    · rcases List.mem_append.1 ho with ho | ho
      · exact (hA o ho).mono (Nat.le_succ sp)
      · refine ⟨sp, [p, q], List.mem_singleton.1 ho, Nat.lt_succ_self sp, by omega, fun c hc => ?_, by simpa using hpq, by simp⟩
        rcases List.mem_cons.1 hc with rfl | hc
        · omega
        · rw [List.mem_singleton.1 hc]; omega
    · exact (hA o (List.mem_reverse.1 ho)).mono (Nat.le_succ sp)
  · simp only [List.length_append, List.length_cons, List.length_nil, List.length_reverse]
    omega
  · have e : runX (A ++ [opF (sp : Int) [(p : Int), (q : Int)]] ++ A.reverse) s = fl s sp (fv f s && fv g s) := by
      rw [run_app, run_app, run_cons]
      show runX A.reverse (stepX (opF (sp : Int) (iL [p, q])) (runX A s)) = _
      rw [step_fl]
      simp only [List.all_cons, List.all_nil, Bool.and_true, (hrun s).1, (hrun s).2]
      exact run_undo fun o ho => (hA o ho).avK (Nat.le_refl sp)
    rw [e]
    refine ⟨fun j hj => fl_ne (Ne.symm hj), ?_⟩
    show (par (2 ^ sp) _ != false) = _
    rw [par_pow hsp.2, fl_bit, hs]
    cases fv f s <;> cases fv g s <;> simp
end W
end

section
set_option linter.unusedSectionVars false
set_option linter.unusedVariables false
set_option maxHeartbeats 1000000
namespace W
open Go.Ql
open Go hiding Op
abbrev fI (f : Nat × Bool) : Int × Bool := ((f.1 : Int), f.2)
theorem plus_ok {f g : Nat × Bool} (hf : f.1 < 2 ^ 63) (hg : g.1 < 2 ^ 63) : rev_form_plus (fI f) (fI g) = some (fI (f.1 ^^^ g.1, f.2 != g.2)) := by
  unfold rev_form_plus
  rw [ixori64 hf hg]
  rfl
theorem fv_plus (f g : Nat × Bool) (s : Nat) : fv (f.1 ^^^ g.1, f.2 != g.2) s = (fv f s != fv g s) := by
  simp only [fv, par_xor]
  cases par f.1 s <;> cases par g.1 s <;> cases f.2 <;> cases g.2 <;> rfl
theorem nz (m : Nat) : ((m : Int) == (0 : Int)) = decide (m = 0) := by
  rw [Bool.eq_iff_iff, beq_iff_eq, decide_eq_true_eq]; omega
theorem neq (m k : Nat) : ((m : Int) == (k : Int)) = decide (m = k) := by
  rw [Bool.eq_iff_iff, beq_iff_eq, decide_eq_true_eq]; omega
theorem PS.comm {n sp : Nat} {f g F : Nat × Bool} {new : List Op} (h : PS n sp g f F new) : PS n sp f g F new :=
  ⟨h.mask, h.free, h.ops, h.len, fun s hs => ⟨(h.run s hs).1, by rw [(h.run s hs).2, Bool.and_comm]⟩⟩
theorem PS.same {n sp : Nat} {f g F : Nat × Bool} (hm : F.1 < 2 ^ sp) (hf : F.1.testBit n = false) (h : ∀ s, fv F s = (fv f s && fv g s)) : PS n sp f g F [] :=
  ⟨Nat.lt_trans hm (Nat.pow_lt_pow_right (by decide) (Nat.lt_succ_self sp)), hf, (fun o ho => nomatch ho), by decide, fun s _ => ⟨fun _ _ => rfl, h s⟩⟩
theorem nand_both {a b : Nat} (h1 : nand a b = 0) (h2 : nand b a = 0) : a = b := Nat.eq_of_testBit_eq fun j => by
  have h1 := nand_zero.1 h1 j
  have h2 := nand_zero.1 h2 j
  cases ha : a.testBit j <;> cases hb : b.testBit j <;> simp_all
theorem product_main {n sp : Nat} {f g : Nat × Bool} (hsp : n < sp ∧ sp < 12) (hf : f.1 < 2 ^ sp) (hg : g.1 < 2 ^ sp) (fn : f.1.testBit n = false) (gn : g.1.testBit n = false) (h1 : nand f.1 g.1 ≠ 0) (h2 : g.1 ≠ 0) (ops : List Op) (ho : ops.length ≤ 9000) :
    (bnd (rev_builder_product.c13 (f.1 : Int) (g.1 : Int) some) fun y_4 =>
      bnd (rev_builder_gather ((f.1 : Int), f.2) (Prod.fst y_4) (IntKind.wrap IntKind.i64 ((sp : Int) + (1 : Int))) ops) fun y_5 =>
      bnd (rev_builder_gather ((g.1 : Int), g.2) (Prod.snd y_4) (Prod.fst y_5.2) (Prod.fst y_5)) fun y_6 =>
      bnd (rev_builder_x (sp : Int) [Prod.fst y_4, Prod.snd y_4] (Prod.fst y_6.2) (Prod.fst y_6)) fun y_7 =>
      bnd (rev_builder_undo (↑(List.length ops) : Int) (↑(List.length (Prod.fst y_6)) : Int) (Prod.fst y_7.2) (Prod.fst y_7)) fun y_8 =>
      bnd (okIf (decide ((0 : Int) ≤ (sp : Int)))) fun y_9 =>
      some ((IntKind.wrap IntKind.i64 ((1 : Int) * (2 : Int) ^ Min.min (Int.toNat (sp : Int)) (64 : Nat)), false), Prod.fst y_8, Prod.fst y_8.2, ())) =
    some ((((2 ^ sp : Nat) : Int), false), ops ++ pOps f g sp, ((sp + 1 : Nat) : Int), ()) := by
  have hp12 : 2 ^ sp ≤ 2 ^ 11 := Nat.pow_le_pow_right (by decide) (by omega)
  have hnl : nand f.1 g.1 < 2 ^ sp := nand_lt hf
  have hps := pOps_ok hsp hf hg fn gn h1 h2
  have pl := tz_lt (K := sp) (Nat.pos_of_ne_zero h1) (by omega) hnl
  have ql := tz_lt (K := sp) (Nat.pos_of_ne_zero h2) (by omega) hg
  have hc : rev_builder_product.c13 (f.1 : Int) (g.1 : Int) some = some (((tz (nand f.1 g.1) : Nat) : Int), ((tz g.1 : Nat) : Int)) := by
    unfold rev_builder_product.c13
    rw [inandi64 (by omega) (by omega), tz_ok (by omega), bnd_val, tz_ok (by omega), bnd_val]
  have hw : IntKind.wrap IntKind.i64 ((sp : Int) + (1 : Int)) = ((sp + 1 : Nat) : Int) := by rw [wrap_i64 (by omega)]; rfl
  rw [hc, bnd_val, hw]
  unfold pOps
  have hAll := hps.2
  generalize tz (nand f.1 g.1) = p at pl hAll ⊢
  generalize tz g.1 = q at ql hAll ⊢
  have l1 := gOps_len f.1 f.2 p
  have l2 := gOps_len g.1 g.2 q
  refine bnd_of (gather_ok (by omega) (by omega) f.2 _ ops (by omega)) ?_
  refine bnd_of (gather_ok (by omega) (by omega) g.2 _ _ (by rw [List.length_append]; omega)) ?_
  show (bnd (rev_builder_x (sp : Int) [(p : Int), (q : Int)] ((sp + 1 : Nat) : Int) (ops ++ gOps f.1 f.2 p ++ gOps g.1 g.2 q)) _) = _
  rw [List.append_assoc ops]
  have hlen : (gOps f.1 f.2 p ++ gOps g.1 g.2 q).length ≤ 26 := by rw [List.length_append]; omega
  generalize gOps f.1 f.2 p ++ gOps g.1 g.2 q = A at hlen hAll ⊢
  refine bnd_of (x_ok _ _ _ _ (by rw [List.length_append]; omega)) ?_
  show (bnd (rev_builder_undo (↑(List.length ops) : Int) (↑(List.length (ops ++ A)) : Int) ((sp + 1 : Nat) : Int) (ops ++ A ++ [opF (sp : Int) [(p : Int), (q : Int)]])) _) = _
  refine bnd_of (undo_ok ops A [opF (sp : Int) [(p : Int), (q : Int)]] _ (fun o ho => (hAll o ho).bx) (fun o ho => by have := (hAll o ho).ctl; omega) (by simp only [List.length_append, List.length_cons, List.length_nil]; omega)) ?_
  rw [ok0, bnd_val, show IntKind.wrap IntKind.i64 ((1 : Int) * (2 : Int) ^ Min.min (Int.toNat (sp : Int)) (64 : Nat)) = ((2 ^ sp : Nat) : Int) by have := pow_12 (q := (sp : Int)) ⟨by omega, by omega⟩; rwa [Int.toNat_natCast] at this ⊢]
  simp only [List.append_assoc]
theorem product_ok {n sp : Nat} {f g : Nat × Bool} (hsp : n < sp ∧ sp < 12) (hf : f.1 < 2 ^ sp) (hg : g.1 < 2 ^ sp) (fn : f.1.testBit n = false) (gn : g.1.testBit n = false) (ops : List Op) (ho : ops.length ≤ 9000) :
    ∃ F new, rev_builder_product (fI f) (fI g) (sp : Int) ops = some (fI F, ops ++ new, ((sp + 1 : Nat) : Int), ()) ∧ PS n sp f g F new := by
  have hp12 : 2 ^ sp ≤ 2 ^ 11 := Nat.pow_le_pow_right (by decide) (by omega)
  have hw : IntKind.wrap IntKind.i64 ((sp : Int) + (1 : Int)) = ((sp + 1 : Nat) : Int) := by rw [wrap_i64 (by omega)]; rfl
  obtain ⟨f0, f1⟩ := f
  obtain ⟨g0, g1⟩ := g
  simp only at hf hg fn gn
  unfold rev_builder_product
  have h3 : rev_builder_product.c3 (f0 : Int) f1 some = some (decide (f0 = 0) && f1) := by
    unfold rev_builder_product.c3; rw [nz]; cases decide (f0 = 0) <;> rfl
  have h5 : rev_builder_product.c5 (g0 : Int) g1 some = some (decide (g0 = 0) && g1) := by
    unfold rev_builder_product.c5; rw [nz]; cases decide (g0 = 0) <;> rfl
  have h7 : rev_builder_product.c7 (f0 : Int) f1 (g0 : Int) g1 some = some (decide (f0 = 0) || (decide (g0 = 0) || (decide (f0 = g0) && !(f1 == g1)))) := by
    unfold rev_builder_product.c7; rw [nz, nz, neq]; cases decide (f0 = 0) <;> cases decide (g0 = 0) <;> cases decide (f0 = g0) <;> rfl
  show ∃ F new, bnd (rev_builder_product.c3 (f0 : Int) f1 some) _ = _ ∧ _
  rw [h3, bnd_val]
  by_cases c1 : (decide (f0 = 0) && f1) = true
  · rw [br_true c1, hw]
    simp only [Bool.and_eq_true, decide_eq_true_eq] at c1
    refine ⟨(g0, g1), [], by rw [List.append_nil], PS.same hg gn fun s => ?_⟩
    rw [c1.1, c1.2]
    simp only [fv, par_zero]
    cases par g0 s <;> cases g1 <;> rfl
  rw [br_false (by simpa using c1)]
  show ∃ F new, bnd (rev_builder_product.c5 (g0 : Int) g1 some) _ = _ ∧ _
  rw [h5, bnd_val]
  by_cases c2 : (decide (g0 = 0) && g1) = true
  · rw [br_true c2, hw]
    simp only [Bool.and_eq_true, decide_eq_true_eq] at c2
    refine ⟨(f0, f1), [], by rw [List.append_nil], PS.same hf fn fun s => ?_⟩
    rw [c2.1, c2.2]
    simp only [fv, par_zero]
    cases par f0 s <;> cases f1 <;> rfl
  rw [br_false (by simpa using c2)]
  show ∃ F new, bnd (rev_builder_product.c7 (f0 : Int) f1 (g0 : Int) g1 some) _ = _ ∧ _
  rw [h7, bnd_val]
  by_cases c3 : (decide (f0 = 0) || (decide (g0 = 0) || (decide (f0 = g0) && !(f1 == g1)))) = true
  · rw [br_true c3, hw]
    refine ⟨(0, false), [], by rw [List.append_nil]; rfl, PS.same (Nat.two_pow_pos sp) (Nat.zero_testBit n) fun s => ?_⟩
    simp only [Bool.or_eq_true, Bool.and_eq_true, decide_eq_true_eq, Bool.not_eq_true', beq_eq_false_iff_ne, ne_eq] at c1 c2 c3
    rcases c3 with rfl | rfl | ⟨rfl, h⟩
    · have : f1 = false := by cases f1 <;> simp_all
      subst this
      simp only [fv, par_zero]; rfl
    · have : g1 = false := by cases g1 <;> simp_all
      subst this
      simp only [fv, par_zero]
      cases par f0 s <;> cases f1 <;> rfl
    · simp only [fv, par_zero]
      cases par f0 s <;> cases f1 <;> cases g1 <;> simp_all
  rw [br_false (by simpa using c3)]
  simp only [Bool.or_eq_true, Bool.and_eq_true, decide_eq_true_eq, Bool.not_eq_true', beq_eq_false_iff_ne, ne_eq, not_or, not_and, Decidable.not_not] at c3
  show ∃ F new, br ((f0 : Int) == (g0 : Int)) _ _ = _ ∧ _
  rw [neq]
  by_cases c4 : f0 = g0
  · rw [br_pos c4, hw]
    have c5 := c3.2.2 c4
    subst c4 c5
    exact ⟨(f0, f1), [], by rw [List.append_nil], PS.same hf fn fun s => by simp only [Bool.and_self]⟩
  rw [br_neg c4]
  have hsw : rev_builder_product.c245061 (f0 : Int) f1 (g0 : Int) g1 some = some (if nand f0 g0 = 0 then ((g0 : Int), g1, (f0 : Int), f1) else ((f0 : Int), f1, (g0 : Int), g1)) := by
    unfold rev_builder_product.c245061
    rw [inandi64 (by omega) (by omega), nz]
    by_cases h : nand f0 g0 = 0
    · rw [br_pos h, if_pos h]
    · rw [br_neg h, if_neg h]
  show ∃ F new, bnd (rev_builder_product.c245061 (f0 : Int) f1 (g0 : Int) g1 some) _ = _ ∧ _
  rw [hsw, bnd_val]
  by_cases h : nand f0 g0 = 0
  · rw [if_pos h]
    have hne : nand g0 f0 ≠ 0 := fun e => c4 (nand_both h e)
    have pm := product_main (f := (g0, g1)) (g := (f0, f1)) hsp hg hf gn fn hne c3.1 ops ho
    have po := (pOps_ok (f := (g0, g1)) (g := (f0, f1)) hsp hg hf gn fn hne c3.1).1.comm
    generalize pOps (g0, g1) (f0, f1) sp = new at pm po
    refine ⟨(2 ^ sp, false), new, ?_, po⟩
    dsimp only at pm ⊢
    exact pm
  · rw [if_neg h]
    have pm := product_main (f := (f0, f1)) (g := (g0, g1)) hsp hf hg fn gn h c3.2.1 ops ho
    have po := (pOps_ok (f := (f0, f1)) (g := (g0, g1)) hsp hf hg fn gn h c3.2.1).1
    generalize pOps (f0, f1) (g0, g1) sp = new at pm po
    refine ⟨(2 ^ sp, false), new, ?_, po⟩
    dsimp only at pm ⊢
    exact pm
end W
end

section
set_option linter.unusedSectionVars false
set_option linter.unusedVariables false
set_option maxHeartbeats 1000000
namespace W
open Go.Ql
open Go hiding Op
def isPr (a : Int × Int) : Nat := if a.1 = 4 ∨ a.1 = 5 then 1 else 0
mutual
def pr : Ex → Nat
  | .mk a ks => isPr a + prs ks
def prs : List Ex → Nat
  | [] => 0
  | x :: r => pr x + prs r
end
theorem isPr_le (a : Int × Int) : isPr a ≤ 1 := by unfold isPr; split <;> decide
mutual
theorem pr_le : ∀ e : Ex, pr e ≤ cnt e
  | .mk a ks => by have := isPr_le a; have := prs_le ks; rw [pr, cnt]; omega
theorem prs_le : ∀ ks : List Ex, prs ks ≤ cnts ks
  | [] => Nat.le_refl 0
  | x :: r => by have := pr_le x; have := prs_le r; rw [prs, cnts]; omega
end
theorem prs_take (ks : List Ex) {k : Nat} (h : k < ks.length) : prs (ks.take (k + 1)) = prs (ks.take k) + pr ks[k] := by
  have app : ∀ l m : List Ex, prs (l ++ m) = prs l + prs m := by
    intro l m
    induction l with
    | nil => rw [List.nil_append, prs]; omega
    | cons a l ih => rw [List.cons_append, prs, prs, ih]; omega
  rw [List.take_succ_eq_append_getElem h, app, prs, prs]; rfl
theorem prs_take_le (ks : List Ex) (k : Nat) : prs (ks.take k) ≤ prs ks := by
  induction k generalizing ks with
  | zero => rw [List.take_zero, prs]; exact Nat.zero_le _
  | succ k ih =>
    cases ks with
    | nil => exact Nat.le_refl _
    | cons a r => rw [List.take_succ_cons, prs, prs]; have := ih r; omega
theorem c2_pr (k : Int) : rev_products_b.c2 k some = some (decide (k = 4 ∨ k = 5)) := by
  unfold rev_products_b.c2
  rw [br_or]
  refine some_dec ?_
  simp
theorem rev_products_step [rev_products_b.Self] (a : Int × Int) (ks : List Ex) (hc : cnts ks < 4611686018427387904)
    (ih : ∀ x ∈ ks, rev_products_b.self (x, ()) = some ((pr x : Int), ())) : rev_products_b (.mk a ks) = some ((pr (.mk a ks) : Int), ()) := by
  have hl := cnts_len ks
  have hp := prs_le ks
  have h1 := isPr_le a
  have h0 : rev_products_b.c208197 (0 : Int) a.1 some = some (isPr a : Int) := by
    unfold rev_products_b.c208197
    rw [c2_pr, bnd_val]
    unfold isPr
    by_cases h : a.1 = 4 ∨ a.1 = 5
    · rw [br_pos h, if_pos h]; rfl
    · rw [br_neg h, if_neg h]; rfl
  have h0' : rev_products_b.c208197 (0 : Int) (Prod.fst (Rose.head (.mk a ks : Ex))) some = some (isPr a : Int) := h0
  unfold rev_products_b
  rw [h0', bnd_val]
  have key : iter (fun s : Int × Int => rev_products_b.c100005 (Prod.fst s) ks (ks.length : Int) (Prod.snd s) some) ((isPr a : Int), (0 : Int)) = some (((isPr a + prs ks : Nat) : Int), (ks.length : Int)) := by
    refine iter_count ks.length (fun k => (((isPr a + prs (ks.take k) : Nat) : Int), (k : Int))) _ ?_ ?_ (by rw [List.take_zero, prs]; rfl)
    · intro k hk
      show rev_products_b.c100005 ((isPr a + prs (ks.take k) : Nat) : Int) ks (ks.length : Int) (k : Int) some = _
      have h2 := prs_take ks hk
      have h3 := prs_take_le ks (k + 1)
      unfold rev_products_b.c100005
      rw [br_pos (by omega), idx_get hk, bnd_val, Rose_eta]
      refine bnd_of (ih _ (List.getElem_mem hk)) ?_
      show some (Sum.inl (IntKind.i64.wrap (((isPr a + prs (ks.take k) : Nat) : Int) + (pr ks[k] : Int)), IntKind.i64.wrap ((k : Int) + 1))) = _
      rw [wrap_i64 (by omega), wrap_i64 (by omega)]
      refine congrArg (fun z : Int × Int => some (Sum.inl z)) (Prod.ext ?_ rfl)
      show ((isPr a + prs (ks.take k) : Nat) : Int) + (pr ks[k] : Int) = ((isPr a + prs (ks.take (k + 1)) : Nat) : Int)
      omega
    · show rev_products_b.c100005 _ ks (ks.length : Int) (ks.length : Int) some = _
      unfold rev_products_b.c100005
      rw [br_neg (by omega), List.take_length]
  refine bnd_of key ?_
  rw [pr]
theorem rev_products_fuel : ∀ (n : Nat) (e : Ex), sizeOf e ≤ n → cnt e < 4611686018427387904 → (rev_products_b.fuel n).F (e, ()) = some ((pr e : Int), ())
  | 0, e, h, _ => absurd (size_pos e) (by omega)
  | n + 1, .mk a ks, h, hc => by
    have hc' : cnts ks < 4611686018427387904 := by rw [cnt] at hc; omega
    exact @rev_products_step (rev_products_b.fuel n) a ks hc' fun x hx =>
      rev_products_fuel n x (by have := size_kid (e := .mk a ks) hx; omega) (Nat.lt_of_le_of_lt (cnts_mem hx) hc')
theorem rev_products_ok (e : Ex) (h : cnt e < 4611686018427387904) : rev_products (e, ()) = some ((pr e : Int), ()) :=
  rev_products_fuel (sizeOf e) e (Nat.le_refl _) h
structure WS (n sp : Nat) (e : Ex) (F : Nat × Bool) (new : List Op) : Prop where
  mask : F.1 < 2 ^ (sp + pr e)
  free : F.1.testBit n = false
  ops : ∀ o ∈ new, GX (sp + pr e) n o
  len : new.length ≤ 53 * pr e
  run : ∀ s, (∀ j, sp ≤ j → j < sp + pr e → s.testBit j = false) → (∀ j, j < sp ∨ sp + pr e ≤ j → (runX new s).testBit j = s.testBit j) ∧ fv F (runX new s) = tv s e
theorem mask_bit {m K j : Nat} (hm : m < 2 ^ K) (h : m.testBit j = true) : j < K := by
  apply Nat.lt_of_not_le
  intro hle
  rw [Nat.testBit_lt_two_pow (Nat.lt_of_lt_of_le hm (Nat.pow_le_pow_right (by decide) hle))] at h; cases h
theorem WS.two {n sp : Nat} {e0 e1 : Ex} {F G : Nat × Bool} {A B : List Op} (hn : n < sp) (hg0 : Good1 n e0) (hg1 : Good1 n e1) (h0 : WS n sp e0 F A) (h1 : WS n (sp + pr e0) e1 G B) {s : Nat}
    (hs : ∀ j, sp ≤ j → j < sp + pr e0 + pr e1 → s.testBit j = false) :
    (∀ j, j < sp ∨ sp + pr e0 + pr e1 ≤ j → (runX (A ++ B) s).testBit j = s.testBit j) ∧ fv F (runX (A ++ B) s) = tv s e0 ∧ fv G (runX (A ++ B) s) = tv s e1 := by
  obtain ⟨a1, a2⟩ := h0.run s fun j h h' => hs j h (by omega)
  obtain ⟨b1, b2⟩ := h1.run (runX A s) fun j h h' => by rw [a1 j (.inr h)]; exact hs j (by omega) h'
  rw [run_app]
  refine ⟨fun j hj => ?_, ?_, ?_⟩
  · rw [b1 j (by omega), a1 j (by omega)]
  · rw [← a2]
    refine fv_congr fun j hj => b1 j (.inl (mask_bit h0.mask hj))
  · rw [b2]
    exact tv_congr n (fun j hj => a1 j (.inl (by omega))) (sizeOf e1) e1 (Nat.le_refl _) hg1
theorem WS.opsAB {n sp : Nat} {e0 e1 : Ex} {F G : Nat × Bool} {A B : List Op} (h0 : WS n sp e0 F A) (h1 : WS n (sp + pr e0) e1 G B) : ∀ o ∈ A ++ B, GX (sp + pr e0 + pr e1) n o := fun o ho => by
  rcases List.mem_append.1 ho with ho | ho
  · exact (h0.ops o ho).mono (by omega)
  · exact h1.ops o ho
theorem WS.lenAB {n sp : Nat} {e0 e1 : Ex} {F G : Nat × Bool} {A B : List Op} (h0 : WS n sp e0 F A) (h1 : WS n (sp + pr e0) e1 G B) : (A ++ B).length ≤ 53 * (pr e0 + pr e1) := by
  have := h0.len
  have := h1.len
  rw [List.length_append]; omega
end W
end

section
set_option linter.unusedSectionVars false
set_option linter.unusedVariables false
set_option maxHeartbeats 1000000
namespace W
open Go.Ql
open Go hiding Op
theorem pr_one {k v : Int} {a : Ex} : pr (.mk (k, v) [a]) = isPr (k, v) + pr a := by rw [pr, prs, prs]; omega
theorem pr_two {k v : Int} {a b : Ex} : pr (.mk (k, v) [a, b]) = isPr (k, v) + (pr a + pr b) := by rw [pr, prs, prs, prs]; omega
theorem tv_one (x : Nat) (k v : Int) (a : Ex) : tv x (.mk (k, v) [a]) = tvOf k v x [tv x a, false] := rfl
theorem tv_two (x : Nat) (k v : Int) (a b : Ex) : tv x (.mk (k, v) [a, b]) = tvOf k v x [tv x a, tv x b] := rfl
theorem xor_mask {a b K n : Nat} (ha : a < 2 ^ K) (hb : b < 2 ^ K) (an : a.testBit n = false) (bn : b.testBit n = false) : a ^^^ b < 2 ^ K ∧ (a ^^^ b).testBit n = false :=
  ⟨Nat.xor_lt_two_pow ha hb, by rw [Nat.testBit_xor, an, bn]; rfl⟩
theorem lt_mono {a K L : Nat} (h : a < 2 ^ K) (hl : K ≤ L) : a < 2 ^ L := Nat.lt_of_lt_of_le h (Nat.pow_le_pow_right (by decide) hl)
theorem lt63 {a K : Nat} (h : a < 2 ^ K) (hl : K ≤ 12) : a < 2 ^ 63 := lt_mono h (by omega)
abbrev WorkE (self : Ex × Int × List Op × Unit → Option ((Int × Bool) × List Op × Int × Unit)) (n : Nat) (e : Ex) : Prop :=
  ∀ (sp : Nat) (ops : List Op), n < sp → sp + pr e ≤ 12 → ops.length + 53 * pr e ≤ 8000 → ∃ F new, self (e, (sp : Int), ops, ()) = some (fI F, ops ++ new, ((sp + pr e : Nat) : Int), ()) ∧ WS n sp e F new
theorem work_step [rev_builder_work_b.Self] (n : Nat) (hn : n ≤ 8) (k v : Int) (ks : List Ex) (hg : Good1 n (.mk (k, v) ks))
    (ih : ∀ y ∈ ks, WorkE rev_builder_work_b.self n y) : WorkE (fun x => rev_builder_work_b x.1 x.2.1 x.2.2.1) n (.mk (k, v) ks) := by
  intro sp ops hsp hroom hlen
  show ∃ F new, rev_builder_work_b (.mk (k, v) ks) (sp : Int) ops = _ ∧ _
  obtain ⟨hk, hl, hv⟩ := hg.root
  have h6 : k = 1 ∨ k = 2 ∨ k = 3 ∨ k = 4 ∨ k = 5 ∨ k = 6 := by omega
  have one (h : ks.length = 1) : ∃ a, ks = [a] := List.length_eq_one_iff.1 h
  have two (h : ks.length = 2) : ∃ a b, ks = [a, b] := by
    match ks, h with
    | [a, b], _ => exact ⟨a, b, rfl⟩
  have nil (h : ks.length = 0) : ks = [] := List.length_eq_zero_iff.1 h
  unfold rev_builder_work_b
  rcases h6 with rfl | rfl | rfl | rfl | rfl | rfl
  · obtain rfl := nil (by have h0 : (ks.length : Int) = 0 := hl; omega)
    obtain ⟨q, rfl⟩ := Int.eq_ofNat_of_zero_le (hv rfl).1
    have hq : q < n := by have := (hv rfl).2; omega
    have hp : IntKind.i64.wrap ((1 : Int) * (2 : Int) ^ Min.min (Int.toNat (q : Int)) (64 : Nat)) = ((2 ^ q : Nat) : Int) := pow_i (by omega)
    refine ⟨(2 ^ q, false), [], ?_, ?_, ?_, (fun o ho => nomatch ho), by simp, fun s _ => ⟨fun _ _ => rfl, ?_⟩⟩
    · refine (br_true (by rfl)).trans ?_
      refine bnd_of (x := ()) (ok0 q) ?_
      show some ((IntKind.i64.wrap ((1 : Int) * (2 : Int) ^ Min.min (Int.toNat (q : Int)) (64 : Nat)), false), ops, (sp : Int), ()) = _
      rw [hp, List.append_nil]
      rfl
    · exact Nat.pow_lt_pow_right (by decide) (by omega)
    · rw [Nat.testBit_two_pow]; exact decide_eq_false (by omega)
    · show (par (2 ^ q) s != false) = s.testBit (Int.toNat (q : Int))
      rw [par_pow (by omega), Bool.bne_false, Int.toNat_natCast]
  · obtain rfl := nil (by have h0 : (ks.length : Int) = 0 := hl; omega)
    refine ⟨(0, true), [], ?_, Nat.two_pow_pos _, Nat.zero_testBit n, (fun o ho => nomatch ho), by simp, fun s _ => ⟨fun _ _ => rfl, ?_⟩⟩
    · refine (br_false (by rfl)).trans ((br_true (by rfl)).trans ?_)
      rw [List.append_nil]
      rfl
    · show (par 0 s != true) = true
      rw [par_zero]; rfl
  · obtain ⟨a, rfl⟩ := one (by simp [wantA] at hl; omega)
    have hpr : pr (.mk (3, v) [a]) = pr a := by rw [pr_one]; simp [isPr]
    rw [hpr] at hroom hlen
    obtain ⟨F, A, e1, w1⟩ := ih a (by simp) sp ops hsp hroom hlen
    have hm := lt63 w1.mask hroom
    refine ⟨(F.1 ^^^ 0, F.2 != true), A, ?_, ?_, ?_, ?_, ?_, fun s hs => ?_⟩
    · refine (br_false (by rfl)).trans ((br_false (by rfl)).trans ((br_true (by rfl)).trans ?_))
      refine bnd_of (x := a) rfl ?_
      refine bnd_of e1 ?_
      refine bnd_of (plus_ok (f := F) (g := (0, true)) hm (by decide)) ?_
      rw [hpr]
    · rw [hpr, Nat.xor_zero]; exact w1.mask
    · rw [Nat.xor_zero]; exact w1.free
    · rw [hpr]; exact w1.ops
    · rw [hpr]; exact w1.len
    · rw [hpr] at hs ⊢
      have := w1.run s hs
      refine ⟨this.1, ?_⟩
      rw [fv_plus F (0, true), this.2, tv_one]
      show (tv s a != (par 0 _ != true)) = !tv s a
      rw [par_zero]; cases tv s a <;> rfl
  · obtain ⟨a, b, rfl⟩ := two (by simp [wantA] at hl; omega)
    have hpr : pr (.mk (4, v) [a, b]) = pr a + pr b + 1 := by rw [pr_two]; simp [isPr]; omega
    have hsp2 : sp + pr (.mk (4, v) [a, b]) = sp + pr a + pr b + 1 := by rw [hpr]; omega
    rw [hpr] at hroom hlen
    obtain ⟨F, A, e1, w1⟩ := ih a (by simp) sp ops hsp (by omega) (by omega)
    have hA := w1.len
    obtain ⟨G, B, e2, w2⟩ := ih b (by simp) (sp + pr a) (ops ++ A) (by omega) (by omega) (by rw [List.length_append]; omega)
    have hB := w2.len
    have mF := lt_mono (L := sp + pr a + pr b) w1.mask (by omega)
    obtain ⟨P, new, e3, w3⟩ := product_ok (n := n) (sp := sp + pr a + pr b) (f := F) (g := G) ⟨by omega, by omega⟩ mF w2.mask w1.free w2.free (ops ++ A ++ B) (by simp only [List.length_append]; omega)
    have h3 := w3.len
    refine ⟨P, A ++ B ++ new, ?_, ?_, w3.free, fun o ho => ?_, ?_, fun s hs => ?_⟩
    · refine (br_false (by rfl)).trans ((br_false (by rfl)).trans ((br_false (by rfl)).trans ?_))
      refine bnd_of (x := a) rfl (bnd_of e1 (bnd_of (x := b) rfl (bnd_of e2 ((br_true (by rfl)).trans (bnd_of e3 ?_)))))
      rw [hsp2]
      simp only [List.append_assoc]
    · rw [hsp2]; exact w3.mask
    · rw [hsp2]
      rcases List.mem_append.1 ho with ho | ho
      · exact (WS.opsAB w1 w2 o ho).mono (by omega)
      · exact w3.ops o ho
    · rw [hpr]
      have := WS.lenAB w1 w2
      rw [List.length_append]; omega
    · rw [hsp2] at hs ⊢
      obtain ⟨r1, r2, r3⟩ := WS.two hsp (hg.kid (by simp)) (hg.kid (by simp)) w1 w2 (s := s) fun j h h' => hs j h (by omega)
      obtain ⟨q1, q2⟩ := w3.run (runX (A ++ B) s) (by rw [r1 _ (.inr (Nat.le_refl _))]; exact hs _ (by omega) (by omega))
      rw [run_app]
      refine ⟨fun j hj => ?_, ?_⟩
      · rw [q1 j (by omega), r1 j (by omega)]
      · rw [q2, r2, r3, tv_two]; rfl
  · obtain ⟨a, b, rfl⟩ := two (by simp [wantA] at hl; omega)
    have hpr : pr (.mk (5, v) [a, b]) = pr a + pr b + 1 := by rw [pr_two]; simp [isPr]; omega
    have hsp2 : sp + pr (.mk (5, v) [a, b]) = sp + pr a + pr b + 1 := by rw [hpr]; omega
    rw [hpr] at hroom hlen
    obtain ⟨F, A, e1, w1⟩ := ih a (by simp) sp ops hsp (by omega) (by omega)
    have hA := w1.len
    obtain ⟨G, B, e2, w2⟩ := ih b (by simp) (sp + pr a) (ops ++ A) (by omega) (by omega) (by rw [List.length_append]; omega)
    have hB := w2.len
    have mF := lt_mono (L := sp + pr a + pr b) w1.mask (by omega)
    obtain ⟨P, new, e3, w3⟩ := product_ok (n := n) (sp := sp + pr a + pr b) (f := F) (g := G) ⟨by omega, by omega⟩ mF w2.mask w1.free w2.free (ops ++ A ++ B) (by simp only [List.length_append]; omega)
    have h3 := w3.len
    have m1 := xor_mask w3.mask (lt_mono mF (Nat.le_succ _)) w3.free w1.free
    have m2 := xor_mask m1.1 (lt_mono w2.mask (Nat.le_succ _)) m1.2 w2.free
    refine ⟨(P.1 ^^^ F.1 ^^^ G.1, (P.2 != F.2) != G.2), A ++ B ++ new, ?_, ?_, m2.2, fun o ho => ?_, ?_, fun s hs => ?_⟩
    · refine (br_false (by rfl)).trans ((br_false (by rfl)).trans ((br_false (by rfl)).trans ?_))
      refine bnd_of (x := a) rfl (bnd_of e1 (bnd_of (x := b) rfl (bnd_of e2 ((br_false (by rfl)).trans ((br_true (by rfl)).trans ?_)))))
      have hc : rev_builder_work_b.c14 (F.1 : Int) F.2 (G.1 : Int) G.2 ((sp + pr a + pr b : Nat) : Int) (ops ++ A ++ B) some = some (((P.1 ^^^ F.1 ^^^ G.1 : Nat) : Int), ((P.2 != F.2) != G.2), ((sp + pr a + pr b + 1 : Nat) : Int), ops ++ A ++ B ++ new) := by
        unfold rev_builder_work_b.c14
        refine bnd_of e3 ?_
        refine bnd_of (plus_ok (f := P) (g := F) (lt63 w3.mask (by omega)) (lt63 mF (by omega))) ?_
        refine bnd_of (plus_ok (f := (P.1 ^^^ F.1, P.2 != F.2)) (g := G) (lt63 m1.1 (by omega)) (lt63 w2.mask (by omega))) ?_
        rfl
      refine bnd_of hc ?_
      rw [hsp2]
      simp only [List.append_assoc]
    · rw [hsp2]; exact m2.1
    · rw [hsp2]
      rcases List.mem_append.1 ho with ho | ho
      · exact (WS.opsAB w1 w2 o ho).mono (by omega)
      · exact w3.ops o ho
    · rw [hpr]
      have := WS.lenAB w1 w2
      rw [List.length_append]; omega
    · rw [hsp2] at hs ⊢
      obtain ⟨r1, r2, r3⟩ := WS.two hsp (hg.kid (by simp)) (hg.kid (by simp)) w1 w2 (s := s) fun j h h' => hs j h (by omega)
      obtain ⟨q1, q2⟩ := w3.run (runX (A ++ B) s) (by rw [r1 _ (.inr (Nat.le_refl _))]; exact hs _ (by omega) (by omega))
      rw [run_app]
      refine ⟨fun j hj => ?_, ?_⟩
      · rw [q1 j (by omega), r1 j (by omega)]
      · have f1 : fv F (runX new (runX (A ++ B) s)) = tv s a := by
          rw [← r2]
          exact fv_congr fun j hj => q1 j (by have := mask_bit mF hj; omega)
        have f2 : fv G (runX new (runX (A ++ B) s)) = tv s b := by
          rw [← r3]
          exact fv_congr fun j hj => q1 j (by have := mask_bit w2.mask hj; omega)
        rw [fv_plus (P.1 ^^^ F.1, P.2 != F.2) G, fv_plus P F, q2, r2, r3, f1, f2, tv_two]
        show _ = (tv s a || tv s b)
        cases tv s a <;> cases tv s b <;> rfl
  · obtain ⟨a, b, rfl⟩ := two (by simp [wantA] at hl; omega)
    have hpr : pr (.mk (6, v) [a, b]) = pr a + pr b := by rw [pr_two]; simp [isPr]
    have hsp2 : sp + pr (.mk (6, v) [a, b]) = sp + pr a + pr b := by rw [hpr]; omega
    rw [hpr] at hroom hlen
    obtain ⟨F, A, e1, w1⟩ := ih a (by simp) sp ops hsp (by omega) (by omega)
    have hA := w1.len
    obtain ⟨G, B, e2, w2⟩ := ih b (by simp) (sp + pr a) (ops ++ A) (by omega) (by omega) (by rw [List.length_append]; omega)
    have mF := lt_mono (L := sp + pr a + pr b) w1.mask (by omega)
    have m1 := xor_mask mF w2.mask w1.free w2.free
    refine ⟨(F.1 ^^^ G.1, F.2 != G.2), A ++ B, ?_, ?_, m1.2, ?_, ?_, fun s hs => ?_⟩
    · refine (br_false (by rfl)).trans ((br_false (by rfl)).trans ((br_false (by rfl)).trans ?_))
      refine bnd_of (x := a) rfl (bnd_of e1 (bnd_of (x := b) rfl (bnd_of e2 ((br_false (by rfl)).trans ((br_false (by rfl)).trans ?_)))))
      refine bnd_of (plus_ok (f := F) (g := G) (lt63 mF (by omega)) (lt63 w2.mask (by omega))) ?_
      rw [hsp2]
      simp only [List.append_assoc]
    · rw [hsp2]; exact m1.1
    · rw [hsp2]; exact WS.opsAB w1 w2
    · rw [hpr]; exact WS.lenAB w1 w2
    · rw [hsp2] at hs ⊢
      obtain ⟨r1, r2, r3⟩ := WS.two hsp (hg.kid (by simp)) (hg.kid (by simp)) w1 w2 (s := s) fun j h h' => hs j h (by omega)
      refine ⟨fun j hj => r1 j (by omega), ?_⟩
      rw [fv_plus F G, r2, r3, tv_two]; rfl
theorem work_fuel (n : Nat) (hn : n ≤ 8) : ∀ (m : Nat) (e : Ex), sizeOf e ≤ m → Good1 n e → WorkE (rev_builder_work_b.fuel m).F n e
  | 0, e, h, _ => absurd (size_pos e) (by omega)
  | m + 1, .mk (k, v) ks, h, hg =>
    @work_step (rev_builder_work_b.fuel m) n hn k v ks hg fun y hy =>
      work_fuel n hn m y (by have := size_kid (e := .mk (k, v) ks) hy; omega) (hg.kid hy)
theorem work_ok (n : Nat) (hn : n ≤ 8) (e : Ex) (hg : Good1 n e) : WorkE rev_builder_work n e :=
  work_fuel n hn (sizeOf e) e (Nat.le_refl _) hg
end W
end

section
set_option linter.unusedSectionVars false
set_option linter.unusedVariables false
set_option maxHeartbeats 1000000
namespace W
open Go.Ql
open Go hiding Op
def addOps (n : Nat) (F : Nat × Bool) : List Op := (bN F.1 12).map (fun q : Nat => opF (n : Int) [(q : Int)]) ++ (if F.2 = true then [opF (n : Int) []] else [])
theorem addOps_len (n : Nat) (F : Nat × Bool) : (addOps n F).length ≤ 13 := by
  have := bN_len F.1 12
  unfold addOps
  rw [List.length_append, List.length_map]
  cases F.2 <;> simp <;> omega
theorem GX.bad {K n : Nat} {o : Op} (h : GX K n o) : opBad o (K : Int) 0 = 0 ∧ o.2.2.1.length ≤ 2 ∧ o.1 = 2 ∧ o.2.2.2.2.2 = [] := by
  have hc := h.ctl
  obtain ⟨q, ctl, rfl, h1, h2, h3, h4, h5⟩ := h
  refine ⟨opF_bad ⟨by omega, by omega⟩ (fun c hc => ?_) ?_, hc, rfl, rfl⟩
  · obtain ⟨j, hj, rfl⟩ := List.mem_map.1 hc
    have := h3 j hj
    exact ⟨by omega, by omega, by omega⟩
  · unfold List.Nodup iL
    rw [List.pairwise_map]
    exact h4.imp fun h e => h (by omega)
def deepC (n : Nat) (e : Ex) (F : Nat × Bool) (new : List Op) : Cir := (((n + 1 + pr e : Nat) : Int), 0, new ++ addOps n F ++ new.reverse)
theorem deep_iter (n : Nat) {m : Nat} (hm : m < 2 ^ 12) (sp : Int) (ops : List Op) (h : ops.length ≤ 50000) :
    iter (fun s : Int × Int × List Op => rev_Deep.c100011 (n : Int) (Prod.fst s) (Prod.fst (Prod.snd s)) (Prod.snd (Prod.snd s)) some) ((m : Int), sp, ops) = some ((0 : Int), sp, ops ++ (bN m 12).map (fun q : Nat => opF (n : Int) [(q : Int)])) := by
  have key := iter_bits (f := fun s : Int × Int × List Op => rev_Deep.c100011 (n : Int) (Prod.fst s) (Prod.fst (Prod.snd s)) (Prod.snd (Prod.snd s)) some) 12 (by decide)
    (fun m (t : List Op) => ((m : Int), sp, t)) (fun t q => t ++ [opF (n : Int) [(q : Int)]]) (fun t => ((0 : Int), sp, t)) (fun m t => t.length + (bN m 12).length ≤ 60000)
    (fun m t h0 h1 hi => by
      have h63 : m < 2 ^ 63 := by omega
      have hb := bN_step h0 h63 h1
      rw [hb, List.length_cons] at hi
      refine ⟨?_, by rw [List.length_append, List.length_singleton]; omega⟩
      show rev_Deep.c100011 (n : Int) (m : Int) sp t some = _
      unfold rev_Deep.c100011
      rw [br_pos (by omega), tz_ok h63, bnd_val, x_ok _ _ _ _ (by omega), bnd_val, and_low h0 h63])
    (fun t _ => by
      show rev_Deep.c100011 (n : Int) ((0 : Nat) : Int) sp t some = _
      unfold rev_Deep.c100011
      rw [br_neg (by omega)]; rfl) _ m ops (Nat.le_refl _) hm (by have := bN_len m 12; omega)
  refine key.trans ?_
  rw [foldl_map (fun q : Nat => opF (n : Int) [(q : Int)])]
theorem rev_Deep_ok (n : Nat) (e : Ex) (hc : cnt e < 1099511627776) (h : (CheckA n e).1 = 0) (hr : n + 1 + pr e ≤ 12) :
    ∃ F new, WS n (n + 1) e F new ∧ rev_Deep e n = some (deepC n e F new, 0, 0) := by
  obtain ⟨hs, hn, hg, he⟩ := CheckA_good h
  obtain ⟨F, new, e1, w⟩ := work_ok n (by omega) e hg (n + 1) [] (Nat.lt_succ_self n) hr (by simp; omega)
  refine ⟨F, new, w, ?_⟩
  have hl := w.len
  have hm := lt_mono (L := 12) w.mask hr
  unfold rev_Deep
  rw [Rose_eta]
  refine bnd_of (rev_Check_ok n e (by omega)) ((br_false (by simpa using h)).trans ?_)
  refine bnd_of (rev_products_ok e (by omega)) ?_
  show br (decide (IntKind.i64.wrap (IntKind.i64.wrap ((n : Int) + 1) + (pr e : Int)) > 12)) _ _ = _
  have hw : IntKind.i64.wrap (IntKind.i64.wrap ((n : Int) + 1) + (pr e : Int)) = ((n + 1 + pr e : Nat) : Int) := by
    rw [wrap_i64 (x := (n : Int) + 1) (by omega), wrap_i64 (by omega)]; omega
  have hw1 : IntKind.i64.wrap ((n : Int) + 1) = ((n + 1 : Nat) : Int) := by rw [wrap_i64 (by omega)]; rfl
  rw [hw, br_neg (by omega), hw1]
  refine bnd_of e1 ?_
  rw [List.nil_append]
  refine bnd_of (deep_iter n hm _ new (by omega)) ?_
  have h3 : rev_Deep.c257349 (n : Int) ((n + 1 + pr e : Nat) : Int) F.2 (new ++ (bN F.1 12).map (fun q : Nat => opF (n : Int) [(q : Int)])) some = some (((n + 1 + pr e : Nat) : Int), new ++ addOps n F) := by
    have := bN_len F.1 12
    unfold rev_Deep.c257349 addOps
    cases hF : F.2 with
    | false => rw [br_ff, if_neg (by decide), List.append_nil]
    | true =>
      rw [br_tt, x_ok _ _ _ _ (by rw [List.length_append, List.length_map]; omega), bnd_val, if_pos rfl, List.append_assoc]
  refine bnd_of h3 ?_
  have h4 := undo_ok [] new (addOps n F) ((n + 1 + pr e : Nat) : Int) (fun o ho => (w.ops o ho).bx) (fun o ho => by have := (w.ops o ho).ctl; omega) (by have := addOps_len n F; simp only [List.length_append, List.length_nil]; omega)
  rw [List.nil_append] at h4
  refine bnd_of h4 ?_
  rfl
end W
end

section
set_option linter.unusedSectionVars false
set_option linter.unusedVariables false
set_option maxHeartbeats 1000000
namespace W
open Go.Ql
open Go hiding Op
theorem eqTP (f g : Int × Int) : Ty.eqT (Ty.pair (Ty.int IntKind.i64) (Ty.int IntKind.i64)) f g = decide (f = g) := by
  obtain ⟨a, b⟩ := f
  obtain ⟨c, d⟩ := g
  rw [Bool.eq_iff_iff, decide_eq_true_eq, Prod.mk.injEq]
  simp [Ty.eqT]
theorem sameLists_ok (a b : List (List Int)) (ha : a.length ≤ 100000) (hl : ∀ l ∈ a, l.length ≤ 100000) : R_SameLists a b = some (decide (a = b)) := by
  unfold R_SameLists
  by_cases hlen : a.length = b.length
  · rw [br_false (by simp [hlen])]
    have h : ∃ r, iter (fun s : Int => R_SameLists.c100004 a b s some) (0 : Int) = some r ∧ sel r (fun _ => some false) (fun _ => some true) = some (decide (a = b)) := by
      refine iter_upto a.length (fun i s => s = (i : Int) ∧ a.take i = b.take i) _ ?_ ?_ ⟨rfl, rfl⟩
      · rintro i s hi ⟨rfl, h1⟩
        have hib : i < b.length := by omega
        have hc : R_SameLists.c6 a b (i : Int) some = some (!decide (a[i] = b[i])) := by
          unfold R_SameLists.c6
          rw [idx_get hi, bnd_val, idx_get hib, bnd_val, sameInts_ok _ _ (by have := hl _ (List.getElem_mem hi); omega), bnd_val]
        unfold R_SameLists.c100004
        rw [br_pos (by omega), hc, bnd_val]
        by_cases e : a[i] = b[i]
        · refine .inl ⟨((i + 1 : Nat) : Int), ?_, rfl, ?_⟩
          · rw [br_false (by simp [e]), wrap_i64 (by omega)]; rfl
          · rw [List.take_succ_eq_append_getElem hi, List.take_succ_eq_append_getElem hib, h1, e]
        · refine .inr ⟨.inl (i : Int), br_true (by simp [e]), ?_⟩
          rw [sel_inl, decide_eq_false]
          rintro rfl
          exact e rfl
      · rintro s ⟨rfl, h1⟩
        refine ⟨.inr (a.length : Int), ?_, ?_⟩
        · unfold R_SameLists.c100004
          rw [br_neg (by omega)]
        · rw [sel_inr, decide_eq_true]
          rw [List.take_length, hlen, List.take_length] at h1
          exact h1
    obtain ⟨r, h1, h2⟩ := h
    rw [h1, bnd_val]; exact h2
  · rw [br_true (by simp; omega), decide_eq_false fun e => hlen (by rw [e])]
theorem tame_ok (c : Cir) (q k : Int) (g : GoodC c) (hw : WCir c) (hq : c.1 = q) (hb : c.2.1 = 0) (ho : ∀ o ∈ c.2.2, o.1 = 2 ∧ o.2.2.2.2.2 = [] ∧ (o.2.2.1.length : Int) ≤ k) : Law_tame c q k = some true := by
  unfold Law_tame
  have hn := g.n
  have h : iter (fun s : Int => Law_tame.c100002 k c.2.2 (c.2.2.length : Int) s some) (0 : Int) = some (.inr (c.2.2.length : Int)) := by
    refine iter_count c.2.2.length (fun i => (i : Int)) _ ?_ ?_ rfl
    · intro i hi
      obtain ⟨h1, h2, h3⟩ := ho _ (List.getElem_mem hi)
      have hc : Law_tame.c4 k (c.2.2[i]).1 (c.2.2[i]).2.2.1 (c.2.2[i]).2.2.2.2.2 some = some false := by
        unfold Law_tame.c4
        rw [h1, h2, br_false (by rfl), br_neg (by simp), decide_eq_false (by omega)]
      unfold Law_tame.c100002
      rw [br_pos (by omega), idx_get hi, bnd_val, hc, bnd_val, br_ff, wrap_i64 (by omega)]
      rfl
    · unfold Law_tame.c100002
      rw [br_neg (by omega)]
  have h7 : Law_tame.c7 q c.1 c.2.1 c.2.2 some = some true := by
    unfold Law_tame.c7
    rw [br_true (by simpa using hq), br_true (by simpa using hb), rcheck_ok (c.1, c.2.1, c.2.2) hw, bnd_val]
    show some (((chk c).1 == 0)) = _
    rw [g.chk]; rfl
  rw [h, bnd_val, sel_inr, h7, bnd_val]
def exE : Ex := .mk (5, 0) [.mk (1, 0) [], .mk (1, 1) []]
theorem exE_chk : CheckA 2 exE = (0, 0) := by decide +kernel
theorem exE_cnt : cnt exE = 3 := by decide +kernel
theorem exE_nf : nf 2 exE = [[0], [1], [0, 1]] := by decide +kernel
theorem exE_pr : pr exE = 1 := by decide +kernel
theorem ck_ex : ckTab [1, 0] = (1, 0, 0) := by decide +kernel
theorem begun_ok : Law_revBegun = some true := by
  unfold Law_revBegun
  have h0 : (CheckA 2 exE).1 = 0 := by rw [exE_chk]
  have h1 : rev_Normal exE 2 = some (nf 2 exE, 0, 0) := rev_Normal_nf 2 exE (by rw [exE_cnt]; decide) h0
  obtain ⟨F, new, w, h2⟩ := rev_Deep_ok 2 exE (by rw [exE_cnt]; decide) h0 (by rw [exE_pr]; decide)
  have h3 : ∃ T, rev_Table [1, 0] = some (tabC 1 T, 0, 0) := by
    rcases rev_Table_ok [1, 0] (by decide) with ⟨hb, _⟩ | ⟨n, l, C, T, R, a1, a2, a3, a4, a5, a6, a7⟩
    · rw [ck_ex] at hb; exact absurd rfl hb
    · rw [ck_ex] at a4
      have : n = 1 := by
        have := congrArg Prod.fst a4
        simp only at this; omega
      subst this
      exact ⟨T, a7⟩
  obtain ⟨T, h3⟩ := h3
  refine bnd_of h1 (bnd_of h2 (bnd_of h3 ?_))
  have h4 : Law_revBegun.c5 (nf 2 exE) 0 (((2 + 1 + pr exE : Nat) : Int)) 0 1 0 some = some true := by
    unfold Law_revBegun.c5
    rw [exE_nf, exE_pr, sameLists_ok _ _ (by decide) (by decide)]
    rfl
  exact bnd_of h4 rfl
end W
end

section
set_option linter.unusedSectionVars false
set_option linter.unusedVariables false
set_option maxHeartbeats 1000000
namespace W
open Go.Ql
open Go hiding Op
theorem plays_law (c : Cir) (x : Int) (hc : WCir c) : Law_RevPlays c x = some true := by
  unfold Law_RevPlays
  refine bnd_of (copyCircuit_ok c hc) (bnd_of (rev_Play_ok c x hc) (bnd_of (R_Classical_ok c x hc) ?_))
  have h : Law_RevPlays.c3 (playA c x).1 (playA c x).1 (playA c x).2.1 (playA c x).2.2 (playA c x).2.1 (playA c x).2.2 some = some true := by
    unfold Law_RevPlays.c3
    rw [begun_ok, bnd_val, br_tt, eqTP, decide_eq_true rfl, br_tt, beq_self_eq_true]
  exact bnd_of h rfl
theorem nix_same : R_SameCircuit (0, 0, []) (0, 0, []) = some true := by
  rw [sameCircuit_ok _ _ ⟨by decide, fun o ho => absurd ho (List.not_mem_nil (a := o))⟩, decide_eq_true rfl]
theorem mul_pow {n : Nat} (h : n ≤ 6) : IntKind.i64.wrap ((n : Int) * (2 : Int) ^ Min.min (Int.toNat (n : Int)) (64 : Nat)) = ((n * 2 ^ n : Nat) : Int) := by
  have : n = 0 ∨ n = 1 ∨ n = 2 ∨ n = 3 ∨ n = 4 ∨ n = 5 ∨ n = 6 := by omega
  rcases this with rfl | rfl | rfl | rfl | rfl | rfl | rfl <;> decide
theorem wcir_good {c : Cir} (g : GoodC c) (h : ∀ o ∈ c.2.2, o.2.2.1.length ≤ 100 ∧ o.2.2.2.2.2 = []) : WCir c :=
  ⟨by have := g.n; omega, fun o ho => ⟨by have := (h o ho).1; omega, by rw [(h o ho).2]; decide⟩⟩
theorem tables_law (p : List Int) (hp : p.length ≤ 17592186043904) : Law_RevTables p = some true := by
  unfold Law_RevTables
  rw [okIf_len (by omega), bnd_val]
  rcases rev_Table_ok p (by omega) with ⟨hb, h1⟩ | ⟨n, l, C, T, R, hn, rfl, hl, hck, ht, hC, h1⟩
  · refine bnd_of h1 (bnd_of (R_CheckTable_ok p) ?_)
    have h4 : Law_RevTables.c4 p p (ckTab p).2.1 (ckTab p).2.2 (ckTab p).2.1 (ckTab p).2.2 some = some false := by
      unfold Law_RevTables.c4
      rw [begun_ok, bnd_val, Bool.not_true, br_ff, eqTP, decide_eq_true rfl, Bool.not_true, br_ff, sameInts_ok p p hp, bnd_val, decide_eq_true rfl]
      rfl
    refine bnd_of h4 (br_ff.trans ?_)
    refine (br_true (by simpa using hb)).trans ?_
    exact bnd_of nix_same rfl
  · refine bnd_of h1 (bnd_of (R_CheckTable_ok (iL l)) ?_)
    rw [hck]
    have h4 : Law_RevTables.c4 (iL l) (iL l) 0 0 0 0 some = some false := by
      unfold Law_RevTables.c4
      rw [begun_ok, bnd_val, Bool.not_true, br_ff, eqTP, decide_eq_true rfl, Bool.not_true, br_ff, sameInts_ok _ _ hp, bnd_val, decide_eq_true rfl]
      rfl
    refine bnd_of h4 (br_ff.trans ?_)
    refine (br_false (by rfl)).trans ?_
    have g := tabC_good hn ht hC
    have hctl : ∀ o ∈ (tabC n T).2.2, o.1 = 2 ∧ o.2.2.2.2.2 = [] ∧ (o.2.2.1.length : Int) ≤ n := fun o ho => by
      obtain ⟨s, hs, rfl⟩ := List.mem_map.1 (List.mem_reverse.1 ho)
      refine ⟨rfl, rfl, ?_⟩
      show ((iL (bN s.2 12)).length : Int) ≤ n
      have hlt := (ht.good s hs).2.1
      have : bN s.2 12 = bN s.2 n := by
        refine ext_inc (lt := (· < ·)) Nat.lt_irrefl (fun a b c => Nat.lt_trans) (bN_inc _ _) (bN_inc _ _) fun j => ?_
        rw [bN_mem, bN_mem]
        exact ⟨fun h => ⟨mask_bit hlt h.2, h.2⟩, fun h => ⟨by omega, h.2⟩⟩
      rw [iL_len, this]
      have := bN_len s.2 n
      omega
    have hw : WCir (tabC n T) := wcir_good g fun o ho => ⟨by have := hctl o ho; omega, (hctl o ho).2.1⟩
    have h8 : Law_RevTables.c8 (n : Int) (n : Int) 0 (T.map togOp).reverse some = some false := by
      unfold Law_RevTables.c8
      refine bnd_of (tame_ok (tabC n T) n n g hw rfl rfl hctl) ?_
      rw [Bool.not_true, br_ff, ok0, bnd_val, mul_pow hn.2]
      refine congrArg some (decide_eq_false ?_)
      have := ht.cost
      rw [List.length_reverse, List.length_map]
      have hc2 : 2 ^ n * n = n * 2 ^ n := Nat.mul_comm _ _
      omega
    refine bnd_of h8 (br_ff.trans ?_)
    have h64 : 2 ^ n ≤ 2 ^ 6 := Nat.pow_le_pow_right (by decide) hn.2
    have hll : l.length = 2 ^ n := by rw [← hl, iL_len]
    have key : iter (fun s : Int => Law_RevTables.c100011 (iL l) ((iL l).length : Int) s (n : Int) 0 (T.map togOp).reverse some) (0 : Int) = some (.inr ((iL l).length : Int)) := by
      refine iter_count (iL l).length (fun i => (i : Int)) _ ?_ ?_ rfl
      · intro i hi
        have hi' : i < l.length := by rwa [iL_len] at hi
        have hpl : playA (tabC n T) (i : Int) = ((l[i] : Int), 0, 0) := by
          rw [playA_run g (tabC_X n T) (by show i < 2 ^ Int.toNat (n : Int); rw [Int.toNat_natCast]; omega), tabC_run hn ht hll hi']
        have hcl : R_Classical ((n : Int), 0, (T.map togOp).reverse) (i : Int) = some ((l[i] : Int), 0, 0) := by
          rw [← hpl]; exact R_Classical_ok (tabC n T) (i : Int) hw
        have hd : Law_RevTables.c14 (iL l) (i : Int) (l[i] : Int) 0 some = some false := by
          unfold Law_RevTables.c14
          rw [br_false (by rfl), iL_get hi', bnd_val, bne_self_eq_false]
        unfold Law_RevTables.c100011
        rw [br_pos (by omega), hcl, bnd_val]
        refine bnd_of hd ?_
        rw [br_ff, wrap_i64 (by omega)]
        rfl
      · unfold Law_RevTables.c100011
        rw [br_neg (by omega)]
    exact bnd_of key rfl
end W
end

section
set_option linter.unusedSectionVars false
set_option linter.unusedVariables false
set_option maxHeartbeats 1000000
namespace W
open Go.Ql
open Go hiding Op
end W
end

section
set_option linter.unusedSectionVars false
set_option linter.unusedVariables false
set_option maxHeartbeats 1000000
namespace W
open Go.Ql
open Go hiding Op
end W
end

section
set_option linter.unusedSectionVars false
set_option linter.unusedVariables false
namespace W
open Go.Ql
open Go hiding Op
abbrev opTyV : Ty := .st (.pair (.int .i64) (.pair (.int .i64) (.pair (.sl (.int .i64)) (.pair (.int .i64) (.pair (.int .i64) (.sl (.int .i64)))))))
abbrev cirTyV : Ty := .st (.pair (.int .i64) (.pair (.int .i64) (.sl opTyV)))
theorem opV_bytes : opTyV.bytes = 80 := by decide
theorem intV_bytes : (Ty.int .i64).bytes = 8 := by decide
theorem wcirV_of {c : Cir} (h : Wf cirTyV c) : WCir c := by
  obtain ⟨_, _, h1, _, h2⟩ := h
  refine ⟨?_, fun o ho => ?_⟩
  · rw [opV_bytes] at h1
    have : c.2.2.length * 80 ≤ 140737488351232 := h1
    omega
  · obtain ⟨_, _, ⟨h3, _⟩, _, _, h4, _⟩ := h2 o ho
    rw [intV_bytes] at h3 h4
    have h3 : o.2.2.1.length * 8 ≤ 140737488351232 := h3
    have h4 : o.2.2.2.2.2.length * 8 ≤ 140737488351232 := h4
    exact ⟨by omega, by omega⟩
theorem plays_wf : ∀ x : dens [cirTyV, .int .i64], WfL [cirTyV, .int .i64] x → Law_RevPlays.ce.F x = some true := by
  intro x h
  exact plays_law x.1 x.2 (wcirV_of h.1)
theorem tables_wf : ∀ x : dens [.sl (.int .i64)], WfL [.sl (.int .i64)] x → Law_RevTables.ce.F x = some true := by
  intro x h
  have h1 : List.length x * 8 ≤ 140737488351232 := by
    have := h.1
    rwa [intV_bytes] at this
  exact tables_law x (by omega)
end W
end
