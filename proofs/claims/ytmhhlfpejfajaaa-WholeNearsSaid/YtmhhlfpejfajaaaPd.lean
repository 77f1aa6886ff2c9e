/- Plain laws: texts written. -/
import Derived.Test.YtmhhlfpejfajaaaPc
section
/- A number has one decimal text. -/
namespace Go.Ql
theorem dg_inj {c d : UInt8} (h : dg c = dg d) : c = d := by
  apply UInt8.toNat_inj.1
  unfold dg at h; omega
theorem dec_cons (c : UInt8) (l : List UInt8) : dec (c :: l) = dg c * 10 ^ l.length + dec l := by
  have h3 := dec_append [c] l
  have h4 : dec [c] = dg c := by simp [dec]
  rw [List.singleton_append, h4] at h3
  exact h3
theorem dec_inj : ∀ {l m : List UInt8}, Digits l → Digits m → l.length = m.length → dec l = dec m → l = m
  | [], [], _, _, _, _ => rfl
  | c :: l, d :: m, hl, hm, e, h => by
    have hl' : Digits l := fun x hx => hl x (List.mem_cons_of_mem _ hx)
    have hm' : Digits m := fun x hx => hm x (List.mem_cons_of_mem _ hx)
    have e' : l.length = m.length := by simpa using e
    have b1 := dec_bound hl'
    have b2 := dec_bound hm'
    rw [dec_cons, dec_cons, e'] at h
    rw [e'] at b1
    have hP : (0 : Int) < 10 ^ m.length := Int.pow_pos (by decide)
    have hc : dg c = dg d := by
      rcases Int.lt_trichotomy (dg c) (dg d) with h1 | h1 | h1
      · have := Int.mul_le_mul_of_nonneg_right (show dg c + 1 ≤ dg d by omega) (Int.le_of_lt hP)
        rw [Int.add_mul] at this; omega
      · exact h1
      · have := Int.mul_le_mul_of_nonneg_right (show dg d + 1 ≤ dg c by omega) (Int.le_of_lt hP)
        rw [Int.add_mul] at this; omega
    rw [hc] at h
    rw [dg_inj hc, dec_inj hl' hm' e' (by omega)]
  | [], _ :: _, _, _, e, _ => by simp at e
  | _ :: _, [], _, _, e, _ => by simp at e
theorem dec_ge {l : List UInt8} (h : Digits l) (hn : l ≠ []) (h0 : l.head? ≠ some 48) : 10 ^ (l.length - 1) ≤ dec l := by
  cases l with
  | nil => exact absurd rfl hn
  | cons c l =>
    have hl' : Digits l := fun x hx => h x (List.mem_cons_of_mem _ hx)
    have b1 := dec_bound hl'
    have hd := dg_of (h c (List.mem_cons_self ..))
    have h1 : dg c ≠ 0 := fun e => h0 (by
      have : dg c = dg 48 := by rw [e]; rfl
      rw [dg_inj this]; rfl)
    rw [dec_cons]
    have hP : (0 : Int) < 10 ^ l.length := Int.pow_pos (by decide)
    have := Int.mul_le_mul_of_nonneg_right (show 1 ≤ dg c by omega) (Int.le_of_lt hP)
    simp only [List.length_cons, Nat.add_sub_cancel]
    omega
/-- Digits without a nought ahead: the number tells them. -/
theorem dec_one {l m : List UInt8} (hl : Digits l) (hm : Digits m) (nl : l ≠ []) (nm : m ≠ []) (l0 : l.head? ≠ some 48) (m0 : m.head? ≠ some 48) (h : dec l = dec m) : l = m := by
  have ll : l.length ≠ 0 := fun e => nl (List.eq_nil_of_length_eq_zero e)
  have lm : m.length ≠ 0 := fun e => nm (List.eq_nil_of_length_eq_zero e)
  have g1 := dec_ge hl nl l0
  have g2 := dec_ge hm nm m0
  have b1 := (dec_bound hl).2
  have b2 := (dec_bound hm).2
  refine dec_inj hl hm ?_ h
  rcases Nat.lt_trichotomy l.length m.length with e | e | e
  · have := pow_le (B := 10) (by decide) (show l.length ≤ m.length - 1 by omega); omega
  · exact e
  · have := pow_le (B := 10) (by decide) (show m.length ≤ l.length - 1 by omega); omega
end Go.Ql
end

section
/- The reference's text is the decimal text. -/
namespace Go.Ql
theorem val_drop (B : Int) : ∀ (i : Nat) (l : List Int), i < l.length → val B (l.drop i) = l.getD i 0 + B * val B (l.drop (i + 1))
  | _, [], h => by simp at h
  | 0, d :: l, _ => by simp [val]
  | i + 1, d :: l, h => by
    have := val_drop B i l (by simpa using h)
    simpa using this
/-- Bytes out of numbers. -/
def bytes (l : List Int) : List UInt8 := l.map fun n ↦ UInt8.ofNat (Int.toNat n)
theorem byte_dg {d : Int} (h : 0 ≤ d ∧ d ≤ 9) : isDigit (UInt8.ofNat (Int.toNat (48 + d))) = true ∧ dg (UInt8.ofNat (Int.toNat (48 + d))) = d := by
  have h1 : (UInt8.ofNat (Int.toNat (48 + d))).toNat = Int.toNat (48 + d) := by
    rw [UInt8.toNat_ofNat']; omega
  unfold isDigit dg
  rw [h1]
  constructor
  · simp; omega
  · omega
/-- The decimal text of a number that is not negative, by its digits. -/
def IsDec (l : List UInt8) (v : Int) : Prop := Digits l ∧ l ≠ [] ∧ l.head? ≠ some 48 ∧ dec l = v
def four (d : Int) : List Int := [48 + d / 1000, 48 + d / 100 % 10, 48 + d / 10 % 10, 48 + d % 10]
theorem four_digits {d : Int} (h : 0 ≤ d ∧ d < 10000) : Digits (bytes (four d)) ∧ dec (bytes (four d)) = d := by
  have a := byte_dg (d := d / 1000) (by omega)
  have b := byte_dg (d := d / 100 % 10) (by omega)
  have c := byte_dg (d := d / 10 % 10) (by omega)
  have e := byte_dg (d := d % 10) (by omega)
  constructor
  · intro x hx
    simp only [bytes, four, List.map_cons, List.map_nil, List.mem_cons, List.not_mem_nil, or_false] at hx
    rcases hx with rfl | rfl | rfl | rfl
    · exact a.1
    · exact b.1
    · exact c.1
    · exact e.1
  · simp only [bytes, four, List.map_cons, List.map_nil, dec, List.foldl_cons, List.foldl_nil, a.2, b.2, c.2, e.2]
    omega
theorem c9_ok {a1 : List Int} (h : Dig 10000 a1) (i : Nat) (hi : i < a1.length) : W.R_ZText.c9 (i : Int) a1 Option.some = some (four (a1.getD i 0)) := by
  have hd := h.getD (by decide) i
  unfold W.R_ZText.c9
  rw [idx_of i rfl hi]
  simp only [bnd_val]
  generalize a1.getD i 0 = d at *
  rw [tdiv_pos hd.1, tdiv_pos hd.1, tdiv_pos hd.1, wrap_i64 (x := d / 1000) (by omega), wrap_i64 (x := d / 100) (by omega), wrap_i64 (x := d / 10) (by omega), tmod_pos (by omega), tmod_pos (by omega), tmod_pos (by omega)]
  rw [wrap_i64 (x := 48 + d / 1000) (by omega), wrap_i64 (x := 48 + d / 100 % 10) (by omega), wrap_i64 (x := 48 + d / 10 % 10) (by omega), wrap_i64 (x := 48 + d % 10) (by omega)]
  rw [IntWalk.u8_in (48 + d / 1000) (by omega), IntWalk.u8_in (48 + d / 100 % 10) (by omega), IntWalk.u8_in (48 + d / 10 % 10) (by omega), IntWalk.u8_in (48 + d % 10) (by omega)]
  rfl
end Go.Ql
end

section
/- The reference's text: its loops. -/
namespace Go.Ql
/-- Noughts ahead of the highest four are left out. -/
theorem strip_ok (a1 : List Int) (i : Nat) (hi : i < a1.length) (hL : a1.length < 1000000) (F : List Int) (hF : F.length = 4) :
    ∃ k : Nat, iter (fun s ↦ W.R_ZText.c100011 (i : Int) F s a1 Option.some) (0 : Int) = some (k : Int) ∧ k ≤ 3 ∧ (i + 1 ≠ a1.length → k = 0) ∧ (∀ j, j < k → F.getD j 0 = 48) ∧ (i + 1 = a1.length → k < 3 → F.getD k 0 ≠ 48) := by
  obtain ⟨r, h1, k, h2, h3⟩ := iter_loop (f := fun s : Int ↦ W.R_ZText.c100011 (i : Int) F s a1 Option.some)
    (J := fun s => ∃ k : Nat, s = k ∧ k ≤ 3 ∧ (i + 1 ≠ a1.length → k = 0) ∧ (∀ j, j < k → F.getD j 0 = 48))
    (Q := fun s => ∃ k : Nat, s = k ∧ k ≤ 3 ∧ (i + 1 ≠ a1.length → k = 0) ∧ (∀ j, j < k → F.getD j 0 = 48) ∧ (i + 1 = a1.length → k < 3 → F.getD k 0 ≠ 48))
    (fun s => 3 - s.toNat) (fun s ⟨k, hs, hk, hk0, hz⟩ => by
      subst hs
      simp only [W.R_ZText.c100011]
      have e : W.R_ZText.c11 (i : Int) F (k : Int) a1 Option.some = some (decide (i + 1 = a1.length ∧ k < 3 ∧ F.getD k 0 = 48)) := by
        unfold W.R_ZText.c11
        rw [wrap_i64 (by omega)]
        by_cases h : i + 1 = a1.length
        · rw [br_true (beq_iff_eq.2 (by omega))]
          by_cases h4 : k < 3
          · rw [br_pos (by omega), idx_of k rfl (by omega), bnd_val]
            congr 1
            by_cases h5 : F.getD k 0 = 48
            · rw [h5]; simp [h, h4]
            · rw [beq_false_of_ne h5, decide_eq_false (fun h6 => h5 h6.2.2)]
          · rw [br_neg (by omega), decide_eq_false (by omega)]
        · rw [br_false (beq_false_of_ne (by omega)), decide_eq_false (by omega)]
      rw [e, bnd_val]
      by_cases h : i + 1 = a1.length ∧ k < 3 ∧ F.getD k 0 = 48
      · rw [br_pos h]
        refine Or.inr ⟨((k + 1 : Nat) : Int), by rw [wrap_i64 (by omega)]; rfl, ⟨k + 1, rfl, by omega, fun h' => absurd h.1 h', fun j hj => ?_⟩, by omega⟩
        by_cases h8 : j = k
        · subst h8; exact h.2.2
        · exact hz j (by omega)
      · rw [br_neg h]
        exact Or.inl ⟨_, rfl, k, rfl, hk, hk0, hz, fun h1 h2 h3 => h ⟨h1, h2, h3⟩⟩)
    (s := (0 : Int)) ⟨0, rfl, by omega, fun _ => rfl, fun j hj => by omega⟩
  exact ⟨k, by rw [h1, h2], h3⟩
end Go.Ql
end

section
/- The reference's text, whole. -/
namespace Go.Ql
theorem bytes_drop (l : List Int) (k : Nat) : bytes (l.drop k) = (bytes l).drop k := by simp [bytes]
theorem bytes_len (l : List Int) : (bytes l).length = l.length := by simp [bytes]
/-- Behind noughts the same number. -/
theorem dec_skip : ∀ (k : Nat) (l : List UInt8), (∀ j (h : j < l.length), j < k → l[j] = 48) → dec (l.drop k) = dec l
  | 0, _, _ => rfl
  | k + 1, [], _ => by simp
  | k + 1, c :: l, h => by
    have h0 : c = 48 := h 0 (by simp) (by omega)
    rw [List.drop_succ_cons, dec_skip k l (fun j hj hk => h (j + 1) (by simpa using hj) (by omega)), dec_cons, h0]
    simp [dg]
theorem IsDec.snoc {l : List UInt8} {v d : Int} (h : IsDec l v) (hd : 0 ≤ d ∧ d < 10000) : IsDec (l ++ bytes (four d)) (d + 10000 * v) := by
  obtain ⟨h1, h2, h3, h4⟩ := h
  have hf := four_digits hd
  refine ⟨fun c hc => ?_, by simp [h2], ?_, ?_⟩
  · rcases List.mem_append.1 hc with hc | hc
    · exact h1 c hc
    · exact hf.1 c hc
  · cases l with
    | nil => exact absurd rfl h2
    | cons c l => exact h3
  · rw [dec_append, hf.2, h4, bytes_len]
    show v * 10 ^ 4 + d = _
    omega
theorem getD_byte (F : List Int) (j : Nat) (h : j < (bytes F).length) : (bytes F)[j] = UInt8.ofNat (F.getD j 0).toNat := by
  have h' : j < F.length := by rwa [bytes_len] at h
  simp [bytes, List.getD, h']
theorem IsDec.first {d : Int} (hd : 0 ≤ d ∧ d < 10000) (h0 : d ≠ 0) {k : Nat} (hk : k ≤ 3) (hz : ∀ j, j < k → (four d).getD j 0 = 48) (hn : k < 3 → (four d).getD k 0 ≠ 48) : IsDec ((bytes (four d)).drop k) d := by
  have hf := four_digits hd
  have hl : (bytes (four d)).length = 4 := by rw [bytes_len]; rfl
  have hdec : dec ((bytes (four d)).drop k) = d := by
    rw [dec_skip k _ (fun j hj hjk => by rw [getD_byte, hz j hjk]; rfl), hf.2]
  have hne : (bytes (four d)).drop k ≠ [] := by
    intro e
    have := congrArg List.length e
    rw [List.length_drop, hl] at this
    simp at this; omega
  refine ⟨fun c hc => hf.1 c (List.mem_of_mem_drop hc), hne, fun e => ?_, hdec⟩
  by_cases h3 : k < 3
  · rw [List.head?_drop, List.getElem?_eq_getElem (by omega), getD_byte] at e
    have h5 := Option.some.inj e
    have hg : 48 ≤ (four d).getD k 0 ∧ (four d).getD k 0 ≤ 57 := by
      rcases (by omega : k = 0 ∨ k = 1 ∨ k = 2) with rfl | rfl | rfl <;> simp [four] <;> omega
    apply hn h3
    have h6 := congrArg UInt8.toNat h5
    rw [UInt8.toNat_ofNat'] at h6
    have h7 : (48 : UInt8).toNat = 48 := rfl
    rw [h7] at h6
    omega
  · have : ∃ c, (bytes (four d)).drop k = [c] := by
      have hx : ((bytes (four d)).drop k).length = 1 := by rw [List.length_drop, hl]; omega
      exact List.length_eq_one_iff.1 hx
    obtain ⟨c, hc⟩ := this
    rw [hc] at e hdec
    simp at e
    rw [e] at hdec
    apply h0
    rw [← hdec]; rfl
/-- The decimal text of a number. -/
def Txt (v : Int) (l : List UInt8) : Prop := (v = 0 ∧ l = [48]) ∨ (v ≠ 0 ∧ ∃ D, IsDec D (v.natAbs : Int) ∧ l = (if v < 0 then [45] else []) ++ D)
theorem Txt.one {v : Int} {l m : List UInt8} (h : Txt v l) (k : Txt v m) : l = m := by
  rcases h with ⟨h1, h2⟩ | ⟨h1, D, h2, h3⟩ <;> rcases k with ⟨k1, k2⟩ | ⟨k1, E, k2, k3⟩
  · rw [h2, k2]
  · exact absurd h1 k1
  · exact absurd k1 h1
  · rw [h3, k3, dec_one h2.1 k2.1 h2.2.1 k2.2.1 h2.2.2.1 k2.2.2.1 (h2.2.2.2.trans k2.2.2.2.symm)]
end Go.Ql
end

section
/- The reference's text of a number is its decimal text. -/
namespace Go.Ql
theorem ztext_loop (sg : List UInt8) (a1 : List Int) (hd : Dig 10000 a1) (ht : Trim a1) (hn : a1 ≠ []) (hL : a1.length < 1000000) (hs : sg.length ≤ 1) :
    ∃ r : List UInt8 × Int, iter (fun s : List UInt8 × Int ↦ W.R_ZText.c100007 (Prod.fst s) (Prod.snd s) a1 Option.some) (sg, (a1.length : Int) - 1) = some r ∧ ∃ l, r.1 = sg ++ l ∧ IsDec l (val 10000 a1) := by
  have hlen : a1.length ≠ 0 := fun e => hn (List.eq_nil_of_length_eq_zero e)
  exact iter_loop (f := fun s : List UInt8 × Int ↦ W.R_ZText.c100007 (Prod.fst s) (Prod.snd s) a1 Option.some)
    (J := fun s => ∃ k : Nat, s.2 = (k : Int) - 1 ∧ k ≤ a1.length ∧ ∃ l, s.1 = sg ++ l ∧ l.length ≤ 4 * (a1.length - k) ∧ ((k = a1.length ∧ l = []) ∨ (k < a1.length ∧ IsDec l (val 10000 (a1.drop k)))))
    (Q := fun r => ∃ l, r.1 = sg ++ l ∧ IsDec l (val 10000 a1))
    (fun s => (s.2 + 1).toNat) (fun ⟨text, i'⟩ ⟨k, hi, hk, l, hl, hll, hc⟩ => by
      simp only at hi hl ⊢
      subst hi
      simp only [W.R_ZText.c100007]
      by_cases h0 : k = 0
      · subst h0
        rw [br_neg (by omega)]
        rcases hc with ⟨h1, _⟩ | ⟨h1, h2⟩
        · omega
        · exact Or.inl ⟨(_, _), rfl, l, hl, h2⟩
      · obtain ⟨i, rfl⟩ : ∃ i : Nat, k = i + 1 := ⟨k - 1, by omega⟩
        have hi : i < a1.length := by omega
        have hdi := hd.getD (by decide) i
        obtain ⟨t, h1, h2, h3, h4, h5⟩ := strip_ok a1 i hi hL (four (a1.getD i 0)) rfl
        rw [br_pos (by omega), show ((i + 1 : Nat) : Int) - 1 = (i : Int) by omega, c9_ok hd i hi, bnd_val, h1, bnd_val]
        have e4 : (four (a1.getD i 0)).length = 4 := rfl
        rw [okIf_true (by rw [e4]; simp; omega), bnd_val, Int.toNat_natCast, Int.toNat_natCast, List.take_length]
        have hpl : (List.map (fun n ↦ UInt8.ofNat (Int.toNat n)) (List.drop t (four (a1.getD i 0)))).length ≤ 4 := by
          rw [List.length_map, List.length_drop, e4]; omega
        have htl : text.length ≤ 1 + 4 * a1.length := by rw [hl, List.length_append]; omega
        rw [okIf_true (by simp only [decide_eq_true_eq]; omega), bnd_val, wrap_i64 (by omega)]
        refine Or.inr ⟨(_, _), rfl, ⟨i, rfl, by omega, l ++ (bytes (four (a1.getD i 0))).drop t, ?_, ?_, Or.inr ⟨hi, ?_⟩⟩, by simp only; omega⟩
        · simp only
          rw [hl, ← bytes_drop, List.append_assoc]; rfl
        · rw [List.length_append, List.length_drop, bytes_len, e4]; omega
        · rw [val_drop 10000 i a1 hi]
          rcases hc with ⟨h6, h7⟩ | ⟨h6, h7⟩
          · have hd0 : a1.getD i 0 ≠ 0 := by
              have := ht hn
              rwa [show a1.length - 1 = i by omega] at this
            have h8 : a1.drop (i + 1) = [] := List.drop_of_length_le (by omega)
            rw [h8, h7, List.nil_append]
            have := IsDec.first hdi hd0 h2 h4 (h5 h6)
            simpa [val] using this
          · have h9 := h3 (by omega)
            subst h9
            rw [List.drop_zero]
            exact h7.snoc hdi)
    (s := (sg, (a1.length : Int) - 1)) ⟨a1.length, rfl, Nat.le_refl _, [], by simp, by simp, Or.inl ⟨rfl, rfl⟩⟩

theorem ztext_ok {a : Bool × List Int} {v : Int} (ha : Rep 10000 a v) (la : a.2.length < 1000000) : ∃ l, W.R_ZText a = some l ∧ Txt v l := by
  unfold W.R_ZText
  by_cases h0 : a.2 = []
  · rw [h0]
    refine ⟨[48], rfl, Or.inl ⟨?_, rfl⟩⟩
    rw [ha.val, h0]; simp [val]
  · have hn : a.2.length ≠ 0 := fun e => h0 (List.eq_nil_of_length_eq_zero e)
    rw [br_false (beq_false_of_ne (by omega))]
    have e1 : W.R_ZText.c216389 (Array.toList (ByteArray.data (ByteArray.mk #[]))) a.1 Option.some = some (if a.1 then [45] else []) := by
      unfold W.R_ZText.c216389
      cases a.1 <;> rfl
    obtain ⟨r, h1, l, h2, h3⟩ := ztext_loop (if a.1 then [45] else []) a.2 ha.dig ha.last h0 la (by split <;> simp)
    rw [e1, bnd_val, wrap_i64 (by omega), h1, bnd_val]
    have hp := ha.pos (by decide) h0
    have hv := ha.val
    refine ⟨_, rfl, Or.inr ⟨?_, l, ?_, ?_⟩⟩
    · cases hx : a.1 <;> simp only [hx, Bool.false_eq_true, if_false, if_true] at hv <;> omega
    · have : (v.natAbs : Int) = val 10000 a.2 := by
        cases hx : a.1 <;> simp only [hx, Bool.false_eq_true, if_false, if_true] at hv <;> omega
      rw [this]; exact h3
    · rw [h2]
      congr 1
      cases hx : a.1 <;> simp only [hx, Bool.false_eq_true, if_false, if_true] at hv ⊢
      · rw [if_neg (by omega)]
      · rw [if_pos (by omega)]
end Go.Ql
end

section
/- The text of a whole number: its loops. -/
namespace Go.Ql
theorem or_add {p w : Int} (hp : 0 ≤ p ∧ p < 4294967296) (hw : 0 ≤ w ∧ w < 4294967296) : ibits Go.BinOp.or Go.IntKind.u64 (IntKind.u64.wrap (p * (2 : Int) ^ (32 : Nat))) (IntKind.u64.wrap w) = p * 4294967296 + w := by
  rw [show (2 : Int) ^ 32 = 4294967296 from rfl, wrap_u64 (x := w) (by omega), wrap_u64 (x := p * 4294967296) (by omega)]
  obtain ⟨a, rfl⟩ : ∃ a : Nat, p = a := ⟨p.toNat, by omega⟩
  obtain ⟨b, rfl⟩ : ∃ b : Nat, w = b := ⟨w.toNat, by omega⟩
  have h : (BitVec.ofInt IntKind.u64.bits ((a : Int) * 4294967296) ||| BitVec.ofInt IntKind.u64.bits (b : Int)).toNat = a * 4294967296 + b := by
    rw [BitVec.toNat_or, BitVec.toNat_ofInt, BitVec.toNat_ofInt]
    have e1 : ((a : Int) * 4294967296 % ((2 ^ IntKind.u64.bits : Nat) : Int)).toNat = 2 ^ 32 * a := by
      show ((a : Int) * 4294967296 % 18446744073709551616).toNat = 4294967296 * a
      omega
    have e2 : ((b : Int) % ((2 ^ IntKind.u64.bits : Nat) : Int)).toNat = b := by
      show ((b : Int) % 18446744073709551616).toNat = b
      omega
    rw [e1, e2, ← Nat.two_pow_add_eq_or_of_lt (by omega)]
    omega
  show IntKind.u64.wrap ((BitVec.ofInt IntKind.u64.bits ((a : Int) * 4294967296) ||| BitVec.ofInt IntKind.u64.bits (b : Int)).toNat : Int) = _
  rw [h, wrap_u64 (by omega)]
  omega
/-- Division by ten to the ninth, from the top. -/
theorem tdiv_loop (a : List Int) (ha : Dig 4294967296 a) (la : a.length < 1000000000) :
    ∃ r : Int × Int × List Int, iter (fun s : Int × Int × List Int ↦ W.whole_Int_Text.c100008 (Prod.fst s) (Prod.fst (Prod.snd s)) (Prod.snd (Prod.snd s)) Option.some) ((0 : Int), IntKind.i64.wrap ((a.length : Int) - 1), a) = some r ∧
      0 ≤ r.1 ∧ r.1 < 1000000000 ∧ Dig 4294967296 r.2.2 ∧ r.2.2.length = a.length ∧ val 4294967296 a = 1000000000 * val 4294967296 r.2.2 + r.1 :=
  iter_loop (f := fun s : Int × Int × List Int ↦ W.whole_Int_Text.c100008 (Prod.fst s) (Prod.fst (Prod.snd s)) (Prod.snd (Prod.snd s)) Option.some)
    (J := fun s => ∃ k : Nat, s.2.1 = (k : Int) - 1 ∧ k ≤ a.length ∧ s.2.2.length = a.length ∧ Dig 4294967296 s.2.2 ∧ 0 ≤ s.1 ∧ s.1 < 1000000000 ∧
      val 4294967296 a = 1000000000 * (val 4294967296 s.2.2 - val 4294967296 (s.2.2.take k)) + 4294967296 ^ k * s.1 + val 4294967296 (s.2.2.take k))
    (Q := fun r => 0 ≤ r.1 ∧ r.1 < 1000000000 ∧ Dig 4294967296 r.2.2 ∧ r.2.2.length = a.length ∧ val 4294967296 a = 1000000000 * val 4294967296 r.2.2 + r.1)
    (fun s => (s.2.1 + 1).toNat) (fun ⟨p, i', t⟩ ⟨k, hi, hk, hl, hd, hp0, hp1, hv⟩ => by
      simp only at hi hl hd hp0 hp1 hv ⊢
      subst hi
      simp only [W.whole_Int_Text.c100008]
      by_cases h0 : k = 0
      · subst h0
        rw [br_neg (by omega)]
        refine Or.inl ⟨(_, _, _), rfl, hp0, hp1, hd, hl, ?_⟩
        simp [val] at hv
        simp only
        omega
      · obtain ⟨i, rfl⟩ : ∃ i : Nat, k = i + 1 := ⟨k - 1, by omega⟩
        have hi : i < t.length := by omega
        have hdi := hd.getD (by decide) i
        rw [br_pos (by omega), show ((i + 1 : Nat) : Int) - 1 = (i : Int) by omega, inR_of (by omega) (by omega), idx_of i rfl hi]
        simp only [bnd_val]
        rw [or_add ⟨hp0, by omega⟩ hdi]
        have hset := val_set 4294967296 ((p * 4294967296 + t.getD i 0) / 1000000000) i t hi
        have htk := val_take_succ 4294967296 i t
        have htk2 : (t.set i ((p * 4294967296 + t.getD i 0) / 1000000000)).take i = t.take i := by
          rw [List.take_set_of_le (Nat.le_refl _)]
        generalize hx : t.getD i 0 = x at *
        rw [tdiv_pos (by omega), tmod_pos (by omega), wrap_u64 (x := (p * 4294967296 + x) / 1000000000) (by omega), wrap_u32 (by omega), wrap_i64 (by omega), Int.toNat_natCast]
        refine Or.inr ⟨(_, _, _), rfl, ⟨i, rfl, by omega, by simp only [List.length_set]; exact hl, hd.set (by omega) i, by simp only; omega, by simp only; omega, ?_⟩, by simp only; omega⟩
        simp only
        rw [htk2, hset]
        have hq : p * 4294967296 + x = 1000000000 * ((p * 4294967296 + x) / 1000000000) + (p * 4294967296 + x) % 1000000000 := by omega
        rw [Int.pow_succ] at hv
        generalize (p * 4294967296 + x) / 1000000000 = q at *
        generalize (p * 4294967296 + x) % 1000000000 = m at *
        generalize (4294967296 : Int) ^ i = P at *
        grind)
    (s := ((0 : Int), IntKind.i64.wrap ((a.length : Int) - 1), a)) ⟨a.length, by rw [wrap_i64 (by omega)], Nat.le_refl _, rfl, ha, Int.le_refl _, by simp only; omega, by rw [List.take_length]; simp⟩
theorem trim_of_val {B : Int} (hB : 0 < B) {l : List Int} (h : Dig B l) (hv : B ^ (l.length - 1) ≤ val B l) : Trim l := by
  intro hn h0
  have h0' : l.length ≠ 0 := fun e => hn (List.eq_nil_of_length_eq_zero e)
  have h1 := val_take_succ B (l.length - 1) l
  rw [show l.length - 1 + 1 = l.length by omega, List.take_length, h0] at h1
  have h2 := val_lt hB (h.take (l.length - 1))
  rw [show (l.take (l.length - 1)).length = l.length - 1 by rw [List.length_take]; omega] at h2
  simp at h1
  omega
/-- One round's quotient, its top nought dropped. -/
theorem tdrop_ok (a t : List Int) (p : Int) (ha : Dig 4294967296 a) (ta : Trim a) (hn : a ≠ []) (la : a.length < 1000000000) (hd : Dig 4294967296 t) (hl : t.length = a.length) (hp : 0 ≤ p ∧ p < 1000000000)
    (hv : val 4294967296 a = 1000000000 * val 4294967296 t + p) :
    ∃ r, W.whole_Int_Text.c253253 t Option.some = some r ∧ Dig 4294967296 r ∧ Trim r ∧ val 4294967296 r = val 4294967296 t ∧ r.length ≤ t.length := by
  have h0 : a.length ≠ 0 := fun e => hn (List.eq_nil_of_length_eq_zero e)
  have hg := val_ge (by decide) ha ta hn
  unfold W.whole_Int_Text.c253253
  rw [wrap_i64 (by omega), inR_of (by omega) (by omega), idx_of (t.length - 1) (by omega) (by omega)]
  simp only [bnd_val]
  by_cases hz : t.getD (t.length - 1) 0 = 0
  · rw [hz, br_true (b := ((0 : Int) == 0)) rfl, okIf_true (by simp; omega), bnd_val, show (((t.length : Int) - 1).toNat) = t.length - 1 by omega]
    have h1 := val_take_succ 4294967296 (t.length - 1) t
    rw [show t.length - 1 + 1 = t.length by omega, List.take_length, hz] at h1
    refine ⟨_, rfl, hd.take _, ?_, by omega, by rw [List.length_take]; omega⟩
    by_cases h2 : t.length = 1
    · rw [h2]; intro e; exact absurd rfl e
    · refine trim_of_val (by decide) (hd.take _) ?_
      have e1 : (t.take (t.length - 1)).length = t.length - 2 + 1 := by rw [List.length_take]; omega
      rw [e1, Nat.add_sub_cancel]
      have e2 : a.length - 1 = t.length - 2 + 1 := by omega
      rw [e2, Int.pow_succ] at hg
      have : (0 : Int) < 4294967296 ^ (t.length - 2) := Int.pow_pos (by decide)
      generalize (4294967296 : Int) ^ (t.length - 2) = P at *
      omega
  · rw [br_false (beq_false_of_ne hz)]
    exact ⟨_, rfl, hd, fun _ => hz, rfl, Nat.le_refl _⟩
end Go.Ql
end

section
/- The text of a whole number. -/
namespace Go.Ql
def chr (ds : List Int) : List Int := ds.map fun d => 48 + d
theorem chr_append (a b : List Int) : chr (a ++ b) = chr a ++ chr b := by simp [chr]
theorem chr_len (a : List Int) : (chr a).length = a.length := by simp [chr]
/-- Up to nine digits of a part, the lowest first. -/
theorem tpart_loop (t : List Int) (P : Int) (hP : 0 ≤ P ∧ P < 1000000000) (ds : List Int) (hds : Dig 10 ds) (ld : ds.length < 100000000000) :
    ∃ r : Int × Int × List Int, iter (fun s : Int × Int × List Int ↦ W.whole_Int_Text.c100016 (Prod.fst s) (Prod.fst (Prod.snd s)) (Prod.snd (Prod.snd s)) t Option.some) (P, (0 : Int), chr ds) = some r ∧
      ∃ es, r.2.2 = chr es ∧ Dig 10 es ∧ es.length ≤ ds.length + 9 ∧ (t ≠ [] → es.length = ds.length + 9) ∧ val 10 es = val 10 ds + 10 ^ ds.length * P ∧ (t = [] → P ≠ 0 → Trim es) :=
  iter_loop (f := fun s : Int × Int × List Int ↦ W.whole_Int_Text.c100016 (Prod.fst s) (Prod.fst (Prod.snd s)) (Prod.snd (Prod.snd s)) t Option.some)
    (J := fun s => ∃ k : Nat, s.2.1 = (k : Int) ∧ k ≤ 9 ∧ 0 ≤ s.1 ∧ s.1 < 10 ^ (9 - k) ∧ ∃ es, s.2.2 = chr es ∧ Dig 10 es ∧ es.length = ds.length + k ∧ val 10 es + 10 ^ es.length * s.1 = val 10 ds + 10 ^ ds.length * P ∧ (P ≠ 0 → t = [] → s.1 = 0 → Trim es))
    (Q := fun r => ∃ es, r.2.2 = chr es ∧ Dig 10 es ∧ es.length ≤ ds.length + 9 ∧ (t ≠ [] → es.length = ds.length + 9) ∧ val 10 es = val 10 ds + 10 ^ ds.length * P ∧ (t = [] → P ≠ 0 → Trim es))
    (fun s => 9 - s.2.1.toNat) (fun ⟨p, k', out⟩ ⟨k, hk', hk, hp0, hp1, es, ho, hd, hl, hv, ht⟩ => by
      simp only at hk' hp0 hp1 ho hv ht ⊢
      subst hk'
      simp only [W.whole_Int_Text.c100016]
      have e : W.whole_Int_Text.c16 p (k : Int) t Option.some = some (decide (k < 9 ∧ (0 < p ∨ t ≠ []))) := by
        unfold W.whole_Int_Text.c16
        by_cases h : k < 9
        · rw [br_pos (by omega)]
          by_cases h2 : 0 < p
          · rw [br_pos (by omega), decide_eq_true ⟨h, Or.inl h2⟩]
          · rw [br_neg (by omega)]
            congr 1
            cases t with
            | nil => simp [h2]
            | cons x t => simp [h]
        · rw [br_neg (by omega), decide_eq_false (by omega)]
      rw [e, bnd_val]
      by_cases h : k < 9 ∧ (0 < p ∨ t ≠ [])
      · rw [br_pos h]
        have h9 : (10 : Int) ^ (9 - k) ≤ 10 ^ 9 := pow_le (by decide) (by omega)
        have hp2 : p < 1000000000 := Int.lt_of_lt_of_le hp1 h9
        have hdd : Dig 10 (es ++ [p % 10]) := hd.append (Dig.cons (by omega) Dig.nil)
        have hso : chr (es ++ [p % 10]) = chr es ++ [48 + p % 10] := by rw [chr_append]; rfl
        rw [tdiv_pos hp0, tmod_pos hp0, wrap_u64 (x := 48 + p % 10) (by omega), IntWalk.u8_in (48 + p % 10) (by omega), wrap_u64 (x := p / 10) (by omega), wrap_i64 (by omega)]
        rw [okIf_true (by rw [ho]; simp [chr_len]; omega), bnd_val]
        refine Or.inr ⟨(_, _, _), rfl, ⟨k + 1, by simp, by omega, by simp only; omega, ?_, es ++ [p % 10], by simp only; rw [hso, ho], hdd, by rw [List.length_append, List.length_singleton]; omega, ?_, ?_⟩, by simp only; omega⟩
        · simp only
          rw [show 9 - k = 9 - (k + 1) + 1 by omega, Int.pow_succ] at hp1
          generalize (10 : Int) ^ (9 - (k + 1)) = A at *
          omega
        · simp only
          rw [val_snoc, List.length_append, List.length_singleton, Int.pow_succ, ← hv]
          have hq : p = 10 * (p / 10) + p % 10 := by omega
          generalize p / 10 = q at *
          generalize p % 10 = m at *
          generalize (10 : Int) ^ es.length = A at *
          subst hq
          grind
        · simp only
          intro h1 h2 h3 _ h4
          rw [List.length_append, List.length_singleton, Nat.add_sub_cancel] at h4
          simp [List.getD] at h4
          rcases h.2 with h5 | h5
          · omega
          · exact h5 h2
      · rw [br_neg h]
        have hpz : t = [] → p = 0 := fun e => by
          by_cases h9 : k < 9
          · by_cases h2 : 0 < p
            · exact absurd ⟨h9, Or.inl h2⟩ h
            · omega
          · rw [show 9 - k = 0 by omega] at hp1; simp at hp1; omega
        have hp9 : p = 0 := by
          by_cases h9 : k < 9
          · by_cases h2 : 0 < p
            · exact absurd ⟨h9, Or.inl h2⟩ h
            · omega
          · rw [show 9 - k = 0 by omega] at hp1; simp at hp1; omega
        refine Or.inl ⟨(_, _, _), rfl, es, ho, hd, by omega, fun htn => ?_, by rw [hp9] at hv; simpa using hv, fun ht1 hP0 => ht hP0 ht1 hp9⟩
        by_cases h9 : k < 9
        · exact absurd ⟨h9, Or.inr htn⟩ h
        · omega)
    (s := (P, (0 : Int), chr ds)) ⟨0, rfl, by omega, hP.1, hP.2, ds, rfl, hds, rfl, rfl, fun h1 _ h2 => absurd h2 h1⟩

/-- All rounds. -/
theorem tall_loop (a : List Int) (ha : Dig 4294967296 a) (ta : Trim a) (hn : a ≠ []) (la : a.length < 1000000) :
    ∃ r : List Int × List Int, iter (fun s : List Int × List Int ↦ W.whole_Int_Text.c100005 (Prod.fst s) (Prod.snd s) Option.some) ([], a) = some r ∧
      ∃ es, r.1 = chr es ∧ Dig 10 es ∧ es.length < 100000000 ∧ val 10 es = val 4294967296 a ∧ Trim es :=
  iter_loop (f := fun s : List Int × List Int ↦ W.whole_Int_Text.c100005 (Prod.fst s) (Prod.snd s) Option.some)
    (J := fun s => ∃ ds, s.1 = chr ds ∧ Dig 10 ds ∧ ds.length < 100000000 ∧ Dig 4294967296 s.2 ∧ Trim s.2 ∧ s.2.length ≤ a.length ∧ val 10 ds + 10 ^ ds.length * val 4294967296 s.2 = val 4294967296 a ∧ (s.2 = [] → Trim ds))
    (Q := fun r => ∃ es, r.1 = chr es ∧ Dig 10 es ∧ es.length < 100000000 ∧ val 10 es = val 4294967296 a ∧ Trim es)
    (fun s => (val 4294967296 s.2).toNat) (fun ⟨out, t⟩ ⟨ds, ho, hd, hdl, htd, htt, htl, hv, hte⟩ => by
      simp only at ho htd htt htl hv hte ⊢
      subst ho
      simp only [W.whole_Int_Text.c100005]
      by_cases h0 : t = []
      · subst h0
        rw [br_neg (by simp)]
        exact Or.inl ⟨(_, _), rfl, ds, rfl, hd, hdl, by simpa [val] using hv, hte rfl⟩
      · have h0' : t.length ≠ 0 := fun e => h0 (List.eq_nil_of_length_eq_zero e)
        have hpos : 1 ≤ val 4294967296 t := by
          have := val_ge (by decide) htd htt h0
          have h3 : (0 : Int) < 4294967296 ^ (t.length - 1) := Int.pow_pos (by decide)
          omega
        rw [br_pos (by omega)]
        obtain ⟨⟨p, i, t1⟩, h1, hp0, hp1, hd1, hl1, hv1⟩ := tdiv_loop t htd (by omega)
        simp only at hp0 hp1 hd1 hl1 hv1
        obtain ⟨r, h2, hrd, hrt, hrv, hrl⟩ := tdrop_ok t t1 p htd htt h0 (by omega) hd1 hl1 ⟨hp0, hp1⟩ hv1
        have hlen : ds.length < 10 * a.length := by
          have e1 := val_nonneg (by decide) hd
          have e2 : (10 : Int) ^ ds.length * 1 ≤ 10 ^ ds.length * val 4294967296 t := Int.mul_le_mul_of_nonneg_left (by omega) (Int.le_of_lt (Int.pow_pos (by decide)))
          have e3 := val_lt (by decide) ha
          have e4 : (4294967296 : Int) ^ a.length ≤ (10 ^ 10) ^ a.length := by
            have : ∀ n : Nat, (4294967296 : Int) ^ n ≤ (10 ^ 10) ^ n := fun n => by
              induction n with
              | zero => simp
              | succ n ih =>
                rw [Int.pow_succ, Int.pow_succ]
                exact Int.mul_le_mul ih (by decide) (by decide) (Int.le_of_lt (Int.pow_pos (by decide)))
            exact this _
          have e5 : ((10 : Int) ^ 10) ^ a.length = 10 ^ (10 * a.length) := by rw [← Int.pow_mul]
          rcases Nat.lt_or_ge ds.length (10 * a.length) with h | h
          · exact h
          · have := pow_le (B := 10) (by decide) h
            omega
        obtain ⟨⟨p2, k2, o2⟩, h3, es, ho2, hde, hle, hle2, hve, hte2⟩ := tpart_loop r p ⟨hp0, hp1⟩ ds hd (by omega)
        simp only at ho2
        rw [h1, bnd_val]
        simp only
        rw [h2, bnd_val, h3, bnd_val]
        refine Or.inr ⟨(_, _), rfl, ⟨es, ho2, hde, by omega, hrd, hrt, by simp only; omega, ?_, fun hre => ?_⟩, ?_⟩
        · simp only
          rw [hrv, hve, ← hv, hv1]
          by_cases hre : r = []
          · subst hre
            simp only [val] at hrv
            rw [← hrv]
            grind
          · rw [hle2 hre, Int.pow_add]
            grind
        · refine hte2 hre ?_
          intro hpe
          have hre1 : r = [] := hre
          rw [hre1] at hrv
          simp only [val] at hrv
          omega
        · simp only
          omega)
    (s := ([], a)) ⟨[], rfl, Dig.nil, by simp, ha, ta, Nat.le_refl _, by simp [val], fun e => absurd e hn⟩
end Go.Ql
end

section
/- A whole number's text is its decimal text. -/
namespace Go.Ql
theorem reverse_ok (a : List Int) (la : a.length < 1000000000000) : W.slices_Reverse_byte a = some (a.reverse, ()) := by
  obtain ⟨⟨i, j, r⟩, h1, h2⟩ := iter_loop (f := fun s : Int × Int × List Int ↦ W.slices_Reverse_byte.c100001 (Prod.fst s) (Prod.fst (Prod.snd s)) (Prod.snd (Prod.snd s)) Option.some)
    (J := fun s => ∃ k : Nat, s.1 = k ∧ s.2.1 = (a.length : Int) - 1 - k ∧ 2 * k ≤ a.length + 1 ∧ s.2.2.length = a.length ∧ ∀ m, m < a.length → s.2.2.getD m 0 = if m < k ∨ a.length ≤ m + k then a.getD (a.length - 1 - m) 0 else a.getD m 0)
    (Q := fun r => r.2.2 = a.reverse)
    (fun s => (s.2.1 + 1).toNat) (fun ⟨i, j, t⟩ ⟨k, hi, hj, hk, hl, hm⟩ => by
      simp only at hi hj hl hm ⊢
      subst hi hj
      simp only [W.slices_Reverse_byte.c100001]
      by_cases h : (k : Int) < (a.length : Int) - 1 - k
      · rw [br_pos h]
        unfold W.slices_Reverse_byte.c3
        have ej : (a.length : Int) - 1 - k = ((a.length - 1 - k : Nat) : Int) := by omega
        rw [ej, inR_of (by omega) (by omega), idx_of (a.length - 1 - k) rfl (by omega), inR_of (by omega) (by omega), idx_of k rfl (by omega)]
        simp only [bnd_val]
        rw [inR_of (by omega) (by rw [List.length_set]; omega), idx_of (a.length - 1 - k) rfl (by rw [Int.toNat_natCast, List.length_set]; omega)]
        simp only [bnd_val, Int.toNat_natCast]
        rw [wrap_i64 (by omega), wrap_i64 (by omega)]
        refine Or.inr ⟨(_, _, _), rfl, ⟨k + 1, by simp, by simp only; omega, by omega, by simp only [List.length_set]; exact hl, fun m hml => ?_⟩, by simp only; omega⟩
        simp only
        rw [getD_set (by rw [List.length_set]; omega), getD_set (by omega), hm _ (by omega), hm _ (by omega), hm m hml]
        by_cases e1 : a.length - 1 - k = m
        · rw [if_pos e1, if_neg (by omega), if_pos (by omega)]
          congr 1; omega
        · rw [if_neg e1]
          by_cases e2 : k = m
          · rw [if_pos e2, if_neg (by omega), if_pos (by omega)]
            congr 1; omega
          · rw [if_neg e2]
            by_cases e3 : m < k ∨ a.length ≤ m + k
            · rw [if_pos e3, if_pos (by omega)]
            · rw [if_neg e3, if_neg (by omega)]
      · rw [br_neg h]
        refine Or.inl ⟨(_, _, _), rfl, ?_⟩
        simp only
        apply List.ext_getElem
        · rw [List.length_reverse, hl]
        · intro m h1 h2
          have h3 := hm m (by omega)
          have e1 : t.getD m 0 = t[m] := by simp [List.getD, h1]
          rw [← e1, h3, List.getElem_reverse]
          by_cases e2 : m < k ∨ a.length ≤ m + k
          · rw [if_pos e2]; simp [List.getD, show a.length - 1 - m < a.length by omega]
          · rw [if_neg e2]
            have e3 : a.length - 1 - m = m := by omega
            simp only [e3]
            simp [List.getD, show m < a.length by omega])
    (s := ((0 : Int), IntKind.i64.wrap ((a.length : Int) - 1), a)) ⟨0, rfl, by rw [wrap_i64 (by omega)]; simp, by omega, rfl, fun m hml => by rw [if_neg (by omega)]⟩
  simp only at h2
  unfold W.slices_Reverse_byte
  rw [h1, bnd_val, ← h2]
theorem dec_rev : ∀ (ds : List Int), Dig 10 ds → Digits (bytes (chr ds).reverse) ∧ dec (bytes (chr ds).reverse) = val 10 ds
  | [], _ => ⟨fun c hc => by simp [chr, bytes] at hc, rfl⟩
  | d :: ds, h => by
    obtain ⟨h1, h2⟩ := dec_rev ds h.tail
    have hb := byte_dg (d := d) (by have := h.head; omega)
    have e : bytes (chr (d :: ds)).reverse = bytes (chr ds).reverse ++ [UInt8.ofNat (Int.toNat (48 + d))] := by simp [chr, bytes]
    rw [e]
    refine ⟨fun c hc => ?_, ?_⟩
    · rcases List.mem_append.1 hc with hc | hc
      · exact h1 c hc
      · rw [List.mem_singleton.1 hc]; exact hb.1
    · rw [dec_snoc, h2, hb.2]
      simp only [val]; omega
theorem isDec_rev {ds : List Int} (h : Dig 10 ds) (ht : Trim ds) (hn : ds ≠ []) : IsDec (bytes (chr ds).reverse) (val 10 ds) := by
  obtain ⟨h1, h2⟩ := dec_rev ds h
  have h0 : ds.length ≠ 0 := fun e => hn (List.eq_nil_of_length_eq_zero e)
  refine ⟨h1, fun e => ?_, fun e => ?_, h2⟩
  · have := congrArg List.length e
    simp [bytes, chr] at this
    exact hn this
  · have h3 : (bytes (chr ds).reverse).head? = some (UInt8.ofNat (Int.toNat (48 + ds.getD (ds.length - 1) 0))) := by
      simp [bytes, chr, List.getLast?_eq_getElem?, List.getD, show ds.length - 1 < ds.length by omega]
    rw [h3] at e
    have h4 := Option.some.inj e
    have hd := h.getD (by decide) (ds.length - 1)
    have hb := (byte_dg (d := ds.getD (ds.length - 1) 0) (by omega)).2
    rw [h4] at hb
    exact ht hn hb.symm
theorem text_ok {a : Bool × List Int} {v : Int} (ha : Rep 4294967296 a v) (la : a.2.length < 1000000) : ∃ l, W.whole_Int_Text a = some l ∧ Txt v l := by
  unfold W.whole_Int_Text
  by_cases h0 : a.2 = []
  · rw [h0]
    refine ⟨[48], rfl, Or.inl ⟨?_, rfl⟩⟩
    rw [ha.val, h0]; simp [val]
  · have hn : a.2.length ≠ 0 := fun e => h0 (List.eq_nil_of_length_eq_zero e)
    rw [br_false (beq_false_of_ne (by omega))]
    have hcl : W.slices_Clone_uint32 a.2 = some (a.2, ()) := by
      unfold W.slices_Clone_uint32
      have : a.2.isEmpty = false := by rw [← Bool.not_eq_true, List.isEmpty_iff]; exact h0
      rw [this, br_ff, okIf_true (by simp; omega), bnd_val]
    obtain ⟨⟨out, t⟩, h1, es, ho, hd, hl, hv, ht⟩ := tall_loop a.2 ha.dig ha.last h0 la
    simp only at ho
    have hp := ha.pos (by decide) h0
    have hen : es ≠ [] := fun e => by rw [e] at hv; simp only [val] at hv; omega
    have e1 : W.whole_Int_Text.c281925 a.1 out Option.some = some (if a.1 then chr es ++ [45] else chr es) := by
      unfold W.whole_Int_Text.c281925
      subst ho
      cases a.1
      · rw [br_ff]; rfl
      · rw [br_tt, okIf_true (by simp [chr_len]; omega), bnd_val]; rfl
    rw [hcl, bnd_val, h1, bnd_val, e1, bnd_val, reverse_ok _ (by split <;> simp [chr_len] <;> omega), bnd_val]
    have hva := ha.val
    refine ⟨_, rfl, Or.inr ⟨?_, bytes (chr es).reverse, ?_, ?_⟩⟩
    · cases hx : a.1 <;> simp only [hx, Bool.false_eq_true, if_false, if_true] at hva <;> omega
    · have : (v.natAbs : Int) = val 10 es := by
        cases hx : a.1 <;> simp only [hx, Bool.false_eq_true, if_false, if_true] at hva <;> omega
      rw [this]; exact isDec_rev hd ht hen
    · cases hx : a.1 <;> simp only [hx, Bool.false_eq_true, if_false, if_true] at hva ⊢
      · rw [if_neg (by omega)]; rfl
      · rw [if_pos (by omega)]; simp [bytes]
end Go.Ql
end

section
/- Sums, differences, products and order of whole numbers: the law. -/
namespace Go.Ql
theorem u64_mod {x : Int} : IntKind.u64.wrap x = x % 18446744073709551616 := by
  simp [IntKind.wrap, IntKind.signed, IntKind.bits]
theorem of_ok {n : Int} (h : -9223372036854775808 ≤ n ∧ n ≤ 9223372036854775807) :
    ∃ r, W.whole_Of n = some r ∧ Rep 4294967296 r n ∧ r.2.length ≤ 2 := by
  unfold W.whole_Of
  have e : W.whole_Of.c208197 n (IntKind.u64.wrap n) Option.some = some (n.natAbs : Int) := by
    unfold W.whole_Of.c208197
    by_cases h0 : n < 0
    · rw [br_pos h0, u64_mod, u64_mod]; congr 1; omega
    · rw [br_neg h0, u64_mod]; congr 1; omega
  rw [e, bnd_val, wrap_u32_mod, wrap_u32_mod, show (2 : Int) ^ 32 = 4294967296 from rfl, Int.fdiv_eq_ediv_of_nonneg _ (by decide)]
  obtain ⟨r, h1, h2, h3⟩ := made_ok (B := 4294967296) (decide (n < 0)) [(n.natAbs : Int) % 4294967296, (n.natAbs : Int) / 4294967296 % 4294967296]
    (Dig.cons (by omega) (Dig.cons (by omega) Dig.nil)) (by simp)
  rw [h1, bnd_val]
  refine ⟨r, rfl, ?_, by simpa using h3⟩
  have : n = if decide (n < 0) = true then -val 4294967296 [(n.natAbs : Int) % 4294967296, (n.natAbs : Int) / 4294967296 % 4294967296] else val 4294967296 [(n.natAbs : Int) % 4294967296, (n.natAbs : Int) / 4294967296 % 4294967296] := by
    simp only [val]
    by_cases h0 : n < 0
    · rw [if_pos (decide_eq_true h0)]; omega
    · rw [if_neg (by simpa using h0)]; omega
  rw [← this] at h2
  exact h2
theorem begun_ok : W.Law_wholeBegun = some true := by
  unfold W.Law_wholeBegun
  obtain ⟨r, h1, h2, h3⟩ := of_ok (n := -70001) (by decide)
  obtain ⟨l, h4, h5⟩ := text_ok h2 (by omega)
  rw [h1, bnd_val, h4, bnd_val]
  have h6 : Txt (-70001) [45, 55, 48, 48, 48, 49] := Or.inr ⟨by decide, [55, 48, 48, 48, 49], ⟨by unfold Digits; decide, by decide, by decide, by decide⟩, rfl⟩
  rw [h5.one h6]; rfl
theorem tt_ok {a b : Bool × List Int} {v : Int} (ha : Rep 4294967296 a v) (hb : Rep 10000 b v) (la : a.2.length < 1000000) (lb : b.2.length < 1000000) : ∃ l, W.whole_Int_Text a = some l ∧ W.R_ZText b = some l := by
  obtain ⟨l, h1, h2⟩ := text_ok ha la
  obtain ⟨m, h3, h4⟩ := ztext_ok hb lb
  exact ⟨l, h1, by rw [h3, h2.one h4]⟩
theorem pair_eta {α β : Type} (p : α × β) : (p.1, p.2) = p := rfl
theorem eqT_ff (f : Int × Int) : Ty.eqT (Ty.pair (Ty.int Go.IntKind.i64) (Ty.int Go.IntKind.i64)) f f = true := by
  simp [Ty.eqT]
theorem reckons_law (text other : List UInt8) (ht : text.length ≤ 9223372036854775807) (ho : other.length ≤ 9223372036854775807) : W.Law_WholeReckons text other = some true := by
  obtain ⟨x, z, u, f, h1, h2, h3, h4, h5, h6⟩ := parse_ok text ht
  obtain ⟨y, w, v, g, k1, k2, k3, k4, k5, k6⟩ := parse_ok other ho
  unfold W.Law_WholeReckons
  rw [h1, k1, h2, k2]
  simp only [bnd_val]
  have c5 : W.Law_WholeReckons.c5 f.1 f.2 g.1 g.2 f.1 f.2 g.1 g.2 some = some false := by
    unfold W.Law_WholeReckons.c5
    rw [begun_ok, bnd_val, pair_eta, pair_eta, eqT_ff, eqT_ff]; rfl
  have c7 : W.Law_WholeReckons.c7 x.1 x.2 y.1 y.2 z.1 z.2 w.1 w.2 some = some false := by
    unfold W.Law_WholeReckons.c7
    simp only [pair_eta]
    obtain ⟨r1, a1, a2, a3⟩ := add_ok h3 k3 (by omega) (by omega)
    obtain ⟨r2, a4, a5, a6⟩ := zadd_ok h4 k4 (by omega) (by omega)
    obtain ⟨l1, a7, a8⟩ := tt_ok a2 a5 (by omega) (by omega)
    obtain ⟨r3, b1, b2, b3⟩ := sub_ok h3 k3 (by omega) (by omega)
    obtain ⟨r4, b4, b5, b6⟩ := zsub_ok h4 k4 (by omega) (by omega)
    obtain ⟨l2, b7, b8⟩ := tt_ok b2 b5 (by omega) (by omega)
    obtain ⟨r5, c1, c2, c3⟩ := mul_ok h3 k3 (by omega) (by omega)
    obtain ⟨r6, c4, c5, c6⟩ := zmul_ok h4 k4 (by omega) (by omega)
    obtain ⟨l3, c7, c8⟩ := tt_ok c2 c5 (by omega) (by omega)
    simp only [a1, a4, a7, a8, b1, b4, b7, b8, c1, c4, c7, c8, bnd_val, beq_self_eq_true, Bool.not_true, br_ff]
  have c9 : W.Law_WholeReckons.c9 x.1 x.2 y.1 y.2 z.1 z.2 w.1 w.2 some = some true := by
    unfold W.Law_WholeReckons.c9
    simp only [pair_eta]
    obtain ⟨l1, a7, a8⟩ := tt_ok h3 h4 (by omega) (by omega)
    obtain ⟨l2, b7, b8⟩ := tt_ok k3 k4 (by omega) (by omega)
    simp only [icmp_ok h3 k3 (by omega) (by omega), zcmp_ok h4 k4 (by omega) (by omega), icmp_ok k3 h3 (by omega) (by omega), zcmp_ok k4 h4 (by omega) (by omega), a7, a8, b7, b8, bnd_val, beq_self_eq_true, br_tt]
  rw [c5, bnd_val, br_ff, c7, bnd_val, br_ff, c9]
  rfl
end Go.Ql
end
