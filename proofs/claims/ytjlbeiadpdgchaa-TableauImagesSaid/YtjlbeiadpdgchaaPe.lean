/- Plain laws of images, and of circuits made anew, of all arguments. -/
import Derived.Test.YtjlbeiadpdgchaaPc
import Derived.Test.YtjlbeiadpdgchaaPd
import Derived.Test.YtjlbeiadpdgchaaGa
set_option linter.all false
section
set_option linter.unusedSectionVars false
set_option linter.unusedVariables false
set_option maxHeartbeats 1000000
namespace Go.Ql
abbrev L3 := List (Int × Int × Bool)
def s0T : L3 := [(0, 1, false), (0, 2, true)]
def b0T : L3 := [(1, 0, false), (2, 0, false)]
def s1T : L3 := [(1, 0, false), (0, 2, true)]
def b1T : L3 := [(0, 1, false), (2, 0, false)]
def s2T : L3 := [(3, 0, false), (0, 3, true)]
def b2T : L3 := [(0, 1, false), (2, 0, false)]
def cT : Cir := (2, 0, [(3, 0, [], 0, 0, []), (2, 0, [0], 1, 0, [])])
theorem begT : W.tableau_begin 2 2 = some (2, s0T, b0T, ()) := by
  unfold W.tableau_begin
  exact bnd_of (iter_of (n := 3) (r := ((2 : Int), s0T, b0T)) (by kernel_rfl)) rfl
theorem holdsT (o : GOp) (h : o.2.2.2.2.2 = []) (bits : List Int) : W.tableau_holds o bits = some true := by
  unfold W.tableau_holds
  rw [h]
  exact bnd_of (iter_of (n := 1) (r := .inr (0 : Int)) (by kernel_rfl)) rfl
theorem gate1T : W.tableau_table_gate (3, 0, [], 0, 0, []) 2 s0T b0T = some (s1T, b1T, 2, ()) := by
  unfold W.tableau_table_gate
  exact bnd_of (iter_of (n := 3) (r := ((2 : Int), s1T, b1T)) (by kernel_rfl)) rfl
theorem gate2T : W.tableau_table_gate (2, 0, [0], 1, 0, []) 2 s1T b1T = some (s2T, b2T, 2, ()) := by
  unfold W.tableau_table_gate
  exact bnd_of (iter_of (n := 3) (r := ((2 : Int), s2T, b2T)) (by kernel_rfl)) rfl
theorem redT : W.tableau_reduced s2T 2 = some s2T := by
  unfold W.tableau_reduced
  refine bnd_of (x := ()) (by kernel_rfl) ?_
  have c0 : W.tableau_reduced.c220528 0 0 2 s2T some = some (1, 2, s2T) := by
    unfold W.tableau_reduced.c220528
    refine bnd_of (iter_of (n := 3) (r := ((0 : Int), (2 : Int), (0 : Int))) (by kernel_rfl)) ?_
    rw [br_false (by kernel_rfl)]
    refine bnd_of (x := s2T) (by kernel_rfl) ?_
    exact bnd_of (iter_of (n := 3) (r := ((2 : Int), (2 : Int), (0 : Int), s2T)) (by kernel_rfl)) (by kernel_rfl)
  have c1 : W.tableau_reduced.c220528 1 1 2 s2T some = some (1, 2, s2T) := by
    unfold W.tableau_reduced.c220528
    refine bnd_of (iter_of (n := 3) (r := ((2 : Int), (2 : Int), (1 : Int))) (by kernel_rfl)) ?_
    rw [br_true (by kernel_rfl)]
  have c2 : W.tableau_reduced.c220528 1 2 2 s2T some = some (2, 2, s2T) := by
    unfold W.tableau_reduced.c220528
    refine bnd_of (iter_of (n := 3) (r := ((1 : Int), (2 : Int), (2 : Int))) (by kernel_rfl)) ?_
    rw [br_false (by kernel_rfl)]
    refine bnd_of (x := s2T) (by kernel_rfl) ?_
    exact bnd_of (iter_of (n := 3) (r := ((2 : Int), (2 : Int), (2 : Int), s2T)) (by kernel_rfl)) (by kernel_rfl)
  have c3 : W.tableau_reduced.c220528 2 3 2 s2T some = some (2, 2, s2T) := by
    unfold W.tableau_reduced.c220528
    refine bnd_of (iter_of (n := 3) (r := ((2 : Int), (2 : Int), (3 : Int))) (by kernel_rfl)) ?_
    rw [br_true (by kernel_rfl)]
  have e : iter (fun s : Int × Int × Int × L3 ↦ W.tableau_reduced.c100004 (Prod.fst s) (IntKind.wrap IntKind.i64 ((2 : Int) * 2)) (Prod.fst (Prod.snd s)) (Prod.fst (Prod.snd (Prod.snd s))) (Prod.snd (Prod.snd (Prod.snd s))) some) ((0 : Int), (0 : Int), (2 : Int), s2T) = some (2, 4, 2, s2T) := by
    refine iter_inl (s' := (1, 1, 2, s2T)) ?_ (iter_inl (s' := (1, 2, 2, s2T)) ?_ (iter_inl (s' := (2, 3, 2, s2T)) ?_ (iter_inl (s' := (2, 4, 2, s2T)) ?_ (iter_inr ?_))))
    · unfold W.tableau_reduced.c100004
      rw [br_true (by kernel_rfl)]
      exact bnd_of c0 (by kernel_rfl)
    · unfold W.tableau_reduced.c100004
      rw [br_true (by kernel_rfl)]
      exact bnd_of c1 (by kernel_rfl)
    · unfold W.tableau_reduced.c100004
      rw [br_true (by kernel_rfl)]
      exact bnd_of c2 (by kernel_rfl)
    · unfold W.tableau_reduced.c100004
      rw [br_true (by kernel_rfl)]
      exact bnd_of c3 (by kernel_rfl)
    · unfold W.tableau_reduced.c100004
      rw [br_false (by kernel_rfl)]
  exact bnd_of e rfl
def t1T : Tx := [43, 88, 88]
def t2T : Tx := [45, 90, 90]
theorem textsT : W.tableau_pauli_text (3, 0, false) 2 = some t1T ∧ W.tableau_pauli_text (0, 3, true) 2 = some t2T :=
  ⟨text_pe (n := 2) (by decide) (p := ⟨3, 0, false⟩) ⟨by decide, by decide⟩, text_pe (n := 2) (by decide) (p := ⟨0, 3, true⟩) ⟨by decide, by decide⟩⟩
theorem runT : W.tableau_Run cT 2 [] = some ([t1T, t2T], [], 0, 0, 0) := by
  have hw : WCir cT := ⟨by decide, fun o ho => by
    rcases List.mem_cons.1 ho with rfl | ho
    · exact ⟨by decide, by decide⟩
    · rcases List.mem_cons.1 ho with rfl | ho
      · exact ⟨by decide, by decide⟩
      · cases ho⟩
  unfold W.tableau_Run
  refine bnd_of ((check_ok cT hw).trans (congrArg some (show chk cT = (0, 0) by decide))) ?_
  rw [br_false (by kernel_rfl)]
  refine bnd_of (x := false) (by kernel_rfl) ?_
  rw [br_false (by kernel_rfl)]
  refine bnd_of ((stranger_ok cT (by decide)).trans (congrArg some (show strange 0 cT.2.2 = (0, 0) by decide))) ?_
  rw [br_false (by kernel_rfl)]
  refine bnd_of (show W.tableau_Run.c10 2 2 0 some = some (2, s0T, b0T) from bnd_of begT (by kernel_rfl)) ?_
  refine bnd_of (x := .inr ((0 : Int), (2 : Int), (2 : Int), ([] : List Int), s2T, b2T)) (iter_inl (s' := ((0 : Int), (1 : Int), (2 : Int), ([] : List Int), s1T, b1T)) ?_ (iter_inl (s' := ((0 : Int), (2 : Int), (2 : Int), ([] : List Int), s2T, b2T)) ?_ (iter_inr ?_))) ?_
  · unfold W.tableau_Run.c100012
    rw [br_true (by kernel_rfl)]
    refine bnd_of (x := .inl ((0 : Int), (2 : Int), ([] : List Int), s1T, b1T)) ?_ (by kernel_rfl)
    unfold W.tableau_Run.c253291
    refine bnd_of (x := ((3 : Int), (0 : Int), [], (0 : Int), (0 : Int), [])) (by kernel_rfl) (bnd_of (holdsT (3, 0, [], 0, 0, []) rfl []) ?_)
    rw [br_false (by kernel_rfl), br_true (by kernel_rfl)]
    exact bnd_of gate1T (by kernel_rfl)
  · unfold W.tableau_Run.c100012
    rw [br_true (by kernel_rfl)]
    refine bnd_of (x := .inl ((0 : Int), (2 : Int), ([] : List Int), s2T, b2T)) ?_ (by kernel_rfl)
    unfold W.tableau_Run.c253291
    refine bnd_of (x := ((2 : Int), (0 : Int), [0], (1 : Int), (0 : Int), [])) (by kernel_rfl) (bnd_of (holdsT (2, 0, [0], 1, 0, []) rfl []) ?_)
    rw [br_false (by kernel_rfl), br_true (by kernel_rfl)]
    exact bnd_of gate2T (by kernel_rfl)
  · unfold W.tableau_Run.c100012
    rw [br_false (by kernel_rfl)]
  · rw [sel_inr]
    refine bnd_of (show W.tableau_Run.c29 2 s2T some = some (s2T, 2) from bnd_of redT (by kernel_rfl)) ?_
    refine bnd_of (x := ((2 : Int), [t1T, t2T])) (iter_inl (s' := ((1 : Int), [t1T])) ?_ (iter_inl (s' := ((2 : Int), [t1T, t2T])) ?_ (iter_inr ?_))) rfl
    · unfold W.tableau_Run.c100030
      rw [br_true (by kernel_rfl)]
      refine bnd_of (x := ((3 : Int), (0 : Int), false)) (by kernel_rfl) ?_
      exact bnd_of (x := [t1T]) (bnd_of textsT.1 (by kernel_rfl)) (by kernel_rfl)
    · unfold W.tableau_Run.c100030
      rw [br_true (by kernel_rfl)]
      refine bnd_of (x := ((0 : Int), (3 : Int), true)) (by kernel_rfl) ?_
      exact bnd_of (x := [t1T, t2T]) (bnd_of textsT.2 (by kernel_rfl)) (by kernel_rfl)
    · unfold W.tableau_Run.c100030
      rw [br_false (by kernel_rfl)]
theorem begunT : W.Law_tableauBegun = some true := by
  unfold W.Law_tableauBegun
  refine bnd_of runT ?_
  have h : W.Law_tableauBegun.c2 [t1T, t2T] 0 some = some true := by
    unfold W.Law_tableauBegun.c2
    rw [br_true (by kernel_rfl)]
    exact bnd_of (sameTexts_self [t1T, t2T] (by decide)) rfl
  exact bnd_of h rfl
end Go.Ql
end

section
set_option linter.unusedSectionVars false
set_option linter.unusedVariables false
set_option maxHeartbeats 2000000
namespace Go.Ql
end Go.Ql
end

section
set_option linter.unusedSectionVars false
set_option linter.unusedVariables false
set_option maxHeartbeats 2000000
namespace Go.Ql
def k8 (a0 a1 a2 a3 a4 a5 a6 a7 : Int) : K := ⟨(a0 : Rat), (a1 : Rat), (a2 : Rat), (a3 : Rat), (a4 : Rat), (a5 : Rat), (a6 : Rat), (a7 : Rat)⟩
end Go.Ql
end

section
set_option linter.unusedSectionVars false
set_option linter.unusedVariables false
set_option maxHeartbeats 1000000
namespace Go.Ql
def lK (q : Nat) (a : Lt) (v : KV) : KV :=
  if a.1 = true then (if a.2 = true then pK [] 4 (xK [] (q : Int) (pK [(q : Int)] 8 v)) else xK [] (q : Int) v) else (if a.2 = true then pK [(q : Int)] 8 v else v)
theorem xK_nil (q : Int) (v : KV) (y : Nat) : xK [] q v y = v (fl q y) := rfl
theorem pK_nil (k : Int) (v : KV) (y : Nat) : pK [] k v y = turnZ (v y) k := rfl
theorem pK_one (q k : Int) (v : KV) (y : Nat) : pK [q] k v y = turnZ (v y) (k * bi (y.testBit q.toNat)) := by
  show (if onesB [q] y = true then turnZ (v y) k else v y) = _
  rw [ones1, turn_if]
theorem letter_pau {q : Nat} (hq : q < 12) {p : Pau} (hb : Bare p q) (a : Lt) (v : KV) : lK q a (pauK p v) = pauK ⟨tg p.x q a.1, tg p.z q a.2, p.m⟩ v := by
  have hfl : ∀ y, phP p (fl (q : Int) y) = phP p y := fun y => by
    rw [ph_fl p (q := (q : Int)) hq y, Int.toNat_natCast, hb.1, hb.2]
    simp [eP, bi]
  have hr := fun y => ph_at (p := p) (r := ⟨tg p.x q a.1, tg p.z q a.2, p.m⟩) hq (fun j hj => tg_ne (Ne.symm hj)) (fun j hj => tg_ne (Ne.symm hj)) y
  simp only [tg_at, hb.1, hb.2, Bool.false_bne] at hr
  have hxx : ∀ y, y ^^^ tg p.x q a.1 = if a.1 = true then fl (q : Int) y ^^^ p.x else y ^^^ p.x := fun y => xor_tg
  obtain ⟨a, b⟩ := a
  funext y
  unfold pauK
  rw [hr y]
  show lK q (a, b) (fun y => turnZ (v (y ^^^ p.x)) (phP p y)) y = turnZ (v (y ^^^ tg p.x q a)) _
  rw [hxx]
  cases a <;> cases b
  · show turnZ (v (y ^^^ p.x)) (phP p y) = _
    rw [if_neg (by decide)]
    apply turnZ_congr
    simp [eP, bi]
  · show pK [(q : Int)] 8 (fun y => turnZ (v (y ^^^ p.x)) (phP p y)) y = _
    rw [if_neg (by decide), pK_one, turnZ_add]
    apply turnZ_congr
    simp only [Int.toNat_natCast, eP, bi]
    cases y.testBit q <;> simp <;> omega
  · show xK [] (q : Int) (fun y => turnZ (v (y ^^^ p.x)) (phP p y)) y = _
    rw [if_pos rfl, xK_nil, hfl]
    apply turnZ_congr
    simp [eP, bi]
  · show pK [] 4 (xK [] (q : Int) (pK [(q : Int)] 8 (fun y => turnZ (v (y ^^^ p.x)) (phP p y)))) y = _
    rw [if_pos rfl, pK_nil, xK_nil, pK_one, turnZ_add, turnZ_add, hfl, fl_bit']
    apply turnZ_congr
    simp only [Int.toNat_natCast, eP, bi, decide_true]
    cases y.testBit q <;> simp <;> omega
theorem pau_none (v : KV) : pauK ⟨0, 0, false⟩ v = v := by
  funext y
  unfold pauK phP
  rw [sumI_zero fun j _ => by simp [eP, bi], Nat.xor_zero]
  simp [bi, turnZ_zero]
theorem pau_minus (p : Pau) (v : KV) : pK [] 8 (pauK ⟨p.x, p.z, false⟩ v) = pauK ⟨p.x, p.z, true⟩ v := by
  funext y
  rw [pK_nil]
  unfold pauK phP
  rw [turnZ_add]
  apply turnZ_congr
  simp only [bi]
  simp
  omega
theorem pu_take {w : Wd} {k : Nat} (hk : k < w.length) : pu (w.take (k + 1)) false = ⟨tg (pu (w.take k) false).x k (w.getD k (false, false)).1, tg (pu (w.take k) false).z k (w.getD k (false, false)).2, false⟩ := by
  refine Pau.ext' (fun j => ?_) (fun j => ?_) rfl
  · show (pu (w.take (k + 1)) false).x.testBit j = (tg _ k _).testBit j
    rw [tg_bit, pu_x, pu_x]
    simp only [List.getD, List.getElem?_take]
    by_cases h : j < k
    · rw [if_pos (by omega), if_pos h, decide_eq_false (by omega)]; simp
    · rw [if_neg h]
      by_cases e : k = j
      · subst e; rw [if_pos (by omega), decide_eq_true rfl]; simp
      · rw [if_neg (by omega), decide_eq_false e]; simp
  · show (pu (w.take (k + 1)) false).z.testBit j = (tg _ k _).testBit j
    rw [tg_bit, pu_z, pu_z]
    simp only [List.getD, List.getElem?_take]
    by_cases h : j < k
    · rw [if_pos (by omega), if_pos h, decide_eq_false (by omega)]; simp
    · rw [if_neg h]
      by_cases e : k = j
      · subst e; rw [if_pos (by omega), decide_eq_true rfl]; simp
      · rw [if_neg (by omega), decide_eq_false e]; simp
theorem ok1_one {n q : Nat} (h : q < n) (k a : Int) (ha : 0 ≤ a) : Ok1 (k, a, [], (q : Int), 0, []) n :=
  ⟨by show (0 : Int) ≤ (q : Int) ∧ (q : Int) < n; omega, ha, fun _ h => (by cases h), by show 0 < 2 ^ 62; decide, by simp⟩
abbrev AList := List NumT
theorem on_walk {n : Nat} (hn : 1 ≤ n ∧ n ≤ 12) {w : Wd} (hw : w.length = n) (m : Bool) {l : AList} {v : KV} {t : Nat} (hv : Amps l (2 ^ n) v t) (ht : t ≤ 8000) :
    ∃ r t', t' ≤ t + 40 ∧ W.R_Pauli_On (m, txt w) l = some r ∧ Amps r (2 ^ n) (pauK (pu w m) v) t' := by
  have h12 : 2 ^ n ≤ 4096 := p12 hn.2
  unfold W.R_Pauli_On
  obtain ⟨x, h1, h2⟩ := iter_upto (f := fun s : AList × Int ↦ W.R_Pauli_On.c100003 (Prod.fst s) (Prod.snd s) (txt w) some) n
    (fun k s => ∃ r t', s = (r, (k : Int)) ∧ t' ≤ t + 3 * k ∧ Amps r (2 ^ n) (pauK (pu (w.take k) false) v) t') (fun x => ∃ r t', x = (r, (n : Int)) ∧ t' ≤ t + 3 * n ∧ Amps r (2 ^ n) (pauK (pu w false) v) t')
    (by
      rintro k s hk ⟨r, t', rfl, ht', hr⟩
      left
      have hkw : k < w.length := by omega
      have hB : Bare (pu (w.take k) false) k := (pu_fit (by rw [List.length_take]; omega) false).bare k (Nat.le_refl _)
      have hL := letter_pau (q := k) (by omega) hB (w.getD k (false, false)) v
      have hT := pu_take hkw
      have hm : (pu (w.take k) false).m = false := rfl
      rw [hm] at hL
      rw [← hT] at hL
      have hidx : idx (txt w) (k : Int) = some (enc (w.getD k (false, false))) := by
        rw [idx_get (by rw [txt_len]; exact hkw)]
        simp [txt, List.getD, List.getElem?_eq_getElem hkw]
      have hc : ∃ r', W.R_Pauli_On.c220501 r (k : Int) (txt w) some = some r' ∧ ∃ t2, t2 ≤ t + 3 * (k + 1) ∧ Amps r' (2 ^ n) (pauK (pu (w.take (k + 1)) false) v) t2 := by
        unfold W.R_Pauli_On.c220501
        rw [hidx, bnd_val, ← hL]
        generalize hv' : pauK (pu (w.take k) false) v = v' at hr
        generalize w.getD k (false, false) = a
        obtain ⟨a, b⟩ := a
        cases a <;> cases b
        · rw [br_false (by rfl), br_false (by rfl), br_false (by rfl)]
          exact ⟨r, rfl, t', by omega, hr⟩
        · rw [br_false (by rfl), br_true (by rfl)]
          obtain ⟨r1, e1, e2⟩ := gate_walk hr (ok1_one (q := k) hk 4 8 (by decide)) (by omega) (by omega)
          rw [gate_p _ _ _ _ _ _ (by decide)] at e2
          exact ⟨r1, bnd_of e1 rfl, t' + 1, by omega, e2⟩
        · rw [br_true (by rfl)]
          obtain ⟨r1, e1, e2⟩ := gate_walk hr (ok1_one (q := k) hk 2 0 (by decide)) (by omega) (by omega)
          rw [gate_x] at e2
          exact ⟨r1, bnd_of e1 rfl, t' + 1, by omega, e2⟩
        · rw [br_false (by rfl), br_false (by rfl), br_true (by rfl)]
          obtain ⟨r1, e1, e2⟩ := gate_walk hr (ok1_one (q := k) hk 4 8 (by decide)) (by omega) (by omega)
          obtain ⟨r2, f1, f2⟩ := gate_walk e2 (ok1_one (q := k) hk 2 0 (by decide)) (by omega) (by omega)
          obtain ⟨r3, g1, g2⟩ := gate_walk f2 (ok1_one (q := 0) (by omega) 1 4 (by decide)) (by omega) (by omega)
          rw [gate_phase _ _ _ _ _ (by decide), gate_x, gate_p _ _ _ _ _ _ (by decide)] at g2
          exact ⟨r3, bnd_of e1 (bnd_of f1 (bnd_of g1 rfl)), t' + 1 + 1 + 1, by omega, g2⟩
      obtain ⟨r', c1, t2, c2, c3⟩ := hc
      refine ⟨(r', ((k + 1 : Nat) : Int)), ?_, r', t2, rfl, c2, c3⟩
      unfold W.R_Pauli_On.c100003
      rw [br_pos (by rw [txt_len]; omega)]
      refine bnd_of c1 ?_
      rw [wrap_i64 (by omega)]
      rfl)
    (by
      rintro s ⟨r, t', rfl, ht', hr⟩
      refine ⟨(r, (n : Int)), ?_, r, t', rfl, ht', by rw [List.take_of_length_le (by omega)] at hr; exact hr⟩
      unfold W.R_Pauli_On.c100003
      rw [br_neg (by rw [txt_len]; omega)])
    (s := (l, (0 : Int))) ⟨l, t, rfl, by omega, by
      have : pu (w.take 0) false = ⟨0, 0, false⟩ := by rw [List.take_zero]; rfl
      rw [this, pau_none]; exact hv⟩
  obtain ⟨r, t', rfl, ht', hr⟩ := h2
  have hlen := hv.len
  cases m with
  | false => exact ⟨r, t', by omega, bnd_of (okIf_len (by omega)) (bnd_of h1 rfl), hr⟩
  | true =>
    obtain ⟨r1, e1, e2⟩ := gate_walk hr (ok1_one (q := 0) (by omega) 1 8 (by decide)) (by omega) (by omega)
    rw [gate_phase _ _ _ _ _ (by decide)] at e2
    have : pK [] 8 (pauK (pu w false) v) = pauK (pu w true) v := pau_minus (pu w false) v
    rw [this] at e2
    refine ⟨r1, t' + 1, by omega, bnd_of (okIf_len (by omega)) (bnd_of h1 ?_), e2⟩
    exact bnd_of (show W.R_Pauli_On.c257349 r true some = some r1 by unfold W.R_Pauli_On.c257349; rw [br_true rfl]; exact bnd_of e1 rfl) rfl
theorem texts_walk {n : Nat} (hn : n ≤ 12) {l : AList} {v : KV} {t : Nat} (hv : Amps l (2 ^ n) v t) (ht : t ≤ 9000) :
    ∃ T, W.R_Texts l = some T ∧ T.length = 2 ^ n ∧ ∀ x, x < 2 ^ n → KTxt (v x) (T.getD x []) := by
  have h12 : 2 ^ n ≤ 4096 := p12 hn
  have hlen := hv.len
  unfold W.R_Texts
  obtain ⟨x, h1, T, rfl, h2, h3⟩ := iter_upto (f := fun s : Int × List Tx ↦ W.R_Texts.c100003 l (Prod.fst s) (Prod.snd s) some) (2 ^ n)
    (fun k s => ∃ T, s = ((k : Int), T) ∧ T.length = k ∧ ∀ x, x < k → KTxt (v x) (T.getD x [])) (fun x => ∃ T, x = (((2 ^ n : Nat) : Int), T) ∧ T.length = 2 ^ n ∧ ∀ x, x < 2 ^ n → KTxt (v x) (T.getD x []))
    (by
      rintro k s hk ⟨T, rfl, e1, e2⟩
      left
      obtain ⟨u, u1, u2⟩ := rtext_ok (hv.at_ k hk) (by omega) (by omega)
      refine ⟨(((k + 1 : Nat) : Int), T ++ [u]), ?_, T ++ [u], rfl, by simp [e1], fun x hx => ?_⟩
      · unfold W.R_Texts.c100003
        rw [br_pos (by omega), idxN (by omega), bnd_val]
        refine bnd_of u1 ?_
        refine bnd_of (okIf_len (n := T.length + 1) (k := 16) (by omega)) ?_
        rw [wrap_i64 (by omega)]
        rfl
      · by_cases hxk : x < k
        · rw [List.getD, List.getElem?_append_left (by omega)]
          exact e2 x hxk
        · have : x = k := by omega
          subst this
          rw [List.getD, List.getElem?_append_right (by omega), e1, Nat.sub_self]
          exact u2)
    (by
      rintro s ⟨T, rfl, e1, e2⟩
      refine ⟨(((2 ^ n : Nat) : Int), T), ?_, T, rfl, e1, e2⟩
      unfold W.R_Texts.c100003
      rw [br_neg (by rw [hlen]; omega)])
    (s := ((0 : Int), [])) ⟨[], rfl, rfl, fun x hx => absurd hx (Nat.not_lt_zero _)⟩
  exact ⟨T, bnd_of h1 rfl, h2, h3⟩
theorem texts_one {n : Nat} {v : KV} {T U : List Tx} (h1 : T.length = 2 ^ n) (h2 : ∀ x, x < 2 ^ n → KTxt (v x) (T.getD x [])) (k1 : U.length = 2 ^ n) (k2 : ∀ x, x < 2 ^ n → KTxt (v x) (U.getD x [])) : T = U := by
  apply List.ext_getElem (by omega)
  intro x a b
  have e1 := h2 x (by omega)
  have e2 := k2 x (by omega)
  rw [getD_of a] at e1
  rw [getD_of b] at e2
  exact e1.one e2
end Go.Ql
end

section
set_option linter.unusedSectionVars false
set_option linter.unusedVariables false
set_option maxHeartbeats 1000000
namespace Go.Ql
theorem sto_of {n : Nat} {b : Int} {o : GOp} (hb : opBad o (n : Int) b = 0) (hp : ¬ (o.1 = 5 ∨ o.1 = 6 ∨ o.2.2.2.2.2 ≠ [])) (hn : nrmO o = true) : StO n o := by
  unfold opBad at hb
  by_cases h1 : o.1 < 1 ∨ 6 < o.1
  · rw [if_pos h1] at hb; exact absurd hb (by decide)
  rw [if_neg h1] at hb
  by_cases h2 : o.2.1 < 0 ∨ 15 < o.2.1 ∨ (¬ (o.1 = 1 ∨ o.1 = 4) ∧ o.2.1 ≠ 0)
  · rw [if_pos h2] at hb; exact absurd hb (by decide)
  rw [if_neg h2] at hb
  by_cases h3 : o.2.2.2.1 < 0 ∨ (n : Int) ≤ o.2.2.2.1 ∨ (o.1 = 1 ∧ o.2.2.2.1 ≠ 0)
  · rw [if_pos h3] at hb; exact absurd hb (by decide)
  rw [if_neg h3] at hb
  by_cases h4 : o.2.2.1 ≠ [] ∧ ¬ (o.1 = 2 ∨ o.1 = 3 ∨ o.1 = 4)
  · rw [if_pos h4] at hb; exact absurd hb (by decide)
  rw [if_neg h4] at hb
  by_cases h5 : ctlBad o.2.2.2.1 (n : Int) [] o.2.2.1 ≠ 0
  · rw [if_pos h5] at hb; exact absurd hb h5
  have h6 := (ctlBad_zero.1 (Classical.not_not.1 h5)).1
  have hk : o.1 = 1 ∨ o.1 = 2 ∨ o.1 = 3 ∨ o.1 = 4 := by omega
  refine ⟨by omega, fun c hc => ⟨⟨(h6 c hc).1, (h6 c hc).2.1⟩, (h6 c hc).2.2.1⟩, by omega, ?_⟩
  unfold nrmO at hn
  rcases hk with hk | hk | hk | hk
  · refine .inr (.inr (.inr (.inr ⟨hk, ?_⟩)))
    exact Classical.byContradiction fun hne => h4 ⟨hne, by omega⟩
  · rw [if_pos hk] at hn
    exact .inl ⟨hk, by have := of_decide_eq_true hn; omega⟩
  · rw [if_neg (by omega), if_pos hk] at hn
    exact .inr (.inl ⟨hk, List.eq_nil_of_length_eq_zero (of_decide_eq_true hn)⟩)
  · rw [if_neg (by omega), if_neg (by omega), if_pos hk] at hn
    have hk0 : 0 ≤ o.2.1 := by omega
    rw [Int.tmod_eq_emod_of_nonneg hk0, Int.tmod_eq_emod_of_nonneg hk0] at hn
    simp only [Bool.or_eq_true, Bool.and_eq_true, decide_eq_true_eq] at hn
    rcases hn with ⟨a, b⟩ | ⟨a, b⟩
    · exact .inr (.inr (.inl ⟨hk, List.eq_nil_of_length_eq_zero a, b⟩))
    · exact .inr (.inr (.inr (.inl ⟨hk, a, b⟩)))
theorem ok1_sto {n : Nat} (hn : n ≤ 12) {o : GOp} (h : StO n o) : Ok1 o n := by
  refine ⟨h.q, h.k.1, fun c hc => by have := h.ctl c hc; omega, ?_, fun hm => (h.ctl _ hm).2 rfl⟩
  have : o.2.2.1.length ≤ 1 := by
    rcases h.form with h | h | h | h | h
    · exact h.2
    · rw [h.2]; exact Nat.zero_le _
    · rw [h.2.1]; exact Nat.zero_le _
    · rw [h.2.1]; exact Nat.le_refl _
    · rw [h.2]; exact Nat.zero_le _
  exact Nat.lt_of_le_of_lt this (by decide)
def tf (c : Cir) : Int × Int := if (pur c).1 ≠ 0 then pur c else strange 0 c.2.2
theorem tf_zero {c : Cir} (h : (tf c).1 = 0) : ∃ n : Nat, c.1 = n ∧ 1 ≤ n ∧ n ≤ 12 ∧ pur c = (0, 0) ∧ strange 0 c.2.2 = (0, 0) ∧ tf c = (0, 0) ∧ (∀ o ∈ c.2.2, StO n o) ∧ c.2.2.length ≤ 4096 := by
  unfold tf at h
  by_cases hp : (pur c).1 = 0
  · rw [if_neg (by simp [hp])] at h
    obtain ⟨hg, hp2, hp3⟩ := pur_zero hp
    obtain ⟨hs1, hs2⟩ := strange_zero h
    have hq := hg.q
    refine ⟨c.1.toNat, by omega, by omega, by omega, hp2, hs2, ?_, fun o ho => ?_, hg.n⟩
    · unfold tf
      rw [if_neg (by simp [hp]), hs2]
    · have := hg.ops o ho
      rw [show c.1 = ((c.1.toNat : Nat) : Int) by omega] at this
      exact sto_of this (hp3 o ho) (hs1 o ho)
  · rw [if_pos hp] at h; exact absurd h hp
theorem image_bad {c : Cir} (hc : WCir c) (t : Tx) (h : (tf c).1 ≠ 0) : W.tableau_Image c t = some ([], tf c) := by
  unfold W.tableau_Image
  refine bnd_of (tpure_ok c hc) ?_
  have h' : (tf c).1 ≠ 0 := h
  rw [br_true (by show ((tf c).1 != 0) = true; simp [h'])]
  rfl
theorem image_none {n : Nat} (hn : 1 ≤ n ∧ n ≤ 12) {b : Int} {ops : List GOp} (hw : WCir ((n : Int), b, ops)) (ht0 : tf ((n : Int), b, ops) = (0, 0)) {t : Tx} (ht : isP t n = false) :
    W.tableau_Image ((n : Int), b, ops) t = some ([], (33, 0)) := by
  unfold W.tableau_Image
  refine bnd_of ((tpure_ok _ hw).trans (congrArg some ht0)) ?_
  rw [br_false (by rfl)]
  rcases read_ok t n hn with ⟨h, _⟩ | ⟨_, r, h⟩
  · rw [ht] at h; cases h
  · refine bnd_of h ?_
    rw [br_true (by rfl)]
theorem txP_isP (n : Nat) (q : Pau) : isP (txP n q) n = true ∧ sgn (txP n q) = q.m ∧ (txP n q).drop 1 = txt (wdP n q) := by
  have h := txt_ok (wdP n q)
  refine ⟨?_, ?_, rfl⟩
  · unfold isP txP
    simp only [List.length_cons, txt_len, wdP_len, decide_true, List.getD_cons_zero, List.drop_succ_cons, List.drop_zero, h, Bool.true_and, Bool.and_true]
    cases q.m <;> rfl
  · unfold sgn txP
    rw [List.getD_cons_zero]
    cases q.m <;> rfl
theorem runK_snoc (l : List GOp) (o : GOp) (v : KV) : runK (l ++ [o]) v = gateK o (runK l v) := runK_app l [o] v
theorem both_walk {n : Nat} (hn : n ≤ 12) {ops : List GOp} (hst : ∀ o ∈ ops, StO n o) (hl : ops.length ≤ 4096) {a b : AList} {u v : KV} {t s : Nat} (ha : Amps a (2 ^ n) u t) (hb : Amps b (2 ^ n) v s) (ht : t ≤ 100) (hs : s ≤ 100) :
    ∃ a' b' k, iter (fun s : AList × AList × Int ↦ W.Law_TableauImages.c100025 (Prod.fst s) (Prod.fst (Prod.snd s)) (Prod.snd (Prod.snd s)) ops some) (a, b, (0 : Int)) = some (a', b', k) ∧ Amps a' (2 ^ n) (runK ops u) (t + ops.length) ∧ Amps b' (2 ^ n) (runK ops v) (s + ops.length) := by
  obtain ⟨x, h1, a', b', k, rfl, h2, h3⟩ := iter_each (f := fun s : AList × AList × Int ↦ W.Law_TableauImages.c100025 (Prod.fst s) (Prod.fst (Prod.snd s)) (Prod.snd (Prod.snd s)) ops some) (l := ops)
    (fun pre r st => ∃ a' b', st = (a', b', (pre.length : Int)) ∧ Amps a' (2 ^ n) (runK pre u) (t + pre.length) ∧ Amps b' (2 ^ n) (runK pre v) (s + pre.length))
    (fun x => ∃ a' b' k, x = (a', b', k) ∧ Amps a' (2 ^ n) (runK ops u) (t + ops.length) ∧ Amps b' (2 ^ n) (runK ops v) (s + ops.length))
    (by
      rintro pre o r st he ⟨a', b', rfl, e1, e2⟩
      have hlen := congrArg List.length he
      simp only [List.length_append, List.length_cons] at hlen
      left
      have hso := hst o (by rw [he]; simp)
      obtain ⟨a2, f1, f2⟩ := gate_walk e1 (ok1_sto hn hso) (by omega) (by omega)
      obtain ⟨b2, g1, g2⟩ := gate_walk e2 (ok1_sto hn hso) (by omega) (by omega)
      refine ⟨(a2, b2, ((pre.length + 1 : Nat) : Int)), ?_, a2, b2, by simp, by rw [runK_snoc, List.length_append]; exact f2, by rw [runK_snoc, List.length_append]; exact g2⟩
      unfold W.Law_TableauImages.c100025
      have hidx : idx ops (pre.length : Int) = some o := by rw [he]; exact idx_mid
      rw [br_pos (by simp only; omega), hidx, bnd_val]
      refine bnd_of f1 ?_
      rw [bnd_val]
      refine bnd_of g1 ?_
      rw [wrap_i64 (by simp only; omega)]
      rfl)
    (by
      rintro st ⟨a', b', rfl, e1, e2⟩
      refine ⟨(a', b', (ops.length : Int)), ?_, a', b', _, rfl, e1, e2⟩
      unfold W.Law_TableauImages.c100025
      rw [br_neg (by simp)])
    (s := (a, b, (0 : Int))) ⟨a, b, rfl, ha, hb⟩
  exact ⟨a', b', k, h1, h2, h3⟩
theorem image_at {n : Nat} (hn : 1 ≤ n ∧ n ≤ 12) {ops : List GOp} (hst : ∀ o ∈ ops, StO n o) (hl : ops.length ≤ 4096) {w : Wd} (hw : w.length = n) (m : Bool) {x : Nat} (hx : x < 2 ^ n) :
    W.Law_TableauImages.c100020 (x : Int) (n : Int) ops m (txt w) (gPs ops (pu w m)).m (txt (wdP n (gPs ops (pu w m)))) some = some (.inl (((x + 1 : Nat) : Int))) := by
  have h12 := p12 hn.2
  unfold W.Law_TableauImages.c100020
  rw [ge0, bnd_val, pow63 (by omega), Int.toNat_natCast, br_pos (by omega)]
  obtain ⟨l0, b1, b2⟩ := basis_walk (n := n) (by omega) hx
  obtain ⟨p0, t0, t1, p1, p2⟩ := on_walk hn hw m b2 (by omega)
  refine bnd_of (show W.Law_TableauImages.c22 (x : Int) (n : Int) m (txt w) some = some p0 from bnd_of b1 (bnd_of p1 rfl)) ?_
  refine bnd_of b1 ?_
  obtain ⟨a', b', k, e1, e2, e3⟩ := both_walk hn.2 hst hl p2 b2 (by omega) (by omega)
  refine bnd_of e1 ?_
  obtain ⟨T, f1, f2, f3⟩ := texts_walk hn.2 e2 (by omega)
  have hfit : Fit n (gPs ops (pu w m)) := gPs_fit hst (pu_fit hw m)
  obtain ⟨q0, s0, s1, q1, q2⟩ := on_walk hn (wdP_len n (gPs ops (pu w m))) (gPs ops (pu w m)).m e3 (by omega)
  rw [pu_wdP hfit] at q2
  obtain ⟨U, g1, g2, g3⟩ := texts_walk hn.2 q2 (by omega)
  rw [run_pau hn.2 ops hst] at f3
  have hTU : T = U := texts_one f2 f3 g2 g3
  subst hTU
  have hc : W.Law_TableauImages.c29 a' b' (gPs ops (pu w m)).m (txt (wdP n (gPs ops (pu w m)))) some = some false := by
    unfold W.Law_TableauImages.c29
    exact bnd_of f1 (bnd_of q1 (bnd_of g1 (bnd_of (sameTexts_self T (by omega)) rfl)))
  refine bnd_of hc ?_
  rw [br_false rfl, wrap_i64 (by omega)]
  rfl
theorem images_law (c : Cir) (hc : WCir c) (hn : c.1 < 9223372036854775808) (text : Tx) (ht : text.length ≤ 140737488355328) : W.Law_TableauImages c text = some true := by
  have hcp := copyCircuit_ok c hc
  have hpu := rpure_ok c hc
  have hnf := rfault_normal c hc.1
  have hip := ispauli_ok text c.1 ht hn
  have hg : W.Law_TableauImages.c220485 c.1 c.2.1 c.2.2 (pur c).1 (pur c).2 some = some (tf c) := by
    unfold W.Law_TableauImages.c220485 tf
    by_cases h : (pur c).1 = 0
    · rw [br_true (by simp [h]), if_neg (by simp [h])]
      exact bnd_of hnf rfl
    · rw [br_false (by simp [h]), if_pos h]
  by_cases h : (tf c).1 = 0
  · obtain ⟨n, hcn, n1, n2, hpur, hstr, htf, hst, hl⟩ := tf_zero h
    obtain ⟨c1, b, ops⟩ := c
    simp only at hcn hst hl
    subst hcn
    cases hP : isP text n with
    | false =>
      have him := image_none ⟨n1, n2⟩ hc htf hP
      rw [show (decide (1 ≤ (n : Int)) && isP text (n : Int).toNat) = false by rw [Int.toNat_natCast, hP, Bool.and_false], if_neg (by decide)] at hip
      unfold W.Law_TableauImages
      refine bnd_of hcp (bnd_of him (bnd_of begunT ?_))
      rw [br_false (by rfl)]
      refine bnd_of hpu (bnd_of (hg.trans (congrArg some htf)) (bnd_of hip ?_))
      refine bnd_of (x := ((33 : Int), (0 : Int))) (by rfl) ?_
      rw [br_false (by rfl), br_true (by rfl)]
      rfl
    | true =>
      have hwl := (isP_len hP).2.2.1
      have htx := isP_txt hP
      have him := image_ok ⟨n1, n2⟩ hc hpur hstr hst hP
      rw [show (decide (1 ≤ (n : Int)) && isP text (n : Int).toNat) = true by rw [Int.toNat_natCast, hP, Bool.and_true]; exact decide_eq_true (by omega), if_pos rfl, htx] at hip
      unfold W.Law_TableauImages
      refine bnd_of hcp (bnd_of him (bnd_of begunT ?_))
      rw [br_false (by rfl)]
      refine bnd_of hpu (bnd_of (hg.trans (congrArg some htf)) (bnd_of hip ?_))
      refine bnd_of (x := ((0 : Int), (0 : Int))) (by rfl) ?_
      rw [br_false (by rfl), br_false (by rfl)]
      generalize hq : gPs ops (pu (wd text) (sgn text)) = q
      obtain ⟨q1, q2, q3⟩ := txP_isP n q
      have hi2 := ispauli_ok (txP n q) (n : Int) (by rw [(isP_len q1).1]; omega) (by omega)
      rw [show (decide (1 ≤ (n : Int)) && isP (txP n q) (n : Int).toNat) = true by rw [Int.toNat_natCast, q1, Bool.and_true]; exact decide_eq_true (by omega), if_pos rfl, q2, q3] at hi2
      refine bnd_of hi2 ?_
      rw [br_false (by rfl)]
      by_cases h5 : (n : Int) > 5
      · rw [br_pos h5]
      · rw [br_neg h5]
        have h12 := p12 n2
        obtain ⟨r, hr, k, hk⟩ := iter_upto (f := fun s : Int ↦ W.Law_TableauImages.c100020 s (n : Int) ops (sgn text) (txt (wd text)) q.m (txt (wdP n q)) some) (2 ^ n) (fun x s => s = (x : Int)) (fun x => ∃ k, x = .inr k)
          (by
            rintro x s hx rfl
            left
            refine ⟨_, ?_, rfl⟩
            rw [← hq]
            exact image_at ⟨n1, n2⟩ hst hl hwl (sgn text) hx)
          (by
            rintro s rfl
            refine ⟨.inr ((2 ^ n : Nat) : Int), ?_, _, rfl⟩
            unfold W.Law_TableauImages.c100020
            rw [ge0, bnd_val, pow63 (by omega), Int.toNat_natCast, br_neg (by omega)]) (s := (0 : Int)) rfl
        refine bnd_of (hr.trans (congrArg some hk)) ?_
        rw [sel_inr]
  · have him := image_bad hc text h
    unfold W.Law_TableauImages
    refine bnd_of hcp (bnd_of him (bnd_of begunT ?_))
    rw [br_false (by rfl)]
    refine bnd_of hpu (bnd_of hg ?_)
    refine bnd_of hip ?_
    generalize (if (decide (1 ≤ c.1) && isP text c.1.toNat) = true then ((sgn text, text.drop 1), true) else ((false, []), false)) = y
    have h23 : W.Law_TableauImages.c232773 y.2 (tf c).1 (tf c).2 some = some ((tf c).1, (tf c).2) := by
      unfold W.Law_TableauImages.c232773 W.Law_TableauImages.c8
      rw [br_false (by simp [h]), bnd_val, br_false rfl]
    refine bnd_of h23 ?_
    rw [br_false (by rw [eqT_pair]; simp), br_true (by simp [h])]
    rfl
end Go.Ql
end

section
namespace Go.Ql
theorem wint' {n : Int} (h : Wf (.int .i64) n) : n < 9223372036854775808 := by
  have h : (Lit.int .i64 n).wf = true := h
  simp only [Lit.wf, Bool.and_eq_true, decide_eq_true_eq] at h
  have h2 : n ≤ 9223372036854775807 := h.2
  omega
theorem images_wf : ∀ x : dens [cirTy, .str], WfL [cirTy, .str] x → W.Law_TableauImages.ce.F x = some true := by
  intro x h
  have h2 : x.2.length ≤ 140737488351232 := h.2
  exact images_law x.1 (wcir_of h.1) (wint' h.1.1) x.2 (by omega)
end Go.Ql
end
