/- Plain laws: patches, their generators and distances. -/
import Derived.Test.YtmoaeeemokdlgaaPa
import Derived.Test.YtmoaeeemokdlgaaWc
section
/- Plain laws: patches, by trial: their generators, their distances. -/
set_option linter.unusedSectionVars false
set_option maxRecDepth 100000
namespace Go.Ql
def cellZ (i j r k : Nat) : UInt8 := if r = i ∧ (k = j ∨ k = j + 1) then 90 else 73
def cellX (i r : Nat) : UInt8 := if r = i ∨ r = i + 1 then 88 else 73
def rowZ (R C i j : Nat) : Tx := 43 :: (List.range R).flatMap fun r => (List.range C).map fun k => cellZ i j r k
def rowX (R C i : Nat) : Tx := 43 :: (List.range R).flatMap fun r => (List.range C).map fun _ => cellX i r
def gensP (R C : Nat) : List Tx := ((List.range R).flatMap fun i => (List.range (C - 1)).map fun j => rowZ R C i j) ++ (List.range (R - 1)).map fun i => rowX R C i
def wantL (R C k q : Nat) : UInt8 := if k < R * (C - 1) then (if q = k / (C - 1) * C + k % (C - 1) ∨ q = k / (C - 1) * C + k % (C - 1) + 1 then 90 else 73)
  else (if q / C = k - R * (C - 1) ∨ q / C = k - R * (C - 1) + 1 then 88 else 73)
def wantR (R C k : Nat) : Tx := 43 :: (List.range (R * C)).map fun q => wantL R C k q
def wantP (R C : Nat) : List Tx := (List.range (R * (C - 1) + R - 1)).map fun k => wantR R C k
theorem gens_want : ∀ R C : Fin 13, 1 ≤ R.val → 1 ≤ C.val → R.val * C.val ≤ 12 → gensP R.val C.val = wantP R.val C.val := by decide +kernel
theorem patch_chk : ∀ R C : Fin 7, 1 ≤ R.val → 1 ≤ C.val → R.val * C.val ≤ 6 → chkC ((R.val * C.val : Nat) : Int) (gensP R.val C.val) = (0, 0) := by decide +kernel
theorem patch_dist : ∀ R C : Fin 7, 1 ≤ R.val → 1 ≤ C.val → R.val * C.val ≤ 6 → distOf (R.val * C.val) (wds (gensP R.val C.val)) = min R.val C.val := by decide +kernel
end Go.Ql
end

section
/- Plain laws: the program's patches; the law of Patch. -/
set_option linter.unusedSectionVars false
set_option maxHeartbeats 2000000
namespace Go.Ql
theorem map_u8 (f : Nat → UInt8) (n : Nat) : ((List.range n).map fun k => (((f k).toNat : Nat) : Int)).map (fun n => UInt8.ofNat (Int.toNat n)) = (List.range n).map f := by
  rw [List.map_map]
  refine List.map_congr_left fun k _ => ?_
  simp
def iZ (C i j r : Nat) : List Int := (List.range C).map fun k => (((cellZ i j r k).toNat : Nat) : Int)
def iX (C i r : Nat) : List Int := (List.range C).map fun _ => (((cellX i r).toNat : Nat) : Int)
theorem pz_one (i j r k : Nat) (hj : j ≤ 12) : W.code_Patch_2 (r : Int) (k : Int) (i : Int) (j : Int) = some (decide (r = i ∧ (k = j ∨ k = j + 1)), (i : Int), (j : Int), ()) := by
  have h : W.code_Patch_2.c1 (r : Int) (k : Int) (i : Int) (j : Int) some = some (decide (r = i ∧ (k = j ∨ k = j + 1))) := by
    simp only [W.code_Patch_2.c1, wrap_i64 (show -9223372036854775808 ≤ (j : Int) + 1 ∧ (j : Int) + 1 ≤ 9223372036854775807 by omega), br_if]
    by_cases h1 : r = i
    · rw [if_pos (by simp [h1])]
      by_cases h2 : k = j
      · rw [if_pos (by simp [h2])]; simp [h1, h2]
      · rw [if_neg (by simp; omega)]; congr 1; rw [Bool.eq_iff_iff]; simp [h1, h2]; omega
    · rw [if_neg (by simp; omega)]; simp [h1]
  simp only [W.code_Patch_2, h, bnd_val, uP]
theorem px_one (i r k : Nat) (hi : i ≤ 12) : W.code_Patch_3 (r : Int) (k : Int) (i : Int) = some (decide (r = i ∨ r = i + 1), (i : Int), ()) := by
  have h : W.code_Patch_3.c1 (r : Int) (i : Int) some = some (decide (r = i ∨ r = i + 1)) := by
    simp only [W.code_Patch_3.c1, wrap_i64 (show -9223372036854775808 ≤ (i : Int) + 1 ∧ (i : Int) + 1 ≤ 9223372036854775807 by omega), br_if]
    by_cases h1 : r = i
    · rw [if_pos (by simp [h1])]; simp [h1]
    · rw [if_neg (by simp; omega)]; congr 1; rw [Bool.eq_iff_iff]; simp [h1]; omega
  simp only [W.code_Patch_3, h, bnd_val, uP]
theorem flat_len {A : Type} (f : Nat → List A) (c : Nat) (h : ∀ r, (f r).length = c) : ∀ R, ((List.range R).flatMap f).length = R * c
  | 0 => by simp
  | R + 1 => by rw [List.range_succ, List.flatMap_append, List.length_append, flat_len f c h R]; simp [h, Nat.succ_mul]
theorem pz_row (R C i j : Nat) (N : Int) (G : List Tx) (hR : R ≤ 12) (hC : C ≤ 12) (hi : i ≤ 12) (hj : j ≤ 12) (hG : G.length ≤ 1000) :
    W.code_Patch_1__z 90 (i : Int) (j : Int) (R : Int) (C : Int) N G = some (G ++ [rowZ R C i j], N, (C : Int), (R : Int), (j : Int), (i : Int), ()) := by
  have hlen : ∀ r, (iZ C i j r).length = C := fun r => by simp [iZ]
  have inner : ∀ (r : Nat) (acc : List Int), r ≤ 12 → acc.length ≤ 1000 → iter (fun s ↦ W.code_Patch_1__z.c100005 90 (r : Int) (C : Int) (Prod.fst s) (Prod.fst (Prod.snd s)) (Prod.fst (Prod.snd (Prod.snd s))) (Prod.snd (Prod.snd (Prod.snd s))) some) ((0 : Int), acc, (i : Int), (j : Int)) =
      some ((C : Int), acc ++ iZ C i j r, (i : Int), (j : Int)) := by
    intro r acc hr ha
    rw [iter_count (s0 := ((0 : Int), acc, (i : Int), (j : Int))) C (fun k => ((k : Int), acc ++ (List.range k).map (fun k => (((cellZ i j r k).toNat : Nat) : Int)), (i : Int), (j : Int))) ((C : Int), acc ++ iZ C i j r, (i : Int), (j : Int))]
    · intro k hk
      simp only [W.code_Patch_1__z.c100005, W.code_Patch_1__z.c224584, uP, pz_one i j r k hj, bnd_val, br_if]
      rw [if_pos (by simpa using hk), okIf_true (by simp; omega), bnd_val, bnd_val]
      by_cases hd : r = i ∧ (k = j ∨ k = j + 1)
      · rw [if_pos (by simpa using hd), bnd_val, wrap_i64 (by omega), List.range_succ, List.map_append, ← List.append_assoc, List.map_singleton, cellZ, if_pos hd]; rfl
      · rw [if_neg (by simpa using hd), bnd_val, wrap_i64 (by omega), List.range_succ, List.map_append, ← List.append_assoc, List.map_singleton, cellZ, if_neg hd]; rfl
    · simp only [W.code_Patch_1__z.c100005, br_if]
      rw [if_neg (by simp)]; rfl
    · simp
  simp only [W.code_Patch_1__z, uP]
  rw [iter_count (s0 := ((0 : Int), [(43 : Int)], (i : Int), (j : Int))) R (fun r => ((r : Int), 43 :: (List.range r).flatMap (iZ C i j), (i : Int), (j : Int))) ((R : Int), 43 :: (List.range R).flatMap (iZ C i j), (i : Int), (j : Int))]
  · rw [bnd_val, okIf_true (by simp; omega), bnd_val]
    congr 4
    rw [List.map_cons, List.map_flatMap, rowZ]
    congr 2
    funext r
    exact map_u8 _ _
  · intro r hr
    simp only [W.code_Patch_1__z.c100002, br_if]
    have hfl := flat_len (iZ C i j) C hlen r
    have hm : r * C ≤ 12 * 12 := Nat.mul_le_mul (by omega) hC
    rw [if_pos (by simpa using hr), inner r _ (by omega) (by simp [hfl]; omega), bnd_val, wrap_i64 (by omega), List.range_succ, List.flatMap_append, List.cons_append]
    simp
  · simp only [W.code_Patch_1__z.c100002, br_if]
    rw [if_neg (by simp)]
  · rfl
theorem px_row (R C i : Nat) (N : Int) (G : List Tx) (hR : R ≤ 12) (hC : C ≤ 12) (hi : i ≤ 12) (hG : G.length ≤ 1000) :
    W.code_Patch_1__x 88 (i : Int) (R : Int) (C : Int) N G = some (G ++ [rowX R C i], N, (C : Int), (R : Int), (i : Int), ()) := by
  have hlen : ∀ r, (iX C i r).length = C := fun r => by simp [iX]
  have inner : ∀ (r : Nat) (acc : List Int), r ≤ 12 → acc.length ≤ 1000 → iter (fun s ↦ W.code_Patch_1__x.c100005 88 (r : Int) (C : Int) (Prod.fst s) (Prod.fst (Prod.snd s)) (Prod.snd (Prod.snd s)) some) ((0 : Int), acc, (i : Int)) =
      some ((C : Int), acc ++ iX C i r, (i : Int)) := by
    intro r acc hr ha
    rw [iter_count (s0 := ((0 : Int), acc, (i : Int))) C (fun k => ((k : Int), acc ++ (List.range k).map (fun _ => (((cellX i r).toNat : Nat) : Int)), (i : Int))) ((C : Int), acc ++ iX C i r, (i : Int))]
    · intro k hk
      simp only [W.code_Patch_1__x.c100005, W.code_Patch_1__x.c224584, uP, px_one i r k hi, bnd_val, br_if]
      rw [if_pos (by simpa using hk), okIf_true (by simp; omega), bnd_val, bnd_val]
      by_cases hd : r = i ∨ r = i + 1
      · rw [if_pos (by simpa using hd), bnd_val, wrap_i64 (by omega), List.range_succ, List.map_append, ← List.append_assoc, List.map_singleton, cellX, if_pos hd]; rfl
      · rw [if_neg (by simpa using hd), bnd_val, wrap_i64 (by omega), List.range_succ, List.map_append, ← List.append_assoc, List.map_singleton, cellX, if_neg hd]; rfl
    · simp only [W.code_Patch_1__x.c100005, br_if]
      rw [if_neg (by simp)]; rfl
    · simp
  simp only [W.code_Patch_1__x, uP]
  rw [iter_count (s0 := ((0 : Int), [(43 : Int)], (i : Int))) R (fun r => ((r : Int), 43 :: (List.range r).flatMap (iX C i), (i : Int))) ((R : Int), 43 :: (List.range R).flatMap (iX C i), (i : Int))]
  · rw [bnd_val, okIf_true (by simp; omega), bnd_val]
    congr 4
    rw [List.map_cons, List.map_flatMap, rowX]
    congr 2
    funext r
    exact map_u8 _ _
  · intro r hr
    simp only [W.code_Patch_1__x.c100002, br_if]
    have hfl := flat_len (iX C i) C hlen r
    have hm : r * C ≤ 12 * 12 := Nat.mul_le_mul (by omega) hC
    rw [if_pos (by simpa using hr), inner r _ (by omega) (by simp [hfl]; omega), bnd_val, wrap_i64 (by omega), List.range_succ, List.flatMap_append, List.cons_append]
    simp
  · simp only [W.code_Patch_1__x.c100002, br_if]
    rw [if_neg (by simp)]
  · rfl
def outP (R C : Int) : Prop := R < 1 ∨ 12 < R ∨ C < 1 ∨ 12 < C ∨ 12 < R * C
theorem patch_ok (R C : Nat) (hR : 1 ≤ R ∧ R ≤ 12) (hC : 1 ≤ C ∧ C ≤ 12) (hm : R * C ≤ 12) : W.code_Patch (R : Int) (C : Int) = some ((((R * C : Nat) : Int), gensP R C), 0, 0) := by
  have hmul : (R : Int) * (C : Int) = ((R * C : Nat) : Int) := by simp
  have hw : IntKind.i64.wrap ((R : Int) * (C : Int)) = ((R * C : Nat) : Int) := by rw [hmul, wrap_i64 (by omega)]
  have hc1 : W.code_Patch.c1 (R : Int) (C : Int) some = some false := by
    simp only [W.code_Patch.c1, br_if, hw]
    rw [if_neg (by simp; omega), if_neg (by simp; omega), if_neg (by simp; omega), if_neg (by simp; omega)]
    congr 1
    simp; omega
  have hz : ∀ r, ((fun i => (List.range (C - 1)).map fun j => rowZ R C i j) r).length = C - 1 := fun r => by simp
  have hsub : ∀ n : Nat, 1 ≤ n → n ≤ 12 → IntKind.i64.wrap ((n : Int) - 1) = ((n - 1 : Nat) : Int) := fun n h1 h2 => by rw [wrap_i64 (by omega)]; omega
  simp only [W.code_Patch, hc1, bnd_val, br_ff, hw]
  rw [iter_count (s0 := ((0 : Int), (R : Int), (C : Int), ((R * C : Nat) : Int), ([] : List Tx))) R (fun i => ((i : Int), (R : Int), (C : Int), ((R * C : Nat) : Int), (List.range i).flatMap fun i => (List.range (C - 1)).map fun j => rowZ R C i j))
    ((R : Int), (R : Int), (C : Int), ((R * C : Nat) : Int), (List.range R).flatMap fun i => (List.range (C - 1)).map fun j => rowZ R C i j)]
  · simp only [bnd_val, hsub R hR.1 hR.2]
    rw [iter_count (s0 := ((0 : Int), (R : Int), (C : Int), ((R * C : Nat) : Int), (List.range R).flatMap fun i => (List.range (C - 1)).map fun j => rowZ R C i j)) (R - 1)
      (fun i => ((i : Int), (R : Int), (C : Int), ((R * C : Nat) : Int), ((List.range R).flatMap fun i => (List.range (C - 1)).map fun j => rowZ R C i j) ++ (List.range i).map fun i => rowX R C i))
      (((R - 1 : Nat) : Int), (R : Int), (C : Int), ((R * C : Nat) : Int), gensP R C)]
    · rfl
    · intro i hi
      have hfl := flat_len (fun i => (List.range (C - 1)).map fun j => rowZ R C i j) (C - 1) hz R
      have hmm : R * (C - 1) ≤ 12 * 12 := Nat.mul_le_mul hR.2 (by omega)
      simp only [W.code_Patch.c100015, uP, br_if]
      rw [if_pos (by simp; omega), px_row R C i _ _ hR.2 hC.2 (by omega) (by rw [List.length_append, hfl]; simp; omega), bnd_val, wrap_i64 (by omega), List.range_succ, List.map_append, ← List.append_assoc]
      rfl
    · simp only [W.code_Patch.c100015, br_if]
      rw [if_neg (by simp)]; rfl
    · simp
  · intro i hi
    have hfl := flat_len (fun i => (List.range (C - 1)).map fun j => rowZ R C i j) (C - 1) hz i
    have hmm : i * (C - 1) ≤ 12 * 12 := Nat.mul_le_mul (by omega) (by omega)
    simp only [W.code_Patch.c100006, br_if, hsub C hC.1 hC.2]
    rw [if_pos (by simpa using hi)]
    generalize hg : ((List.range i).flatMap fun i => (List.range (C - 1)).map fun j => rowZ R C i j) = G at *
    rw [iter_count (s0 := ((0 : Int), (R : Int), (C : Int), ((R * C : Nat) : Int), (i : Int), G)) (C - 1) (fun j => ((j : Int), (R : Int), (C : Int), ((R * C : Nat) : Int), (i : Int), G ++ (List.range j).map fun j => rowZ R C i j))
      (((C - 1 : Nat) : Int), (R : Int), (C : Int), ((R * C : Nat) : Int), (i : Int), G ++ (List.range (C - 1)).map fun j => rowZ R C i j)]
    · simp only [bnd_val]
      rw [wrap_i64 (by omega), List.range_succ, List.flatMap_append, hg]
      simp
    · intro j hj
      simp only [W.code_Patch.c100009, uP, br_if]
      rw [if_pos (by simp; omega), pz_row R C i j _ _ hR.2 hC.2 (by omega) (by omega) (by rw [List.length_append, hfl]; simp; omega), bnd_val, wrap_i64 (by omega), List.range_succ, List.map_append, ← List.append_assoc]
      rfl
    · simp only [W.code_Patch.c100009, br_if]
      rw [if_neg (by simp)]
    · simp
  · simp only [W.code_Patch.c100006, br_if]
    rw [if_neg (by simp)]
  · rfl
end Go.Ql
end

section
/- Plain laws: the law of Patch. -/
set_option linter.unusedSectionVars false
set_option maxHeartbeats 2000000
namespace Go.Ql
theorem wrap_nat {n : Nat} (h : n ≤ 9223372036854775807) : IntKind.i64.wrap (n : Int) = (n : Int) := wrap_i64 (by omega)
theorem want_letter (R C k q : Nat) (hR : 1 ≤ R ∧ R ≤ 12) (hC : 1 ≤ C ∧ C ≤ 12) (hm : R * C ≤ 12) (hk : k < R * (C - 1) + R - 1) (hq : q < R * C) :
    W.Law_CodePatches.c265551 (R : Int) (C : Int) (k : Int) (q : Int) (IntKind.i64.wrap (Int.tdiv (q : Int) (C : Int))) [73] some = some [wantL R C k q] := by
  have hsub : IntKind.i64.wrap ((C : Int) - 1) = ((C - 1 : Nat) : Int) := by rw [wrap_i64 (by omega)]; omega
  have hmm : R * (C - 1) ≤ 12 * 12 := Nat.mul_le_mul hR.2 (by omega)
  have hpr : IntKind.i64.wrap ((R : Int) * ((C - 1 : Nat) : Int)) = ((R * (C - 1) : Nat) : Int) := by
    rw [show (R : Int) * ((C - 1 : Nat) : Int) = ((R * (C - 1) : Nat) : Int) by simp, wrap_i64 (by omega)]
  have hqc : q / C ≤ 12 := Nat.le_trans (Nat.div_le_self _ _) (by omega)
  have hdiv : IntKind.i64.wrap (Int.tdiv (q : Int) (C : Int)) = ((q / C : Nat) : Int) := by
    rw [show Int.tdiv (q : Int) (C : Int) = ((q / C : Nat) : Int) from rfl, wrap_nat (by omega)]
  simp only [W.Law_CodePatches.c265551, hsub, hpr, hdiv, br_if]
  by_cases h1 : k < R * (C - 1)
  · have hc0 : 0 < C - 1 := by
      rcases Nat.eq_zero_or_pos (C - 1) with h | h
      · rw [h] at h1; simp at h1
      · exact h
    rw [if_pos (by simp; omega)]
    have hkd : k / (C - 1) ≤ 144 := Nat.le_trans (Nat.div_le_self _ _) (by omega)
    have hkm : k % (C - 1) ≤ 12 := Nat.le_of_lt (Nat.lt_of_lt_of_le (Nat.mod_lt _ hc0) (by omega))
    have hkp : k / (C - 1) * C ≤ 144 * 12 := Nat.mul_le_mul hkd hC.2
    have c17 : W.Law_CodePatches.c17 (C : Int) some = some () := by
      simp only [W.Law_CodePatches.c17, hsub]
      rw [okIf_true (by simp; omega)]; rfl
    have e1 : Int.tdiv (k : Int) ((C - 1 : Nat) : Int) = ((k / (C - 1) : Nat) : Int) := rfl
    have e2 : Int.tmod (k : Int) ((C - 1 : Nat) : Int) = ((k % (C - 1) : Nat) : Int) := rfl
    have e3 : IntKind.i64.wrap (((k / (C - 1) : Nat) : Int) * (C : Int)) = ((k / (C - 1) * C : Nat) : Int) := by
      rw [show ((k / (C - 1) : Nat) : Int) * (C : Int) = ((k / (C - 1) * C : Nat) : Int) by simp, wrap_nat (by omega)]
    have hfst : IntKind.i64.wrap (IntKind.i64.wrap (IntKind.i64.wrap (Int.tdiv (k : Int) ((C - 1 : Nat) : Int)) * (C : Int)) + Int.tmod (k : Int) ((C - 1 : Nat) : Int)) = ((k / (C - 1) * C + k % (C - 1) : Nat) : Int) := by
      rw [e1, e2, wrap_nat (by omega), e3, show ((k / (C - 1) * C : Nat) : Int) + ((k % (C - 1) : Nat) : Int) = ((k / (C - 1) * C + k % (C - 1) : Nat) : Int) from (Int.natCast_add _ _).symm, wrap_nat (by omega)]
    have c18 : W.Law_CodePatches.c18 (q : Int) ((k / (C - 1) * C + k % (C - 1) : Nat) : Int) some = some (decide (q = k / (C - 1) * C + k % (C - 1) ∨ q = k / (C - 1) * C + k % (C - 1) + 1)) := by
      generalize k / (C - 1) * C = A at *
      generalize k % (C - 1) = B at *
      simp only [W.Law_CodePatches.c18, br_if]
      rw [wrap_i64 (by omega)]
      by_cases h : q = A + B
      · rw [if_pos (by simp [h])]; simp [h]
      · rw [if_neg (by simp; omega)]; congr 1; rw [Bool.eq_iff_iff]; simp <;> omega
    rw [c17, bnd_val, hfst, c18, bnd_val, wantL, if_pos h1]
    by_cases h : q = k / (C - 1) * C + k % (C - 1) ∨ q = k / (C - 1) * C + k % (C - 1) + 1
    · rw [if_pos (by simpa using h), if_pos h]
    · rw [if_neg (by simpa using h), if_neg h]
  · rw [if_neg (by simp; omega)]
    have c20 : W.Law_CodePatches.c20 (R : Int) (C : Int) (k : Int) ((q / C : Nat) : Int) some = some (decide (q / C = k - R * (C - 1) ∨ q / C = k - R * (C - 1) + 1)) := by
      simp only [W.Law_CodePatches.c20, hsub, hpr, br_if]
      generalize q / C = A at *
      generalize R * (C - 1) = B at *
      rw [wrap_i64 (x := (k : Int) - (B : Int)) (by omega), wrap_i64 (by omega)]
      by_cases h : A = k - B
      · rw [if_pos (by simp; omega)]; simp [h]
      · rw [if_neg (by simp; omega)]; congr 1; rw [Bool.eq_iff_iff]; simp <;> omega
    rw [c20, bnd_val, wantL, if_neg h1]
    by_cases h : q / C = k - R * (C - 1) ∨ q / C = k - R * (C - 1) + 1
    · rw [if_pos (by simpa using h), if_pos h]
    · rw [if_neg (by simpa using h), if_neg h]
theorem want_ok (R C : Nat) (hR : 1 ≤ R ∧ R ≤ 12) (hC : 1 ≤ C ∧ C ≤ 12) (hm : R * C ≤ 12) :
    iter (fun s ↦ W.Law_CodePatches.c100008 (R : Int) (C : Int) (Prod.fst s) (Prod.snd s) some) ((0 : Int), ([] : List Tx)) = some (((R * (C - 1) + R - 1 : Nat) : Int), wantP R C) := by
  have hmul : IntKind.i64.wrap ((R : Int) * (C : Int)) = ((R * C : Nat) : Int) := by rw [show (R : Int) * (C : Int) = ((R * C : Nat) : Int) by simp, wrap_i64 (by omega)]
  have hsub : IntKind.i64.wrap ((C : Int) - 1) = ((C - 1 : Nat) : Int) := by rw [wrap_i64 (by omega)]; omega
  have hmm : R * (C - 1) ≤ 12 * 12 := Nat.mul_le_mul hR.2 (by omega)
  have hpr : IntKind.i64.wrap ((R : Int) * ((C - 1 : Nat) : Int)) = ((R * (C - 1) : Nat) : Int) := by
    rw [show (R : Int) * ((C - 1 : Nat) : Int) = ((R * (C - 1) : Nat) : Int) by simp, wrap_i64 (by omega)]
  have hend : IntKind.i64.wrap (IntKind.i64.wrap (((R * (C - 1) : Nat) : Int) + (R : Int)) - 1) = ((R * (C - 1) + R - 1 : Nat) : Int) := by
    generalize R * (C - 1) = B at *
    rw [wrap_i64 (x := (B : Int) + (R : Int)) (by omega), wrap_i64 (by omega)]; omega
  refine iter_count (R * (C - 1) + R - 1) (fun k => ((k : Int), (List.range k).map fun k => wantR R C k)) _ (fun k hk => ?_) ?_ rfl
  · simp only [W.Law_CodePatches.c100008, br_if, hsub, hpr, hend]
    rw [if_pos (by simpa using hk)]
    rw [iter_count (s0 := ((ByteArray.mk #[43]).data.toList, (0 : Int))) (R * C) (fun q => (43 :: (List.range q).map fun q => wantL R C k q, (q : Int))) (wantR R C k, ((R * C : Nat) : Int))]
    · rw [bnd_val, okIf_true (by simp; omega), bnd_val, wrap_i64 (by omega), List.range_succ, List.map_append]
      rfl
    · intro q hq
      simp only [W.Law_CodePatches.c100012, br_if, hmul]
      rw [if_pos (by rw [decide_eq_true_eq]; omega), okIf_true (by simp; omega), bnd_val]
      have := want_letter R C k q hR hC hm hk hq
      rw [this, bnd_val, okIf_true (by simp; omega), bnd_val, wrap_i64 (by omega), List.range_succ, List.map_append]
      rfl
    · simp only [W.Law_CodePatches.c100012, br_if, hmul]
      rw [if_neg (by simp)]; rfl
    · rfl
  · simp only [W.Law_CodePatches.c100008, br_if, hsub, hpr, hend]
    rw [if_neg (by simp)]; rfl
theorem patches_law (R C : Int) : W.Law_CodePatches R C = some true := by
  have c1 : W.code_Patch.c1 R C some = some (decide (R < 1 ∨ 12 < R ∨ C < 1 ∨ 12 < C ∨ 12 < IntKind.i64.wrap (R * C))) := by
    simp only [W.code_Patch.c1, br_or]; exact some_dec (by simp)
  have c4 : W.Law_CodePatches.c4 R C some = some (decide (R < 1 ∨ 12 < R ∨ C < 1 ∨ 12 < C ∨ 12 < IntKind.i64.wrap (R * C))) := by
    simp only [W.Law_CodePatches.c4, br_or]; exact some_dec (by simp; omega)
  by_cases h : R < 1 ∨ 12 < R ∨ C < 1 ∨ 12 < C ∨ 12 < IntKind.i64.wrap (R * C)
  · have hp : W.code_Patch R C = some ((0, []), 25, 0) := by
      simp only [W.code_Patch, c1, bnd_val, br_if]
      rw [if_pos (by simpa using h)]
    simp only [W.Law_CodePatches, hp, bnd_val, begun_ok, c4, br_if]
    rw [if_neg (by simp), if_pos (by simpa using h)]
    simp only [W.Law_CodePatches.c5, sameCode_self 0 [] (by simp), eqT_pair, bnd_val, br_if]
    rfl
  · have hrc : 1 ≤ R ∧ R ≤ 12 ∧ 1 ≤ C ∧ C ≤ 12 := by omega
    obtain ⟨R, rfl⟩ := Int.eq_ofNat_of_zero_le (show 0 ≤ R by omega)
    obtain ⟨C, rfl⟩ := Int.eq_ofNat_of_zero_le (show 0 ≤ C by omega)
    have hR : 1 ≤ R ∧ R ≤ 12 := by omega
    have hC : 1 ≤ C ∧ C ≤ 12 := by omega
    have hmm : R * C ≤ 12 * 12 := Nat.mul_le_mul hR.2 hC.2
    have hmul : IntKind.i64.wrap ((R : Int) * (C : Int)) = ((R * C : Nat) : Int) := by rw [show (R : Int) * (C : Int) = ((R * C : Nat) : Int) by simp, wrap_i64 (by omega)]
    have hm : R * C ≤ 12 := by rw [hmul] at h; omega
    have hgw : gensP R C = wantP R C := gens_want ⟨R, by omega⟩ ⟨C, by omega⟩ hR.1 hC.1 hm
    have hwl : (wantP R C).length ≤ 8796093022208 := by
      have : R * (C - 1) ≤ 12 * 12 := Nat.mul_le_mul hR.2 (by omega)
      simp [wantP]; omega
    simp only [W.Law_CodePatches, patch_ok R C hR hC hm, bnd_val, begun_ok, c4, br_if, want_ok R C hR hC hm, hmul]
    rw [if_neg (by simp), if_neg (by rw [hmul] at h; simpa using h)]
    have c24 : W.Law_CodePatches.c24 (R : Int) (C : Int) ((R * C : Nat) : Int) (gensP R C) 0 (wantP R C) some = some false := by
      simp only [W.Law_CodePatches.c24, hmul, hgw, sameCode_self _ _ hwl, bnd_val, br_if]
      rfl
    rw [c24, bnd_val, if_neg (by simp)]
    by_cases h6 : 6 < R * C
    · rw [if_pos (by simp; omega)]
    · rw [if_neg (by simp; omega)]
      have hR6 : R < 7 := by
        have := Nat.mul_le_mul (Nat.le_refl R) hC.1
        omega
      have hC6 : C < 7 := by
        have := Nat.mul_le_mul hR.1 (Nat.le_refl C)
        omega
      have g1 := patch_chk ⟨R, hR6⟩ ⟨C, hC6⟩ hR.1 hC.1 (by simp only; omega)
      have g2 := patch_dist ⟨R, hR6⟩ ⟨C, hC6⟩ hR.1 hC.1 (by simp only; omega)
      simp only at g1 g2
      rw [pdist_ok, g1, if_pos rfl, if_neg (by omega), Int.toNat_natCast, g2, bnd_val]
      simp only [W.Law_CodePatches.c29, br_if]
      rw [if_pos (by simp), show ((min R C : Nat) : Int) = Min.min (R : Int) (C : Int) by omega]
      simp [bnd_val]
theorem patches_wf : ∀ x : dens [.int .i64, .int .i64], WfL [.int .i64, .int .i64] x → W.Law_CodePatches.ce.F x = some true := fun x _ => patches_law x.1 x.2
end Go.Ql
end
