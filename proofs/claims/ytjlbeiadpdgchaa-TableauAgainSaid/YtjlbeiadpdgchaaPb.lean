/- Plain laws: circuits checked; words of letters; codes checked. -/
import Derived.Test.YtjlbeiadpdgchaaWc
import Derived.Test.YtjlbeiadpdgchaaPa
import Derived.Test.YtjlbeiadpdgchaaGa
set_option linter.all false
section
section
namespace Go.Ql
abbrev Op:=Int×Int×List Int×Int×Int×List Int
abbrev Cir:=Int×Int×List Op
def WOp (o:Op):Prop:=o.2.2.1.length≤17592186043904∧o.2.2.2.2.2.length≤17592186043904
def WCir (c:Cir):Prop:=c.2.2.length≤1759218604390 ∧ ∀ o∈c.2.2,WOp o
def ctlBad (q0 qn:Int):List Int→List Int→Int
 | _,[]=>0
 | pre,q::r=>if q < 0∨qn≤q then 10 else if q=q0∨q∈pre then 12 else ctlBad q0 qn (pre++[q]) r
def ifBad (bn:Int) (l:List Int):Prop:=∃ v∈l,v=0∨bn < v∨v < -bn
instance (bn:Int) (l:List Int):Decidable (ifBad bn l):=by unfold ifBad;infer_instance
def opBad (o:Op) (qn bn:Int):Int:=
 if o.1 < 1∨6 < o.1 then 8
 else if o.2.1 < 0∨15 < o.2.1∨(¬ (o.1=1∨o.1=4)∧o.2.1≠0) then 9
 else if o.2.2.2.1 < 0∨qn≤o.2.2.2.1∨(o.1=1∧o.2.2.2.1≠0) then 10
 else if o.2.2.1≠[] ∧ ¬ (o.1=2∨o.1=3∨o.1=4) then 11
 else if ctlBad o.2.2.2.1 qn [] o.2.2.1≠0 then ctlBad o.2.2.2.1 qn [] o.2.2.1
 else if (o.1=5∧(o.2.2.2.2.1 < 0∨bn≤o.2.2.2.2.1))∨(o.1≠5∧o.2.2.2.2.1≠0) then 13
 else if 24 < o.2.2.2.2.2.length then 14
 else if ifBad bn o.2.2.2.2.2 then 14 else 0
theorem one_c1 (k:Int):W.jj.c1 k some=some (decide (k < 1∨6 < k)):=by
 simp only [W.jj.c1,br_or];exact some_dec (by simp)
theorem turns_ok (k:Int):W.Je k=some (decide (k=1∨k=4)):=by
 simp only [W.Je,W.Je.c1,br_or,bnd_val];exact some_dec (by simp)
theorem gate_ok (k:Int):W.Jl k=some (decide (k=2∨k=3∨k=4)):=by
 simp only [W.Jl,W.Jl.c1,br_or,bnd_val];exact some_dec (by simp)
theorem one_c3 (k a:Int):W.jj.c3 k a some=some (decide (a < 0∨15 < a∨(¬ (k=1∨k=4)∧a≠0))):=by
 simp only [W.jj.c3,turns_ok,br_or,br_and,bnd_val];exact some_dec (by simp)
theorem one_c5 (k q qn:Int):W.jj.c5 k q qn some=some (decide (q < 0∨qn≤q∨(k=1∧q≠0))):=by
 simp only [W.jj.c5,br_or,br_and];exact some_dec (by simp)
theorem one_c7 (k:Int) (l:List Int):W.jj.c7 k l some=some (decide (l≠[] ∧ ¬ (k=2∨k=3∨k=4))):=by
 simp only [W.jj.c7,gate_ok,br_or,br_and,bnd_val];exact some_dec (by cases l <;> simp)
theorem one_c14 (q qn:Int):W.jj.c14 q qn some=some (decide (q < 0∨qn≤q)):=by
 simp only [W.jj.c14,br_or];exact some_dec (by simp)
theorem one_c20 (k b bn:Int):W.jj.c20 k b bn some=some (decide ((k=5∧(b < 0∨bn≤b))∨(k≠5∧b≠0))):=by
 by_cases hk:k=5
 ·subst hk
  simp only [W.jj.c20,beq_self_eq_true,bne_self_eq_false,br_tt,br_ff,br_or];exact some_dec (by simp)
 ·simp only [W.jj.c20,beq_eq_false_iff_ne.2 hk,bne_iff_ne.2 hk,br_tt,br_ff];exact some_dec (by simp [hk])
theorem one_c27 (v bn:Int) (h:0≤bn∧bn≤12):W.jj.c27 v bn some=some (decide (v=0∨bn < v∨v < -bn)):=by
 simp only [W.jj.c27,br_or]
 rw [wrap_i64 (by omega)]
 exact some_dec (by simp)
theorem one_ctl (q0 qn:Int) (h0:0≤q0∧q0 < 12) (hn:qn≤12) (l:List Int) (hl:l.length≤17592186043904) :
  ∃ r,iter (fun s:Int×List Bool↦W.jj.c100012 l (l.length:Int) s.1 s.2 qn some) ((0:Int),List.set (List.replicate 12 false) q0.toNat true)=some r ∧
   ((∃ u v,r = .inl (ctlBad q0 qn [] l,u,v)∧ctlBad q0 qn [] l≠0) ∨ ∃ u,r = .inr u∧ctlBad q0 qn [] l=0):=by
 refine iter_each (l:=l) (fun pre r s=>s.1=(pre.length:Int)∧s.2.length=12∧(∀ j:Nat,j < 12→s.2[j]? = some (decide ((j:Int)=q0∨(j:Int)∈pre)))∧ctlBad q0 qn [] l=ctlBad q0 qn pre r) _ ?_ ?_ ?_
 ·rintro pre a r ⟨i,seen⟩ rfl ⟨rfl,h1,h2,h3⟩
  simp only at h1 h2 ⊢
  simp only [List.length_append,List.length_cons] at hl
  simp only [W.jj.c100012,br_if,idx_mid,bnd_val,one_c14]
  rw [if_pos lt_app]
  rw [h3]
  by_cases ha:a < 0∨qn≤a
  ·rw [if_pos (by simpa using ha)]
   exact .inr ⟨_,rfl,.inl ⟨_,_,by rw [ctlBad,if_pos ha],by rw [ctlBad,if_pos ha];decide⟩⟩
  ·rw [if_neg (by simpa using ha)]
   obtain ⟨n,rfl⟩:=Int.eq_ofNat_of_zero_le (show 0≤a by omega)
   have hn':n < 12:=by omega
   rw [okIf_true (by simp;omega),inR_at (by omega),idx_at,h2 n hn']
   simp only [bnd_val]
   by_cases hb:(n:Int)=q0∨(n:Int)∈pre
   ·rw [if_pos (by simpa using hb)]
    exact .inr ⟨_,rfl,.inl ⟨_,_,by rw [ctlBad,if_neg ha,if_pos hb],by rw [ctlBad,if_neg ha,if_pos hb];decide⟩⟩
   ·rw [if_neg (by simpa using hb),wrap_i64 (by omega)]
    refine .inl ⟨_,rfl,by simp,by simp [h1],?_,?_⟩
    ·intro j hj
     simp only [Int.toNat_natCast]
     rw [List.getElem?_set]
     by_cases hjn:n=j
     ·subst hjn;simp [h1,hn']
     ·rw [if_neg hjn,h2 j hj]
      simp only [List.mem_append,List.mem_singleton]
      congr 1
      simp only [decide_eq_decide]
      have:(j:Int)≠n:=by omega
      simp [this]
    ·show ctlBad q0 qn pre (_::r)=_
     rw [ctlBad,if_neg ha,if_neg hb]
 ·rintro ⟨i,seen⟩ ⟨rfl,h1,h2,h3⟩
  simp only [W.jj.c100012,br_if]
  rw [if_neg (by simp)]
  exact ⟨_,rfl,.inr ⟨_,rfl,by rw [h3];rfl⟩⟩
 ·refine ⟨rfl,by simp,fun j hj => ?_,rfl⟩
  rw [List.getElem?_set]
  by_cases hq:q0.toNat=j
  ·subst hq
   simp
   omega
  ·rw [if_neg hq]
   have:(j:Int)≠q0:=by omega
   rw [List.getElem?_replicate,if_pos hj]
   simp [this]
theorem one_if (bn:Int) (h:0≤bn∧bn≤12) (l:List Int) (hl:l.length≤17592186043904) :
  ∃ r,iter (fun s:Int↦W.jj.c100025 l (l.length:Int) s bn some) (0:Int)=some r ∧
   ((∃ u,r = .inl u∧ifBad bn l) ∨ ∃ u,r = .inr u ∧ ¬ ifBad bn l):=by
 refine iter_each (l:=l) (fun pre r s=>s=(pre.length:Int) ∧ ∀ v∈pre,¬ (v=0∨bn < v∨v < -bn)) _ ?_ ?_ ?_
 ·rintro pre a r i rfl ⟨rfl,h1⟩
  simp only [List.length_append,List.length_cons] at hl
  simp only [W.jj.c100025,br_if,idx_mid,bnd_val,one_c27 _ _ h]
  rw [if_pos lt_app]
  by_cases ha:a=0∨bn < a∨a < -bn
  ·rw [if_pos (by simpa using ha)]
   exact .inr ⟨_,rfl,.inl ⟨_,rfl,a,by simp,ha⟩⟩
  ·rw [if_neg (by simpa using ha),wrap_i64 (by omega)]
   refine .inl ⟨_,rfl,by simp,fun v hv => ?_⟩
   rcases List.mem_append.1 hv with hv | hv
   ·exact h1 v hv
   ·rw [List.mem_singleton.1 hv];exact ha
 ·rintro i ⟨rfl,h1⟩
  simp only [W.jj.c100025,br_if]
  rw [if_neg (by simp)]
  exact ⟨_,rfl,.inr ⟨_,rfl,fun ⟨v,hv,hb⟩=>h1 v hv hb⟩⟩
 ·exact ⟨rfl,fun v hv=>by cases hv⟩
theorem one_ok (o:Op) (qn bn:Int) (ops:List Op) (ho:WOp o) (hq:1≤qn∧qn≤12) (hb:0≤bn∧bn≤12) :
  W.jj o qn bn ops=some (opBad o qn bn,qn,bn,ops,()):=by
 obtain ⟨k,a,ctl,q,bit,cond⟩:=o
 obtain ⟨ho1,ho2⟩:=ho
 simp only at ho1 ho2
 simp only [W.jj,one_c1,one_c3,one_c5,one_c7,bnd_val,br_if,opBad,decide_eq_true_eq]
 split
 ·rfl
 ·split
  ·rfl
  ·split
   ·rfl
   ·rename_i h1 h2 h3
    split
    ·rfl
    ·obtain ⟨n,rfl⟩:=Int.eq_ofNat_of_zero_le (show 0≤q by omega)
     have hn':n < 12:=by omega
     rw [okIf_true (by simp;omega),inR_at (by simpa using hn'),idx_at]
     simp only [bnd_val,List.getElem?_replicate,hn',if_true]
     obtain ⟨r,hr,hr'⟩:=one_ctl n qn (by omega) hq.2 ctl ho1
     rw [hr,bnd_val]
     rcases hr' with ⟨u,v,rfl,h⟩ | ⟨u,rfl,h⟩
     ·rw [sel_inl,if_pos h]
     ·rw [sel_inr,if_neg (show ¬ (ctlBad (n:Int) qn [] ctl≠0) by simp [h])]
      simp only [one_c20,bnd_val,decide_eq_true_eq]
      split
      ·rfl
      ·by_cases h24:24 < cond.length
       ·rw [if_pos (by omega),if_pos h24]
       ·rw [if_neg (by omega),if_neg h24]
        obtain ⟨r,hr,hr'⟩:=one_if bn hb cond ho2
        rw [hr,bnd_val]
        rcases hr' with ⟨u,rfl,h⟩ | ⟨u,rfl,h⟩
        ·rw [sel_inl,if_pos h]
        ·rw [sel_inr,if_neg h]
end Go.Ql
end
section
namespace Go.Ql
theorem member_ok (l:List Int) (x:Int) (hl:l.length≤17592186043904):W.Ji l x=some (decide (x∈l)):=by
 have h : ∃ r,iter (fun s:Int↦W.Ji.c100002 l x s some) (0:Int)=some r∧((∃ u,r = .inl u∧x∈l) ∨ ∃ u,r = .inr u∧x∉l):=by
  refine iter_each (l:=l) (fun pre r s=>s=(pre.length:Int)∧x∉pre) _ ?_ ?_ ⟨rfl,by simp⟩
  ·rintro pre a r i rfl ⟨rfl,h1⟩
   simp only [List.length_append,List.length_cons] at hl
   simp only [W.Ji.c100002,br_if,idx_mid,bnd_val]
   rw [if_pos lt_app]
   by_cases ha:a=x
   ·rw [if_pos (by simpa using ha)]
    exact .inr ⟨_,rfl,.inl ⟨_,rfl,by simp [ha]⟩⟩
   ·rw [if_neg (by simpa using ha),wrap_i64 (by omega)]
    exact .inl ⟨_,rfl,by simp,by simp [h1,Ne.symm ha]⟩
  ·rintro i ⟨rfl,h1⟩
   simp only [W.Ji.c100002,br_if]
   rw [if_neg (by simp)]
   exact ⟨_,rfl,.inr ⟨_,rfl,h1⟩⟩
 obtain ⟨r,hr,h⟩:=h
 simp only [W.Ji,hr,bnd_val]
 rcases h with ⟨u,rfl,h⟩ | ⟨u,rfl,h⟩
 ·simp [sel_inl,h]
 ·simp [sel_inr,h]
theorem rbad_c1 (k:Int):W.jh.c1 k some=some (decide (k < 1∨6 < k)):=by
 simp only [W.jh.c1,br_or,br_and];exact some_dec (by simp)
theorem rbad_c3 (k:Int):W.jh.c3 k some=some (decide (k=1∨k=4)):=by
 simp only [W.jh.c3,br_or,br_and];exact some_dec (by simp)
theorem rbad_c4 (k a:Int):W.jh.c4 (decide (k=1∨k=4)) a some=some (decide (a < 0∨15 < a∨(¬ (k=1∨k=4)∧a≠0))):=by
 simp only [W.jh.c4,br_or,br_and];exact some_dec (by simp;omega)
theorem rbad_c6 (k q qn:Int):W.jh.c6 qn k q some=some (decide (q < 0∨qn≤q∨(k=1∧q≠0))):=by
 simp only [W.jh.c6,br_or,br_and];exact some_dec (by simp;omega)
theorem rbad_c8 (k:Int) (l:List Int):W.jh.c8 k l some=some (decide (l≠[] ∧ ¬ (k=2∨k=3∨k=4))):=by
 simp only [W.jh.c8,br_or,br_and];exact some_dec (by cases l <;> simp)
theorem rbad_bit (k b bn:Int) : ∃ r,W.jh.c269649 bn k b some=some r∧((r = .inl ()∧((k=5∧(b < 0∨bn≤b))∨(k≠5∧b≠0)))∨(r = .inr () ∧ ¬ ((k=5∧(b < 0∨bn≤b))∨(k≠5∧b≠0)))):=by
 have h:W.jh.c18 bn b some=some (decide (b < 0∨bn≤b)):=by
  simp only [W.jh.c18,br_or];exact some_dec (by simp)
 by_cases hk:k=5
 ·subst hk
  simp only [W.jh.c269649,beq_self_eq_true,br_tt,h,bnd_val]
  by_cases hb:b < 0∨bn≤b
  ·rw [br_pos hb];exact ⟨_,rfl,.inl ⟨rfl,.inl ⟨trivial,hb⟩⟩⟩
  ·rw [br_neg hb];exact ⟨_,rfl,.inr ⟨rfl,by omega⟩⟩
 ·simp only [W.jh.c269649,beq_eq_false_iff_ne.2 hk,br_ff]
  by_cases hb:b=0
  ·rw [br_false (by simpa using hb)];exact ⟨_,rfl,.inr ⟨rfl,by omega⟩⟩
  ·rw [br_true (by simpa using hb)];exact ⟨_,rfl,.inl ⟨rfl,by omega⟩⟩
theorem rbad_ctl (q0 qn:Int) (l:List Int) (hl:l.length≤17592186043904) :
  ∃ r,iter (fun s:Int↦W.jh.c100011 qn s l q0 some) (0:Int)=some r ∧
   ((∃ u,r = .inl (ctlBad q0 qn [] l,u)∧ctlBad q0 qn [] l≠0) ∨ ∃ u,r = .inr u∧ctlBad q0 qn [] l=0):=by
 refine iter_each (l:=l) (fun pre r s=>s=(pre.length:Int)∧ctlBad q0 qn [] l=ctlBad q0 qn pre r) _ ?_ ?_ ⟨rfl,rfl⟩
 ·rintro pre a r i rfl ⟨rfl,h3⟩
  simp only [List.length_append,List.length_cons] at hl
  have h13:W.jh.c13 qn (pre.length:Int) (pre++a::r) some=some (decide (a < 0∨qn≤a)):=by
   simp only [W.jh.c13,br_or,idx_mid,bnd_val];exact some_dec (by simp)
  have h15:W.jh.c15 (pre.length:Int) (pre++a::r) q0 some=some (decide (a=q0∨a∈pre)):=by
   simp only [W.jh.c15,idx_mid,bnd_val]
   rw [okIf_true (by simp;omega),bnd_val]
   simp only [Int.toNat_natCast,List.take_left,member_ok _ _ (show pre.length≤17592186043904 by omega),bnd_val,br_or]
   exact some_dec (by simp)
  simp only [W.jh.c100011,br_if,h13,h15,bnd_val]
  rw [if_pos lt_app]
  rw [h3]
  by_cases ha:a < 0∨qn≤a
  ·rw [if_pos (by simpa using ha)]
   exact .inr ⟨_,rfl,.inl ⟨_,by rw [ctlBad,if_pos ha],by rw [ctlBad,if_pos ha];decide⟩⟩
  ·rw [if_neg (by simpa using ha)]
   by_cases hb:a=q0∨a∈pre
   ·rw [if_pos (by simpa using hb)]
    exact .inr ⟨_,rfl,.inl ⟨_,by rw [ctlBad,if_neg ha,if_pos hb],by rw [ctlBad,if_neg ha,if_pos hb];decide⟩⟩
   ·rw [if_neg (by simpa using hb),wrap_i64 (by omega)]
    refine .inl ⟨_,rfl,by simp,?_⟩
    show ctlBad q0 qn pre (_::r)=_
    rw [ctlBad,if_neg ha,if_neg hb]
 ·rintro i ⟨rfl,h3⟩
  simp only [W.jh.c100011,br_if]
  rw [if_neg (by simp)]
  exact ⟨_,rfl,.inr ⟨_,rfl,by rw [h3];rfl⟩⟩
theorem rbad_if (bn:Int) (h:0≤bn∧bn≤12) (l:List Int) (hl:l.length≤17592186043904) :
  ∃ r,iter (fun s:Int↦W.jh.c100025 bn s l some) (0:Int)=some r ∧
   ((∃ u,r = .inl u∧ifBad bn l) ∨ ∃ u,r = .inr u ∧ ¬ ifBad bn l):=by
 refine iter_each (l:=l) (fun pre r s=>s=(pre.length:Int) ∧ ∀ v∈pre,¬ (v=0∨bn < v∨v < -bn)) _ ?_ ?_ ⟨rfl,fun v hv=>by cases hv⟩
 ·rintro pre a r i rfl ⟨rfl,h1⟩
  simp only [List.length_append,List.length_cons] at hl
  have h27:W.jh.c27 bn (pre.length:Int) (pre++a::r) some=some (decide (a=0∨bn < a∨a < -bn)):=by
   simp only [W.jh.c27,br_or,idx_mid,bnd_val]
   rw [wrap_i64 (by omega)];exact some_dec (by simp)
  simp only [W.jh.c100025,br_if,h27,bnd_val]
  rw [if_pos lt_app]
  by_cases ha:a=0∨bn < a∨a < -bn
  ·rw [if_pos (by simpa using ha)]
   exact .inr ⟨_,rfl,.inl ⟨_,rfl,a,by simp,ha⟩⟩
  ·rw [if_neg (by simpa using ha),wrap_i64 (by omega)]
   refine .inl ⟨_,rfl,by simp,fun v hv => ?_⟩
   rcases List.mem_append.1 hv with hv | hv
   ·exact h1 v hv
   ·rw [List.mem_singleton.1 hv];exact ha
 ·rintro i ⟨rfl,h1⟩
  simp only [W.jh.c100025,br_if]
  rw [if_neg (by simp)]
  exact ⟨_,rfl,.inr ⟨_,rfl,fun ⟨v,hv,hb⟩=>h1 v hv hb⟩⟩
theorem badOp_ok (o:Op) (qn bn:Int) (ho:WOp o) (hb:0≤bn∧bn≤12):W.jh o qn bn=some (opBad o qn bn):=by
 obtain ⟨k,a,ctl,q,bit,cond⟩:=o
 obtain ⟨ho1,ho2⟩:=ho
 simp only at ho1 ho2
 simp only [W.jh,rbad_c1,rbad_c3,rbad_c4,rbad_c6,rbad_c8,bnd_val,br_if,opBad,decide_eq_true_eq]
 split
 ·rfl
 ·split
  ·rfl
  ·split
   ·rfl
   ·split
    ·rfl
    ·obtain ⟨r,hr,hr'⟩:=rbad_ctl q qn ctl ho1
     rw [hr,bnd_val]
     rcases hr' with ⟨u,rfl,h⟩ | ⟨u,rfl,h⟩
     ·rw [sel_inl,if_pos h]
     ·rw [sel_inr,if_neg (show ¬ (ctlBad q qn [] ctl≠0) by simp [h])]
      obtain ⟨r,hr,hr'⟩:=rbad_bit k bit bn
      rw [hr,bnd_val]
      rcases hr' with ⟨rfl,h⟩ | ⟨rfl,h⟩
      ·rw [sel_inl,if_pos h]
      ·rw [sel_inr,if_neg h]
       by_cases h24:24 < cond.length
       ·rw [if_pos (by omega),if_pos h24]
       ·rw [if_neg (by omega),if_neg h24]
        obtain ⟨r,hr,hr'⟩:=rbad_if bn hb cond ho2
        rw [hr,bnd_val]
        rcases hr' with ⟨u,rfl,h⟩ | ⟨u,rfl,h⟩
        ·rw [sel_inl,if_pos h]
        ·rw [sel_inr,if_neg h]
def opsBad (qn bn:Int):Nat→List Op→Int×Int
 | _,[]=>(0,0)
 | i,o::r=>if opBad o qn bn=0 then opsBad qn bn (i+1) r else (opBad o qn bn,i)
def chk (c:Cir):Int×Int:=
 if c.1 < 1∨12 < c.1 then (6,0) else if c.2.1 < 0∨12 < c.2.1 then (7,0) else if 4096 < c.2.2.length then (2,0) else opsBad c.1 c.2.1 0 c.2.2
theorem WOp.eta (o:Op):(o.1,o.2.1,o.2.2.1,o.2.2.2.1,o.2.2.2.2.1,o.2.2.2.2.2)=o:=rfl
theorem fault_ok (a b:Int):W.Jt a b=some (a,b):=rfl
theorem rfault_ok (a b:Int):W.Jo a b=some (a,b):=rfl
theorem check_ok (c:Cir) (hc:WCir c):W.jv c=some (chk c):=by
 obtain ⟨qn,bn,ops⟩:=c
 obtain ⟨hl,hw⟩:=hc
 simp only at hl hw
 simp only [W.jv,W.jv.c1,W.jv.c3,br_if,fault_ok,bnd_val,chk]
 by_cases h1:qn < 1∨12 < qn
 ·rw [if_pos h1]
  by_cases h:qn < 1
  ·simp [h,bnd_val]
  ·have:12 < qn:=by omega
   simp [h,this,bnd_val]
 ·have h1a : ¬ qn < 1:=by omega
  have h1b : ¬ 12 < qn:=by omega
  simp only [h1a,h1b,bnd_val,decide_false,Bool.false_eq_true,if_false,gt_iff_lt,or_self]
  by_cases h2:bn < 0∨12 < bn
  ·rw [if_pos h2]
   by_cases h:bn < 0
   ·simp [h,bnd_val]
   ·have:12 < bn:=by omega
    simp [h,this,bnd_val]
  ·have h2a : ¬ bn < 0:=by omega
   have h2b : ¬ 12 < bn:=by omega
   simp only [h2a,h2b,bnd_val,decide_false,Bool.false_eq_true,if_false,or_self]
   by_cases h3:4096 < ops.length
   ·rw [if_pos h3,if_pos (by simp;omega)]
   ·rw [if_neg h3,if_neg (by simp;omega)]
    have key : ∃ r,iter (fun s:Int×Int×Int×List Op↦W.jv.c100008 ops (ops.length:Int) s.1 s.2.1 s.2.2.1 s.2.2.2 some) ((0:Int),qn,bn,ops)=some r ∧
      ((∃ u,r = .inl u∧(u.2.2.2.2.1,u.2.2.2.2.2)=opsBad qn bn 0 ops) ∨ ∃ u,r = .inr u∧(0,0)=opsBad qn bn 0 ops):=by
     refine iter_each (l:=ops) (fun pre r s=>s=((pre.length:Int),qn,bn,ops)∧opsBad qn bn pre.length r=opsBad qn bn 0 ops) _ ?_ ?_ ⟨rfl,rfl⟩
     ·rintro pre o r s rfl ⟨rfl,h4⟩
      simp only [List.length_append,List.length_cons] at hl
      simp only [W.jv.c100008,br_if,idx_mid,bnd_val,WOp.eta,one_ok o qn bn _ (hw o (by simp)) (by omega) (by omega),fault_ok]
      rw [if_pos lt_app]
      rw [opsBad] at h4
      by_cases ho:opBad o qn bn=0
      ·rw [if_pos ho] at h4
       rw [if_neg (by simp [ho]),wrap_i64 (by omega)]
       exact .inl ⟨_,rfl,by simp,by simpa using h4⟩
      ·rw [if_neg ho] at h4
       rw [if_pos (by simp [ho])]
       exact .inr ⟨_,rfl,.inl ⟨_,rfl,h4⟩⟩
     ·rintro s ⟨rfl,h4⟩
      simp only [W.jv.c100008,br_if]
      rw [if_neg (by simp)]
      exact ⟨_,rfl,.inr ⟨_,rfl,h4⟩⟩
    obtain ⟨r,hr,h⟩:=key
    rw [hr,bnd_val]
    rcases h with ⟨u,rfl,h⟩ | ⟨u,rfl,h⟩
    ·rw [sel_inl,← h]
    ·rw [sel_inr,← h]
theorem rcheck_ok (c:Cir) (hc:WCir c):W.jF c=some (chk c):=by
 obtain ⟨qn,bn,ops⟩:=c
 obtain ⟨hl,hw⟩:=hc
 simp only at hl hw
 simp only [W.jF,W.jF.c1,W.jF.c3,br_if,rfault_ok,bnd_val,chk]
 by_cases h1:qn < 1∨12 < qn
 ·rw [if_pos h1]
  by_cases h:qn < 1
  ·simp [h,bnd_val]
  ·have:12 < qn:=by omega
   simp [h,this,bnd_val]
 ·have h1a : ¬ qn < 1:=by omega
  have h1b : ¬ 12 < qn:=by omega
  simp only [h1a,h1b,bnd_val,decide_false,Bool.false_eq_true,if_false,gt_iff_lt,or_self]
  by_cases h2:bn < 0∨12 < bn
  ·rw [if_pos h2]
   by_cases h:bn < 0
   ·simp [h,bnd_val]
   ·have:12 < bn:=by omega
    simp [h,this,bnd_val]
  ·have h2a : ¬ bn < 0:=by omega
   have h2b : ¬ 12 < bn:=by omega
   simp only [h2a,h2b,bnd_val,decide_false,Bool.false_eq_true,if_false,or_self]
   by_cases h3:4096 < ops.length
   ·rw [if_pos h3,if_pos (by simp;omega)]
   ·rw [if_neg h3,if_neg (by simp;omega)]
    have key : ∃ r,iter (fun s:Int↦W.jF.c100008 s qn bn ops some) (0:Int)=some r ∧
      ((∃ u,r = .inl u∧(u.2.1,u.2.2)=opsBad qn bn 0 ops) ∨ ∃ u,r = .inr u∧(0,0)=opsBad qn bn 0 ops):=by
     refine iter_each (l:=ops) (fun pre r s=>s=(pre.length:Int)∧opsBad qn bn pre.length r=opsBad qn bn 0 ops) _ ?_ ?_ ⟨rfl,rfl⟩
     ·rintro pre o r s rfl ⟨rfl,h4⟩
      simp only [List.length_append,List.length_cons] at hl
      simp only [W.jF.c100008,W.jF.c10,br_if,idx_mid,bnd_val,badOp_ok o qn bn (hw o (by simp)) (by omega),rfault_ok]
      rw [if_pos lt_app]
      rw [opsBad] at h4
      by_cases ho:opBad o qn bn=0
      ·rw [if_pos ho] at h4
       rw [if_neg (by simp [ho]),wrap_i64 (by omega)]
       exact .inl ⟨_,rfl,by simp,by simpa using h4⟩
      ·rw [if_neg ho] at h4
       rw [if_pos (by simp [ho])]
       exact .inr ⟨_,rfl,.inl ⟨_,rfl,h4⟩⟩
     ·rintro s ⟨rfl,h4⟩
      simp only [W.jF.c100008,br_if]
      rw [if_neg (by simp)]
      exact ⟨_,rfl,.inr ⟨_,rfl,h4⟩⟩
    obtain ⟨r,hr,h⟩:=key
    rw [hr,bnd_val]
    rcases h with ⟨u,rfl,h⟩ | ⟨u,rfl,h⟩
    ·rw [sel_inl,← h]
    ·rw [sel_inr,← h]
end Go.Ql
end
section
namespace Go.Ql
instance dec3:DecidableEq (Int×Int×List Int):=inferInstance
instance dec4:DecidableEq (List Int×Int×Int×List Int):=inferInstance
instance dec6:DecidableEq Op:=instDecidableEqProd
instance decC:DecidableEq Cir:=instDecidableEqProd
def notPure:Nat→List Op→Int×Int
 | _,[]=>(0,0)
 | i,o::r=>if o.1=5∨o.1=6∨o.2.2.2.2.2≠[] then (15,i) else notPure (i+1) r
def pur (c:Cir):Int×Int:=if (chk c).1≠0 then chk c else notPure 0 c.2.2
theorem opsBad_zero {qn bn:Int} : ∀ {l:List Op} {i:Nat},(opsBad qn bn i l).1=0→(∀ o∈l,opBad o qn bn=0)∧opsBad qn bn i l=(0,0)
 | [],_,_=>⟨(fun _ h=>by cases h),rfl⟩
 | o::l,i,h=>by
  rw [opsBad] at h ⊢
  by_cases ho:opBad o qn bn=0
  ·rw [if_pos ho] at h ⊢
   have:=opsBad_zero h
   exact ⟨fun o' h'=>by
    rcases List.mem_cons.1 h' with rfl | h'
    ·exact ho
    ·exact this.1 o' h',this.2⟩
  ·rw [if_neg ho] at h
   exact absurd h ho
structure GoodC (c:Cir):Prop where
 q:1≤c.1∧c.1≤12
 b:0≤c.2.1∧c.2.1≤12
 n:c.2.2.length≤4096
 ops : ∀ o∈c.2.2,opBad o c.1 c.2.1=0
theorem good_of {c:Cir} (h:(chk c).1=0):GoodC c∧chk c=(0,0):=by
 unfold chk at h ⊢
 by_cases h1:c.1 < 1∨12 < c.1
 ·rw [if_pos h1] at h;cases h
 ·rw [if_neg h1] at h ⊢
  by_cases h2:c.2.1 < 0∨12 < c.2.1
  ·rw [if_pos h2] at h;cases h
  ·rw [if_neg h2] at h ⊢
   by_cases h3:4096 < c.2.2.length
   ·rw [if_pos h3] at h;cases h
   ·rw [if_neg h3] at h ⊢
    have:=opsBad_zero h
    exact ⟨⟨by omega,by omega,by omega,this.1⟩,this.2⟩
theorem opsBad_good {qn bn:Int} : ∀ {l:List Op} {i:Nat},(∀ o∈l,opBad o qn bn=0)→opsBad qn bn i l=(0,0)
 | [],_,_=>rfl
 | o::l,i,h=>by
  rw [opsBad,if_pos (h o (by simp))]
  exact opsBad_good (fun o' h'=>h o' (List.mem_cons_of_mem _ h'))
theorem GoodC.chk {c:Cir} (h:GoodC c):chk c=(0,0):=by
 have:=h.q;have:=h.b;have:=h.n
 unfold Ql.chk
 rw [if_neg (by omega),if_neg (by omega),if_neg (by omega)]
 exact opsBad_good h.ops
structure GoodOp (o:Op) (qn bn:Int):Prop where
 kind:1≤o.1∧o.1≤6
 k:0≤o.2.1∧o.2.1≤15
 k0:(o.1=1∨o.1=4)∨o.2.1=0
 q:0≤o.2.2.2.1∧o.2.2.2.1 < qn
 q0:o.1=1→o.2.2.2.1=0
 ctl:o.2.2.1=[]∨(o.1=2∨o.1=3∨o.1=4)
 ctls:ctlBad o.2.2.2.1 qn [] o.2.2.1=0
 bit:(o.1=5∧0≤o.2.2.2.2.1∧o.2.2.2.2.1 < bn)∨(o.1≠5∧o.2.2.2.2.1=0)
 ifs:o.2.2.2.2.2.length≤24
 cond : ¬ ifBad bn o.2.2.2.2.2
theorem goodOp_of {o:Op} {qn bn:Int} (h:opBad o qn bn=0):GoodOp o qn bn:=by
 unfold opBad at h
 by_cases h1:o.1 < 1∨6 < o.1
 ·rw [if_pos h1] at h;cases h
 rw [if_neg h1] at h
 by_cases h2:o.2.1 < 0∨15 < o.2.1∨(¬ (o.1=1∨o.1=4)∧o.2.1≠0)
 ·rw [if_pos h2] at h;cases h
 rw [if_neg h2] at h
 by_cases h3:o.2.2.2.1 < 0∨qn≤o.2.2.2.1∨(o.1=1∧o.2.2.2.1≠0)
 ·rw [if_pos h3] at h;cases h
 rw [if_neg h3] at h
 by_cases h4:o.2.2.1≠[] ∧ ¬ (o.1=2∨o.1=3∨o.1=4)
 ·rw [if_pos h4] at h;cases h
 rw [if_neg h4] at h
 by_cases h5:ctlBad o.2.2.2.1 qn [] o.2.2.1≠0
 ·rw [if_pos h5] at h;exact absurd h h5
 rw [if_neg h5] at h
 by_cases h6:(o.1=5∧(o.2.2.2.2.1 < 0∨bn≤o.2.2.2.2.1))∨(o.1≠5∧o.2.2.2.2.1≠0)
 ·rw [if_pos h6] at h;cases h
 rw [if_neg h6] at h
 by_cases h7:24 < o.2.2.2.2.2.length
 ·rw [if_pos h7] at h;cases h
 rw [if_neg h7] at h
 by_cases h8:ifBad bn o.2.2.2.2.2
 ·rw [if_pos h8] at h;cases h
 exact ⟨by omega,by omega,by omega,by omega,by omega,by by_cases h:o.2.2.1=[] <;> simp_all;omega,by omega,by omega,by omega,h8⟩
theorem ctlBad_zero {q0 qn:Int} : ∀ {r pre:List Int},ctlBad q0 qn pre r=0↔(∀ q∈r,0≤q∧q < qn∧q≠q0∧q∉pre)∧r.Nodup
 | [],_=>by simp [ctlBad]
 | q::r,pre=>by
  rw [ctlBad]
  by_cases h1:q < 0∨qn≤q
  ·rw [if_pos h1]
   constructor
   ·intro h;cases h
   ·intro h;have:=h.1 q (by simp);omega
  ·rw [if_neg h1]
   by_cases h2:q=q0∨q∈pre
   ·rw [if_pos h2]
    constructor
    ·intro h;cases h
    ·intro h;have:=h.1 q (by simp);rcases h2 with h2 | h2
     ·exact absurd h2 this.2.2.1
     ·exact absurd h2 this.2.2.2
   ·rw [if_neg h2,ctlBad_zero]
    have h1a:0≤q:=by omega
    have h1b:q < qn:=by omega
    simp only [not_or] at h2
    simp only [List.mem_cons,forall_eq_or_imp,List.nodup_cons,List.mem_append,List.mem_singleton,not_or]
    constructor
    ·rintro ⟨h3,h4⟩
     exact ⟨⟨⟨h1a,h1b,h2.1,h2.2⟩,fun a ha=>⟨(h3 a ha).1,(h3 a ha).2.1,(h3 a ha).2.2.1,(h3 a ha).2.2.2.1⟩⟩,fun hq=>(h3 q hq).2.2.2.2.1 rfl,h4⟩
    ·rintro ⟨⟨_,h3⟩,h4,h5⟩
     exact ⟨fun a ha=>⟨(h3 a ha).1,(h3 a ha).2.1,(h3 a ha).2.2.1,(h3 a ha).2.2.2,⟨fun e=>h4 (e ▸ ha),by simp⟩⟩,h5⟩
theorem pure_c7 (k:Int) (l:List Int):W.jK.c7 k l some=some (decide (k=5∨k=6∨l≠[])):=by
 simp only [W.jK.c7,br_or];exact some_dec (by cases l <;> simp)
theorem pure_ok (c:Cir) (hc:WCir c):W.jK c=some (pur c):=by
 obtain ⟨qn,bn,ops⟩:=c
 have hl:=hc.1
 simp only at hl
 simp only [W.jK,check_ok _ hc,bnd_val,br_if,pur]
 by_cases h1:(chk (qn,bn,ops)).1=0
 ·rw [if_neg (by simp [h1]),if_neg (by simp [h1])]
  have key : ∃ r,iter (fun s:Int↦W.jK.c100005 ops (ops.length:Int) s some) (0:Int)=some r ∧
    ((∃ u,r = .inl u∧(u.2.1,u.2.2)=notPure 0 ops) ∨ ∃ u,r = .inr u∧(0,0)=notPure 0 ops):=by
   refine iter_each (l:=ops) (fun pre r s=>s=(pre.length:Int)∧notPure pre.length r=notPure 0 ops) _ ?_ ?_ ⟨rfl,rfl⟩
   ·rintro pre o r s rfl ⟨rfl,h4⟩
    simp only [List.length_append,List.length_cons] at hl
    simp only [W.jK.c100005,br_if,idx_mid,bnd_val,pure_c7,fault_ok]
    rw [if_pos lt_app]
    rw [notPure] at h4
    by_cases ho:o.1=5∨o.1=6∨o.2.2.2.2.2≠[]
    ·rw [if_pos ho] at h4
     rw [if_pos (by simpa using ho)]
     exact .inr ⟨_,rfl,.inl ⟨_,rfl,h4⟩⟩
    ·rw [if_neg ho] at h4
     rw [if_neg (by simpa using ho),wrap_i64 (by omega)]
     exact .inl ⟨_,rfl,by simp,by simpa using h4⟩
   ·rintro s ⟨rfl,h4⟩
    simp only [W.jK.c100005,br_if]
    rw [if_neg (by simp)]
    exact ⟨_,rfl,.inr ⟨_,rfl,h4⟩⟩
  obtain ⟨r,hr,h⟩:=key
  rw [hr,bnd_val]
  rcases h with ⟨u,rfl,h⟩ | ⟨u,rfl,h⟩
  ·rw [sel_inl,← h]
  ·rw [sel_inr,← h]
 ·rw [if_pos (by simp [h1]),if_pos (by simp [h1])]
theorem rpure_ok (c:Cir) (hc:WCir c):W.Jg c=some (pur c):=by
 obtain ⟨qn,bn,ops⟩:=c
 have hl:=hc.1
 simp only at hl
 simp only [W.Jg,rcheck_ok _ hc,bnd_val,br_if,pur]
 by_cases h1:(chk (qn,bn,ops)).1=0
 ·obtain ⟨hg,h0⟩:=good_of h1
  rw [if_neg (by simp [h1]),if_neg (by simp [h1])]
  have key : ∃ r,iter (fun s:Int↦W.Jg.c100005 s ops some) (0:Int)=some r ∧
    ((∃ u,r = .inl u∧(u.2.1,u.2.2)=notPure 0 ops) ∨ ∃ u,r = .inr u∧(0,0)=notPure 0 ops):=by
   refine iter_each (l:=ops) (fun pre r s=>s=(pre.length:Int)∧notPure pre.length r=notPure 0 ops) _ ?_ ?_ ⟨rfl,rfl⟩
   ·rintro pre o r s rfl ⟨rfl,h4⟩
    simp only [List.length_append,List.length_cons] at hl
    have hk:=(goodOp_of (hg.ops o (by simp))).kind
    have h7:W.Jg.c7 (pre.length:Int) (pre++o::r) some=some (decide (o.1=5∨o.1=6∨o.2.2.2.2.2≠[])):=by
     simp only [W.Jg.c7,br_if,idx_mid,bnd_val]
     by_cases h5:5≤o.1
     ·rw [if_pos (by simpa using h5)]
      have:o.1=5∨o.1=6:=by omega
      rcases this with h | h <;> simp [h]
     ·rw [if_neg (by simpa using h5)]
      have h5a:o.1≠5:=by omega
      have h5b:o.1≠6:=by omega
      simp only [h5a,h5b,false_or]
      cases o.2.2.2.2.2 <;> simp
    simp only [W.Jg.c100005,br_if,h7,bnd_val,rfault_ok]
    rw [if_pos lt_app]
    rw [notPure] at h4
    by_cases ho:o.1=5∨o.1=6∨o.2.2.2.2.2≠[]
    ·rw [if_pos ho] at h4
     rw [if_pos (by simpa using ho)]
     exact .inr ⟨_,rfl,.inl ⟨_,rfl,h4⟩⟩
    ·rw [if_neg ho] at h4
     rw [if_neg (by simpa using ho),wrap_i64 (by omega)]
     exact .inl ⟨_,rfl,by simp,by simpa using h4⟩
   ·rintro s ⟨rfl,h4⟩
    simp only [W.Jg.c100005,br_if]
    rw [if_neg (by simp)]
    exact ⟨_,rfl,.inr ⟨_,rfl,h4⟩⟩
  obtain ⟨r,hr,h⟩:=key
  rw [hr,bnd_val]
  rcases h with ⟨u,rfl,h⟩ | ⟨u,rfl,h⟩
  ·rw [sel_inl,← h]
  ·rw [sel_inr,← h,h0]
 ·rw [if_pos (by simp [h1]),if_pos (by simp [h1])]
theorem rcopyInts_ok (l:List Int) (hl:l.length≤17592186043904):W.jY l=some l:=by
 have h : ∃ r,iter (fun s:Int×List Int↦W.jY.c100003 l s.1 s.2 some) ((0:Int),[])=some r∧r.2=l:=by
  refine iter_each (l:=l) (fun pre r s=>s=((pre.length:Int),pre)) _ ?_ ?_ rfl
  ·rintro pre a r s rfl rfl
   simp only [List.length_append,List.length_cons] at hl
   simp only [W.jY.c100003,br_if,idx_mid,bnd_val]
   rw [if_pos lt_app,okIf_true (by simp;omega),wrap_i64 (by omega)]
   exact .inl ⟨_,rfl,by simp⟩
  ·rintro s rfl
   simp only [W.jY.c100003,br_if]
   rw [if_neg (by simp)]
   exact ⟨_,rfl,rfl⟩
 obtain ⟨r,hr,h⟩:=h
 simp only [W.jY,hr,bnd_val,h]
theorem rcopyOp_ok (o:Op) (ho:WOp o):W.JC o=some o:=by
 simp only [W.JC,rcopyInts_ok _ ho.1,rcopyInts_ok _ ho.2,bnd_val]
theorem copyCircuit_ok (c:Cir) (hc:WCir c):W.jy c=some c:=by
 obtain ⟨qn,bn,ops⟩:=c
 obtain ⟨hl,hw⟩:=hc
 simp only at hl hw
 have h : ∃ r,iter (fun s:Int×List Op↦W.jy.c100003 s.1 ops s.2 some) ((0:Int),[])=some r∧r.2=ops:=by
  refine iter_each (l:=ops) (fun pre r s=>s=((pre.length:Int),pre)) _ ?_ ?_ rfl
  ·rintro pre a r s rfl rfl
   simp only [List.length_append,List.length_cons] at hl
   simp only [W.jy.c100003,W.jy.c5,br_if,idx_mid,bnd_val,rcopyOp_ok a (hw a (by simp))]
   rw [if_pos lt_app,okIf_true (by simp;omega),wrap_i64 (by omega)]
   exact .inl ⟨_,rfl,by simp⟩
  ·rintro s rfl
   simp only [W.jy.c100003,br_if]
   rw [if_neg (by simp)]
   exact ⟨_,rfl,rfl⟩
 obtain ⟨r,hr,h⟩:=h
 simp only [W.jy,hr,bnd_val,h]
theorem clone_ok (l:List Int) (hl:l.length≤17592186043904):W.Jj l=some l:=by
 simp only [W.Jj,br_if]
 rw [okIf_true (by simp;omega)]
 simp only [bnd_val]
 cases l
 ·simp [both_self]
 ·simp
theorem copied_ok (o:Op) (ho:WOp o):W.jX o=some o:=by
 simp only [W.jX,W.jX.c1,clone_ok _ ho.1,clone_ok _ ho.2,bnd_val]
theorem sameInts_ok (a b:List Int) (ha:a.length≤17592186043904):W.jH a b=some (decide (a=b)):=by
 simp only [W.jH,br_if]
 by_cases hlen:a.length=b.length
 ·rw [if_neg (by simp [hlen])]
  have h : ∃ r,iter (fun s:Int↦W.jH.c100004 a b s some) (0:Int)=some r∧((∃ u,r = .inl u∧a≠b) ∨ ∃ u,r = .inr u∧a=b):=by
   refine iter_upto a.length (fun i s=>s=(i:Int)∧a.take i=b.take i) _ ?_ ?_ ⟨rfl,rfl⟩
   ·rintro i s hi ⟨rfl,h1⟩
    have h6:W.jH.c6 a b (i:Int) some=some (decide (a[i]≠b[i]'(by omega))):=by
     simp only [W.jH.c6,idx_get hi,idx_get (show i < b.length by omega),bnd_val]
     exact some_dec (by simp)
    simp only [W.jH.c100004,br_if,h6,bnd_val]
    rw [if_pos (by simpa using hi)]
    by_cases hd:a[i]=b[i]'(by omega)
    ·rw [if_neg (by simpa using hd),wrap_i64 (by omega)]
     exact .inl ⟨_,rfl,by simp,by rw [List.take_succ_eq_append_getElem hi,List.take_succ_eq_append_getElem (by omega),h1,hd]⟩
    ·rw [if_pos (by simpa using hd)]
     exact .inr ⟨_,rfl,.inl ⟨_,rfl,fun e=>hd (by subst e;rfl)⟩⟩
   ·rintro s ⟨rfl,h1⟩
    simp only [W.jH.c100004,br_if]
    rw [if_neg (by simp)]
    rw [List.take_length,hlen,List.take_length] at h1
    exact ⟨_,rfl,.inr ⟨_,rfl,h1⟩⟩
  obtain ⟨r,hr,h⟩:=h
  rw [hr,bnd_val]
  rcases h with ⟨u,rfl,h⟩ | ⟨u,rfl,h⟩
  ·rw [sel_inl];simp [h]
  ·rw [sel_inr];simp [h]
 ·rw [if_pos (by simp;omega)]
  have:a≠b:=fun e=>hlen (by rw [e])
  simp [this]
theorem sameCircuit_ok (a b:Cir) (ha:WCir a):W.jq a b=some (decide (a=b)):=by
 obtain ⟨q1,b1,l1⟩:=a
 obtain ⟨q2,b2,l2⟩:=b
 obtain ⟨hl,hw⟩:=ha
 simp only at hl hw
 have h1:W.jq.c1 q1 b1 l1 q2 b2 l2 some=some (decide (q1≠q2∨b1≠b2∨l1.length≠l2.length)):=by
  simp only [W.jq.c1,br_or];exact some_dec (by simp;try omega)
 simp only [W.jq,h1,bnd_val,br_if,decide_eq_true_eq]
 by_cases h0:q1≠q2∨b1≠b2∨l1.length≠l2.length
 ·rw [if_pos h0]
  have:(q1,b1,l1)≠(q2,b2,l2):=by
   intro e
   injection e with e1 e
   injection e with e2 e
   subst e1;subst e2;subst e
   simp at h0
  simp [this]
 ·rw [if_neg h0]
  simp only [not_or,Decidable.not_not] at h0
  obtain ⟨rfl,rfl,hlen⟩:=h0
  have h : ∃ r,iter (fun s:Int↦W.jq.c100004 s l1 l2 some) (0:Int)=some r∧((∃ u,r = .inl u∧l1≠l2) ∨ ∃ u,r = .inr u∧l1=l2):=by
   refine iter_upto l1.length (fun i s=>s=(i:Int)∧l1.take i=l2.take i) _ ?_ ?_ ⟨rfl,rfl⟩
   ·rintro i s hi ⟨rfl,h1⟩
    have hwi:=hw _ (List.getElem_mem hi)
    have hi2:i < l2.length:=by omega
    have h8 : ∀ x y:Op,WOp x→W.jq.c8 x.1 x.2.1 x.2.2.1 x.2.2.2.1 x.2.2.2.2.1 x.2.2.2.2.2 y.1 y.2.1 y.2.2.1 y.2.2.2.1 y.2.2.2.2.1 y.2.2.2.2.2 some=some (decide (x≠y)):=by
     rintro ⟨x0,x1,x2,x3,x4,x5⟩ ⟨y0,y1,y2,y3,y4,y5⟩ hx
     simp only [W.jq.c8,br_or,sameInts_ok _ _ hx.1,sameInts_ok _ _ hx.2,bnd_val]
     exact some_dec (by simp;grind)
    simp only [W.jq.c100004,br_if,idx_get hi,idx_get hi2,bnd_val,h8 _ _ hwi]
    rw [if_pos (by simpa using hi)]
    by_cases hd:l1[i]=l2[i]
    ·rw [if_neg (by simpa using hd),wrap_i64 (by omega)]
     exact .inl ⟨_,rfl,by simp,by rw [List.take_succ_eq_append_getElem hi,List.take_succ_eq_append_getElem hi2,h1,hd]⟩
    ·rw [if_pos (by simpa using hd)]
     exact .inr ⟨_,rfl,.inl ⟨_,rfl,fun e=>hd (by subst e;rfl)⟩⟩
   ·rintro s ⟨rfl,h1⟩
    simp only [W.jq.c100004,br_if]
    rw [if_neg (by simp)]
    rw [List.take_length,hlen,List.take_length] at h1
    exact ⟨_,rfl,.inr ⟨_,rfl,h1⟩⟩
  obtain ⟨r,hr,h⟩:=h
  rw [hr,bnd_val]
  rcases h with ⟨u,rfl,h⟩ | ⟨u,rfl,h⟩
  ·rw [sel_inl];simp [h]
  ·rw [sel_inr];simp [h]
end Go.Ql
end
section
namespace Go.Ql
def invOp (o:Op):Op:=(o.1,(16 - o.2.1) % 16,o.2.2.1,o.2.2.2.1,o.2.2.2.2.1,o.2.2.2.2.2)
abbrev nix:Cir:=(0,0,[])
def inv (c:Cir):Cir:=(c.1,c.2.1,(c.2.2.map invOp).reverse)
def inverse (c:Cir):Cir×Int×Int:=if (pur c).1≠0 then (nix,pur c) else (inv c,(0,0))
theorem notPure_zero : ∀ {l:List Op} {i:Nat},(notPure i l).1=0→(∀ o∈l,¬ (o.1=5∨o.1=6∨o.2.2.2.2.2≠[]))∧notPure i l=(0,0)
 | [],_,_=>⟨(fun _ h=>by cases h),rfl⟩
 | o::l,i,h=>by
  rw [notPure] at h ⊢
  by_cases ho:o.1=5∨o.1=6∨o.2.2.2.2.2≠[]
  ·rw [if_pos ho] at h;cases h
  ·rw [if_neg ho] at h ⊢
   have:=notPure_zero h
   exact ⟨fun o' h'=>by
    rcases List.mem_cons.1 h' with rfl | h'
    ·exact ho
    ·exact this.1 o' h',this.2⟩
theorem notPure_of : ∀ {l:List Op} {i:Nat},(∀ o∈l,¬ (o.1=5∨o.1=6∨o.2.2.2.2.2≠[]))→notPure i l=(0,0)
 | [],_,_=>rfl
 | o::l,i,h=>by
  rw [notPure,if_neg (h o (by simp))]
  exact notPure_of (fun o' h'=>h o' (List.mem_cons_of_mem _ h'))
theorem pur_zero {c:Cir} (h:(pur c).1=0):GoodC c∧pur c=(0,0) ∧ ∀ o∈c.2.2,¬ (o.1=5∨o.1=6∨o.2.2.2.2.2≠[]):=by
 unfold pur at h ⊢
 by_cases h1:(chk c).1=0
 ·rw [if_neg (by simp [h1])] at h ⊢
  have:=notPure_zero h
  exact ⟨(good_of h1).1,this.2,this.1⟩
 ·rw [if_pos h1] at h
  exact absurd h h1
theorem pur_of {c:Cir} (h:GoodC c) (h' : ∀ o∈c.2.2,¬ (o.1=5∨o.1=6∨o.2.2.2.2.2≠[])):pur c=(0,0):=by
 unfold pur
 rw [h.chk,if_neg (by simp)]
 exact notPure_of h'
theorem reverse_ok (l:List Op) (hl:l.length≤1759218604390):W.jo l=some (l.reverse,()):=by
 have h : ∃ r,iter (fun s:Int×Int×List Op↦W.jo.c100001 s.1 s.2.1 s.2.2 some) ((0:Int),IntKind.wrap IntKind.i64 ((l.length:Int) - 1),l)=some r∧r.2.2=l.reverse:=by
  refine iter_upto (l.length / 2) (fun i s=>s.1=(i:Int)∧s.2.1=(l.length:Int) - 1 - i∧s.2.2.length=l.length ∧ ∀ k:Nat,k < l.length→s.2.2[k]? = if k < i∨l.length≤k+i then l[l.length - 1 - k]? else l[k]?) _ ?_ ?_ ⟨rfl,by rw [wrap_i64 (by omega)];simp,rfl,fun k hk=>by rw [if_neg (by omega)]⟩
  ·rintro i ⟨a,b,t⟩ hi ⟨h1,h2,h3,h4⟩
   simp only at h1 h2 h3 h4
   subst h1
   obtain ⟨j,rfl,hj⟩ : ∃ j:Nat,b=j∧j=l.length - 1 - i:=⟨l.length - 1 - i,by omega,rfl⟩
   have hj2:j < l.length:=by omega
   simp only [W.jo.c100001,W.jo.c3,br_if]
   rw [if_pos (by simp;omega)]
   have ej:t[j]? = l[j]?:=by rw [h4 j hj2,if_neg (by omega)]
   have ei:t[i]? = l[i]?:=by rw [h4 i (by omega),if_neg (by omega)]
   rw [inR_at (by omega),bnd_val,idx_at,ej,List.getElem?_eq_getElem hj2,bnd_val,inR_at (by omega),bnd_val,idx_at,ei,List.getElem?_eq_getElem (show i < l.length by omega)]
   simp only [bnd_val,Int.toNat_natCast,List.length_set]
   rw [inR_at (by omega),bnd_val,idx_at,List.getElem?_set_ne (by omega),ej,List.getElem?_eq_getElem hj2]
   simp only [bnd_val]
   rw [wrap_i64 (by omega),wrap_i64 (by omega)]
   refine .inl ⟨_,rfl,by simp,by simp;omega,by simp [h3],fun k hk => ?_⟩
   simp only [List.getElem?_set,List.length_set,h3]
   by_cases e1:j=k
   ·subst e1
    rw [if_pos rfl,if_pos hj2,if_pos (by omega),show l.length - 1 - j=i by omega,List.getElem?_eq_getElem (show i < l.length by omega)]
   ·rw [if_neg e1]
    by_cases e2:i=k
    ·subst e2
     rw [if_pos rfl,if_pos (by omega),if_pos (by omega),show l.length - 1 - i=j by omega,List.getElem?_eq_getElem hj2]
    ·rw [if_neg e2,h4 k hk]
     by_cases e3:k < i∨l.length≤k+i
     ·rw [if_pos e3,if_pos (by omega)]
     ·rw [if_neg e3,if_neg (by omega)]
  ·rintro ⟨a,b,t⟩ ⟨h1,h2,h3,h4⟩
   simp only at h1 h2 h3 h4
   subst h1;subst h2
   simp only [W.jo.c100001,br_if]
   rw [if_neg (by simp;omega)]
   refine ⟨_,rfl,?_⟩
   apply List.ext_getElem?
   intro k
   by_cases hk:k < l.length
   ·show t[k]? = _
    rw [h4 k hk,List.getElem?_reverse hk]
    by_cases e:k < l.length / 2∨l.length≤k+l.length / 2
    ·rw [if_pos e]
    ·rw [if_neg e,show l.length - 1 - k=k by omega]
   ·show t[k]? = _
    rw [List.getElem?_eq_none (by omega),List.getElem?_eq_none (by simp;omega)]
 obtain ⟨r,hr,h⟩:=h
 simp only [W.jo,hr,bnd_val,h]
theorem inv1_ok (o:Op) (h:0≤o.2.1∧o.2.1≤15):W.Jq o=some (invOp o):=by
 simp only [W.Jq,invOp]
 rw [wrap_i64 (by omega),Int.tmod_eq_emod_of_nonneg (by omega)]
theorem eachInv_ok (c:Cir) (hc:WCir c) (hk : ∀ o∈c.2.2,0≤o.2.1∧o.2.1≤15):W.js c=some (c.1,c.2.1,c.2.2.map invOp,()):=by
 obtain ⟨qn,bn,ops⟩:=c
 obtain ⟨hl,hw⟩:=hc
 simp only at hl hw hk
 have h : ∃ r,iter (fun s:Int×List Op↦W.js.c100003 ops (ops.length:Int) s.1 s.2 some) ((0:Int),[])=some r∧r.2=ops.map invOp:=by
  refine iter_each (l:=ops) (fun pre r s=>s=((pre.length:Int),pre.map invOp)) _ ?_ ?_ rfl
  ·rintro pre a r s rfl rfl
   simp only [List.length_append,List.length_cons] at hl
   simp only [W.js.c100003,W.js.c5,br_if,idx_mid,bnd_val,WOp.eta,copied_ok a (hw a (by simp)),inv1_ok a (hk a (by simp))]
   rw [if_pos lt_app,okIf_true (by simp;omega),wrap_i64 (by omega)]
   exact .inl ⟨_,rfl,by simp⟩
  ·rintro s rfl
   simp only [W.js.c100003,br_if]
   rw [if_neg (by simp)]
   exact ⟨_,rfl,rfl⟩
 obtain ⟨r,hr,h⟩:=h
 simp only [W.js,hr,bnd_val,h]
theorem WCir.eta (c:Cir):(c.1,c.2.1,c.2.2)=c:=rfl
theorem inverse_ok (c:Cir) (hc:WCir c):W.jU c=some (inverse c):=by
 simp only [W.jU,W.jU.c3,WCir.eta,pure_ok c hc,bnd_val,br_if,inverse]
 by_cases h:(pur c).1=0
 ·obtain ⟨hg,hp,_⟩:=pur_zero h
  rw [if_neg (by simp [h]),if_neg (by simp [h]),eachInv_ok c hc (fun o ho=>(goodOp_of (hg.ops o ho)).k)]
  simp only [bnd_val]
  rw [reverse_ok _ (by simpa using hc.1)]
  rfl
 ·rw [if_pos (by simp [h]),if_pos h]
def base (c:Cir) (n:Int):List Op:=if n < 0 then (inv c).2.2 else c.2.2
def power (c:Cir) (n:Int):Cir×Int×Int:=
 if (pur c).1≠0 then (nix,pur c) else if 4096 < n.natAbs*c.2.2.length then (nix,(2,0)) else ((c.1,c.2.1,(List.replicate n.natAbs (base c n)).flatten),(0,0))
end Go.Ql
end
section
namespace Go.Ql
end Go.Ql
end
section
namespace Go.Ql
abbrev opTy:Ty:=.st (.pair (.int .i64) (.pair (.int .i64) (.pair (.sl (.int .i64)) (.pair (.int .i64) (.pair (.int .i64) (.sl (.int .i64)))))))
abbrev cirTy:Ty:=.st (.pair (.int .i64) (.pair (.int .i64) (.sl opTy)))
theorem op_bytes:opTy.bytes=80:=by decide
theorem int_bytes:(Ty.int .i64).bytes=8:=by decide
theorem wcir_of {c:Cir} (h:Wf cirTy c):WCir c:=by
 obtain ⟨_,_,h1,_,h2⟩:=h
 refine ⟨?_,fun o ho => ?_⟩
 ·rw [op_bytes] at h1
  have:c.2.2.length*80≤140737488351232:=h1
  omega
 ·obtain ⟨_,_,⟨h3,_⟩,_,_,h4,_⟩:=h2 o ho
  rw [int_bytes] at h3 h4
  have h3:o.2.2.1.length*8≤140737488351232:=h3
  have h4:o.2.2.2.2.2.length*8≤140737488351232:=h4
  exact ⟨by omega,by omega⟩
end Go.Ql
end
end

section
section
set_option linter.unusedSectionVars false
set_option maxHeartbeats 1000000
namespace Go.Ql
abbrev Tx:=List UInt8
abbrev Lt:=Bool×Bool
abbrev Wd:=List Lt
def dec (u:UInt8):Lt:=(u == 88 || u == 89,u == 90 || u == 89)
def enc:Lt→UInt8
 | (false,false)=>73
 | (true,false)=>88
 | (false,true)=>90
 | (true,true)=>89
def xl (w:Wd):List Bool:=w.map (·.1)
def zl (w:Wd):List Bool:=w.map (·.2)
def xs (w:Wd):Nat:=pack (xl w)
def zs (w:Wd):Nat:=pack (zl w)
theorem xs_lt (w:Wd):xs w < 2 ^ w.length:=by simpa [xs,xl] using pack_lt (xl w)
theorem zs_lt (w:Wd):zs w < 2 ^ w.length:=by simpa [zs,zl] using pack_lt (zl w)
def pl (w:Wd) (m:Bool):Int×Int×Bool:=((xs w:Int),(zs w:Int),m)
end Go.Ql
end
section
namespace Go.Ql
end Go.Ql
end
section
set_option linter.unusedSectionVars false
set_option maxHeartbeats 1000000
namespace Go.Ql
theorem xl_len (w:Wd):(xl w).length=w.length:=by simp [xl]
theorem zl_len (w:Wd):(zl w).length=w.length:=by simp [zl]
end Go.Ql
end
section
set_option linter.unusedSectionVars false
set_option maxHeartbeats 1000000
namespace Go.Ql
def sp:List Nat→Nat→Bool
 | [],x=>x == 0
 | v::vs,x=>sp vs x || sp vs (x ^^^ v)
theorem xx_self (x y:Nat):x ^^^ y ^^^ y=x:=by rw [Nat.xor_assoc,Nat.xor_self,Nat.xor_zero]
def bl (x:Nat):Nat:=if x=0 then 0 else x.log2+1
theorem bl_le {x k:Nat}:bl x≤k↔x < 2 ^ k:=by
 unfold bl
 by_cases h:x=0
 ·subst h;simp;exact Nat.two_pow_pos k
 ·rw [if_neg h,← Nat.log2_lt h];omega
theorem bl_ge {x k:Nat} (h:bl x=k+1):2 ^ k≤x:=by
 rcases Nat.lt_or_ge x (2 ^ k) with h1 | h1
 ·have:=bl_le.2 h1
  omega
 ·exact h1
theorem bl_bit {x k:Nat} (h:bl x=k+1):x.testBit k=true:=
 Nat.testBit_of_two_pow_le_and_two_pow_add_one_gt (bl_ge h) (bl_le.1 (by omega))
theorem bl_diff {x y:Nat} (h:bl x < bl y):bl (x ^^^ y)=bl y:=by
 obtain ⟨k,hk⟩ : ∃ k,bl y=k+1:=⟨bl y - 1,by omega⟩
 have h1:x < 2 ^ k:=bl_le.1 (by omega)
 have h2:y < 2 ^ (k+1):=bl_le.1 (by omega)
 have h3:x ^^^ y < 2 ^ (k+1):=Nat.xor_lt_two_pow (Nat.lt_of_lt_of_le h1 (Nat.pow_le_pow_right (by decide) (by omega))) h2
 have h4:(x ^^^ y).testBit k=true:=by rw [Nat.testBit_xor,Nat.testBit_lt_two_pow h1,bl_bit hk];rfl
 have h5 : ¬ bl (x ^^^ y)≤k:=fun hh=>by
  rw [Nat.testBit_lt_two_pow (bl_le.1 hh)] at h4;cases h4
 have:=bl_le.2 h3
 omega
def Ech:List Nat→Prop
 | []=>True
 | w::r=>w≠0∧w < 2 ^ 28∧(∀ u∈r,bl u≠bl w)∧Ech r
theorem Ech.snoc : ∀ {es:List Nat} {r:Nat},Ech es→r≠0→r < 2 ^ 28→(∀ w∈es,bl w≠bl r)→Ech (es++[r])
 | [],r,_,h1,h2,_=>⟨h1,h2,(fun _ h=>nomatch h),trivial⟩
 | w::es,r,h,h1,h2,h3=>⟨h.1,h.2.1,fun u hu=>by
   rcases List.mem_append.1 hu with hu | hu
   ·exact h.2.2.1 u hu
   ·rw [List.mem_singleton.1 hu]
    exact Ne.symm (h3 w (List.mem_cons_self ..)),h.2.2.2.snoc h1 h2 fun u hu=>h3 u (List.mem_cons_of_mem _ hu)⟩
theorem Ech.lead : ∀ {es:List Nat} {x:Nat},Ech es→sp es x=true→x≠0 → ∃ w∈es,bl w=bl x
 | [],x,_,h,hx=>by simp [sp] at h;exact absurd h hx
 | w::es,x,he,h,hx=>by
  simp only [sp,Bool.or_eq_true] at h
  rcases h with h | h
  ·obtain ⟨u,h1,h2⟩:=Ech.lead he.2.2.2 h hx
   exact ⟨u,List.mem_cons_of_mem _ h1,h2⟩
  ·by_cases h0:x ^^^ w=0
   ·have:x=w:=by have:=xx_self x w;rw [h0,Nat.zero_xor] at this;exact this.symm
    exact ⟨w,List.mem_cons_self ..,by rw [this]⟩
   ·obtain ⟨u,h1,h2⟩:=Ech.lead he.2.2.2 h h0
    have h3:=he.2.2.1 u h1
    have hx':x=(x ^^^ w) ^^^ w:=(xx_self x w).symm
    rcases Nat.lt_or_ge (bl (x ^^^ w)) (bl w) with h4 | h4
    ·exact ⟨w,List.mem_cons_self ..,by rw [hx',bl_diff h4]⟩
    ·refine ⟨u,List.mem_cons_of_mem _ h1,?_⟩
     rw [hx',Nat.xor_comm,bl_diff (by omega),h2]
end Go.Ql
end
section
set_option linter.unusedSectionVars false
set_option maxHeartbeats 1000000
namespace Go.Ql
def mul1 (a b:Lt):Lt:=(a.1 != b.1,a.2 != b.2)
def mul (w v:Wd):Wd:=List.zipWith mul1 w v
def one (n:Nat):Wd:=List.replicate n (false,false)
def txt (w:Wd):Tx:=w.map enc
def tl (x y:UInt8):UInt8:=enc (mul1 (dec x) (dec y))
theorem third {a b:Tx} {i:Int} {x y:UInt8} (ea:idx a i=some x) (eb:idx b i=some y) (hx:x=88∨x=89∨x=90) (hy:y=88∨y=89∨y=90) (h:x≠y) (c:Tx) :
  iter (fun s↦W.ji.c100013 a b i (Prod.fst s) (Prod.snd s) some) (c,(0:Int))=some ([tl x y],(3:Int)):=by
 rcases hx with rfl | rfl | rfl <;> rcases hy with rfl | rfl | rfl <;> first | exact absurd rfl h | (
  refine iter_inl (s':=(?_,(1:Int))) (by simp only [W.ji.c100013,W.ji.c261446,W.ji.c15,ea,eb];rfl)
   (iter_inl (s':=(?_,(2:Int))) (by simp only [W.ji.c100013,W.ji.c261446,W.ji.c15,ea,eb];rfl)
   (iter_inl (s':=(?_,(3:Int))) (by simp only [W.ji.c100013,W.ji.c261446,W.ji.c15,ea,eb];rfl) (iter_inr rfl))))
end Go.Ql
end
section
set_option linter.unusedSectionVars false
set_option maxHeartbeats 1000000
namespace Go.Ql
theorem getD_of {A:Type} {l:List A} {i:Nat} {d:A} (h:i < l.length):l.getD i d=l[i]:=by
 rw [List.getD,List.getElem?_eq_getElem h,Option.getD_some]
end Go.Ql
end
section
set_option linter.unusedSectionVars false
set_option maxHeartbeats 1000000
namespace Go.Ql
end Go.Ql
end
section
set_option linter.unusedSectionVars false
set_option maxHeartbeats 1000000
namespace Go.Ql
theorem set_mid {A:Type} (l:List A) (a x:A) (r:List A):(l++a::r).set l.length x=l++x::r:=by
 induction l with
 | nil=>rfl
 | cons b l ih=>simp [ih]
theorem sameTexts_self (a:List Tx) (ha:a.length≤8796093022208):W.jw a a=some true:=by
 simp only [W.jw,br_if]
 rw [if_neg (by simp),iter_count (s0:=(0:Int)) a.length (fun k=>(k:Int)) (.inr (a.length:Int))]
 ·rfl
 ·intro i hi
  simp only [W.jw.c100004,W.jw.c6,br_if,idx_get hi,bnd_val]
  rw [if_pos (by simpa using hi),if_neg (by simp),wrap_i64 (by omega)]
  rfl
 ·simp only [W.jw.c100004,br_if]
  rw [if_neg (by simp)]
 ·rfl
theorem eqT_pair (f g:Int×Int):Ty.eqT (Ty.pair (Ty.int IntKind.i64) (Ty.int IntKind.i64)) f g=decide (f=g):=by
 obtain ⟨a,b⟩:=f
 obtain ⟨c,d⟩:=g
 rw [Bool.eq_iff_iff]
 simp [Ty.eqT]
end Go.Ql
end
section
set_option linter.unusedSectionVars false
set_option maxHeartbeats 1000000
namespace Go.Ql
end Go.Ql
end
section
set_option linter.unusedSectionVars false
set_option maxHeartbeats 1000000
namespace Go.Ql
end Go.Ql
end
section
set_option linter.unusedSectionVars false
set_option maxHeartbeats 1000000
namespace Go.Ql
theorem bit_of {l:List Bool} {q:Nat} (h:q < l.length) (hl:l.length≤12):ibits BinOp.and IntKind.u64 (Int.fdiv (pack l:Int) ((2:Int) ^ Min.min (Int.toNat (q:Int)) 64)) 1=((l[q].toNat:Nat):Int):=by
 have two:(2:Nat) ^ l.length≤2 ^ 12:=Nat.pow_le_pow_right (by decide) hl
 have hp:=pack_lt l
 have hp2:pack l < 4096:=by omega
 have hq:pack l / 2 ^ q < 2 ^ 64:=Nat.lt_of_le_of_lt (Nat.div_le_self _ _) (Nat.lt_trans hp2 (by decide))
 have h64:min q 64=q:=Nat.min_eq_left (by omega)
 rw [Int.toNat_natCast,h64,Int.fdiv_eq_ediv_of_nonneg _ (by exact Int.le_of_lt (Int.pow_pos (by decide))),show ((pack l:Int) / 2 ^ q)=((pack l / 2 ^ q:Nat):Int) by simp,
  show (1:Int)=((1:Nat):Int) from rfl,iand64 hq (by decide),Nat.and_one_is_mod]
 have:=pack_bit l q
 rw [Nat.testBit_eq_decide_div_mod_eq,getD_of h] at this
 have h2:=Nat.mod_two_eq_zero_or_one (pack l / 2 ^ q)
 cases hb:l[q] with
 | true=>rw [hb,decide_eq_true_eq] at this;rw [this];rfl
 | false=>
  rw [hb,decide_eq_false_iff_not] at this
  rw [show pack l / 2 ^ q % 2=0 by omega];rfl
theorem letter_bits (a b:Bool):idx (Array.toList (ByteArray.data (ByteArray.mk #[(73:UInt8),(88:UInt8),(90:UInt8),(89:UInt8)]))) (ibits BinOp.or IntKind.u64 ((a.toNat:Nat):Int) (IntKind.u64.wrap (((b.toNat:Nat):Int)*(2:Int) ^ (1:Nat))))=some (enc (a,b)):=by
 cases a <;> cases b <;> rfl
end Go.Ql
end
section
set_option linter.unusedSectionVars false
set_option maxHeartbeats 1000000
namespace Go.Ql
end Go.Ql
end
section
set_option linter.unusedSectionVars false
set_option maxHeartbeats 1000000
namespace Go.Ql
end Go.Ql
end
end
