/- Plain laws: circuits checked; words of letters; codes checked. -/
import Derived.Test.YtjlbeiadpdgchaaWc
import Derived.Test.YtjlbeiadpdgchaaPa
import Derived.Test.YtjlbeiadpdgchaaGa
set_option linter.all false
section
section
namespace Go.Ql
abbrev Op:=Int×Int×List Int×Int×Int×List Int
abbrev Cir:=Int×Int×List Op
def WOp (o:Op):Prop:=o.2.2.1.length≤17592186043904∧o.2.2.2.2.2.length≤17592186043904
def WCir (c:Cir):Prop:=c.2.2.length≤1759218604390 ∧ ∀ o∈c.2.2,WOp o
def ko (q0 qn:Int):List Int→List Int→Int
 | _,[]=>0
 | pre,q::r=>if q < 0∨qn≤q then 10 else if q=q0∨q∈pre then 12 else ko q0 qn (pre++[q]) r
def ifBad (bn:Int) (l:List Int):Prop:=∃ v∈l,v=0∨bn < v∨v < -bn
instance (bn:Int) (l:List Int):Decidable (ifBad bn l):=by unfold ifBad;infer_instance
def opBad (o:Op) (qn bn:Int):Int:=
 if o.1 < 1∨6 < o.1 then 8
 else if o.2.1 < 0∨15 < o.2.1∨(¬ (o.1=1∨o.1=4)∧o.2.1≠0) then 9
 else if o.2.2.2.1 < 0∨qn≤o.2.2.2.1∨(o.1=1∧o.2.2.2.1≠0) then 10
 else if o.2.2.1≠[] ∧ ¬ (o.1=2∨o.1=3∨o.1=4) then 11
 else if ko o.2.2.2.1 qn [] o.2.2.1≠0 then ko o.2.2.2.1 qn [] o.2.2.1
 else if (o.1=5∧(o.2.2.2.2.1 < 0∨bn≤o.2.2.2.2.1))∨(o.1≠5∧o.2.2.2.2.1≠0) then 13
 else if 24 < o.2.2.2.2.2.length then 14
 else if ifBad bn o.2.2.2.2.2 then 14 else 0
theorem one_c1 (k:Int):W.jn.c1 k some=some (decide (k < 1∨6 < k)):=by
 simp only [W.jn.c1,br_or];exact kw (by simp)
theorem turns_ok (k:Int):W.JD k=some (decide (k=1∨k=4)):=by
 simp only [W.JD,W.JD.c1,br_or,je];exact kw (by simp)
theorem gate_ok (k:Int):W.JI k=some (decide (k=2∨k=3∨k=4)):=by
 simp only [W.JI,W.JI.c1,br_or,je];exact kw (by simp)
theorem one_c3 (k a:Int):W.jn.c3 k a some=some (decide (a < 0∨15 < a∨(¬ (k=1∨k=4)∧a≠0))):=by
 simp only [W.jn.c3,turns_ok,br_or,UF,je];exact kw (by simp)
theorem one_c5 (k q qn:Int):W.jn.c5 k q qn some=some (decide (q < 0∨qn≤q∨(k=1∧q≠0))):=by
 simp only [W.jn.c5,br_or,UF];exact kw (by simp)
theorem one_c7 (k:Int) (l:List Int):W.jn.c7 k l some=some (decide (l≠[] ∧ ¬ (k=2∨k=3∨k=4))):=by
 simp only [W.jn.c7,gate_ok,br_or,UF,je];exact kw (by cases l <;> simp)
theorem one_c14 (q qn:Int):W.jn.c14 q qn some=some (decide (q < 0∨qn≤q)):=by
 simp only [W.jn.c14,br_or];exact kw (by simp)
theorem one_c20 (k b bn:Int):W.jn.c20 k b bn some=some (decide ((k=5∧(b < 0∨bn≤b))∨(k≠5∧b≠0))):=by
 by_cases hk:k=5
 ·subst hk
  simp only [W.jn.c20,beq_self_eq_true,bne_self_eq_false,br_tt,br_ff,br_or];exact kw (by simp)
 ·simp only [W.jn.c20,beq_eq_false_iff_ne.2 hk,bne_iff_ne.2 hk,br_tt,br_ff];exact kw (by simp [hk])
theorem one_c27 (v bn:Int) (h:0≤bn∧bn≤12):W.jn.c27 v bn some=some (decide (v=0∨bn < v∨v < -bn)):=by
 simp only [W.jn.c27,br_or]
 rw [js (by omega)]
 exact kw (by simp)
theorem one_ctl (q0 qn:Int) (h0:0≤q0∧q0 < 12) (hn:qn≤12) (l:List Int) (hl:l.length≤17592186043904) :
 ∃ r,iter (fun s:Int×List Bool↦W.jn.c100012 l (l.length:Int) s.1 s.2 qn some) ((0:Int),List.set (List.replicate 12 false) q0.toNat true)=some r ∧
  ((∃ u v,r = .inl (ko q0 qn [] l,u,v)∧ko q0 qn [] l≠0) ∨ ∃ u,r = .inr u∧ko q0 qn [] l=0):=by
 refine Yt (l:=l) (fun pre r s=>s.1=(pre.length:Int)∧s.2.length=12∧(∀ j:Nat,j < 12→s.2[j]? = some (decide ((j:Int)=q0∨(j:Int)∈pre)))∧ko q0 qn [] l=ko q0 qn pre r) _ ?_ ?_ ?_
 ·rintro pre a r ⟨i,seen⟩ rfl ⟨rfl,h1,h2,h3⟩
  simp only at h1 h2 ⊢
  simp only [List.length_append,List.length_cons] at hl
  simp only [W.jn.c100012,br_if,YO,je,one_c14]
  rw [if_pos VB]
  rw [h3]
  by_cases ha:a < 0∨qn≤a
  ·rw [if_pos (by simpa using ha)]
   exact .inr ⟨_,rfl,.inl ⟨_,_,by rw [ko,if_pos ha],by rw [ko,if_pos ha];decide⟩⟩
  ·rw [if_neg (by simpa using ha)]
   obtain ⟨n,rfl⟩:=Int.eq_ofNat_of_zero_le (show 0≤a by omega)
   have hn':n < 12:=by omega
   rw [Jf (by simp;omega),VN (by omega),Hq,h2 n hn']
   simp only [je]
   by_cases hb:(n:Int)=q0∨(n:Int)∈pre
   ·rw [if_pos (by simpa using hb)]
    exact .inr ⟨_,rfl,.inl ⟨_,_,by rw [ko,if_neg ha,if_pos hb],by rw [ko,if_neg ha,if_pos hb];decide⟩⟩
   ·rw [if_neg (by simpa using hb),js (by omega)]
    refine .inl ⟨_,rfl,by simp,by simp [h1],?_,?_⟩
    ·intro j hj
     simp only [Int.toNat_natCast]
     rw [List.getElem?_set]
     by_cases hjn:n=j
     ·subst hjn;simp [h1,hn']
     ·rw [if_neg hjn,h2 j hj]
      simp only [List.mem_append,List.mem_singleton]
      congr 1
      simp only [decide_eq_decide]
      have:(j:Int)≠n:=by omega
      simp [this]
    ·show ko q0 qn pre (_::r)=_
     rw [ko,if_neg ha,if_neg hb]
 ·rintro ⟨i,seen⟩ ⟨rfl,h1,h2,h3⟩
  simp only [W.jn.c100012,br_if]
  rw [if_neg (by simp)]
  exact ⟨_,rfl,.inr ⟨_,rfl,by rw [h3];rfl⟩⟩
 ·refine ⟨rfl,by simp,fun j hj => ?_,rfl⟩
  rw [List.getElem?_set]
  by_cases hq:q0.toNat=j
  ·subst hq
   simp
   omega
  ·rw [if_neg hq]
   have:(j:Int)≠q0:=by omega
   rw [List.getElem?_replicate,if_pos hj]
   simp [this]
theorem one_if (bn:Int) (h:0≤bn∧bn≤12) (l:List Int) (hl:l.length≤17592186043904) :
 ∃ r,iter (fun s:Int↦W.jn.c100025 l (l.length:Int) s bn some) (0:Int)=some r ∧
  ((∃ u,r = .inl u∧ifBad bn l) ∨ ∃ u,r = .inr u ∧ ¬ ifBad bn l):=by
 refine Yt (l:=l) (fun pre r s=>s=(pre.length:Int) ∧ ∀ v∈pre,¬ (v=0∨bn < v∨v < -bn)) _ ?_ ?_ ?_
 ·rintro pre a r i rfl ⟨rfl,h1⟩
  simp only [List.length_append,List.length_cons] at hl
  simp only [W.jn.c100025,br_if,YO,je,one_c27 _ _ h]
  rw [if_pos VB]
  by_cases ha:a=0∨bn < a∨a < -bn
  ·rw [if_pos (by simpa using ha)]
   exact .inr ⟨_,rfl,.inl ⟨_,rfl,a,by simp,ha⟩⟩
  ·rw [if_neg (by simpa using ha),js (by omega)]
   refine .inl ⟨_,rfl,by simp,fun v hv => ?_⟩
   rcases List.mem_append.1 hv with hv | hv
   ·exact h1 v hv
   ·rw [List.mem_singleton.1 hv];exact ha
 ·rintro i ⟨rfl,h1⟩
  simp only [W.jn.c100025,br_if]
  rw [if_neg (by simp)]
  exact ⟨_,rfl,.inr ⟨_,rfl,fun ⟨v,hv,hb⟩=>h1 v hv hb⟩⟩
 ·exact ⟨rfl,fun v hv=>by cases hv⟩
theorem one_ok (o:Op) (qn bn:Int) (ops:List Op) (ho:WOp o) (hq:1≤qn∧qn≤12) (hb:0≤bn∧bn≤12) :
 W.jn o qn bn ops=some (opBad o qn bn,qn,bn,ops,()):=by
 obtain ⟨k,a,ctl,q,bit,cond⟩:=o
 obtain ⟨ho1,ho2⟩:=ho
 simp only at ho1 ho2
 simp only [W.jn,one_c1,one_c3,one_c5,one_c7,je,br_if,opBad,decide_eq_true_eq]
 split
 ·rfl
 ·split
  ·rfl
  ·split
   ·rfl
   ·rename_i h1 h2 h3
    split
    ·rfl
    ·obtain ⟨n,rfl⟩:=Int.eq_ofNat_of_zero_le (show 0≤q by omega)
     have hn':n < 12:=by omega
     rw [Jf (by simp;omega),VN (by simpa using hn'),Hq]
     simp only [je,List.getElem?_replicate,hn',if_true]
     obtain ⟨r,hr,hr'⟩:=one_ctl n qn (by omega) hq.2 ctl ho1
     rw [hr,je]
     rcases hr' with ⟨u,v,rfl,h⟩ | ⟨u,rfl,h⟩
     ·rw [JS,if_pos h]
     ·rw [JZ,if_neg (show ¬ (ko (n:Int) qn [] ctl≠0) by simp [h])]
      simp only [one_c20,je,decide_eq_true_eq]
      split
      ·rfl
      ·by_cases h24:24 < cond.length
       ·rw [if_pos (by omega),if_pos h24]
       ·rw [if_neg (by omega),if_neg h24]
        obtain ⟨r,hr,hr'⟩:=one_if bn hb cond ho2
        rw [hr,je]
        rcases hr' with ⟨u,rfl,h⟩ | ⟨u,rfl,h⟩
        ·rw [JS,if_pos h]
        ·rw [JZ,if_neg h]
end Go.Ql
end
section
namespace Go.Ql
theorem member_ok (l:List Int) (x:Int) (hl:l.length≤17592186043904):W.JH l x=some (decide (x∈l)):=by
 have h : ∃ r,iter (fun s:Int↦W.JH.c100002 l x s some) (0:Int)=some r∧((∃ u,r = .inl u∧x∈l) ∨ ∃ u,r = .inr u∧x∉l):=by
  refine Yt (l:=l) (fun pre r s=>s=(pre.length:Int)∧x∉pre) _ ?_ ?_ ⟨rfl,by simp⟩
  ·rintro pre a r i rfl ⟨rfl,h1⟩
   simp only [List.length_append,List.length_cons] at hl
   simp only [W.JH.c100002,br_if,YO,je]
   rw [if_pos VB]
   by_cases ha:a=x
   ·rw [if_pos (by simpa using ha)]
    exact .inr ⟨_,rfl,.inl ⟨_,rfl,by simp [ha]⟩⟩
   ·rw [if_neg (by simpa using ha),js (by omega)]
    exact .inl ⟨_,rfl,by simp,by simp [h1,Ne.symm ha]⟩
  ·rintro i ⟨rfl,h1⟩
   simp only [W.JH.c100002,br_if]
   rw [if_neg (by simp)]
   exact ⟨_,rfl,.inr ⟨_,rfl,h1⟩⟩
 obtain ⟨r,hr,h⟩:=h
 simp only [W.JH,hr,je]
 rcases h with ⟨u,rfl,h⟩ | ⟨u,rfl,h⟩
 ·simp [JS,h]
 ·simp [JZ,h]
theorem rbad_c1 (k:Int):W.jl.c1 k some=some (decide (k < 1∨6 < k)):=by
 simp only [W.jl.c1,br_or,UF];exact kw (by simp)
theorem rbad_c3 (k:Int):W.jl.c3 k some=some (decide (k=1∨k=4)):=by
 simp only [W.jl.c3,br_or,UF];exact kw (by simp)
theorem rbad_c4 (k a:Int):W.jl.c4 (decide (k=1∨k=4)) a some=some (decide (a < 0∨15 < a∨(¬ (k=1∨k=4)∧a≠0))):=by
 simp only [W.jl.c4,br_or,UF];exact kw (by simp;omega)
theorem rbad_c6 (k q qn:Int):W.jl.c6 qn k q some=some (decide (q < 0∨qn≤q∨(k=1∧q≠0))):=by
 simp only [W.jl.c6,br_or,UF];exact kw (by simp;omega)
theorem rbad_c8 (k:Int) (l:List Int):W.jl.c8 k l some=some (decide (l≠[] ∧ ¬ (k=2∨k=3∨k=4))):=by
 simp only [W.jl.c8,br_or,UF];exact kw (by cases l <;> simp)
theorem rbad_bit (k b bn:Int) : ∃ r,W.jl.c269649 bn k b some=some r∧((r = .inl ()∧((k=5∧(b < 0∨bn≤b))∨(k≠5∧b≠0)))∨(r = .inr () ∧ ¬ ((k=5∧(b < 0∨bn≤b))∨(k≠5∧b≠0)))):=by
 have h:W.jl.c18 bn b some=some (decide (b < 0∨bn≤b)):=by
  simp only [W.jl.c18,br_or];exact kw (by simp)
 by_cases hk:k=5
 ·subst hk
  simp only [W.jl.c269649,beq_self_eq_true,br_tt,h,je]
  by_cases hb:b < 0∨bn≤b
  ·rw [jY hb];exact ⟨_,rfl,.inl ⟨rfl,.inl ⟨trivial,hb⟩⟩⟩
  ·rw [jP hb];exact ⟨_,rfl,.inr ⟨rfl,by omega⟩⟩
 ·simp only [W.jl.c269649,beq_eq_false_iff_ne.2 hk,br_ff]
  by_cases hb:b=0
  ·rw [jq (by simpa using hb)];exact ⟨_,rfl,.inr ⟨rfl,by omega⟩⟩
  ·rw [jN (by simpa using hb)];exact ⟨_,rfl,.inl ⟨rfl,by omega⟩⟩
theorem rbad_ctl (q0 qn:Int) (l:List Int) (hl:l.length≤17592186043904) :
 ∃ r,iter (fun s:Int↦W.jl.c100011 qn s l q0 some) (0:Int)=some r ∧
  ((∃ u,r = .inl (ko q0 qn [] l,u)∧ko q0 qn [] l≠0) ∨ ∃ u,r = .inr u∧ko q0 qn [] l=0):=by
 refine Yt (l:=l) (fun pre r s=>s=(pre.length:Int)∧ko q0 qn [] l=ko q0 qn pre r) _ ?_ ?_ ⟨rfl,rfl⟩
 ·rintro pre a r i rfl ⟨rfl,h3⟩
  simp only [List.length_append,List.length_cons] at hl
  have h13:W.jl.c13 qn (pre.length:Int) (pre++a::r) some=some (decide (a < 0∨qn≤a)):=by
   simp only [W.jl.c13,br_or,YO,je];exact kw (by simp)
  have h15:W.jl.c15 (pre.length:Int) (pre++a::r) q0 some=some (decide (a=q0∨a∈pre)):=by
   simp only [W.jl.c15,YO,je]
   rw [Jf (by simp;omega),je]
   simp only [Int.toNat_natCast,List.take_left,member_ok _ _ (show pre.length≤17592186043904 by omega),je,br_or]
   exact kw (by simp)
  simp only [W.jl.c100011,br_if,h13,h15,je]
  rw [if_pos VB]
  rw [h3]
  by_cases ha:a < 0∨qn≤a
  ·rw [if_pos (by simpa using ha)]
   exact .inr ⟨_,rfl,.inl ⟨_,by rw [ko,if_pos ha],by rw [ko,if_pos ha];decide⟩⟩
  ·rw [if_neg (by simpa using ha)]
   by_cases hb:a=q0∨a∈pre
   ·rw [if_pos (by simpa using hb)]
    exact .inr ⟨_,rfl,.inl ⟨_,by rw [ko,if_neg ha,if_pos hb],by rw [ko,if_neg ha,if_pos hb];decide⟩⟩
   ·rw [if_neg (by simpa using hb),js (by omega)]
    refine .inl ⟨_,rfl,by simp,?_⟩
    show ko q0 qn pre (_::r)=_
    rw [ko,if_neg ha,if_neg hb]
 ·rintro i ⟨rfl,h3⟩
  simp only [W.jl.c100011,br_if]
  rw [if_neg (by simp)]
  exact ⟨_,rfl,.inr ⟨_,rfl,by rw [h3];rfl⟩⟩
theorem rbad_if (bn:Int) (h:0≤bn∧bn≤12) (l:List Int) (hl:l.length≤17592186043904) :
 ∃ r,iter (fun s:Int↦W.jl.c100025 bn s l some) (0:Int)=some r ∧
  ((∃ u,r = .inl u∧ifBad bn l) ∨ ∃ u,r = .inr u ∧ ¬ ifBad bn l):=by
 refine Yt (l:=l) (fun pre r s=>s=(pre.length:Int) ∧ ∀ v∈pre,¬ (v=0∨bn < v∨v < -bn)) _ ?_ ?_ ⟨rfl,fun v hv=>by cases hv⟩
 ·rintro pre a r i rfl ⟨rfl,h1⟩
  simp only [List.length_append,List.length_cons] at hl
  have h27:W.jl.c27 bn (pre.length:Int) (pre++a::r) some=some (decide (a=0∨bn < a∨a < -bn)):=by
   simp only [W.jl.c27,br_or,YO,je]
   rw [js (by omega)];exact kw (by simp)
  simp only [W.jl.c100025,br_if,h27,je]
  rw [if_pos VB]
  by_cases ha:a=0∨bn < a∨a < -bn
  ·rw [if_pos (by simpa using ha)]
   exact .inr ⟨_,rfl,.inl ⟨_,rfl,a,by simp,ha⟩⟩
  ·rw [if_neg (by simpa using ha),js (by omega)]
   refine .inl ⟨_,rfl,by simp,fun v hv => ?_⟩
   rcases List.mem_append.1 hv with hv | hv
   ·exact h1 v hv
   ·rw [List.mem_singleton.1 hv];exact ha
 ·rintro i ⟨rfl,h1⟩
  simp only [W.jl.c100025,br_if]
  rw [if_neg (by simp)]
  exact ⟨_,rfl,.inr ⟨_,rfl,fun ⟨v,hv,hb⟩=>h1 v hv hb⟩⟩
theorem badOp_ok (o:Op) (qn bn:Int) (ho:WOp o) (hb:0≤bn∧bn≤12):W.jl o qn bn=some (opBad o qn bn):=by
 obtain ⟨k,a,ctl,q,bit,cond⟩:=o
 obtain ⟨ho1,ho2⟩:=ho
 simp only at ho1 ho2
 simp only [W.jl,rbad_c1,rbad_c3,rbad_c4,rbad_c6,rbad_c8,je,br_if,opBad,decide_eq_true_eq]
 split
 ·rfl
 ·split
  ·rfl
  ·split
   ·rfl
   ·split
    ·rfl
    ·obtain ⟨r,hr,hr'⟩:=rbad_ctl q qn ctl ho1
     rw [hr,je]
     rcases hr' with ⟨u,rfl,h⟩ | ⟨u,rfl,h⟩
     ·rw [JS,if_pos h]
     ·rw [JZ,if_neg (show ¬ (ko q qn [] ctl≠0) by simp [h])]
      obtain ⟨r,hr,hr'⟩:=rbad_bit k bit bn
      rw [hr,je]
      rcases hr' with ⟨rfl,h⟩ | ⟨rfl,h⟩
      ·rw [JS,if_pos h]
      ·rw [JZ,if_neg h]
       by_cases h24:24 < cond.length
       ·rw [if_pos (by omega),if_pos h24]
       ·rw [if_neg (by omega),if_neg h24]
        obtain ⟨r,hr,hr'⟩:=rbad_if bn hb cond ho2
        rw [hr,je]
        rcases hr' with ⟨u,rfl,h⟩ | ⟨u,rfl,h⟩
        ·rw [JS,if_pos h]
        ·rw [JZ,if_neg h]
def Yu (qn bn:Int):Nat→List Op→Int×Int
 | _,[]=>(0,0)
 | i,o::r=>if opBad o qn bn=0 then Yu qn bn (i+1) r else (opBad o qn bn,i)
def chk (c:Cir):Int×Int:=
 if c.1 < 1∨12 < c.1 then (6,0) else if c.2.1 < 0∨12 < c.2.1 then (7,0) else if 4096 < c.2.2.length then (2,0) else Yu c.1 c.2.1 0 c.2.2
theorem WOp.eta (o:Op):(o.1,o.2.1,o.2.2.1,o.2.2.2.1,o.2.2.2.2.1,o.2.2.2.2.2)=o:=rfl
theorem fault_ok (a b:Int):W.kl a b=some (a,b):=rfl
theorem rfault_ok (a b:Int):W.JX a b=some (a,b):=rfl
theorem Uv (c:Cir) (hc:WCir c):W.jL c=some (chk c):=by
 obtain ⟨qn,bn,ops⟩:=c
 obtain ⟨hl,hw⟩:=hc
 simp only at hl hw
 simp only [W.jL,W.jL.c1,W.jL.c3,br_if,fault_ok,je,chk]
 by_cases h1:qn < 1∨12 < qn
 ·rw [if_pos h1]
  by_cases h:qn < 1
  ·simp [h,je]
  ·have:12 < qn:=by omega
   simp [h,this,je]
 ·have h1a : ¬ qn < 1:=by omega
  have h1b : ¬ 12 < qn:=by omega
  simp only [h1a,h1b,je,decide_false,Bool.false_eq_true,if_false,gt_iff_lt,or_self]
  by_cases h2:bn < 0∨12 < bn
  ·rw [if_pos h2]
   by_cases h:bn < 0
   ·simp [h,je]
   ·have:12 < bn:=by omega
    simp [h,this,je]
  ·have h2a : ¬ bn < 0:=by omega
   have h2b : ¬ 12 < bn:=by omega
   simp only [h2a,h2b,je,decide_false,Bool.false_eq_true,if_false,or_self]
   by_cases h3:4096 < ops.length
   ·rw [if_pos h3,if_pos (by simp;omega)]
   ·rw [if_neg h3,if_neg (by simp;omega)]
    have key : ∃ r,iter (fun s:Int×Int×Int×List Op↦W.jL.c100008 ops (ops.length:Int) s.1 s.2.1 s.2.2.1 s.2.2.2 some) ((0:Int),qn,bn,ops)=some r ∧
     ((∃ u,r = .inl u∧(u.2.2.2.2.1,u.2.2.2.2.2)=Yu qn bn 0 ops) ∨ ∃ u,r = .inr u∧(0,0)=Yu qn bn 0 ops):=by
     refine Yt (l:=ops) (fun pre r s=>s=((pre.length:Int),qn,bn,ops)∧Yu qn bn pre.length r=Yu qn bn 0 ops) _ ?_ ?_ ⟨rfl,rfl⟩
     ·rintro pre o r s rfl ⟨rfl,h4⟩
      simp only [List.length_append,List.length_cons] at hl
      simp only [W.jL.c100008,br_if,YO,je,WOp.eta,one_ok o qn bn _ (hw o (by simp)) (by omega) (by omega),fault_ok]
      rw [if_pos VB]
      rw [Yu] at h4
      by_cases ho:opBad o qn bn=0
      ·rw [if_pos ho] at h4
       rw [if_neg (by simp [ho]),js (by omega)]
       exact .inl ⟨_,rfl,by simp,by simpa using h4⟩
      ·rw [if_neg ho] at h4
       rw [if_pos (by simp [ho])]
       exact .inr ⟨_,rfl,.inl ⟨_,rfl,h4⟩⟩
     ·rintro s ⟨rfl,h4⟩
      simp only [W.jL.c100008,br_if]
      rw [if_neg (by simp)]
      exact ⟨_,rfl,.inr ⟨_,rfl,h4⟩⟩
    obtain ⟨r,hr,h⟩:=key
    rw [hr,je]
    rcases h with ⟨u,rfl,h⟩ | ⟨u,rfl,h⟩
    ·rw [JS,← h]
    ·rw [JZ,← h]
theorem Ud (c:Cir) (hc:WCir c):W.jV c=some (chk c):=by
 obtain ⟨qn,bn,ops⟩:=c
 obtain ⟨hl,hw⟩:=hc
 simp only at hl hw
 simp only [W.jV,W.jV.c1,W.jV.c3,br_if,rfault_ok,je,chk]
 by_cases h1:qn < 1∨12 < qn
 ·rw [if_pos h1]
  by_cases h:qn < 1
  ·simp [h,je]
  ·have:12 < qn:=by omega
   simp [h,this,je]
 ·have h1a : ¬ qn < 1:=by omega
  have h1b : ¬ 12 < qn:=by omega
  simp only [h1a,h1b,je,decide_false,Bool.false_eq_true,if_false,gt_iff_lt,or_self]
  by_cases h2:bn < 0∨12 < bn
  ·rw [if_pos h2]
   by_cases h:bn < 0
   ·simp [h,je]
   ·have:12 < bn:=by omega
    simp [h,this,je]
  ·have h2a : ¬ bn < 0:=by omega
   have h2b : ¬ 12 < bn:=by omega
   simp only [h2a,h2b,je,decide_false,Bool.false_eq_true,if_false,or_self]
   by_cases h3:4096 < ops.length
   ·rw [if_pos h3,if_pos (by simp;omega)]
   ·rw [if_neg h3,if_neg (by simp;omega)]
    have key : ∃ r,iter (fun s:Int↦W.jV.c100008 s qn bn ops some) (0:Int)=some r ∧
     ((∃ u,r = .inl u∧(u.2.1,u.2.2)=Yu qn bn 0 ops) ∨ ∃ u,r = .inr u∧(0,0)=Yu qn bn 0 ops):=by
     refine Yt (l:=ops) (fun pre r s=>s=(pre.length:Int)∧Yu qn bn pre.length r=Yu qn bn 0 ops) _ ?_ ?_ ⟨rfl,rfl⟩
     ·rintro pre o r s rfl ⟨rfl,h4⟩
      simp only [List.length_append,List.length_cons] at hl
      simp only [W.jV.c100008,W.jV.c10,br_if,YO,je,badOp_ok o qn bn (hw o (by simp)) (by omega),rfault_ok]
      rw [if_pos VB]
      rw [Yu] at h4
      by_cases ho:opBad o qn bn=0
      ·rw [if_pos ho] at h4
       rw [if_neg (by simp [ho]),js (by omega)]
       exact .inl ⟨_,rfl,by simp,by simpa using h4⟩
      ·rw [if_neg ho] at h4
       rw [if_pos (by simp [ho])]
       exact .inr ⟨_,rfl,.inl ⟨_,rfl,h4⟩⟩
     ·rintro s ⟨rfl,h4⟩
      simp only [W.jV.c100008,br_if]
      rw [if_neg (by simp)]
      exact ⟨_,rfl,.inr ⟨_,rfl,h4⟩⟩
    obtain ⟨r,hr,h⟩:=key
    rw [hr,je]
    rcases h with ⟨u,rfl,h⟩ | ⟨u,rfl,h⟩
    ·rw [JS,← h]
    ·rw [JZ,← h]
end Go.Ql
end
section
namespace Go.Ql
instance dec3:DecidableEq (Int×Int×List Int):=inferInstance
instance dec4:DecidableEq (List Int×Int×Int×List Int):=inferInstance
instance dec6:DecidableEq Op:=instDecidableEqProd
instance decC:DecidableEq Cir:=instDecidableEqProd
def notPure:Nat→List Op→Int×Int
 | _,[]=>(0,0)
 | i,o::r=>if o.1=5∨o.1=6∨o.2.2.2.2.2≠[] then (15,i) else notPure (i+1) r
def pur (c:Cir):Int×Int:=if (chk c).1≠0 then chk c else notPure 0 c.2.2
theorem opsBad_zero {qn bn:Int} : ∀ {l:List Op} {i:Nat},(Yu qn bn i l).1=0→(∀ o∈l,opBad o qn bn=0)∧Yu qn bn i l=(0,0)
 | [],_,_=>⟨(fun _ h=>by cases h),rfl⟩
 | o::l,i,h=>by
   rw [Yu] at h ⊢
   by_cases ho:opBad o qn bn=0
   ·rw [if_pos ho] at h ⊢
    have:=opsBad_zero h
    exact ⟨fun o' h'=>by
     rcases List.mem_cons.1 h' with rfl | h'
     ·exact ho
     ·exact this.1 o' h',this.2⟩
   ·rw [if_neg ho] at h
    exact absurd h ho
structure GoodC (c:Cir):Prop where
 q:1≤c.1∧c.1≤12
 b:0≤c.2.1∧c.2.1≤12
 n:c.2.2.length≤4096
 ops : ∀ o∈c.2.2,opBad o c.1 c.2.1=0
theorem good_of {c:Cir} (h:(chk c).1=0):GoodC c∧chk c=(0,0):=by
 unfold chk at h ⊢
 by_cases h1:c.1 < 1∨12 < c.1
 ·rw [if_pos h1] at h;cases h
 ·rw [if_neg h1] at h ⊢
  by_cases h2:c.2.1 < 0∨12 < c.2.1
  ·rw [if_pos h2] at h;cases h
  ·rw [if_neg h2] at h ⊢
   by_cases h3:4096 < c.2.2.length
   ·rw [if_pos h3] at h;cases h
   ·rw [if_neg h3] at h ⊢
    have:=opsBad_zero h
    exact ⟨⟨by omega,by omega,by omega,this.1⟩,this.2⟩
theorem opsBad_good {qn bn:Int} : ∀ {l:List Op} {i:Nat},(∀ o∈l,opBad o qn bn=0)→Yu qn bn i l=(0,0)
 | [],_,_=>rfl
 | o::l,i,h=>by
   rw [Yu,if_pos (h o (by simp))]
   exact opsBad_good (fun o' h'=>h o' (List.mem_cons_of_mem _ h'))
theorem GoodC.chk {c:Cir} (h:GoodC c):chk c=(0,0):=by
 have:=h.q;have:=h.b;have:=h.n
 unfold Ql.chk
 rw [if_neg (by omega),if_neg (by omega),if_neg (by omega)]
 exact opsBad_good h.ops
structure GoodOp (o:Op) (qn bn:Int):Prop where
 kind:1≤o.1∧o.1≤6
 k:0≤o.2.1∧o.2.1≤15
 k0:(o.1=1∨o.1=4)∨o.2.1=0
 q:0≤o.2.2.2.1∧o.2.2.2.1 < qn
 q0:o.1=1→o.2.2.2.1=0
 ctl:o.2.2.1=[]∨(o.1=2∨o.1=3∨o.1=4)
 ctls:ko o.2.2.2.1 qn [] o.2.2.1=0
 bit:(o.1=5∧0≤o.2.2.2.2.1∧o.2.2.2.2.1 < bn)∨(o.1≠5∧o.2.2.2.2.1=0)
 ifs:o.2.2.2.2.2.length≤24
 cond : ¬ ifBad bn o.2.2.2.2.2
theorem goodOp_of {o:Op} {qn bn:Int} (h:opBad o qn bn=0):GoodOp o qn bn:=by
 unfold opBad at h
 by_cases h1:o.1 < 1∨6 < o.1
 ·rw [if_pos h1] at h;cases h
 rw [if_neg h1] at h
 by_cases h2:o.2.1 < 0∨15 < o.2.1∨(¬ (o.1=1∨o.1=4)∧o.2.1≠0)
 ·rw [if_pos h2] at h;cases h
 rw [if_neg h2] at h
 by_cases h3:o.2.2.2.1 < 0∨qn≤o.2.2.2.1∨(o.1=1∧o.2.2.2.1≠0)
 ·rw [if_pos h3] at h;cases h
 rw [if_neg h3] at h
 by_cases h4:o.2.2.1≠[] ∧ ¬ (o.1=2∨o.1=3∨o.1=4)
 ·rw [if_pos h4] at h;cases h
 rw [if_neg h4] at h
 by_cases h5:ko o.2.2.2.1 qn [] o.2.2.1≠0
 ·rw [if_pos h5] at h;exact absurd h h5
 rw [if_neg h5] at h
 by_cases h6:(o.1=5∧(o.2.2.2.2.1 < 0∨bn≤o.2.2.2.2.1))∨(o.1≠5∧o.2.2.2.2.1≠0)
 ·rw [if_pos h6] at h;cases h
 rw [if_neg h6] at h
 by_cases h7:24 < o.2.2.2.2.2.length
 ·rw [if_pos h7] at h;cases h
 rw [if_neg h7] at h
 by_cases h8:ifBad bn o.2.2.2.2.2
 ·rw [if_pos h8] at h;cases h
 exact ⟨by omega,by omega,by omega,by omega,by omega,by by_cases h:o.2.2.1=[] <;> simp_all;omega,by omega,by omega,by omega,h8⟩
theorem ctlBad_zero {q0 qn:Int} : ∀ {r pre:List Int},ko q0 qn pre r=0↔(∀ q∈r,0≤q∧q < qn∧q≠q0∧q∉pre)∧r.Nodup
 | [],_=>by simp [ko]
 | q::r,pre=>by
   rw [ko]
   by_cases h1:q < 0∨qn≤q
   ·rw [if_pos h1]
    constructor
    ·intro h;cases h
    ·intro h;have:=h.1 q (by simp);omega
   ·rw [if_neg h1]
    by_cases h2:q=q0∨q∈pre
    ·rw [if_pos h2]
     constructor
     ·intro h;cases h
     ·intro h;have:=h.1 q (by simp);rcases h2 with h2 | h2
      ·exact absurd h2 this.2.2.1
      ·exact absurd h2 this.2.2.2
    ·rw [if_neg h2,ctlBad_zero]
     have h1a:0≤q:=by omega
     have h1b:q < qn:=by omega
     simp only [not_or] at h2
     simp only [List.mem_cons,forall_eq_or_imp,List.nodup_cons,List.mem_append,List.mem_singleton,not_or]
     constructor
     ·rintro ⟨h3,h4⟩
      exact ⟨⟨⟨h1a,h1b,h2.1,h2.2⟩,fun a ha=>⟨(h3 a ha).1,(h3 a ha).2.1,(h3 a ha).2.2.1,(h3 a ha).2.2.2.1⟩⟩,fun hq=>(h3 q hq).2.2.2.2.1 rfl,h4⟩
     ·rintro ⟨⟨_,h3⟩,h4,h5⟩
      exact ⟨fun a ha=>⟨(h3 a ha).1,(h3 a ha).2.1,(h3 a ha).2.2.1,(h3 a ha).2.2.2,⟨fun e=>h4 (e ▸ ha),by simp⟩⟩,h5⟩
theorem rcopyInts_ok (l:List Int) (hl:l.length≤17592186043904):W.Jx l=some l:=by
 have h : ∃ r,iter (fun s:Int×List Int↦W.Jx.c100003 l s.1 s.2 some) ((0:Int),[])=some r∧r.2=l:=by
  refine Yt (l:=l) (fun pre r s=>s=((pre.length:Int),pre)) _ ?_ ?_ rfl
  ·rintro pre a r s rfl rfl
   simp only [List.length_append,List.length_cons] at hl
   simp only [W.Jx.c100003,br_if,YO,je]
   rw [if_pos VB,Jf (by simp;omega),js (by omega)]
   exact .inl ⟨_,rfl,by simp⟩
  ·rintro s rfl
   simp only [W.Jx.c100003,br_if]
   rw [if_neg (by simp)]
   exact ⟨_,rfl,rfl⟩
 obtain ⟨r,hr,h⟩:=h
 simp only [W.Jx,hr,je,h]
theorem rcopyOp_ok (o:Op) (ho:WOp o):W.kG o=some o:=by
 simp only [W.kG,rcopyInts_ok _ ho.1,rcopyInts_ok _ ho.2,je]
theorem copyCircuit_ok (c:Cir) (hc:WCir c):W.jM c=some c:=by
 obtain ⟨qn,bn,ops⟩:=c
 obtain ⟨hl,hw⟩:=hc
 simp only at hl hw
 have h : ∃ r,iter (fun s:Int×List Op↦W.jM.c100003 s.1 ops s.2 some) ((0:Int),[])=some r∧r.2=ops:=by
  refine Yt (l:=ops) (fun pre r s=>s=((pre.length:Int),pre)) _ ?_ ?_ rfl
  ·rintro pre a r s rfl rfl
   simp only [List.length_append,List.length_cons] at hl
   simp only [W.jM.c100003,W.jM.c5,br_if,YO,je,rcopyOp_ok a (hw a (by simp))]
   rw [if_pos VB,Jf (by simp;omega),js (by omega)]
   exact .inl ⟨_,rfl,by simp⟩
  ·rintro s rfl
   simp only [W.jM.c100003,br_if]
   rw [if_neg (by simp)]
   exact ⟨_,rfl,rfl⟩
 obtain ⟨r,hr,h⟩:=h
 simp only [W.jM,hr,je,h]
theorem sameInts_ok (a b:List Int) (ha:a.length≤17592186043904):W.jO a b=some (decide (a=b)):=by
 simp only [W.jO,br_if]
 by_cases hlen:a.length=b.length
 ·rw [if_neg (by simp [hlen])]
  have h : ∃ r,iter (fun s:Int↦W.jO.c100004 a b s some) (0:Int)=some r∧((∃ u,r = .inl u∧a≠b) ∨ ∃ u,r = .inr u∧a=b):=by
   refine JJ a.length (fun i s=>s=(i:Int)∧a.take i=b.take i) _ ?_ ?_ ⟨rfl,rfl⟩
   ·rintro i s hi ⟨rfl,h1⟩
    have h6:W.jO.c6 a b (i:Int) some=some (decide (a[i]≠b[i]'(by omega))):=by
     simp only [W.jO.c6,Yd hi,Yd (show i < b.length by omega),je]
     exact kw (by simp)
    simp only [W.jO.c100004,br_if,h6,je]
    rw [if_pos (by simpa using hi)]
    by_cases hd:a[i]=b[i]'(by omega)
    ·rw [if_neg (by simpa using hd),js (by omega)]
     exact .inl ⟨_,rfl,by simp,by rw [List.take_succ_eq_append_getElem hi,List.take_succ_eq_append_getElem (by omega),h1,hd]⟩
    ·rw [if_pos (by simpa using hd)]
     exact .inr ⟨_,rfl,.inl ⟨_,rfl,fun e=>hd (by subst e;rfl)⟩⟩
   ·rintro s ⟨rfl,h1⟩
    simp only [W.jO.c100004,br_if]
    rw [if_neg (by simp)]
    rw [List.take_length,hlen,List.take_length] at h1
    exact ⟨_,rfl,.inr ⟨_,rfl,h1⟩⟩
  obtain ⟨r,hr,h⟩:=h
  rw [hr,je]
  rcases h with ⟨u,rfl,h⟩ | ⟨u,rfl,h⟩
  ·rw [JS];simp [h]
  ·rw [JZ];simp [h]
 ·rw [if_pos (by simp;omega)]
  have:a≠b:=fun e=>hlen (by rw [e])
  simp [this]
theorem sameCircuit_ok (a b:Cir) (ha:WCir a):W.jy a b=some (decide (a=b)):=by
 obtain ⟨q1,b1,l1⟩:=a
 obtain ⟨q2,b2,l2⟩:=b
 obtain ⟨hl,hw⟩:=ha
 simp only at hl hw
 have h1:W.jy.c1 q1 b1 l1 q2 b2 l2 some=some (decide (q1≠q2∨b1≠b2∨l1.length≠l2.length)):=by
  simp only [W.jy.c1,br_or];exact kw (by simp;try omega)
 simp only [W.jy,h1,je,br_if,decide_eq_true_eq]
 by_cases h0:q1≠q2∨b1≠b2∨l1.length≠l2.length
 ·rw [if_pos h0]
  have:(q1,b1,l1)≠(q2,b2,l2):=by
   intro e
   injection e with e1 e
   injection e with e2 e
   subst e1;subst e2;subst e
   simp at h0
  simp [this]
 ·rw [if_neg h0]
  simp only [not_or,Decidable.not_not] at h0
  obtain ⟨rfl,rfl,hlen⟩:=h0
  have h : ∃ r,iter (fun s:Int↦W.jy.c100004 s l1 l2 some) (0:Int)=some r∧((∃ u,r = .inl u∧l1≠l2) ∨ ∃ u,r = .inr u∧l1=l2):=by
   refine JJ l1.length (fun i s=>s=(i:Int)∧l1.take i=l2.take i) _ ?_ ?_ ⟨rfl,rfl⟩
   ·rintro i s hi ⟨rfl,h1⟩
    have hwi:=hw _ (List.getElem_mem hi)
    have hi2:i < l2.length:=by omega
    have h8 : ∀ x y:Op,WOp x→W.jy.c8 x.1 x.2.1 x.2.2.1 x.2.2.2.1 x.2.2.2.2.1 x.2.2.2.2.2 y.1 y.2.1 y.2.2.1 y.2.2.2.1 y.2.2.2.2.1 y.2.2.2.2.2 some=some (decide (x≠y)):=by
     rintro ⟨x0,x1,x2,x3,x4,x5⟩ ⟨y0,y1,y2,y3,y4,y5⟩ hx
     simp only [W.jy.c8,br_or,sameInts_ok _ _ hx.1,sameInts_ok _ _ hx.2,je]
     exact kw (by simp;grind)
    simp only [W.jy.c100004,br_if,Yd hi,Yd hi2,je,h8 _ _ hwi]
    rw [if_pos (by simpa using hi)]
    by_cases hd:l1[i]=l2[i]
    ·rw [if_neg (by simpa using hd),js (by omega)]
     exact .inl ⟨_,rfl,by simp,by rw [List.take_succ_eq_append_getElem hi,List.take_succ_eq_append_getElem hi2,h1,hd]⟩
    ·rw [if_pos (by simpa using hd)]
     exact .inr ⟨_,rfl,.inl ⟨_,rfl,fun e=>hd (by subst e;rfl)⟩⟩
   ·rintro s ⟨rfl,h1⟩
    simp only [W.jy.c100004,br_if]
    rw [if_neg (by simp)]
    rw [List.take_length,hlen,List.take_length] at h1
    exact ⟨_,rfl,.inr ⟨_,rfl,h1⟩⟩
  obtain ⟨r,hr,h⟩:=h
  rw [hr,je]
  rcases h with ⟨u,rfl,h⟩ | ⟨u,rfl,h⟩
  ·rw [JS];simp [h]
  ·rw [JZ];simp [h]
end Go.Ql
end
section
namespace Go.Ql
def invOp (o:Op):Op:=(o.1,(16 - o.2.1) % 16,o.2.2.1,o.2.2.2.1,o.2.2.2.2.1,o.2.2.2.2.2)
abbrev nix:Cir:=(0,0,[])
def inv (c:Cir):Cir:=(c.1,c.2.1,(c.2.2.map invOp).reverse)
theorem WCir.eta (c:Cir):(c.1,c.2.1,c.2.2)=c:=rfl
def base (c:Cir) (n:Int):List Op:=if n < 0 then (inv c).2.2 else c.2.2
def power (c:Cir) (n:Int):Cir×Int×Int:=
 if (pur c).1≠0 then (nix,pur c) else if 4096 < n.natAbs*c.2.2.length then (nix,(2,0)) else ((c.1,c.2.1,(List.replicate n.natAbs (base c n)).flatten),(0,0))
end Go.Ql
end
section
namespace Go.Ql
end Go.Ql
end
section
namespace Go.Ql
abbrev opTy:Ty:=.st (.pair (.int .i64) (.pair (.int .i64) (.pair (.sl (.int .i64)) (.pair (.int .i64) (.pair (.int .i64) (.sl (.int .i64)))))))
abbrev cirTy:Ty:=.st (.pair (.int .i64) (.pair (.int .i64) (.sl opTy)))
theorem op_bytes:opTy.bytes=80:=by decide
theorem int_bytes:(Ty.int .i64).bytes=8:=by decide
theorem wcir_of {c:Cir} (h:Wf cirTy c):WCir c:=by
 obtain ⟨_,_,h1,_,h2⟩:=h
 refine ⟨?_,fun o ho => ?_⟩
 ·rw [op_bytes] at h1
  have:c.2.2.length*80≤140737488351232:=h1
  omega
 ·obtain ⟨_,_,⟨h3,_⟩,_,_,h4,_⟩:=h2 o ho
  rw [int_bytes] at h3 h4
  have h3:o.2.2.1.length*8≤140737488351232:=h3
  have h4:o.2.2.2.2.2.length*8≤140737488351232:=h4
  exact ⟨by omega,by omega⟩
end Go.Ql
end
end

section
section
set_option linter.unusedSectionVars false
set_option maxHeartbeats 1000000
namespace Go.Ql
abbrev Tx:=List UInt8
abbrev Lt:=Bool×Bool
abbrev Wd:=List Lt
def dec (u:UInt8):Lt:=(u == 88 || u == 89,u == 90 || u == 89)
def enc:Lt→UInt8
 | (false,false)=>73
 | (true,false)=>88
 | (false,true)=>90
 | (true,true)=>89
def okL (u:UInt8):Bool:=u == 73 || u == 88 || u == 89 || u == 90
theorem ok_enc : ∀ a:Lt,okL (enc a)=true
 | (false,false)=>rfl
 | (true,false)=>rfl
 | (false,true)=>rfl
 | (true,true)=>rfl
theorem all_enc (w:Wd):(w.map enc).all okL=true:=by
 induction w with
 | nil=>rfl
 | cons a l ih=>simp only [List.map_cons,List.all_cons,ok_enc,ih];rfl
def xl (w:Wd):List Bool:=w.map (·.1)
def zl (w:Wd):List Bool:=w.map (·.2)
def xs (w:Wd):Nat:=pack (xl w)
def zs (w:Wd):Nat:=pack (zl w)
theorem xs_lt (w:Wd):xs w < 2 ^ w.length:=by simpa [xs,xl] using pack_lt (xl w)
theorem zs_lt (w:Wd):zs w < 2 ^ w.length:=by simpa [zs,zl] using pack_lt (zl w)
theorem u8_eq {u:UInt8} (k:Nat) (hk:k < 256):(((u.toNat:Nat):Int) == (k:Int))=(u == UInt8.ofNat k):=by
 rw [Bool.eq_iff_iff]
 simp only [beq_iff_eq]
 constructor
 ·intro h
  rw [← Int.ofNat_inj.1 h,UInt8.ofNat_toNat]
 ·rintro rfl
  simp [Nat.mod_eq_of_lt hk]
theorem u8_43 {u:UInt8}:(((u.toNat:Nat):Int) == 43)=(u == 43):=u8_eq 43 (by decide)
theorem u8_45 {u:UInt8}:(((u.toNat:Nat):Int) == 45)=(u == 45):=u8_eq 45 (by decide)
theorem u8_73 {u:UInt8}:(((u.toNat:Nat):Int) == 73)=(u == 73):=u8_eq 73 (by decide)
theorem u8_88 {u:UInt8}:(((u.toNat:Nat):Int) == 88)=(u == 88):=u8_eq 88 (by decide)
theorem u8_89 {u:UInt8}:(((u.toNat:Nat):Int) == 89)=(u == 89):=u8_eq 89 (by decide)
theorem u8_90 {u:UInt8}:(((u.toNat:Nat):Int) == 90)=(u == 90):=u8_eq 90 (by decide)
theorem bne_not {α:Type} [BEq α] {a b:α}:(a != b) = !(a == b):=rfl
def sgn (s:Tx):Bool:=s.getD 0 0 == 45
def isP (s:Tx) (n:Nat):Bool:=decide (s.length=n+1) && (s.getD 0 0 == 43 || s.getD 0 0 == 45) && (s.drop 1).all okL
def wd (s:Tx):Wd:=(s.drop 1).map dec
theorem isP_len {s:Tx} {n:Nat} (h:isP s n=true):s.length=n+1∧(s.drop 1).length=n∧(wd s).length=n∧(s.drop 1).all okL=true:=by
 simp only [isP,Bool.and_eq_true,decide_eq_true_eq] at h
 refine ⟨h.1.1,?_,?_,h.2⟩ <;> simp [wd,h.1.1]
def pl (w:Wd) (m:Bool):Int×Int×Bool:=((xs w:Int),(zs w:Int),m)
end Go.Ql
end
section
namespace Go.Ql
end Go.Ql
end
section
set_option linter.unusedSectionVars false
set_option maxHeartbeats 1000000
namespace Go.Ql
theorem xl_len (w:Wd):(xl w).length=w.length:=by simp [xl]
theorem zl_len (w:Wd):(zl w).length=w.length:=by simp [zl]
theorem ispauli_ok (s:Tx) (n:Int) (hs:s.length≤140737488355328) (hn:n < 9223372036854775808) :
 W.jB s n=some (if (decide (1≤n) && isP s n.toNat)=true then ((sgn s,s.drop 1),true) else ((false,[]),false)):=by
 have hc1:W.jB.c1 s n some=some (!(decide (1≤n) && (decide (s.length=n.toNat+1) && (s.getD 0 0 == 43 || s.getD 0 0 == 45)))):=by
  simp only [W.jB.c1,br_if]
  by_cases h1:n < 1
  ·rw [if_pos (by simpa using h1)]
   have : ¬ (1≤n):=by omega
   simp [this]
  ·rw [if_neg (by simpa using h1)]
   have h2:1≤n:=by omega
   have hw:(((s.length:Nat):Int) != IntKind.i64.wrap (n+1)) = !decide (s.length=n.toNat+1):=by
    rw [bne_not]
    congr 1
    rw [Bool.eq_iff_iff]
    simp only [beq_iff_eq,decide_eq_true_eq]
    by_cases hb:n < 9223372036854775807
    ·rw [js (by omega)];omega
    ·have:n=9223372036854775807:=by omega
     subst this
     rw [show IntKind.i64.wrap (9223372036854775807+1) = -9223372036854775808 by decide]
     omega
   rw [hw]
   cases hd:decide (s.length=n.toNat+1) with
   | false=>rw [if_pos (by simp)];simp
   | true=>
     rw [if_neg (by simp)]
     cases s with
     | nil=>simp at hd
     | cons a s=>
       simp only [show idx (a::s) 0=some a from rfl,je,bne_not,u8_43,u8_45,List.getD_cons_zero,h2,decide_true,Bool.true_and]
       cases a == 43 <;> simp
 unfold W.jB
 simp only [hc1,je,br_if]
 cases hA:(decide (1≤n) && (decide (s.length=n.toNat+1) && (s.getD 0 0 == 43 || s.getD 0 0 == 45))) with
 | false=>
   rw [if_pos (by simp),if_neg]
   rw [isP,← Bool.and_assoc,hA]
   simp
 | true=>
   rw [if_neg (by simp)]
   have hA':=hA
   simp only [Bool.and_eq_true,decide_eq_true_eq] at hA
   obtain ⟨h1,hl,h43⟩:=hA
   obtain ⟨m,rfl⟩:=Int.eq_ofNat_of_zero_le (show 0≤n by omega)
   rw [Int.toNat_natCast] at hl
   have hc6 : ∀ i,i+1 < s.length→W.jB.c6 s ((i+1:Nat):Int) some=some (!okL (s.getD (i+1) 0)):=by
    intro i hi
    simp only [W.jB.c6,Yd hi,je,bne_not,u8_73,u8_88,u8_89,u8_90,br_if,okL,List.getD,List.getElem?_eq_getElem hi,Option.getD_some]
    generalize s[i+1]=u
    cases u == 73 <;> cases u == 88 <;> cases u == 89 <;> simp
   have key:=iter_first (f:=fun s_1:Int↦W.jB.c100004 s (m:Int) s_1 some)
    (P:=fun i st=>st=((i+1:Nat):Int)) m (fun i => !okL (s.getD (i+1) 0)) (X:=fun _ _=>True) (Q:=fun _=>True) (s:=(1:Int))
    (by
     intro i st hi hs hp
     subst hs
     simp only [W.jB.c100004,br_if,hc6 i (by omega),je]
     rw [if_pos (by simp;omega),if_pos hp]
     exact ⟨_,rfl,trivial⟩)
    (by
     intro i st hi hs hp
     subst hs
     simp only [W.jB.c100004,br_if,hc6 i (by omega),je]
     rw [if_pos (by simp;omega),if_neg (by simpa using hp),js (by omega)]
     exact ⟨_,rfl,by omega⟩)
    (by
     intro st hs
     subst hs
     simp only [W.jB.c100004,br_if]
     rw [if_neg (by simp;omega)]
     exact ⟨_,rfl,trivial⟩)
    rfl
   have hall:isP s m=(s.drop 1).all okL:=by
    rw [isP,show (decide (s.length=m+1) && (s.getD 0 0 == 43 || s.getD 0 0 == 45))=true by simpa [hl] using h43,Bool.true_and]
   rcases key with ⟨i,e,g1,g2,_⟩ | ⟨r,g1,g2,_⟩
   ·rw [g2]
    obtain ⟨_,g3,g4,_⟩:=fstF_some g1
    rw [je,JS,if_neg]
    rw [Int.toNat_natCast,hall]
    intro hh
    simp only [Bool.and_eq_true] at hh
    simp only [Bool.not_eq_true'] at g4
    have hi:i+1 < s.length:=by omega
    have:=List.all_eq_true.1 hh.2 (s[i+1]) (by rw [List.mem_iff_getElem?];exact ⟨i,by simp [hi,Nat.add_comm]⟩)
    rw [List.getD,List.getElem?_eq_getElem hi,Option.getD_some] at g4
    rw [this] at g4;cases g4
   ·rw [g2,je,JZ]
    have h0:idx s 0=some (s.getD 0 0):=by cases s <;> simp [idx] at hl ⊢
    have:(s.drop 1).all okL=true:=by
     rw [List.all_eq_true]
     intro u hu
     obtain ⟨i,hi⟩:=List.mem_iff_getElem?.1 hu
     have hi':i < m:=by
      have:=(List.getElem?_eq_some_iff.1 hi).1
      simp at this;omega
     have:=fstF_none.1 g1 i (by omega) (by omega)
     simp only [Bool.not_eq_false'] at this
     rw [List.getElem?_drop,Nat.add_comm] at hi
     rw [List.getD,hi] at this
     exact this
    rw [if_pos (by rw [Int.toNat_natCast,hall,this];simp;omega)]
    simp only [W.jB.c8,h0,je,u8_45]
    rw [Jf (by simp;omega)]
    simp only [je,sgn,Int.toNat_natCast,List.take_length]
end Go.Ql
end
section
set_option linter.unusedSectionVars false
set_option maxHeartbeats 1000000
namespace Go.Ql
def sp:List Nat→Nat→Bool
 | [],x=>x == 0
 | v::vs,x=>sp vs x || sp vs (x ^^^ v)
theorem xx_self (x y:Nat):x ^^^ y ^^^ y=x:=by rw [Nat.xor_assoc,Nat.xor_self,Nat.xor_zero]
def bl (x:Nat):Nat:=if x=0 then 0 else x.log2+1
theorem bl_le {x k:Nat}:bl x≤k↔x < 2 ^ k:=by
 unfold bl
 by_cases h:x=0
 ·subst h;simp;exact Nat.two_pow_pos k
 ·rw [if_neg h,← Nat.log2_lt h];omega
theorem bl_ge {x k:Nat} (h:bl x=k+1):2 ^ k≤x:=by
 rcases Nat.lt_or_ge x (2 ^ k) with h1 | h1
 ·have:=bl_le.2 h1
  omega
 ·exact h1
theorem bl_bit {x k:Nat} (h:bl x=k+1):x.testBit k=true:=
 Nat.testBit_of_two_pow_le_and_two_pow_add_one_gt (bl_ge h) (bl_le.1 (by omega))
theorem bl_diff {x y:Nat} (h:bl x < bl y):bl (x ^^^ y)=bl y:=by
 obtain ⟨k,hk⟩ : ∃ k,bl y=k+1:=⟨bl y - 1,by omega⟩
 have h1:x < 2 ^ k:=bl_le.1 (by omega)
 have h2:y < 2 ^ (k+1):=bl_le.1 (by omega)
 have h3:x ^^^ y < 2 ^ (k+1):=Nat.xor_lt_two_pow (Nat.lt_of_lt_of_le h1 (Nat.pow_le_pow_right (by decide) (by omega))) h2
 have h4:(x ^^^ y).testBit k=true:=by rw [Nat.testBit_xor,Nat.testBit_lt_two_pow h1,bl_bit hk];rfl
 have h5 : ¬ bl (x ^^^ y)≤k:=fun hh=>by
  rw [Nat.testBit_lt_two_pow (bl_le.1 hh)] at h4;cases h4
 have:=bl_le.2 h3
 omega
def Ech:List Nat→Prop
 | []=>True
 | w::r=>w≠0∧w < 2 ^ 28∧(∀ u∈r,bl u≠bl w)∧Ech r
theorem Ech.snoc : ∀ {es:List Nat} {r:Nat},Ech es→r≠0→r < 2 ^ 28→(∀ w∈es,bl w≠bl r)→Ech (es++[r])
 | [],r,_,h1,h2,_=>⟨h1,h2,(fun _ h=>nomatch h),trivial⟩
 | w::es,r,h,h1,h2,h3=>⟨h.1,h.2.1,fun u hu=>by
  rcases List.mem_append.1 hu with hu | hu
  ·exact h.2.2.1 u hu
  ·rw [List.mem_singleton.1 hu]
   exact Ne.symm (h3 w (List.mem_cons_self ..)),h.2.2.2.snoc h1 h2 fun u hu=>h3 u (List.mem_cons_of_mem _ hu)⟩
theorem Ech.lead : ∀ {es:List Nat} {x:Nat},Ech es→sp es x=true→x≠0 → ∃ w∈es,bl w=bl x
 | [],x,_,h,hx=>by simp [sp] at h;exact absurd h hx
 | w::es,x,he,h,hx=>by
   simp only [sp,Bool.or_eq_true] at h
   rcases h with h | h
   ·obtain ⟨u,h1,h2⟩:=Ech.lead he.2.2.2 h hx
    exact ⟨u,List.mem_cons_of_mem _ h1,h2⟩
   ·by_cases h0:x ^^^ w=0
    ·have:x=w:=by have:=xx_self x w;rw [h0,Nat.zero_xor] at this;exact this.symm
     exact ⟨w,List.mem_cons_self ..,by rw [this]⟩
    ·obtain ⟨u,h1,h2⟩:=Ech.lead he.2.2.2 h h0
     have h3:=he.2.2.1 u h1
     have hx':x=(x ^^^ w) ^^^ w:=(xx_self x w).symm
     rcases Nat.lt_or_ge (bl (x ^^^ w)) (bl w) with h4 | h4
     ·exact ⟨w,List.mem_cons_self ..,by rw [hx',bl_diff h4]⟩
     ·refine ⟨u,List.mem_cons_of_mem _ h1,?_⟩
      rw [hx',Nat.xor_comm,bl_diff (by omega),h2]
end Go.Ql
end
section
set_option linter.unusedSectionVars false
set_option maxHeartbeats 1000000
namespace Go.Ql
def mul1 (a b:Lt):Lt:=(a.1 != b.1,a.2 != b.2)
def mul (w v:Wd):Wd:=List.zipWith mul1 w v
def one (n:Nat):Wd:=List.replicate n (false,false)
def txt (w:Wd):Tx:=w.map enc
theorem YQ (w:Wd):(txt w).length=w.length:=by simp [txt]
theorem txt_ok (w:Wd):(txt w).all okL=true:=all_enc w
end Go.Ql
end
section
set_option linter.unusedSectionVars false
set_option maxHeartbeats 1000000
namespace Go.Ql
theorem getD_of {A:Type} {l:List A} {i:Nat} {d:A} (h:i < l.length):l.getD i d=l[i]:=by
 rw [List.getD,List.getElem?_eq_getElem h,Option.getD_some]
end Go.Ql
end
section
set_option linter.unusedSectionVars false
set_option maxHeartbeats 1000000
namespace Go.Ql
end Go.Ql
end
section
set_option linter.unusedSectionVars false
set_option maxHeartbeats 1000000
namespace Go.Ql
theorem sameTexts_self (a:List Tx) (ha:a.length≤8796093022208):W.jS a a=some true:=by
 simp only [W.jS,br_if]
 rw [if_neg (by simp),kW (s0:=(0:Int)) a.length (fun k=>(k:Int)) (.inr (a.length:Int))]
 ·rfl
 ·intro i hi
  simp only [W.jS.c100004,W.jS.c6,br_if,Yd hi,je]
  rw [if_pos (by simpa using hi),if_neg (by simp),js (by omega)]
  rfl
 ·simp only [W.jS.c100004,br_if]
  rw [if_neg (by simp)]
 ·rfl
theorem ksameInts_ok (a b:List Int) (ha:a.length≤17592186043904):W.jO a b=some (decide (a=b)):=by
 simp only [W.jO,br_if]
 by_cases hlen:a.length=b.length
 ·rw [if_neg (by simp [hlen])]
  have h : ∃ r,iter (fun s:Int↦W.jO.c100004 a b s some) (0:Int)=some r∧((∃ u,r = .inl u∧a≠b) ∨ ∃ u,r = .inr u∧a=b):=by
   refine JJ a.length (fun i s=>s=(i:Int)∧a.take i=b.take i) _ ?_ ?_ ⟨rfl,rfl⟩
   ·rintro i s hi ⟨rfl,h1⟩
    have h6:W.jO.c6 a b (i:Int) some=some (decide (a[i]≠b[i]'(by omega))):=by
     simp only [W.jO.c6,Yd hi,Yd (show i < b.length by omega),je]
     exact kw (by simp)
    simp only [W.jO.c100004,br_if,h6,je]
    rw [if_pos (by simpa using hi)]
    by_cases hd:a[i]=b[i]'(by omega)
    ·rw [if_neg (by simpa using hd),js (by omega)]
     exact .inl ⟨_,rfl,by simp,by rw [List.take_succ_eq_append_getElem hi,List.take_succ_eq_append_getElem (by omega),h1,hd]⟩
    ·rw [if_pos (by simpa using hd)]
     exact .inr ⟨_,rfl,.inl ⟨_,rfl,fun e=>hd (by subst e;rfl)⟩⟩
   ·rintro s ⟨rfl,h1⟩
    simp only [W.jO.c100004,br_if]
    rw [if_neg (by simp)]
    rw [List.take_length,hlen,List.take_length] at h1
    exact ⟨_,rfl,.inr ⟨_,rfl,h1⟩⟩
  obtain ⟨r,hr,h⟩:=h
  rw [hr,je]
  rcases h with ⟨u,rfl,h⟩ | ⟨u,rfl,h⟩
  ·rw [JS];simp [h]
  ·rw [JZ];simp [h]
 ·rw [if_pos (by simp;omega)]
  have:a≠b:=fun e=>hlen (by rw [e])
  simp [this]
theorem eqT_pair (f g:Int×Int):Ty.eqT (Ty.pair (Ty.int IntKind.i64) (Ty.int IntKind.i64)) f g=decide (f=g):=by
 obtain ⟨a,b⟩:=f
 obtain ⟨c,d⟩:=g
 rw [Bool.eq_iff_iff]
 simp [Ty.eqT]
end Go.Ql
end
section
set_option linter.unusedSectionVars false
set_option maxHeartbeats 1000000
namespace Go.Ql
end Go.Ql
end
section
set_option linter.unusedSectionVars false
set_option maxHeartbeats 1000000
namespace Go.Ql
end Go.Ql
end
section
set_option linter.unusedSectionVars false
set_option maxHeartbeats 1000000
namespace Go.Ql
theorem bit_of {l:List Bool} {q:Nat} (h:q < l.length) (hl:l.length≤12):ibits BinOp.and IntKind.u64 (Int.fdiv (pack l:Int) ((2:Int) ^ Min.min (Int.toNat (q:Int)) 64)) 1=((l[q].toNat:Nat):Int):=by
 have two:(2:Nat) ^ l.length≤2 ^ 12:=Nat.pow_le_pow_right (by decide) hl
 have hp:=pack_lt l
 have hp2:pack l < 4096:=by omega
 have hq:pack l / 2 ^ q < 2 ^ 64:=Nat.lt_of_le_of_lt (Nat.div_le_self _ _) (Nat.lt_trans hp2 (by decide))
 have h64:min q 64=q:=Nat.min_eq_left (by omega)
 rw [Int.toNat_natCast,h64,Int.fdiv_eq_ediv_of_nonneg _ (by exact Int.le_of_lt (Int.pow_pos (by decide))),show ((pack l:Int) / 2 ^ q)=((pack l / 2 ^ q:Nat):Int) by simp,
  show (1:Int)=((1:Nat):Int) from rfl,UK hq (by decide),Nat.and_one_is_mod]
 have:=pack_bit l q
 rw [Nat.testBit_eq_decide_div_mod_eq,getD_of h] at this
 have h2:=Nat.mod_two_eq_zero_or_one (pack l / 2 ^ q)
 cases hb:l[q] with
 | true=>rw [hb,decide_eq_true_eq] at this;rw [this];rfl
 | false=>
   rw [hb,decide_eq_false_iff_not] at this
   rw [show pack l / 2 ^ q % 2=0 by omega];rfl
theorem letter_bits (a b:Bool):idx (Array.toList (ByteArray.data (ByteArray.mk #[(73:UInt8),(88:UInt8),(90:UInt8),(89:UInt8)]))) (ibits BinOp.or IntKind.u64 ((a.toNat:Nat):Int) (IntKind.u64.wrap (((b.toNat:Nat):Int)*(2:Int) ^ (1:Nat))))=some (enc (a,b)):=by
 cases a <;> cases b <;> rfl
end Go.Ql
end
section
set_option linter.unusedSectionVars false
set_option maxHeartbeats 1000000
namespace Go.Ql
end Go.Ql
end
section
set_option linter.unusedSectionVars false
set_option maxHeartbeats 1000000
namespace Go.Ql
end Go.Ql
end
end
