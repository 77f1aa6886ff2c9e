/- Plain laws: circuits checked, copied, undone, written, controlled, moved. -/
import Derived.Test.YtcndclcpmelgoaaDoorWcO
import Derived.Test.YtcndclcpmelgoaaDoorCaO
import Derived.Test.YtcndclcpmelgoaaDoorGaO
set_option linter.all false
section
section
namespace Go.Ql
abbrev Op:=Int×Int×List Int×Int×Int×List Int
abbrev Cir:=Int×Int×List Op
def WOp (o:Op):Prop:=o.2.2.1.length≤17592186043904∧o.2.2.2.2.2.length≤17592186043904
def WCir (c:Cir):Prop:=c.2.2.length≤1759218604390 ∧ ∀ o∈c.2.2,WOp o
def JS (q0 qn:Int):List Int→List Int→Int
 | _,[]=>0
 | pre,q::r=>if q < 0∨qn≤q then 10 else if q=q0∨q∈pre then 12 else JS q0 qn (pre++[q]) r
def ifBad (bn:Int) (l:List Int):Prop:=∃ v∈l,v=0∨bn < v∨v < -bn
instance (bn:Int) (l:List Int):Decidable (ifBad bn l):=by unfold ifBad;infer_instance
def opBad (o:Op) (qn bn:Int):Int:=
 if o.1 < 1∨6 < o.1 then 8
 else if o.2.1 < 0∨15 < o.2.1∨(¬ (o.1=1∨o.1=4)∧o.2.1≠0) then 9
 else if o.2.2.2.1 < 0∨qn≤o.2.2.2.1∨(o.1=1∧o.2.2.2.1≠0) then 10
 else if o.2.2.1≠[] ∧ ¬ (o.1=2∨o.1=3∨o.1=4) then 11
 else if JS o.2.2.2.1 qn [] o.2.2.1≠0 then JS o.2.2.2.1 qn [] o.2.2.1
 else if (o.1=5∧(o.2.2.2.2.1 < 0∨bn≤o.2.2.2.2.1))∨(o.1≠5∧o.2.2.2.2.1≠0) then 13
 else if 24 < o.2.2.2.2.2.length then 14
 else if ifBad bn o.2.2.2.2.2 then 14 else 0
theorem one_c1 (k:Int):W.jl.c1 k some=some (decide (k < 1∨6 < k)):=by
 simp only [W.jl.c1,br_or];exact JF (by simp)
theorem turns_ok (k:Int):W.Jn k=some (decide (k=1∨k=4)):=by
 simp only [W.Jn,W.Jn.c1,br_or,jk];exact JF (by simp)
theorem gate_ok (k:Int):W.Jx k=some (decide (k=2∨k=3∨k=4)):=by
 simp only [W.Jx,W.Jx.c1,br_or,jk];exact JF (by simp)
theorem one_c3 (k a:Int):W.jl.c3 k a some=some (decide (a < 0∨15 < a∨(¬ (k=1∨k=4)∧a≠0))):=by
 simp only [W.jl.c3,turns_ok,br_or,YF,jk];exact JF (by simp)
theorem one_c5 (k q qn:Int):W.jl.c5 k q qn some=some (decide (q < 0∨qn≤q∨(k=1∧q≠0))):=by
 simp only [W.jl.c5,br_or,YF];exact JF (by simp)
theorem one_c7 (k:Int) (l:List Int):W.jl.c7 k l some=some (decide (l≠[] ∧ ¬ (k=2∨k=3∨k=4))):=by
 simp only [W.jl.c7,gate_ok,br_or,YF,jk];exact JF (by cases l <;> simp)
theorem one_c14 (q qn:Int):W.jl.c14 q qn some=some (decide (q < 0∨qn≤q)):=by
 simp only [W.jl.c14,br_or];exact JF (by simp)
theorem one_c20 (k b bn:Int):W.jl.c20 k b bn some=some (decide ((k=5∧(b < 0∨bn≤b))∨(k≠5∧b≠0))):=by
 by_cases hk:k=5
 ·subst hk
  simp only [W.jl.c20,beq_self_eq_true,bne_self_eq_false,br_tt,br_ff,br_or];exact JF (by simp)
 ·simp only [W.jl.c20,beq_eq_false_iff_ne.2 hk,bne_iff_ne.2 hk,br_tt,br_ff];exact JF (by simp [hk])
theorem one_c27 (v bn:Int) (h:0≤bn∧bn≤12):W.jl.c27 v bn some=some (decide (v=0∨bn < v∨v < -bn)):=by
 simp only [W.jl.c27,br_or]
 rw [jS (by omega)]
 exact JF (by simp)
theorem one_ctl (q0 qn:Int) (h0:0≤q0∧q0 < 12) (hn:qn≤12) (l:List Int) (hl:l.length≤17592186043904) :
 ∃ r,iter (fun s:Int×List Bool↦W.jl.c100012 l (l.length:Int) s.1 s.2 qn some) ((0:Int),List.set (List.replicate 12 false) q0.toNat true)=some r ∧
  ((∃ u v,r = .inl (JS q0 qn [] l,u,v)∧JS q0 qn [] l≠0) ∨ ∃ u,r = .inr u∧JS q0 qn [] l=0):=by
 refine Jy (l:=l) (fun pre r s=>s.1=(pre.length:Int)∧s.2.length=12∧(∀ j:Nat,j < 12→s.2[j]? = some (decide ((j:Int)=q0∨(j:Int)∈pre)))∧JS q0 qn [] l=JS q0 qn pre r) _ ?_ ?_ ?_
 ·rintro pre a r ⟨i,seen⟩ rfl ⟨rfl,h1,h2,h3⟩
  simp only at h1 h2 ⊢
  simp only [List.length_append,List.length_cons] at hl
  simp only [W.jl.c100012,br_if,JO,jk,one_c14]
  rw [if_pos kf]
  rw [h3]
  by_cases ha:a < 0∨qn≤a
  ·rw [if_pos (by simpa using ha)]
   exact .inr ⟨_,rfl,.inl ⟨_,_,by rw [JS,if_pos ha],by rw [JS,if_pos ha];decide⟩⟩
  ·rw [if_neg (by simpa using ha)]
   obtain ⟨n,rfl⟩:=Int.eq_ofNat_of_zero_le (show 0≤a by omega)
   have hn':n < 12:=by omega
   rw [JG (by simp;omega),VL (by omega),VK,h2 n hn']
   simp only [jk]
   by_cases hb:(n:Int)=q0∨(n:Int)∈pre
   ·rw [if_pos (by simpa using hb)]
    exact .inr ⟨_,rfl,.inl ⟨_,_,by rw [JS,if_neg ha,if_pos hb],by rw [JS,if_neg ha,if_pos hb];decide⟩⟩
   ·rw [if_neg (by simpa using hb),jS (by omega)]
    refine .inl ⟨_,rfl,by simp,by simp [h1],?_,?_⟩
    ·intro j hj
     simp only [Int.toNat_natCast]
     rw [List.getElem?_set]
     by_cases hjn:n=j
     ·subst hjn;simp [h1,hn']
     ·rw [if_neg hjn,h2 j hj]
      simp only [List.mem_append,List.mem_singleton]
      congr 1
      simp only [decide_eq_decide]
      have:(j:Int)≠n:=by omega
      simp [this]
    ·show JS q0 qn pre (_::r)=_
     rw [JS,if_neg ha,if_neg hb]
 ·rintro ⟨i,seen⟩ ⟨rfl,h1,h2,h3⟩
  simp only [W.jl.c100012,br_if]
  rw [if_neg (by simp)]
  exact ⟨_,rfl,.inr ⟨_,rfl,by rw [h3];rfl⟩⟩
 ·refine ⟨rfl,by simp,fun j hj => ?_,rfl⟩
  rw [List.getElem?_set]
  by_cases hq:q0.toNat=j
  ·subst hq
   simp
   omega
  ·rw [if_neg hq]
   have:(j:Int)≠q0:=by omega
   rw [List.getElem?_replicate,if_pos hj]
   simp [this]
theorem one_if (bn:Int) (h:0≤bn∧bn≤12) (l:List Int) (hl:l.length≤17592186043904) :
 ∃ r,iter (fun s:Int↦W.jl.c100025 l (l.length:Int) s bn some) (0:Int)=some r ∧
  ((∃ u,r = .inl u∧ifBad bn l) ∨ ∃ u,r = .inr u ∧ ¬ ifBad bn l):=by
 refine Jy (l:=l) (fun pre r s=>s=(pre.length:Int) ∧ ∀ v∈pre,¬ (v=0∨bn < v∨v < -bn)) _ ?_ ?_ ?_
 ·rintro pre a r i rfl ⟨rfl,h1⟩
  simp only [List.length_append,List.length_cons] at hl
  simp only [W.jl.c100025,br_if,JO,jk,one_c27 _ _ h]
  rw [if_pos kf]
  by_cases ha:a=0∨bn < a∨a < -bn
  ·rw [if_pos (by simpa using ha)]
   exact .inr ⟨_,rfl,.inl ⟨_,rfl,a,by simp,ha⟩⟩
  ·rw [if_neg (by simpa using ha),jS (by omega)]
   refine .inl ⟨_,rfl,by simp,fun v hv => ?_⟩
   rcases List.mem_append.1 hv with hv | hv
   ·exact h1 v hv
   ·rw [List.mem_singleton.1 hv];exact ha
 ·rintro i ⟨rfl,h1⟩
  simp only [W.jl.c100025,br_if]
  rw [if_neg (by simp)]
  exact ⟨_,rfl,.inr ⟨_,rfl,fun ⟨v,hv,hb⟩=>h1 v hv hb⟩⟩
 ·exact ⟨rfl,fun v hv=>by cases hv⟩
theorem one_ok (o:Op) (qn bn:Int) (ops:List Op) (ho:WOp o) (hq:1≤qn∧qn≤12) (hb:0≤bn∧bn≤12) :
 W.jl o qn bn ops=some (opBad o qn bn,qn,bn,ops,()):=by
 obtain ⟨k,a,ctl,q,bit,cond⟩:=o
 obtain ⟨ho1,ho2⟩:=ho
 simp only at ho1 ho2
 simp only [W.jl,one_c1,one_c3,one_c5,one_c7,jk,br_if,opBad,decide_eq_true_eq]
 split
 ·rfl
 ·split
  ·rfl
  ·split
   ·rfl
   ·rename_i h1 h2 h3
    split
    ·rfl
    ·obtain ⟨n,rfl⟩:=Int.eq_ofNat_of_zero_le (show 0≤q by omega)
     have hn':n < 12:=by omega
     rw [JG (by simp;omega),VL (by simpa using hn'),VK]
     simp only [jk,List.getElem?_replicate,hn',if_true]
     obtain ⟨r,hr,hr'⟩:=one_ctl n qn (by omega) hq.2 ctl ho1
     rw [hr,jk]
     rcases hr' with ⟨u,v,rfl,h⟩ | ⟨u,rfl,h⟩
     ·rw [kU,if_pos h]
     ·rw [kJ,if_neg (show ¬ (JS (n:Int) qn [] ctl≠0) by simp [h])]
      simp only [one_c20,jk,decide_eq_true_eq]
      split
      ·rfl
      ·by_cases h24:24 < cond.length
       ·rw [if_pos (by omega),if_pos h24]
       ·rw [if_neg (by omega),if_neg h24]
        obtain ⟨r,hr,hr'⟩:=one_if bn hb cond ho2
        rw [hr,jk]
        rcases hr' with ⟨u,rfl,h⟩ | ⟨u,rfl,h⟩
        ·rw [kU,if_pos h]
        ·rw [kJ,if_neg h]
end Go.Ql
end
section
namespace Go.Ql
theorem member_ok (l:List Int) (x:Int) (hl:l.length≤17592186043904):W.Jv l x=some (decide (x∈l)):=by
 have h : ∃ r,iter (fun s:Int↦W.Jv.c100002 l x s some) (0:Int)=some r∧((∃ u,r = .inl u∧x∈l) ∨ ∃ u,r = .inr u∧x∉l):=by
  refine Jy (l:=l) (fun pre r s=>s=(pre.length:Int)∧x∉pre) _ ?_ ?_ ⟨rfl,by simp⟩
  ·rintro pre a r i rfl ⟨rfl,h1⟩
   simp only [List.length_append,List.length_cons] at hl
   simp only [W.Jv.c100002,br_if,JO,jk]
   rw [if_pos kf]
   by_cases ha:a=x
   ·rw [if_pos (by simpa using ha)]
    exact .inr ⟨_,rfl,.inl ⟨_,rfl,by simp [ha]⟩⟩
   ·rw [if_neg (by simpa using ha),jS (by omega)]
    exact .inl ⟨_,rfl,by simp,by simp [h1,Ne.symm ha]⟩
  ·rintro i ⟨rfl,h1⟩
   simp only [W.Jv.c100002,br_if]
   rw [if_neg (by simp)]
   exact ⟨_,rfl,.inr ⟨_,rfl,h1⟩⟩
 obtain ⟨r,hr,h⟩:=h
 simp only [W.Jv,hr,jk]
 rcases h with ⟨u,rfl,h⟩ | ⟨u,rfl,h⟩
 ·simp [kU,h]
 ·simp [kJ,h]
theorem rbad_c1 (k:Int):W.jh.c1 k some=some (decide (k < 1∨6 < k)):=by
 simp only [W.jh.c1,br_or,YF];exact JF (by simp)
theorem rbad_c3 (k:Int):W.jh.c3 k some=some (decide (k=1∨k=4)):=by
 simp only [W.jh.c3,br_or,YF];exact JF (by simp)
theorem rbad_c4 (k a:Int):W.jh.c4 (decide (k=1∨k=4)) a some=some (decide (a < 0∨15 < a∨(¬ (k=1∨k=4)∧a≠0))):=by
 simp only [W.jh.c4,br_or,YF];exact JF (by simp;omega)
theorem rbad_c6 (k q qn:Int):W.jh.c6 qn k q some=some (decide (q < 0∨qn≤q∨(k=1∧q≠0))):=by
 simp only [W.jh.c6,br_or,YF];exact JF (by simp;omega)
theorem rbad_c8 (k:Int) (l:List Int):W.jh.c8 k l some=some (decide (l≠[] ∧ ¬ (k=2∨k=3∨k=4))):=by
 simp only [W.jh.c8,br_or,YF];exact JF (by cases l <;> simp)
theorem rbad_bit (k b bn:Int) : ∃ r,W.jh.c269649 bn k b some=some r∧((r = .inl ()∧((k=5∧(b < 0∨bn≤b))∨(k≠5∧b≠0)))∨(r = .inr () ∧ ¬ ((k=5∧(b < 0∨bn≤b))∨(k≠5∧b≠0)))):=by
 have h:W.jh.c18 bn b some=some (decide (b < 0∨bn≤b)):=by
  simp only [W.jh.c18,br_or];exact JF (by simp)
 by_cases hk:k=5
 ·subst hk
  simp only [W.jh.c269649,beq_self_eq_true,br_tt,h,jk]
  by_cases hb:b < 0∨bn≤b
  ·rw [UO hb];exact ⟨_,rfl,.inl ⟨rfl,.inl ⟨trivial,hb⟩⟩⟩
  ·rw [UN hb];exact ⟨_,rfl,.inr ⟨rfl,by omega⟩⟩
 ·simp only [W.jh.c269649,beq_eq_false_iff_ne.2 hk,br_ff]
  by_cases hb:b=0
  ·rw [Ys (by simpa using hb)];exact ⟨_,rfl,.inr ⟨rfl,by omega⟩⟩
  ·rw [YG (by simpa using hb)];exact ⟨_,rfl,.inl ⟨rfl,by omega⟩⟩
theorem rbad_ctl (q0 qn:Int) (l:List Int) (hl:l.length≤17592186043904) :
 ∃ r,iter (fun s:Int↦W.jh.c100011 qn s l q0 some) (0:Int)=some r ∧
  ((∃ u,r = .inl (JS q0 qn [] l,u)∧JS q0 qn [] l≠0) ∨ ∃ u,r = .inr u∧JS q0 qn [] l=0):=by
 refine Jy (l:=l) (fun pre r s=>s=(pre.length:Int)∧JS q0 qn [] l=JS q0 qn pre r) _ ?_ ?_ ⟨rfl,rfl⟩
 ·rintro pre a r i rfl ⟨rfl,h3⟩
  simp only [List.length_append,List.length_cons] at hl
  have h13:W.jh.c13 qn (pre.length:Int) (pre++a::r) some=some (decide (a < 0∨qn≤a)):=by
   simp only [W.jh.c13,br_or,JO,jk];exact JF (by simp)
  have h15:W.jh.c15 (pre.length:Int) (pre++a::r) q0 some=some (decide (a=q0∨a∈pre)):=by
   simp only [W.jh.c15,JO,jk]
   rw [JG (by simp;omega),jk]
   simp only [Int.toNat_natCast,List.take_left,member_ok _ _ (show pre.length≤17592186043904 by omega),jk,br_or]
   exact JF (by simp)
  simp only [W.jh.c100011,br_if,h13,h15,jk]
  rw [if_pos kf]
  rw [h3]
  by_cases ha:a < 0∨qn≤a
  ·rw [if_pos (by simpa using ha)]
   exact .inr ⟨_,rfl,.inl ⟨_,by rw [JS,if_pos ha],by rw [JS,if_pos ha];decide⟩⟩
  ·rw [if_neg (by simpa using ha)]
   by_cases hb:a=q0∨a∈pre
   ·rw [if_pos (by simpa using hb)]
    exact .inr ⟨_,rfl,.inl ⟨_,by rw [JS,if_neg ha,if_pos hb],by rw [JS,if_neg ha,if_pos hb];decide⟩⟩
   ·rw [if_neg (by simpa using hb),jS (by omega)]
    refine .inl ⟨_,rfl,by simp,?_⟩
    show JS q0 qn pre (_::r)=_
    rw [JS,if_neg ha,if_neg hb]
 ·rintro i ⟨rfl,h3⟩
  simp only [W.jh.c100011,br_if]
  rw [if_neg (by simp)]
  exact ⟨_,rfl,.inr ⟨_,rfl,by rw [h3];rfl⟩⟩
theorem rbad_if (bn:Int) (h:0≤bn∧bn≤12) (l:List Int) (hl:l.length≤17592186043904) :
 ∃ r,iter (fun s:Int↦W.jh.c100025 bn s l some) (0:Int)=some r ∧
  ((∃ u,r = .inl u∧ifBad bn l) ∨ ∃ u,r = .inr u ∧ ¬ ifBad bn l):=by
 refine Jy (l:=l) (fun pre r s=>s=(pre.length:Int) ∧ ∀ v∈pre,¬ (v=0∨bn < v∨v < -bn)) _ ?_ ?_ ⟨rfl,fun v hv=>by cases hv⟩
 ·rintro pre a r i rfl ⟨rfl,h1⟩
  simp only [List.length_append,List.length_cons] at hl
  have h27:W.jh.c27 bn (pre.length:Int) (pre++a::r) some=some (decide (a=0∨bn < a∨a < -bn)):=by
   simp only [W.jh.c27,br_or,JO,jk]
   rw [jS (by omega)];exact JF (by simp)
  simp only [W.jh.c100025,br_if,h27,jk]
  rw [if_pos kf]
  by_cases ha:a=0∨bn < a∨a < -bn
  ·rw [if_pos (by simpa using ha)]
   exact .inr ⟨_,rfl,.inl ⟨_,rfl,a,by simp,ha⟩⟩
  ·rw [if_neg (by simpa using ha),jS (by omega)]
   refine .inl ⟨_,rfl,by simp,fun v hv => ?_⟩
   rcases List.mem_append.1 hv with hv | hv
   ·exact h1 v hv
   ·rw [List.mem_singleton.1 hv];exact ha
 ·rintro i ⟨rfl,h1⟩
  simp only [W.jh.c100025,br_if]
  rw [if_neg (by simp)]
  exact ⟨_,rfl,.inr ⟨_,rfl,fun ⟨v,hv,hb⟩=>h1 v hv hb⟩⟩
theorem badOp_ok (o:Op) (qn bn:Int) (ho:WOp o) (hb:0≤bn∧bn≤12):W.jh o qn bn=some (opBad o qn bn):=by
 obtain ⟨k,a,ctl,q,bit,cond⟩:=o
 obtain ⟨ho1,ho2⟩:=ho
 simp only at ho1 ho2
 simp only [W.jh,rbad_c1,rbad_c3,rbad_c4,rbad_c6,rbad_c8,jk,br_if,opBad,decide_eq_true_eq]
 split
 ·rfl
 ·split
  ·rfl
  ·split
   ·rfl
   ·split
    ·rfl
    ·obtain ⟨r,hr,hr'⟩:=rbad_ctl q qn ctl ho1
     rw [hr,jk]
     rcases hr' with ⟨u,rfl,h⟩ | ⟨u,rfl,h⟩
     ·rw [kU,if_pos h]
     ·rw [kJ,if_neg (show ¬ (JS q qn [] ctl≠0) by simp [h])]
      obtain ⟨r,hr,hr'⟩:=rbad_bit k bit bn
      rw [hr,jk]
      rcases hr' with ⟨rfl,h⟩ | ⟨rfl,h⟩
      ·rw [kU,if_pos h]
      ·rw [kJ,if_neg h]
       by_cases h24:24 < cond.length
       ·rw [if_pos (by omega),if_pos h24]
       ·rw [if_neg (by omega),if_neg h24]
        obtain ⟨r,hr,hr'⟩:=rbad_if bn hb cond ho2
        rw [hr,jk]
        rcases hr' with ⟨u,rfl,h⟩ | ⟨u,rfl,h⟩
        ·rw [kU,if_pos h]
        ·rw [kJ,if_neg h]
def Ya (qn bn:Int):Nat→List Op→Int×Int
 | _,[]=>(0,0)
 | i,o::r=>if opBad o qn bn=0 then Ya qn bn (i+1) r else (opBad o qn bn,i)
def chk (c:Cir):Int×Int:=
 if c.1 < 1∨12 < c.1 then (6,0) else if c.2.1 < 0∨12 < c.2.1 then (7,0) else if 4096 < c.2.2.length then (2,0) else Ya c.1 c.2.1 0 c.2.2
theorem WOp.eta (o:Op):(o.1,o.2.1,o.2.2.1,o.2.2.2.1,o.2.2.2.2.1,o.2.2.2.2.2)=o:=rfl
theorem Vg (a b:Int):W.Jr a b=some (a,b):=rfl
theorem Yp (a b:Int):W.JE a b=some (a,b):=rfl
theorem Uu (c:Cir) (hc:WCir c):W.jC c=some (chk c):=by
 obtain ⟨qn,bn,ops⟩:=c
 obtain ⟨hl,hw⟩:=hc
 simp only at hl hw
 simp only [W.jC,W.jC.c1,W.jC.c3,br_if,Vg,jk,chk]
 by_cases h1:qn < 1∨12 < qn
 ·rw [if_pos h1]
  by_cases h:qn < 1
  ·simp [h,jk]
  ·have:12 < qn:=by omega
   simp [h,this,jk]
 ·have h1a : ¬ qn < 1:=by omega
  have h1b : ¬ 12 < qn:=by omega
  simp only [h1a,h1b,jk,decide_false,Bool.false_eq_true,if_false,gt_iff_lt,or_self]
  by_cases h2:bn < 0∨12 < bn
  ·rw [if_pos h2]
   by_cases h:bn < 0
   ·simp [h,jk]
   ·have:12 < bn:=by omega
    simp [h,this,jk]
  ·have h2a : ¬ bn < 0:=by omega
   have h2b : ¬ 12 < bn:=by omega
   simp only [h2a,h2b,jk,decide_false,Bool.false_eq_true,if_false,or_self]
   by_cases h3:4096 < ops.length
   ·rw [if_pos h3,if_pos (by simp;omega)]
   ·rw [if_neg h3,if_neg (by simp;omega)]
    have key : ∃ r,iter (fun s:Int×Int×Int×List Op↦W.jC.c100008 ops (ops.length:Int) s.1 s.2.1 s.2.2.1 s.2.2.2 some) ((0:Int),qn,bn,ops)=some r ∧
     ((∃ u,r = .inl u∧(u.2.2.2.2.1,u.2.2.2.2.2)=Ya qn bn 0 ops) ∨ ∃ u,r = .inr u∧(0,0)=Ya qn bn 0 ops):=by
     refine Jy (l:=ops) (fun pre r s=>s=((pre.length:Int),qn,bn,ops)∧Ya qn bn pre.length r=Ya qn bn 0 ops) _ ?_ ?_ ⟨rfl,rfl⟩
     ·rintro pre o r s rfl ⟨rfl,h4⟩
      simp only [List.length_append,List.length_cons] at hl
      simp only [W.jC.c100008,br_if,JO,jk,WOp.eta,one_ok o qn bn _ (hw o (by simp)) (by omega) (by omega),Vg]
      rw [if_pos kf]
      rw [Ya] at h4
      by_cases ho:opBad o qn bn=0
      ·rw [if_pos ho] at h4
       rw [if_neg (by simp [ho]),jS (by omega)]
       exact .inl ⟨_,rfl,by simp,by simpa using h4⟩
      ·rw [if_neg ho] at h4
       rw [if_pos (by simp [ho])]
       exact .inr ⟨_,rfl,.inl ⟨_,rfl,h4⟩⟩
     ·rintro s ⟨rfl,h4⟩
      simp only [W.jC.c100008,br_if]
      rw [if_neg (by simp)]
      exact ⟨_,rfl,.inr ⟨_,rfl,h4⟩⟩
    obtain ⟨r,hr,h⟩:=key
    rw [hr,jk]
    rcases h with ⟨u,rfl,h⟩ | ⟨u,rfl,h⟩
    ·rw [kU,← h]
    ·rw [kJ,← h]
theorem rcheck_ok (c:Cir) (hc:WCir c):W.jL c=some (chk c):=by
 obtain ⟨qn,bn,ops⟩:=c
 obtain ⟨hl,hw⟩:=hc
 simp only at hl hw
 simp only [W.jL,W.jL.c1,W.jL.c3,br_if,Yp,jk,chk]
 by_cases h1:qn < 1∨12 < qn
 ·rw [if_pos h1]
  by_cases h:qn < 1
  ·simp [h,jk]
  ·have:12 < qn:=by omega
   simp [h,this,jk]
 ·have h1a : ¬ qn < 1:=by omega
  have h1b : ¬ 12 < qn:=by omega
  simp only [h1a,h1b,jk,decide_false,Bool.false_eq_true,if_false,gt_iff_lt,or_self]
  by_cases h2:bn < 0∨12 < bn
  ·rw [if_pos h2]
   by_cases h:bn < 0
   ·simp [h,jk]
   ·have:12 < bn:=by omega
    simp [h,this,jk]
  ·have h2a : ¬ bn < 0:=by omega
   have h2b : ¬ 12 < bn:=by omega
   simp only [h2a,h2b,jk,decide_false,Bool.false_eq_true,if_false,or_self]
   by_cases h3:4096 < ops.length
   ·rw [if_pos h3,if_pos (by simp;omega)]
   ·rw [if_neg h3,if_neg (by simp;omega)]
    have key : ∃ r,iter (fun s:Int↦W.jL.c100008 s qn bn ops some) (0:Int)=some r ∧
     ((∃ u,r = .inl u∧(u.2.1,u.2.2)=Ya qn bn 0 ops) ∨ ∃ u,r = .inr u∧(0,0)=Ya qn bn 0 ops):=by
     refine Jy (l:=ops) (fun pre r s=>s=(pre.length:Int)∧Ya qn bn pre.length r=Ya qn bn 0 ops) _ ?_ ?_ ⟨rfl,rfl⟩
     ·rintro pre o r s rfl ⟨rfl,h4⟩
      simp only [List.length_append,List.length_cons] at hl
      simp only [W.jL.c100008,W.jL.c10,br_if,JO,jk,badOp_ok o qn bn (hw o (by simp)) (by omega),Yp]
      rw [if_pos kf]
      rw [Ya] at h4
      by_cases ho:opBad o qn bn=0
      ·rw [if_pos ho] at h4
       rw [if_neg (by simp [ho]),jS (by omega)]
       exact .inl ⟨_,rfl,by simp,by simpa using h4⟩
      ·rw [if_neg ho] at h4
       rw [if_pos (by simp [ho])]
       exact .inr ⟨_,rfl,.inl ⟨_,rfl,h4⟩⟩
     ·rintro s ⟨rfl,h4⟩
      simp only [W.jL.c100008,br_if]
      rw [if_neg (by simp)]
      exact ⟨_,rfl,.inr ⟨_,rfl,h4⟩⟩
    obtain ⟨r,hr,h⟩:=key
    rw [hr,jk]
    rcases h with ⟨u,rfl,h⟩ | ⟨u,rfl,h⟩
    ·rw [kU,← h]
    ·rw [kJ,← h]
end Go.Ql
end
section
namespace Go.Ql
instance dec3:DecidableEq (Int×Int×List Int):=inferInstance
instance dec4:DecidableEq (List Int×Int×Int×List Int):=inferInstance
instance dec6:DecidableEq Op:=instDecidableEqProd
instance decC:DecidableEq Cir:=instDecidableEqProd
def kS:Nat→List Op→Int×Int
 | _,[]=>(0,0)
 | i,o::r=>if o.1=5∨o.1=6∨o.2.2.2.2.2≠[] then (15,i) else kS (i+1) r
def pur (c:Cir):Int×Int:=if (chk c).1≠0 then chk c else kS 0 c.2.2
theorem opsBad_zero {qn bn:Int} : ∀ {l:List Op} {i:Nat},(Ya qn bn i l).1=0→(∀ o∈l,opBad o qn bn=0)∧Ya qn bn i l=(0,0)
 | [],_,_=>⟨(fun _ h=>by cases h),rfl⟩
 | o::l,i,h=>by
   rw [Ya] at h ⊢
   by_cases ho:opBad o qn bn=0
   ·rw [if_pos ho] at h ⊢
    have:=opsBad_zero h
    exact ⟨fun o' h'=>by
     rcases List.mem_cons.1 h' with rfl | h'
     ·exact ho
     ·exact this.1 o' h',this.2⟩
   ·rw [if_neg ho] at h
    exact absurd h ho
structure GoodC (c:Cir):Prop where
 q:1≤c.1∧c.1≤12
 b:0≤c.2.1∧c.2.1≤12
 n:c.2.2.length≤4096
 ops : ∀ o∈c.2.2,opBad o c.1 c.2.1=0
theorem kQ {c:Cir} (h:(chk c).1=0):GoodC c∧chk c=(0,0):=by
 unfold chk at h ⊢
 by_cases h1:c.1 < 1∨12 < c.1
 ·rw [if_pos h1] at h;cases h
 ·rw [if_neg h1] at h ⊢
  by_cases h2:c.2.1 < 0∨12 < c.2.1
  ·rw [if_pos h2] at h;cases h
  ·rw [if_neg h2] at h ⊢
   by_cases h3:4096 < c.2.2.length
   ·rw [if_pos h3] at h;cases h
   ·rw [if_neg h3] at h ⊢
    have:=opsBad_zero h
    exact ⟨⟨by omega,by omega,by omega,this.1⟩,this.2⟩
theorem opsBad_good {qn bn:Int} : ∀ {l:List Op} {i:Nat},(∀ o∈l,opBad o qn bn=0)→Ya qn bn i l=(0,0)
 | [],_,_=>rfl
 | o::l,i,h=>by
   rw [Ya,if_pos (h o (by simp))]
   exact opsBad_good (fun o' h'=>h o' (List.mem_cons_of_mem _ h'))
theorem GoodC.chk {c:Cir} (h:GoodC c):chk c=(0,0):=by
 have:=h.q;have:=h.b;have:=h.n
 unfold Ql.chk
 rw [if_neg (by omega),if_neg (by omega),if_neg (by omega)]
 exact opsBad_good h.ops
structure GoodOp (o:Op) (qn bn:Int):Prop where
 kind:1≤o.1∧o.1≤6
 k:0≤o.2.1∧o.2.1≤15
 k0:(o.1=1∨o.1=4)∨o.2.1=0
 q:0≤o.2.2.2.1∧o.2.2.2.1 < qn
 q0:o.1=1→o.2.2.2.1=0
 ctl:o.2.2.1=[]∨(o.1=2∨o.1=3∨o.1=4)
 ctls:JS o.2.2.2.1 qn [] o.2.2.1=0
 bit:(o.1=5∧0≤o.2.2.2.2.1∧o.2.2.2.2.1 < bn)∨(o.1≠5∧o.2.2.2.2.1=0)
 ifs:o.2.2.2.2.2.length≤24
 cond : ¬ ifBad bn o.2.2.2.2.2
theorem YJ {o:Op} {qn bn:Int} (h:opBad o qn bn=0):GoodOp o qn bn:=by
 unfold opBad at h
 by_cases h1:o.1 < 1∨6 < o.1
 ·rw [if_pos h1] at h;cases h
 rw [if_neg h1] at h
 by_cases h2:o.2.1 < 0∨15 < o.2.1∨(¬ (o.1=1∨o.1=4)∧o.2.1≠0)
 ·rw [if_pos h2] at h;cases h
 rw [if_neg h2] at h
 by_cases h3:o.2.2.2.1 < 0∨qn≤o.2.2.2.1∨(o.1=1∧o.2.2.2.1≠0)
 ·rw [if_pos h3] at h;cases h
 rw [if_neg h3] at h
 by_cases h4:o.2.2.1≠[] ∧ ¬ (o.1=2∨o.1=3∨o.1=4)
 ·rw [if_pos h4] at h;cases h
 rw [if_neg h4] at h
 by_cases h5:JS o.2.2.2.1 qn [] o.2.2.1≠0
 ·rw [if_pos h5] at h;exact absurd h h5
 rw [if_neg h5] at h
 by_cases h6:(o.1=5∧(o.2.2.2.2.1 < 0∨bn≤o.2.2.2.2.1))∨(o.1≠5∧o.2.2.2.2.1≠0)
 ·rw [if_pos h6] at h;cases h
 rw [if_neg h6] at h
 by_cases h7:24 < o.2.2.2.2.2.length
 ·rw [if_pos h7] at h;cases h
 rw [if_neg h7] at h
 by_cases h8:ifBad bn o.2.2.2.2.2
 ·rw [if_pos h8] at h;cases h
 exact ⟨by omega,by omega,by omega,by omega,by omega,by by_cases h:o.2.2.1=[] <;> simp_all;omega,by omega,by omega,by omega,h8⟩
theorem ctlBad_zero {q0 qn:Int} : ∀ {r pre:List Int},JS q0 qn pre r=0↔(∀ q∈r,0≤q∧q < qn∧q≠q0∧q∉pre)∧r.Nodup
 | [],_=>by simp [JS]
 | q::r,pre=>by
   rw [JS]
   by_cases h1:q < 0∨qn≤q
   ·rw [if_pos h1]
    constructor
    ·intro h;cases h
    ·intro h;have:=h.1 q (by simp);omega
   ·rw [if_neg h1]
    by_cases h2:q=q0∨q∈pre
    ·rw [if_pos h2]
     constructor
     ·intro h;cases h
     ·intro h;have:=h.1 q (by simp);rcases h2 with h2 | h2
      ·exact absurd h2 this.2.2.1
      ·exact absurd h2 this.2.2.2
    ·rw [if_neg h2,ctlBad_zero]
     have h1a:0≤q:=by omega
     have h1b:q < qn:=by omega
     simp only [not_or] at h2
     simp only [List.mem_cons,forall_eq_or_imp,List.nodup_cons,List.mem_append,List.mem_singleton,not_or]
     constructor
     ·rintro ⟨h3,h4⟩
      exact ⟨⟨⟨h1a,h1b,h2.1,h2.2⟩,fun a ha=>⟨(h3 a ha).1,(h3 a ha).2.1,(h3 a ha).2.2.1,(h3 a ha).2.2.2.1⟩⟩,fun hq=>(h3 q hq).2.2.2.2.1 rfl,h4⟩
     ·rintro ⟨⟨_,h3⟩,h4,h5⟩
      exact ⟨fun a ha=>⟨(h3 a ha).1,(h3 a ha).2.1,(h3 a ha).2.2.1,(h3 a ha).2.2.2,⟨fun e=>h4 (e ▸ ha),by simp⟩⟩,h5⟩
theorem pure_c7 (k:Int) (l:List Int):W.jR.c7 k l some=some (decide (k=5∨k=6∨l≠[])):=by
 simp only [W.jR.c7,br_or];exact JF (by cases l <;> simp)
theorem pure_ok (c:Cir) (hc:WCir c):W.jR c=some (pur c):=by
 obtain ⟨qn,bn,ops⟩:=c
 have hl:=hc.1
 simp only at hl
 simp only [W.jR,Uu _ hc,jk,br_if,pur]
 by_cases h1:(chk (qn,bn,ops)).1=0
 ·rw [if_neg (by simp [h1]),if_neg (by simp [h1])]
  have key : ∃ r,iter (fun s:Int↦W.jR.c100005 ops (ops.length:Int) s some) (0:Int)=some r ∧
   ((∃ u,r = .inl u∧(u.2.1,u.2.2)=kS 0 ops) ∨ ∃ u,r = .inr u∧(0,0)=kS 0 ops):=by
   refine Jy (l:=ops) (fun pre r s=>s=(pre.length:Int)∧kS pre.length r=kS 0 ops) _ ?_ ?_ ⟨rfl,rfl⟩
   ·rintro pre o r s rfl ⟨rfl,h4⟩
    simp only [List.length_append,List.length_cons] at hl
    simp only [W.jR.c100005,br_if,JO,jk,pure_c7,Vg]
    rw [if_pos kf]
    rw [kS] at h4
    by_cases ho:o.1=5∨o.1=6∨o.2.2.2.2.2≠[]
    ·rw [if_pos ho] at h4
     rw [if_pos (by simpa using ho)]
     exact .inr ⟨_,rfl,.inl ⟨_,rfl,h4⟩⟩
    ·rw [if_neg ho] at h4
     rw [if_neg (by simpa using ho),jS (by omega)]
     exact .inl ⟨_,rfl,by simp,by simpa using h4⟩
   ·rintro s ⟨rfl,h4⟩
    simp only [W.jR.c100005,br_if]
    rw [if_neg (by simp)]
    exact ⟨_,rfl,.inr ⟨_,rfl,h4⟩⟩
  obtain ⟨r,hr,h⟩:=key
  rw [hr,jk]
  rcases h with ⟨u,rfl,h⟩ | ⟨u,rfl,h⟩
  ·rw [kU,← h]
  ·rw [kJ,← h]
 ·rw [if_pos (by simp [h1]),if_pos (by simp [h1])]
theorem rpure_ok (c:Cir) (hc:WCir c):W.Jo c=some (pur c):=by
 obtain ⟨qn,bn,ops⟩:=c
 have hl:=hc.1
 simp only at hl
 simp only [W.Jo,rcheck_ok _ hc,jk,br_if,pur]
 by_cases h1:(chk (qn,bn,ops)).1=0
 ·obtain ⟨hg,h0⟩:=kQ h1
  rw [if_neg (by simp [h1]),if_neg (by simp [h1])]
  have key : ∃ r,iter (fun s:Int↦W.Jo.c100005 s ops some) (0:Int)=some r ∧
   ((∃ u,r = .inl u∧(u.2.1,u.2.2)=kS 0 ops) ∨ ∃ u,r = .inr u∧(0,0)=kS 0 ops):=by
   refine Jy (l:=ops) (fun pre r s=>s=(pre.length:Int)∧kS pre.length r=kS 0 ops) _ ?_ ?_ ⟨rfl,rfl⟩
   ·rintro pre o r s rfl ⟨rfl,h4⟩
    simp only [List.length_append,List.length_cons] at hl
    have hk:=(YJ (hg.ops o (by simp))).kind
    have h7:W.Jo.c7 (pre.length:Int) (pre++o::r) some=some (decide (o.1=5∨o.1=6∨o.2.2.2.2.2≠[])):=by
     simp only [W.Jo.c7,br_if,JO,jk]
     by_cases h5:5≤o.1
     ·rw [if_pos (by simpa using h5)]
      have:o.1=5∨o.1=6:=by omega
      rcases this with h | h <;> simp [h]
     ·rw [if_neg (by simpa using h5)]
      have h5a:o.1≠5:=by omega
      have h5b:o.1≠6:=by omega
      simp only [h5a,h5b,false_or]
      cases o.2.2.2.2.2 <;> simp
    simp only [W.Jo.c100005,br_if,h7,jk,Yp]
    rw [if_pos kf]
    rw [kS] at h4
    by_cases ho:o.1=5∨o.1=6∨o.2.2.2.2.2≠[]
    ·rw [if_pos ho] at h4
     rw [if_pos (by simpa using ho)]
     exact .inr ⟨_,rfl,.inl ⟨_,rfl,h4⟩⟩
    ·rw [if_neg ho] at h4
     rw [if_neg (by simpa using ho),jS (by omega)]
     exact .inl ⟨_,rfl,by simp,by simpa using h4⟩
   ·rintro s ⟨rfl,h4⟩
    simp only [W.Jo.c100005,br_if]
    rw [if_neg (by simp)]
    exact ⟨_,rfl,.inr ⟨_,rfl,h4⟩⟩
  obtain ⟨r,hr,h⟩:=key
  rw [hr,jk]
  rcases h with ⟨u,rfl,h⟩ | ⟨u,rfl,h⟩
  ·rw [kU,← h]
  ·rw [kJ,← h,h0]
 ·rw [if_pos (by simp [h1]),if_pos (by simp [h1])]
theorem rcopyInts_ok (l:List Int) (hl:l.length≤17592186043904):W.Jm l=some l:=by
 have h : ∃ r,iter (fun s:Int×List Int↦W.Jm.c100003 l s.1 s.2 some) ((0:Int),[])=some r∧r.2=l:=by
  refine Jy (l:=l) (fun pre r s=>s=((pre.length:Int),pre)) _ ?_ ?_ rfl
  ·rintro pre a r s rfl rfl
   simp only [List.length_append,List.length_cons] at hl
   simp only [W.Jm.c100003,br_if,JO,jk]
   rw [if_pos kf,JG (by simp;omega),jS (by omega)]
   exact .inl ⟨_,rfl,by simp⟩
  ·rintro s rfl
   simp only [W.Jm.c100003,br_if]
   rw [if_neg (by simp)]
   exact ⟨_,rfl,rfl⟩
 obtain ⟨r,hr,h⟩:=h
 simp only [W.Jm,hr,jk,h]
theorem rcopyOp_ok (o:Op) (ho:WOp o):W.JX o=some o:=by
 simp only [W.JX,rcopyInts_ok _ ho.1,rcopyInts_ok _ ho.2,jk]
theorem copyCircuit_ok (c:Cir) (hc:WCir c):W.jH c=some c:=by
 obtain ⟨qn,bn,ops⟩:=c
 obtain ⟨hl,hw⟩:=hc
 simp only at hl hw
 have h : ∃ r,iter (fun s:Int×List Op↦W.jH.c100003 s.1 ops s.2 some) ((0:Int),[])=some r∧r.2=ops:=by
  refine Jy (l:=ops) (fun pre r s=>s=((pre.length:Int),pre)) _ ?_ ?_ rfl
  ·rintro pre a r s rfl rfl
   simp only [List.length_append,List.length_cons] at hl
   simp only [W.jH.c100003,W.jH.c5,br_if,JO,jk,rcopyOp_ok a (hw a (by simp))]
   rw [if_pos kf,JG (by simp;omega),jS (by omega)]
   exact .inl ⟨_,rfl,by simp⟩
  ·rintro s rfl
   simp only [W.jH.c100003,br_if]
   rw [if_neg (by simp)]
   exact ⟨_,rfl,rfl⟩
 obtain ⟨r,hr,h⟩:=h
 simp only [W.jH,hr,jk,h]
theorem clone_ok (l:List Int) (hl:l.length≤17592186043904):W.jX l=some (l,()):=by
 simp only [W.jX,br_if]
 rw [JG (by simp;omega)]
 simp only [jk]
 cases l
 ·simp [both_self]
 ·simp
theorem copied_ok (o:Op) (ho:WOp o):W.Jk o=some o:=by
 simp only [W.Jk,W.Jk.c1,clone_ok _ ho.1,clone_ok _ ho.2,jk]
theorem sameInts_ok (a b:List Int) (ha:a.length≤17592186043904):W.jP a b=some (decide (a=b)):=by
 simp only [W.jP,br_if]
 by_cases hlen:a.length=b.length
 ·rw [if_neg (by simp [hlen])]
  have h : ∃ r,iter (fun s:Int↦W.jP.c100004 a b s some) (0:Int)=some r∧((∃ u,r = .inl u∧a≠b) ∨ ∃ u,r = .inr u∧a=b):=by
   refine YK a.length (fun i s=>s=(i:Int)∧a.take i=b.take i) _ ?_ ?_ ⟨rfl,rfl⟩
   ·rintro i s hi ⟨rfl,h1⟩
    have h6:W.jP.c6 a b (i:Int) some=some (decide (a[i]≠b[i]'(by omega))):=by
     simp only [W.jP.c6,UG hi,UG (show i < b.length by omega),jk]
     exact JF (by simp)
    simp only [W.jP.c100004,br_if,h6,jk]
    rw [if_pos (by simpa using hi)]
    by_cases hd:a[i]=b[i]'(by omega)
    ·rw [if_neg (by simpa using hd),jS (by omega)]
     exact .inl ⟨_,rfl,by simp,by rw [List.take_succ_eq_append_getElem hi,List.take_succ_eq_append_getElem (by omega),h1,hd]⟩
    ·rw [if_pos (by simpa using hd)]
     exact .inr ⟨_,rfl,.inl ⟨_,rfl,fun e=>hd (by subst e;rfl)⟩⟩
   ·rintro s ⟨rfl,h1⟩
    simp only [W.jP.c100004,br_if]
    rw [if_neg (by simp)]
    rw [List.take_length,hlen,List.take_length] at h1
    exact ⟨_,rfl,.inr ⟨_,rfl,h1⟩⟩
  obtain ⟨r,hr,h⟩:=h
  rw [hr,jk]
  rcases h with ⟨u,rfl,h⟩ | ⟨u,rfl,h⟩
  ·rw [kU];simp [h]
  ·rw [kJ];simp [h]
 ·rw [if_pos (by simp;omega)]
  have:a≠b:=fun e=>hlen (by rw [e])
  simp [this]
theorem sameCircuit_ok (a b:Cir) (ha:WCir a):W.jt a b=some (decide (a=b)):=by
 obtain ⟨q1,b1,l1⟩:=a
 obtain ⟨q2,b2,l2⟩:=b
 obtain ⟨hl,hw⟩:=ha
 simp only at hl hw
 have h1:W.jt.c1 q1 b1 l1 q2 b2 l2 some=some (decide (q1≠q2∨b1≠b2∨l1.length≠l2.length)):=by
  simp only [W.jt.c1,br_or];exact JF (by simp;try omega)
 simp only [W.jt,h1,jk,br_if,decide_eq_true_eq]
 by_cases h0:q1≠q2∨b1≠b2∨l1.length≠l2.length
 ·rw [if_pos h0]
  have:(q1,b1,l1)≠(q2,b2,l2):=by
   intro e
   injection e with e1 e
   injection e with e2 e
   subst e1;subst e2;subst e
   simp at h0
  simp [this]
 ·rw [if_neg h0]
  simp only [not_or,Decidable.not_not] at h0
  obtain ⟨rfl,rfl,hlen⟩:=h0
  have h : ∃ r,iter (fun s:Int↦W.jt.c100004 s l1 l2 some) (0:Int)=some r∧((∃ u,r = .inl u∧l1≠l2) ∨ ∃ u,r = .inr u∧l1=l2):=by
   refine YK l1.length (fun i s=>s=(i:Int)∧l1.take i=l2.take i) _ ?_ ?_ ⟨rfl,rfl⟩
   ·rintro i s hi ⟨rfl,h1⟩
    have hwi:=hw _ (List.getElem_mem hi)
    have hi2:i < l2.length:=by omega
    have h8 : ∀ x y:Op,WOp x→W.jt.c8 x.1 x.2.1 x.2.2.1 x.2.2.2.1 x.2.2.2.2.1 x.2.2.2.2.2 y.1 y.2.1 y.2.2.1 y.2.2.2.1 y.2.2.2.2.1 y.2.2.2.2.2 some=some (decide (x≠y)):=by
     rintro ⟨x0,x1,x2,x3,x4,x5⟩ ⟨y0,y1,y2,y3,y4,y5⟩ hx
     simp only [W.jt.c8,br_or,sameInts_ok _ _ hx.1,sameInts_ok _ _ hx.2,jk]
     exact JF (by simp;grind)
    simp only [W.jt.c100004,br_if,UG hi,UG hi2,jk,h8 _ _ hwi]
    rw [if_pos (by simpa using hi)]
    by_cases hd:l1[i]=l2[i]
    ·rw [if_neg (by simpa using hd),jS (by omega)]
     exact .inl ⟨_,rfl,by simp,by rw [List.take_succ_eq_append_getElem hi,List.take_succ_eq_append_getElem hi2,h1,hd]⟩
    ·rw [if_pos (by simpa using hd)]
     exact .inr ⟨_,rfl,.inl ⟨_,rfl,fun e=>hd (by subst e;rfl)⟩⟩
   ·rintro s ⟨rfl,h1⟩
    simp only [W.jt.c100004,br_if]
    rw [if_neg (by simp)]
    rw [List.take_length,hlen,List.take_length] at h1
    exact ⟨_,rfl,.inr ⟨_,rfl,h1⟩⟩
  obtain ⟨r,hr,h⟩:=h
  rw [hr,jk]
  rcases h with ⟨u,rfl,h⟩ | ⟨u,rfl,h⟩
  ·rw [kU];simp [h]
  ·rw [kJ];simp [h]
theorem answers_ok (c d:Cir) (f g:Int×Int) (hc:WCir c):W.jZ c f d g=some (decide (f=g∧c=d)):=by
 have h1:W.jZ.c1 c.1 c.2.1 c.2.2 f.1 f.2 d.1 d.2.1 d.2.2 g.1 g.2 some=some (decide (f=g∧c=d)):=by
  simp only [W.jZ.c1,br_if,sameCircuit_ok c d hc,jk]
  obtain ⟨f0,f1⟩:=f
  obtain ⟨g0,g1⟩:=g
  simp [Ty.eqT]
  grind
 simp only [W.jZ,h1,jk]
end Go.Ql
end
section
namespace Go.Ql
def invOp (o:Op):Op:=(o.1,(16 - o.2.1) % 16,o.2.2.1,o.2.2.2.1,o.2.2.2.2.1,o.2.2.2.2.2)
abbrev nix:Cir:=(0,0,[])
def inv (c:Cir):Cir:=(c.1,c.2.1,(c.2.2.map invOp).reverse)
def JZ (c:Cir):Cir×Int×Int:=if (pur c).1≠0 then (nix,pur c) else (inv c,(0,0))
theorem invOp_w {o:Op} (h:WOp o):WOp (invOp o):=h
theorem notPure_zero : ∀ {l:List Op} {i:Nat},(kS i l).1=0→(∀ o∈l,¬ (o.1=5∨o.1=6∨o.2.2.2.2.2≠[]))∧kS i l=(0,0)
 | [],_,_=>⟨(fun _ h=>by cases h),rfl⟩
 | o::l,i,h=>by
   rw [kS] at h ⊢
   by_cases ho:o.1=5∨o.1=6∨o.2.2.2.2.2≠[]
   ·rw [if_pos ho] at h;cases h
   ·rw [if_neg ho] at h ⊢
    have:=notPure_zero h
    exact ⟨fun o' h'=>by
     rcases List.mem_cons.1 h' with rfl | h'
     ·exact ho
     ·exact this.1 o' h',this.2⟩
theorem VZ {c:Cir} (h:(pur c).1=0):GoodC c∧pur c=(0,0) ∧ ∀ o∈c.2.2,¬ (o.1=5∨o.1=6∨o.2.2.2.2.2≠[]):=by
 unfold pur at h ⊢
 by_cases h1:(chk c).1=0
 ·rw [if_neg (by simp [h1])] at h ⊢
  have:=notPure_zero h
  exact ⟨(kQ h1).1,this.2,this.1⟩
 ·rw [if_pos h1] at h
  exact absurd h h1
theorem reverse_ok (l:List Op) (hl:l.length≤1759218604390):W.jp l=some (l.reverse,()):=by
 have h : ∃ r,iter (fun s:Int×Int×List Op↦W.jp.c100001 s.1 s.2.1 s.2.2 some) ((0:Int),IntKind.i64.wrap ((l.length:Int) - 1),l)=some r∧r.2.2=l.reverse:=by
  refine YK (l.length / 2) (fun i s=>s.1=(i:Int)∧s.2.1=(l.length:Int) - 1 - i∧s.2.2.length=l.length ∧ ∀ k:Nat,k < l.length→s.2.2[k]? = if k < i∨l.length≤k+i then l[l.length - 1 - k]? else l[k]?) _ ?_ ?_ ⟨rfl,by rw [jS (by omega)];simp,rfl,fun k hk=>by rw [if_neg (by omega)]⟩
  ·rintro i ⟨a,b,t⟩ hi ⟨h1,h2,h3,h4⟩
   simp only at h1 h2 h3 h4
   subst h1
   obtain ⟨j,rfl,hj⟩ : ∃ j:Nat,b=j∧j=l.length - 1 - i:=⟨l.length - 1 - i,by omega,rfl⟩
   have hj2:j < l.length:=by omega
   simp only [W.jp.c100001,W.jp.c3,br_if]
   rw [if_pos (by simp;omega)]
   have ej:t[j]? = l[j]?:=by rw [h4 j hj2,if_neg (by omega)]
   have ei:t[i]? = l[i]?:=by rw [h4 i (by omega),if_neg (by omega)]
   rw [VL (by omega),jk,VK,ej,List.getElem?_eq_getElem hj2,jk,VL (by omega),jk,VK,ei,List.getElem?_eq_getElem (show i < l.length by omega)]
   simp only [jk,Int.toNat_natCast,List.length_set]
   rw [VL (by omega),jk,VK,List.getElem?_set_ne (by omega),ej,List.getElem?_eq_getElem hj2]
   simp only [jk]
   rw [jS (by omega),jS (by omega)]
   refine .inl ⟨_,rfl,by simp,by simp;omega,by simp [h3],fun k hk => ?_⟩
   simp only [List.getElem?_set,List.length_set,h3]
   by_cases e1:j=k
   ·subst e1
    rw [if_pos rfl,if_pos hj2,if_pos (by omega),show l.length - 1 - j=i by omega,List.getElem?_eq_getElem (show i < l.length by omega)]
   ·rw [if_neg e1]
    by_cases e2:i=k
    ·subst e2
     rw [if_pos rfl,if_pos (by omega),if_pos (by omega),show l.length - 1 - i=j by omega,List.getElem?_eq_getElem hj2]
    ·rw [if_neg e2,h4 k hk]
     by_cases e3:k < i∨l.length≤k+i
     ·rw [if_pos e3,if_pos (by omega)]
     ·rw [if_neg e3,if_neg (by omega)]
  ·rintro ⟨a,b,t⟩ ⟨h1,h2,h3,h4⟩
   simp only at h1 h2 h3 h4
   subst h1;subst h2
   simp only [W.jp.c100001,br_if]
   rw [if_neg (by simp;omega)]
   refine ⟨_,rfl,?_⟩
   apply List.ext_getElem?
   intro k
   by_cases hk:k < l.length
   ·show t[k]? = _
    rw [h4 k hk,List.getElem?_reverse hk]
    by_cases e:k < l.length / 2∨l.length≤k+l.length / 2
    ·rw [if_pos e]
    ·rw [if_neg e,show l.length - 1 - k=k by omega]
   ·show t[k]? = _
    rw [List.getElem?_eq_none (by omega),List.getElem?_eq_none (by simp;omega)]
 obtain ⟨r,hr,h⟩:=h
 simp only [W.jp,hr,jk,h]
theorem inv1_ok (o:Op) (h:0≤o.2.1∧o.2.1≤15):W.JH o=some (invOp o):=by
 simp only [W.JH,invOp]
 rw [jS (by omega),Int.tmod_eq_emod_of_nonneg (by omega)]
theorem eachInv_ok (c:Cir) (hc:WCir c) (hk : ∀ o∈c.2.2,0≤o.2.1∧o.2.1≤15):W.jD c=some (c.1,c.2.1,c.2.2.map invOp,()):=by
 obtain ⟨qn,bn,ops⟩:=c
 obtain ⟨hl,hw⟩:=hc
 simp only at hl hw hk
 have h : ∃ r,iter (fun s:Int×List Op↦W.jD.c100003 ops (ops.length:Int) s.1 s.2 some) ((0:Int),[])=some r∧r.2=ops.map invOp:=by
  refine Jy (l:=ops) (fun pre r s=>s=((pre.length:Int),pre.map invOp)) _ ?_ ?_ rfl
  ·rintro pre a r s rfl rfl
   simp only [List.length_append,List.length_cons] at hl
   simp only [W.jD.c100003,W.jD.c5,br_if,JO,jk,WOp.eta,copied_ok a (hw a (by simp)),inv1_ok a (hk a (by simp))]
   rw [if_pos kf,JG (by simp;omega),jS (by omega)]
   exact .inl ⟨_,rfl,by simp⟩
  ·rintro s rfl
   simp only [W.jD.c100003,br_if]
   rw [if_neg (by simp)]
   exact ⟨_,rfl,rfl⟩
 obtain ⟨r,hr,h⟩:=h
 simp only [W.jD,hr,jk,h]
theorem WCir.eta (c:Cir):(c.1,c.2.1,c.2.2)=c:=rfl
theorem inverse_ok (c:Cir) (hc:WCir c):W.Jd c=some (JZ c):=by
 simp only [W.Jd,W.Jd.c3,WCir.eta,pure_ok c hc,jk,br_if,JZ]
 by_cases h:(pur c).1=0
 ·obtain ⟨hg,hp,_⟩:=VZ h
  rw [if_neg (by simp [h]),if_neg (by simp [h]),eachInv_ok c hc (fun o ho=>(YJ (hg.ops o ho)).k)]
  simp only [jk]
  rw [reverse_ok _ (by simpa using hc.1)]
  rfl
 ·rw [if_pos (by simp [h]),if_pos h]
theorem rinverse_ok (c:Cir) (hc:WCir c):W.jE c=some (JZ c):=by
 simp only [W.jE,W.jE.c3,W.jE.c12,WCir.eta,rpure_ok c hc,jk,br_if,JZ]
 by_cases h:(pur c).1=0
 ·obtain ⟨hg,hp,_⟩:=VZ h
  obtain ⟨qn,bn,ops⟩:=c
  obtain ⟨hl,hw⟩:=hc
  simp only at hl hw
  rw [if_neg (by simp [h]),if_neg (by simp [h])]
  have hk : ∀ o∈ops,0≤o.2.1∧o.2.1≤15:=fun o ho=>(YJ (hg.ops o ho)).k
  have key : ∃ r,iter (fun s:Int×List Op↦W.jE.c100006 s.1 ops s.2 some) (IntKind.i64.wrap ((ops.length:Int) - 1),[])=some r∧r.2=(ops.map invOp).reverse:=by
   refine Jy (l:=ops.reverse) (fun pre r s=>s=((r.length:Int) - 1,pre.map invOp)) _ ?_ ?_ (by rw [jS (by omega)];simp)
   ·rintro pre o r s he rfl
    have he':ops=r.reverse++o::pre.reverse:=by
     have:=congrArg List.reverse he
     simpa using this
    have ho:o∈ops:=by rw [he'];simp
    have hidx:idx ops ((o::r).length - 1:Int)=some o:=by
     have:=JO (pre:=r.reverse) (a:=o) (r:=pre.reverse)
     rw [he']
     simpa using this
    have hlen:=congrArg List.length he'
    simp only [List.length_append,List.length_reverse,List.length_cons] at hlen
    have h2:W.jE.c236869 o.2.1 some=some ((16 - o.2.1) % 16):=by
     have:=hk o ho
     simp only [W.jE.c236869,br_if]
     rw [jS (by omega)]
     split
     ·rename_i h;simp at h;congr 1;omega
     ·rename_i h;simp at h;congr 1;omega
    simp only [W.jE.c100006,br_if,hidx,jk,rcopyOp_ok o (hw o ho),h2]
    rw [if_pos (by simp),JG (by simp;omega),jS (by simp;omega)]
    exact .inl ⟨_,rfl,by simp [invOp]⟩
   ·rintro s rfl
    simp only [W.jE.c100006,br_if]
    rw [if_neg (by simp)]
    exact ⟨_,rfl,by simp⟩
  obtain ⟨r,hr,h'⟩:=key
  rw [hr]
  simp only [jk,h',hp,inv]
 ·rw [if_pos (by simp [h]),if_pos h]
def base (c:Cir) (n:Int):List Op:=if n < 0 then (inv c).2.2 else c.2.2
def power (c:Cir) (n:Int):Cir×Int×Int:=
 if (pur c).1≠0 then (nix,pur c) else if 4096 < n.natAbs*c.2.2.length then (nix,(2,0)) else ((c.1,c.2.1,(List.replicate n.natAbs (base c n)).flatten),(0,0))
theorem base_len (c:Cir) (n:Int):(base c n).length=c.2.2.length:=by unfold base;split <;> simp [inv]
theorem base_w {c:Cir} (hc:WCir c) (n:Int) : ∀ o∈base c n,WOp o:=by
 intro o ho
 unfold base at ho
 split at ho
 ·simp only [inv,List.mem_reverse,List.mem_map] at ho
  obtain ⟨o',h1,rfl⟩:=ho
  exact invOp_w (hc.2 o' h1)
 ·exact hc.2 o ho
theorem Uv (k:Nat) (l:List Op):(List.replicate k l).flatten.length=k*l.length:=by
 induction k with
 | zero=>simp
 | succ k ih=>simp [List.replicate_succ,Nat.succ_mul,Nat.add_comm,ih]
theorem flat_snoc (k:Nat) (l:List Op):(List.replicate k l).flatten++l=(List.replicate (k+1) l).flatten:=by
 rw [List.replicate_succ',List.flatten_append];simp
theorem mul_gt {s l:Nat} (hl:0 < l):4096 / l < s↔4096 < s*l:=by
 rw [Nat.div_lt_iff_lt_mul hl]
end Go.Ql
end
section
namespace Go.Ql
def thenF (a b:Cir):Int×Int:=
 if (chk a).1≠0 then chk a else if (chk b).1≠0 then chk b else if a.1≠b.1∨a.2.1≠b.2.1 then (16,0) else if 4096 < a.2.2.length+b.2.2.length then (2,0) else (0,0)
def thenC (a b:Cir):Cir×Int×Int:=if (thenF a b).1≠0 then (nix,thenF a b) else ((a.1,a.2.1,a.2.2++b.2.2),(0,0))
end Go.Ql
end
section
namespace Go.Ql
def dtx (n:Nat):List UInt8:=if n < 10 then [UInt8.ofNat (48+n)] else [UInt8.ofNat (48+n / 10),UInt8.ofNat (48+n % 10)]
def decI (n:Int):List UInt8:=dtx n.toNat
theorem VV (n:Nat):(dtx n).length≤2:=by unfold dtx;split <;> simp
set_option maxRecDepth 100000 in
theorem itoa_nat : ∀ n:Nat,n < 100→W.Jz (n:Int)=some (dtx n):=by decide +kernel
theorem itoa_ok {n:Int} (h:0≤n∧n < 100):W.Jz n=some (decI n):=by
 obtain ⟨k,rfl⟩:=Int.eq_ofNat_of_zero_le h.1
 exact itoa_nat k (by omega)
def ints (l:List UInt8):List Int:=l.map fun b=>(b.toNat:Int)
theorem ints_append (a b:List UInt8):ints (a++b)=ints a++ints b:=List.map_append
theorem kH (a:List UInt8):(ints a).length=a.length:=List.length_map ..
theorem kV (s:List UInt8) (t:List Int) (h:t.length+s.length≤140737488355328):W.jz s t=some ((s.length:Int),(),t++ints s,()):=by
 simp only [W.jz,W.Jc,jk]
 rw [JG (by simpa using h)]
 rfl
theorem writeByte_ok (c:Int) (t:List Int) (h:t.length+1≤140737488355328):W.jQ c t=some ((),t++[c],()):=by
 simp only [W.jQ,W.Jc,jk]
 rw [JG (by simpa using h)]
 rfl
def word (k:Int):List UInt8:=if k=1 then [112,104,97,115,101] else if k=2 then [120] else if k=3 then [104] else if k=4 then [112] else if k=5 then [109,101,97,115,117,114,101] else [114,101,115,101,116]
theorem word_len (k:Int):(word k).length≤7:=by
 unfold word
 repeat' split
 all_goals decide
theorem word_ok (k:Int):W.ke k=some (word k):=by
 simp only [W.ke,br_if,word,beq_iff_eq]
 repeat' split
 all_goals rfl
def sp (n:Int):List UInt8:=32::decI n
theorem UJ (n:Int):(sp n).length≤3:=by unfold sp decI;have:=VV n.toNat;simp;omega
def spv (v:Int):List UInt8:=if v < 0 then 32::33::decI (-v - 1) else sp (v - 1)
theorem spv_len (n:Int):(spv n).length≤4:=by
 unfold spv
 split
 ·unfold decI;have:=VV (-n - 1).toNat;simp only [List.length_cons];omega
 ·have:=UJ (n - 1);omega
theorem Vr {α:Type} (f:α→List UInt8) (k:Nat) (hf : ∀ a,(f a).length≤k) : ∀ l:List α,(l.flatMap f).length≤k*l.length
 | []=>by simp
 | a::l=>by
   have:=Vr f k hf l
   have:=hf a
   simp only [List.flatMap_cons,List.length_append,List.length_cons,Nat.mul_succ]
   omega
def lineT (o:Op):List UInt8:=
 word o.1++(if o.1=1∨o.1=4 then sp o.2.1 else [])++(if o.1≠1 then sp o.2.2.2.1 else [])++(if o.2.2.1≠[] then [32,111,110]++o.2.2.1.flatMap sp else [])
  ++ (if o.1=5 then [32,116,111]++sp o.2.2.2.2.1 else [])++(if o.2.2.2.2.2≠[] then [32,105,102]++o.2.2.2.2.2.flatMap spv else [])++[10]
theorem UP {p:Prop} [Decidable p] {a:List UInt8} {k:Nat} (h:a.length≤k):(if p then a else []).length≤k:=by
 split
 ·exact h
 ·exact Nat.zero_le _
theorem lineT_len (o:Op):(lineT o).length≤30+3*o.2.2.1.length+4*o.2.2.2.2.2.length:=by
 have h1:=word_len o.1
 have h2:=UP (p:=o.1=1∨o.1=4) (UJ o.2.1)
 have h3:=UP (p:=o.1≠1) (UJ o.2.2.2.1)
 have h4:=UP (p:=o.2.2.1≠[]) (a:=[32,111,110]++o.2.2.1.flatMap sp) (k:=3+3*o.2.2.1.length) (by have:=Vr sp 3 UJ o.2.2.1;simp only [List.length_append,List.length_cons,List.length_nil];omega)
 have h5:=UP (p:=o.1=5) (a:=[32,116,111]++sp o.2.2.2.2.1) (k:=6) (by have:=UJ o.2.2.2.2.1;simp;omega)
 have h6:=UP (p:=o.2.2.2.2.2≠[]) (a:=[32,105,102]++o.2.2.2.2.2.flatMap spv) (k:=3+4*o.2.2.2.2.2.length) (by have:=Vr spv 4 spv_len o.2.2.2.2.2;simp only [List.length_append,List.length_cons,List.length_nil];omega)
 unfold lineT
 simp only [List.length_append,List.length_cons,List.length_nil]
 omega
theorem nodup_len : ∀ (n:Nat) {l:List Int},l.Nodup→(∀ x∈l,0≤x∧x < n)→l.length≤n
 | 0,l,_,h=>by
   cases l with
   | nil=>exact Nat.le_refl 0
   | cons a l=>have:=h a (by simp);omega
 | n+1,l,hd,h=>by
   by_cases hm:(n:Int)∈l
   ·have h1:=nodup_len n (l:=l.erase n) (hd.erase _) (fun x hx=>by
     have hx':=List.mem_of_mem_erase hx
     have h2:=h x hx'
     have h3:x≠n:=fun e=>by subst e;exact (List.Nodup.not_mem_erase hd) hx
     omega)
    rw [List.length_erase_of_mem hm] at h1
    omega
   ·have:=nodup_len n hd (fun x hx=>by
     have h2:=h x hx
     have h3:x≠n:=fun e=>hm (e ▸ hx)
     omega)
    omega
theorem GoodOp.len {o:Op} {qn bn:Int} (h:GoodOp o qn bn) (hq:qn≤12):(lineT o).length≤200∧o.2.2.1.length≤12:=by
 have h1:=(ctlBad_zero.1 h.ctls)
 have h2:=nodup_len 12 h1.2 (fun x hx=>by have:=h1.1 x hx;omega)
 have h3:=lineT_len o
 have h4:=h.ifs
 exact ⟨by omega,h2⟩
theorem Uw (ns:List Int) (t:List Int) (hn : ∀ n∈ns,0≤n∧n < 100) (hl:ns.length≤1000) (ht:t.length≤100000000):W.jK ns t=some (t++ints (ns.flatMap sp),()):=by
 have h : ∃ r,iter (fun s:Int×List Int↦W.jK.c100001 ns (ns.length:Int) s.1 s.2 some) ((0:Int),t)=some r∧r.2=t++ints (ns.flatMap sp):=by
  refine Jy (l:=ns) (fun pre r s=>s=((pre.length:Int),t++ints (pre.flatMap sp))) _ ?_ ?_ (by simp [ints])
  ·rintro pre a r s rfl rfl
   have hp:=Vr sp 3 UJ pre
   have ha:=VV a.toNat
   simp only [List.length_append,List.length_cons] at hl
   have h3:W.jK.c3 a (t++ints (pre.flatMap sp)) some=some (t++ints ((pre++[a]).flatMap sp)):=by
    simp only [W.jK.c3,itoa_ok (hn a (by simp)),jk]
    rw [JG (by simp [decI];omega),jk,kV _ _ (by try simp only [List.length_append,List.length_cons,List.length_nil,kH,decI];omega)]
    simp [jk,sp,ints]
   simp only [W.jK.c100001,br_if,JO,jk,h3]
   rw [if_pos kf,jS (by omega)]
   exact .inl ⟨_,rfl,by simp⟩
  ·rintro s rfl
   simp only [W.jK.c100001,br_if]
   rw [if_neg (by simp)]
   exact ⟨_,rfl,rfl⟩
 obtain ⟨r,hr,h⟩:=h
 simp only [W.jK,hr,jk,h]
theorem ifBad_not {bn:Int} {l:List Int} (h : ¬ ifBad bn l) : ∀ v∈l,v≠0∧v≤bn ∧ -bn≤v:=by
 intro v hv
 have : ¬ (v=0∨bn < v∨v < -bn):=fun hb=>h ⟨v,hv,hb⟩
 omega
theorem line_ok (o:Op) (qn bn:Int) (t:List Int) (h:GoodOp o qn bn) (hq:qn≤12) (hb:bn≤12) (ht:t.length≤10000000):W.jg o t=some (t++ints (lineT o),()):=by
 have hlen:=h.len hq
 have hll:=lineT_len o
 obtain ⟨k,a,ctl,q,bit,cond⟩:=o
 obtain ⟨h1,h2,h3,h4,h5,h6,h7,h8,h9,h10⟩:=h
 simp only at h1 h2 h3 h4 h5 h6 h7 h8 h9 h10 hlen hll
 have hctl:=(ctlBad_zero.1 h7).1
 have hcond:=ifBad_not h10
 have c2:W.jg.c2 k t some=some (t++ints (word k)):=by
  have:=word_len k
  simp only [W.jg.c2,word_ok,jk]
  rw [kV _ _ (by omega)]
  rfl
 have c12 : ∀ t:List Int,t.length≤20000000→W.jg.c212293 k a t some=some (t++ints (if k=1∨k=4 then sp a else [])):=by
  intro t ht
  simp only [W.jg.c212293,turns_ok,jk]
  by_cases hk:k=1∨k=4
  ·rw [UO hk,Uw [a] t (by simpa using ⟨h2.1,by omega⟩) (by simp) (by omega),if_pos hk]
   simp [jk]
  ·rw [UN hk,if_neg hk]
   simp [ints]
 have c20 : ∀ t:List Int,t.length≤20000000→W.jg.c220485 k q t some=some (t++ints (if k≠1 then sp q else [])):=by
  intro t ht
  simp only [W.jg.c220485]
  by_cases hk:k≠1
  ·rw [YG (by simpa using hk),Uw [q] t (by simpa using ⟨h4.1,by omega⟩) (by simp) (by omega),if_pos hk]
   simp [jk]
  ·rw [Ys (by simpa using hk),if_neg hk]
   simp [ints]
 have c28 : ∀ t:List Int,t.length≤20000000→W.jg.c228679 ctl t some=some (t++ints (if ctl≠[] then [32,111,110]++ctl.flatMap sp else [])):=by
  intro t ht
  simp only [W.jg.c228679]
  by_cases hk:ctl≠[]
  ·rw [YG (by cases ctl <;> simp_all),kV _ _ (by try simp only [List.length_append,List.length_cons,List.length_nil,kH,decI];omega),jk,Uw ctl _ (fun n hn=>by have:=hctl n hn;omega) (by omega) (by try simp only [List.length_append,List.length_cons,List.length_nil,kH,decI];omega),if_pos hk]
   simp [jk,ints]
  ·rw [Ys (by cases ctl <;> simp_all),if_neg hk]
   simp [ints]
 have c40 : ∀ t:List Int,t.length≤20000000→W.jg.c240967 k bit t some=some (t++ints (if k=5 then [32,116,111]++sp bit else [])):=by
  intro t ht
  simp only [W.jg.c240967]
  by_cases hk:k=5
  ·rw [YG (by simpa using hk),kV _ _ (by try simp only [List.length_append,List.length_cons,List.length_nil,kH,decI];omega),jk,Uw [bit] _ (by simp;omega) (by simp) (by try simp only [List.length_append,List.length_cons,List.length_nil,kH,decI];omega),if_pos hk]
   simp [jk,ints]
  ·rw [Ys (by simpa using hk),if_neg hk]
   simp [ints]
 have c53 : ∀ t:List Int,t.length≤20000000→W.jg.c253274 cond t some=some (t++ints (if cond≠[] then [32,105,102]++cond.flatMap spv else [])):=by
  intro t ht
  simp only [W.jg.c253274]
  by_cases hk:cond≠[]
  ·rw [YG (by cases cond <;> simp_all),kV _ _ (by try simp only [List.length_append,List.length_cons,List.length_nil,kH,decI];omega),jk,if_pos hk]
   have h : ∃ r,iter (fun s:Int×List Int↦W.jg.c100016 cond (cond.length:Int) s.1 s.2 some) ((0:Int),t++ints [32,105,102])=some r∧r.2=t++ints [32,105,102]++ints (cond.flatMap spv):=by
    refine Jy (l:=cond) (fun pre r s=>s=((pre.length:Int),t++ints [32,105,102]++ints (pre.flatMap spv))) _ ?_ ?_ (by simp [ints])
    ·rintro pre v r s rfl rfl
     have hp:=Vr spv 4 spv_len pre
     simp only [List.length_append,List.length_cons] at h9
     have hv:=hcond v (by simp)
     have ha:=VV (-v - 1).toNat
     have h3:W.jg.c269640 (pre++v::r) (pre.length:Int) (t++ints [32,105,102]++ints (pre.flatMap spv)) some=some (t++ints [32,105,102]++ints ((pre++[v]).flatMap spv)):=by
      simp only [W.jg.c269640,JO,jk]
      by_cases hv0:v < 0
      ·rw [UO hv0]
       simp only [W.jg.c19]
       rw [jS (x:=0 - v) (by omega),jS (by omega),itoa_ok (by omega),jk,JG (by unfold decI;have:=VV (0 - v - 1).toNat;rw [decide_eq_true_eq];show 2+_≤_;omega),jk,kV _ _ (by have:=VV (0 - v - 1).toNat;try simp only [List.length_append,List.length_cons,List.length_nil,kH,decI];omega)]
       simp [jk,spv,hv0,ints]
      ·rw [UN hv0,jS (by omega),Uw [v - 1] _ (by simp;omega) (by simp) (by try simp only [List.length_append,List.length_cons,List.length_nil,kH,decI];omega)]
       simp [jk,spv,hv0,ints]
     simp only [W.jg.c100016,br_if,jk,h3]
     rw [if_pos kf,jS (by omega)]
     exact .inl ⟨_,rfl,by simp⟩
    ·rintro s rfl
     simp only [W.jg.c100016,br_if]
     rw [if_neg (by simp)]
     exact ⟨_,rfl,rfl⟩
   obtain ⟨r,hr,h⟩:=h
   show bnd (iter (fun s:Int×List Int↦W.jg.c100016 cond (cond.length:Int) s.1 s.2 some) ((0:Int),t++ints [32,105,102])) _=_
   rw [hr,jk,h,ints_append,List.append_assoc]
  ·rw [Ys (by cases cond <;> simp_all),if_neg hk]
   simp [ints]
 simp only [lineT,List.length_append,List.length_cons,List.length_nil] at hlen
 simp only [W.jg,c2,jk]
 rw [c12 _ (by try simp only [List.length_append,List.length_cons,List.length_nil,kH,decI];omega),jk,c20 _ (by try simp only [List.length_append,List.length_cons,List.length_nil,kH,decI];omega),jk,c28 _ (by try simp only [List.length_append,List.length_cons,List.length_nil,kH,decI];omega),jk,c40 _ (by try simp only [List.length_append,List.length_cons,List.length_nil,kH,decI];omega),jk,c53 _ (by try simp only [List.length_append,List.length_cons,List.length_nil,kH,decI];omega),jk]
 rw [writeByte_ok _ _ (by try simp only [List.length_append,List.length_cons,List.length_nil,kH,decI];omega)]
 simp [jk,lineT,ints]
end Go.Ql
end
section
namespace Go.Ql
def headT (q b:Int):List UInt8:=[113,117,98,105,116,115,32]++decI q++[32,98,105,116,115,32]++decI b++[10]
def printT (c:Cir):List UInt8:=headT c.1 c.2.1++c.2.2.flatMap lineT
theorem ints_back (l:List UInt8):(ints l).map (fun n=>UInt8.ofNat n.toNat)=l:=by
 unfold ints
 rw [List.map_map]
 conv=>rhs;rw [← List.map_id l]
 apply List.map_congr_left
 intro b _
 simp
theorem string_ok (l:List UInt8) (h:l≠[]):W.Ju (ints l)=some (l,()):=by
 unfold W.Ju
 have h1:(!List.isEmpty (ints l) && List.all (ints l) (fun n=>decide (0≤n) && decide (n < 256)))=true:=by
  rw [Bool.and_eq_true]
  refine ⟨by cases l <;> simp_all [ints],?_⟩
  rw [List.all_eq_true]
  intro n hn
  obtain ⟨b,_,rfl⟩:=List.mem_map.1 hn
  have:=b.toNat_lt
  simp only [Bool.and_eq_true,decide_eq_true_eq]
  omega
 rw [h1,ints_back]
 rfl
theorem decI_len (n:Int):(decI n).length≤2:=VV _
theorem print_ok (c:Cir) (hc:WCir c):W.jJ c=some (if (chk c).1≠0 then ([],chk c) else (printT c,(0,0))):=by
 simp only [W.jJ,W.jJ.c3,WCir.eta,Uu c hc,jk]
 by_cases h1:(chk c).1=0
 ·obtain ⟨hg,hz⟩:=kQ h1
  rw [Ys (by simp [h1]),if_neg (by simp [h1])]
  obtain ⟨q,b,ops⟩:=c
  have hq:=hg.q
  have hb:=hg.b
  have hn:=hg.n
  have hops:=hg.ops
  simp only at hq hb hn hops
  have l1:=decI_len q
  have l2:=decI_len b
  have c5:W.jJ.c5 q b [] some=some (ints (headT q b)):=by
   simp only [W.jJ.c5]
   rw [itoa_ok (by omega),jk,JG (by rw [decide_eq_true_eq];show 7+_≤_;omega),jk]
   rw [JG (by rw [decide_eq_true_eq,List.length_append];show 7+_+6≤_;omega),jk,itoa_ok (by omega),jk]
   rw [JG (by rw [decide_eq_true_eq,List.length_append,List.length_append];show 7+_+6+_≤_;omega),jk]
   rw [JG (by rw [decide_eq_true_eq,List.length_append,List.length_append,List.length_append];show 7+_+6+_+1≤_;omega),jk]
   rw [kV _ _ (by
    show 0+_≤_
    rw [List.length_append,List.length_append,List.length_append,List.length_append]
    show 0+(7+_+6+_+1)≤_;omega)]
   rfl
  have key : ∃ r,iter (fun s:Int×List Int↦W.jJ.c100007 ops (ops.length:Int) s.1 s.2 some) ((0:Int),ints (headT q b))=some r∧r.2=ints (printT (q,b,ops)):=by
   refine Jy (l:=ops) (fun pre r s=>s=((pre.length:Int),ints (headT q b++pre.flatMap lineT))∧(pre.flatMap lineT).length≤200*pre.length) _ ?_ ?_ (by simp)
   ·rintro pre o r s rfl ⟨rfl,hl⟩
    simp only [List.length_append,List.length_cons] at hn
    have ho:=YJ (hops o (by simp))
    have hlo:=(ho.len hq.2).1
    simp only [W.jJ.c100007,br_if,JO,jk,WOp.eta]
    rw [if_pos kf,line_ok o q b _ ho hq.2 hb.2 (by rw [kH,List.length_append];have:(headT q b).length≤20:=by (unfold headT;simp only [List.length_append,List.length_cons,List.length_nil];omega)
                                                   omega),jS (by omega)]
    refine .inl ⟨_,rfl,?_,?_⟩
    ·simp only [jk,← ints_append,List.append_assoc]
     simp
    ·simp only [List.flatMap_append,List.length_append,List.flatMap_cons,List.flatMap_nil,List.append_nil,List.length_cons,List.length_nil]
     omega
   ·rintro s ⟨rfl,hl⟩
    simp only [W.jJ.c100007,br_if]
    rw [if_neg (by simp)]
    exact ⟨_,rfl,rfl⟩
  obtain ⟨r,hr,h⟩:=key
  rw [c5]
  simp only [jk]
  rw [hr,jk,h,string_ok _ (by unfold printT headT;simp)]
  rfl
 ·rw [YG (by simp [h1]),if_pos h1]
abbrev smallC:Cir:=(2,1,[(3,0,[],0,0,[]),(2,0,[0],1,0,[]),(5,0,[],1,0,[-1])])
theorem small_w:WCir smallC:=⟨by decide,by
 intro o ho
 simp only [smallC,List.mem_cons,List.mem_nil_iff,or_false] at ho
 rcases ho with rfl | rfl | rfl <;> exact ⟨by decide,by decide⟩⟩
theorem small_chk:chk smallC=(0,0):=by decide +kernel
theorem begun_ok:W.jY=some true:=by
 have h1:W.ki=some smallC:=rfl
 simp only [W.jY,h1,jk,print_ok _ small_w,small_chk]
 decide +kernel
theorem power_w {c:Cir} (hc:WCir c) (n:Int):WCir (power c n).1:=by
 unfold power
 split
 ·exact ⟨Nat.zero_le _,fun o h=>by cases h⟩
 ·split
  ·exact ⟨Nat.zero_le _,fun o h=>by cases h⟩
  ·rename_i h2
   refine ⟨?_,fun o ho => ?_⟩
   ·show (List.replicate n.natAbs (base c n)).flatten.length≤_
    rw [Uv,base_len]
    omega
   ·simp only [List.mem_flatten,List.mem_replicate] at ho
    obtain ⟨l,⟨_,rfl⟩,ho⟩:=ho
    exact base_w hc n o ho
theorem then_w {a b:Cir} (ha:WCir a) (hb:WCir b):WCir (thenC a b).1:=by
 unfold thenC
 split
 ·exact ⟨Nat.zero_le _,fun o h=>by cases h⟩
 ·rename_i h
  refine ⟨?_,fun o ho => ?_⟩
  ·show (a.2.2++b.2.2).length≤_
   rw [List.length_append]
   simp only [ne_eq,Decidable.not_not] at h
   unfold thenF at h
   by_cases h1:(chk a).1=0
   ·by_cases h2:(chk b).1=0
    ·have:=(kQ h1).1.n
     have:=(kQ h2).1.n
     omega
    ·rw [if_neg (by simp [h1]),if_pos h2] at h;exact absurd h h2
   ·rw [if_pos h1] at h;exact absurd h h1
  ·rcases List.mem_append.1 ho with ho | ho
   ·exact ha.2 o ho
   ·exact hb.2 o ho
end Go.Ql
end
section
namespace Go.Ql
abbrev opTy:Ty:=.st (.pair (.int .i64) (.pair (.int .i64) (.pair (.sl (.int .i64)) (.pair (.int .i64) (.pair (.int .i64) (.sl (.int .i64)))))))
abbrev cirTy:Ty:=.st (.pair (.int .i64) (.pair (.int .i64) (.sl opTy)))
theorem op_bytes:opTy.bytes=80:=by decide
theorem int_bytes:(Ty.int .i64).bytes=8:=by decide
theorem wcir_of {c:Cir} (h:Wf cirTy c):WCir c:=by
 obtain ⟨_,_,h1,_,h2⟩:=h
 refine ⟨?_,fun o ho => ?_⟩
 ·rw [op_bytes] at h1
  have:c.2.2.length*80≤140737488351232:=h1
  omega
 ·obtain ⟨_,_,⟨h3,_⟩,_,_,h4,_⟩:=h2 o ho
  rw [int_bytes] at h3 h4
  have h3:o.2.2.1.length*8≤140737488351232:=h3
  have h4:o.2.2.2.2.2.length*8≤140737488351232:=h4
  exact ⟨by omega,by omega⟩
end Go.Ql
end
section
namespace Go.Ql
theorem contains_ok (l:List Int) (x:Int) (hl:l.length≤17592186043904):W.Jq l x=some (decide (x∈l)):=by
 have key : ∃ r,iter (fun s:Int↦W.jN.c100002 l x (l.length:Int) s some) (0:Int)=some r∧((∃ u,r = .inl u∧0≤u.1∧x∈l) ∨ ∃ u,r = .inr u∧x∉l):=by
  refine Jy (l:=l) (fun pre r s=>s=(pre.length:Int)∧x∉pre) _ ?_ ?_ ⟨rfl,by simp⟩
  ·rintro pre a r s rfl ⟨rfl,h⟩
   simp only [List.length_append,List.length_cons] at hl
   simp only [W.jN.c100002,br_if,JO,jk]
   rw [if_pos kf]
   by_cases e:x=a
   ·subst e
    rw [if_pos (by simp)]
    exact .inr ⟨_,rfl,.inl ⟨_,rfl,by simp,by simp⟩⟩
   ·rw [if_neg (by simpa using e),jS (by omega)]
    exact .inl ⟨_,rfl,by simp,by simp [h,e]⟩
  ·rintro s ⟨rfl,h⟩
   simp only [W.jN.c100002,br_if]
   rw [if_neg (by simp)]
   exact ⟨_,rfl,.inr ⟨_,rfl,h⟩⟩
 obtain ⟨r,hr,h⟩:=key
 simp only [W.Jq,W.jN,hr,jk]
 rcases h with ⟨u,rfl,h1,h2⟩ | ⟨u,rfl,h1⟩
 ·simp only [kU,jk]
  exact JF (by simp [h2];omega)
 ·simp only [kJ,jk]
  exact JF (by simp [h1])
end Go.Ql
end
section
namespace Go.Ql
def goQ (to:List Int) (q:Int):Int:=to.getD q.toNat 0
theorem idx_go {to:List Int} {q:Int} (h:0≤q∧q < (to.length:Int)):idx to q=some (goQ to q):=by
 rw [idx_int h.1 h.2,goQ,List.getD_eq_getElem?_getD,List.getElem?_eq_getElem (by omega)]
 rfl
def mvO (to:List Int) (o:Op):Op:=(o.1,o.2.1,o.2.2.1.map (goQ to),if o.1≠1 then goQ to o.2.2.2.1 else o.2.2.2.1,o.2.2.2.2.1,o.2.2.2.2.2)
def ku (n:Int):List Int→List Int→Int×Int
 | _,[]=>(0,0)
 | pre,x::r=>if x < 0∨n≤x∨x∈pre then (17,pre.length) else ku n (pre++[x]) r
def moveF (c:Cir) (to:List Int) (n:Int):Int×Int:=
 if (chk c).1≠0 then chk c else if n < 1∨12 < n then (6,0) else if (to.length:Int)≠c.1 then (17,0) else ku n [] to
def moved (c:Cir) (to:List Int) (n:Int):Cir×Int×Int:=
 if (moveF c to n).1≠0 then (nix,moveF c to n) else ((n,c.2.1,c.2.2.map (mvO to)),(0,0))
theorem mapBad_zero {n:Int} : ∀ {l pre:List Int},(ku n pre l).1=0→ku n pre l=(0,0)
 | [],_,_=>rfl
 | o::r,pre,h=>by
   rw [ku] at h ⊢
   split at h
   ·cases h
   ·rename_i h1;rw [if_neg h1];exact mapBad_zero h
theorem moveF_zero {c:Cir} {to:List Int} {n:Int} (h:(moveF c to n).1=0):(chk c).1=0∧1≤n∧n≤12∧(to.length:Int)=c.1∧moveF c to n=(0,0):=by
 unfold moveF at h ⊢
 by_cases h1:(chk c).1=0
 ·rw [if_neg (by simp [h1])] at h ⊢
  by_cases h2:n < 1∨12 < n
  ·rw [if_pos h2] at h;cases h
  ·rw [if_neg h2] at h ⊢
   by_cases h3:(to.length:Int)=c.1
   ·rw [if_neg (by simp [h3])] at h ⊢
    exact ⟨h1,by omega,by omega,h3,mapBad_zero h⟩
   ·rw [if_pos h3] at h;cases h
 ·rw [if_pos h1] at h;exact absurd h h1
theorem Yt {α:Type} {pre:List α} {a:α} {r:List α} {n:Nat} (h:pre.length=n):idx (pre++a::r) (n:Int)=some a:=by rw [← h];exact JO
theorem Yu {α:Type} {pre:List α} {a:α} {r:List α} {n:Nat} (h:pre.length=n):inR (pre++a::r).length (n:Int)=some ():=VL (by simp;omega)
theorem YW {α:Type} {pre:List α} {a b:α} {r:List α} {n:Nat} (h:pre.length=n):(pre++a::r).set ((n:Int)).toNat b=(pre++[b])++r:=by
 subst h;simp
structure QOp (o:Op) (m:Nat):Prop where
 q:0≤o.2.2.2.1∧o.2.2.2.1 < (m:Int)
 c : ∀ x∈o.2.2.1,0≤x∧x < (m:Int)
theorem qop_of {o:Op} {qn bn:Int} {m:Nat} (h:GoodOp o qn bn) (hm:(m:Int)=qn):QOp o m:=
 ⟨by have:=h.q;omega,fun x hx=>by have:=(ctlBad_zero.1 h.ctls).1 x hx;omega⟩
end Go.Ql
end
section
namespace Go.Ql
theorem rcopyIntsOwn_ok (l:List Int) (hl:l.length≤17592186043904):W.jM l=some (l,()):=by
 have h : ∃ r,iter (fun s:Int×List Int↦W.jM.c100003 l s.1 s.2 some) ((0:Int),[])=some r∧r.2=l:=by
  refine Jy (l:=l) (fun pre r s=>s=((pre.length:Int),pre)) _ ?_ ?_ rfl
  ·rintro pre a r s rfl rfl
   simp only [List.length_append,List.length_cons] at hl
   simp only [W.jM.c100003,br_if,JO,jk]
   rw [if_pos kf,JG (by simp;omega),jS (by omega)]
   exact .inl ⟨_,rfl,by simp⟩
  ·rintro s rfl
   simp only [W.jM.c100003,br_if]
   rw [if_neg (by simp)]
   exact ⟨_,rfl,rfl⟩
 obtain ⟨r,hr,h⟩:=h
 simp only [W.jM,hr,jk,h]
theorem rcopyOpOwn_ok (o:Op) (ho:WOp o):W.Jg o=some (o.1,o.2.1,o.2.2.2.1,o.2.2.2.2.1,o.2.2.1,o.2.2.2.2.2,()):=by
 simp only [W.Jg,rcopyIntsOwn_ok _ ho.1,rcopyIntsOwn_ok _ ho.2,jk]
theorem copyDeep_ok (c:Cir) (hc:WCir c):W.js c=some (c.1,c.2.1,c.2.2,()):=by
 obtain ⟨qn,bn,ops⟩:=c
 obtain ⟨hl,hw⟩:=hc
 simp only at hl hw
 have h : ∃ r,iter (fun s:Int×List Op↦W.js.c100003 s.1 ops s.2 some) ((0:Int),[])=some r∧r.2=ops:=by
  refine Jy (l:=ops) (fun pre r s=>s=((pre.length:Int),pre)) _ ?_ ?_ rfl
  ·rintro pre a r s rfl rfl
   simp only [List.length_append,List.length_cons] at hl
   simp only [W.js.c100003,W.js.c5,br_if,JO,jk,rcopyOpOwn_ok a (hw a (by simp))]
   rw [if_pos kf,JG (by simp;omega),jS (by omega)]
   exact .inl ⟨_,rfl,by simp⟩
  ·rintro s rfl
   simp only [W.js.c100003,br_if]
   rw [if_neg (by simp)]
   exact ⟨_,rfl,rfl⟩
 obtain ⟨r,hr,h⟩:=h
 simp only [W.js,hr,jk,h]
theorem moved_w (c:Cir) (to:List Int) (n:Int) (hc:WCir c):WCir (moved c to n).1:=by
 unfold moved
 split
 ·exact ⟨by simp,by intro o ho;cases ho⟩
 ·refine ⟨by simpa using hc.1,fun o ho => ?_⟩
  simp only [List.mem_map] at ho
  obtain ⟨o,ho,rfl⟩:=ho
  have hw:=hc.2 o ho
  exact ⟨by simpa [mvO] using hw.1,hw.2⟩
theorem inverse_w (c:Cir) (hc:WCir c):WCir (JZ c).1:=by
 unfold JZ
 split
 ·exact ⟨by simp,by intro o ho;cases ho⟩
 ·refine ⟨by simpa [inv] using hc.1,fun o ho => ?_⟩
  simp only [inv,List.mem_reverse,List.mem_map] at ho
  obtain ⟨o,ho,rfl⟩:=ho
  exact hc.2 o ho
end Go.Ql
end
end
