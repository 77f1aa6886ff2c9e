/- Plain laws: loops; circuits checked, copied, undone, written. -/
import Derived.Test.YtcndclcpmelgoaaDoorLgT
import Derived.IntWalk
import Derived.Test.YtcndclcpmelgoaaDoorWbT
import Derived.Test.YtcndclcpmelgoaaDoorGaT
set_option linter.all false
section
namespace Go.Ql
section
variable {S R:Type} {f:S→Option (S⊕R)}
theorem Vb {s:S} {r:R} (h:f s=some (.inr r)):iter f s=some r:=iter_of (n:=1) (by simp [iterN,h])
theorem iter_inl {s s':S} {r:R} (h:f s=some (.inl s')) (h':iter f s'=some r):iter f s=some r:=by
 obtain ⟨n,hn⟩:=Vi h'
 exact iter_of (n:=n+1) (by simp [iterN,h,hn])
end
theorem jh {α β:Type} {x:α} {k:α→Option β}:bnd (some x) k=k x:=rfl
theorem Vx {α:Type} {x y:α} {b:Bool} (h:b=true):br b x y=x:=by rw [h];rfl
theorem YY {α:Type} {x y:α} {b:Bool} (h:b=false):br b x y=y:=by rw [h];rfl
theorem br_pos {α:Type} {x y:α} {p:Prop} [Decidable p] (h:p):br (decide p) x y=x:=Vx (decide_eq_true h)
theorem br_neg {α:Type} {x y:α} {p:Prop} [Decidable p] (h : ¬ p):br (decide p) x y=y:=YY (decide_eq_false h)
theorem Jw {b:Bool} (h:b=true):okIf b=some ():=by rw [h];rfl
theorem inR_of {n:Nat} {i:Int} (h0:0≤i) (h:i < (n:Int)):inR n i=some ():=by
 unfold inR
 simp [h0,h]
theorem Jh {x:Int} (h : -9223372036854775808≤x∧x≤9223372036854775807):IntKind.i64.wrap x=x:=IntWalk.i64_in _ (by omega)
def val (B:Int):List Int→Int
 | []=>0
 | d::l=>d+B*val B l
def Dig (B:Int) (l:List Int):Prop:=∀ d∈l,0≤d∧d < B
theorem Dig.nil {B:Int}:Dig B []:=fun _ h=>by cases h
theorem Dig.cons {B d:Int} {l:List Int} (h:0≤d∧d < B) (hl:Dig B l):Dig B (d::l):=fun x hx=>by
 rcases List.mem_cons.1 hx with rfl | hx
 ·exact h
 ·exact hl x hx
theorem Dig.append {B:Int} {l m:List Int} (hl:Dig B l) (hm:Dig B m):Dig B (l++m):=fun x hx=>by
 rcases List.mem_append.1 hx with hx | hx
 ·exact hl x hx
 ·exact hm x hx
theorem Dig.head {B d:Int} {l:List Int} (h:Dig B (d::l)):0≤d∧d < B:=h d (List.mem_cons_self ..)
theorem Dig.tail {B d:Int} {l:List Int} (h:Dig B (d::l)):Dig B l:=fun x hx=>h x (List.mem_cons_of_mem _ hx)
theorem Dig.take {B:Int} {l:List Int} (h:Dig B l) (n:Nat):Dig B (l.take n):=fun x hx=>h x (List.mem_of_mem_take hx)
theorem Dig.drop {B:Int} {l:List Int} (h:Dig B l) (n:Nat):Dig B (l.drop n):=fun x hx=>h x (List.mem_of_mem_drop hx)
theorem Dig.getD {B:Int} {l:List Int} (hB:0 < B) (h:Dig B l) (i:Nat):0≤l.getD i 0∧l.getD i 0 < B:=by
 by_cases hi:i < l.length
 ·simp only [List.getD,List.getElem?_eq_getElem hi,Option.getD_some]
  exact h _ (List.getElem_mem hi)
 ·rw [List.getD,List.getElem?_eq_none (by omega:l.length≤i),Option.getD_none]
  omega
theorem Dig.set {B x:Int} {l:List Int} (h:Dig B l) (hx:0≤x∧x < B) (i:Nat):Dig B (l.set i x):=fun y hy=>by
 rcases List.mem_or_eq_of_mem_set hy with hy | rfl
 ·exact h y hy
 ·exact hx
theorem Dig.replicate {B:Int} (hB:0 < B) (n:Nat):Dig B (List.replicate n 0):=fun x hx=>by
 rw [(List.mem_replicate.1 hx).2];omega
end Go.Ql
end

section
section
namespace Go.Ql
section
variable {A S R:Type} {f:S→Option (S⊕R)}
theorem Jv {l:List A} (P:List A→List A→S→Prop) (Q:R→Prop)
 (step : ∀ pre a r s,l=pre++a::r→P pre (a::r) s→(∃ s',f s=some (.inl s')∧P (pre++[a]) r s')∨(∃ x,f s=some (.inr x)∧Q x))
 (done : ∀ s,P l [] s → ∃ x,f s=some (.inr x)∧Q x) {s:S} (h:P [] l s) : ∃ x,iter f s=some x∧Q x:=by
 have key : ∀ (r pre:List A) (s:S),l=pre++r→P pre r s → ∃ x,iter f s=some x∧Q x:=by
  intro r
  induction r with
  | nil=>
    intro pre s hl hp
    rw [List.append_nil] at hl
    subst hl
    obtain ⟨x,h1,h2⟩:=done s hp
    exact ⟨x,Vb h1,h2⟩
  | cons a r ih=>
    intro pre s hl hp
    rcases step pre a r s hl hp with ⟨s',h1,h2⟩ | ⟨x,h1,h2⟩
    ·obtain ⟨x,h3,h4⟩:=ih (pre++[a]) s' (by simp [hl]) h2
     exact ⟨x,iter_inl h1 h3,h4⟩
    ·exact ⟨x,Vb h1,h2⟩
 exact key l [] s rfl h
theorem iter_upto (n:Nat) (P:Nat→S→Prop) (Q:R→Prop)
 (step : ∀ i s,i < n→P i s→(∃ s',f s=some (.inl s')∧P (i+1) s')∨(∃ x,f s=some (.inr x)∧Q x))
 (done : ∀ s,P n s → ∃ x,f s=some (.inr x)∧Q x) {s:S} (h:P 0 s) : ∃ x,iter f s=some x∧Q x:=by
 have key : ∀ (k i:Nat) (s:S),i+k=n→P i s → ∃ x,iter f s=some x∧Q x:=by
  intro k
  induction k with
  | zero=>
    intro i s hi hp
    have:i=n:=by omega
    subst this
    obtain ⟨x,h1,h2⟩:=done s hp
    exact ⟨x,Vb h1,h2⟩
  | succ k ih=>
    intro i s hi hp
    rcases step i s (by omega) hp with ⟨s',h1,h2⟩ | ⟨x,h1,h2⟩
    ·obtain ⟨x,h3,h4⟩:=ih (i+1) s' (by omega) h2
     exact ⟨x,iter_inl h1 h3,h4⟩
    ·exact ⟨x,Vb h1,h2⟩
 exact key n 0 s (by omega) h
end
theorem br_if {α:Type} {x y:α} {b:Bool}:br b x y=if b=true then x else y:=by cases b <;> rfl
theorem kl {α β γ:Type} {x:α} {f:α→γ} {g:β→γ}:sel (.inl x) f g=f x:=rfl
theorem ky {α β γ:Type} {x:β} {f:α→γ} {g:β→γ}:sel (.inr x) f g=g x:=rfl
theorem JK {α:Type} {pre:List α} {a:α} {r:List α}:idx (pre++a::r) (pre.length:Int)=some a:=by
 unfold idx
 simp
theorem Un {α:Type} {l:List α} {i:Nat}:idx l (i:Int)=l[i]?:=by
 unfold idx
 simp
theorem Uo {α:Type} {l:List α} {i:Nat} (h:i < l.length):idx l (i:Int)=some l[i]:=by
 rw [Un,List.getElem?_eq_getElem h]
theorem idx_int {α:Type} {l:List α} {i:Int} (h0:0≤i) (h:i < (l.length:Int)):idx l i=some (l[i.toNat]'(by omega)):=by
 obtain ⟨n,rfl⟩:=Int.eq_ofNat_of_zero_le h0
 rw [Uo (by omega)]
 simp
theorem Uq {n:Nat} {i:Nat} (h:i < n):inR n (i:Int)=some ():=inR_of (by omega) (by omega)
theorem br_or {b c:Bool}:br b (some true) (some c)=some (b || c):=by cases b <;> rfl
theorem Yy {b c:Bool}:br b (some c) (some false)=some (b && c):=by cases b <;> rfl
theorem Jq {b:Bool} {P:Prop} [Decidable P] (h:b=true↔P):some b=some (decide P):=by
 congr 1
 rw [Bool.eq_iff_iff,h]
 simp
theorem br_tt {α:Type} {x y:α}:br true x y=x:=rfl
theorem br_ff {α:Type} {x y:α}:br false x y=y:=rfl
theorem JY {α:Type} {pre:List α} {a:α} {r:List α}:decide ((pre.length:Int) < ((pre++a::r).length:Int))=true:=by
 simp only [List.length_append,List.length_cons,decide_eq_true_eq];omega
theorem both_self {α:Type} {x:Option α}:both x x=x:=by simp [both]
end Go.Ql
end
section
namespace Go.Ql
abbrev Op:=Int×Int×List Int×Int×Int×List Int
abbrev Cir:=Int×Int×List Op
def WOp (o:Op):Prop:=o.2.2.1.length≤17592186043904∧o.2.2.2.2.2.length≤17592186043904
def WCir (c:Cir):Prop:=c.2.2.length≤1759218604390 ∧ ∀ o∈c.2.2,WOp o
def JI (q0 qn:Int):List Int→List Int→Int
 | _,[]=>0
 | pre,q::r=>if q < 0∨qn≤q then 10 else if q=q0∨q∈pre then 12 else JI q0 qn (pre++[q]) r
def ifBad (bn:Int) (l:List Int):Prop:=∃ v∈l,v=0∨bn < v∨v < -bn
instance (bn:Int) (l:List Int):Decidable (ifBad bn l):=by unfold ifBad;infer_instance
def opBad (o:Op) (qn bn:Int):Int:=
 if o.1 < 1∨6 < o.1 then 8
 else if o.2.1 < 0∨15 < o.2.1∨(¬ (o.1=1∨o.1=4)∧o.2.1≠0) then 9
 else if o.2.2.2.1 < 0∨qn≤o.2.2.2.1∨(o.1=1∧o.2.2.2.1≠0) then 10
 else if o.2.2.1≠[] ∧ ¬ (o.1=2∨o.1=3∨o.1=4) then 11
 else if JI o.2.2.2.1 qn [] o.2.2.1≠0 then JI o.2.2.2.1 qn [] o.2.2.1
 else if (o.1=5∧(o.2.2.2.2.1 < 0∨bn≤o.2.2.2.2.1))∨(o.1≠5∧o.2.2.2.2.1≠0) then 13
 else if 24 < o.2.2.2.2.2.length then 14
 else if ifBad bn o.2.2.2.2.2 then 14 else 0
theorem one_c1 (k:Int):W.je.c1 k some=some (decide (k < 1∨6 < k)):=by
 simp only [W.je.c1,br_or];exact Jq (by simp)
theorem turns_ok (k:Int):W.Jb k=some (decide (k=1∨k=4)):=by
 simp only [W.Jb,W.Jb.c1,br_or,jh];exact Jq (by simp)
theorem gate_ok (k:Int):W.Jk k=some (decide (k=2∨k=3∨k=4)):=by
 simp only [W.Jk,W.Jk.c1,br_or,jh];exact Jq (by simp)
theorem one_c3 (k a:Int):W.je.c3 k a some=some (decide (a < 0∨15 < a∨(¬ (k=1∨k=4)∧a≠0))):=by
 simp only [W.je.c3,turns_ok,br_or,Yy,jh];exact Jq (by simp)
theorem one_c5 (k q qn:Int):W.je.c5 k q qn some=some (decide (q < 0∨qn≤q∨(k=1∧q≠0))):=by
 simp only [W.je.c5,br_or,Yy];exact Jq (by simp)
theorem one_c7 (k:Int) (l:List Int):W.je.c7 k l some=some (decide (l≠[] ∧ ¬ (k=2∨k=3∨k=4))):=by
 simp only [W.je.c7,gate_ok,br_or,Yy,jh];exact Jq (by cases l <;> simp)
theorem one_c14 (q qn:Int):W.je.c14 q qn some=some (decide (q < 0∨qn≤q)):=by
 simp only [W.je.c14,br_or];exact Jq (by simp)
theorem one_c20 (k b bn:Int):W.je.c20 k b bn some=some (decide ((k=5∧(b < 0∨bn≤b))∨(k≠5∧b≠0))):=by
 by_cases hk:k=5
 ·subst hk
  simp only [W.je.c20,beq_self_eq_true,bne_self_eq_false,br_tt,br_ff,br_or];exact Jq (by simp)
 ·simp only [W.je.c20,beq_eq_false_iff_ne.2 hk,bne_iff_ne.2 hk,br_tt,br_ff];exact Jq (by simp [hk])
theorem one_c27 (v bn:Int) (h:0≤bn∧bn≤12):W.je.c27 v bn some=some (decide (v=0∨bn < v∨v < -bn)):=by
 simp only [W.je.c27,br_or]
 rw [Jh (by omega)]
 exact Jq (by simp)
theorem one_ctl (q0 qn:Int) (h0:0≤q0∧q0 < 12) (hn:qn≤12) (l:List Int) (hl:l.length≤17592186043904) :
 ∃ r,iter (fun s:Int×List Bool↦W.je.c100012 l (l.length:Int) s.1 s.2 qn some) ((0:Int),List.set (List.replicate 12 false) q0.toNat true)=some r ∧
  ((∃ u v,r = .inl (JI q0 qn [] l,u,v)∧JI q0 qn [] l≠0) ∨ ∃ u,r = .inr u∧JI q0 qn [] l=0):=by
 refine Jv (l:=l) (fun pre r s=>s.1=(pre.length:Int)∧s.2.length=12∧(∀ j:Nat,j < 12→s.2[j]? = some (decide ((j:Int)=q0∨(j:Int)∈pre)))∧JI q0 qn [] l=JI q0 qn pre r) _ ?_ ?_ ?_
 ·rintro pre a r ⟨i,seen⟩ rfl ⟨rfl,h1,h2,h3⟩
  simp only at h1 h2 ⊢
  simp only [List.length_append,List.length_cons] at hl
  simp only [W.je.c100012,br_if,JK,jh,one_c14]
  rw [if_pos JY]
  rw [h3]
  by_cases ha:a < 0∨qn≤a
  ·rw [if_pos (by simpa using ha)]
   exact .inr ⟨_,rfl,.inl ⟨_,_,by rw [JI,if_pos ha],by rw [JI,if_pos ha];decide⟩⟩
  ·rw [if_neg (by simpa using ha)]
   obtain ⟨n,rfl⟩:=Int.eq_ofNat_of_zero_le (show 0≤a by omega)
   have hn':n < 12:=by omega
   rw [Jw (by simp;omega),Uq (by omega),Un,h2 n hn']
   simp only [jh]
   by_cases hb:(n:Int)=q0∨(n:Int)∈pre
   ·rw [if_pos (by simpa using hb)]
    exact .inr ⟨_,rfl,.inl ⟨_,_,by rw [JI,if_neg ha,if_pos hb],by rw [JI,if_neg ha,if_pos hb];decide⟩⟩
   ·rw [if_neg (by simpa using hb),Jh (by omega)]
    refine .inl ⟨_,rfl,by simp,by simp [h1],?_,?_⟩
    ·intro j hj
     simp only [Int.toNat_natCast]
     rw [List.getElem?_set]
     by_cases hjn:n=j
     ·subst hjn;simp [h1,hn']
     ·rw [if_neg hjn,h2 j hj]
      simp only [List.mem_append,List.mem_singleton]
      congr 1
      simp only [decide_eq_decide]
      have:(j:Int)≠n:=by omega
      simp [this]
    ·show JI q0 qn pre (_::r)=_
     rw [JI,if_neg ha,if_neg hb]
 ·rintro ⟨i,seen⟩ ⟨rfl,h1,h2,h3⟩
  simp only [W.je.c100012,br_if]
  rw [if_neg (by simp)]
  exact ⟨_,rfl,.inr ⟨_,rfl,by rw [h3];rfl⟩⟩
 ·refine ⟨rfl,by simp,fun j hj => ?_,rfl⟩
  rw [List.getElem?_set]
  by_cases hq:q0.toNat=j
  ·subst hq
   simp
   omega
  ·rw [if_neg hq]
   have:(j:Int)≠q0:=by omega
   rw [List.getElem?_replicate,if_pos hj]
   simp [this]
theorem one_if (bn:Int) (h:0≤bn∧bn≤12) (l:List Int) (hl:l.length≤17592186043904) :
 ∃ r,iter (fun s:Int↦W.je.c100025 l (l.length:Int) s bn some) (0:Int)=some r ∧
  ((∃ u,r = .inl u∧ifBad bn l) ∨ ∃ u,r = .inr u ∧ ¬ ifBad bn l):=by
 refine Jv (l:=l) (fun pre r s=>s=(pre.length:Int) ∧ ∀ v∈pre,¬ (v=0∨bn < v∨v < -bn)) _ ?_ ?_ ?_
 ·rintro pre a r i rfl ⟨rfl,h1⟩
  simp only [List.length_append,List.length_cons] at hl
  simp only [W.je.c100025,br_if,JK,jh,one_c27 _ _ h]
  rw [if_pos JY]
  by_cases ha:a=0∨bn < a∨a < -bn
  ·rw [if_pos (by simpa using ha)]
   exact .inr ⟨_,rfl,.inl ⟨_,rfl,a,by simp,ha⟩⟩
  ·rw [if_neg (by simpa using ha),Jh (by omega)]
   refine .inl ⟨_,rfl,by simp,fun v hv => ?_⟩
   rcases List.mem_append.1 hv with hv | hv
   ·exact h1 v hv
   ·rw [List.mem_singleton.1 hv];exact ha
 ·rintro i ⟨rfl,h1⟩
  simp only [W.je.c100025,br_if]
  rw [if_neg (by simp)]
  exact ⟨_,rfl,.inr ⟨_,rfl,fun ⟨v,hv,hb⟩=>h1 v hv hb⟩⟩
 ·exact ⟨rfl,fun v hv=>by cases hv⟩
theorem one_ok (o:Op) (qn bn:Int) (ops:List Op) (ho:WOp o) (hq:1≤qn∧qn≤12) (hb:0≤bn∧bn≤12) :
 W.je o qn bn ops=some (opBad o qn bn,qn,bn,ops,()):=by
 obtain ⟨k,a,ctl,q,bit,cond⟩:=o
 obtain ⟨ho1,ho2⟩:=ho
 simp only at ho1 ho2
 simp only [W.je,one_c1,one_c3,one_c5,one_c7,jh,br_if,opBad,decide_eq_true_eq]
 split
 ·rfl
 ·split
  ·rfl
  ·split
   ·rfl
   ·rename_i h1 h2 h3
    split
    ·rfl
    ·obtain ⟨n,rfl⟩:=Int.eq_ofNat_of_zero_le (show 0≤q by omega)
     have hn':n < 12:=by omega
     rw [Jw (by simp;omega),Uq (by simpa using hn'),Un]
     simp only [jh,List.getElem?_replicate,hn',if_true]
     obtain ⟨r,hr,hr'⟩:=one_ctl n qn (by omega) hq.2 ctl ho1
     rw [hr,jh]
     rcases hr' with ⟨u,v,rfl,h⟩ | ⟨u,rfl,h⟩
     ·rw [kl,if_pos h]
     ·rw [ky,if_neg (show ¬ (JI (n:Int) qn [] ctl≠0) by simp [h])]
      simp only [one_c20,jh,decide_eq_true_eq]
      split
      ·rfl
      ·by_cases h24:24 < cond.length
       ·rw [if_pos (by omega),if_pos h24]
       ·rw [if_neg (by omega),if_neg h24]
        obtain ⟨r,hr,hr'⟩:=one_if bn hb cond ho2
        rw [hr,jh]
        rcases hr' with ⟨u,rfl,h⟩ | ⟨u,rfl,h⟩
        ·rw [kl,if_pos h]
        ·rw [ky,if_neg h]
end Go.Ql
end
section
namespace Go.Ql
theorem member_ok (l:List Int) (x:Int) (hl:l.length≤17592186043904):W.Jd l x=some (decide (x∈l)):=by
 have h : ∃ r,iter (fun s:Int↦W.Jd.c100002 l x s some) (0:Int)=some r∧((∃ u,r = .inl u∧x∈l) ∨ ∃ u,r = .inr u∧x∉l):=by
  refine Jv (l:=l) (fun pre r s=>s=(pre.length:Int)∧x∉pre) _ ?_ ?_ ⟨rfl,by simp⟩
  ·rintro pre a r i rfl ⟨rfl,h1⟩
   simp only [List.length_append,List.length_cons] at hl
   simp only [W.Jd.c100002,br_if,JK,jh]
   rw [if_pos JY]
   by_cases ha:a=x
   ·rw [if_pos (by simpa using ha)]
    exact .inr ⟨_,rfl,.inl ⟨_,rfl,by simp [ha]⟩⟩
   ·rw [if_neg (by simpa using ha),Jh (by omega)]
    exact .inl ⟨_,rfl,by simp,by simp [h1,Ne.symm ha]⟩
  ·rintro i ⟨rfl,h1⟩
   simp only [W.Jd.c100002,br_if]
   rw [if_neg (by simp)]
   exact ⟨_,rfl,.inr ⟨_,rfl,h1⟩⟩
 obtain ⟨r,hr,h⟩:=h
 simp only [W.Jd,hr,jh]
 rcases h with ⟨u,rfl,h⟩ | ⟨u,rfl,h⟩
 ·simp [kl,h]
 ·simp [ky,h]
theorem rbad_c1 (k:Int):W.jd.c1 k some=some (decide (k < 1∨6 < k)):=by
 simp only [W.jd.c1,br_or,Yy];exact Jq (by simp)
theorem rbad_c3 (k:Int):W.jd.c3 k some=some (decide (k=1∨k=4)):=by
 simp only [W.jd.c3,br_or,Yy];exact Jq (by simp)
theorem rbad_c4 (k a:Int):W.jd.c4 (decide (k=1∨k=4)) a some=some (decide (a < 0∨15 < a∨(¬ (k=1∨k=4)∧a≠0))):=by
 simp only [W.jd.c4,br_or,Yy];exact Jq (by simp;omega)
theorem rbad_c6 (k q qn:Int):W.jd.c6 qn k q some=some (decide (q < 0∨qn≤q∨(k=1∧q≠0))):=by
 simp only [W.jd.c6,br_or,Yy];exact Jq (by simp;omega)
theorem rbad_c8 (k:Int) (l:List Int):W.jd.c8 k l some=some (decide (l≠[] ∧ ¬ (k=2∨k=3∨k=4))):=by
 simp only [W.jd.c8,br_or,Yy];exact Jq (by cases l <;> simp)
theorem rbad_bit (k b bn:Int) : ∃ r,W.jd.c269649 bn k b some=some r∧((r = .inl ()∧((k=5∧(b < 0∨bn≤b))∨(k≠5∧b≠0)))∨(r = .inr () ∧ ¬ ((k=5∧(b < 0∨bn≤b))∨(k≠5∧b≠0)))):=by
 have h:W.jd.c18 bn b some=some (decide (b < 0∨bn≤b)):=by
  simp only [W.jd.c18,br_or];exact Jq (by simp)
 by_cases hk:k=5
 ·subst hk
  simp only [W.jd.c269649,beq_self_eq_true,br_tt,h,jh]
  by_cases hb:b < 0∨bn≤b
  ·rw [br_pos hb];exact ⟨_,rfl,.inl ⟨rfl,.inl ⟨trivial,hb⟩⟩⟩
  ·rw [br_neg hb];exact ⟨_,rfl,.inr ⟨rfl,by omega⟩⟩
 ·simp only [W.jd.c269649,beq_eq_false_iff_ne.2 hk,br_ff]
  by_cases hb:b=0
  ·rw [YY (by simpa using hb)];exact ⟨_,rfl,.inr ⟨rfl,by omega⟩⟩
  ·rw [Vx (by simpa using hb)];exact ⟨_,rfl,.inl ⟨rfl,by omega⟩⟩
theorem rbad_ctl (q0 qn:Int) (l:List Int) (hl:l.length≤17592186043904) :
 ∃ r,iter (fun s:Int↦W.jd.c100011 qn s l q0 some) (0:Int)=some r ∧
  ((∃ u,r = .inl (JI q0 qn [] l,u)∧JI q0 qn [] l≠0) ∨ ∃ u,r = .inr u∧JI q0 qn [] l=0):=by
 refine Jv (l:=l) (fun pre r s=>s=(pre.length:Int)∧JI q0 qn [] l=JI q0 qn pre r) _ ?_ ?_ ⟨rfl,rfl⟩
 ·rintro pre a r i rfl ⟨rfl,h3⟩
  simp only [List.length_append,List.length_cons] at hl
  have h13:W.jd.c13 qn (pre.length:Int) (pre++a::r) some=some (decide (a < 0∨qn≤a)):=by
   simp only [W.jd.c13,br_or,JK,jh];exact Jq (by simp)
  have h15:W.jd.c15 (pre.length:Int) (pre++a::r) q0 some=some (decide (a=q0∨a∈pre)):=by
   simp only [W.jd.c15,JK,jh]
   rw [Jw (by simp;omega),jh]
   simp only [Int.toNat_natCast,List.take_left,member_ok _ _ (show pre.length≤17592186043904 by omega),jh,br_or]
   exact Jq (by simp)
  simp only [W.jd.c100011,br_if,h13,h15,jh]
  rw [if_pos JY]
  rw [h3]
  by_cases ha:a < 0∨qn≤a
  ·rw [if_pos (by simpa using ha)]
   exact .inr ⟨_,rfl,.inl ⟨_,by rw [JI,if_pos ha],by rw [JI,if_pos ha];decide⟩⟩
  ·rw [if_neg (by simpa using ha)]
   by_cases hb:a=q0∨a∈pre
   ·rw [if_pos (by simpa using hb)]
    exact .inr ⟨_,rfl,.inl ⟨_,by rw [JI,if_neg ha,if_pos hb],by rw [JI,if_neg ha,if_pos hb];decide⟩⟩
   ·rw [if_neg (by simpa using hb),Jh (by omega)]
    refine .inl ⟨_,rfl,by simp,?_⟩
    show JI q0 qn pre (_::r)=_
    rw [JI,if_neg ha,if_neg hb]
 ·rintro i ⟨rfl,h3⟩
  simp only [W.jd.c100011,br_if]
  rw [if_neg (by simp)]
  exact ⟨_,rfl,.inr ⟨_,rfl,by rw [h3];rfl⟩⟩
theorem rbad_if (bn:Int) (h:0≤bn∧bn≤12) (l:List Int) (hl:l.length≤17592186043904) :
 ∃ r,iter (fun s:Int↦W.jd.c100025 bn s l some) (0:Int)=some r ∧
  ((∃ u,r = .inl u∧ifBad bn l) ∨ ∃ u,r = .inr u ∧ ¬ ifBad bn l):=by
 refine Jv (l:=l) (fun pre r s=>s=(pre.length:Int) ∧ ∀ v∈pre,¬ (v=0∨bn < v∨v < -bn)) _ ?_ ?_ ⟨rfl,fun v hv=>by cases hv⟩
 ·rintro pre a r i rfl ⟨rfl,h1⟩
  simp only [List.length_append,List.length_cons] at hl
  have h27:W.jd.c27 bn (pre.length:Int) (pre++a::r) some=some (decide (a=0∨bn < a∨a < -bn)):=by
   simp only [W.jd.c27,br_or,JK,jh]
   rw [Jh (by omega)];exact Jq (by simp)
  simp only [W.jd.c100025,br_if,h27,jh]
  rw [if_pos JY]
  by_cases ha:a=0∨bn < a∨a < -bn
  ·rw [if_pos (by simpa using ha)]
   exact .inr ⟨_,rfl,.inl ⟨_,rfl,a,by simp,ha⟩⟩
  ·rw [if_neg (by simpa using ha),Jh (by omega)]
   refine .inl ⟨_,rfl,by simp,fun v hv => ?_⟩
   rcases List.mem_append.1 hv with hv | hv
   ·exact h1 v hv
   ·rw [List.mem_singleton.1 hv];exact ha
 ·rintro i ⟨rfl,h1⟩
  simp only [W.jd.c100025,br_if]
  rw [if_neg (by simp)]
  exact ⟨_,rfl,.inr ⟨_,rfl,fun ⟨v,hv,hb⟩=>h1 v hv hb⟩⟩
theorem badOp_ok (o:Op) (qn bn:Int) (ho:WOp o) (hb:0≤bn∧bn≤12):W.jd o qn bn=some (opBad o qn bn):=by
 obtain ⟨k,a,ctl,q,bit,cond⟩:=o
 obtain ⟨ho1,ho2⟩:=ho
 simp only at ho1 ho2
 simp only [W.jd,rbad_c1,rbad_c3,rbad_c4,rbad_c6,rbad_c8,jh,br_if,opBad,decide_eq_true_eq]
 split
 ·rfl
 ·split
  ·rfl
  ·split
   ·rfl
   ·split
    ·rfl
    ·obtain ⟨r,hr,hr'⟩:=rbad_ctl q qn ctl ho1
     rw [hr,jh]
     rcases hr' with ⟨u,rfl,h⟩ | ⟨u,rfl,h⟩
     ·rw [kl,if_pos h]
     ·rw [ky,if_neg (show ¬ (JI q qn [] ctl≠0) by simp [h])]
      obtain ⟨r,hr,hr'⟩:=rbad_bit k bit bn
      rw [hr,jh]
      rcases hr' with ⟨rfl,h⟩ | ⟨rfl,h⟩
      ·rw [kl,if_pos h]
      ·rw [ky,if_neg h]
       by_cases h24:24 < cond.length
       ·rw [if_pos (by omega),if_pos h24]
       ·rw [if_neg (by omega),if_neg h24]
        obtain ⟨r,hr,hr'⟩:=rbad_if bn hb cond ho2
        rw [hr,jh]
        rcases hr' with ⟨u,rfl,h⟩ | ⟨u,rfl,h⟩
        ·rw [kl,if_pos h]
        ·rw [ky,if_neg h]
def kN (qn bn:Int):Nat→List Op→Int×Int
 | _,[]=>(0,0)
 | i,o::r=>if opBad o qn bn=0 then kN qn bn (i+1) r else (opBad o qn bn,i)
def chk (c:Cir):Int×Int:=
 if c.1 < 1∨12 < c.1 then (6,0) else if c.2.1 < 0∨12 < c.2.1 then (7,0) else if 4096 < c.2.2.length then (2,0) else kN c.1 c.2.1 0 c.2.2
theorem WOp.eta (o:Op):(o.1,o.2.1,o.2.2.1,o.2.2.2.1,o.2.2.2.2.1,o.2.2.2.2.2)=o:=rfl
theorem Va (a b:Int):W.Ji a b=some (a,b):=rfl
theorem Ym (a b:Int):W.Jt a b=some (a,b):=rfl
theorem check_ok (c:Cir) (hc:WCir c):W.jt c=some (chk c):=by
 obtain ⟨qn,bn,ops⟩:=c
 obtain ⟨hl,hw⟩:=hc
 simp only at hl hw
 simp only [W.jt,W.jt.c1,W.jt.c3,br_if,Va,jh,chk]
 by_cases h1:qn < 1∨12 < qn
 ·rw [if_pos h1]
  by_cases h:qn < 1
  ·simp [h,jh]
  ·have:12 < qn:=by omega
   simp [h,this,jh]
 ·have h1a : ¬ qn < 1:=by omega
  have h1b : ¬ 12 < qn:=by omega
  simp only [h1a,h1b,jh,decide_false,Bool.false_eq_true,if_false,gt_iff_lt,or_self]
  by_cases h2:bn < 0∨12 < bn
  ·rw [if_pos h2]
   by_cases h:bn < 0
   ·simp [h,jh]
   ·have:12 < bn:=by omega
    simp [h,this,jh]
  ·have h2a : ¬ bn < 0:=by omega
   have h2b : ¬ 12 < bn:=by omega
   simp only [h2a,h2b,jh,decide_false,Bool.false_eq_true,if_false,or_self]
   by_cases h3:4096 < ops.length
   ·rw [if_pos h3,if_pos (by simp;omega)]
   ·rw [if_neg h3,if_neg (by simp;omega)]
    have key : ∃ r,iter (fun s:Int×Int×Int×List Op↦W.jt.c100008 ops (ops.length:Int) s.1 s.2.1 s.2.2.1 s.2.2.2 some) ((0:Int),qn,bn,ops)=some r ∧
     ((∃ u,r = .inl u∧(u.2.2.2.2.1,u.2.2.2.2.2)=kN qn bn 0 ops) ∨ ∃ u,r = .inr u∧(0,0)=kN qn bn 0 ops):=by
     refine Jv (l:=ops) (fun pre r s=>s=((pre.length:Int),qn,bn,ops)∧kN qn bn pre.length r=kN qn bn 0 ops) _ ?_ ?_ ⟨rfl,rfl⟩
     ·rintro pre o r s rfl ⟨rfl,h4⟩
      simp only [List.length_append,List.length_cons] at hl
      simp only [W.jt.c100008,br_if,JK,jh,WOp.eta,one_ok o qn bn _ (hw o (by simp)) (by omega) (by omega),Va]
      rw [if_pos JY]
      rw [kN] at h4
      by_cases ho:opBad o qn bn=0
      ·rw [if_pos ho] at h4
       rw [if_neg (by simp [ho]),Jh (by omega)]
       exact .inl ⟨_,rfl,by simp,by simpa using h4⟩
      ·rw [if_neg ho] at h4
       rw [if_pos (by simp [ho])]
       exact .inr ⟨_,rfl,.inl ⟨_,rfl,h4⟩⟩
     ·rintro s ⟨rfl,h4⟩
      simp only [W.jt.c100008,br_if]
      rw [if_neg (by simp)]
      exact ⟨_,rfl,.inr ⟨_,rfl,h4⟩⟩
    obtain ⟨r,hr,h⟩:=key
    rw [hr,jh]
    rcases h with ⟨u,rfl,h⟩ | ⟨u,rfl,h⟩
    ·rw [kl,← h]
    ·rw [ky,← h]
theorem rcheck_ok (c:Cir) (hc:WCir c):W.jB c=some (chk c):=by
 obtain ⟨qn,bn,ops⟩:=c
 obtain ⟨hl,hw⟩:=hc
 simp only at hl hw
 simp only [W.jB,W.jB.c1,W.jB.c3,br_if,Ym,jh,chk]
 by_cases h1:qn < 1∨12 < qn
 ·rw [if_pos h1]
  by_cases h:qn < 1
  ·simp [h,jh]
  ·have:12 < qn:=by omega
   simp [h,this,jh]
 ·have h1a : ¬ qn < 1:=by omega
  have h1b : ¬ 12 < qn:=by omega
  simp only [h1a,h1b,jh,decide_false,Bool.false_eq_true,if_false,gt_iff_lt,or_self]
  by_cases h2:bn < 0∨12 < bn
  ·rw [if_pos h2]
   by_cases h:bn < 0
   ·simp [h,jh]
   ·have:12 < bn:=by omega
    simp [h,this,jh]
  ·have h2a : ¬ bn < 0:=by omega
   have h2b : ¬ 12 < bn:=by omega
   simp only [h2a,h2b,jh,decide_false,Bool.false_eq_true,if_false,or_self]
   by_cases h3:4096 < ops.length
   ·rw [if_pos h3,if_pos (by simp;omega)]
   ·rw [if_neg h3,if_neg (by simp;omega)]
    have key : ∃ r,iter (fun s:Int↦W.jB.c100008 s qn bn ops some) (0:Int)=some r ∧
     ((∃ u,r = .inl u∧(u.2.1,u.2.2)=kN qn bn 0 ops) ∨ ∃ u,r = .inr u∧(0,0)=kN qn bn 0 ops):=by
     refine Jv (l:=ops) (fun pre r s=>s=(pre.length:Int)∧kN qn bn pre.length r=kN qn bn 0 ops) _ ?_ ?_ ⟨rfl,rfl⟩
     ·rintro pre o r s rfl ⟨rfl,h4⟩
      simp only [List.length_append,List.length_cons] at hl
      simp only [W.jB.c100008,W.jB.c10,br_if,JK,jh,badOp_ok o qn bn (hw o (by simp)) (by omega),Ym]
      rw [if_pos JY]
      rw [kN] at h4
      by_cases ho:opBad o qn bn=0
      ·rw [if_pos ho] at h4
       rw [if_neg (by simp [ho]),Jh (by omega)]
       exact .inl ⟨_,rfl,by simp,by simpa using h4⟩
      ·rw [if_neg ho] at h4
       rw [if_pos (by simp [ho])]
       exact .inr ⟨_,rfl,.inl ⟨_,rfl,h4⟩⟩
     ·rintro s ⟨rfl,h4⟩
      simp only [W.jB.c100008,br_if]
      rw [if_neg (by simp)]
      exact ⟨_,rfl,.inr ⟨_,rfl,h4⟩⟩
    obtain ⟨r,hr,h⟩:=key
    rw [hr,jh]
    rcases h with ⟨u,rfl,h⟩ | ⟨u,rfl,h⟩
    ·rw [kl,← h]
    ·rw [ky,← h]
end Go.Ql
end
section
namespace Go.Ql
instance dec3:DecidableEq (Int×Int×List Int):=inferInstance
instance dec4:DecidableEq (List Int×Int×Int×List Int):=inferInstance
instance dec6:DecidableEq Op:=instDecidableEqProd
instance decC:DecidableEq Cir:=instDecidableEqProd
def kH:Nat→List Op→Int×Int
 | _,[]=>(0,0)
 | i,o::r=>if o.1=5∨o.1=6∨o.2.2.2.2.2≠[] then (15,i) else kH (i+1) r
def pur (c:Cir):Int×Int:=if (chk c).1≠0 then chk c else kH 0 c.2.2
theorem opsBad_zero {qn bn:Int} : ∀ {l:List Op} {i:Nat},(kN qn bn i l).1=0→(∀ o∈l,opBad o qn bn=0)∧kN qn bn i l=(0,0)
 | [],_,_=>⟨(fun _ h=>by cases h),rfl⟩
 | o::l,i,h=>by
   rw [kN] at h ⊢
   by_cases ho:opBad o qn bn=0
   ·rw [if_pos ho] at h ⊢
    have:=opsBad_zero h
    exact ⟨fun o' h'=>by
     rcases List.mem_cons.1 h' with rfl | h'
     ·exact ho
     ·exact this.1 o' h',this.2⟩
   ·rw [if_neg ho] at h
    exact absurd h ho
structure GoodC (c:Cir):Prop where
 q:1≤c.1∧c.1≤12
 b:0≤c.2.1∧c.2.1≤12
 n:c.2.2.length≤4096
 ops : ∀ o∈c.2.2,opBad o c.1 c.2.1=0
theorem Vh {c:Cir} (h:(chk c).1=0):GoodC c∧chk c=(0,0):=by
 unfold chk at h ⊢
 by_cases h1:c.1 < 1∨12 < c.1
 ·rw [if_pos h1] at h;cases h
 ·rw [if_neg h1] at h ⊢
  by_cases h2:c.2.1 < 0∨12 < c.2.1
  ·rw [if_pos h2] at h;cases h
  ·rw [if_neg h2] at h ⊢
   by_cases h3:4096 < c.2.2.length
   ·rw [if_pos h3] at h;cases h
   ·rw [if_neg h3] at h ⊢
    have:=opsBad_zero h
    exact ⟨⟨by omega,by omega,by omega,this.1⟩,this.2⟩
theorem opsBad_good {qn bn:Int} : ∀ {l:List Op} {i:Nat},(∀ o∈l,opBad o qn bn=0)→kN qn bn i l=(0,0)
 | [],_,_=>rfl
 | o::l,i,h=>by
   rw [kN,if_pos (h o (by simp))]
   exact opsBad_good (fun o' h'=>h o' (List.mem_cons_of_mem _ h'))
theorem GoodC.chk {c:Cir} (h:GoodC c):chk c=(0,0):=by
 have:=h.q;have:=h.b;have:=h.n
 unfold Ql.chk
 rw [if_neg (by omega),if_neg (by omega),if_neg (by omega)]
 exact opsBad_good h.ops
structure GoodOp (o:Op) (qn bn:Int):Prop where
 kind:1≤o.1∧o.1≤6
 k:0≤o.2.1∧o.2.1≤15
 k0:(o.1=1∨o.1=4)∨o.2.1=0
 q:0≤o.2.2.2.1∧o.2.2.2.1 < qn
 q0:o.1=1→o.2.2.2.1=0
 ctl:o.2.2.1=[]∨(o.1=2∨o.1=3∨o.1=4)
 ctls:JI o.2.2.2.1 qn [] o.2.2.1=0
 bit:(o.1=5∧0≤o.2.2.2.2.1∧o.2.2.2.2.1 < bn)∨(o.1≠5∧o.2.2.2.2.1=0)
 ifs:o.2.2.2.2.2.length≤24
 cond : ¬ ifBad bn o.2.2.2.2.2
theorem YI {o:Op} {qn bn:Int} (h:opBad o qn bn=0):GoodOp o qn bn:=by
 unfold opBad at h
 by_cases h1:o.1 < 1∨6 < o.1
 ·rw [if_pos h1] at h;cases h
 rw [if_neg h1] at h
 by_cases h2:o.2.1 < 0∨15 < o.2.1∨(¬ (o.1=1∨o.1=4)∧o.2.1≠0)
 ·rw [if_pos h2] at h;cases h
 rw [if_neg h2] at h
 by_cases h3:o.2.2.2.1 < 0∨qn≤o.2.2.2.1∨(o.1=1∧o.2.2.2.1≠0)
 ·rw [if_pos h3] at h;cases h
 rw [if_neg h3] at h
 by_cases h4:o.2.2.1≠[] ∧ ¬ (o.1=2∨o.1=3∨o.1=4)
 ·rw [if_pos h4] at h;cases h
 rw [if_neg h4] at h
 by_cases h5:JI o.2.2.2.1 qn [] o.2.2.1≠0
 ·rw [if_pos h5] at h;exact absurd h h5
 rw [if_neg h5] at h
 by_cases h6:(o.1=5∧(o.2.2.2.2.1 < 0∨bn≤o.2.2.2.2.1))∨(o.1≠5∧o.2.2.2.2.1≠0)
 ·rw [if_pos h6] at h;cases h
 rw [if_neg h6] at h
 by_cases h7:24 < o.2.2.2.2.2.length
 ·rw [if_pos h7] at h;cases h
 rw [if_neg h7] at h
 by_cases h8:ifBad bn o.2.2.2.2.2
 ·rw [if_pos h8] at h;cases h
 exact ⟨by omega,by omega,by omega,by omega,by omega,by by_cases h:o.2.2.1=[] <;> simp_all;omega,by omega,by omega,by omega,h8⟩
theorem ctlBad_zero {q0 qn:Int} : ∀ {r pre:List Int},JI q0 qn pre r=0↔(∀ q∈r,0≤q∧q < qn∧q≠q0∧q∉pre)∧r.Nodup
 | [],_=>by simp [JI]
 | q::r,pre=>by
   rw [JI]
   by_cases h1:q < 0∨qn≤q
   ·rw [if_pos h1]
    constructor
    ·intro h;cases h
    ·intro h;have:=h.1 q (by simp);omega
   ·rw [if_neg h1]
    by_cases h2:q=q0∨q∈pre
    ·rw [if_pos h2]
     constructor
     ·intro h;cases h
     ·intro h;have:=h.1 q (by simp);rcases h2 with h2 | h2
      ·exact absurd h2 this.2.2.1
      ·exact absurd h2 this.2.2.2
    ·rw [if_neg h2,ctlBad_zero]
     have h1a:0≤q:=by omega
     have h1b:q < qn:=by omega
     simp only [not_or] at h2
     simp only [List.mem_cons,forall_eq_or_imp,List.nodup_cons,List.mem_append,List.mem_singleton,not_or]
     constructor
     ·rintro ⟨h3,h4⟩
      exact ⟨⟨⟨h1a,h1b,h2.1,h2.2⟩,fun a ha=>⟨(h3 a ha).1,(h3 a ha).2.1,(h3 a ha).2.2.1,(h3 a ha).2.2.2.1⟩⟩,fun hq=>(h3 q hq).2.2.2.2.1 rfl,h4⟩
     ·rintro ⟨⟨_,h3⟩,h4,h5⟩
      exact ⟨fun a ha=>⟨(h3 a ha).1,(h3 a ha).2.1,(h3 a ha).2.2.1,(h3 a ha).2.2.2,⟨fun e=>h4 (e ▸ ha),by simp⟩⟩,h5⟩
theorem pure_c7 (k:Int) (l:List Int):W.jJ.c7 k l some=some (decide (k=5∨k=6∨l≠[])):=by
 simp only [W.jJ.c7,br_or];exact Jq (by cases l <;> simp)
theorem pure_ok (c:Cir) (hc:WCir c):W.jJ c=some (pur c):=by
 obtain ⟨qn,bn,ops⟩:=c
 have hl:=hc.1
 simp only at hl
 simp only [W.jJ,check_ok _ hc,jh,br_if,pur]
 by_cases h1:(chk (qn,bn,ops)).1=0
 ·rw [if_neg (by simp [h1]),if_neg (by simp [h1])]
  have key : ∃ r,iter (fun s:Int↦W.jJ.c100005 ops (ops.length:Int) s some) (0:Int)=some r ∧
   ((∃ u,r = .inl u∧(u.2.1,u.2.2)=kH 0 ops) ∨ ∃ u,r = .inr u∧(0,0)=kH 0 ops):=by
   refine Jv (l:=ops) (fun pre r s=>s=(pre.length:Int)∧kH pre.length r=kH 0 ops) _ ?_ ?_ ⟨rfl,rfl⟩
   ·rintro pre o r s rfl ⟨rfl,h4⟩
    simp only [List.length_append,List.length_cons] at hl
    simp only [W.jJ.c100005,br_if,JK,jh,pure_c7,Va]
    rw [if_pos JY]
    rw [kH] at h4
    by_cases ho:o.1=5∨o.1=6∨o.2.2.2.2.2≠[]
    ·rw [if_pos ho] at h4
     rw [if_pos (by simpa using ho)]
     exact .inr ⟨_,rfl,.inl ⟨_,rfl,h4⟩⟩
    ·rw [if_neg ho] at h4
     rw [if_neg (by simpa using ho),Jh (by omega)]
     exact .inl ⟨_,rfl,by simp,by simpa using h4⟩
   ·rintro s ⟨rfl,h4⟩
    simp only [W.jJ.c100005,br_if]
    rw [if_neg (by simp)]
    exact ⟨_,rfl,.inr ⟨_,rfl,h4⟩⟩
  obtain ⟨r,hr,h⟩:=key
  rw [hr,jh]
  rcases h with ⟨u,rfl,h⟩ | ⟨u,rfl,h⟩
  ·rw [kl,← h]
  ·rw [ky,← h]
 ·rw [if_pos (by simp [h1]),if_pos (by simp [h1])]
theorem rpure_ok (c:Cir) (hc:WCir c):W.Jf c=some (pur c):=by
 obtain ⟨qn,bn,ops⟩:=c
 have hl:=hc.1
 simp only at hl
 simp only [W.Jf,rcheck_ok _ hc,jh,br_if,pur]
 by_cases h1:(chk (qn,bn,ops)).1=0
 ·obtain ⟨hg,h0⟩:=Vh h1
  rw [if_neg (by simp [h1]),if_neg (by simp [h1])]
  have key : ∃ r,iter (fun s:Int↦W.Jf.c100005 s ops some) (0:Int)=some r ∧
   ((∃ u,r = .inl u∧(u.2.1,u.2.2)=kH 0 ops) ∨ ∃ u,r = .inr u∧(0,0)=kH 0 ops):=by
   refine Jv (l:=ops) (fun pre r s=>s=(pre.length:Int)∧kH pre.length r=kH 0 ops) _ ?_ ?_ ⟨rfl,rfl⟩
   ·rintro pre o r s rfl ⟨rfl,h4⟩
    simp only [List.length_append,List.length_cons] at hl
    have hk:=(YI (hg.ops o (by simp))).kind
    have h7:W.Jf.c7 (pre.length:Int) (pre++o::r) some=some (decide (o.1=5∨o.1=6∨o.2.2.2.2.2≠[])):=by
     simp only [W.Jf.c7,br_if,JK,jh]
     by_cases h5:5≤o.1
     ·rw [if_pos (by simpa using h5)]
      have:o.1=5∨o.1=6:=by omega
      rcases this with h | h <;> simp [h]
     ·rw [if_neg (by simpa using h5)]
      have h5a:o.1≠5:=by omega
      have h5b:o.1≠6:=by omega
      simp only [h5a,h5b,false_or]
      cases o.2.2.2.2.2 <;> simp
    simp only [W.Jf.c100005,br_if,h7,jh,Ym]
    rw [if_pos JY]
    rw [kH] at h4
    by_cases ho:o.1=5∨o.1=6∨o.2.2.2.2.2≠[]
    ·rw [if_pos ho] at h4
     rw [if_pos (by simpa using ho)]
     exact .inr ⟨_,rfl,.inl ⟨_,rfl,h4⟩⟩
    ·rw [if_neg ho] at h4
     rw [if_neg (by simpa using ho),Jh (by omega)]
     exact .inl ⟨_,rfl,by simp,by simpa using h4⟩
   ·rintro s ⟨rfl,h4⟩
    simp only [W.Jf.c100005,br_if]
    rw [if_neg (by simp)]
    exact ⟨_,rfl,.inr ⟨_,rfl,h4⟩⟩
  obtain ⟨r,hr,h⟩:=key
  rw [hr,jh]
  rcases h with ⟨u,rfl,h⟩ | ⟨u,rfl,h⟩
  ·rw [kl,← h]
  ·rw [ky,← h,h0]
 ·rw [if_pos (by simp [h1]),if_pos (by simp [h1])]
theorem rcopyInts_ok (l:List Int) (hl:l.length≤17592186043904):W.Ja l=some l:=by
 have h : ∃ r,iter (fun s:Int×List Int↦W.Ja.c100003 l s.1 s.2 some) ((0:Int),[])=some r∧r.2=l:=by
  refine Jv (l:=l) (fun pre r s=>s=((pre.length:Int),pre)) _ ?_ ?_ rfl
  ·rintro pre a r s rfl rfl
   simp only [List.length_append,List.length_cons] at hl
   simp only [W.Ja.c100003,br_if,JK,jh]
   rw [if_pos JY,Jw (by simp;omega),Jh (by omega)]
   exact .inl ⟨_,rfl,by simp⟩
  ·rintro s rfl
   simp only [W.Ja.c100003,br_if]
   rw [if_neg (by simp)]
   exact ⟨_,rfl,rfl⟩
 obtain ⟨r,hr,h⟩:=h
 simp only [W.Ja,hr,jh,h]
theorem rcopyOp_ok (o:Op) (ho:WOp o):W.JH o=some o:=by
 simp only [W.JH,rcopyInts_ok _ ho.1,rcopyInts_ok _ ho.2,jh]
theorem copyCircuit_ok (c:Cir) (hc:WCir c):W.jx c=some c:=by
 obtain ⟨qn,bn,ops⟩:=c
 obtain ⟨hl,hw⟩:=hc
 simp only at hl hw
 have h : ∃ r,iter (fun s:Int×List Op↦W.jx.c100003 s.1 ops s.2 some) ((0:Int),[])=some r∧r.2=ops:=by
  refine Jv (l:=ops) (fun pre r s=>s=((pre.length:Int),pre)) _ ?_ ?_ rfl
  ·rintro pre a r s rfl rfl
   simp only [List.length_append,List.length_cons] at hl
   simp only [W.jx.c100003,W.jx.c5,br_if,JK,jh,rcopyOp_ok a (hw a (by simp))]
   rw [if_pos JY,Jw (by simp;omega),Jh (by omega)]
   exact .inl ⟨_,rfl,by simp⟩
  ·rintro s rfl
   simp only [W.jx.c100003,br_if]
   rw [if_neg (by simp)]
   exact ⟨_,rfl,rfl⟩
 obtain ⟨r,hr,h⟩:=h
 simp only [W.jx,hr,jh,h]
theorem clone_ok (l:List Int) (hl:l.length≤17592186043904):W.jN l=some (l,()):=by
 simp only [W.jN,br_if]
 rw [Jw (by simp;omega)]
 simp only [jh]
 cases l
 ·simp [both_self]
 ·simp
theorem copied_ok (o:Op) (ho:WOp o):W.jT o=some o:=by
 simp only [W.jT,W.jT.c1,clone_ok _ ho.1,clone_ok _ ho.2,jh]
theorem sameInts_ok (a b:List Int) (ha:a.length≤17592186043904):W.jF a b=some (decide (a=b)):=by
 simp only [W.jF,br_if]
 by_cases hlen:a.length=b.length
 ·rw [if_neg (by simp [hlen])]
  have h : ∃ r,iter (fun s:Int↦W.jF.c100004 a b s some) (0:Int)=some r∧((∃ u,r = .inl u∧a≠b) ∨ ∃ u,r = .inr u∧a=b):=by
   refine iter_upto a.length (fun i s=>s=(i:Int)∧a.take i=b.take i) _ ?_ ?_ ⟨rfl,rfl⟩
   ·rintro i s hi ⟨rfl,h1⟩
    have h6:W.jF.c6 a b (i:Int) some=some (decide (a[i]≠b[i]'(by omega))):=by
     simp only [W.jF.c6,Uo hi,Uo (show i < b.length by omega),jh]
     exact Jq (by simp)
    simp only [W.jF.c100004,br_if,h6,jh]
    rw [if_pos (by simpa using hi)]
    by_cases hd:a[i]=b[i]'(by omega)
    ·rw [if_neg (by simpa using hd),Jh (by omega)]
     exact .inl ⟨_,rfl,by simp,by rw [List.take_succ_eq_append_getElem hi,List.take_succ_eq_append_getElem (by omega),h1,hd]⟩
    ·rw [if_pos (by simpa using hd)]
     exact .inr ⟨_,rfl,.inl ⟨_,rfl,fun e=>hd (by subst e;rfl)⟩⟩
   ·rintro s ⟨rfl,h1⟩
    simp only [W.jF.c100004,br_if]
    rw [if_neg (by simp)]
    rw [List.take_length,hlen,List.take_length] at h1
    exact ⟨_,rfl,.inr ⟨_,rfl,h1⟩⟩
  obtain ⟨r,hr,h⟩:=h
  rw [hr,jh]
  rcases h with ⟨u,rfl,h⟩ | ⟨u,rfl,h⟩
  ·rw [kl];simp [h]
  ·rw [ky];simp [h]
 ·rw [if_pos (by simp;omega)]
  have:a≠b:=fun e=>hlen (by rw [e])
  simp [this]
theorem sameCircuit_ok (a b:Cir) (ha:WCir a):W.jn a b=some (decide (a=b)):=by
 obtain ⟨q1,b1,l1⟩:=a
 obtain ⟨q2,b2,l2⟩:=b
 obtain ⟨hl,hw⟩:=ha
 simp only at hl hw
 have h1:W.jn.c1 q1 b1 l1 q2 b2 l2 some=some (decide (q1≠q2∨b1≠b2∨l1.length≠l2.length)):=by
  simp only [W.jn.c1,br_or];exact Jq (by simp;try omega)
 simp only [W.jn,h1,jh,br_if,decide_eq_true_eq]
 by_cases h0:q1≠q2∨b1≠b2∨l1.length≠l2.length
 ·rw [if_pos h0]
  have:(q1,b1,l1)≠(q2,b2,l2):=by
   intro e
   injection e with e1 e
   injection e with e2 e
   subst e1;subst e2;subst e
   simp at h0
  simp [this]
 ·rw [if_neg h0]
  simp only [not_or,Decidable.not_not] at h0
  obtain ⟨rfl,rfl,hlen⟩:=h0
  have h : ∃ r,iter (fun s:Int↦W.jn.c100004 s l1 l2 some) (0:Int)=some r∧((∃ u,r = .inl u∧l1≠l2) ∨ ∃ u,r = .inr u∧l1=l2):=by
   refine iter_upto l1.length (fun i s=>s=(i:Int)∧l1.take i=l2.take i) _ ?_ ?_ ⟨rfl,rfl⟩
   ·rintro i s hi ⟨rfl,h1⟩
    have hwi:=hw _ (List.getElem_mem hi)
    have hi2:i < l2.length:=by omega
    have h8 : ∀ x y:Op,WOp x→W.jn.c8 x.1 x.2.1 x.2.2.1 x.2.2.2.1 x.2.2.2.2.1 x.2.2.2.2.2 y.1 y.2.1 y.2.2.1 y.2.2.2.1 y.2.2.2.2.1 y.2.2.2.2.2 some=some (decide (x≠y)):=by
     rintro ⟨x0,x1,x2,x3,x4,x5⟩ ⟨y0,y1,y2,y3,y4,y5⟩ hx
     simp only [W.jn.c8,br_or,sameInts_ok _ _ hx.1,sameInts_ok _ _ hx.2,jh]
     exact Jq (by simp;grind)
    simp only [W.jn.c100004,br_if,Uo hi,Uo hi2,jh,h8 _ _ hwi]
    rw [if_pos (by simpa using hi)]
    by_cases hd:l1[i]=l2[i]
    ·rw [if_neg (by simpa using hd),Jh (by omega)]
     exact .inl ⟨_,rfl,by simp,by rw [List.take_succ_eq_append_getElem hi,List.take_succ_eq_append_getElem hi2,h1,hd]⟩
    ·rw [if_pos (by simpa using hd)]
     exact .inr ⟨_,rfl,.inl ⟨_,rfl,fun e=>hd (by subst e;rfl)⟩⟩
   ·rintro s ⟨rfl,h1⟩
    simp only [W.jn.c100004,br_if]
    rw [if_neg (by simp)]
    rw [List.take_length,hlen,List.take_length] at h1
    exact ⟨_,rfl,.inr ⟨_,rfl,h1⟩⟩
  obtain ⟨r,hr,h⟩:=h
  rw [hr,jh]
  rcases h with ⟨u,rfl,h⟩ | ⟨u,rfl,h⟩
  ·rw [kl];simp [h]
  ·rw [ky];simp [h]
theorem answers_ok (c d:Cir) (f g:Int×Int) (hc:WCir c):W.jP c f d g=some (decide (f=g∧c=d)):=by
 have h1:W.jP.c1 c.1 c.2.1 c.2.2 f.1 f.2 d.1 d.2.1 d.2.2 g.1 g.2 some=some (decide (f=g∧c=d)):=by
  simp only [W.jP.c1,br_if,sameCircuit_ok c d hc,jh]
  obtain ⟨f0,f1⟩:=f
  obtain ⟨g0,g1⟩:=g
  simp [Ty.eqT]
  grind
 simp only [W.jP,h1,jh]
end Go.Ql
end
section
namespace Go.Ql
def invOp (o:Op):Op:=(o.1,(16 - o.2.1) % 16,o.2.2.1,o.2.2.2.1,o.2.2.2.2.1,o.2.2.2.2.2)
abbrev nix:Cir:=(0,0,[])
def inv (c:Cir):Cir:=(c.1,c.2.1,(c.2.2.map invOp).reverse)
def VU (c:Cir):Cir×Int×Int:=if (pur c).1≠0 then (nix,pur c) else (inv c,(0,0))
theorem notPure_zero : ∀ {l:List Op} {i:Nat},(kH i l).1=0→(∀ o∈l,¬ (o.1=5∨o.1=6∨o.2.2.2.2.2≠[]))∧kH i l=(0,0)
 | [],_,_=>⟨(fun _ h=>by cases h),rfl⟩
 | o::l,i,h=>by
   rw [kH] at h ⊢
   by_cases ho:o.1=5∨o.1=6∨o.2.2.2.2.2≠[]
   ·rw [if_pos ho] at h;cases h
   ·rw [if_neg ho] at h ⊢
    have:=notPure_zero h
    exact ⟨fun o' h'=>by
     rcases List.mem_cons.1 h' with rfl | h'
     ·exact ho
     ·exact this.1 o' h',this.2⟩
theorem pur_zero {c:Cir} (h:(pur c).1=0):GoodC c∧pur c=(0,0) ∧ ∀ o∈c.2.2,¬ (o.1=5∨o.1=6∨o.2.2.2.2.2≠[]):=by
 unfold pur at h ⊢
 by_cases h1:(chk c).1=0
 ·rw [if_neg (by simp [h1])] at h ⊢
  have:=notPure_zero h
  exact ⟨(Vh h1).1,this.2,this.1⟩
 ·rw [if_pos h1] at h
  exact absurd h h1
theorem reverse_ok (l:List Op) (hl:l.length≤1759218604390):W.jk l=some (l.reverse,()):=by
 have h : ∃ r,iter (fun s:Int×Int×List Op↦W.jk.c100001 s.1 s.2.1 s.2.2 some) ((0:Int),IntKind.i64.wrap ((l.length:Int) - 1),l)=some r∧r.2.2=l.reverse:=by
  refine iter_upto (l.length / 2) (fun i s=>s.1=(i:Int)∧s.2.1=(l.length:Int) - 1 - i∧s.2.2.length=l.length ∧ ∀ k:Nat,k < l.length→s.2.2[k]? = if k < i∨l.length≤k+i then l[l.length - 1 - k]? else l[k]?) _ ?_ ?_ ⟨rfl,by rw [Jh (by omega)];simp,rfl,fun k hk=>by rw [if_neg (by omega)]⟩
  ·rintro i ⟨a,b,t⟩ hi ⟨h1,h2,h3,h4⟩
   simp only at h1 h2 h3 h4
   subst h1
   obtain ⟨j,rfl,hj⟩ : ∃ j:Nat,b=j∧j=l.length - 1 - i:=⟨l.length - 1 - i,by omega,rfl⟩
   have hj2:j < l.length:=by omega
   simp only [W.jk.c100001,W.jk.c3,br_if]
   rw [if_pos (by simp;omega)]
   have ej:t[j]? = l[j]?:=by rw [h4 j hj2,if_neg (by omega)]
   have ei:t[i]? = l[i]?:=by rw [h4 i (by omega),if_neg (by omega)]
   rw [Uq (by omega),jh,Un,ej,List.getElem?_eq_getElem hj2,jh,Uq (by omega),jh,Un,ei,List.getElem?_eq_getElem (show i < l.length by omega)]
   simp only [jh,Int.toNat_natCast,List.length_set]
   rw [Uq (by omega),jh,Un,List.getElem?_set_ne (by omega),ej,List.getElem?_eq_getElem hj2]
   simp only [jh]
   rw [Jh (by omega),Jh (by omega)]
   refine .inl ⟨_,rfl,by simp,by simp;omega,by simp [h3],fun k hk => ?_⟩
   simp only [List.getElem?_set,List.length_set,h3]
   by_cases e1:j=k
   ·subst e1
    rw [if_pos rfl,if_pos hj2,if_pos (by omega),show l.length - 1 - j=i by omega,List.getElem?_eq_getElem (show i < l.length by omega)]
   ·rw [if_neg e1]
    by_cases e2:i=k
    ·subst e2
     rw [if_pos rfl,if_pos (by omega),if_pos (by omega),show l.length - 1 - i=j by omega,List.getElem?_eq_getElem hj2]
    ·rw [if_neg e2,h4 k hk]
     by_cases e3:k < i∨l.length≤k+i
     ·rw [if_pos e3,if_pos (by omega)]
     ·rw [if_neg e3,if_neg (by omega)]
  ·rintro ⟨a,b,t⟩ ⟨h1,h2,h3,h4⟩
   simp only at h1 h2 h3 h4
   subst h1;subst h2
   simp only [W.jk.c100001,br_if]
   rw [if_neg (by simp;omega)]
   refine ⟨_,rfl,?_⟩
   apply List.ext_getElem?
   intro k
   by_cases hk:k < l.length
   ·show t[k]? = _
    rw [h4 k hk,List.getElem?_reverse hk]
    by_cases e:k < l.length / 2∨l.length≤k+l.length / 2
    ·rw [if_pos e]
    ·rw [if_neg e,show l.length - 1 - k=k by omega]
   ·show t[k]? = _
    rw [List.getElem?_eq_none (by omega),List.getElem?_eq_none (by simp;omega)]
 obtain ⟨r,hr,h⟩:=h
 simp only [W.jk,hr,jh,h]
theorem inv1_ok (o:Op) (h:0≤o.2.1∧o.2.1≤15):W.Js o=some (invOp o):=by
 simp only [W.Js,invOp]
 rw [Jh (by omega),Int.tmod_eq_emod_of_nonneg (by omega)]
theorem eachInv_ok (c:Cir) (hc:WCir c) (hk : ∀ o∈c.2.2,0≤o.2.1∧o.2.1≤15):W.jv c=some (c.1,c.2.1,c.2.2.map invOp,()):=by
 obtain ⟨qn,bn,ops⟩:=c
 obtain ⟨hl,hw⟩:=hc
 simp only at hl hw hk
 have h : ∃ r,iter (fun s:Int×List Op↦W.jv.c100003 ops (ops.length:Int) s.1 s.2 some) ((0:Int),[])=some r∧r.2=ops.map invOp:=by
  refine Jv (l:=ops) (fun pre r s=>s=((pre.length:Int),pre.map invOp)) _ ?_ ?_ rfl
  ·rintro pre a r s rfl rfl
   simp only [List.length_append,List.length_cons] at hl
   simp only [W.jv.c100003,W.jv.c5,br_if,JK,jh,WOp.eta,copied_ok a (hw a (by simp)),inv1_ok a (hk a (by simp))]
   rw [if_pos JY,Jw (by simp;omega),Jh (by omega)]
   exact .inl ⟨_,rfl,by simp⟩
  ·rintro s rfl
   simp only [W.jv.c100003,br_if]
   rw [if_neg (by simp)]
   exact ⟨_,rfl,rfl⟩
 obtain ⟨r,hr,h⟩:=h
 simp only [W.jv,hr,jh,h]
theorem WCir.eta (c:Cir):(c.1,c.2.1,c.2.2)=c:=rfl
theorem inverse_ok (c:Cir) (hc:WCir c):W.jS c=some (VU c):=by
 simp only [W.jS,W.jS.c3,WCir.eta,pure_ok c hc,jh,br_if,VU]
 by_cases h:(pur c).1=0
 ·obtain ⟨hg,hp,_⟩:=pur_zero h
  rw [if_neg (by simp [h]),if_neg (by simp [h]),eachInv_ok c hc (fun o ho=>(YI (hg.ops o ho)).k)]
  simp only [jh]
  rw [reverse_ok _ (by simpa using hc.1)]
  rfl
 ·rw [if_pos (by simp [h]),if_pos h]
theorem rinverse_ok (c:Cir) (hc:WCir c):W.jw c=some (VU c):=by
 simp only [W.jw,W.jw.c3,W.jw.c12,WCir.eta,rpure_ok c hc,jh,br_if,VU]
 by_cases h:(pur c).1=0
 ·obtain ⟨hg,hp,_⟩:=pur_zero h
  obtain ⟨qn,bn,ops⟩:=c
  obtain ⟨hl,hw⟩:=hc
  simp only at hl hw
  rw [if_neg (by simp [h]),if_neg (by simp [h])]
  have hk : ∀ o∈ops,0≤o.2.1∧o.2.1≤15:=fun o ho=>(YI (hg.ops o ho)).k
  have key : ∃ r,iter (fun s:Int×List Op↦W.jw.c100006 s.1 ops s.2 some) (IntKind.i64.wrap ((ops.length:Int) - 1),[])=some r∧r.2=(ops.map invOp).reverse:=by
   refine Jv (l:=ops.reverse) (fun pre r s=>s=((r.length:Int) - 1,pre.map invOp)) _ ?_ ?_ (by rw [Jh (by omega)];simp)
   ·rintro pre o r s he rfl
    have he':ops=r.reverse++o::pre.reverse:=by
     have:=congrArg List.reverse he
     simpa using this
    have ho:o∈ops:=by rw [he'];simp
    have hidx:idx ops ((o::r).length - 1:Int)=some o:=by
     have:=JK (pre:=r.reverse) (a:=o) (r:=pre.reverse)
     rw [he']
     simpa using this
    have hlen:=congrArg List.length he'
    simp only [List.length_append,List.length_reverse,List.length_cons] at hlen
    have h2:W.jw.c236869 o.2.1 some=some ((16 - o.2.1) % 16):=by
     have:=hk o ho
     simp only [W.jw.c236869,br_if]
     rw [Jh (by omega)]
     split
     ·rename_i h;simp at h;congr 1;omega
     ·rename_i h;simp at h;congr 1;omega
    simp only [W.jw.c100006,br_if,hidx,jh,rcopyOp_ok o (hw o ho),h2]
    rw [if_pos (by simp),Jw (by simp;omega),Jh (by simp;omega)]
    exact .inl ⟨_,rfl,by simp [invOp]⟩
   ·rintro s rfl
    simp only [W.jw.c100006,br_if]
    rw [if_neg (by simp)]
    exact ⟨_,rfl,by simp⟩
  obtain ⟨r,hr,h'⟩:=key
  rw [hr]
  simp only [jh,h',hp,inv]
 ·rw [if_pos (by simp [h]),if_pos h]
def base (c:Cir) (n:Int):List Op:=if n < 0 then (inv c).2.2 else c.2.2
end Go.Ql
end
section
namespace Go.Ql
end Go.Ql
end
section
namespace Go.Ql
def dtx (n:Nat):List UInt8:=if n < 10 then [UInt8.ofNat (48+n)] else [UInt8.ofNat (48+n / 10),UInt8.ofNat (48+n % 10)]
def decI (n:Int):List UInt8:=dtx n.toNat
theorem VA (n:Nat):(dtx n).length≤2:=by unfold dtx;split <;> simp
set_option maxRecDepth 100000 in
theorem itoa_nat : ∀ n:Nat,n < 100→W.Jl (n:Int)=some (dtx n):=by decide +kernel
theorem itoa_ok {n:Int} (h:0≤n∧n < 100):W.Jl n=some (decI n):=by
 obtain ⟨k,rfl⟩:=Int.eq_ofNat_of_zero_le h.1
 exact itoa_nat k (by omega)
def ints (l:List UInt8):List Int:=l.map fun b=>(b.toNat:Int)
theorem ints_append (a b:List UInt8):ints (a++b)=ints a++ints b:=List.map_append
theorem ku (a:List UInt8):(ints a).length=a.length:=List.length_map ..
theorem kI (s:List UInt8) (t:List Int) (h:t.length+s.length≤140737488355328):W.jo s t=some ((s.length:Int),(),t++ints s,()):=by
 simp only [W.jo,W.jR,jh]
 rw [Jw (by simpa using h)]
 rfl
theorem writeByte_ok (c:Int) (t:List Int) (h:t.length+1≤140737488355328):W.jI c t=some ((),t++[c],()):=by
 simp only [W.jI,W.jR,jh]
 rw [Jw (by simpa using h)]
 rfl
def word (k:Int):List UInt8:=if k=1 then [112,104,97,115,101] else if k=2 then [120] else if k=3 then [104] else if k=4 then [112] else if k=5 then [109,101,97,115,117,114,101] else [114,101,115,101,116]
theorem word_len (k:Int):(word k).length≤7:=by
 unfold word
 repeat' split
 all_goals decide
theorem word_ok (k:Int):W.JS k=some (word k):=by
 simp only [W.JS,br_if,word,beq_iff_eq]
 repeat' split
 all_goals rfl
def sp (n:Int):List UInt8:=32::decI n
theorem Us (n:Int):(sp n).length≤3:=by unfold sp decI;have:=VA n.toNat;simp;omega
def spv (v:Int):List UInt8:=if v < 0 then 32::33::decI (-v - 1) else sp (v - 1)
theorem spv_len (n:Int):(spv n).length≤4:=by
 unfold spv
 split
 ·unfold decI;have:=VA (-n - 1).toNat;simp only [List.length_cons];omega
 ·have:=Us (n - 1);omega
theorem YV {α:Type} (f:α→List UInt8) (k:Nat) (hf : ∀ a,(f a).length≤k) : ∀ l:List α,(l.flatMap f).length≤k*l.length
 | []=>by simp
 | a::l=>by
   have:=YV f k hf l
   have:=hf a
   simp only [List.flatMap_cons,List.length_append,List.length_cons,Nat.mul_succ]
   omega
def lineT (o:Op):List UInt8:=
 word o.1++(if o.1=1∨o.1=4 then sp o.2.1 else [])++(if o.1≠1 then sp o.2.2.2.1 else [])++(if o.2.2.1≠[] then [32,111,110]++o.2.2.1.flatMap sp else [])
  ++ (if o.1=5 then [32,116,111]++sp o.2.2.2.2.1 else [])++(if o.2.2.2.2.2≠[] then [32,105,102]++o.2.2.2.2.2.flatMap spv else [])++[10]
theorem Uw {p:Prop} [Decidable p] {a:List UInt8} {k:Nat} (h:a.length≤k):(if p then a else []).length≤k:=by
 split
 ·exact h
 ·exact Nat.zero_le _
theorem lineT_len (o:Op):(lineT o).length≤30+3*o.2.2.1.length+4*o.2.2.2.2.2.length:=by
 have h1:=word_len o.1
 have h2:=Uw (p:=o.1=1∨o.1=4) (Us o.2.1)
 have h3:=Uw (p:=o.1≠1) (Us o.2.2.2.1)
 have h4:=Uw (p:=o.2.2.1≠[]) (a:=[32,111,110]++o.2.2.1.flatMap sp) (k:=3+3*o.2.2.1.length) (by have:=YV sp 3 Us o.2.2.1;simp only [List.length_append,List.length_cons,List.length_nil];omega)
 have h5:=Uw (p:=o.1=5) (a:=[32,116,111]++sp o.2.2.2.2.1) (k:=6) (by have:=Us o.2.2.2.2.1;simp;omega)
 have h6:=Uw (p:=o.2.2.2.2.2≠[]) (a:=[32,105,102]++o.2.2.2.2.2.flatMap spv) (k:=3+4*o.2.2.2.2.2.length) (by have:=YV spv 4 spv_len o.2.2.2.2.2;simp only [List.length_append,List.length_cons,List.length_nil];omega)
 unfold lineT
 simp only [List.length_append,List.length_cons,List.length_nil]
 omega
theorem nodup_len : ∀ (n:Nat) {l:List Int},l.Nodup→(∀ x∈l,0≤x∧x < n)→l.length≤n
 | 0,l,_,h=>by
   cases l with
   | nil=>exact Nat.le_refl 0
   | cons a l=>have:=h a (by simp);omega
 | n+1,l,hd,h=>by
   by_cases hm:(n:Int)∈l
   ·have h1:=nodup_len n (l:=l.erase n) (hd.erase _) (fun x hx=>by
     have hx':=List.mem_of_mem_erase hx
     have h2:=h x hx'
     have h3:x≠n:=fun e=>by subst e;exact (List.Nodup.not_mem_erase hd) hx
     omega)
    rw [List.length_erase_of_mem hm] at h1
    omega
   ·have:=nodup_len n hd (fun x hx=>by
     have h2:=h x hx
     have h3:x≠n:=fun e=>hm (e ▸ hx)
     omega)
    omega
theorem GoodOp.len {o:Op} {qn bn:Int} (h:GoodOp o qn bn) (hq:qn≤12):(lineT o).length≤200∧o.2.2.1.length≤12:=by
 have h1:=(ctlBad_zero.1 h.ctls)
 have h2:=nodup_len 12 h1.2 (fun x hx=>by have:=h1.1 x hx;omega)
 have h3:=lineT_len o
 have h4:=h.ifs
 exact ⟨by omega,h2⟩
theorem Ub (ns:List Int) (t:List Int) (hn : ∀ n∈ns,0≤n∧n < 100) (hl:ns.length≤1000) (ht:t.length≤100000000):W.jz ns t=some (t++ints (ns.flatMap sp),()):=by
 have h : ∃ r,iter (fun s:Int×List Int↦W.jz.c100001 ns (ns.length:Int) s.1 s.2 some) ((0:Int),t)=some r∧r.2=t++ints (ns.flatMap sp):=by
  refine Jv (l:=ns) (fun pre r s=>s=((pre.length:Int),t++ints (pre.flatMap sp))) _ ?_ ?_ (by simp [ints])
  ·rintro pre a r s rfl rfl
   have hp:=YV sp 3 Us pre
   have ha:=VA a.toNat
   simp only [List.length_append,List.length_cons] at hl
   have h3:W.jz.c3 a (t++ints (pre.flatMap sp)) some=some (t++ints ((pre++[a]).flatMap sp)):=by
    simp only [W.jz.c3,itoa_ok (hn a (by simp)),jh]
    rw [Jw (by simp [decI];omega),jh,kI _ _ (by try simp only [List.length_append,List.length_cons,List.length_nil,ku,decI];omega)]
    simp [jh,sp,ints]
   simp only [W.jz.c100001,br_if,JK,jh,h3]
   rw [if_pos JY,Jh (by omega)]
   exact .inl ⟨_,rfl,by simp⟩
  ·rintro s rfl
   simp only [W.jz.c100001,br_if]
   rw [if_neg (by simp)]
   exact ⟨_,rfl,rfl⟩
 obtain ⟨r,hr,h⟩:=h
 simp only [W.jz,hr,jh,h]
theorem ifBad_not {bn:Int} {l:List Int} (h : ¬ ifBad bn l) : ∀ v∈l,v≠0∧v≤bn ∧ -bn≤v:=by
 intro v hv
 have : ¬ (v=0∨bn < v∨v < -bn):=fun hb=>h ⟨v,hv,hb⟩
 omega
theorem line_ok (o:Op) (qn bn:Int) (t:List Int) (h:GoodOp o qn bn) (hq:qn≤12) (hb:bn≤12) (ht:t.length≤10000000):W.jc o t=some (t++ints (lineT o),()):=by
 have hlen:=h.len hq
 have hll:=lineT_len o
 obtain ⟨k,a,ctl,q,bit,cond⟩:=o
 obtain ⟨h1,h2,h3,h4,h5,h6,h7,h8,h9,h10⟩:=h
 simp only at h1 h2 h3 h4 h5 h6 h7 h8 h9 h10 hlen hll
 have hctl:=(ctlBad_zero.1 h7).1
 have hcond:=ifBad_not h10
 have c2:W.jc.c2 k t some=some (t++ints (word k)):=by
  have:=word_len k
  simp only [W.jc.c2,word_ok,jh]
  rw [kI _ _ (by omega)]
  rfl
 have c12 : ∀ t:List Int,t.length≤20000000→W.jc.c212293 k a t some=some (t++ints (if k=1∨k=4 then sp a else [])):=by
  intro t ht
  simp only [W.jc.c212293,turns_ok,jh]
  by_cases hk:k=1∨k=4
  ·rw [br_pos hk,Ub [a] t (by simpa using ⟨h2.1,by omega⟩) (by simp) (by omega),if_pos hk]
   simp [jh]
  ·rw [br_neg hk,if_neg hk]
   simp [ints]
 have c20 : ∀ t:List Int,t.length≤20000000→W.jc.c220485 k q t some=some (t++ints (if k≠1 then sp q else [])):=by
  intro t ht
  simp only [W.jc.c220485]
  by_cases hk:k≠1
  ·rw [Vx (by simpa using hk),Ub [q] t (by simpa using ⟨h4.1,by omega⟩) (by simp) (by omega),if_pos hk]
   simp [jh]
  ·rw [YY (by simpa using hk),if_neg hk]
   simp [ints]
 have c28 : ∀ t:List Int,t.length≤20000000→W.jc.c228679 ctl t some=some (t++ints (if ctl≠[] then [32,111,110]++ctl.flatMap sp else [])):=by
  intro t ht
  simp only [W.jc.c228679]
  by_cases hk:ctl≠[]
  ·rw [Vx (by cases ctl <;> simp_all),kI _ _ (by try simp only [List.length_append,List.length_cons,List.length_nil,ku,decI];omega),jh,Ub ctl _ (fun n hn=>by have:=hctl n hn;omega) (by omega) (by try simp only [List.length_append,List.length_cons,List.length_nil,ku,decI];omega),if_pos hk]
   simp [jh,ints]
  ·rw [YY (by cases ctl <;> simp_all),if_neg hk]
   simp [ints]
 have c40 : ∀ t:List Int,t.length≤20000000→W.jc.c240967 k bit t some=some (t++ints (if k=5 then [32,116,111]++sp bit else [])):=by
  intro t ht
  simp only [W.jc.c240967]
  by_cases hk:k=5
  ·rw [Vx (by simpa using hk),kI _ _ (by try simp only [List.length_append,List.length_cons,List.length_nil,ku,decI];omega),jh,Ub [bit] _ (by simp;omega) (by simp) (by try simp only [List.length_append,List.length_cons,List.length_nil,ku,decI];omega),if_pos hk]
   simp [jh,ints]
  ·rw [YY (by simpa using hk),if_neg hk]
   simp [ints]
 have c53 : ∀ t:List Int,t.length≤20000000→W.jc.c253274 cond t some=some (t++ints (if cond≠[] then [32,105,102]++cond.flatMap spv else [])):=by
  intro t ht
  simp only [W.jc.c253274]
  by_cases hk:cond≠[]
  ·rw [Vx (by cases cond <;> simp_all),kI _ _ (by try simp only [List.length_append,List.length_cons,List.length_nil,ku,decI];omega),jh,if_pos hk]
   have h : ∃ r,iter (fun s:Int×List Int↦W.jc.c100016 cond (cond.length:Int) s.1 s.2 some) ((0:Int),t++ints [32,105,102])=some r∧r.2=t++ints [32,105,102]++ints (cond.flatMap spv):=by
    refine Jv (l:=cond) (fun pre r s=>s=((pre.length:Int),t++ints [32,105,102]++ints (pre.flatMap spv))) _ ?_ ?_ (by simp [ints])
    ·rintro pre v r s rfl rfl
     have hp:=YV spv 4 spv_len pre
     simp only [List.length_append,List.length_cons] at h9
     have hv:=hcond v (by simp)
     have ha:=VA (-v - 1).toNat
     have h3:W.jc.c269640 (pre++v::r) (pre.length:Int) (t++ints [32,105,102]++ints (pre.flatMap spv)) some=some (t++ints [32,105,102]++ints ((pre++[v]).flatMap spv)):=by
      simp only [W.jc.c269640,JK,jh]
      by_cases hv0:v < 0
      ·rw [br_pos hv0]
       simp only [W.jc.c19]
       rw [Jh (x:=0 - v) (by omega),Jh (by omega),itoa_ok (by omega),jh,Jw (by unfold decI;have:=VA (0 - v - 1).toNat;rw [decide_eq_true_eq];show 2+_≤_;omega),jh,kI _ _ (by have:=VA (0 - v - 1).toNat;try simp only [List.length_append,List.length_cons,List.length_nil,ku,decI];omega)]
       simp [jh,spv,hv0,ints]
      ·rw [br_neg hv0,Jh (by omega),Ub [v - 1] _ (by simp;omega) (by simp) (by try simp only [List.length_append,List.length_cons,List.length_nil,ku,decI];omega)]
       simp [jh,spv,hv0,ints]
     simp only [W.jc.c100016,br_if,jh,h3]
     rw [if_pos JY,Jh (by omega)]
     exact .inl ⟨_,rfl,by simp⟩
    ·rintro s rfl
     simp only [W.jc.c100016,br_if]
     rw [if_neg (by simp)]
     exact ⟨_,rfl,rfl⟩
   obtain ⟨r,hr,h⟩:=h
   show bnd (iter (fun s:Int×List Int↦W.jc.c100016 cond (cond.length:Int) s.1 s.2 some) ((0:Int),t++ints [32,105,102])) _=_
   rw [hr,jh,h,ints_append,List.append_assoc]
  ·rw [YY (by cases cond <;> simp_all),if_neg hk]
   simp [ints]
 simp only [lineT,List.length_append,List.length_cons,List.length_nil] at hlen
 simp only [W.jc,c2,jh]
 rw [c12 _ (by try simp only [List.length_append,List.length_cons,List.length_nil,ku,decI];omega),jh,c20 _ (by try simp only [List.length_append,List.length_cons,List.length_nil,ku,decI];omega),jh,c28 _ (by try simp only [List.length_append,List.length_cons,List.length_nil,ku,decI];omega),jh,c40 _ (by try simp only [List.length_append,List.length_cons,List.length_nil,ku,decI];omega),jh,c53 _ (by try simp only [List.length_append,List.length_cons,List.length_nil,ku,decI];omega),jh]
 rw [writeByte_ok _ _ (by try simp only [List.length_append,List.length_cons,List.length_nil,ku,decI];omega)]
 simp [jh,lineT,ints]
end Go.Ql
end
section
namespace Go.Ql
def headT (q b:Int):List UInt8:=[113,117,98,105,116,115,32]++decI q++[32,98,105,116,115,32]++decI b++[10]
def printT (c:Cir):List UInt8:=headT c.1 c.2.1++c.2.2.flatMap lineT
theorem ints_back (l:List UInt8):(ints l).map (fun n=>UInt8.ofNat n.toNat)=l:=by
 unfold ints
 rw [List.map_map]
 conv=>rhs;rw [← List.map_id l]
 apply List.map_congr_left
 intro b _
 simp
theorem string_ok (l:List UInt8) (h:l≠[]):W.Jg (ints l)=some (l,()):=by
 unfold W.Jg
 have h1:(!List.isEmpty (ints l) && List.all (ints l) (fun n=>decide (0≤n) && decide (n < 256)))=true:=by
  rw [Bool.and_eq_true]
  refine ⟨by cases l <;> simp_all [ints],?_⟩
  rw [List.all_eq_true]
  intro n hn
  obtain ⟨b,_,rfl⟩:=List.mem_map.1 hn
  have:=b.toNat_lt
  simp only [Bool.and_eq_true,decide_eq_true_eq]
  omega
 rw [h1,ints_back]
 rfl
theorem decI_len (n:Int):(decI n).length≤2:=VA _
theorem print_ok (c:Cir) (hc:WCir c):W.jy c=some (if (chk c).1≠0 then ([],chk c) else (printT c,(0,0))):=by
 simp only [W.jy,W.jy.c3,WCir.eta,check_ok c hc,jh]
 by_cases h1:(chk c).1=0
 ·obtain ⟨hg,hz⟩:=Vh h1
  rw [YY (by simp [h1]),if_neg (by simp [h1])]
  obtain ⟨q,b,ops⟩:=c
  have hq:=hg.q
  have hb:=hg.b
  have hn:=hg.n
  have hops:=hg.ops
  simp only at hq hb hn hops
  have l1:=decI_len q
  have l2:=decI_len b
  have c5:W.jy.c5 q b [] some=some (ints (headT q b)):=by
   simp only [W.jy.c5]
   rw [itoa_ok (by omega),jh,Jw (by rw [decide_eq_true_eq];show 7+_≤_;omega),jh]
   rw [Jw (by rw [decide_eq_true_eq,List.length_append];show 7+_+6≤_;omega),jh,itoa_ok (by omega),jh]
   rw [Jw (by rw [decide_eq_true_eq,List.length_append,List.length_append];show 7+_+6+_≤_;omega),jh]
   rw [Jw (by rw [decide_eq_true_eq,List.length_append,List.length_append,List.length_append];show 7+_+6+_+1≤_;omega),jh]
   rw [kI _ _ (by
    show 0+_≤_
    rw [List.length_append,List.length_append,List.length_append,List.length_append]
    show 0+(7+_+6+_+1)≤_;omega)]
   rfl
  have key : ∃ r,iter (fun s:Int×List Int↦W.jy.c100007 ops (ops.length:Int) s.1 s.2 some) ((0:Int),ints (headT q b))=some r∧r.2=ints (printT (q,b,ops)):=by
   refine Jv (l:=ops) (fun pre r s=>s=((pre.length:Int),ints (headT q b++pre.flatMap lineT))∧(pre.flatMap lineT).length≤200*pre.length) _ ?_ ?_ (by simp)
   ·rintro pre o r s rfl ⟨rfl,hl⟩
    simp only [List.length_append,List.length_cons] at hn
    have ho:=YI (hops o (by simp))
    have hlo:=(ho.len hq.2).1
    simp only [W.jy.c100007,br_if,JK,jh,WOp.eta]
    rw [if_pos JY,line_ok o q b _ ho hq.2 hb.2 (by rw [ku,List.length_append];have:(headT q b).length≤20:=by (unfold headT;simp only [List.length_append,List.length_cons,List.length_nil];omega)
                                                   omega),Jh (by omega)]
    refine .inl ⟨_,rfl,?_,?_⟩
    ·simp only [jh,← ints_append,List.append_assoc]
     simp
    ·simp only [List.flatMap_append,List.length_append,List.flatMap_cons,List.flatMap_nil,List.append_nil,List.length_cons,List.length_nil]
     omega
   ·rintro s ⟨rfl,hl⟩
    simp only [W.jy.c100007,br_if]
    rw [if_neg (by simp)]
    exact ⟨_,rfl,rfl⟩
  obtain ⟨r,hr,h⟩:=key
  rw [c5]
  simp only [jh]
  rw [hr,jh,h,string_ok _ (by unfold printT headT;simp)]
  rfl
 ·rw [Vx (by simp [h1]),if_pos h1]
abbrev smallC:Cir:=(2,1,[(3,0,[],0,0,[]),(2,0,[0],1,0,[]),(5,0,[],1,0,[-1])])
theorem small_w:WCir smallC:=⟨by decide,by
 intro o ho
 simp only [smallC,List.mem_cons,List.mem_nil_iff,or_false] at ho
 rcases ho with rfl | rfl | rfl <;> exact ⟨by decide,by decide⟩⟩
theorem small_chk:chk smallC=(0,0):=by decide +kernel
theorem begun_ok:W.jO=some true:=by
 have h1:W.JV=some smallC:=rfl
 simp only [W.jO,h1,jh,print_ok _ small_w,small_chk]
 decide +kernel
end Go.Ql
end
section
namespace Go.Ql
abbrev opTy:Ty:=.st (.pair (.int .i64) (.pair (.int .i64) (.pair (.sl (.int .i64)) (.pair (.int .i64) (.pair (.int .i64) (.sl (.int .i64)))))))
abbrev cirTy:Ty:=.st (.pair (.int .i64) (.pair (.int .i64) (.sl opTy)))
theorem op_bytes:opTy.bytes=80:=by decide
theorem int_bytes:(Ty.int .i64).bytes=8:=by decide
theorem wcir_of {c:Cir} (h:Wf cirTy c):WCir c:=by
 obtain ⟨_,_,h1,_,h2⟩:=h
 refine ⟨?_,fun o ho => ?_⟩
 ·rw [op_bytes] at h1
  have:c.2.2.length*80≤140737488351232:=h1
  omega
 ·obtain ⟨_,_,⟨h3,_⟩,_,_,h4,_⟩:=h2 o ho
  rw [int_bytes] at h3 h4
  have h3:o.2.2.1.length*8≤140737488351232:=h3
  have h4:o.2.2.2.2.2.length*8≤140737488351232:=h4
  exact ⟨by omega,by omega⟩
end Go.Ql
end
end
