/- Part of the lifter: calls and loops, for any program. -/
import Derived.Test.YtcndclcpmelgoaaDoorLdO
import Derived.Laws.StructEq
import Derived.Laws.Cover3
import Derived.RangeFuncWrites
import Derived.RangeFuncLeaves
import Derived.OrdersIn
import Derived.LoopNIn
import Derived.TacticsIn
set_option linter.all false
section
set_option linter.unusedSectionVars false
namespace Go.Ql
def revT:Tau→Nat→Option Nat
 | [],_=>none
 | (j,p)::r,i=>bif Nat.beq p.1 i then some j else revT r i
theorem hasT_no {i:Nat} : ∀ {τ:Tau},hasT i τ=false → ∀ q∈τ,q.2.1≠i
 | [],_,q,hq=>by cases hq
 | (j,p)::r,h,q,hq=>by
   simp only [hasT,Bool.or_eq_false_iff] at h
   rcases List.mem_cons.1 hq with rfl | hq
   ·exact fun e=>(Jb.1 h.1) e.symm
   ·exact hasT_no h.2 q hq
theorem hasK_no {i:Nat} : ∀ {τ:Tau},hasK i τ=false → ∀ q∈τ,q.1≠i
 | [],_,q,hq=>by cases hq
 | (j,p)::r,h,q,hq=>by
   simp only [hasK,Bool.or_eq_false_iff] at h
   rcases List.mem_cons.1 hq with rfl | hq
   ·exact fun e=>(Jb.1 h.1) e.symm
   ·exact hasK_no h.2 q hq
theorem hasK_yes {j:Nat} : ∀ {τ:Tau},hasK j τ=true → ∃ p,look τ j=some p
 | [],h=>by cases h
 | (k,p)::r,h=>by
   simp only [hasK,Bool.or_eq_true] at h
   simp only [look]
   cases hb:Nat.beq k j with
   | true=>exact ⟨p,rfl⟩
   | false=>
     rcases h with h | h
     ·have:=beqN.1 h;subst this;exact absurd rfl (Jb.1 hb)
     ·obtain ⟨q,hq⟩:=hasK_yes h
      exact ⟨q,by simpa using hq⟩
theorem apart_look : ∀ {τ:Tau},Vp τ=true→(∀ q∈τ,look τ q.1=some q.2) ∧ ∀ q∈τ,∀ q'∈τ,q.2.1=q'.2.1→q.1=q'.1
 | [],_=>⟨fun q hq=>(by cases hq),fun q hq=>(by cases hq)⟩
 | (j,p)::r,h=>by
   simp only [Vp,Bool.and_eq_true,Bool.not_eq_true'] at h
   obtain ⟨⟨h1,h2⟩,h3⟩:=h
   obtain ⟨q1,q2⟩:=apart_look h3
   refine ⟨fun q hq => ?_,fun q hq q' hq' he => ?_⟩
   ·simp only [look]
    rcases List.mem_cons.1 hq with rfl | hq
    ·simp [beqN.2]
    ·rw [Jb.2 (fun e=>hasK_no h2 q hq e.symm)]
     exact q1 q hq
   ·rcases List.mem_cons.1 hq with rfl | hq <;> rcases List.mem_cons.1 hq' with rfl | hq'
    ·rfl
    ·exact absurd he.symm (hasT_no h1 q' hq')
    ·exact absurd he (hasT_no h1 q hq)
    ·exact q2 q hq q' hq' he
theorem apart_inj {τ:Tau} (h:Vp τ=true) {j j':Nat} {p p':Nat×Nat} (h1:look τ j=some p) (h2:look τ j'=some p') (he:p.1=p'.1):j=j':=
 (apart_look h).2 (j,p) (ky h1) (j',p') (ky h2) he
theorem revT_some : ∀ {τ:Tau} {i j:Nat},revT τ i=some j → ∃ p,(j,p)∈τ∧p.1=i
 | [],_,_,h=>by cases h
 | (k,p)::r,i,j,h=>by
   simp only [revT] at h
   cases hb:Nat.beq p.1 i with
   | true=>rw [hb] at h;simp only [cond_true,Option.some.injEq] at h;subst h;exact ⟨p,by simp,beqN.1 hb⟩
   | false=>
     rw [hb] at h
     obtain ⟨q,h1,h2⟩:=revT_some (show revT r i=some j from h)
     exact ⟨q,List.mem_cons_of_mem _ h1,h2⟩
theorem revT_none : ∀ {τ:Tau} {i:Nat},revT τ i=none → ∀ q∈τ,q.2.1≠i
 | [],_,_,q,hq=>by cases hq
 | (k,p)::r,i,h,q,hq=>by
   simp only [revT] at h
   cases hb:Nat.beq p.1 i with
   | true=>rw [hb] at h;cases h
   | false=>
     rw [hb] at h
     rcases List.mem_cons.1 hq with rfl | hq
     ·exact Jb.1 hb
     ·exact revT_none h q hq
theorem revT_of {τ:Tau} (h:Vp τ=true) {j:Nat} {p:Nat×Nat} (h1:look τ j=some p):revT τ p.1=some j:=by
 cases hr:revT τ p.1 with
 | none=>exact absurd rfl (revT_none hr (j,p) (ky h1))
 | some j'=>
   obtain ⟨q,q1,q2⟩:=revT_some hr
   exact congrArg some ((apart_look h).2 (j',q) q1 (j,p) (ky h1) q2)
theorem backT_at {ob:Objs} {dst:Nat} {σ:Ren} : ∀ {l:List (Nat×Ob)} {τ:Tau},backT ob dst σ l=some τ →
 (∀ j o,look l j=some o → ∃ p,look τ j=some p∧backN ob dst σ j o=some p)∧(∀ j p,look τ j=some p → ∃ o,look l j=some o) ∧ ∀ j,hasK j τ=false → ∀ q∈l,q.1≠j
 | [],τ,h=>by
   simp only [backT,Option.some.injEq] at h
   subst h
   exact ⟨fun j o h=>(by simp [look] at h),fun j p h=>(by simp [look] at h),fun j _ q hq=>(by cases hq)⟩
 | (k,ok)::l,τ,h=>by
   simp only [backT] at h
   split at h
   ·rename_i p τ1 h1 h2
    simp only [Option.some.injEq] at h
    subst h
    obtain ⟨q1,q2,q3⟩:=backT_at h2
    refine ⟨fun j o hj => ?_,fun j p' hj => ?_,fun j hj q hq => ?_⟩
    ·simp only [look] at hj ⊢
     cases hb:Nat.beq k j with
     | true=>
       rw [hb] at hj
       have:=beqN.1 hb
       subst this
       simp only [cond_true,Option.some.injEq] at hj
       subst hj
       exact ⟨p,rfl,h1⟩
     | false=>rw [hb] at hj;exact q1 j o hj
    ·simp only [look] at hj ⊢
     cases hb:Nat.beq k j with
     | true=>exact ⟨ok,rfl⟩
     | false=>rw [hb] at hj;exact q2 j p' hj
    ·simp only [hasK,Bool.or_eq_false_iff] at hj
     rcases List.mem_cons.1 hq with rfl | hq
     ·exact fun e=>Jb.1 hj.1 e.symm
     ·exact q3 j hj.2 q hq
   ·cases h
def Once (l:List (Nat×Ob)):Prop:=l.Pairwise fun a b=>a.1≠b.1
theorem backT_once {ob:Objs} {dst:Nat} {σ:Ren} : ∀ {l:List (Nat×Ob)} {τ:Tau},backT ob dst σ l=some τ→Vp τ=true→Once l
 | [],_,_,_=>List.Pairwise.nil
 | (k,ok)::l,τ,h,ha=>by
   simp only [backT] at h
   split at h
   ·rename_i p τ1 h1 h2
    simp only [Option.some.injEq] at h
    subst h
    simp only [Vp,Bool.and_eq_true,Bool.not_eq_true'] at ha
    exact List.Pairwise.cons (fun q hq e=>(backT_at h2).2.2 k ha.1.2 q hq e.symm) (backT_once h2 ha.2)
   ·cases h
def newOb (objs:List (Nat×Ob)) (τ:Tau) (p:Nat×Nat):Ob→Ob
 | .box cs => .box (cs.map (renA objs τ))
 | .arr _ _ e t xs => .arr p.2 false e t xs
 | .clo f a b => .clo f (a.map (renA objs τ)) (b.map (renA objs τ))
 | .gone => .gone
 | .deep _ _ e te t xs _ => .deep p.2 false e te t xs (some none)
def isClo:Ob→Bool
 | .clo _ _ _=>true
 | _=>false
theorem backU_at {objs:List (Nat×Ob)} {τ:Tau} {σ:Ren} (ha:Vp τ=true) : ∀ {l:List (Nat×Ob)} {v:Upd},backU objs τ σ l=some v→Once l →
 (∀ q∈v,∃ j o p,(j,o)∈l∧look τ j=some p∧q=(p.1,newOb objs τ p o)∧(isClo o=true→look σ j=none)) ∧
 (∀ j o p,(j,o)∈l→look τ j=some p→(isClo o=true ∧ ∃ i,look σ j=some i)∨(p.1,newOb objs τ p o)∈v)∧v.Pairwise (fun a b=>a.1≠b.1)
 | [],v,h,_=>by
   simp only [backU,Option.some.injEq] at h
   subst h
   exact ⟨fun q hq=>(by cases hq),fun j o p hq=>(by cases hq),List.Pairwise.nil⟩
 | (k,ok)::l,v,h,hon=>by
   cases hon with
   | cons hon1 hon2=>
   simp only [backU] at h
   split at h
   ·rename_i p v1 h1 h2
    obtain ⟨q1,q2,q3⟩:=backU_at ha h2 hon2
    have add : ∀ ob',ob'=newOb objs τ p ok→(isClo ok=true→look σ k=none)→v=(p.1,ob')::v1 →
     (∀ q∈v,∃ j o p,(j,o)∈(k,ok)::l∧look τ j=some p∧q=(p.1,newOb objs τ p o)∧(isClo o=true→look σ j=none)) ∧
     (∀ j o p,(j,o)∈(k,ok)::l→look τ j=some p→(isClo o=true ∧ ∃ i,look σ j=some i)∨(p.1,newOb objs τ p o)∈v)∧v.Pairwise (fun a b=>a.1≠b.1):=by
     rintro ob' rfl hclo rfl
     refine ⟨fun q hq => ?_,fun j o p' hj hp => ?_,List.Pairwise.cons (fun q hq e => ?_) q3⟩
     ·rcases List.mem_cons.1 hq with rfl | hq
      ·exact ⟨k,ok,p,by simp,h1,rfl,hclo⟩
      ·obtain ⟨j,o,p',e1,e2⟩:=q1 q hq
       exact ⟨j,o,p',List.mem_cons_of_mem _ e1,e2⟩
     ·rcases List.mem_cons.1 hj with hj | hj
      ·cases hj
       rw [h1] at hp
       cases hp
       exact .inr (by simp)
      ·exact (q2 j o p' hj hp).imp id (List.mem_cons_of_mem _)
     ·obtain ⟨j,o,p',e1,e2,e3,_⟩:=q1 q hq
      rw [e3] at e
      have:=apart_inj ha h1 e2 e
      subst this
      exact hon1 _ e1 rfl
    cases ok with
    | box cs=>
      simp only [Option.some.injEq] at h
      exact add _ rfl (fun h=>by cases h) h.symm
    | arr v0 fz e t xs=>
      cases fz with
      | true=>cases h
      | false=>
        simp only [cond_false,Option.some.injEq] at h
        exact add _ rfl (fun h=>by cases h) h.symm
    | gone=>
      simp only [Option.some.injEq] at h
      exact add _ rfl (fun h=>by cases h) h.symm
    | deep v0 fz e te t xs hole=>
      cases hf:(fz || hole.isSome) with
      | true=>simp only [hf] at h;cases h
      | false=>
        simp only [hf,cond_false,Option.some.injEq] at h
        exact add _ rfl (fun h=>by cases h) h.symm
    | clo f x y=>
      simp only at h
      split at h
      ·rename_i i hi
       simp only [Option.some.injEq] at h
       subst h
       refine ⟨fun q hq => ?_,fun j o p' hj hp => ?_,q3⟩
       ·obtain ⟨j,o,p',e1,e2⟩:=q1 q hq
        exact ⟨j,o,p',List.mem_cons_of_mem _ e1,e2⟩
       ·rcases List.mem_cons.1 hj with hj | hj
        ·cases hj
         exact .inl ⟨rfl,i,hi⟩
        ·exact q2 j o p' hj hp
      ·rename_i hi
       simp only [Option.some.injEq] at h
       exact add _ rfl (fun _=>hi) h.symm
   ·cases h
theorem backU_deep {objs:List (Nat×Ob)} {τ:Tau} {σ:Ren} : ∀ {l:List (Nat×Ob)} {v:Upd},backU objs τ σ l=some v → ∀ {j v0:Nat} {fz:Bool} {e te:TypeId} {t:Ty} {xs:List t.den} {hole:Option (Option (Int×Nat×Ty×Nat×Nat))},(j,Ob.deep v0 fz e te t xs hole)∈l→hole=none
 | [],_,_,_,_,_,_,_,_,_,_,hm=>by cases hm
 | (k,ok)::l,v,h,j,v0,fz,e,te,t,xs,hole,hm=>by
   simp only [backU] at h
   split at h
   ·rename_i p v1 h1 h2
    rcases List.mem_cons.1 hm with hm | hm
    ·cases hm
     cases hole with
     | none=>rfl
     | some q=>simp at h
    ·exact backU_deep h2 hm
   ·cases h
theorem layObs_all [GInv] : ∀ {v:Upd} {s s':St},Jh s v=some s'→v.Pairwise (fun a b=>a.1≠b.1) →
 ∀ q∈v,look s'.objs q.1=some q.2 ∧ ∃ s2:St,s2.slots=s.slots∧look s2.objs q.1=look s.objs q.1∧(∀ k,(∀ q∈v,q.1≠k)→look s2.objs k=look s.objs k)∧mayOb s2 q.1 q.2=true
 | [],_,_,_,_,q,hq=>by cases hq
 | (id,ob)::v,s,s',h,hp,q,hq=>by
   cases hp with
   | cons hp1 hp2=>
   simp only [Jh] at h
   cases hm:mayOb s id ob with
   | false=>rw [hm] at h;cases h
   | true=>
     rw [hm] at h
     have h:Jh ⟨s.slots,ins id ob s.objs⟩ v=some s':=h
     rcases List.mem_cons.1 hq with rfl | hq
     ·refine ⟨?_,s,rfl,rfl,fun _ _=>rfl,hm⟩
      rw [JI v h (fun p hp e=>hp1 p hp e.symm)]
      simp [Jl]
     ·obtain ⟨q1,s2,q2,q3,q4,q5⟩:=layObs_all h hp2 q hq
      refine ⟨q1,s2,q2,?_,fun k hk => ?_,q5⟩
      ·rw [q3]
       simp only [Jl,if_neg (hp1 q hq)]
      ·rw [q4 k (fun p hp=>hk p (List.mem_cons_of_mem _ hp))]
       simp only [Jl,if_neg (hk (id,ob) (by simp))]
theorem behind_perm (v:Upd):(JL v).Perm v:=List.filter_append_perm (fun p:Nat×Ob=>isFlatOb p.2) v
theorem behind_mem {v:Upd} {q:Nat×Ob}:q∈JL v↔q∈v:=(behind_perm v).mem_iff
theorem behind_apart {v:Upd} (h:v.Pairwise (fun a b=>a.1≠b.1)):(JL v).Pairwise (fun a b=>a.1≠b.1):=
 ((behind_perm v).pairwise_iff (fun h e=>h e.symm)).2 h
end Go.Ql
end

section
set_option linter.unusedSectionVars false
namespace Go.Ql
section
variable [GInv] {P:Program} {G:Env} {n:Nat} {w0 w w':World} {Z0:Bs} {Z Z':Nat→Prop} {st st1 st':St} {a:Act} {nm nm':Names} {o:Oper} {dst:Nat} {ρ:Type} {r:ρ}
theorem Vk {nm':Names} {objs objs':List (Nat×Ob)} {g:At→At} (hg : ∀ x v,rdA w Z nm objs x v→rdA w' Z' nm' objs' (g x) v) {cs:List At} {vs:List Value} (h:rdAs w Z nm objs cs vs):rdAs w' Z' nm' objs' (cs.map g) vs:=by
 refine ⟨by rw [List.length_map];exact h.1,fun i x v q1 q2 => ?_⟩
 rw [List.getElem?_map,Option.map_eq_some_iff] at q1
 obtain ⟨y,h1,rfl⟩:=q1
 exact hg y v (h.2 i y v h1 q2)
theorem rdD_ren {nm':Names} {objs objs':List (Nat×Ob)} {ob:List (Nat×Ob)} {τ:Tau} (hg : ∀ x v,rdA w Z nm objs x v→rdA w' Z' nm' objs' (renA ob τ x) v) {d:Dv} {v:Value} (h:rdD w Z nm objs d v):rdD w' Z' nm' objs' (renD ob τ d) v:=by
 cases d with
 | one x=>exact hg x v h
 | agg cs=>obtain ⟨vs,e,h1,h2⟩:=h;exact ⟨vs,e,Vk hg h1,h2⟩
 | tup cs=>obtain ⟨vs,e,h1⟩:=h;exact ⟨vs,e,Vk hg h1⟩
 | tgg k cs=>obtain ⟨vs,c0,r,e,e1,e2,h1,h2⟩:=h;exact ⟨vs,c0,r,e,e1,e2,Vk hg h1,h2⟩
theorem ownsM_len {e e':TypeId} {s s':Nat} {v:Value} {m m':Nat} {xs xs':List Value} (h:w.ownsM e s v m xs) (h':w'.ownsM e' s' v m' xs'):m=m':=by
 rcases h.2 with ⟨e1,e2⟩ | ⟨g,c,cur,e1,_⟩ <;> rcases h'.2 with ⟨f1,f2⟩ | ⟨g',c',cur',f1,_⟩
 ·rw [e2,f2]
 ·rw [e1] at f1;cases f1
 ·rw [e1] at f1;cases f1
 ·rw [e1] at f1;cases f1;rfl
theorem rdArr_len {v:Value} {e e':TypeId} {t t':Ty} {xs:List t.den} {xs':List t'.den} (h:rdArr w Z v e t xs) (h':rdArr w' Z' v e' t' xs'):xs.length=xs'.length:=by
 rcases h with ⟨_,c,h,_⟩ | ⟨j,u,l,h,b,es,cl,e1,_⟩
 ·rcases h' with ⟨_,c',h',_⟩ | ⟨j',u',l',h',b',es',cl',e1',_⟩
  ·exact ownsM_len h h'
  ·rcases h.2 with ⟨f1,_⟩ | ⟨_,_,_,f1,_⟩ <;> rw [f1] at e1' <;> cases e1'
 ·rcases h' with ⟨_,c',h',_⟩ | ⟨j',u',l',h',b',es',cl',e1',_⟩
  ·rcases h'.2 with ⟨f1,_⟩ | ⟨_,_,_,f1,_⟩ <;> rw [f1] at e1 <;> cases e1
  ·cases h;cases h';rfl
theorem backN_deep {ob:Objs} {σ:Ren} {j i v0:Nat} {fz:Bool} {e te:TypeId} {t:Ty} {xs:List t.den} {hole:Option (Option (Int×Nat×Ty×Nat×Nat))} {p:Nat×Nat} (h:backN ob dst σ j (.deep v0 fz e te t xs hole)=some p) (hj:look σ j=some i) :
 p.1=i∧gBox≤j ∧ ∃ v fz' xs' h',ob i=some (.deep v fz' e te t xs' h')∧((gFix≤j∧v0=0∧p.2=v)∨p.2=v+1):=by
 simp only [backN,hj] at h
 split at h
 ·rename_i v fz' e' te' t' xs' hole' hob
  cases hc:(Nat.ble gBox j && Nat.beq e e' && Nat.beq te te' && decide (t=t') && (Nat.blt j gFix || Nat.beq v0 0)) with
  | false=>rw [hc] at h;cases h
  | true=>
    rw [hc] at h
    simp only [Bool.and_eq_true,Bool.or_eq_true] at hc
    obtain ⟨⟨⟨⟨c1,c2⟩,c2'⟩,c3⟩,c4⟩:=hc
    have:=beqN.1 c2
    subst this
    have:=beqN.1 c2'
    subst this
    have:=of_decide_eq_true c3
    subst this
    simp only [cond_true,Option.some.injEq] at h
    subst h
    refine ⟨rfl,Nat.le_of_ble_eq_true c1,v,fz',xs',hole',hob,?_⟩
    cases hg:Nat.ble gFix j with
    | true=>
      have hg:=Nat.le_of_ble_eq_true hg
      refine .inl ⟨hg,?_,rfl⟩
      rcases c4 with c4 | c4
      ·rw [Nat.blt_eq] at c4;omega
      ·exact beqN.1 c4
    | false=>exact .inr rfl
 ·cases h
theorem Yn {ob:Objs} {σ:Ren} {j i:Nat} {o:Ob} {p:Nat×Nat} (h:backN ob dst σ j o=some p) (hj:look σ j=some i) :
 p.1=i∧gBox≤j ∧ ∀ v0 fz e t xs,o = .arr v0 fz e t xs → ∃ v fz' xs',ob i=some (.arr v fz' e t xs')∧((gFix≤j∧v0=0∧p.2=v)∨p.2=v+1):=by
 have other:(bif Nat.ble gBox j then some (i,0) else none)=some p→p.1=i∧gBox≤j:=by
  intro hb
  cases hc:Nat.ble gBox j with
  | false=>rw [hc] at hb;cases hb
  | true=>
    rw [hc] at hb
    simp only [cond_true,Option.some.injEq] at hb
    subst hb
    exact ⟨rfl,Nat.le_of_ble_eq_true hc⟩
 cases o with
 | box cs=>
   simp only [backN,hj] at h
   obtain ⟨q1,q2⟩:=other h
   exact ⟨q1,q2,fun _ _ _ _ _ he=>by cases he⟩
 | clo f x y=>
   simp only [backN,hj] at h
   obtain ⟨q1,q2⟩:=other h
   exact ⟨q1,q2,fun _ _ _ _ _ he=>by cases he⟩
 | gone=>
   simp only [backN,hj] at h
   obtain ⟨q1,q2⟩:=other h
   exact ⟨q1,q2,fun _ _ _ _ _ he=>by cases he⟩
 | deep v0 fz e te t xs hole=>
   obtain ⟨q1,q2,_⟩:=backN_deep h hj
   exact ⟨q1,q2,fun _ _ _ _ _ he=>by cases he⟩
 | arr v0 fz e t xs=>
   simp only [backN,hj] at h
   split at h
   ·rename_i v fz' e' t' xs' hob
    cases hc:(Nat.ble gBox j && Nat.beq e e' && decide (t=t') && (Nat.blt j gFix || Nat.beq v0 0)) with
    | false=>rw [hc] at h;cases h
    | true=>
      rw [hc] at h
      simp only [Bool.and_eq_true,Bool.or_eq_true] at hc
      obtain ⟨⟨⟨c1,c2⟩,c3⟩,c4⟩:=hc
      have:=beqN.1 c2
      subst this
      have:=of_decide_eq_true c3
      subst this
      simp only [cond_true,Option.some.injEq] at h
      subst h
      refine ⟨rfl,Nat.le_of_ble_eq_true c1,fun v1 fz1 e1 t1 xs1 he => ?_⟩
      cases he
      refine ⟨v,fz',xs',hob,?_⟩
      cases hg:Nat.ble gFix j with
      | true=>
        have hg:=Nat.le_of_ble_eq_true hg
        refine .inl ⟨hg,?_,rfl⟩
        rcases c4 with c4 | c4
        ·rw [Nat.blt_eq] at c4;omega
        ·exact beqN.1 c4
      | false=>exact .inr rfl
   ·cases h
theorem backN_fresh {ob:Objs} {σ:Ren} {j:Nat} {o:Ob} {p:Nat×Nat} (h:backN ob dst σ j o=some p) (hj:look σ j=none) :
 ((∃ v0 fz e t xs,o = .arr v0 fz e t xs)∧verOf ob p.1=some p.2)∨((∃ v0 fz e te t xs h,o = .deep v0 fz e te t xs h)∧verD ob p.1=some p.2)∨(isFlatOb o=false∨o = .gone)∧ob p.1=none:=by
 cases o with
 | deep v0 fz e te t xs hole=>
   simp only [backN,hj] at h
   split at h
   ·rename_i v hv
    simp only [Option.some.injEq] at h
    subst h
    exact .inr (.inl ⟨⟨_,_,_,_,_,_,_,rfl⟩,hv⟩)
   ·cases h
 | arr v0 fz e t xs=>
   simp only [backN,hj] at h
   split at h
   ·rename_i v hv
    simp only [Option.some.injEq] at h
    subst h
    exact .inl ⟨⟨_,_,_,_,_,rfl⟩,hv⟩
   ·cases h
 | box cs=>
   simp only [backN,hj] at h
   split at h
   ·rename_i hv
    simp only [Option.some.injEq] at h
    subst h
    exact .inr (.inr ⟨by first | exact .inl rfl | exact .inr rfl,hv⟩)
   ·cases h
 | clo f x y=>
   simp only [backN,hj] at h
   split at h
   ·rename_i hv
    simp only [Option.some.injEq] at h
    subst h
    exact .inr (.inr ⟨by first | exact .inl rfl | exact .inr rfl,hv⟩)
   ·cases h
 | gone=>
   simp only [backN,hj] at h
   split at h
   ·rename_i hv
    simp only [Option.some.injEq] at h
    subst h
    exact .inr (.inr ⟨by first | exact .inl rfl | exact .inr rfl,hv⟩)
   ·cases h
theorem once_look : ∀ {l:List (Nat×Ob)} {j:Nat} {x y:Ob},Once l→(j,x)∈l→look l j=some y→x=y
 | (k,z)::l,j,x,y,h,hm,hl=>by
   cases h with
   | cons h1 h2=>
   simp only [look] at hl
   rcases List.mem_cons.1 hm with hm | hm
   ·cases hm
    simp only [beqN.2,cond_true,Option.some.injEq] at hl
    exact hl
   ·rw [Jb.2 (h1 _ hm)] at hl
    exact once_look h2 hm hl
theorem mback (hrel:Rel n w0 Z0 st1 a w nm) {obx:Objs} (hox1 : ∀ i v fz e t xs,obx i=some (.arr v fz e t xs) → ∃ fz',look st1.objs i=some (.arr v fz' e t xs)) (hoxD : ∀ i v fz e te t xs h,obx i=some (.deep v fz e te t xs h) → ∃ fz',look st1.objs i=some (.deep v fz' e te t xs h)) (hox2 : ∀ i,obx i=none→look st1.objs i=none)
 {σ:Ren} {objsT:List (Nat×Ob)} (hm : ∀ j obT,look objsT j=some obT → ∃ i ob,look σ j=some i∧look st1.objs i=some ob∧ob.mine=true)
 {pst:St} {v:Value} (hp:Post w w' (Bs.of (Zc w0 Z0 nm st1.objs w) (nmT nm σ) objsT) nm' pst v) {d:Dv} {upd:Upd} (hk:backK obx dst σ pst=some (d,upd)) (hl:Jh st1 upd=some st') :
 ∃ nmF,Rel n w0 Z0 st' a w' nmF∧rdD w' (Zc w0 Z0 nmF st'.objs w') nmF st'.objs d v:=by
 unfold backK at hk
 split at hk
 ·rename_i τ hτ
  cases hc:(Vp τ && (σ.all fun p=>hasK p.1 τ)) with
  | false=>rw [hc] at hk;cases hk
  | true=>
  rw [hc] at hk
  simp only [cond_true] at hk
  rw [Bool.and_eq_true] at hc
  obtain ⟨hA,hall⟩:=hc
  split at hk
  ·rename_i upd0 d0 hU hans
   simp only [Option.some.injEq,Prod.mk.injEq] at hk
   obtain ⟨rfl,rfl⟩:=hk
   obtain ⟨hT1,hT2,_⟩:=backT_at hτ
   have hon:=backT_once hτ hA
   obtain ⟨u1,u2,u3⟩:=backU_at hA hU hon
   have u1:=fun q (hq:q∈JL upd0)=>u1 q (behind_mem.1 hq)
   have u2:=fun j o p h1 h2=>(u2 j o p h1 h2).imp id behind_mem.2
   have u3:=behind_apart u3
   generalize JL upd0=upd' at u1 u2 u3 hl ⊢
   have hla:=layObs_all hl u3
   have hsl:st'.slots=st1.slots:=layObs_slots _ hl
   have hcov : ∀ j i,look σ j=some i → ∃ p,look τ j=some p:=fun j i h=>hasK_yes (by
    have:=List.all_eq_true.1 hall (j,i) (ky h)
    exact this)
   have hT : ∀ j p,look τ j=some p → ∃ o,look pst.objs j=some o∧backN obx dst σ j o=some p:=by
    intro j p h
    obtain ⟨o,ho⟩:=hT2 j p h
    obtain ⟨p',h1,h2⟩:=hT1 j o ho
    rw [h] at h1
    cases h1
    exact ⟨o,ho,h2⟩
   
   obtain ⟨nmF,hnF⟩ : ∃ nmF:Names,nmF=fun id=>match revT τ id with
    | some j=>nm' j
    | none=>nm id:=⟨_,rfl⟩
   have nF1 : ∀ j p,look τ j=some p→nmF p.1=nm' j:=by
    intro j p h
    rw [hnF]
    simp only [revT_of hA h]
   have nF2 : ∀ id,(∀ j p,look τ j=some p→p.1≠id)→nmF id=nm id:=by
    intro id h
    rw [hnF]
    show (match revT τ id with
     | some j=>nm' j
     | none=>nm id)=nm id
    cases hr:revT τ id with
    | none=>rfl
    | some j=>
      obtain ⟨p,q1,q2⟩:=revT_some hr
      exact absurd q2 (h j p ((apart_look hA).1 (j,p) q1))
   have cases_id : ∀ id,(∃ j p o,look τ j=some p∧p.1=id∧look pst.objs j=some o∧backN obx dst σ j o=some p)∨((∀ j p,look τ j=some p→p.1≠id)∧look st'.objs id=look st1.objs id∧nmF id=nm id):=by
    intro id
    by_cases h : ∃ j p,look τ j=some p∧p.1=id
    ·obtain ⟨j,p,h1,h2⟩:=h
     obtain ⟨o,h3,h4⟩:=hT j p h1
     exact .inl ⟨j,p,o,h1,h2,h3,h4⟩
    ·have h' : ∀ j p,look τ j=some p→p.1≠id:=fun j p h1 h2=>h ⟨j,p,h1,h2⟩
     refine .inr ⟨h',JI _ hl (fun q hq => ?_),nF2 id h'⟩
     obtain ⟨j,o,p,_,e2,e3,_⟩:=u1 q hq
     rw [e3]
     exact h' j p e2
   have entry : ∀ j p o,look τ j=some p→look pst.objs j=some o→(p.1,newOb pst.objs τ p o)∈upd' ∨
    (isClo o=true∧(∃ i,look σ j=some i)∧look st'.objs p.1=look st1.objs p.1):=by
    intro j p o h1 h2
    rcases u2 j o p (ky h2) h1 with ⟨q1,i,q2⟩ | q
    ·refine .inr ⟨q1,⟨i,q2⟩,JI _ hl (fun q hq he => ?_)⟩
     obtain ⟨j',o',p',e1,e2,e3,e4⟩:=u1 q hq
     rw [e3] at he
     have:=apart_inj hA e2 h1 he
     subst this
     have:=once_look hon e1 h2
     subst this
     rw [e4 q1] at q2
     cases q2
    ·exact .inl q
   have G1 : ∀ j p o i,look τ j=some p→look pst.objs j=some o→backN obx dst σ j o=some p→look σ j=some i→held j o→nm' j=nm i:=by
    intro j p o i _ h2 h3 h4 h5
    obtain ⟨_,q2,_⟩:=Yn h3 h4
    rw [(hp.given j o q2 h2).1 h5]
    exact kw h4
   have G1D : ∀ j p o i,look pst.objs j=some o→backN obx dst σ j o=some p→look σ j=some i→heldD j o→hdr (nm' j)=hdr (nm i):=by
    intro j p o i h2 h3 h4 h5
    obtain ⟨_,q2,_⟩:=Yn h3 h4
    rw [(hp.given j o q2 h2).2 h5]
    exact congrArg hdr (kw h4)
   have hM : ∀ b,owned (nmT nm σ) objsT b → ∃ j i ob p,look σ j=some i∧look st1.objs i=some ob∧ob.mine=true∧hasB (nm i) b∧look τ j=some p∧p.1=i:=by
    rintro b ⟨j,obT,h1,h2,h3⟩
    obtain ⟨i,ob,q1,q2,q3⟩:=hm j obT h1
    obtain ⟨p,q4⟩:=hcov j i q1
    obtain ⟨o,_,q6⟩:=hT j p q4
    rw [kw q1] at h3
    exact ⟨j,i,ob,p,q1,q2,q3,h3,q4,(Yn q6 q1).1⟩
   have notM : ∀ id ob b,(∀ j p,look τ j=some p→p.1≠id)→look st1.objs id=some ob→hasB (nm id) b → ¬ owned (nmT nm σ) objsT b:=by
    intro id ob b h1 h2 h3 h4
    obtain ⟨j,i,ob',p,q1,q2,q3,q4,q5,q6⟩:=hM b h4
    exact h1 j p q5 (q6.trans (hrel.inj i id ob' ob b q2 h2 q4 h3))
   have hkept:Kept w w' (Zc w0 Z0 nm st1.objs w) (Zc w0 Z0 nmF st'.objs w'):=by
    rintro b ⟨z1,z2,z3⟩
    have hnM : ¬ owned (nmT nm σ) objsT b:=by
     intro h
     obtain ⟨j,i,ob,p,q1,q2,q3,q4,_⟩:=hM b h
     exact z3 ⟨i,ob,q2,q3,q4⟩
    refine ⟨⟨Nat.lt_of_lt_of_le z1 hp.same.size,z2,?_⟩,hp.same.block b z1 hnM⟩
    rintro ⟨id,ob,y1,y2,y3⟩
    rcases cases_id id with ⟨j,p,o,h1,h2,h3,h4⟩ | ⟨h1,h2,h3⟩
    ·subst h2
     rw [nF1 j p h1] at y3
     rcases (hp.new j o b h3 y3).1 with q | q
     ·omega
     ·exact hnM q
    ·rw [h2] at y1
     rw [h3] at y3
     exact z3 ⟨id,ob,y1,y2,y3⟩
   have stays : ∀ j p o,look τ j=some p→look pst.objs j=some o→backN obx dst σ j o=some p→(p.1,newOb pst.objs τ p o)∈upd'→Stays nm p.1 (nmF p.1) (look st1.objs p.1) (newOb pst.objs τ p o):=by
    intro j p o h1 h3 h4 he
    obtain ⟨_,s2,_,l3,_,l5⟩:=hla _ he
    simp only at l3 l5
    unfold mayOb at l5
    rw [l3] at l5
    rw [nF1 j p h1]
    cases hold:look st1.objs p.1 with
    | none=>trivial
    | some old=>
      rw [hold] at l5
      cases old with
      | clo f y z=>cases o <;> trivial
      | gone=>cases o <;> trivial
      | box cs1=>
        cases o with
        | box cs0=>
          show nm' j=nm p.1
          cases hj:look σ j with
          | some i=>
            obtain ⟨k1,_⟩:=Yn h4 hj
            subst k1
            exact G1 j p _ p.1 h1 h3 h4 hj trivial
          | none=>
            rcases backN_fresh h4 hj with ⟨⟨_,_,_,_,_,k1⟩,_⟩ | ⟨⟨_,_,_,_,_,_,_,k1⟩,_⟩ | ⟨_,k1⟩
            ·cases k1
            ·cases k1
            ·rw [hox2 _ k1] at hold;cases hold
        | _=>cases l5
      | arr v1 fz1 e1 t1 xs1=>
        cases o with
        | arr v0 fz0 e0 t0 xs0=>
          intro hv
          cases hj:look σ j with
          | some i=>
            obtain ⟨k1,k2,k3⟩:=Yn h4 hj
            obtain ⟨v,fz',xs',k4,k5⟩:=k3 _ _ _ _ _ rfl
            obtain ⟨fz2,k6⟩:=hox1 i _ _ _ _ _ k4
            subst k1
            rw [hold] at k6
            cases k6
            rcases k5 with ⟨k5,k7,_⟩ | k5
            ·subst k7
             have hn:=G1 j p _ p.1 h1 h3 h4 hj ⟨k5,rfl⟩
             refine ⟨hn,rfl,rfl,?_⟩
             have r1:rdArr _ _ (nm' j) _ _ _:=hp.objs j _ h3
             have r2:rdArr _ _ (nm p.1) _ _ _:=hrel.objs p.1 _ hold
             rw [hn] at r1
             exact rdArr_len r1 r2
            ·omega
          | none=>
            rcases backN_fresh h4 hj with ⟨_,k1⟩ | ⟨⟨_,_,_,_,_,_,_,k1⟩,_⟩ | ⟨k1 | k1,_⟩
            ·unfold verOf at k1
             split at k1
             ·rename_i hq
              rw [hox2 _ hq] at hold
              cases hold
             ·rename_i v2 fz2 e2 t2 xs2 hq
              obtain ⟨fz3,k6⟩:=hox1 _ _ _ _ _ _ hq
              rw [hold] at k6
              cases k6
              simp only [Option.some.injEq] at k1
              omega
             ·cases k1
            ·cases k1
            ·cases k1
            ·cases k1
        | _=>trivial
      | deep v1 fz1 e1 te1 t1 xs1 hole1=>
        cases o with
        | deep v0 fz0 e0 te0 t0 xs0 hole0=>
          intro hv
          cases hj:look σ j with
          | some i=>
            obtain ⟨k1,k2,v,fz',xs',h',k4,k5⟩:=backN_deep h4 hj
            obtain ⟨fz2,k6⟩:=hoxD i _ _ _ _ _ _ _ k4
            subst k1
            rw [hold] at k6
            cases k6
            rcases k5 with ⟨k5,k7,_⟩ | k5
            ·subst k7
             have hn:=G1D j p _ p.1 h3 h4 hj ⟨k5,rfl⟩
             refine ⟨hn,rfl,rfl,rfl,?_,fun _ hh=>by cases hh⟩
             obtain ⟨d1,us1,c1,r1,r2⟩:=Uo (hp.objs j _ h3)
             obtain ⟨d2,us2,c2,r3,r4⟩:=Uo (hrel.objs p.1 _ hold)
             rw [r1,r3,JR,JR] at hn
             rw [hn] at r2
             exact ownsM_len r2 r4
            ·omega
          | none=>
            rcases backN_fresh h4 hj with ⟨⟨_,_,_,_,_,k1⟩,_⟩ | ⟨_,k1⟩ | ⟨k1 | k1,_⟩
            ·cases k1
            ·unfold verD at k1
             split at k1
             ·rename_i hq
              rw [hox2 _ hq] at hold
              cases hold
             ·rename_i hq
              obtain ⟨fz3,k6⟩:=hoxD _ _ _ _ _ _ _ _ hq
              rw [hold] at k6
              cases k6
              simp only [Option.some.injEq] at k1
              omega
             ·cases k1
            ·cases k1
            ·cases k1
        | _=>trivial
   have atok : ∀ x:At,(∀ s2:St,s2.slots=st1.slots→(∀ k,(∀ q∈upd',q.1≠k)→look s2.objs k=look st1.objs k) → ∀ id,(s2.free id=true→x.mentions id=false)∧(∀ v,s2.noVer id v=true→x.hasVer id v=false)∧(s2.noDin id=true→x.isDin id=false)) →
    AtOk nm nmF st1.objs st'.objs x:=by
    intro x hx id hid
    rcases cases_id id with ⟨j,p,o,h1,h2,h3,h4⟩ | ⟨h1,h2,h3⟩
    ·subst h2
     rcases entry j p o h1 h3 with he | ⟨c1,⟨i,c2⟩,c3⟩
     ·obtain ⟨l1,s2,l2,l3,l4,l5⟩:=hla _ he
      exact atOk_at l5 l3 l1 (stays j p o h1 h3 h4 he) (hx s2 l2 l4 p.1).1 (hx s2 l2 l4 p.1).2.1 (hx s2 l2 l4 p.1).2.2 hid
     ·obtain ⟨k1,_⟩:=Yn h4 c2
      have hn:nmF p.1=nm p.1:=by
       rw [nF1 j p h1]
       subst k1
       refine G1 j p o p.1 h1 h3 h4 c2 ?_
       cases o with
       | clo=>trivial
       | _=>cases c1
      rw [c3]
      exact ⟨fun ver fz e t xs g1 _=>⟨hn,fz,xs,g1,rfl⟩,fun cs g1=>⟨hn,cs,g1⟩,fun f y z g1=>⟨hn,f,y,z,g1⟩,fun ver fz e te t xs hh g1 _=>⟨congrArg hdr hn,fz,xs,hh,g1,rfl,fun _ e=>⟨e,hn⟩⟩⟩
    ·rw [h2,h3]
     exact ⟨fun ver fz e t xs g1 _=>⟨rfl,fz,xs,g1,rfl⟩,fun cs g1=>⟨rfl,cs,g1⟩,fun f y z g1=>⟨rfl,f,y,z,g1⟩,fun ver fz e te t xs hh g1 _=>⟨rfl,fz,xs,hh,g1,rfl,fun _ e=>⟨e,rfl⟩⟩⟩
   have slotok : ∀ t d,look st1.slots t=some d→DvOk nm nmF st1.objs st'.objs d:=by
    intro t d ht
    have key : ∀ x:At,(∀ id,(d.mentions id=false→x.mentions id=false)∧(∀ v,d.hasVer id v=false→x.hasVer id v=false)∧(d.isDin id=false→x.isDin id=false))→AtOk nm nmF st1.objs st'.objs x:=by
     intro x hx
     refine atok x (fun s2 e1 _ id=>⟨fun hf=>(hx id).1 (free_slot hf (by rw [e1];exact ht)),fun v hv=>(hx id).2.1 v (noVer_slot hv (by rw [e1];exact ht)),fun hd=>(hx id).2.2 (noDin_slot hd (by rw [e1];exact ht))⟩)
    cases d with
    | one x=>exact key x (fun id=>⟨fun h=>h,fun v h=>h,fun h=>h⟩)
    | agg cs=>
      intro x hx
      refine key x (fun id=>⟨fun h => ?_,fun v h => ?_,fun h => ?_⟩)
      ·simp only [Dv.mentions,List.any_eq_false] at h;simpa using h x hx
      ·simp only [Dv.hasVer,List.any_eq_false] at h;simpa using h x hx
      ·simp only [Dv.isDin,List.any_eq_false] at h;simpa using h x hx
    | tup cs=>
      intro x hx
      refine key x (fun id=>⟨fun h => ?_,fun v h => ?_,fun h => ?_⟩)
      ·simp only [Dv.mentions,List.any_eq_false] at h;simpa using h x hx
      ·simp only [Dv.hasVer,List.any_eq_false] at h;simpa using h x hx
      ·simp only [Dv.isDin,List.any_eq_false] at h;simpa using h x hx
    | tgg k cs=>
      intro x hx
      refine key x (fun id=>⟨fun h => ?_,fun v h => ?_,fun h => ?_⟩)
      ·simp only [Dv.mentions,List.any_eq_false] at h;simpa using h x hx
      ·simp only [Dv.hasVer,List.any_eq_false] at h;simpa using h x hx
      ·simp only [Dv.isDin,List.any_eq_false] at h;simpa using h x hx
   have obok : ∀ id ob,look st1.objs id=some ob→(∀ q∈upd',q.1≠id)→ObOk nm nmF st1.objs st'.objs ob:=by
    intro id ob ho hq
    have key : ∀ x:At,(∀ i,(ob.mentions i=false→x.mentions i=false)∧(∀ v,ob.hasVer i v=false→x.hasVer i v=false)∧(ob.isDin i=false→x.isDin i=false))→AtOk nm nmF st1.objs st'.objs x:=by
     intro x hx
     refine atok x (fun s2 _ e2 i=>⟨fun hf=>(hx i).1 (free_obj hf (by rw [e2 id hq];exact ho)).2,fun v hv=>(hx i).2.1 v (noVer_obj hv (by rw [e2 id hq];exact ho)),fun hd=>(hx i).2.2 (noDin_obj hd (by rw [e2 id hq];exact ho))⟩)
    cases ob with
    | gone=>trivial
    | arr=>trivial
    | deep v fz e te t xs hole=>
      cases hole with
      | none=>trivial
      | some q=>
        cases q with
        | none=>trivial
        | some q=>exact key _ (fun _=>⟨fun h=>h,fun _ h=>h,fun _=>rfl⟩)
    | box cs=>
      intro x hx
      refine key x (fun id=>⟨fun h => ?_,fun v h => ?_,fun h => ?_⟩)
      ·simp only [Ob.mentions,List.any_eq_false] at h;simpa using h x hx
      ·simp only [Ob.hasVer,List.any_eq_false] at h;simpa using h x hx
      ·simp only [Ob.isDin,List.any_eq_false] at h;simpa using h x hx
    | clo f y z=>
      refine ⟨fun x hx=>key x (fun id=>⟨fun h => ?_,fun v h => ?_,fun h => ?_⟩),fun x hx=>key x (fun id=>⟨fun h => ?_,fun v h => ?_,fun h => ?_⟩)⟩
      ·simp only [Ob.mentions,Bool.or_eq_false_iff,List.any_eq_false] at h;simpa using h.1 x hx
      ·simp only [Ob.hasVer,Bool.or_eq_false_iff,List.any_eq_false] at h;simpa using h.1 x hx
      ·simp only [Ob.isDin,Bool.or_eq_false_iff,List.any_eq_false] at h;simpa using h.1 x hx
      ·simp only [Ob.mentions,Bool.or_eq_false_iff,List.any_eq_false] at h;simpa using h.2 x hx
      ·simp only [Ob.hasVer,Bool.or_eq_false_iff,List.any_eq_false] at h;simpa using h.2 x hx
      ·simp only [Ob.isDin,Bool.or_eq_false_iff,List.any_eq_false] at h;simpa using h.2 x hx
   
   have hkn:Kept w' w' (Zc w (Bs.of (Zc w0 Z0 nm st1.objs w) (nmT nm σ) objsT) nm' pst.objs w') (Zc w0 Z0 nmF st'.objs w'):=by
    rintro b ⟨z1,z2,z3⟩
    refine ⟨⟨z1,fun hb => ?_,?_⟩,rfl⟩
    ·have:=hrel.same.size
     rcases z2 (by omega) with q | q
     ·exact q.2.1 hb
     ·obtain ⟨j,i,ob,p,q1,q2,q3,q4,_⟩:=hM b q
      exact .inr ((hrel.new i ob b q2 q4).1.resolve_left (by omega))
    ·rintro ⟨id,ob,y1,y2,y3⟩
     rcases cases_id id with ⟨j,p,o,h1,h2,h3,h4⟩ | ⟨h1,h2,h3⟩
     ·subst h2
      rw [nF1 j p h1] at y3
      refine z3 ⟨j,o,h3,hp.mine j o h3 (fun hg => ?_),y3⟩
      subst hg
      rcases entry j p _ h1 h3 with he | ⟨c1,_,_⟩
      ·have l1:=(hla _ he).1
       simp only at l1
       rw [l1] at y1
       cases y1
       exact absurd y2 (by simp [newOb,Ob.mine])
      ·cases c1
     ·rw [h2] at y1
      rw [h3] at y3
      have hb:=(hrel.new id ob b y1 y3).2
      rcases z2 hb with q | q
      ·exact q.2.2 ⟨id,ob,y1,y2,y3⟩
      ·exact notM id ob b h1 y1 y3 q
   have hren : ∀ x v,rdA w' (Zc w (Bs.of (Zc w0 Z0 nm st1.objs w) (nmT nm σ) objsT) nm' pst.objs w') nm' pst.objs x v→rdA w' (Zc w0 Z0 nmF st'.objs w') nmF st'.objs (renA pst.objs τ x) v:=by
    intro x v hv
    cases x with
    | val t d=>exact Vx hkn hv
    | nilS=>exact hv
    | fn f=>exact hv
    | junk=>exact hv
    | fptr t d=>
      obtain ⟨b,off,cs,h1,h2,h3,h4⟩:=hv
      exact ⟨b,off,cs,h1,(hkn b h2).1,JD hkn t h3,h4⟩
    | elem id ver i sz off=>exact hv.1
    | aelem=>exact hv.1
    | delem=>exact hv.1
    | din=>exact hv.1
    | dinel=>exact hv.1
    | down j ver=>
      simp only [renA]
      split
      ·rename_i v' fz e te t xs hole p h1 h2
       cases hb:Nat.beq ver v' with
       | false=>exact hv.1
       | true=>
         have:=beqN.1 hb
         subst this
         exact ⟨hv.1,fun _ _ _ _ _ _ _=>by rw [nF1 j p h2];exact hv.2 fz e te t xs hole h1⟩
      ·exact hv.1
    | own j ver=>
      simp only [renA]
      split
      ·rename_i v' fz e t xs p h1 h2
       cases hb:Nat.beq ver v' with
       | false=>exact hv.1
       | true=>
         have:=beqN.1 hb
         subst this
         exact ⟨hv.1,fun _ _ _ _ _=>by rw [nF1 j p h2];exact hv.2 fz e t xs h1⟩
      ·exact hv.1
    | selfp j T=>
      simp only [renA]
      split
      ·rename_i cs p h1 h2
       exact ⟨hv.1,fun _ _=>by rw [nF1 j p h2];exact hv.2 cs h1⟩
      ·exact hv.1
    | aptr j ver=>
      simp only [renA]
      split
      ·rename_i v' fz e t xs p h1 h2
       cases hb:Nat.beq ver v' with
       | false=>exact hv.1
       | true=>
         have:=beqN.1 hb
         subst this
         exact ⟨hv.1,fun _ _ _ _ _=>by rw [nF1 j p h2];exact hv.2 fz e t xs h1⟩
      ·exact hv.1
    | win j ver lo m=>
      simp only [renA]
      split
      ·rename_i v' fz e t xs p h1 h2
       cases hb:Nat.beq ver v' with
       | false=>exact hv.1
       | true=>
         have:=beqN.1 hb
         subst this
         refine ⟨hv.1,fun fz1 e1 t1 xs1 hl1 => ?_⟩
         rw [nF1 j p h2]
         rcases entry j p _ h2 h1 with he | ⟨c1,_⟩
         ·obtain ⟨l1,_⟩:=hla _ he
          simp only [newOb] at l1
          rw [l1] at hl1
          cases hl1
          exact hv.2 fz e t xs h1
         ·cases c1
      ·exact hv.1
    | ref j off=>
      simp only [renA]
      split
      ·rename_i cs p h1 h2
       exact ⟨hv.1,fun _ _=>by rw [nF1 j p h2];exact hv.2 cs h1⟩
      ·exact hv.1
    | clo j=>
      simp only [renA]
      split
      ·rename_i f y z p h1 h2
       exact ⟨hv.1,fun _ _ _ _=>by rw [nF1 j p h2];exact hv.2 f y z h1⟩
      ·exact hv.1
   refine ⟨nmF,⟨hrel.defk hkept,hrel.size,fun t d ht => ?_,fun id ob ho => ?_,fun id ob b ho hb => ?_,fun id id' ob ob' b ho ho' hb hb' => ?_,?_,fun id ob hg ho => ?_,hrel.glob,hrel.calm⟩,?_⟩
   ·rw [hsl] at ht
    obtain ⟨v,q1,q2⟩:=hrel.slots t d ht
    exact ⟨v,q1,JU hkept (slotok t d ht) q2⟩
   ·rcases cases_id id with ⟨j,p,o,h1,h2,h3,h4⟩ | ⟨h1,h2,h3⟩
    ·subst h2
     rcases entry j p o h1 h3 with he | ⟨c1,⟨i,c2⟩,c3⟩
     ·obtain ⟨l1,_⟩:=hla _ he
      simp only at l1
      rw [l1] at ho
      cases ho
      have hro:=hp.objs j o h3
      cases o with
      | box cs=>
        obtain ⟨b,vs,T,p1,p2,p3,p4⟩:=hro
        refine ⟨b,vs,T,by rw [nF1 j p h1];exact p1,p2,Vk hren p3,p4.1,fun T' hT => ?_⟩
        obtain ⟨x,hx,e⟩:=List.mem_map.1 hT
        have hxs : ∃ j',∃ p',x=At.selfp j' T'∧look τ j'=some p'∧p'.1=p.1:=by
         cases x with
         | selfp j' T2=>
           simp only [renA] at e
           split at e
           ·rename_i cs' p' _ g2
            injection e with e1 e2
            subst e2
            exact ⟨j',p',rfl,g2,e1⟩
           ·cases e
         | down j' v=>
           simp only [renA] at e
           split at e
           ·rename_i v' _ _ _ _ _ _ p' _ _
            cases hb:Nat.beq v v' <;> rw [hb] at e <;> cases e
           ·cases e
         | own j' v=>
           simp only [renA] at e
           split at e
           ·rename_i v' _ _ _ _ p' _ _
            cases hb:Nat.beq v v' <;> rw [hb] at e <;> cases e
           ·cases e
         | win j' v lo m=>
           simp only [renA] at e
           split at e
           ·rename_i v' _ _ _ _ p' _ _
            cases hb:Nat.beq v v' <;> rw [hb] at e <;> cases e
           ·cases e
         | aptr j' v=>
           simp only [renA] at e
           split at e
           ·rename_i v' _ _ _ _ p' _ _
            cases hb:Nat.beq v v' <;> rw [hb] at e <;> cases e
           ·cases e
         | ref j' o=>
           simp only [renA] at e
           split at e <;> cases e
         | clo j'=>
           simp only [renA] at e
           split at e <;> cases e
         | _=>cases e
        obtain ⟨j',p',rfl,g1,g2⟩:=hxs
        have:=apart_inj hA g1 h1 g2
        subst this
        exact p4.2 T' hx
      | arr v0 fz e t xs=>
        have hro:rdArr _ _ (nm' j) _ _ _:=hro
        rw [← nF1 j p h1] at hro
        exact VQ hkn (fun _ _=>rfl) hro
      | clo f y z=>
        obtain ⟨vx,vy,p1,p2,p3⟩:=hro
        exact ⟨vx,vy,by rw [nF1 j p h1];exact p1,Vk hren p2,Vk hren p3⟩
      | gone=>trivial
      | deep v0 fz e te t xs hole=>
        have:=backU_deep hU (ky h3)
        subst this
        have hro:rdDeep _ _ (nm' j) _ _ _ _:=hro
        rw [← nF1 j p h1] at hro
        exact kX hkn.weak (fun _ _=>rfl) hro
     ·obtain ⟨k1,_⟩:=Yn h4 c2
      have hn:nmF p.1=nm p.1:=by
       rw [nF1 j p h1]
       subst k1
       refine G1 j p o p.1 h1 h3 h4 c2 ?_
       cases o with
       | clo=>trivial
       | _=>cases c1
      have hnu : ∀ q∈upd',q.1≠p.1:=by
       intro q hq he
       obtain ⟨j',o',p',e1,e2,e3,e4⟩:=u1 q hq
       rw [e3] at he
       have:=apart_inj hA e2 h1 he
       subst this
       have:=once_look hon e1 h3
       subst this
       rw [e4 c1] at c2
       cases c2
      rw [c3] at ho
      have hblk : ∀ b,hasB (nm p.1) b→False:=by
       intro b hb
       rw [← hn,nF1 j p h1] at hb
       have hro:=hp.objs j o h3
       cases o with
       | gone=>cases c1
       | box=>cases c1
       | arr=>cases c1
       | deep=>cases c1
       | clo f y z=>obtain ⟨vx,vy,p1,_⟩:=hro;rw [p1] at hb;cases hb
      exact kL hkept hn (fun b hb=>(hblk b hb).elim) (obok p.1 ob ho hnu) (hrel.objs p.1 ob ho)
    ·rw [h2] at ho
     refine kL hkept h3 (fun b hb=>hp.same.block b (hrel.new id ob b ho hb).2 (notM id ob b h1 ho hb)) (obok id ob ho (fun q hq he => ?_)) (hrel.objs id ob ho)
     obtain ⟨j',o',p',e1,e2,e3,e4⟩:=u1 q hq
     rw [e3] at he
     exact h1 j' p' e2 he
   ·rcases cases_id id with ⟨j,p,o,h1,h2,h3,h4⟩ | ⟨h1,h2,h3⟩
    ·subst h2
     rw [nF1 j p h1] at hb
     obtain ⟨q1,q2⟩:=hp.new j o b h3 hb
     refine ⟨?_,q2⟩
     have hsz:=hrel.same.size
     rcases q1 with q | q
     ·exact .inl (by omega)
     ·obtain ⟨j',i,ob',p',e1,e2,e3,e4,_⟩:=hM b q
      exact (hrel.new i ob' b e2 e4).1
    ·rw [h2] at ho
     rw [h3] at hb
     have:=hrel.new id ob b ho hb
     exact ⟨this.1,Nat.lt_of_lt_of_le this.2 hp.same.size⟩
   ·have mixed : ∀ id id' ob' b,(∃ j p o,look τ j=some p∧p.1=id∧look pst.objs j=some o∧backN obx dst σ j o=some p)→(∀ j p,look τ j=some p→p.1≠id')→look st1.objs id'=some ob'→hasB (nmF id) b→hasB (nm id') b→False:=by
     rintro id id' ob' b ⟨j,p,o,h1,h2,h3,h4⟩ h5 h6 h7 h8
     subst h2
     rw [nF1 j p h1] at h7
     have hb:=(hrel.new id' ob' b h6 h8).2
     rcases (hp.new j o b h3 h7).1 with q | q
     ·omega
     ·exact notM id' ob' b h5 h6 h8 q
    rcases cases_id id with hi | ⟨h1,h2,h3⟩ <;> rcases cases_id id' with hi' | ⟨h1',h2',h3'⟩
    ·obtain ⟨j,p,o,h1,h2,h3,h4⟩:=hi
     obtain ⟨j',p',o',h1',h2',h3',h4'⟩:=hi'
     subst h2;subst h2'
     rw [nF1 j p h1] at hb
     rw [nF1 j' p' h1'] at hb'
     have:=hp.inj j j' o o' b h3 h3' hb hb'
     subst this
     rw [h1] at h1'
     cases h1'
     rfl
    ·rw [h2'] at ho'
     rw [h3'] at hb'
     exact (mixed id id' ob' b hi h1' ho' hb hb').elim
    ·rw [h2] at ho
     rw [h3] at hb
     exact (mixed id' id ob b hi' h1 ho hb' hb).elim
    ·rw [h2] at ho
     rw [h3] at hb
     rw [h2'] at ho'
     rw [h3'] at hb'
     exact hrel.inj id id' ob ob' b ho ho' hb hb'
   ·refine ⟨hp.same.os.trans hrel.same.os,hp.same.tape.trans hrel.same.tape,hp.same.output.trans hrel.same.output,Nat.le_trans hrel.same.size hp.same.size,fun b hb hnm => ?_⟩
    have hsz:=hrel.same.size
    refine (hp.same.block b (by omega) (fun hq => ?_)).trans (hrel.same.block b hb hnm)
    obtain ⟨j',i,ob',p',e1,e2,e3,e4,_⟩:=hM b hq
    rcases (hrel.new i ob' b e2 e4).1 with q | q
    ·omega
    ·exact hnm q
   ·rcases cases_id id with ⟨j,p,o,h1,h2,h3,h4⟩ | ⟨h1,h2,h3⟩
    ·subst h2
     rcases entry j p o h1 h3 with he | ⟨c1,⟨i,c2⟩,c3⟩
     ·obtain ⟨l1,s2,l2,l3,l4,l5⟩:=hla _ he
      simp only at l1 l3 l5
      rw [l1] at ho
      cases ho
      exact given_upd l5 l3 (stays j p o h1 h3 h4 he) hg fun ob ho=>hrel.given p.1 ob hg ho
     ·obtain ⟨k1,_⟩:=Yn h4 c2
      subst k1
      have hd:held j o:=by
       cases o with
       | clo=>trivial
       | _=>cases c1
      rw [nF1 j p h1,G1 j p o p.1 h1 h3 h4 c2 hd]
      rw [c3] at ho
      exact hrel.given p.1 ob hg ho
    ·rw [h3]
     rw [h2] at ho
     exact hrel.given id ob hg ho
   ·have hres:=hp.res
    unfold ansOf at hans
    split at hans
    ·rename_i k d1 hs
     rw [hs] at hres
     have hd:d1=d0:=by
      cases d1 <;> first | (simp only [Option.some.injEq] at hans;exact hans) | cases hans
     subst hd
     exact rdD_ren hren hres
    ·rename_i hs
     have ones : ∀ {l:List (Nat×Dv)} {cs:List At} {vs:List Value},VP l=some cs→vs.length=l.length →
      (∀ (i:Nat) p u,l[i]? = some p→vs[i]? = some u→rdD w' (Zc w (Bs.of (Zc w0 Z0 nm st1.objs w) (nmT nm σ) objsT) nm' pst.objs w') nm' pst.objs p.2 u) →
      rdAs w' (Zc w (Bs.of (Zc w0 Z0 nm st1.objs w) (nmT nm σ) objsT) nm' pst.objs w') nm' pst.objs cs vs:=by
      intro l
      induction l with
      | nil=>
        intro cs vs h1 h2 _
        simp only [VP,Option.some.injEq] at h1
        subst h1
        have:vs=[]:=List.eq_nil_of_length_eq_zero h2
        subst this
        exact Yi
      | cons p l ih=>
        intro cs vs h1 h2 h3
        obtain ⟨k,dk⟩:=p
        cases dk with
        | agg=>simp [VP] at h1
        | tup=>simp [VP] at h1
        | tgg=>simp [VP] at h1
        | one x=>
          simp only [VP] at h1
          split at h1
          ·rename_i cs' h4
           simp only [Option.some.injEq] at h1
           subst h1
           match vs,h2 with
           | v1::vs,h2=>
             exact ko (c1:=[x]) (v1:=[v1]) (JC (h3 0 (k,.one x) v1 rfl rfl)) (ih h4 (by simpa using h2) fun i p u q1 q2=>h3 (i+1) p u (by simpa using q1) (by simpa using q2))
          ·cases h1
     have hres' : ∃ vs,v = .tuple vs∧vs.toList.length=pst.slots.length ∧ ∀ (i:Nat) p u,pst.slots[i]? = some p→vs.toList[i]? = some u→rdD w' (Zc w (Bs.of (Zc w0 Z0 nm st1.objs w) (nmT nm σ) objsT) nm' pst.objs w') nm' pst.objs p.2 u:=by
      unfold rdAns at hres
      split at hres
      ·rename_i p hs2
       exact absurd hs2 (hs p.1 p.2)
      ·exact hres
     obtain ⟨vs,e,r1,r2⟩:=hres'
     split at hans
     ·rename_i k1 cs rl hsl
      split at hans
      ·rename_i l hl
       simp only [Option.some.injEq] at hans
       subst hans
       rw [hsl] at r1 r2
       cases hvl:vs.toList with
       | nil=>rw [hvl] at r1;cases r1
       | cons v1 vr=>
         rw [hvl] at r1 r2
         obtain ⟨c0,e1,q1,q2⟩:=r2 0 (k1,.agg cs) v1 rfl rfl
         exact ⟨vs,c0,vr,e,by rw [hvl,e1],q1.1,Vk hren (ko q1 (ones hl (by simpa using r1) fun i p u h1 h2=>r2 (i+1) p u (by simpa using h1) (by simpa using h2))),q2⟩
      ·cases hans
     ·split at hans
      ·rename_i cs hcs
       simp only [Option.some.injEq] at hans
       subst hans
       exact ⟨vs,e,Vk hren (ones hcs r1 r2)⟩
      ·cases hans
  ·cases hk
 ·cases hk
end
end Go.Ql
end

section
set_option linter.unusedSectionVars false
namespace Go.Ql
def scalB (P:Program) (t:TypeId):Ty→Bool
 | .bool=>(match P.underlying t with | some .bool=>true | _=>false)
 | .int k=>(match P.underlying t with | some (.int k')=>decide (k=k') | _=>false)
 | .str=>(match P.underlying t with | some .string=>true | _=>false)
 | _=>false
def fieldsB (P:Program):List Field→Ty→Nat→Bool
 | [f], t, off => Nat.beq f.offset off && (f.name != "_") && scalB P f.type t
 | f :: g :: r, .pair a b, off => Nat.beq f.offset off && (f.name != "_") && scalB P f.type a && fieldsB P (g :: r) b (off + 1)
 | _,_,_=>false
def eqB (P:Program) (t:TypeId) (s:Ty):Bool:=match P.underlying t with
 | some (.struct fs) => !P.stoodInHeld t && !P.eqGuardType P.depth t && fieldsB P fs.toList s 0
 | _=>false
def eqsB (P:Program) (tab:List (Nat×TI)):List Nat→Bool
 | []=>true
 | t::r=>(match look tab t with
   | some ⟨.st s,_⟩=>eqB P t s
   | _=>false) && eqsB P tab r
abbrev Fr (rd:Option Nat):Fence:={ fn:=fun _=>True,depth:=none,alive:=false,round:=rd }
def SeqAt (P:Program) (gf:Nat) (lb:Array Value) (k:IntKind) (xs:List Int) (Kp:World→World→Prop) (w:World):Prop:=
 ∀ (l:Nat) (J:List Int→World→Prop) (W:World),Same w W→(∀ pre A B,J pre A→Same A B→J pre B) →
  (∀ pre x W1,J pre W1→(∃ r,xs=pre++x::r)→YieldAt (Fr none) 0 P l #[.int k x] W1 fun e W'=>e = .returned (.bool true)∧J (pre++[x]) W'∧Kp W1 W') →
  J [] W→CallsIn (Fr none) 0 P gf (#[.func (.yield l) #[] #[]]++lb) W fun e W'=>(∃ v,e = .returned v)∧J xs W'
def fpRd (w:World) (Z:Nat→Prop) (t:Ty) (d:t.den) (v:Value):Prop:=
 ∃ b off cs,v = .pointer (some ⟨b,off,none⟩)∧Z b∧rdC w Z t cs d ∧ ∀ j u,cs[j]? = some u→w.cell? ⟨b,off+j,none⟩=some u
def capsRd (w:World) (Z:Nat→Prop):(ts:List Ty)→dens ts→List Value→Prop
 | [],_,vs=>vs=[]
 | [t],x,vs => ∃ v,vs=[v]∧fpRd w Z t x v
 | t::t'::ts,x,vs => ∃ v r,vs=v::r∧fpRd w Z t x.1 v∧capsRd w Z (t'::ts) x.2 r
def SeqOk (P : Program) (f : Nat) (sc : SeqC) : Prop := (∃ fn, P.funcs[f]? = some fn ∧ (fn.name == "runtime.NumGoroutine") = false ∧ fn.body.isNone = false) ∧
 ∀ (w:World) (Z:Nat→Prop) (vs:List Value) (x:dens sc.caps),(∀ b,Z b→b < w.heap.size)→capsRd w Z sc.caps x vs →
  SeqAt P f vs.toArray sc.k (sc.L x) (fun A B => ∀ b,Z b→B.heap[b]? = A.heap[b]?) w
def EqsOk (P:Program) (tab:List (Nat×TI)) (e:Eqs):Prop:=(∀ t,memN t e.l=true → ∀ s k,look tab t=some ⟨.st s,k⟩→eqB P t s=true) ∧ ∀ f sc,look e.seqs f=some sc→SeqOk P f sc
theorem eqsL_ok {P:Program} {tab:List (Nat×TI)} : ∀ {l:List Nat},eqsB P tab l=true → ∀ t,memN t l=true → ∀ s k,look tab t=some ⟨.st s,k⟩→eqB P t s=true
 | [],_,t,h,_,_,_=>by cases h
 | t'::r,hb,t,h,s,k,hl=>by
   simp only [eqsB,Bool.and_eq_true] at hb
   simp only [memN,Bool.or_eq_true] at h
   rcases h with h | h
   ·have:=beqN.1 h
    subst this
    have h1:=hb.1
    rw [hl] at h1
    exact h1
   ·exact eqsL_ok hb.2 t h s k hl
theorem eqsB_ok {P:Program} {tab:List (Nat×TI)} {l:List Nat} (h:eqsB P tab l=true):EqsOk P tab ⟨l,[]⟩:=⟨eqsL_ok h,fun f sc h=>by cases h⟩
section
variable [GInv] {P:Program} {w:World} {Z Z':Nat→Prop}
theorem scal_run {t:TypeId} {s:Ty} (hb:scalB P t s=true) {cx cy:List Value} {x y:s.den} (hx:rdC w Z s cx x) (hy:rdC w Z' s cy y) (d:Nat) :
 (isAgg t).run P w = .ok false w ∧ ∃ u v,cx=[u]∧cy=[v]∧(Op.equalIn (d+1) t u v).run P w = .ok (Ty.eqT s x y) w:=by
 cases s with
 | bool=>
   simp only [scalB] at hb
   split at hb
   ·rename_i hu
    exact ⟨by simp [isAgg,run_underlying hu],_,_,hx,hy,run_equalIn_bool' w d t x y hu⟩
   ·cases hb
 | int k=>
   simp only [scalB] at hb
   split at hb
   ·rename_i k' hu
    exact ⟨by simp [isAgg,run_underlying hu],_,_,hx,hy,run_equalIn_int w d t k k' x y hu⟩
   ·cases hb
 | str=>
   simp only [scalB] at hb
   split at hb
   ·rename_i hu
    refine ⟨by simp [isAgg,run_underlying hu],_,_,hx,hy,?_⟩
    rw [run_equalIn_string w d t _ _ hu]
    have e : ∀ z:List UInt8,(⟨z.toArray⟩:ByteArray).toList=z:=Vm
    rw [e,e]
    rfl
   ·cases hb
 | _=>cases hb
theorem eqFields_run (d:Nat) : ∀ {fs:List Field} {s:Ty} {off:Nat},fieldsB P fs s off=true → ∀ {cx cy:List Value} {x y:s.den},rdC w Z s cx x→rdC w Z' s cy y →
 ∀ {xs ys:Array Value},xs.toList.drop off=cx→ys.toList.drop off=cy→(Op.eqFields (d+1) xs ys fs).run P w = .ok (Ty.eqT s x y) w
 | [],s,off,h,cx,cy,x,y,_,_,xs,ys,_,_=>by cases h
 | [f],s,off,h,cx,cy,x,y,hx,hy,xs,ys,ex,ey=>by
   have h : (Nat.beq f.offset off && (f.name != "_") && scalB P f.type s) = true := by cases s <;> exact h
   rw [Bool.and_eq_true,Bool.and_eq_true] at h
   obtain ⟨⟨h1,h2⟩,h3⟩:=h
   have e1:=beqN.1 h1
   have h2 : ¬ f.name = "_" := by simpa using h2
   obtain ⟨ha,u,v,q1,q2,q3⟩:=scal_run h3 hx hy d
   have p1:xs[f.offset]? = some u:=by
    rw [← Array.getElem?_toList,e1,← Nat.add_zero off,← List.getElem?_drop,ex,q1];rfl
   have p2:ys[f.offset]? = some v:=by
    rw [← Array.getElem?_toList,e1,← Nat.add_zero off,← List.getElem?_drop,ey,q2];rfl
   cases hb:Ty.eqT s x y <;> simp [Op.eqFields,h2,Go.part,ha,p1,p2,q3,hb]
 | f::g::r,s,off,h,cx,cy,x,y,hx,hy,xs,ys,ex,ey=>by
   cases s with
   | pair a b=>
     simp only [fieldsB,Bool.and_eq_true] at h
     obtain ⟨⟨⟨h1,h2⟩,h3⟩,h4⟩:=h
     have e1:=beqN.1 h1
     have h2 : ¬ f.name = "_" := by simpa using h2
     obtain ⟨c1,c2,ecx,hx1,hx2⟩:=hx
     obtain ⟨d1,d2,ecy,hy1,hy2⟩:=hy
     obtain ⟨ha,u,v,q1,q2,q3⟩:=scal_run h3 hx1 hy1 d
     have p1:xs[f.offset]? = some u:=by
      rw [← Array.getElem?_toList,e1,← Nat.add_zero off,← List.getElem?_drop,ex,ecx,q1];rfl
     have p2:ys[f.offset]? = some v:=by
      rw [← Array.getElem?_toList,e1,← Nat.add_zero off,← List.getElem?_drop,ey,ecy,q2];rfl
     have ih:=eqFields_run d h4 hx2 hy2 (xs:=xs) (ys:=ys) (by rw [← List.drop_drop,ex,ecx,q1];rfl) (by rw [← List.drop_drop,ey,ecy,q2];rfl)
     cases hb:Ty.eqT a x.1 y.1 with
     | false=>simp [Op.eqFields,h2,Go.part,ha,p1,p2,q3,hb,Ty.eqT]
     | true=>
       show (Op.eqFields (d+1) xs ys (f::g::r)).run P w = .ok (Ty.eqT a x.1 y.1 && Ty.eqT b x.2 y.2) w
       rw [hb,Bool.true_and,← ih]
       conv=>lhs;unfold Op.eqFields
       simp [h2,Go.part,ha,p1,p2,q3,hb]
   | _=>cases h
theorem eqSt_run {t:TypeId} {s:Ty} (hb:eqB P t s=true) {cx cy:Array Value} {x y:s.den} (hx:rdC w Z s cx.toList x) (hy:rdC w Z' s cy.toList y) :
 (Op.equalIn 10000 t (.agg cx) (.agg cy)).run P w = .ok (Ty.eqT s x y) w∧P.eqGuardType P.depth t=false:=by
 unfold eqB at hb
 split at hb
 ·rename_i fs hu
  simp only [Bool.and_eq_true,Bool.not_eq_true'] at hb
  obtain ⟨⟨h1,h2⟩,h3⟩:=hb
  have hf:P.fieldsOf t=fs:=by unfold Program.fieldsOf;rw [hu]
  refine ⟨?_,h2⟩
  rw [run_equalIn_struct w 9999 t cx cy (by rw [hf];exact hu) h1,hf]
  exact eqFields_run 9998 h3 hx hy rfl rfl
 ·cases hb
end
structure AllOk [GInv] (P:Program) (G:Env):Prop where
 fns:FnsOk P G.fns
 mfns:MfnsOk P G.mfns
 eqs:EqsOk P G.tab G.eqs
 alts:AltsOk P G.alts
section
variable [GInv] {P:Program} {G:Env} {n:Nat} {w0 w w':World} {Z0:Bs} {Z Z':Nat→Prop} {st st1 st':St} {a:Act} {nm nm':Names} {o:Oper} {dst:Nat} {ρ:Type} {k:Eff→Option ρ} {r:ρ}
theorem InjR.nil:InjR []:=fun j j' i h=>by simp [look] at h
theorem calm_inj {sh:Shape} (h:calmP sh.objs=true) {x:densU sh.tys} : ∀ j obT,look (sh.inj x).objs j=some obT→obT ≠ .gone:=by
 have one : ∀ (s:SO),(match s with
  | .gone=>false
  | _=>true)=true → ∀ d:densU s.tys,s.inj d ≠ .gone:=by
  intro s hs d hg
  cases s with
  | gone=>cases hs
  | box ss=>cases hg
  | arr v f e t=>cases hg
  | clo f a b=>cases hg
  | deep v e te t=>cases hg
 have key : ∀ (l:List (Nat×SO)) (d:densU (SP.tys l)),calmP l=true → ∀ j obT,look (SP.inj l d) j=some obT→obT ≠ .gone:=by
  intro l
  induction l with
  | nil=>intro d _ j obT ho;simp [SP.inj_nil,look] at ho
  | cons p l ih=>
    intro d hc j obT ho
    unfold calmP at hc
    rw [List.all_cons,Bool.and_eq_true] at hc
    have e:SP.inj (p::l) d=(p.1,p.2.inj (fstU _ _ d))::SP.inj l (sndU _ _ d):=rfl
    rw [e] at ho
    simp only [look] at ho
    cases hb:Nat.beq p.1 j with
    | true=>
      rw [hb] at ho
      simp only [cond_true,Option.some.injEq] at ho
      subst ho
      exact one p.2 hc.1 _
    | false=>
      rw [hb] at ho
      exact ih _ hc.2 j obT ho
 exact key sh.objs _ h
theorem pre_ok (h:Rel n w0 Z0 st a w nm) {sh:Shape} {ds:List Dv} {vs:List Value} (l1:vs.length=ds.length)
 (l2 : ∀ (i:Nat) d v,ds[i]? = some d→vs[i]? = some v→rdD w (Zc w0 Z0 nm st.objs w) nm st.objs d v)
 {x:densU sh.tys} {u:Upd} {σ:Ren} (hb:Ye (look st.objs) [] sh ds=some (x,u,σ)) {st1:St} (hl:Jh st u=some st1) (hcalm:calmP sh.objs=true) :
 Rel n w0 Z0 st1 a w nm∧Fz st st1∧InjR σ∧(∀ j obT,look (sh.inj x).objs j=some obT → ∃ i ob,look σ j=some i∧look st1.objs i=some ob∧ob.mine=true) ∧
  Pre w (Zc w0 Z0 nm st1.objs w) (nmT nm σ) (sh.inj x) vs:=by
 obtain ⟨_,_,hi,l3,hall⟩:=bindAll_ok h hb InjR.nil
 obtain ⟨hrel,hfz,m',hrd⟩:=hall st1 hl
 have hng : ∀ j obT,look (sh.inj x).objs j=some obT→obT ≠ .gone:=calm_inj hcalm
 have m : ∀ j obT,look (sh.inj x).objs j=some obT → ∃ i ob,look σ j=some i∧look st1.objs i=some ob∧look st.objs i=some ob∧ob.mine=true∧obT.mine=true:=fun j obT ho=>by
  obtain ⟨i,ob,p1,p2,p3,p4,p5,_⟩:=m' j obT ho
  exact ⟨i,ob,p1,p2,p3,p4 (hng j obT ho),p5 (hng j obT ho)⟩
 have hown : ∀ b,owned (nmT nm σ) (sh.inj x).objs b→owned nm st1.objs b:=by
  rintro b ⟨j,obT,h1,h2,h3⟩
  obtain ⟨i,ob,q1,q2,_,q3,_⟩:=m j obT h1
  rw [kw q1] at h3
  exact ⟨i,ob,q2,q3,h3⟩
 obtain ⟨r1,r2⟩:=hrd (Zc w (Bs.of (Zc w0 Z0 nm st1.objs w) (nmT nm σ) (sh.inj x).objs) (nmT nm σ) (sh.inj x).objs w) (fun b hb=>⟨hb.1,fun _ => .inl hb,fun hh=>hb.2.2 (hown b hh)⟩)
 have hsl:(sh.inj x).slots.length=sh.slots.length:=by
  show (SS.inj sh.slots _).length=_
  have : ∀ (l:List (Nat×SD)) (y:densU (SS.tys l)),(SS.inj l y).length=l.length:=by
   intro l
   induction l with
   | nil=>intro y;rfl
   | cons p l ih=>intro y;simp [SS.inj_cons,ih]
  exact this _ _
 refine ⟨hrel,hfz,hi,fun j obT ho => ?_,by rw [hsl,← l3];exact l1,fun i p v q1 q2=>r2 vs l1 l2 i p v q1 q2,r1,fun j obT b ho hb => ?_,fun j j' obT obT' b ho ho' hb hb' => ?_,fun b hb=>hb.1,fun j obT ho => ?_,hrel.gnow,fun b hb => ?_⟩
 ·obtain ⟨i,ob,q1,q2,_,q3,_⟩:=m j obT ho
  exact ⟨i,ob,q1,q2,q3⟩
 ·obtain ⟨i,ob,q1,q2,_⟩:=m j obT ho
  rw [kw q1] at hb
  exact (hrel.new i ob b q2 hb).2
 ·obtain ⟨i,ob,q1,q2,_⟩:=m j obT ho
  obtain ⟨i',ob',q1',q2',_⟩:=m j' obT' ho'
  rw [kw q1] at hb
  rw [kw q1'] at hb'
  have:=hrel.inj i i' ob ob' b q2 q2' hb hb'
  subst this
  exact hi j j' i q1 q1'
 ·obtain ⟨i,ob,_,_,_,_,q⟩:=m j obT ho
  exact q
 ·obtain ⟨i,ob,q1,q2,q3⟩:=hown b hb
  rcases (hrel.new i ob b q1 q3).1 with q | q
  ·exact Nat.le_trans (GInv.size hrel.glob.1) q
  ·exact hrel.glob.2 b q
theorem Fz.arrs (hfz:Fz st st1) : ∀ i v fz e t xs,look st.objs i=some (.arr v fz e t xs) → ∃ fz',look st1.objs i=some (.arr v fz' e t xs):=fun i v fz e t xs ho=>by
 rcases hfz.objs i with q | ⟨v2,fz2,e2,t2,xs2,q1,q2⟩ | ⟨v2,fz2,e2,te2,t2,xs2,q1,q2⟩
 ·exact ⟨fz,q.trans ho⟩
 ·rw [ho] at q1;cases q1;exact ⟨true,q2⟩
 ·rw [ho] at q1;cases q1
theorem Fz.deeps (hfz:Fz st st1) : ∀ i v fz e te t xs h,look st.objs i=some (.deep v fz e te t xs h) → ∃ fz',look st1.objs i=some (.deep v fz' e te t xs h):=fun i v fz e te t xs h ho=>by
 rcases hfz.objs i with q | ⟨v2,fz2,e2,t2,xs2,q1,q2⟩ | ⟨v2,fz2,e2,te2,t2,xs2,q1,q2⟩
 ·exact ⟨fz,q.trans ho⟩
 ·rw [ho] at q1;cases q1
 ·rw [ho] at q1;cases q1;exact ⟨true,q2⟩
theorem Fz.nones (hfz:Fz st st1) : ∀ i,look st.objs i=none→look st1.objs i=none:=fun i ho=>by
 rcases hfz.objs i with q | ⟨v2,fz2,e2,t2,xs2,q1,q2⟩ | ⟨v2,fz2,e2,te2,t2,xs2,q1,q2⟩
 ·exact q.trans ho
 ·rw [ho] at q1;cases q1
 ·rw [ho] at q1;cases q1
theorem mcall_good (h:Rel n w0 Z0 st a w nm) {f:Nat} {mc:MCallee} (hmc:MOk P f mc) {ds:List Dv} {vs:List Value} (l1:vs.length=ds.length)
 (l2 : ∀ (i:Nat) d v,ds[i]? = some d→vs[i]? = some v→rdD w (Zc w0 Z0 nm st.objs w) nm st.objs d v)
 (hrun : ∀ fn, P.funcs[f]? = some fn → (fn.name == "runtime.NumGoroutine") = false → fn.body.isNone = false → (execOp a.eval o).run P w = .ok (.enter f vs.toArray) w)
 {x:densU mc.pre.tys} {u:Upd} {σ:Ren} (hb:Ye (look st.objs) [] mc.pre ds=some (x,u,σ)) {y:densU mc.post.tys} (hF:mc.F x=some y) {d:Dv} {v:Upd}
 (hk:backK (look st.objs) dst σ (mc.post.inj y)=some (d,v)) (hcalm:calmP mc.pre.objs=true):Good P n w0 Z0 st a w o ⟨d,u++v⟩:=by
 intro st' hlay
 obtain ⟨st1,hl1,hl2⟩:=layObs_append u hlay
 obtain ⟨hrel,hfz,hi,hm,hpre⟩:=pre_ok h l1 l2 hb hl1 hcalm
 obtain ⟨⟨fn,f1,f2,f3⟩,hcalls⟩:=hmc
 refine Does.of_call (hrun fn f1 f2 f3) ?_
 refine Calls.mono (hcalls w _ _ vs x y hpre hF) ?_
 rintro e w' ⟨v',nm',he,hpost⟩
 refine ⟨v',he,?_⟩
 refine mback hrel (obx:=look st.objs) hfz.arrs hfz.deeps hfz.nones hm hpost hk hl2
theorem alt_good (h:Rel n w0 Z0 st a w nm) {f:Nat} {ma:MAlt} (hma:AltOk P f ma) (hcalm:calmP ma.pre.objs=true) {ds:List Dv} {vs:List Value} (l1:vs.length=ds.length)
 (l2 : ∀ (i:Nat) d v,ds[i]? = some d→vs[i]? = some v→rdD w (Zc w0 Z0 nm st.objs w) nm st.objs d v)
 (hrun : ∀ fn, P.funcs[f]? = some fn → (fn.name == "runtime.NumGoroutine") = false → fn.body.isNone = false → (execOp a.eval o).run P w = .ok (.enter f vs.toArray) w)
 {x:densU ma.pre.tys} {u:Upd} {σ:Ren} (hb:Ye (look st.objs) [] ma.pre ds=some (x,u,σ)) {y:densU ma.post.tys⊕densU ma.post2.tys} (hF:ma.F x=some y) {d:Dv} {v:Upd}
 (hk:backK (look st.objs) dst σ (match y with | .inl y=>ma.post.inj y | .inr y=>ma.post2.inj y)=some (d,v)) {st':St} (hlay:Jh st (u++v)=some st') {K:Act→World→Prop} {Q:Exit→Act→World→Prop}
 (hK : ∀ v w' nm',Rel n w0 Z0 st' a w' nm'→rdD w' (Zc w0 Z0 nm' st'.objs w') nm' st'.objs d v→match y with
  | .inl _=>K (a.put o.dst v) w'
  | .inr _=>bif ma.pan then Q (.panic [{ v,recovered:=false }]) a w' else K (a.put o.dst v) w'):o.wp P a w K Q:=by
 obtain ⟨st1,hl1,hl2⟩:=layObs_append u hlay
 obtain ⟨hrel,hfz,hi,hm,hpre⟩:=pre_ok h l1 l2 hb hl1 hcalm
 obtain ⟨⟨fn,f1,f2,f3⟩,hcalls⟩:=hma
 unfold Oper.wp
 rw [hrun fn f1 f2 f3]
 have back : ∀ {w':World} {v':Value} {nm':Names} {sp:St},Post w w' (Bs.of (Zc w0 Z0 nm st1.objs w) (nmT nm σ) (ma.pre.inj x).objs) nm' sp v'→backK (look st.objs) dst σ sp=some (d,v) → ∃ nm2,Rel n w0 Z0 st' a w' nm2∧rdD w' (Zc w0 Z0 nm2 st'.objs w') nm2 st'.objs d v':=by
  intro w' v' nm' sp hpost hk
  refine mback hrel (obx:=look st.objs) hfz.arrs hfz.deeps hfz.nones hm hpost hk hl2
 show Calls P f vs.toArray w _
 refine Calls.mono (hcalls w _ _ vs x y hpre hF) ?_
 rintro e w' ⟨v',nm',hp⟩
 cases y with
 | inl y=>
   obtain ⟨he,hpost⟩:=hp
   subst he
   obtain ⟨nm2,q1,q2⟩:=back hpost hk
   exact hK v' w' nm2 q1 q2
 | inr y=>
   obtain ⟨he,hpost⟩:=hp
   obtain ⟨nm2,q1,q2⟩:=back hpost hk
   have:=hK v' w' nm2 q1 q2
   subst he
   cases hpn:ma.pan with
   | true=>rw [hpn] at this;exact this
   | false=>rw [hpn] at this;exact this
theorem Rel.thrown (h:Rel n w0 Z0 st a w nm) {x:At} {v:Value} (hx:rdA w (Zc w0 Z0 nm st.objs w) nm st.objs x v) {st':St} (ht:Go.Ql.thrown st x=some st') :
 Rel n w0 Z0 st' a w (setN nm payId (.func (.func 0) #[] #[v])):=by
 unfold Go.Ql.thrown at ht
 cases hc:mayOb st payId (.clo 0 [] [x]) && !x.mentions payId with
 | false=>rw [hc] at ht;cases ht
 | true=>
   rw [hc] at ht
   simp only [cond_true,Option.some.injEq] at ht
   subst ht
   simp only [Bool.and_eq_true,Bool.not_eq_true'] at hc
   have hno:look st.objs payId=none:=by
    cases hl:look st.objs payId with
    | none=>rfl
    | some ob=>have:=hc.1;unfold mayOb at this;rw [hl] at this;cases ob <;> cases this
   refine Rel.upd h payId _ _ hc.1 (by rw [hno];trivial) ⟨rfl,rfl,rfl,Nat.le_refl _⟩ (fun b _ => .inr rfl) (fun b hb=>by cases hb) ?_
   refine ⟨#[],#[v],jW _ _ _,Yi,?_⟩
   have hk:Kept w w (Zc w0 Z0 nm st.objs w) (Zc w0 Z0 (setN nm payId (.func (.func 0) #[] #[v])) (ins payId (.clo 0 [] [x]) st.objs) w):=by
    rintro b ⟨h1,h2,h3⟩
    refine ⟨⟨h1,h2,?_⟩,rfl⟩
    rintro ⟨j,ob,hj,hm,hb⟩
    by_cases he:payId=j
    ·subst he
     rw [jW] at hb
     cases hb
    ·rw [Jl,if_neg he] at hj
     rw [ka _ _ (Ne.symm he)] at hb
     exact h3 ⟨j,ob,hj,hm,hb⟩
   refine ⟨rfl,fun i a u h1 h2 => ?_⟩
   cases i with
   | succ i=>simp at h1
   | zero=>
     simp only [List.getElem?_cons_zero,Option.some.injEq] at h1
     subst h1
     have h2:some v=some u:=h2
     cases h2
     exact Uz hk (atOk_upd hc.1 (by rw [hno];trivial) (fun _=>hc.2) (fun v _=>hasVer_no hc.2) (fun _=>isDin_no hc.2)) hx
theorem eff_call {c:Call} {x:Operand} (hF:AllOk P G) (ho:o.op = .call c) (hc:c.callee = .value x):EffOk P G o:=by
 intro hT n w0 w Z0 st a nm dst ρ k r h he
 unfold effK at he
 rw [ho] at he
 simp only [hc] at he
 split at he
 ·rename_i f fs cs as h1 h2
  obtain ⟨vs,l1,l2,hrun⟩:=callee_run (P:=P) h ho hc h1 h2
  split at he
  ·rename_i ce hce
   split at he
   ·rename_i xs u hxs
    obtain ⟨res,hres,he⟩:=ju he
    exact ⟨_,he,pure_call h (hF.fns f ce hce) l1 l2 hrun hxs hres⟩
   ·cases he
  ·unfold UQ at he
   split at he
   ·rename_i mc hmc
    cases hb:(Nat.beq mc.fn f && calmP mc.pre.objs) with
    | false=>rw [hb] at he;cases he
    | true=>
      rw [hb] at he
      rw [Bool.and_eq_true] at hb
      obtain ⟨hb,hcalm⟩:=hb
      have:=beqN.1 hb
      subst this
      simp only [cond_true] at he
      have hok:MOk P mc.fn mc:=by
       unfold mcallOf at hmc
       split at hmc
       ·rename_i mc' h3
        cases hb2:Nat.beq mc'.fn mc.fn with
        | true=>rw [hb2] at hmc;simp only [cond_true,Option.some.injEq] at hmc;subst hmc;exact hF.mfns _ _ h3
        | false=>rw [hb2] at hmc;exact hF.mfns _ _ hmc
       ·exact hF.mfns _ _ hmc
      split at he
      ·rename_i x1 u σ hbi
       obtain ⟨y,hy,he⟩:=ju he
       split at he
       ·rename_i d v hk
        exact ⟨_,he,mcall_good h hok l1 l2 hrun hbi hy hk hcalm⟩
       ·cases he
      ·cases he
   ·cases he
 ·cases he
theorem onesD_no {id:Nat} : ∀ {ds:List Dv} {cs:List At},onesD ds=some cs→(∀ d∈ds,d.mentions id=false) → ∀ x∈cs,x.mentions id=false
 | [],cs,h,_,x,hx=>by simp only [onesD,Option.some.injEq] at h;subst h;cases hx
 | .one y::ds,cs,h,hn,x,hx=>by
   simp only [onesD] at h
   split at h
   ·rename_i l h1
    simp only [Option.some.injEq] at h
    subst h
    rcases List.mem_cons.1 hx with rfl | hx
    ·exact hn (.one x) (by simp)
    ·exact onesD_no h1 (fun d hd=>hn d (List.mem_cons_of_mem _ hd)) x hx
   ·cases h
 | .agg _::_,_,h,_,_,_=>by simp [onesD] at h
 | .tup _::_,_,h,_,_,_=>by simp [onesD] at h
 | .tgg _ _::_,_,h,_,_,_=>by simp [onesD] at h
theorem evAll_no {id:Nat} (hf:st.free id=true) : ∀ {l:List Operand} {ds:List Dv},evAll (evSt st) l=some ds → ∀ d∈ds,d.mentions id=false
 | [],ds,h,d,hd=>by simp only [evAll,Option.some.injEq] at h;subst h;cases hd
 | x::l,ds,h,d,hd=>by
   simp only [evAll] at h
   split at h
   ·rename_i y l' h1 h2
    simp only [Option.some.injEq] at h
    subst h
    rcases List.mem_cons.1 hd with rfl | hd
    ·exact ev_no hf h1
    ·exact evAll_no hf h2 d hd
   ·cases h
theorem eff_makeFunc {fn:Fn} {first caps:Array Operand} (ho:o.op = .makeFunc fn first caps):EffOk P G o:=by
 intro hT n w0 w Z0 st a nm dst ρ k r h he
 unfold effK at he
 rw [ho] at he
 cases fn with
 | func f=>
   simp only at he
   split at he
   ·rename_i fs cs h1 h2
    split at he
    ·rename_i x y h3 h4
     obtain ⟨l1,l2⟩:=evAll_rd h h1
     obtain ⟨l3,l4⟩:=evAll_rd h h2
     have r1:=onesD_rd (w:=w) (Z:=Zc w0 Z0 nm st.objs w) (nm:=nm) (objs:=st.objs) (vs:=first.toList.map a.eval) h3 (by simp [l1]) l2
     have r2:=onesD_rd (w:=w) (Z:=Zc w0 Z0 nm st.objs w) (nm:=nm) (objs:=st.objs) (vs:=caps.toList.map a.eval) h4 (by simp [l3]) l4
     have hrun:(execOp a.eval o).run P w = .ok (.value (.func (.func f) (first.map a.eval) (caps.map a.eval))) w:=by
      simp [execOp,ho,Instr.makeFunc]
     cases hn:(isNil x && isNil y) with
     | true=>
       rw [hn] at he
       rw [Bool.and_eq_true] at hn
       have hx:x=[]:=by cases x with | nil=>rfl | cons p q=>cases hn.1
       have hy:y=[]:=by cases y with | nil=>rfl | cons p q=>cases hn.2
       subst hx;subst hy
       have e1:first.map a.eval = #[]:=by
        have:=r1.1
        simp only [List.length_map,List.length_nil] at this
        apply Array.ext'
        simp [List.eq_nil_of_length_eq_zero this]
       have e2:caps.map a.eval = #[]:=by
        have:=r2.1
        simp only [List.length_map,List.length_nil] at this
        apply Array.ext'
        simp [List.eq_nil_of_length_eq_zero this]
       rw [e1,e2] at hrun
       exact ⟨_,he,Good.pure h hrun rfl⟩
     | false=>
       rw [hn] at he
       simp only [cond_false] at he
       split at he
       ·rename_i hno
        refine ⟨_,he,fun st' hl => ?_⟩
        obtain ⟨hmay,rfl⟩:=kF hl
        have hfree:st.free dst=true:=by unfold mayOb at hmay;rw [hno] at hmay;simp only [Bool.and_eq_true] at hmay;exact hmay.2
        refine Does.of_run hrun ⟨setN nm dst (.func (.func f) (first.map a.eval) (caps.map a.eval)),?_,⟨rfl,fun _ _ _ _=>(jW _ _ _).symm⟩⟩
        have hk:Kept w w (Zc w0 Z0 nm st.objs w) (Zc w0 Z0 (setN nm dst (.func (.func f) (first.map a.eval) (caps.map a.eval))) (ins dst (.clo f x y) st.objs) w):=by
         rintro b ⟨z1,z2,z3⟩
         refine ⟨⟨z1,z2,?_⟩,rfl⟩
         rintro ⟨j,ob,y1,y2,y3⟩
         by_cases hj:dst=j
         ·subst hj
          rw [jW] at y3
          cases y3
         ·rw [Jl,if_neg hj] at y1
          rw [ka _ _ (Ne.symm hj)] at y3
          exact z3 ⟨j,ob,y1,y2,y3⟩
        have hat : ∀ cs:List At,(∀ q∈cs,q.mentions dst=false) → ∀ q∈cs,AtOk nm (setN nm dst (.func (.func f) (first.map a.eval) (caps.map a.eval))) st.objs (ins dst (.clo f x y) st.objs) q:=by
         intro cs hcs q hq
         exact atOk_upd hmay (by rw [hno];trivial) (fun _=>hcs q hq) (fun v _=>hasVer_no (hcs q hq)) (fun _=>isDin_no (hcs q hq))
        refine h.upd dst _ _ hmay (by rw [hno];trivial) ⟨rfl,rfl,rfl,Nat.le_refl _⟩ (fun _ _ => .inr rfl) (fun b hb=>by cases hb) ⟨_,_,jW _ _ _,?_,?_⟩
        ·rw [Array.toList_map]
         exact Yd hk (hat x (onesD_no h3 (evAll_no hfree h1))) r1
        ·rw [Array.toList_map]
         exact Yd hk (hat y (onesD_no h4 (evAll_no hfree h2))) r2
       ·cases he
    ·cases he
   ·cases he
 | _=>cases he
theorem eff_nilCheck {x:Operand} (ho:o.op = .nilCheck x):EffOk P G o:=by
 intro hT n w0 w Z0 st a nm dst ρ k r h he
 unfold effK at he
 rw [ho] at he
 simp only at he
 have hp : ∀ ad,a.eval x = .pointer (some ad)→(execOp a.eval o).run P w = .ok (.value (a.eval x)) w:=by
  intro ad hv
  simp [execOp,ho,hv]
 have hf : ∀ f vx vy,a.eval x = .func (.func f) vx vy→(execOp a.eval o).run P w = .ok (.value (a.eval x)) w:=by
  intro f vx vy hv
  simp [execOp,ho,hv]
 split at he
 ·rename_i id off hx
  split at he
  ·rename_i cs hob
   have hv:=ev_rd h hx
   obtain ⟨b,_,e⟩:=hv.2 cs hob
   exact ⟨_,he,Good.pure h (hp _ e) (ev_rd h hx)⟩
  ·cases he
 ·rename_i t d hx
  obtain ⟨b,off,cs,e,_⟩:=ev_rd h hx
  exact ⟨_,he,Good.pure h (hp _ e) (ev_rd h hx)⟩
 ·rename_i id ver hx
  split at he
  ·rename_i v fz e t xs hob
   cases hc:Nat.beq v ver with
   | false=>rw [hc] at he;cases he
   | true=>
     rw [hc] at he
     have:=beqN.1 hc
     subst this
     have hv:=ev_rd h hx
     obtain ⟨b,_,_,_,e⟩:=hv.2 _ _ _ _ hob
     exact ⟨_,he,Good.pure h (hp _ e) (ev_rd h hx)⟩
  ·cases he
 ·rename_i id ver i sz off hx
  split at he
  ·rename_i v fz e t xs hob
   cases hc:Nat.beq v ver with
   | false=>rw [hc] at he;cases he
   | true=>
     rw [hc] at he
     have:=beqN.1 hc
     subst this
     have hv:=ev_rd h hx
     obtain ⟨_,_,_,b,_,_,_,e⟩:=hv.2 _ _ _ _ hob
     exact ⟨_,he,Good.pure h (hp _ e) (ev_rd h hx)⟩
  ·cases he
 ·rename_i id ver i off hx
  split at he
  ·rename_i v fz e te t xs hole hob
   cases hc:Nat.beq v ver with
   | false=>rw [hc] at he;cases he
   | true=>
     rw [hc] at he
     have:=beqN.1 hc
     subst this
     have hv:=ev_rd h hx
     obtain ⟨_,_,b,_,_,_,e⟩:=hv.2 _ _ _ _ _ _ hob
     exact ⟨_,he,Good.pure h (hp _ e) (ev_rd h hx)⟩
  ·cases he
 ·rename_i f hx
  have hv:=ev_rd h hx
  exact ⟨_,he,Good.pure h (hf _ _ _ hv) hv⟩
 ·rename_i id hx
  split at he
  ·rename_i f p q hob
   have hv:=ev_rd h hx
   have e1:=hv.2 f p q hob
   obtain ⟨vx,vy,e2,_⟩:=h.objs id _ hob
   exact ⟨_,he,Good.pure h (hf _ _ _ (e1.trans e2)) hv⟩
  ·cases he
 ·cases he
theorem eff_binOp (hE:EqsOk P G.tab G.eqs) {op:BinOp} {xt yt:TypeId} {x y:Operand} (ho:o.op = .binOp op xt x y yt):EffOk P G o:=by
 intro hT n w0 w Z0 st a nm dst ρ k r h he
 unfold effK at he
 rw [ho] at he
 simp only at he
 split at he
 ·rename_i d1 d2 h1 h2
  split at he
  ·
   rename_i j m l q
   have e1:=Yk h h1
   have e2:=Yk h h2
   have hg:(eqGuard op xt x y (a.eval x) (a.eval y)).run P w = .ok () w:=run_eqGuard_no (by rw [e1];simp)
   rw [e1,e2] at hg
   have hx : ∀ v:Value,(binOp op xt (.int j m) (.int l q)).run P w = .ok v w→(execOp a.eval o).run P w = .ok (.value v) w:=by
    intro v hv
    simp only [execOp,ho]
    simp [hg,e1,e2,hv]
   have shl : ∀ hop:(op = .shl∨op = .shr),shI op j m q (fun d=>k ⟨d,[]⟩)=some r → ∃ e,k e=some r∧Good P n w0 Z0 st a w o e:=by
    intro hop hs
    rcases hop with rfl | rfl
    ·simp only [shI] at hs
     obtain ⟨_,hb,hs⟩:=ju hs
     have hb:=of_decide_eq_true (JB hb)
     exact ⟨_,hs,Good.pure h (hx _ (by simp [binOp,Op.shift,Int.not_lt.2 hb])) (rd_vI ..)⟩
    ·simp only [shI] at hs
     obtain ⟨_,hb,hs⟩:=ju hs
     have hb:=of_decide_eq_true (JB hb)
     exact ⟨_,hs,Good.pure h (hx _ (by simp [binOp,Op.shift,Int.not_lt.2 hb])) (rd_vI ..)⟩
   have arith:op ≠ .shl→op ≠ .shr→(bif decide (j=l) then binI op j m q (fun d=>k ⟨d,[]⟩) else none)=some r → ∃ e,k e=some r∧Good P n w0 Z0 st a w o e:=by
    intro n1 n2 hs
    by_cases hjl:j=l
    ·subst hjl
     simp only [decide_true,cond_true] at hs
     obtain ⟨d,v,q1,q2,q3⟩:=binI_run (P:=P) (w:=w) (xt:=xt) n1 n2 hs
     exact ⟨_,q1,Good.pure h (hx _ q2) (q3 _ _ _)⟩
    ·simp [hjl] at hs
   cases op <;> first | exact shl (.inl rfl) he | exact shl (.inr rfl) he | exact arith (by simp) (by simp) he
  ·
   rename_i s t
   have e1:=Uh h h1
   have e2:=Uh h h2
   have hg:(eqGuard op xt x y (a.eval x) (a.eval y)).run P w = .ok () w:=run_eqGuard_no (by rw [e1];simp)
   rw [e1,e2] at hg
   have hx : ∀ v:Value,(binOp op xt (.string ⟨s.toArray⟩) (.string ⟨t.toArray⟩)).run P w = .ok v w→(execOp a.eval o).run P w = .ok (.value v) w:=by
    intro v hv
    simp only [execOp,ho]
    simp [hg,e1,e2,hv]
   obtain ⟨d,v,q1,q2,q3⟩:=binS_run (P:=P) (w:=w) (xt:=xt) he
   exact ⟨_,q1,Good.pure h (hx _ q2) (q3 _ _ _)⟩
  ·
   rename_i s t
   have e1:=UF h h1
   have e2:=UF h h2
   split at he
   ·rename_i htab
    have hk:=(hT _ _ htab).kind
    have hu:P.underlying xt=some .bool:=by
     rcases hk with ⟨_,h1⟩ | ⟨q,h1,_⟩ | ⟨h1,_⟩
     ·exact h1
     ·cases h1
     ·cases h1
    have hg:(eqGuard op xt x y (a.eval x) (a.eval y)).run P w = .ok () w:=run_eqGuard_no (by rw [e1];simp)
    rw [e1,e2] at hg
    have hq:(Op.equal xt (.bool s) (.bool t)).run P w = .ok (s == t) w:=run_equalIn_bool 9999 hu s t
    cases op <;> simp only at he
    case eql=>exact ⟨_,he,Good.pure h (v:=.bool (s == t)) (by simp only [execOp,ho];simp [hg,e1,e2,binOp,hq]) (rd_vB ..)⟩
    case neq=>exact ⟨_,he,Good.pure h (v:=.bool (!(s == t))) (by simp only [execOp,ho];simp [hg,e1,e2,binOp,hq]) (rd_vB ..)⟩
    all_goals cases he
   ·cases he
  ·
   have e1:a.eval x = .nilIface:=by
    have:=ev_rd h h1
    have this:[a.eval x]=[Yl 1]:=this
    exact (List.cons.inj this).1
   unfold nilK at he
   split at he
   ·rename_i htab
    obtain ⟨kk,q1,_,q2⟩:=(hT _ _ htab).kind
    cases q1
    obtain ⟨ms,hu⟩:=q2 rfl
    have e2:a.eval (.const .nilIface) = .nilIface:=rfl
    have hg:(eqGuard op xt x (.const .nilIface) .nilIface .nilIface).run P w = .ok () w:=run_eqGuard_nil (by simp)
    have hq:(Op.equal xt .nilIface .nilIface).run P w = .ok true w:=run_equalIn_nil 9999 hu
    cases op <;> simp only at he
    case eql=>exact ⟨_,he,Good.pure h (v:=.bool true) (by simp only [execOp,ho];simp [hg,e1,e2,binOp,hq]) (rd_vB ..)⟩
    case neq=>exact ⟨_,he,Good.pure h (v:=.bool (!true)) (by simp only [execOp,ho];simp [hg,e1,e2,binOp,hq]) (rd_vB ..)⟩
    all_goals cases he
   ·cases he
  ·
   obtain ⟨v,e,hd⟩:=ev_rd h h1
   replace e:a.eval x=v:=(List.cons.inj e).1
   unfold nilK at he
   split at he
   ·rename_i htab
    obtain ⟨kk,q1,_,q2⟩:=(hT _ _ htab).kind
    cases q1
    obtain ⟨ms,hu⟩:=q2 rfl
    have e2:a.eval (.const .nilIface) = .nilIface:=rfl
    rcases hd with ⟨rfl,T,u,rfl⟩ | ⟨rfl,rfl⟩
    ·have e1:a.eval x = .iface T u:=e
     have hg:(eqGuard op xt x (.const .nilIface) (.iface T u) .nilIface).run P w = .ok () w:=run_eqGuard_nil (by simp)
     have hq:(Op.equal xt (.iface T u) .nilIface).run P w = .ok false w:=run_equalIn_nn 9999 hu T u
     cases op <;> simp only at he
     case eql=>exact ⟨_,he,Good.pure h (v:=.bool false) (by simp only [execOp,ho];simp [hg,e1,e2,binOp,hq]) (rd_vB ..)⟩
     case neq=>exact ⟨_,he,Good.pure h (v:=.bool (!false)) (by simp only [execOp,ho];simp [hg,e1,e2,binOp,hq]) (rd_vB ..)⟩
     all_goals cases he
    ·have e1:a.eval x = .nilIface:=e
     have hg:(eqGuard op xt x (.const .nilIface) .nilIface .nilIface).run P w = .ok () w:=run_eqGuard_nil (by simp)
     have hq:(Op.equal xt .nilIface .nilIface).run P w = .ok true w:=run_equalIn_nil 9999 hu
     cases op <;> simp only at he
     case eql=>exact ⟨_,he,Good.pure h (v:=.bool true) (by simp only [execOp,ho];simp [hg,e1,e2,binOp,hq]) (rd_vB ..)⟩
     case neq=>exact ⟨_,he,Good.pure h (v:=.bool (!true)) (by simp only [execOp,ho];simp [hg,e1,e2,binOp,hq]) (rd_vB ..)⟩
     all_goals cases he
   ·cases he
  ·
   have e1:a.eval x = .slice none 0 0:=ev_rd h h1
   have e2:a.eval y = .slice none 0 0:=ev_rd h h2
   split at he
   ·rename_i htab
    obtain ⟨hu,_⟩:=kM hT htab
    cases op <;> simp only at he
    case eql=>exact ⟨_,he,Good.pure h (v:=.bool true) (by simp [execOp,ho,e1,e2,eqGuard,binOp,run_equal_slice_nil w xt _ none 0 0 hu]) (rd_vB ..)⟩
    case neq=>exact ⟨_,he,Good.pure h (v:=.bool false) (by simp [execOp,ho,e1,e2,eqGuard,binOp,run_equal_slice_nil w xt _ none 0 0 hu]) (rd_vB ..)⟩
    all_goals cases he
   ·cases he
  ·
   cases hm:memN xt G.eqs.l with
   | false=>rw [hm] at he;cases he
   | true=>
   rw [hm] at he
   simp only [cond_true] at he
   split at he
   ·rename_i s kk htab
    split at he
    ·rename_i x1 y1 q1 q2
     have hq:=hE.1 xt hm s kk htab
     obtain ⟨f1,g1⟩:=Yj (n:=n) (w0:=w0) (w:=w) (Z0:=Z0) (a:=a) (nm:=nm) q1
     obtain ⟨f2,g2⟩:=Yj (n:=n) (w0:=w0) (w:=w) (Z0:=Z0) (a:=a) (nm:=nm) q2
     have hfr:Frozen n w0 Z0 st st a w nm []:=⟨Fz.refl _,h,fun p hp=>by cases hp⟩
     obtain ⟨cx,ex,hx⟩:=g1 st hfr _ (ev_rd h h1)
     obtain ⟨cy,ey,hy⟩:=g2 st hfr _ (ev_rd h h2)
     obtain ⟨r1,r2⟩:=eqSt_run hq hx hy
     have hg:(eqGuard op xt x y (.agg cx) (.agg cy)).run P w = .ok () w:=run_eqGuard_agg w op xt x y cx cy r2
     cases op <;> simp only at he
     case eql=>exact ⟨_,he,Good.pure h (v:=.bool (Ty.eqT s x1 y1)) (by simp only [execOp,ho];simp [hg,ex,ey,run_eql_struct,r1]) (rd_vB ..)⟩
     case neq=>exact ⟨_,he,Good.pure h (v:=.bool (!Ty.eqT s x1 y1)) (by simp only [execOp,ho];simp [hg,ex,ey,run_neq_struct,r1]) (rd_vB ..)⟩
     all_goals cases he
    ·cases he
   ·cases he
 ·cases he
end
end Go.Ql
end

section
set_option linter.unusedSectionVars false
namespace Go.Ql
section
variable [GInv] {P:Program} {G:Env} {n:Nat} {w0 w w':World} {Z0:Bs} {Z Z':Nat→Prop} {st st1:St} {a:Act} {nm:Names} {o:Oper} {dst:Nat} {ρ:Type} {k:Eff→Option ρ} {r:ρ}
theorem US (off:Nat) : ∀ (vs:List Value) (j:Nat) (cells:Array Value),off+j+vs.length≤cells.size →
 (vs.zipIdx j).foldl (fun (cs:Array Value) (x:Value×Nat)=>cs.setIfInBounds (off+x.2) x.1) cells=(cells.toList.take (off+j)++vs++cells.toList.drop (off+j+vs.length)).toArray
 | [],j,cells,_=>by
   apply Array.ext'
   simp
 | v::vs,j,cells,h=>by
   simp only [List.length_cons] at h
   rw [List.zipIdx_cons,List.foldl_cons,US off vs (j+1) _ (by simp;omega)]
   apply Array.ext'
   have hlt:off+j < cells.toList.length:=by simp;omega
   simp only [Array.toList_setIfInBounds,List.toList_toArray,List.length_cons]
   rw [← Nat.add_assoc,List.take_add_one,List.take_set_of_le (Nat.le_refl _),List.getElem?_set_self hlt,List.drop_set_of_lt (by omega)]
   simp only [Option.toList_some,List.append_assoc,List.singleton_append,List.cons_append,List.nil_append]
   rw [show off+j+1+vs.length=off+j+(vs.length+1) by omega]
theorem UT (off:Nat) (vs cells:Array Value) (h:off+vs.size≤cells.size) :
 vs.zipIdx.foldl (fun (cs:Array Value) (x:Value×Nat)=>cs.setIfInBounds (off+x.2) x.1) cells=(cells.toList.take off++vs.toList++cells.toList.drop (off+vs.size)).toArray:=by
 rw [← Array.foldl_toList,Array.toList_zipIdx]
 have:=US off vs.toList 0 cells (by simpa using h)
 simpa using this
theorem Ui {place:Nat→Option (Nat×Nat)} {cells:Array Value} {i off size:Nat} {v:Value} {rest:List (Nat×Value)} (hp:place i=some (off,size)) (hs:v.cells.size=size) (hf:off+v.cells.size≤cells.size) :
 Instr.fill place cells ((i,v)::rest)=Instr.fill place (cells.toList.take off++v.cells.toList++cells.toList.drop (off+v.cells.size)).toArray rest:=by
 have h1:(v.cells.size≠size || off+v.cells.size > cells.size)=false:=by simp [hs];omega
 simp only [Instr.fill,hp,h1,Bool.false_eq_true,if_false]
 rw [← UT off v.cells cells hf]
theorem fillA_rd (hT:TabOk P G.tab) (h:Rel n w0 Z0 st a w nm) {fs:List (Nat×TypeId)} {place:Nat→Option (Nat×Nat)}
 (hpl : ∀ i off ft fi,fs[i]? = some (off,ft)→look G.tab ft=some fi→place i=some (off,fi.ty.cells)) :
 ∀ (ps:List (Nat×Operand)) {cs cs':List At} {cells:List Value},fillA G.tab fs (evSt st) ps cs=some cs'→rdAs w (Zc w0 Z0 nm st.objs w) nm st.objs cs cells→(∀ u∈cells,u.oneCell'=true) →
  ∃ cells':List Value,Instr.fill place cells.toArray (ps.map fun x=>(x.1,a.eval x.2))=some cells'.toArray∧rdAs w (Zc w0 Z0 nm st.objs w) nm st.objs cs' cells' ∧ ∀ u∈cells',u.oneCell'=true
 | [],cs,cs',cells,he,hr,h1=>by
   simp only [fillA,Option.some.injEq] at he
   subst he
   exact ⟨cells,rfl,hr,h1⟩
 | (i,x)::ps,cs,cs',cells,he,hr,h1=>by
   simp only [fillA] at he
   split at he
   ·rename_i off ft d q1 q2
    split at he
    ·rename_i ds fi q3 q4
     cases hb:(Nat.beq ds.length fi.ty.cells && Nat.ble (off+ds.length) cs.length) with
     | false=>rw [hb] at he;cases he
     | true=>
       rw [hb] at he
       simp only [cond_true] at he
       rw [Bool.and_eq_true] at hb
       have hl:=beqN.1 hb.1
       have hle:=Nat.le_of_ble_eq_true hb.2
       obtain ⟨r1,r2⟩:=dvCells_rd (ev_rd h q2) q3
       have hvs:(a.eval x).cells.size=ds.length:=by rw [← r1.1];simp
       have hcl:=hr.1
       have hnew:=ko (ko (VD hr off) r1) (Um hr (off+ds.length))
       obtain ⟨cells',s1,s2,s3⟩:=fillA_rd hT h hpl ps he hnew (by
        intro u hu
        rw [List.append_assoc] at hu
        rcases List.mem_append.1 hu with hu | hu
        ·exact h1 u (List.mem_of_mem_take hu)
        ·rcases List.mem_append.1 hu with hu | hu
         ·exact r2 u hu
         ·exact h1 u (List.mem_of_mem_drop hu))
       refine ⟨cells',?_,s2,s3⟩
       rw [List.map_cons,Ui (hpl i off ft fi q1 q4) (by rw [hvs,hl]) (by rw [hvs];simp;omega)]
       rw [hvs]
       simpa using s1
    ·cases he
   ·cases he
theorem run_mapM_places {fields:List Field} (hf : ∀ f∈fields,∃ fi,P.info? f.type=some fi) :
 (fields.mapM fun f=>(do pure (f.offset,← sizeOf f.type):Sem (Nat×Nat))).run P w = .ok (fields.map fun f=>(f.offset,((P.info? f.type).map (·.size)).getD 0)) w:=by
 induction fields with
 | nil=>simp
 | cons f fields ih=>
   obtain ⟨fi,h1⟩:=hf f (by simp)
   have:=ih (fun g hg=>hf g (by simp [hg]))
   have hs:(sizeOf f.type).run P w = .ok fi.size w:=by simp [sizeOf,typeInfo,h1]
   rw [List.mapM_cons]
   simp only [Sem.run_bind,hs,Result.andThen_ok,Sem.run_pure,this,List.map_cons,h1,Option.map_some,Option.getD_some]
theorem fillS_rd (hT:TabOk P G.tab) (h:Rel n w0 Z0 st a w nm) {fs:List (Nat×TypeId)} {place:Nat→Option (Nat×Nat)}
 (hpl : ∀ i off ft fi,fs[i]? = some (off,ft)→look G.tab ft=some fi→place i=some (off,fi.ty.cells)) {s:Ty} :
 ∀ (ps:List (Nat×Operand)) {y y2:s.den} {u:Upd},fillS (look st.objs) G.tab fs (evSt st) s ps y=some (y2,u) →
  FzUpd st u ∧ ∀ st1,Frozen n w0 Z0 st st1 a w nm u → ∀ cells:List Value,rdC w (Zc w0 Z0 nm st1.objs w) s cells y →
   ∃ cells':List Value,Instr.fill place cells.toArray (ps.map fun x=>(x.1,a.eval x.2))=some cells'.toArray∧rdC w (Zc w0 Z0 nm st1.objs w) s cells' y2
 | [],y,y2,u,he=>by
   simp only [fillS,Option.some.injEq,Prod.mk.injEq] at he
   obtain ⟨rfl,rfl⟩:=he
   exact ⟨fun p hp=>(by cases hp),fun st1 _ cells hr=>⟨cells,rfl,hr⟩⟩
 | (i,x)::ps,y,y2,u,he=>by
   simp only [fillS] at he
   split at he
   ·rename_i off ft d q1 q2
    split at he
    ·rename_i fi q3
     split at he
     ·rename_i z uz hz
      split at he
      ·rename_i y' hy'
       split at he
       ·rename_i y3 u' hys
        cases he
        obtain ⟨f1,g1⟩:=Yj (n:=n) (w0:=w0) (w:=w) (Z0:=Z0) (a:=a) (nm:=nm) hz
        obtain ⟨f2,g2⟩:=fillS_rd hT h hpl ps hys
        refine ⟨f1.append f2,fun st1 hf cells hr => ?_⟩
        have hk1:Kept w w (Zc w0 Z0 nm st.objs w) (Zc w0 Z0 nm st1.objs w):=fun b hb=>⟨hf.fz.zc hb,rfl⟩
        have hv:=kA (g1 st1 hf.left (a.eval x) (JU hk1 (DvOk.refl _ _ _) (ev_rd h q2)))
        have hvl:=Ji _ hv
        obtain ⟨c1,c2,c3,rfl,l1,l2,hr'⟩:=Ub hv hy' hr
        obtain ⟨cells',s1,s2⟩:=g2 st1 hf.right _ hr'
        refine ⟨cells',?_,s2⟩
        have hsz:(a.eval x).cells.size=fi.ty.cells:=by simpa using hvl
        rw [List.map_cons,Ui (hpl i off ft fi q1 q3) hsz (by rw [hsz];simp only [List.size_toArray,List.length_append];omega)]
        rw [hsz]
        have:=YY c1 c2 c3 (a.eval x).cells.toList off fi.ty.cells l1 l2
        rw [List.toList_toArray,this]
        exact s1
       ·cases he
      ·cases he
     ·cases he
    ·cases he
   ·cases he
theorem fillE_rd (h:Rel n w0 Z0 st a w nm) {s:Ty} {m:Nat} :
 ∀ (ps:List (Nat×Operand)) {y y2:List s.den} {u:Upd},fillE (look st.objs) (evSt st) s m ps y=some (y2,u)→y.length=m →
  FzUpd st u∧y2.length=m ∧ ∀ st1,Frozen n w0 Z0 st st1 a w nm u → ∀ cells:List Value,rdAll (rdC w (Zc w0 Z0 nm st1.objs w) s) cells y →
   ∃ cells':List Value,Instr.fill (fun i=>some (i*s.cells,s.cells)) cells.toArray (ps.map fun x=>(x.1,a.eval x.2))=some cells'.toArray∧rdAll (rdC w (Zc w0 Z0 nm st1.objs w) s) cells' y2
 | [],y,y2,u,he,hl=>by
   simp only [fillE,Option.some.injEq,Prod.mk.injEq] at he
   obtain ⟨rfl,rfl⟩:=he
   exact ⟨fun p hp=>(by cases hp),hl,fun st1 _ cells hr=>⟨cells,rfl,hr⟩⟩
 | (i,x)::ps,y,y2,u,he,hl=>by
   simp only [fillE] at he
   split at he
   ·rename_i d hd
    split at he
    ·rename_i z uz hz
     cases hb:Nat.blt i m with
     | false=>rw [hb] at he;cases he
     | true=>
       rw [hb] at he
       simp only [cond_true] at he
       have hi:i < m:=Nat.le_of_ble_eq_true hb
       split at he
       ·rename_i y3 u' hys
        cases he
        obtain ⟨f1,g1⟩:=Yj (n:=n) (w0:=w0) (w:=w) (Z0:=Z0) (a:=a) (nm:=nm) hz
        obtain ⟨f2,l2,g2⟩:=fillE_rd h ps hys (by rw [List.length_set];exact hl)
        refine ⟨f1.append f2,l2,fun st1 hf cells hr => ?_⟩
        have hk1:Kept w w (Zc w0 Z0 nm st.objs w) (Zc w0 Z0 nm st1.objs w):=fun b hb=>⟨hf.fz.zc hb,rfl⟩
        have hv:=kA (g1 st1 hf.left (a.eval x) (JU hk1 (DvOk.refl _ _ _) (ev_rd h hd)))
        have hvl:=Ji _ hv
        have hat:y[i]? = some y[i]:=List.getElem?_eq_getElem (by omega)
        obtain ⟨c1,c2,c3,rfl,q1,q2,q3,q4⟩:=kI (fun _ _=>Ji s) hr hat
        have hset:y.set i z=y.take i++(z::y.drop (i+1)):=List.set_eq_take_append_cons_drop.trans (if_pos (by omega))
        have hr':rdAll (rdC w (Zc w0 Z0 nm st1.objs w) s) (c1++(a.eval x).cells.toList++c3) (y.set i z):=by
         rw [hset]
         exact JN.2 ⟨c1,_,by rw [List.append_assoc],q3,_,_,rfl,hv,q4⟩
        obtain ⟨cells',s1,s2⟩:=g2 st1 hf.right _ hr'
        refine ⟨cells',?_,s2⟩
        have hsz:(a.eval x).cells.size=s.cells:=by simpa using hvl
        have l2:=Ji _ q2
        rw [List.map_cons,Ui (off:=i*s.cells) (size:=s.cells) rfl hsz (by rw [hsz];simp only [List.size_toArray,List.length_append];omega)]
        rw [hsz]
        have:=YY c1 c2 c3 (a.eval x).cells.toList (i*s.cells) s.cells q1 l2
        rw [List.toList_toArray,this]
        exact s1
       ·cases he
    ·cases he
   ·cases he
theorem Good.datum (h:Rel n w0 Z0 st a w nm) {t:Ty} {y:t.den} {u:Upd} (hfu:FzUpd st u)
 (hrun : ∀ st1,Frozen n w0 Z0 st st1 a w nm u → ∃ v,(execOp a.eval o).run P w = .ok (.value v) w∧rdV w (Zc w0 Z0 nm st1.objs w) t v y) :
 Good P n w0 Z0 st a w o ⟨.one (.val t y),u⟩:=by
 intro st1 hl
 obtain ⟨hrel,hfz,hcold⟩:=Rel.freezes u h hfu hl
 obtain ⟨v,q1,q2⟩:=hrun st1 ⟨hfz,hrel,hcold⟩
 exact Does.of_run q1 ⟨nm,hrel,q2⟩
theorem eff_build {t:TypeId} {ps:Array (Nat×Operand)} (ho:o.op = .build t ps):EffOk P G o:=by
 intro hT n w0 w Z0 st a nm dst ρ k r h he
 unfold effK at he
 rw [ho] at he
 simp only at he
 have hps:(ps.map fun x=>(x.1,a.eval x.2)).toList=ps.toList.map fun x=>(x.1,a.eval x.2):=by simp
 split at he
 ·rename_i s fs htab
  obtain ⟨i,z,q1,q2,q3,q4,q5⟩:=(hT _ _ htab).info
  obtain ⟨s',fields,_,hu,hm,hfi⟩:=(hT _ _ htab).kind
  obtain ⟨zc,rfl⟩:=q5 rfl
  have hplaces:=run_mapM_places (P:=P) (w:=w) (fields:=fields.toList) hfi
  have hpl : ∀ (i:Nat) (off:Nat) (ft:TypeId) (fi:TI),fs[i]? = some (off,ft)→look G.tab ft=some fi→(fields.toList.map fun f=>(f.offset,((P.info? f.type).map (·.size)).getD 0)).toArray[i]? = some (off,fi.ty.cells):=by
   intro i off ft fi h1 h2
   rw [← hm,List.getElem?_map,Option.map_eq_some_iff] at h1
   obtain ⟨fld,g1,g2⟩:=h1
   cases g2
   obtain ⟨fi',z',p1,p2,_⟩:=(hT _ _ h2).info
   simp [g1,p1,p2]
  have hpm:(fields.mapM fun f=>(do pure (f.offset,← sizeOf f.type):Sem (Nat×Nat))).run P w = .ok (fields.toList.map fun f=>(f.offset,((P.info? f.type).map (·.size)).getD 0)).toArray w:=by
   rw [Array.mapM_eq_mapM_toList,Sem.run_map,hplaces]
   rfl
  have hz:(Value.agg zc).cells=zc:=rfl
  have hc:(Value.agg zc).cells.toList.toArray=zc:=Array.toArray_toList
  have hrun : ∀ cells':List Value,Instr.fill (fun i=>(fields.toList.map fun f=>(f.offset,((P.info? f.type).map (·.size)).getD 0)).toArray[i]?) (Value.agg zc).cells.toList.toArray (ps.toList.map fun x=>(x.1,a.eval x.2))=some cells'.toArray →
   (execOp a.eval o).run P w = .ok (.value (.agg cells'.toArray)) w:=by
   intro cells' s1
   have hfill:Instr.fill (fun i=>(fields.toList.map fun f=>(f.offset,((P.info? f.type).map (·.size)).getD 0)).toArray[i]?) zc (ps.map fun x=>(x.1,a.eval x.2)).toList=some cells'.toArray:=by
    rw [hc] at s1
    rw [hps]
    exact s1
   simp only [execOp,ho,Instr.build,Sem.run_bind,zeroValue,typeInfo,Sem.run_pure,run_program,Result.andThen_ok,q1,q3,run_underlying hu,hpm,hz,hfill]
  cases hfl:s.flat with
  | true=>
    rw [hfl] at he
    simp only [cond_true] at he
    split at he
    ·rename_i cs hcs
     obtain ⟨cells',s1,s2,s3⟩:=fillA_rd hT h hpl ps.toList hcs (Vo s hfl q4) (YS s q4)
     exact ⟨_,he,Good.pure h (v:=.agg cells'.toArray) (hrun _ s1) ⟨_,rfl,by simpa using s2,by simpa using s3⟩⟩
    ·cases he
  | false=>
    rw [hfl] at he
    simp only [cond_false] at he
    split at he
    ·rename_i y u hy
     obtain ⟨f1,g1⟩:=fillS_rd hT h hpl ps.toList hy
     refine ⟨_,he,Good.datum h f1 fun st1 hf => ?_⟩
     obtain ⟨cells',s1,s2⟩:=g1 st1 hf _ (kZ s q4)
     exact ⟨_,hrun _ s1,_,rfl,by simpa using s2⟩
    ·cases he
 ·rename_i m s m' e htab
  obtain ⟨i,z,q1,q2,q3,q4,q5⟩:=(hT _ _ htab).info
  obtain ⟨s',i',z',h1,hu,p1,p2,p3,p4⟩:=(hT _ _ htab).kind
  cases h1
  obtain ⟨zc,rfl⟩:=q5 rfl
  split at he
  ·rename_i y u hy
   obtain ⟨f1,l1,g1⟩:=fillE_rd (n:=n) (w0:=w0) (w:=w) (Z0:=Z0) (a:=a) (nm:=nm) h ps.toList hy List.length_replicate
   refine ⟨_,he,Good.datum h f1 fun st1 hf => ?_⟩
   obtain ⟨cells',s1,s2⟩:=g1 st1 hf _ (kZ (.ar m s) q4).2
   refine ⟨.agg cells'.toArray,?_,_,rfl,l1,by simpa using s2⟩
   have hz:(Value.agg zc).cells=zc:=rfl
   have hc:(Value.agg zc).cells.toList.toArray=zc:=Array.toArray_toList
   have hsz:(sizeOf e).run P w = .ok s.cells w:=by simp [sizeOf,typeInfo,p1,p2]
   have hfill:Instr.fill (fun i=>some (i*s.cells,s.cells)) zc (ps.map fun x=>(x.1,a.eval x.2)).toList=some cells'.toArray:=by
    rw [hc] at s1
    rw [hps]
    exact s1
   simp only [execOp,ho,Instr.build,Sem.run_bind,zeroValue,typeInfo,Sem.run_pure,run_program,Result.andThen_ok,q1,q3,run_underlying hu,hsz,hz,hfill]
  ·cases he
 ·cases he
theorem eff_makeInterface {t:TypeId} {x:Operand} (ho:o.op = .makeInterface t x):EffOk P G o:=by
 intro hT n w0 w Z0 st a nm dst ρ k r h he
 unfold effK at he
 rw [ho] at he
 simp only at he
 split at he
 ·rename_i s fs d htab hx
  obtain ⟨s',fields,_,hu,_⟩:=(hT _ _ htab).kind
  split at he
  ·rename_i y u hy
   obtain ⟨f,g⟩:=Yj (n:=n) (w0:=w0) (w:=w) (Z0:=Z0) (a:=a) (nm:=nm) hy
   refine ⟨_,he,Good.datum h f fun st1 hf => ?_⟩
   obtain ⟨cs,e,hc⟩:=g st1 hf _ (JU (fun b hb=>⟨hf.fz.zc hb,fun _ _ hu=>hu⟩) (DvOk.refl _ _ _) (ev_rd h hx))
   refine ⟨.iface t (a.eval x),?_,a.eval x,cs,rfl,.inl ⟨rfl,e⟩,hc⟩
   simp only [execOp,ho,Instr.makeInterface,Sem.run_bind,run_underlying hu,Result.andThen_ok,Sem.run_pure]
  ·cases he
 ·cases he
theorem elemsA_rd (h:Rel n w0 Z0 st a w nm) {s:Ty} : ∀ (ps:List (Nat×Operand)) {i:Nat} {ys:List s.den} {u:Upd},Ug (look st.objs) (evSt st) s i ps=some (ys,u) →
 FzUpd st u∧ys.length=ps.length ∧ ∀ st1,Frozen n w0 Z0 st st1 a w nm u → ∃ cells:List Value,rdAll (rdC w (Zc w0 Z0 nm st1.objs w) s) cells ys ∧
  ∀ (done tail:List Value),done.length=i*s.cells→tail.length=ps.length*s.cells →
   Instr.fill (fun i=>some (i*s.cells,s.cells)) (done++tail).toArray (ps.map fun x=>(x.1,a.eval x.2))=some (done++cells).toArray
 | [],i,ys,u,he=>by
   simp only [Ug,Option.some.injEq,Prod.mk.injEq] at he
   obtain ⟨rfl,rfl⟩:=he
   refine ⟨fun p hp=>(by cases hp),rfl,fun st1 _=>⟨[],rfl,fun done tail _ ht => ?_⟩⟩
   have:tail=[]:=List.eq_nil_of_length_eq_zero (by simpa using ht)
   subst this
   rfl
 | (j,x)::ps,i,ys,u,he=>by
   simp only [Ug] at he
   cases hj:Nat.beq i j with
   | false=>rw [hj] at he;cases he
   | true=>
     rw [hj] at he
     have:=beqN.1 hj
     subst this
     simp only [cond_true] at he
     split at he
     ·rename_i d hd
      split at he
      ·rename_i y uy hy
       split at he
       ·rename_i ys' u' hys
        cases he
        obtain ⟨f1,g1⟩:=Yj (n:=n) (w0:=w0) (w:=w) (Z0:=Z0) (a:=a) (nm:=nm) hy
        obtain ⟨f2,l2,g2⟩:=elemsA_rd h ps hys
        refine ⟨f1.append f2,by simp [l2],fun st1 hf => ?_⟩
        have hk1:Kept w w (Zc w0 Z0 nm st.objs w) (Zc w0 Z0 nm st1.objs w):=fun b hb=>⟨hf.fz.zc hb,rfl⟩
        have hv:=kA (g1 st1 hf.left (a.eval x) (JU hk1 (DvOk.refl _ _ _) (ev_rd h hd)))
        have hvl:=Ji _ hv
        obtain ⟨cells,c1,c2⟩:=g2 st1 hf.right
        refine ⟨(a.eval x).cells.toList++cells,⟨_,_,rfl,hv,c1⟩,fun done tail hd ht => ?_⟩
        simp only [List.length_cons,Nat.succ_mul] at ht
        have hsz:(a.eval x).cells.size=s.cells:=by simpa using hvl
        rw [List.map_cons,Ui (off:=i*s.cells) (size:=s.cells) rfl hsz (by rw [hsz];simp;omega)]
        have t1:((done++tail).toArray.toList).take (i*s.cells)=done:=by rw [← hd];exact List.take_left
        have t2:((done++tail).toArray.toList).drop (i*s.cells+(a.eval x).cells.size)=tail.drop s.cells:=by
         rw [hsz,← hd]
         exact List.drop_length_add_append s.cells
        rw [t1,t2]
        have:=c2 (done++(a.eval x).cells.toList) (tail.drop s.cells) (by rw [List.length_append,hd,hvl,Nat.succ_mul]) (by rw [List.length_drop];omega)
        rw [this,List.append_assoc]
       ·cases he
      ·cases he
     ·cases he
theorem rdV_one {Z:Nat→Prop} {t:Ty} (ht:t.isSt=false) {v:Value} {d:t.den} (h:rdV w Z t v d):rdC w Z t [v] d:=by
 cases t <;> first | exact h | cases ht
theorem apartU_left : ∀ {u v:Upd},kj (u++v)=true→kj u=true∧kj v=true ∧ ∀ p∈u,∀ q∈v,q.1≠p.1
 | [],v,h=>⟨rfl,h,fun p hp=>by cases hp⟩
 | (id,ob)::u,v,h=>by
   simp only [List.cons_append,kj,Bool.and_eq_true,List.all_append] at h
   obtain ⟨h1,h2,h3⟩:=apartU_left h.2
   refine ⟨by simp only [kj,Bool.and_eq_true];exact ⟨h.1.1,h1⟩,h2,fun p hp q hq => ?_⟩
   rcases List.mem_cons.1 hp with rfl | hp
   ·have:=List.all_eq_true.1 h.1.2 q hq
    simpa [Jb] using this
   ·exact h3 p hp q hq
theorem deepV_rd (h:Rel n w0 Z0 st a w nm) {te:TypeId} : ∀ (t:Ty) {cs rest:List At} {x:t.den} {u:Upd},deepV (look st.objs) te t cs=some (x,u,rest)→kj u=true →
 (∀ p∈u,p.2 = .gone ∧ ∃ v e t xs,look st.objs p.1=some (.arr v false e t xs)) ∧ ∃ used,cs=used++rest ∧ ∀ vs,rdAs w (Zc w0 Z0 nm st.objs w) nm st.objs used vs →
  ∃ us,rdI w (Zc w0 Z0 nm st.objs w) te t vs x us∧kD us ∧ ∀ y∈us,∀ b,blk y=some b → ∃ p∈u,hasB (nm p.1) b:=by
 have one : ∀ {c:At} {vs:List Value},rdAs w (Zc w0 Z0 nm st.objs w) nm st.objs [c] vs → ∃ v,vs=[v]∧rdA w (Zc w0 Z0 nm st.objs w) nm st.objs c v:=fun {c vs} h=>by
  obtain ⟨h1,h2⟩:=h
  match vs,h1 with
  | [v],_=>exact ⟨v,rfl,h2 0 c v rfl rfl⟩
 have plain : ∀ (t:Ty),(∀ cs d us,(t.free=true∧rdC w (Zc w0 Z0 nm st.objs w) t cs d∧us=cs.map fun _ => .nilIface)→rdI w (Zc w0 Z0 nm st.objs w) te t cs d us) → ∀ {cs rest:List At} {x:t.den} {u:Upd},
  (match cs with | c::r=>(match t.free && !t.isSt,c with | true,.val s d=>if h:s=t then some (h ▸ d,[],r) else none | _,_=>none) | []=>none)=some (x,u,rest) →
  (∀ p∈u,p.2 = .gone ∧ ∃ v e t xs,look st.objs p.1=some (.arr v false e t xs)) ∧ ∃ used,cs=used++rest ∧ ∀ vs,rdAs w (Zc w0 Z0 nm st.objs w) nm st.objs used vs →
   ∃ us,rdI w (Zc w0 Z0 nm st.objs w) te t vs x us∧kD us ∧ ∀ y∈us,∀ b,blk y=some b → ∃ p∈u,hasB (nm p.1) b:=by
  intro t hI cs rest x u hd
  split at hd
  ·split at hd
   ·rename_i hf
    split at hd
    ·rename_i hs
     subst hs
     cases hd
     rw [Bool.and_eq_true,Bool.not_eq_true'] at hf
     refine ⟨fun p hp=>(by cases hp),[_],rfl,fun vs hv => ?_⟩
     obtain ⟨v,rfl,hv2⟩:=one hv
     exact ⟨[.nilIface],hI _ _ _ ⟨hf.1,rdV_one hf.2 hv2,rfl⟩,by simp [kD],fun y hy b hb=>by rw [List.mem_singleton.1 hy] at hb;cases hb⟩
    ·cases hd
   ·cases hd
  ·cases hd
 intro t
 induction t with
 | st t ih=>intro cs rest x u hd hap;simp only [deepV] at hd;exact ih hd hap
 | unit=>
   intro cs rest x u hd hap
   simp only [deepV] at hd
   cases hd
   refine ⟨fun p hp=>(by cases hp),[],rfl,fun vs hv => ?_⟩
   have:vs=[]:=List.eq_nil_of_length_eq_zero hv.1
   subst this
   exact ⟨[],⟨rfl,rfl,rfl⟩,by simp [kD],fun y hy=>by cases hy⟩
 | pair a1 b1 iha ihb=>
   intro cs rest x u hd hap
   simp only [deepV] at hd
   split at hd
   ·rename_i x1 u1 r1 h1
    split at hd
    ·rename_i x2 u2 r2 h2
     cases hd
     obtain ⟨k1,k2,k3⟩:=apartU_left hap
     obtain ⟨g1,used1,e1,f1⟩:=iha h1 k1
     obtain ⟨g2,used2,e2,f2⟩:=ihb h2 k2
     refine ⟨fun p hp=>(List.mem_append.1 hp).elim (g1 p) (g2 p),used1++used2,by rw [e1,e2,List.append_assoc],fun vs hv => ?_⟩
     have hv1:=VD hv used1.length
     have hv2:=Um hv used1.length
     rw [List.take_left] at hv1
     rw [List.drop_left] at hv2
     obtain ⟨us1,m1,m2,m3⟩:=f1 _ hv1
     obtain ⟨us2,m4,m5,m6⟩:=f2 _ hv2
     refine ⟨us1++us2,⟨_,_,us1,us2,(List.take_append_drop _ _).symm,rfl,m1,m4⟩,List.pairwise_append.2 ⟨m2,m5,fun y hy z hz b hb hb' => ?_⟩,fun y hy b hb => ?_⟩
     ·obtain ⟨p,p1,p2⟩:=m3 y hy b hb
      obtain ⟨q,q1,q2⟩:=m6 z hz b hb'
      obtain ⟨_,v1,e1,t1,xs1,o1⟩:=g1 p p1
      obtain ⟨_,v2,e2,t2,xs2,o2⟩:=g2 q q1
      exact k3 p p1 q q1 (h.inj q.1 p.1 _ _ b o2 o1 q2 p2)
     ·rcases List.mem_append.1 hy with hy | hy
      ·obtain ⟨p,p1,p2⟩:=m3 y hy b hb
       exact ⟨p,List.mem_append_left _ p1,p2⟩
      ·obtain ⟨p,p1,p2⟩:=m6 y hy b hb
       exact ⟨p,List.mem_append_right _ p1,p2⟩
    ·cases hd
   ·cases hd
 | sl s ih=>
   intro cs rest x u hd hap
   cases cs with
   | nil=>simp only [deepV] at hd;cases hd
   | cons c r=>
     simp only [deepV] at hd
     split at hd
     ·cases hmp:s.isMap with
      | true=>rw [hmp] at hd;cases hd
      | false=>
      rw [hmp] at hd
      cases hd
      refine ⟨fun p hp=>(by cases hp),[_],rfl,fun vs hv => ?_⟩
      obtain ⟨v,rfl,hv2⟩:=one hv
      have hv3:v = .slice none 0 0:=hv2
      subst hv3
      exact ⟨[.slice none 0 0],⟨hmp,.slice none 0 0,[],rfl,rfl,Vj w te s.cells,rfl⟩,by simp [kD],fun y hy b hb=>by rw [List.mem_singleton.1 hy] at hb;cases hb⟩
     ·rename_i id ver
      split at hd
      ·rename_i v e s' ys hob
       split at hd
       ·rename_i hs
        subst hs
        cases hc:(Nat.beq v ver && Nat.beq e te && !s'.isMap) with
        | false=>rw [hc] at hd;cases hd
        | true=>
          rw [hc] at hd
          simp only [cond_true] at hd
          cases hd
          simp only [Bool.and_eq_true,Bool.not_eq_true'] at hc
          have:=beqN.1 hc.1.1
          subst this
          have:=beqN.1 hc.1.2
          subst this
          refine ⟨fun p hp=>by rw [List.mem_singleton.1 hp];exact ⟨rfl,_,_,_,_,hob⟩,[_],rfl,fun vs hv => ?_⟩
          obtain ⟨y,rfl,hy⟩:=one hv
          have hy:=hy.2 _ _ _ _ hob
          obtain ⟨es,m1,m2⟩:=(h.objs id _ hob).sl hc.2
          rw [← hy] at m1
          exact ⟨[y],⟨hc.2,y,es,rfl,rfl,m1,m2⟩,by simp [kD],fun z hz b hb=>by
           rw [List.mem_singleton.1 hz,hy] at hb
           exact ⟨_,List.mem_singleton.2 rfl,Yw hb⟩⟩
       ·cases hd
      ·cases hd
     ·cases hd
 | _=>
   intro cs rest x u hd hap
   refine plain _ ?_ ?_
   ·exact fun _ _ _ h=>h
   ·cases cs <;> exact hd
theorem Good.newDeeps (h:Rel n w0 Z0 st a w nm) {ver:Nat} {e te:TypeId} {s1:Ty} {y:s1.den} {u:Upd} {us:List Value} {cells:Array Value} (hver:verD (look st.objs) dst=some ver)
 (hr : ∀ p∈u,p.2 = .gone ∧ ∃ v e t xs,look st.objs p.1=some (.arr v false e t xs)) (hap:kj u=true) (hne : ∀ p∈u,p.1≠dst)
 (hrd:rdI w (Zc w0 Z0 nm st.objs w) te s1 cells.toList y us) (hav:kD us) (hbl : ∀ y∈us,∀ b,blk y=some b → ∃ p∈u,hasB (nm p.1) b)
 (hrun:(execOp a.eval o).run P w = .ok (.value (.slice (some ⟨w.heap.size,0,none⟩) 1 1)) (w.alloc (.cells cells e))) (hone : ∀ u∈cells.toList,u.oneCell'=true) :
 Good P n w0 Z0 st a w o ⟨.one (.down dst ver),u++[(dst,.deep ver false e te (.st s1) [y] none)]⟩:=by
 intro st' hlay
 have hlt : ∀ y∈us,∀ b,blk y=some b→b < w.heap.size:=fun y hy b hb=>by
  obtain ⟨p,p1,p2⟩:=hbl y hy b hb
  obtain ⟨_,v,e,t,xs,p3⟩:=hr p p1
  exact (h.new p.1 _ b p3 p2).2
 have hap2:kj (u++[(dst,.deep ver false e te (.st s1) [y] none)])=true:=by
  clear hlay hbl
  induction u with
  | nil=>rfl
  | cons p u ih=>
    obtain ⟨i,ob⟩:=p
    simp only [List.cons_append,kj,Bool.and_eq_true,List.all_append] at hap ⊢
    refine ⟨⟨hap.1,?_⟩,ih (fun p hp=>hr p (by simp [hp])) hap.2 (fun p hp=>hne p (by simp [hp]))⟩
    simp [Jb.2 (Ne.symm (hne (i,ob) (by simp)))]
 generalize hT:Value.tuple (.slice (some ⟨w.heap.size,0,none⟩) 1 1::us).toArray=T
 generalize hnm:(fun j=>if j=dst then T else if u.any (fun p=>Nat.beq p.1 j) then Value.nilIface else nm j:Names)=nm'
 have n1:nm' dst=T:=by rw [← hnm];simp
 have n2 : ∀ p∈u,nm' p.1 = .nilIface:=fun p hp=>by
  rw [← hnm]
  have:u.any (fun q=>Nat.beq q.1 p.1)=true:=List.any_eq_true.2 ⟨p,hp,beqN.2 rfl⟩
  simp only [if_neg (hne p hp),this,if_true]
 have n3 : ∀ j,(∀ p∈u++[(dst,Ob.deep ver false e te (.st s1) [y] none)],p.1≠j)→nm' j=nm j:=fun j hj=>by
  have h0:j≠dst:=Ne.symm (hj _ (List.mem_append_right _ (List.mem_singleton.2 rfl)))
  have:u.any (fun q=>Nat.beq q.1 j)=false:=by
   rw [List.any_eq_false]
   exact fun p hp=>by rw [Jb.2 (hj p (List.mem_append_left _ hp))];simp
  rw [← hnm]
  simp only [if_neg h0,this,Bool.false_eq_true,if_false]
 have hh:hdr T = .slice (some ⟨w.heap.size,0,none⟩) 1 1:=by rw [← hT,JR]
 refine Does.of_run hrun ⟨nm',h.updM nm' hlay hap2 n3 ?_ ⟨rfl,rfl,rfl,by simp⟩ (fun b hb => .inr (heap_alloc_old w _ hb)) ?_ ?_ (fun hk => ?_),rfl,fun _ _ _ _ _ _ _=>by rw [n1,hh]⟩
 ·rintro p hp
  rcases List.mem_append.1 hp with hp | hp
  ·obtain ⟨h1,v,e,t,xs,h2⟩:=hr p hp
   rw [h2,h1];trivial
  ·rw [List.mem_singleton.1 hp]
   simp only
   unfold verD at hver
   split at hver
   ·rename_i h1;rw [h1];trivial
   ·rename_i h1;rw [h1];cases hver;exact fun hh=>absurd hh (by omega)
   ·cases hver
 ·rintro p hp b hb
  rcases List.mem_append.1 hp with hp | hp
  ·rw [n2 p hp] at hb;cases hb
  ·rw [List.mem_singleton.1 hp] at hb
   simp only [n1,← hT] at hb
   obtain ⟨x,hx,hb⟩:=km.1 hb
   rcases List.mem_cons.1 hx with rfl | hx
   ·simp only [blk,Option.some.injEq] at hb
    subst hb
    exact .inr ⟨Nat.le_refl _,by simp⟩
   ·obtain ⟨q,q1,q2⟩:=hbl x hx b hb
    obtain ⟨_,v,e,t,xs,q3⟩:=hr q q1
    exact .inl ⟨q,List.mem_append_left _ q1,_,q3,.inl rfl,q2⟩
 ·rintro p hp q hq b h1 h2
  rcases List.mem_append.1 hp with hp | hp
  ·rw [n2 p hp] at h1;cases h1
  ·rcases List.mem_append.1 hq with hq | hq
   ·rw [n2 q hq] at h2;cases h2
   ·rw [List.mem_singleton.1 hp,List.mem_singleton.1 hq]
 ·rintro p hp
  rcases List.mem_append.1 hp with hp | hp
  ·rw [(hr p hp).1];trivial
  ·rw [List.mem_singleton.1 hp]
   show rdDeep _ _ (nm' dst) e te (.st s1) [y]
   rw [n1,← hT]
   have hl:=(Uc hrd).1
   refine ⟨_,us,cells.toList,rfl,⟨by rw [hl];simp [Ty.cells],.inr ⟨w.heap.size,1,cells,rfl,.of (heap_alloc_new w _),Nat.le_refl _,by simp [maxLen],?_,?_⟩⟩,rdIs_single (t:=.st s1) (rdI_mono (t:=.st s1) hk.weak (fun x hx b hb=>heap_alloc_old w _ (hlt x hx b hb)) hrd),?_⟩
   ·rw [← Array.length_toList,hl];simp [Ty.cells]
   ·rw [List.take_of_length_le (by rw [hl];simp [Ty.cells])]
   ·refine List.pairwise_cons.2 ⟨fun x hx b hb hb' => ?_,hav⟩
    simp only [blk,Option.some.injEq] at hb
    have:=hlt x hx b hb'
    omega
theorem eff_buildSlice {t:TypeId} {m:Nat} {ps:Array (Nat×Operand)} (ho:o.op = .buildSlice t m ps):EffOk P G o:=by
 intro hT n w0 w Z0 st a nm dst ρ k r h he
 unfold effK at he
 rw [ho] at he
 simp only at he
 split at he
 ·rename_i s e by_ htab
  obtain ⟨hu,i,z,g1,g2,g3,g4,g5,g6⟩:=kM hT htab
  split at he
  ·rename_i te hte
   split at he
   ·rename_i x s1 hps
    split at he
    ·rename_i cs hcs
     split at he
     ·rename_i y u ver hy hver
      cases hb:(Nat.beq m 1 && kj u && u.all (fun q => !Nat.beq q.1 dst) && Nat.ble s1.cells 65536) with
      | false=>rw [hb] at he;cases he
      | true=>
        rw [hb] at he
        simp only [cond_true] at he
        simp only [Bool.and_eq_true] at hb
        obtain ⟨⟨⟨b1,b2⟩,b3⟩,b4⟩:=hb
        have:=beqN.1 b1
        subst this
        have hle:=Nat.le_of_ble_eq_true b4
        simp only [Option.bind_eq_some_iff] at hcs
        obtain ⟨d,hd,hcs⟩:=hcs
        obtain ⟨k1,k2⟩:=dvCells_rd (ev_rd h hd) hcs
        obtain ⟨r1,used,r2,r3⟩:=deepV_rd h s1 hy b2
        rw [List.append_nil] at r2
        subst r2
        obtain ⟨us,r4,r5,r6⟩:=r3 _ k1
        exact ⟨_,he,Good.newDeeps h (s1:=s1) hver r1 b2 (fun p hp=>by have:=List.all_eq_true.1 b3 p hp;simpa [Jb] using this) r4 r5 r6 (by
         have hsz:(sizeOf e).run P w = .ok s1.cells w:=by simp [sizeOf,typeInfo,g1,g2];rfl
         have hnot : ¬ (1*s1.cells > 2 ^ 24):=by omega
         have hvl:=(Uc r4).1
         have hvs:(a.eval x).cells.size=s1.cells:=by simpa using hvl
         have hfill : ∀ zc:Array Value,zc.size=s1.cells→Instr.fill (fun i=>some (i*s1.cells,s1.cells)) zc (ps.map fun x=>(x.1,a.eval x.2)).toList=some (a.eval x).cells:=by
          intro zc hz
          rw [Array.toList_map,hps,List.map_cons,Ui (off:=0*s1.cells) (size:=s1.cells) rfl hvs (by rw [hvs,hz];omega)]
          have:(zc.toList.take (0*s1.cells)++(a.eval x).cells.toList++zc.toList.drop (0*s1.cells+(a.eval x).cells.size)).toArray=(a.eval x).cells:=by
           rw [Nat.zero_mul,List.take_zero,List.nil_append,Nat.zero_add,hvs,List.drop_eq_nil_of_le (by simp [hz]),List.append_nil]
          rw [this]
          rfl
         have hzl:z.cells.size=s1.cells:=by have:=kE (.st s1) g5;simpa [Ty.cells] using this
         have h6:0 < s1.cells:=g6
         have h0 : ¬ (1*s1.cells=0):=by omega
         have hf:=hfill ((Array.range (1*s1.cells)).map fun x=>z.cells[x % z.cells.size]!) (by simp)
         have hzv:(zeroValue e).run P w = .ok z w:=by simp [zeroValue,typeInfo,g1,g4]
         simp only [execOp,ho,Instr.buildSlice,Sem.run_bind,run_underlying hu,Result.andThen_ok,hsz,if_neg hnot,Sem.run_pure,if_neg h0,hzv,hf,newRow,run_newObj_alloc]) k2⟩
     ·cases he
    ·cases he
   ·cases he
  split at he
  ·rename_i ys u hys
   cases hb:(Nat.beq ys.length m && Nat.ble (m*s.cells) 65536) with
   | false=>rw [hb] at he;cases he
   | true=>
     rw [hb] at he
     simp only [cond_true] at he
     rw [Bool.and_eq_true] at hb
     have hl:=beqN.1 hb.1
     have hle:=Nat.le_of_ble_eq_true hb.2
     split at he
     ·rename_i ver hver
      obtain ⟨fu,fl,frd⟩:=elemsA_rd (n:=n) (w0:=w0) (w:=w) (Z0:=Z0) (a:=a) (nm:=nm) h ps.toList hys
      refine ⟨_,he,fun st' hlay => ?_⟩
      obtain ⟨st1,hlu,hmay,rfl⟩:=kW hlay
      obtain ⟨hrel,hfz,hcold⟩:=Rel.freezes u h fu hlu
      obtain ⟨cells,c1,c2⟩:=frd st1 ⟨hfz,hrel,hcold⟩
      have hzl:z.cells.size=s.cells:=by have:=kE s g5;simpa using this
      have hcl:cells.length=ys.length*s.cells:=Yc (fun _ _=>Ji s) c1
      have hpl:ps.size=m:=by rw [← hl,fl];simp
      have hfill : ∀ zc:Array Value,zc.size=m*s.cells→Instr.fill (fun i=>some (i*s.cells,s.cells)) zc (ps.map fun x=>(x.1,a.eval x.2)).toList=some cells.toArray:=by
       intro zc hz
       have:=c2 [] zc.toList (by simp) (by simp [hz,hpl])
       simpa using this
      have hver1 : ∃ ver1,verOf (look st1.objs) dst=some ver1∧ver1=ver:=by
       unfold verOf at hver ⊢
       rcases hfz.objs dst with q | ⟨v,fz,e',t',xs',q1,q2⟩ | ⟨v,fz,e',te',t',xs',q1,q2⟩
       ·rw [q];exact ⟨ver,hver,rfl⟩
       ·rw [q1] at hver;rw [q2];exact ⟨ver,hver,rfl⟩
       ·rw [q1] at hver;cases hver
      obtain ⟨ver1,hv1,rfl⟩:=hver1
      have hrun:(execOp a.eval o).run P w = .ok (.value (.slice (some ⟨w.heap.size,0,none⟩) m m)) (w.alloc (.cells cells.toArray e)):=by
       have hsz:(sizeOf e).run P w = .ok s.cells w:=by simp [sizeOf,typeInfo,g1,g2]
       have hnot : ¬ (m*s.cells > 2 ^ 24):=by omega
       by_cases h0:m*s.cells=0
       ·have hf:=hfill ((Array.range (m*s.cells)).map fun x=>(#[]:Array Value)[x % (#[]:Array Value).size]!) (by simp)
        simp only [execOp,ho,Instr.buildSlice,Sem.run_bind,run_underlying hu,Result.andThen_ok,hsz,if_neg hnot,Sem.run_pure,if_pos h0,hf,newRow,run_newObj_alloc]
       ·have hf:=hfill ((Array.range (m*s.cells)).map fun x=>z.cells[x % z.cells.size]!) (by simp)
        have hzv:(zeroValue e).run P w = .ok z w:=by simp [zeroValue,typeInfo,g1,g4]
        simp only [execOp,ho,Instr.buildSlice,Sem.run_bind,run_underlying hu,Result.andThen_ok,hsz,if_neg hnot,Sem.run_pure,if_neg h0,hzv,hf,newRow,run_newObj_alloc]
      have hmm:m≤maxLen:=by
       have:m≤m*s.cells:=Nat.le_mul_of_pos_right m g6
       simp only [maxLen]
       omega
      obtain ⟨r1,r2⟩:=hrel.newArr (nv:=.slice (some ⟨w.heap.size,0,none⟩) m m) (cells:=cells) (isZero_noMap g5) hv1 hmay (Same.alloc w (.cells cells.toArray e)) (fun b hb=>by
       have hb:blk _=some _:=hb
       simp only [blk,Option.some.injEq] at hb
       subst hb
       exact ⟨Nat.le_refl _,by simp⟩)
       ⟨hcl,.inr ⟨w.heap.size,m,cells.toArray,by rw [hl],.of (heap_alloc_new w _),by omega,hmm,by simp [hcl,hl],by simp [← hcl]⟩⟩
       (JK (fun _ _=>JD (fun b hb=>⟨hb,UD ((Same.alloc w _).block b hb.1)⟩) s) c1)
      exact Does.of_run hrun ⟨_,r1,r2⟩
     ·cases he
  ·cases he
 ·cases he
end
end Go.Ql
end

section
set_option linter.unusedSectionVars false
namespace Go.Ql
section
variable [GInv] {P:Program} {G:Env} {n:Nat} {w0 w w':World} {Z0:Bs} {Z Z':Nat→Prop} {st st1:St} {a:Act} {nm:Names} {o:Oper} {dst:Nat} {ρ:Type} {r:ρ}
theorem effK_ok (hF:AllOk P G) (o:Oper):EffOk P G o:=by
 cases h:o.op with
 | move x=>exact eff_move h
 | assign x=>exact eff_assign h
 | pick c x y=>exact eff_pick h
 | alloc t=>exact eff_alloc h
 | box t x=>exact eff_box h
 | build t ps=>exact eff_build h
 | buildSlice t m ps=>exact eff_buildSlice h
 | load t x=>exact eff_load h
 | store t x y=>exact eff_store h
 | binOp op xt x y yt=>exact eff_binOp hF.eqs h
 | unOp op xt x=>exact eff_unOp h
 | convert xt yt x=>exact eff_convert h
 | makeSlice t l c=>exact eff_makeSlice h
 | makeMap t c=>exact eff_makeMap h
 | lookup t x ix ok=>exact eff_lookup h
 | mapUpdate t m kx vx=>exact eff_mapUpdate h
 | slice t x lo hi mx=>exact eff_slice h
 | fieldAddr t x f=>exact eff_fieldAddr h
 | field t x f=>exact eff_field h
 | indexAddr t x ix=>exact eff_indexAddr h
 | index t x ix=>exact eff_index h
 | extract x i=>exact eff_extract h
 | makeInterface t x=>exact eff_makeInterface h
 | call c=>
   cases hc:c.callee with
   | builtin b=>
     by_cases h1:b = .append
     ·subst h1;exact eff_append h hc
     ·by_cases h2:b = .len
      ·subst h2;exact eff_len h hc
      by_cases h3:b = .min
      ·subst h3;exact eff_min h hc
      by_cases h4:b = .max
      ·subst h4;exact eff_max h hc
      ·intro hT n w0 w Z0 st a nm dst ρ k r hr he
       unfold effK at he
       rw [h] at he
       simp only [hc] at he
       cases b <;> first | exact absurd rfl h1 | exact absurd rfl h2 | exact absurd rfl h3 | exact absurd rfl h4 | cases he
   | invoke x m=>
     intro hT n w0 w Z0 st a nm dst ρ k r hr he
     unfold effK at he
     rw [h] at he
     simp only [hc] at he
     cases he
   | value x=>exact eff_call hF h hc
 | makeFunc fn first caps=>exact eff_makeFunc h
 | nilCheck x=>exact eff_nilCheck h
 | _=>
   intro hT n w0 w Z0 st a nm dst ρ k r hr he
   unfold effK at he
   rw [h] at he
   simp only at he
   cases he
theorem cond_no {α:Type} {b:Bool} {x:Option α} {y:α} (h:(bif b then none else x)=some y):x=some y:=by
 cases b with
 | false=>exact h
 | true=>cases h
theorem both_some {α:Type} {x y:Option α} {z:α} (h:both x y=some z):x=some z∧y=some z:=by
 unfold both at h
 split at h
 ·rename_i he
  exact ⟨h,he ▸ h⟩
 ·cases h
theorem nilCmp_ok (hT:TabOk P G.tab) (h:Rel n w0 Z0 st a w nm) {q emp:Bool} (hn:YH G.tab o (evSt st) (look st.objs)=some (q,emp)) :
 (Good P n w0 Z0 st a w o ⟨vB q,[]⟩∨Good P n w0 Z0 st a w o ⟨vB !q,[]⟩)∧(emp=false→Good P n w0 Z0 st a w o ⟨vB !q,[]⟩):=by
 unfold YH at hn
 split at hn
 ·rename_i op xt x y yt ho
  split at hn
  ·rename_i s e b d htab hd hy
   obtain ⟨hu,_⟩:=kM hT htab
   have hv:a.eval y = .slice none 0 0:=ev_rd h hy
   have run : ∀ (b l c) (q:Bool),(op = .eql∧q=true)∨(op = .neq∧q=false)→a.eval x = .slice b l c→(execOp a.eval o).run P w = .ok (.value (.bool (b.isNone == q))) w:=by
    intro b l c q hq hx
    rcases hq with ⟨rfl,rfl⟩ | ⟨rfl,rfl⟩ <;> cases b <;> simp [execOp,ho,hv,hx,eqGuard,binOp,run_equal_slice_nil w xt e _ l c hu]
   have fin : ∀ q,((op = .eql∧q=true)∨(op = .neq∧q=false))→(∃ t xs,(some (q,(List.isEmpty xs))=some (q,emp))∧rdS w (Zc w0 Z0 nm st.objs w) t (a.eval x) xs) →
    (Good P n w0 Z0 st a w o ⟨vB q,[]⟩∨Good P n w0 Z0 st a w o ⟨vB !q,[]⟩)∧(emp=false→Good P n w0 Z0 st a w o ⟨vB !q,[]⟩):=by
    rintro q hq ⟨t,xs,he,hr⟩
    simp only [Option.some.injEq,Prod.mk.injEq,true_and] at he
    rcases hr with ⟨e1,e2⟩ | ⟨b,off,cap,cells,e1,_⟩ | ⟨ad,cap,e1,_⟩
    ·have hg:Good P n w0 Z0 st a w o ⟨vB q,[]⟩:=Good.pure h (run _ _ _ q hq e1) (by simpa using rd_vB (nm:=nm) _ st.objs (true == q))
     refine ⟨.inl hg,fun hf => ?_⟩
     rw [e2] at he
     rw [← he] at hf
     cases hf
    ·have hg:Good P n w0 Z0 st a w o ⟨vB !q,[]⟩:=Good.pure h (run _ _ _ q hq e1) (by simpa using rd_vB (nm:=nm) _ st.objs (false == q))
     exact ⟨.inr hg,fun _=>hg⟩
    ·have hg:Good P n w0 Z0 st a w o ⟨vB !q,[]⟩:=Good.pure h (run _ _ _ q hq e1) (by simpa using rd_vB (nm:=nm) _ st.objs (false == q))
     exact ⟨.inr hg,fun _=>hg⟩
   split at hn
   ·obtain ⟨t,xs,h1,h2⟩:=YE h hd hn
    have hq:q=true:=by simp only [Option.some.injEq,Prod.mk.injEq] at h1;exact h1.1.symm
    subst hq
    exact fin true (.inl ⟨rfl,rfl⟩) ⟨t,xs,h1,h2⟩
   ·obtain ⟨t,xs,h1,h2⟩:=YE h hd hn
    have hq:q=false:=by simp only [Option.some.injEq,Prod.mk.injEq] at h1;exact h1.1.symm
    subst hq
    exact fin false (.inr ⟨rfl,rfl⟩) ⟨t,xs,h1,h2⟩
   ·cases hn
  ·cases hn
 ·cases hn
theorem oper_in {o:Oper} {K:Act→World→Prop} {Q:Exit→Act→World→Prop} (h:o.wp P a w K Q) (hd : ∀ c,o.op ≠ .defer c) (rd:Option Nat) (m:Nat):o.wpIn (Fr rd) m P a w K Q:=by
 unfold Oper.wpIn
 refine ⟨fun _ _=>trivial,?_⟩
 rw [Oper.semAt_eq _ _ _ hd]
 unfold Oper.wp at h
 generalize (execOp a.eval o).run P w=r at h
 cases r with
 | ok x w'=>
   cases x <;> simp only [Oper.upon,Oper.uponIn] at h ⊢ <;>
    first
     | exact h
     | exact h.elim
     | exact ⟨(fun hh=>by cases hh),(callsIn_wide (n:=m - 1)).2 h⟩
     | exact ⟨(fun hh=>by cases hh),fun c cs _=>let ⟨v,w',r,s⟩:=h c cs;⟨v,w',r,stepsIn_wide.2 s⟩⟩
 | halt x w'=>cases x <;> simp only [Oper.upon,Oper.uponIn] at h ⊢ <;> first | exact h | exact h.elim
def KeepT (l:List Nat) (a a':Act):Prop:=∀ t,memN t l=false→a'.tmps[t]? = a.tmps[t]?
theorem KeepT.refl (l:List Nat) (a:Act):KeepT l a a:=fun _ _=>rfl
theorem memN_append {t:Nat} : ∀ {l m:List Nat},memN t (l++m)=(memN t l || memN t m)
 | [],m=>by simp [memN]
 | s::l,m=>by simp [memN,memN_append,Bool.or_assoc]
theorem KeepT.trans {l:List Nat} {a b c:Act} (h:KeepT l a b) (k:KeepT l b c):KeepT l a c:=fun t ht=>(k t ht).trans (h t ht)
theorem KeepT.left {l m:List Nat} {a b:Act} (h:KeepT l a b):KeepT (l++m) a b:=fun t ht=>h t (by rw [memN_append] at ht;simp only [Bool.or_eq_false_iff] at ht;exact ht.1)
theorem KeepT.right {l m:List Nat} {a b:Act} (h:KeepT m a b):KeepT (l++m) a b:=fun t ht=>h t (by rw [memN_append] at ht;simp only [Bool.or_eq_false_iff] at ht;exact ht.2)
theorem keepT_put (a:Act) (d:Option Nat) (v:Value):KeepT d.toList a (a.put d v):=by
 intro t ht
 cases d with
 | none=>rfl
 | some s=>
   simp only [Option.toList,memN,Bool.or_false] at ht
   show (a.tmps.setIfInBounds s v)[t]? = _
   rw [Array.getElem?_setIfInBounds_ne (Jb.1 ht)]
def stepWp (P:Program) (ops:Array Oper) (o:Oper) (a:Act) (w:World) (rd:Option Nat) (m:Nat) (K:Act→World→Prop) (Q:Exit→Act→World→Prop):Prop:=
 if Region.wanted o (yielded ops a.tmps) then o.wpIn (Fr rd) m P a w K Q else (∀ f,o.about P w a.eval=some f→(Fr rd).fn f)∧K (a.put o.dst undef) w
theorem altOf_ok (h:Rel G.n w0 Z0 st a w nm) {ma:MAlt} {ds:List Dv} (he:altOf G o (evSt st) (look st.objs)=some (ma,ds)) :
 (∃ i,look G.alts i=some ma)∧calmP ma.pre.objs=true ∧ ∃ vs:List Value,vs.length=ds.length∧(∀ (i:Nat) d v,ds[i]? = some d→vs[i]? = some v→rdD w (Zc w0 Z0 nm st.objs w) nm st.objs d v) ∧
  ∀ fn, P.funcs[ma.fn]? = some fn → (fn.name == "runtime.NumGoroutine") = false → fn.body.isNone = false → (execOp a.eval o).run P w = .ok (.enter ma.fn vs.toArray) w := by
 unfold altOf at he
 split at he
 ·rename_i c ho
  split at he
  ·rename_i x hc
   split at he
   ·rename_i f fs cs as h1 h2
    split at he
    ·rename_i ma' _ _ hma
     cases hb:(Nat.beq ma'.fn f && calmP ma'.pre.objs) with
     | false=>rw [hb] at he;cases he
     | true=>
       rw [hb] at he
       simp only [cond_true,Option.some.injEq,Prod.mk.injEq] at he
       obtain ⟨rfl,rfl⟩:=he
       rw [Bool.and_eq_true] at hb
       obtain ⟨hb,hcalm⟩:=hb
       have:=beqN.1 hb
       subst this
       obtain ⟨vs,l1,l2,hrun⟩:=callee_run (P:=P) h ho hc h1 h2
       refine ⟨?_,hcalm,vs,l1,l2,hrun⟩
       unfold maltOf at hma
       split at hma
       ·rename_i m hl
        cases hb2:Nat.beq m.fn ma'.fn with
        | true=>rw [hb2] at hma;cases hma;exact ⟨_,hl⟩
        | false=>rw [hb2] at hma;exact ⟨_,hma⟩
       ·exact ⟨_,hma⟩
    ·cases he
   ·cases he
  ·cases he
 ·cases he
theorem stepK_sound (hT:TabOk P G.tab) (hF:AllOk P G) {ops:Array Oper} {gs:List Nat} {k kp:St→Option ρ} {K:Act→World→Prop} {Q:Exit→Act→World→Prop}
 (h:Rel G.n w0 Z0 st a w nm) (he:stepK G ops.toList gs o st k kp=some r)
 (hk : ∀ st' a' w' nm',Rel G.n w0 Z0 st' a' w' nm'→k st'=some r→KeepT o.dst.toList a a'→K a' w')
 (hp : ∀ st' a' w' nm' v,Rel G.n w0 Z0 st' a' w' nm'→nm' payId = .func (.func 0) #[] #[v]→kp st'=some r→Q (.panic [{ v,recovered:=false }]) a' w') (rd:Option Nat) (m:Nat):stepWp P ops o a w rd m K Q:=by
 have part : ∀ (d0:Dv) (u:Upd),(partK gs o.dst d0 fun d=>layK G.n st o.dst d u k)=some r →
  ∃ st',Jh st u=some st' ∧ ∀ v w' nm',Rel G.n w0 Z0 st' a w' nm'→rdD w' (Zc w0 Z0 nm' st'.objs w') nm' st'.objs d0 v→K (a.put o.dst v) w':=by
  intro d0 u h1
  have fin : ∀ d:Dv,(∀ (w:World) (Z:Nat→Prop) (nm:Names) (objs:List (Nat×Ob)) v,rdD w Z nm objs d0 v→rdD w Z nm objs d v)→layK G.n st o.dst d u k=some r →
   ∃ st',Jh st u=some st' ∧ ∀ v w' nm',Rel G.n w0 Z0 st' a w' nm'→rdD w' (Zc w0 Z0 nm' st'.objs w') nm' st'.objs d0 v→K (a.put o.dst v) w':=by
   intro d hd hl
   unfold layK lay at hl
   split at hl
   ·rename_i st2 hl2
    split at hl2
    ·rename_i st3 hl3
     refine ⟨st3,hl3,fun v w' nm' hr' hv => ?_⟩
     have hv:=hd _ _ _ _ _ hv
     cases hdst:o.dst with
     | none=>
       rw [hdst] at hl2
       cases hl2
       exact hk _ _ _ nm' hr' hl (by rw [hdst];exact keepT_put _ _ _)
     | some t=>
       rw [hdst] at hl2
       simp only at hl2
       cases hb:Nat.blt t G.n with
       | false=>rw [hb] at hl2;cases hl2
       | true=>
         rw [hb] at hl2
         cases hl2
         have ht:t < G.n:=by simpa [Nat.blt_eq] using hb
         exact hk _ _ _ nm' (hr'.put ht hv) hl (by rw [hdst];exact keepT_put _ _ _)
    ·cases hl2
   ·cases hl
  unfold partK at h1
  split at h1
  ·rename_i t hdst
   cases hm:memN t gs with
   | false=>rw [hm] at h1;exact fin _ (fun _ _ _ _ _ h=>h) (hdst ▸ h1)
   | true=>
     rw [hm] at h1
     simp only [cond_true] at h1
     split at h1
     ·rename_i b
      cases b with
      | true=>
        simp only [br] at h1
        exact fin (vB true) (fun _ _ _ _ _ h=>h) (hdst ▸ h1)
      | false=>
        simp only [br] at h1
        exact fin (vB false) (fun _ _ _ _ _ h=>h) (hdst ▸ h1)
     ·cases h1
  ·rename_i hdst
   exact fin _ (fun _ _ _ _ _ h=>h) (hdst ▸ h1)
 have go : ∀ e,Good P G.n w0 Z0 st a w o e→(partK gs o.dst e.dv fun d=>layK G.n st o.dst d e.upd k)=some r→o.wp P a w K Q:=by
  intro e h2 h1
  obtain ⟨st3,hl3,hf⟩:=part e.dv e.upd h1
  refine h2 st3 hl3 K Q ?_
  rintro v w' ⟨nm',hr',hv⟩
  exact hf v w' nm' hr' hv
 have run:(match YH G.tab o (evSt st) (look st.objs) with
  | some (q,emp)=>
    br emp (bif memN (46000000+o.dst.getD 0) G.muts then none else both (partK gs o.dst (vB q) fun d=>layK G.n st o.dst d [] k) (partK gs o.dst (vB !q) fun d=>layK G.n st o.dst d [] k))
     (partK gs o.dst (vB !q) fun d=>layK G.n st o.dst d [] k)
  | none=>match o.op with
    | .panic x=>match evSt st x with
      | some (.one (.val (.ifc T s) y))=>(match thrown st (.val (.ifc T s) y) with
        | some s=>kp s
        | none=>none)
      | _=>none
    | _=>match altOf G o (evSt st) (look st.objs) with
      | some (ma,ds)=>altK G gs o st ma ds k kp
      | none=>effK G o (o.dst.getD 0) (evSt st) (look st.objs) fun e=>partK gs o.dst e.dv fun d=>layK G.n st o.dst d e.upd k)=some r→o.wp P a w K Q:=by
  intro hr
  split at hr
  ·rename_i q emp hn
   obtain ⟨q1,q2⟩:=nilCmp_ok hT h hn
   cases emp with
   | true=>
     simp only [br] at hr
     obtain ⟨g1,g2⟩:=both_some (cond_no hr)
     rcases q1 with q1 | q1
     ·exact go ⟨vB q,[]⟩ q1 g1
     ·exact go ⟨vB !q,[]⟩ q1 g2
   | false=>exact go ⟨vB !q,[]⟩ (q2 rfl) hr
  ·split at hr
   ·rename_i x ho
    split at hr
    ·rename_i T s y hx
     split at hr
     ·rename_i s2 ht
      have hv:=ev_rd h hx
      obtain ⟨u,us,e,_⟩:=hv
      simp only [List.cons.injEq,and_true] at e
      have hq:=hp _ _ _ _ (a.eval x) (Rel.thrown h (x:=.val (.ifc T s) y) (ev_rd h hx) ht) (jW _ _ _) hr
      unfold Oper.wp
      have hrun:(execOp a.eval o).run P w = .halt (.panic (a.eval x)) w:=by
       simp only [execOp,ho,Instr.panic,e,goPanic]
       rfl
      rw [hrun]
      exact hq
     ·cases hr
    ·cases hr
   ·split at hr
    ·rename_i ma ds halt
     obtain ⟨hma,hcalm,vs,l1,l2,hrun⟩:=altOf_ok (P:=P) h halt
     obtain ⟨ia,hma⟩:=hma
     have hok:=hF.alts _ _ hma
     unfold altK at hr
     split at hr
     ·rename_i x1 u σ hbi
      obtain ⟨y,hy,hr⟩:=ju hr
      cases y with
      | inl y=>
        simp only [sel] at hr
        split at hr
        ·rename_i d v hk2
         obtain ⟨st3,hl3,hf⟩:=part d (u++v) hr
         exact alt_good h hok hcalm l1 l2 hrun hbi hy hk2 hl3 hf
        ·cases hr
      | inr y=>
        simp only [sel] at hr
        split at hr
        ·rename_i d v hk2
         cases hpn:ma.pan with
         | false=>
           rw [hpn] at hr
           obtain ⟨st3,hl3,hf⟩:=part d (u++v) hr
           refine alt_good h hok hcalm l1 l2 hrun hbi hy hk2 hl3 fun v' w' nm' q1 q2 => ?_
           rw [hpn]
           exact hf v' w' nm' q1 q2
         | true=>
           rw [hpn] at hr
           simp only [cond_true] at hr
           split at hr
           ·rename_i st3 x2 hl3
            split at hr
            ·rename_i s2 ht
             refine alt_good h hok hcalm l1 l2 hrun hbi hy hk2 hl3 fun v' w' nm' q1 q2 => ?_
             rw [hpn]
             exact hp _ _ _ _ v' (Rel.thrown q1 q2 ht) (jW _ _ _) hr
            ·cases hr
           ·cases hr
        ·cases hr
     ·cases hr
    ·obtain ⟨e,h1,h2⟩:=effK_ok hF o hT h hr
     exact go e h2 h1
 have hnd:(match YH G.tab o (evSt st) (look st.objs) with
  | some (q,emp)=>
    br emp (bif memN (46000000+o.dst.getD 0) G.muts then none else both (partK gs o.dst (vB q) fun d=>layK G.n st o.dst d [] k) (partK gs o.dst (vB !q) fun d=>layK G.n st o.dst d [] k))
     (partK gs o.dst (vB !q) fun d=>layK G.n st o.dst d [] k)
  | none=>match o.op with
    | .panic x=>match evSt st x with
      | some (.one (.val (.ifc T s) y))=>(match thrown st (.val (.ifc T s) y) with
        | some s=>kp s
        | none=>none)
      | _=>none
    | _=>match altOf G o (evSt st) (look st.objs) with
      | some (ma,ds)=>altK G gs o st ma ds k kp
      | none=>effK G o (o.dst.getD 0) (evSt st) (look st.objs) fun e=>partK gs o.dst e.dv fun d=>layK G.n st o.dst d e.upd k)=some r → ∀ c,o.op ≠ .defer c:=by
  intro hr c hc
  unfold YH altOf effK at hr
  simp only [hc] at hr
  cases hr
 unfold stepK at he
 unfold stepWp
 simp only at he
 split at he
 ·rename_i hg
  rw [if_pos (by simp [Region.wanted,hg])]
  exact oper_in (run he) (hnd he) rd m
 ·rename_i j want hg
  split at he
  ·rename_i g hj
   have hj':(ops[j]?).bind (·.dst)=some g:=by rw [← Array.getElem?_toList];exact hj
   have skip:layK G.n st o.dst (.tup []) [] k=some r→K (a.put o.dst undef) w:=by
    intro hs
    unfold layK lay at hs
    simp only [Jh] at hs
    cases hdst:o.dst with
    | none=>
      rw [hdst] at hs
      exact hk _ _ _ nm h hs (by rw [hdst];exact keepT_put _ _ undef)
    | some t=>
      rw [hdst] at hs
      simp only at hs
      cases hb:Nat.blt t G.n with
      | false=>rw [hb] at hs;cases hs
      | true=>
        rw [hb] at hs
        have ht:t < G.n:=by simpa [Nat.blt_eq] using hb
        exact hk _ _ _ nm (h.put ht (d:=.tup []) (v:=undef) ⟨#[],rfl,Yi⟩) hs (by rw [hdst];exact keepT_put _ _ _)
   split at he
   ·rename_i b hb
    obtain ⟨v,q1,q2⟩:=h.slots g _ hb
    have hv:v = .bool b:=by simpa [rdD,rdA,rdV,rdC] using q2
    subst hv
    have hy:yielded ops a.tmps j=some b:=by
     unfold yielded
     rw [hj']
     simp [q1]
    cases hbw:(b == want) with
    | true=>
      rw [hbw] at he
      simp only [br] at he
      rw [if_pos (by simp only [Region.wanted,hg,hy];simpa using hbw)]
      exact oper_in (run he) (hnd he) rd m
    | false=>
      rw [hbw] at he
      simp only [br] at he
      rw [if_neg (by simp only [Region.wanted,hg,hy];simpa using hbw)]
      exact ⟨fun _ _=>trivial,skip he⟩
   ·rename_i hb
    obtain ⟨v,q1,vs,e1,e2⟩:=h.slots g _ hb
    have hy:yielded ops a.tmps j=none:=by
     unfold yielded
     rw [hj']
     simp [q1,e1]
    rw [if_neg (by simp [Region.wanted,hg,hy])]
    exact ⟨fun _ _=>trivial,skip he⟩
   ·cases he
  ·cases he
end
end Go.Ql
end
