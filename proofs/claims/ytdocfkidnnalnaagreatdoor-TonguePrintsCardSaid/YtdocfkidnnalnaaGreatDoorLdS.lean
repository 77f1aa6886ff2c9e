/- Part of the lifter: calls and loops, for any program. -/
import Derived.Test.YtdocfkidnnalnaaGreatDoorLcS
import Derived.Laws.StructEq
import Derived.Laws.Cover3
import Derived.RangeFuncWrites
import Derived.RangeFuncLeaves
import Derived.OrdersIn
import Derived.LoopNIn
import Derived.TacticsIn
set_option linter.all false
section
namespace Go.Ql
def iB:cC→Nat→Option Nat
 | [],_=>none
 | (j,p)::r,i=>bif Nat.beq p.1 i then some j else iB r i
def uH {i:Nat}:∀{τ:cC},C0 i τ=false → ∀q∈τ,q.2.1≠i
 | [],_,q,hq=>by cases hq
 | (j,p)::r,h,q,hq=>by
   simp only [C0,Bool.or_eq_false_iff] at h
   rcases Z5.1 hq with rfl | hq
   ·exact fun e=>(Yi.1 h.1) e.symm
   ·exact uH h.2 q hq
def BG {i:Nat}:∀{τ:cC},lM i τ=false → ∀q∈τ,q.1≠i
 | [],_,q,hq=>by cases hq
 | (j,p)::r,h,q,hq=>by
   simp only [lM,Bool.or_eq_false_iff] at h
   rcases Z5.1 hq with rfl | hq
   ·exact fun e=>(Yi.1 h.1) e.symm
   ·exact BG h.2 q hq
def yO {j:Nat}:∀{τ:cC},lM j τ=true → ∃p,look τ j=some p
 | [],h=>by cases h
 | (k,p)::r,h=>by
   simp only [lM,Bool.or_eq_true] at h
   simp only [look]
   cases hb:Nat.beq k j with
   | true=>exact ⟨p,rfl⟩
   | false=>
     rcases h with h | h
     ·have:=Jx.1 h;subst this;exact absurd rfl (Yi.1 hb)
     ·obtain ⟨q,hq⟩:=yO h
      exact ⟨q,by simpa using hq⟩
def gB:∀{τ:cC},cE τ=true→(∀q∈τ,look τ q.1=some q.2) ∧ ∀q∈τ,∀q'∈τ,q.2.1=q'.2.1→q.1=q'.1
 | [],_=>⟨fun q hq=>(by cases hq),fun q hq=>(by cases hq)⟩
 | (j,p)::r,h=>by
   simp only [cE,ze,Z3] at h
   obtain ⟨⟨h1,h2⟩,h3⟩:=h
   obtain ⟨q1,q2⟩:=gB h3
   refine ⟨fun q hq=>?_,fun q hq q' hq' he=>?_⟩
   ·simp only [look]
    rcases Z5.1 hq with rfl | hq
    ·simp [Jx.2]
    ·rw [Yi.2 (fun e=>BG h2 q hq e.symm)]
     exact q1 q hq
   ·rcases Z5.1 hq with rfl | hq<;>rcases Z5.1 hq' with rfl | hq'
    ·rfl
    ·exact absurd he.symm (uH h1 q' hq')
    ·exact absurd he (uH h1 q hq)
    ·exact q2 q hq q' hq' he
def iK {τ:cC} (h:cE τ=true) {j j':Nat} {p p':Nat×Nat} (h1:look τ j=some p) (h2:look τ j'=some p') (he:p.1=p'.1):j=j':=
 (gB h).2 (j,p) (Ul h1) (j',p') (Ul h2) he
def o9:∀{τ:cC} {i j:Nat},iB τ i=some j → ∃p,(j,p)∈τ∧p.1=i
 | [],_,_,h=>by cases h
 | (k,p)::r,i,j,h=>by
   simp only [iB] at h
   cases hb:Nat.beq p.1 i with
   | true=>rw [hb] at h;simp only [zj,zd] at h;subst h;exact ⟨p,by simp,Jx.1 hb⟩
   | false=>
     rw [hb] at h
     obtain ⟨q,h1,h2⟩:=o9 (show iB r i=some j from h)
     exact ⟨q,zz _ h1,h2⟩
def wH:∀{τ:cC} {i:Nat},iB τ i=none → ∀q∈τ,q.2.1≠i
 | [],_,_,q,hq=>by cases hq
 | (k,p)::r,i,h,q,hq=>by
   simp only [iB] at h
   cases hb:Nat.beq p.1 i with
   | true=>rw [hb] at h;cases h
   | false=>
     rw [hb] at h
     rcases Z5.1 hq with rfl | hq
     ·exact Yi.1 hb
     ·exact wH h q hq
def PL {τ:cC} (h:cE τ=true) {j:Nat} {p:Nat×Nat} (h1:look τ j=some p):iB τ p.1=some j:=by
 cases hr:iB τ p.1 with
 | none=>exact absurd rfl (wH hr (j,p) (Ul h1))
 | some j'=>
   obtain ⟨q,q1,q2⟩:=o9 hr
   exact congrArg some ((gB h).2 (j',q) q1 (j,p) (Ul h1) q2)
def rK {ob:Yo} {dst:Nat} {σ:Ren}:∀{l:List (Nat×Ob)} {τ:cC},eV ob dst σ l=some τ →
 (∀j o,look l j=some o → ∃p,look τ j=some p∧US ob dst σ j o=some p)∧(∀j p,look τ j=some p → ∃o,look l j=some o) ∧ ∀j,lM j τ=false → ∀q∈l,q.1≠j
 | [],τ,h=>by
   simp only [eV,zd] at h
   subst h
   exact ⟨fun j o h=>(by simp [look] at h),fun j p h=>(by simp [look] at h),fun j _ q hq=>(by cases hq)⟩
 | (k,ok)::l,τ,h=>by
   simp only [eV] at h
   split at h
   ·rename_i p τ1 h1 h2
    simp only [zd] at h
    subst h
    obtain ⟨q1,q2,q3⟩:=rK h2
    refine ⟨fun j o hj=>?_,fun j p' hj=>?_,fun j hj q hq=>?_⟩
    ·simp only [look] at hj ⊢
     cases hb:Nat.beq k j with
     | true=>
       rw [hb] at hj
       have:=Jx.1 hb
       subst this
       simp only [zj,zd] at hj
       subst hj
       exact ⟨p,rfl,h1⟩
     | false=>rw [hb] at hj;exact q1 j o hj
    ·simp only [look] at hj ⊢
     cases hb:Nat.beq k j with
     | true=>exact ⟨ok,rfl⟩
     | false=>rw [hb] at hj;exact q2 j p' hj
    ·simp only [lM,Bool.or_eq_false_iff] at hj
     rcases Z5.1 hq with rfl | hq
     ·exact fun e=>Yi.1 hj.1 e.symm
     ·exact q3 j hj.2 q hq
   ·cases h
def IE (l:List (Nat×Ob)):Prop:=l.Pairwise fun a b=>a.1≠b.1
def sH {ob:Yo} {dst:Nat} {σ:Ren}:∀{l:List (Nat×Ob)} {τ:cC},eV ob dst σ l=some τ→cE τ=true→IE l
 | [],_,_,_=>List.Pairwise.nil
 | (k,ok)::l,τ,h,ha=>by
   simp only [eV] at h
   split at h
   ·rename_i p τ1 h1 h2
    simp only [zd] at h
    subst h
    simp only [cE,ze,Z3] at ha
    exact List.Pairwise.cons (fun q hq e=>(rK h2).2.2 k ha.1.2 q hq e.symm) (sH h2 ha.2)
   ·cases h
def eY (sj:List (Nat×Ob)) (τ:cC) (p:Nat×Nat):Ob→Ob
 | .box cs=>.box (cs.map (HM sj τ))
 | .arr _ _ e t xs=>.arr p.2 false e t xs
 | .clo f a b=>.clo f (a.map (HM sj τ)) (b.map (HM sj τ))
 | .gone=>.gone
def pV:Ob→Bool
 | .clo _ _ _=>true
 | _=>false
def xJ {sj:List (Nat×Ob)} {τ:cC} {σ:Ren} (ha:cE τ=true):∀{l:List (Nat×Ob)} {v:kY},sI sj τ σ l=some v→IE l →
 (∀q∈v,∃j o p,(j,o)∈l∧look τ j=some p∧q=(p.1,eY sj τ p o)∧(pV o=true→look σ j=none)) ∧
 (∀j o p,(j,o)∈l→look τ j=some p→(pV o=true ∧ ∃i,look σ j=some i)∨(p.1,eY sj τ p o)∈v)∧v.Pairwise (fun a b=>a.1≠b.1)
 | [],v,h,_=>by
   simp only [sI,zd] at h
   subst h
   exact ⟨fun q hq=>(by cases hq),fun j o p hq=>(by cases hq),List.Pairwise.nil⟩
 | (k,ok)::l,v,h,hon=>by
   cases hon with
   | cons hon1 hon2=>
   simp only [sI] at h
   split at h
   ·rename_i p v1 h1 h2
    obtain ⟨q1,q2,q3⟩:=xJ ha h2 hon2
    have add:∀ob',ob'=eY sj τ p ok→(pV ok=true→look σ k=none)→v=(p.1,ob')::v1 →
     (∀q∈v,∃j o p,(j,o)∈(k,ok)::l∧look τ j=some p∧q=(p.1,eY sj τ p o)∧(pV o=true→look σ j=none)) ∧
     (∀j o p,(j,o)∈(k,ok)::l→look τ j=some p→(pV o=true ∧ ∃i,look σ j=some i)∨(p.1,eY sj τ p o)∈v)∧v.Pairwise (fun a b=>a.1≠b.1):=by
     rintro ob' rfl hclo rfl
     refine ⟨fun q hq=>?_,fun j o p' hj hp=>?_,List.Pairwise.cons (fun q hq e=>?_) q3⟩
     ·rcases Z5.1 hq with rfl | hq
      ·exact ⟨k,ok,p,by simp,h1,rfl,hclo⟩
      ·obtain ⟨j,o,p',e1,e2⟩:=q1 q hq
       exact ⟨j,o,p',zz _ e1,e2⟩
     ·rcases Z5.1 hj with hj | hj
      ·cases hj
       rw [h1] at hp
       cases hp
       exact .inr (by simp)
      ·exact (q2 j o p' hj hp).imp id (zz _)
     ·obtain ⟨j,o,p',e1,e2,e3,_⟩:=q1 q hq
      rw [e3] at e
      have:=iK ha h1 e2 e
      subst this
      exact hon1 _ e1 rfl
    cases ok with
    | box cs=>
      simp only [zd] at h
      exact add _ rfl (fun h=>by cases h) h.symm
    | arr v0 fz e t xs=>
      cases fz with
      | true=>cases h
      | false=>
        simp only [zk,zd] at h
        exact add _ rfl (fun h=>by cases h) h.symm
    | gone=>
      simp only [zd] at h
      exact add _ rfl (fun h=>by cases h) h.symm
    | clo f x y=>
      simp only at h
      split at h
      ·rename_i i hi
       simp only [zd] at h
       subst h
       refine ⟨fun q hq=>?_,fun j o p' hj hp=>?_,q3⟩
       ·obtain ⟨j,o,p',e1,e2⟩:=q1 q hq
        exact ⟨j,o,p',zz _ e1,e2⟩
       ·rcases Z5.1 hj with hj | hj
        ·cases hj
         exact .inl ⟨rfl,i,hi⟩
        ·exact q2 j o p' hj hp
      ·rename_i hi
       simp only [zd] at h
       exact add _ rfl (fun _=>hi) h.symm
   ·cases h
def oJ:∀{v:kY} {s s':St},kO s v=some s'→s'.mj=s.mj
 | [],s,s',h=>by simp only [kO,zd] at h;subst h;rfl
 | (id,ob)::v,s,s',h=>by
   simp only [kO] at h
   cases hm:YZ s id ob with
   | false=>rw [hm] at h;cases h
   | true=>rw [hm] at h;exact oJ (s:=⟨s.mj,YE id ob s.sj⟩) h
def s6 [GInv]:∀{v:kY} {s s':St},kO s v=some s'→v.Pairwise (fun a b=>a.1≠b.1) →
 ∀q∈v,look s'.sj q.1=some q.2 ∧ ∃s2:St,s2.mj=s.mj∧look s2.sj q.1=look s.sj q.1∧(∀k,(∀q∈v,q.1≠k)→look s2.sj k=look s.sj k)∧YZ s2 q.1 q.2=true
 | [],_,_,_,_,q,hq=>by cases hq
 | (id,ob)::v,s,s',h,hp,q,hq=>by
   cases hp with
   | cons hp1 hp2=>
   simp only [kO] at h
   cases hm:YZ s id ob with
   | false=>rw [hm] at h;cases h
   | true=>
     rw [hm] at h
     have h:kO ⟨s.mj,YE id ob s.sj⟩ v=some s':=h
     rcases Z5.1 hq with rfl | hq
     ·refine ⟨?_,s,rfl,rfl,fun _ _=>rfl,hm⟩
      rw [UY v h (fun p hp e=>hp1 p hp e.symm)]
      simp [ke]
     ·obtain ⟨q1,s2,q2,q3,q4,q5⟩:=s6 h hp2 q hq
      refine ⟨q1,s2,q2,?_,fun k hk=>?_,q5⟩
      ·rw [q3]
       simp only [ke,if_neg (hp1 q hq)]
      ·rw [q4 k (fun p hp=>hk p (zz _ hp))]
       simp only [ke,if_neg (hk (id,ob) (by simp))]
def qO (v:kY):(Yx v).Perm v:=List.filter_append_perm (fun p:Nat×Ob=>rQ p.2) v
def sJ {v:kY} {q:Nat×Ob}:q∈Yx v↔q∈v:=(qO v).mem_iff
def xK {v:kY} (h:v.Pairwise (fun a b=>a.1≠b.1)):(Yx v).Pairwise (fun a b=>a.1≠b.1):=
 ((qO v).pairwise_iff (fun h e=>h e.symm)).2 h
end Go.Ql
end

section
namespace Go.Ql
section
variable [GInv] {P:Program} {G:Env} {n:Nat} {w0 w w':World} {Z0:Bs} {Z Z':Nat→Prop} {st st1 st':St} {a:Act} {nm nm':JY} {o:Oper} {dst:Nat} {ρ:Type} {r:ρ}
def eK {nm':JY} {sj objs':List (Nat×Ob)} {g:At→At} (hg:∀x v,UE w Z nm sj x v→UE w' Z' nm' objs' (g x) v) {cs:List At} {vs:List Value} (h:Vx w Z nm sj cs vs):Vx w' Z' nm' objs' (cs.map g) vs:=by
 refine ⟨by rw [List.length_map];exact h.1,fun i x v q1 q2=>?_⟩
 rw [List.getElem?_map,Z8] at q1
 obtain ⟨y,h1,rfl⟩:=q1
 exact hg y v (h.2 i y v h1 q2)
def PJ {nm':JY} {sj objs':List (Nat×Ob)} {ob:List (Nat×Ob)} {τ:cC} (hg:∀x v,UE w Z nm sj x v→UE w' Z' nm' objs' (HM ob τ x) v) {d:Dv} {v:Value} (h:Vf w Z nm sj d v):Vf w' Z' nm' objs' (Q2 ob τ d) v:=by
 cases d with
 | one x=>exact hg x v h
 | agg cs=>obtain ⟨vs,e,h1,h2⟩:=h;exact ⟨vs,e,eK hg h1,h2⟩
 | tup cs=>obtain ⟨vs,e,h1⟩:=h;exact ⟨vs,e,eK hg h1⟩
def GG {e e':TypeId} {s s':Nat} {v:Value} {m m':Nat} {xs xs':List Value} (h:w.ownsM e s v m xs) (h':w'.ownsM e' s' v m' xs'):m=m':=by
 rcases h.2 with ⟨e1,e2⟩ | ⟨g,c,cur,e1,_⟩<;>rcases h'.2 with ⟨f1,f2⟩ | ⟨g',c',cur',f1,_⟩
 ·rw [e2,f2]
 ·rw [e1] at f1;cases f1
 ·rw [e1] at f1;cases f1
 ·rw [e1] at f1;cases f1;rfl
def GP {v:Value} {e e':TypeId} {t t':Ty} {xs:List t.den} {xs':List t'.den} (h:rdArr w Z v e t xs) (h':rdArr w' Z' v e' t' xs'):xs.length=xs'.length:=by
 rcases h with ⟨_,c,h,_⟩ | ⟨j,u,l,h,b,es,cl,e1,_⟩
 ·rcases h' with ⟨_,c',h',_⟩ | ⟨j',u',l',h',b',es',cl',e1',_⟩
  ·exact GG h h'
  ·rcases h.2 with ⟨f1,_⟩ | ⟨_,_,_,f1,_⟩<;>rw [f1] at e1'<;>cases e1'
 ·rcases h' with ⟨_,c',h',_⟩ | ⟨j',u',l',h',b',es',cl',e1',_⟩
  ·rcases h'.2 with ⟨f1,_⟩ | ⟨_,_,_,f1,_⟩<;>rw [f1] at e1<;>cases e1
  ·cases h;cases h';rfl
def UW {ob:Yo} {σ:Ren} {j i:Nat} {o:Ob} {p:Nat×Nat} (h:US ob dst σ j o=some p) (hj:look σ j=some i) :
 p.1=i∧eB≤j ∧ ∀v0 fz e t xs,o=.arr v0 fz e t xs → ∃v fz' xs',ob i=some (.arr v fz' e t xs')∧((lL≤j∧v0=0∧p.2=v)∨p.2=v+1):=by
 have other:(bif Nat.ble eB j then some (i,0) else none)=some p→p.1=i∧eB≤j:=by
  intro hb
  cases hc:Nat.ble eB j with
  | false=>rw [hc] at hb;cases hb
  | true=>
    rw [hc] at hb
    simp only [zj,zd] at hb
    subst hb
    exact ⟨rfl,Nat.le_of_ble_eq_true hc⟩
 cases o with
 | box cs=>
   simp only [US,hj] at h
   obtain ⟨q1,q2⟩:=other h
   exact ⟨q1,q2,fun _ _ _ _ _ he=>by cases he⟩
 | clo f x y=>
   simp only [US,hj] at h
   obtain ⟨q1,q2⟩:=other h
   exact ⟨q1,q2,fun _ _ _ _ _ he=>by cases he⟩
 | gone=>
   simp only [US,hj] at h
   obtain ⟨q1,q2⟩:=other h
   exact ⟨q1,q2,fun _ _ _ _ _ he=>by cases he⟩
 | arr v0 fz e t xs=>
   simp only [US,hj] at h
   split at h
   ·rename_i v fz' e' t' xs' hob
    cases hc:(Nat.ble eB j&&Nat.beq e e'&&decide (t=t')&&(Nat.blt j lL||Nat.beq v0 0)) with
    | false=>rw [hc] at h;cases h
    | true=>
      rw [hc] at h
      simp only [ze,Bool.or_eq_true] at hc
      obtain ⟨⟨⟨c1,c2⟩,c3⟩,c4⟩:=hc
      have:=Jx.1 c2
      subst this
      have:=zw c3
      subst this
      simp only [zj,zd] at h
      subst h
      refine ⟨rfl,Nat.le_of_ble_eq_true c1,fun v1 fz1 e1 t1 xs1 he=>?_⟩
      cases he
      refine ⟨v,fz',xs',hob,?_⟩
      cases hg:Nat.ble lL j with
      | true=>
        have hg:=Nat.le_of_ble_eq_true hg
        refine .inl ⟨hg,?_,rfl⟩
        rcases c4 with c4 | c4
        ·rw [Nat.blt_eq] at c4;omega
        ·exact Jx.1 c4
      | false=>exact .inr rfl
   ·cases h
def eU {ob:Yo} {σ:Ren} {j:Nat} {o:Ob} {p:Nat×Nat} (h:US ob dst σ j o=some p) (hj:look σ j=none) :
 ((∃v0 fz e t xs,o=.arr v0 fz e t xs)∧Va ob p.1=some p.2)∨((∀v0 fz e t xs,o ≠ .arr v0 fz e t xs)∧ob p.1=none):=by
 cases o with
 | arr v0 fz e t xs=>
   simp only [US,hj] at h
   split at h
   ·rename_i v hv
    simp only [zd] at h
    subst h
    exact .inl ⟨⟨_,_,_,_,_,rfl⟩,hv⟩
   ·cases h
 | box cs=>
   simp only [US,hj] at h
   split at h
   ·rename_i hv
    simp only [zd] at h
    subst h
    exact .inr ⟨fun _ _ _ _ _ he=>(by cases he),hv⟩
   ·cases h
 | clo f x y=>
   simp only [US,hj] at h
   split at h
   ·rename_i hv
    simp only [zd] at h
    subst h
    exact .inr ⟨fun _ _ _ _ _ he=>(by cases he),hv⟩
   ·cases h
 | gone=>
   simp only [US,hj] at h
   split at h
   ·rename_i hv
    simp only [zd] at h
    subst h
    exact .inr ⟨fun _ _ _ _ _ he=>(by cases he),hv⟩
   ·cases h
def oQ:∀{l:List (Nat×Ob)} {j:Nat} {x y:Ob},IE l→(j,x)∈l→look l j=some y→x=y
 | (k,z)::l,j,x,y,h,hm,hl=>by
   cases h with
   | cons h1 h2=>
   simp only [look] at hl
   rcases Z5.1 hm with hm | hm
   ·cases hm
    simp only [Jx.2,zj,zd] at hl
    exact hl
   ·rw [Yi.2 (h1 _ hm)] at hl
    exact oQ h2 hm hl
def M1 (hrel:Rel n w0 Z0 st1 a w nm) {obx:Yo} (hox1:∀i v fz e t xs,obx i=some (.arr v fz e t xs) → ∃fz',look st1.sj i=some (.arr v fz' e t xs)) (hox2:∀i,obx i=none→look st1.sj i=none)
 {σ:Ren} {objsT:List (Nat×Ob)} (hm:∀j obT,look objsT j=some obT → ∃i ob,look σ j=some i∧look st1.sj i=some ob∧ob.mine=true)
 {pst:St} {v:Value} (hp:Post w w' (Bs.of (Zc w0 Z0 nm st1.sj w) (cA nm σ) objsT) nm' pst v) {d:Dv} {upd:kY} (hk:aV obx dst σ pst=some (d,upd)) (hl:kO st1 upd=some st') :
 ∃nmF,Rel n w0 Z0 st' a w' nmF∧Vf w' (Zc w0 Z0 nmF st'.sj w') nmF st'.sj d v:=by
 unfold aV at hk
 split at hk
 ·rename_i τ hτ
  cases hc:(cE τ&&(σ.all fun p=>lM p.1 τ)) with
  | false=>rw [hc] at hk;cases hk
  | true=>
  rw [hc] at hk
  simp only [zj] at hk
  rw [ze] at hc
  obtain ⟨hA,hall⟩:=hc
  split at hk
  ·rename_i upd0 d0 hU hans
   simp only [zd,zr] at hk
   obtain ⟨rfl,rfl⟩:=hk
   obtain ⟨hT1,hT2,_⟩:=rK hτ
   have hon:=sH hτ hA
   obtain ⟨u1,u2,u3⟩:=xJ hA hU hon
   have u1:=fun q (hq:q∈Yx upd0)=>u1 q (sJ.1 hq)
   have u2:=fun j o p h1 h2=>(u2 j o p h1 h2).imp id sJ.2
   have u3:=xK u3
   generalize Yx upd0=upd' at u1 u2 u3 hl ⊢
   have hla:=s6 hl u3
   have hsl:st'.mj=st1.mj:=oJ hl
   have hcov:∀j i,look σ j=some i → ∃p,look τ j=some p:=fun j i h=>yO (by
    have:=zy.1 hall (j,i) (Ul h)
    exact this)
   have hT:∀j p,look τ j=some p → ∃o,look pst.sj j=some o∧US obx dst σ j o=some p:=by
    intro j p h
    obtain ⟨o,ho⟩:=hT2 j p h
    obtain ⟨p',h1,h2⟩:=hT1 j o ho
    rw [h] at h1
    cases h1
    exact ⟨o,ho,h2⟩
   
   obtain ⟨nmF,hnF⟩:∃nmF:JY,nmF=fun id=>match iB τ id with
    | some j=>nm' j
    | none=>nm id:=⟨_,rfl⟩
   have nF1:∀j p,look τ j=some p→nmF p.1=nm' j:=by
    intro j p h
    rw [hnF]
    simp only [PL hA h]
   have nF2:∀id,(∀j p,look τ j=some p→p.1≠id)→nmF id=nm id:=by
    intro id h
    rw [hnF]
    show (match iB τ id with
     | some j=>nm' j
     | none=>nm id)=nm id
    cases hr:iB τ id with
    | none=>rfl
    | some j=>
      obtain ⟨p,q1,q2⟩:=o9 hr
      exact absurd q2 (h j p ((gB hA).1 (j,p) q1))
   have cases_id:∀id,(∃j p o,look τ j=some p∧p.1=id∧look pst.sj j=some o∧US obx dst σ j o=some p)∨((∀j p,look τ j=some p→p.1≠id)∧look st'.sj id=look st1.sj id∧nmF id=nm id):=by
    intro id
    by_cases h:∃j p,look τ j=some p∧p.1=id
    ·obtain ⟨j,p,h1,h2⟩:=h
     obtain ⟨o,h3,h4⟩:=hT j p h1
     exact .inl ⟨j,p,o,h1,h2,h3,h4⟩
    ·have h':∀j p,look τ j=some p→p.1≠id:=fun j p h1 h2=>h ⟨j,p,h1,h2⟩
     refine .inr ⟨h',UY _ hl (fun q hq=>?_),nF2 id h'⟩
     obtain ⟨j,o,p,_,e2,e3,_⟩:=u1 q hq
     rw [e3]
     exact h' j p e2
   have entry:∀j p o,look τ j=some p→look pst.sj j=some o→(p.1,eY pst.sj τ p o)∈upd' ∨
    (pV o=true∧(∃i,look σ j=some i)∧look st'.sj p.1=look st1.sj p.1):=by
    intro j p o h1 h2
    rcases u2 j o p (Ul h2) h1 with ⟨q1,i,q2⟩ | q
    ·refine .inr ⟨q1,⟨i,q2⟩,UY _ hl (fun q hq he=>?_)⟩
     obtain ⟨j',o',p',e1,e2,e3,e4⟩:=u1 q hq
     rw [e3] at he
     have:=iK hA e2 h1 he
     subst this
     have:=oQ hon e1 h2
     subst this
     rw [e4 q1] at q2
     cases q2
    ·exact .inl q
   have G1:∀j p o i,look τ j=some p→look pst.sj j=some o→US obx dst σ j o=some p→look σ j=some i→oG j o→nm' j=nm i:=by
    intro j p o i _ h2 h3 h4 h5
    obtain ⟨_,q2,_⟩:=UW h3 h4
    rw [hp.given j o q2 h2 h5]
    exact UI h4
   have hM:∀b,bT (cA nm σ) objsT b → ∃j i ob p,look σ j=some i∧look st1.sj i=some ob∧ob.mine=true∧kV (nm i)=some b∧look τ j=some p∧p.1=i:=by
    rintro b ⟨j,obT,h1,h2,h3⟩
    obtain ⟨i,ob,q1,q2,q3⟩:=hm j obT h1
    obtain ⟨p,q4⟩:=hcov j i q1
    obtain ⟨o,_,q6⟩:=hT j p q4
    rw [UI q1] at h3
    exact ⟨j,i,ob,p,q1,q2,q3,h3,q4,(UW q6 q1).1⟩
   have notM:∀id ob b,(∀j p,look τ j=some p→p.1≠id)→look st1.sj id=some ob→kV (nm id)=some b → ¬bT (cA nm σ) objsT b:=by
    intro id ob b h1 h2 h3 h4
    obtain ⟨j,i,ob',p,q1,q2,q3,q4,q5,q6⟩:=hM b h4
    exact h1 j p q5 (q6.trans (hrel.inj i id ob' ob b q2 h2 q4 h3))
   have hkept:Kept w w' (Zc w0 Z0 nm st1.sj w) (Zc w0 Z0 nmF st'.sj w'):=by
    rintro b ⟨z1,z2,z3⟩
    have hnM:¬bT (cA nm σ) objsT b:=by
     intro h
     obtain ⟨j,i,ob,p,q1,q2,q3,q4,_⟩:=hM b h
     exact z3 ⟨i,ob,q2,q3,q4⟩
    refine ⟨⟨Z2 z1 hp.same.size,z2,?_⟩,hp.same.block b z1 hnM⟩
    rintro ⟨id,ob,y1,y2,y3⟩
    rcases cases_id id with ⟨j,p,o,h1,h2,h3,h4⟩ | ⟨h1,h2,h3⟩
    ·subst h2
     rw [nF1 j p h1] at y3
     rcases (hp.new j o b h3 y3).1 with q | q
     ·omega
     ·exact hnM q
    ·rw [h2] at y1
     rw [h3] at y3
     exact z3 ⟨id,ob,y1,y2,y3⟩
   have atok:∀x:At,(∀s2:St,s2.mj=st1.mj→(∀k,(∀q∈upd',q.1≠k)→look s2.sj k=look st1.sj k) → ∀id,(s2.free id=true→x.fj id=false) ∧ ∀v,s2.noVer id v=true→x.ij id v=false) →
    AtOk nm nmF st1.sj st'.sj x:=by
    intro x hx id hid
    rcases cases_id id with ⟨j,p,o,h1,h2,h3,h4⟩ | ⟨h1,h2,h3⟩
    ·subst h2
     rcases entry j p o h1 h3 with he | ⟨c1,⟨i,c2⟩,c3⟩
     ·obtain ⟨l1,s2,l2,l3,l4,l5⟩:=hla _ he
      simp only at l1 l3 l5
      obtain ⟨hx1,hx2⟩:=hx s2 l2 l4 p.1
      have hfree:look st1.sj p.1=none→False:=by
       intro hn
       unfold YZ at l5
       rw [l3,hn] at l5
       simp only [ze] at l5
       rw [hx1 l5.2] at hid
       cases hid
      refine ⟨fun ver fz e t xs g1 g2=>?_,fun cs g1=>?_,fun f y z g1=>?_⟩
      ·rw [l1] at g1
       simp only [zd] at g1
       cases o with
       | gone=>cases g1
       | box cs=>cases g1
       | clo f y z=>cases g1
       | arr v0 fz0 e0 t0 xs0=>
         cases g1
         unfold YZ at l5
         rw [l3] at l5
         cases hold:look st1.sj p.1 with
         | none=>exact (hfree hold).elim
         | some old=>
           rw [hold] at l5
           cases old with
           | gone=>cases l5
           | box cs=>cases l5
           | clo f y z=>cases l5
           | arr v1 fz1 e1 t1 xs1=>
             simp only [eY,Bool.or_eq_true,ze] at l5
             rcases l5 with l5 | l5
             ·have hv:=Jx.1 l5
              subst hv
              cases hj:look σ j with
              | some i=>
                obtain ⟨k1,k2,k3⟩:=UW h4 hj
                obtain ⟨v,fz',xs',k4,k5⟩:=k3 _ _ _ _ _ rfl
                obtain ⟨fz2,k6⟩:=hox1 i _ _ _ _ _ k4
                subst k1
                rw [hold] at k6
                cases k6
                rcases k5 with ⟨k5,k7,_⟩ | k5
                ·subst k7
                 have hn:=G1 j p _ p.1 h1 h3 h4 hj ⟨k5,rfl⟩
                 refine ⟨by rw [nF1 j p h1];exact hn,_,_,rfl,?_⟩
                 have r1:rdArr _ _ (nm' j) _ _ _:=hp.sj j _ h3
                 have r2:rdArr _ _ (nm p.1) _ _ _:=hrel.sj p.1 _ hold
                 rw [hn] at r1
                 exact GP r2 r1
                ·omega
              | none=>
                rcases eU h4 hj with ⟨_,k1⟩ | ⟨k1,_⟩
                ·unfold Va at k1
                 split at k1
                 ·rename_i hq
                  rw [hox2 _ hq] at hold
                  cases hold
                 ·rename_i v2 fz2 e2 t2 xs2 hq
                  obtain ⟨fz3,k6⟩:=hox1 _ _ _ _ _ _ hq
                  rw [hold] at k6
                  cases k6
                  simp only [zd] at k1
                  omega
                 ·cases k1
                ·exact absurd rfl (k1 _ _ _ _ _)
             ·rw [hx2 _ l5.2] at g2
              cases g2
      ·rw [l1] at g1
       simp only [zd] at g1
       cases o with
       | gone=>cases g1
       | arr v0 fz0 e0 t0 xs0=>cases g1
       | clo f y z=>cases g1
       | box cs0=>
         cases hold:look st1.sj p.1 with
         | none=>exact (hfree hold).elim
         | some old=>
           unfold YZ at l5
           rw [l3,hold] at l5
           cases old with
           | gone=>cases l5
           | arr v1 fz1 e1 t1 xs1=>cases l5
           | clo f y z=>cases l5
           | box cs1=>
             cases hj:look σ j with
             | some i=>
               obtain ⟨k1,_⟩:=UW h4 hj
               subst k1
               exact ⟨by rw [nF1 j p h1];exact G1 j p _ p.1 h1 h3 h4 hj trivial,cs1,rfl⟩
             | none=>
               rcases eU h4 hj with ⟨⟨_,_,_,_,_,k1⟩,_⟩ | ⟨_,k1⟩
               ·cases k1
               ·rw [hox2 _ k1] at hold;cases hold
      ·rw [l1] at g1
       simp only [zd] at g1
       cases o with
       | gone=>cases g1
       | arr v0 fz0 e0 t0 xs0=>cases g1
       | box cs=>cases g1
       | clo f0 y0 z0=>
         cases hold:look st1.sj p.1 with
         | none=>exact (hfree hold).elim
         | some old=>
           unfold YZ at l5
           rw [l3,hold] at l5
           cases old<;>cases l5
     ·obtain ⟨k1,_⟩:=UW h4 c2
      have hn:nmF p.1=nm p.1:=by
       rw [nF1 j p h1]
       subst k1
       refine G1 j p o p.1 h1 h3 h4 c2 ?_
       cases o with
       | gone=>cases c1
       | clo=>trivial
       | box=>cases c1
       | arr=>cases c1
      rw [c3]
      exact ⟨fun ver fz e t xs g1 _=>⟨hn,fz,xs,g1,rfl⟩,fun cs g1=>⟨hn,cs,g1⟩,fun f y z g1=>⟨hn,f,y,z,g1⟩⟩
    ·rw [h2,h3]
     exact ⟨fun ver fz e t xs g1 _=>⟨rfl,fz,xs,g1,rfl⟩,fun cs g1=>⟨rfl,cs,g1⟩,fun f y z g1=>⟨rfl,f,y,z,g1⟩⟩
   have slotok:∀t d,look st1.mj t=some d→DvOk nm nmF st1.sj st'.sj d:=by
    intro t d ht
    have key:∀x:At,(∀id,(d.fj id=false→x.fj id=false) ∧ ∀v,d.ij id v=false→x.ij id v=false)→AtOk nm nmF st1.sj st'.sj x:=by
     intro x hx
     refine atok x (fun s2 e1 _ id=>⟨fun hf=>(hx id).1 (oD hf (by rw [e1];exact ht)),fun v hv=>(hx id).2 v (tB hv (by rw [e1];exact ht))⟩)
    cases d with
    | one x=>exact key x (fun id=>⟨fun h=>h,fun v h=>h⟩)
    | agg cs=>
      intro x hx
      refine key x (fun id=>⟨fun h=>?_,fun v h=>?_⟩)
      ·simp only [Dv.fj,List.any_eq_false] at h;simpa using h x hx
      ·simp only [Dv.ij,List.any_eq_false] at h;simpa using h x hx
    | tup cs=>
      intro x hx
      refine key x (fun id=>⟨fun h=>?_,fun v h=>?_⟩)
      ·simp only [Dv.fj,List.any_eq_false] at h;simpa using h x hx
      ·simp only [Dv.ij,List.any_eq_false] at h;simpa using h x hx
   have obok:∀id ob,look st1.sj id=some ob→(∀q∈upd',q.1≠id)→ObOk nm nmF st1.sj st'.sj ob:=by
    intro id ob ho hq
    have key:∀x:At,(∀i,(ob.fj i=false→x.fj i=false) ∧ ∀v,ob.ij i v=false→x.ij i v=false)→AtOk nm nmF st1.sj st'.sj x:=by
     intro x hx
     refine atok x (fun s2 _ e2 i=>⟨fun hf=>(hx i).1 (yK hf (by rw [e2 id hq];exact ho)).2,fun v hv=>(hx i).2 v (vZ hv (by rw [e2 id hq];exact ho))⟩)
    cases ob with
    | gone=>trivial
    | arr=>trivial
    | box cs=>
      intro x hx
      refine key x (fun id=>⟨fun h=>?_,fun v h=>?_⟩)
      ·simp only [Ob.fj,List.any_eq_false] at h;simpa using h x hx
      ·simp only [Ob.ij,List.any_eq_false] at h;simpa using h x hx
    | clo f y z=>
      refine ⟨fun x hx=>key x (fun id=>⟨fun h=>?_,fun v h=>?_⟩),fun x hx=>key x (fun id=>⟨fun h=>?_,fun v h=>?_⟩)⟩
      ·simp only [Ob.fj,Bool.or_eq_false_iff,List.any_eq_false] at h;simpa using h.1 x hx
      ·simp only [Ob.ij,Bool.or_eq_false_iff,List.any_eq_false] at h;simpa using h.1 x hx
      ·simp only [Ob.fj,Bool.or_eq_false_iff,List.any_eq_false] at h;simpa using h.2 x hx
      ·simp only [Ob.ij,Bool.or_eq_false_iff,List.any_eq_false] at h;simpa using h.2 x hx
   
   have hkn:Kept w' w' (Zc w (Bs.of (Zc w0 Z0 nm st1.sj w) (cA nm σ) objsT) nm' pst.sj w') (Zc w0 Z0 nmF st'.sj w'):=by
    rintro b ⟨z1,z2,z3⟩
    refine ⟨⟨z1,fun hb=>?_,?_⟩,rfl⟩
    ·have:=hrel.same.size
     rcases z2 (by omega) with q | q
     ·exact q.2.1 hb
     ·obtain ⟨j,i,ob,p,q1,q2,q3,q4,_⟩:=hM b q
      exact .inr ((hrel.new i ob b q2 q4).1.resolve_left (by omega))
    ·rintro ⟨id,ob,y1,y2,y3⟩
     rcases cases_id id with ⟨j,p,o,h1,h2,h3,h4⟩ | ⟨h1,h2,h3⟩
     ·subst h2
      rw [nF1 j p h1] at y3
      refine z3 ⟨j,o,h3,hp.mine j o h3 (fun hg=>?_),y3⟩
      subst hg
      rcases entry j p _ h1 h3 with he | ⟨c1,_,_⟩
      ·have l1:=(hla _ he).1
       simp only at l1
       rw [l1] at y1
       cases y1
       exact absurd y2 (by simp [eY,Ob.mine])
      ·cases c1
     ·rw [h2] at y1
      rw [h3] at y3
      have hb:=(hrel.new id ob b y1 y3).2
      rcases z2 hb with q | q
      ·exact q.2.2 ⟨id,ob,y1,y2,y3⟩
      ·exact notM id ob b h1 y1 y3 q
   have hren:∀x v,UE w' (Zc w (Bs.of (Zc w0 Z0 nm st1.sj w) (cA nm σ) objsT) nm' pst.sj w') nm' pst.sj x v→UE w' (Zc w0 Z0 nmF st'.sj w') nmF st'.sj (HM pst.sj τ x) v:=by
    intro x v hv
    cases x with
    | val t d=>exact bJ hkn hv
    | nilS=>exact hv
    | fn f=>exact hv
    | junk=>exact hv
    | fptr t d=>
      obtain ⟨b,off,cs,h1,h2,h3,h4⟩:=hv
      exact ⟨b,off,cs,h1,(hkn b h2).1,YJ hkn t h3,h4⟩
    | elem id ver i sz off=>exact hv.1
    | aelem=>exact hv.1
    | own j ver=>
      simp only [HM]
      split
      ·rename_i v' fz e t xs p h1 h2
       cases hb:Nat.beq ver v' with
       | false=>exact hv.1
       | true=>
         have:=Jx.1 hb
         subst this
         exact ⟨hv.1,fun _ _ _ _ _=>by rw [nF1 j p h2];exact hv.2 fz e t xs h1⟩
      ·exact hv.1
    | selfp j T=>
      simp only [HM]
      split
      ·rename_i cs p h1 h2
       exact ⟨hv.1,fun _ _=>by rw [nF1 j p h2];exact hv.2 cs h1⟩
      ·exact hv.1
    | aptr j ver=>
      simp only [HM]
      split
      ·rename_i v' fz e t xs p h1 h2
       cases hb:Nat.beq ver v' with
       | false=>exact hv.1
       | true=>
         have:=Jx.1 hb
         subst this
         exact ⟨hv.1,fun _ _ _ _ _=>by rw [nF1 j p h2];exact hv.2 fz e t xs h1⟩
      ·exact hv.1
    | win j ver lo m=>
      simp only [HM]
      split
      ·rename_i v' fz e t xs p h1 h2
       cases hb:Nat.beq ver v' with
       | false=>exact hv.1
       | true=>
         have:=Jx.1 hb
         subst this
         refine ⟨hv.1,fun fz1 e1 t1 xs1 hl1=>?_⟩
         rw [nF1 j p h2]
         rcases entry j p _ h2 h1 with he | ⟨c1,_⟩
         ·obtain ⟨l1,_⟩:=hla _ he
          simp only [eY] at l1
          rw [l1] at hl1
          cases hl1
          exact hv.2 fz e t xs h1
         ·cases c1
      ·exact hv.1
    | ref j off=>
      simp only [HM]
      split
      ·rename_i cs p h1 h2
       exact ⟨hv.1,fun _ _=>by rw [nF1 j p h2];exact hv.2 cs h1⟩
      ·exact hv.1
    | clo j=>
      simp only [HM]
      split
      ·rename_i f y z p h1 h2
       exact ⟨hv.1,fun _ _ _ _=>by rw [nF1 j p h2];exact hv.2 f y z h1⟩
      ·exact hv.1
   refine ⟨nmF,⟨hrel.defk hkept,hrel.size,fun t d ht=>?_,fun id ob ho=>?_,fun id ob b ho hb=>?_,fun id id' ob ob' b ho ho' hb hb'=>?_,?_,fun id ob hg ho hh=>?_,hrel.glob,hrel.calm⟩,?_⟩
   ·rw [hsl] at ht
    obtain ⟨v,q1,q2⟩:=hrel.mj t d ht
    exact ⟨v,q1,Uu hkept (slotok t d ht) q2⟩
   ·rcases cases_id id with ⟨j,p,o,h1,h2,h3,h4⟩ | ⟨h1,h2,h3⟩
    ·subst h2
     rcases entry j p o h1 h3 with he | ⟨c1,⟨i,c2⟩,c3⟩
     ·obtain ⟨l1,_⟩:=hla _ he
      simp only at l1
      rw [l1] at ho
      cases ho
      have hro:=hp.sj j o h3
      cases o with
      | box cs=>
        obtain ⟨b,vs,T,p1,p2,p3,p4⟩:=hro
        refine ⟨b,vs,T,by rw [nF1 j p h1];exact p1,p2,eK hren p3,p4.1,fun T' hT=>?_⟩
        obtain ⟨x,hx,e⟩:=List.mem_map.1 hT
        have hxs:∃j',∃p',x=At.selfp j' T'∧look τ j'=some p'∧p'.1=p.1:=by
         cases x with
         | selfp j' T2=>
           simp only [HM] at e
           split at e
           ·rename_i cs' p' _ g2
            injection e with e1 e2
            subst e2
            exact ⟨j',p',rfl,g2,e1⟩
           ·cases e
         | own j' v=>
           simp only [HM] at e
           split at e
           ·rename_i v' _ _ _ _ p' _ _
            cases hb:Nat.beq v v'<;>rw [hb] at e<;>cases e
           ·cases e
         | win j' v lo m=>
           simp only [HM] at e
           split at e
           ·rename_i v' _ _ _ _ p' _ _
            cases hb:Nat.beq v v'<;>rw [hb] at e<;>cases e
           ·cases e
         | aptr j' v=>
           simp only [HM] at e
           split at e
           ·rename_i v' _ _ _ _ p' _ _
            cases hb:Nat.beq v v'<;>rw [hb] at e<;>cases e
           ·cases e
         | ref j' o=>
           simp only [HM] at e
           split at e<;>cases e
         | clo j'=>
           simp only [HM] at e
           split at e<;>cases e
         | _=>cases e
        obtain ⟨j',p',rfl,g1,g2⟩:=hxs
        have:=iK hA g1 h1 g2
        subst this
        exact p4.2 T' hx
      | arr v0 fz e t xs=>
        have hro:rdArr _ _ (nm' j) _ _ _:=hro
        rw [←nF1 j p h1] at hro
        exact bU hkn (fun _ _=>rfl) hro
      | clo f y z=>
        obtain ⟨vx,vy,p1,p2,p3⟩:=hro
        exact ⟨vx,vy,by rw [nF1 j p h1];exact p1,eK hren p2,eK hren p3⟩
      | gone=>trivial
     ·obtain ⟨k1,_⟩:=UW h4 c2
      have hn:nmF p.1=nm p.1:=by
       rw [nF1 j p h1]
       subst k1
       refine G1 j p o p.1 h1 h3 h4 c2 ?_
       cases o with
       | gone=>cases c1
       | clo=>trivial
       | box=>cases c1
       | arr=>cases c1
      have hnu:∀q∈upd',q.1≠p.1:=by
       intro q hq he
       obtain ⟨j',o',p',e1,e2,e3,e4⟩:=u1 q hq
       rw [e3] at he
       have:=iK hA e2 h1 he
       subst this
       have:=oQ hon e1 h3
       subst this
       rw [e4 c1] at c2
       cases c2
      rw [c3] at ho
      have hblk:∀b,kV (nm p.1)=some b→False:=by
       intro b hb
       rw [←hn,nF1 j p h1] at hb
       have hro:=hp.sj j o h3
       cases o with
       | gone=>cases c1
       | box=>cases c1
       | arr=>cases c1
       | clo f y z=>obtain ⟨vx,vy,p1,_⟩:=hro;rw [p1] at hb;cases hb
      exact Hh hkept hn (fun b hb=>(hblk b hb).elim) (obok p.1 ob ho hnu) (hrel.sj p.1 ob ho)
    ·rw [h2] at ho
     refine Hh hkept h3 (fun b hb=>hp.same.block b (hrel.new id ob b ho hb).2 (notM id ob b h1 ho hb)) (obok id ob ho (fun q hq he=>?_)) (hrel.sj id ob ho)
     obtain ⟨j',o',p',e1,e2,e3,e4⟩:=u1 q hq
     rw [e3] at he
     exact h1 j' p' e2 he
   ·rcases cases_id id with ⟨j,p,o,h1,h2,h3,h4⟩ | ⟨h1,h2,h3⟩
    ·subst h2
     rw [nF1 j p h1] at hb
     obtain ⟨q1,q2⟩:=hp.new j o b h3 hb
     refine ⟨?_,q2⟩
     have hsz:=hrel.same.size
     rcases q1 with q | q
     ·exact .inl (by omega)
     ·obtain ⟨j',i,ob',p',e1,e2,e3,e4,_⟩:=hM b q
      exact (hrel.new i ob' b e2 e4).1
    ·rw [h2] at ho
     rw [h3] at hb
     have:=hrel.new id ob b ho hb
     exact ⟨this.1,Z2 this.2 hp.same.size⟩
   ·have mixed:∀id id' ob' b,(∃j p o,look τ j=some p∧p.1=id∧look pst.sj j=some o∧US obx dst σ j o=some p)→(∀j p,look τ j=some p→p.1≠id')→look st1.sj id'=some ob'→kV (nmF id)=some b→kV (nm id')=some b→False:=by
     rintro id id' ob' b ⟨j,p,o,h1,h2,h3,h4⟩ h5 h6 h7 h8
     subst h2
     rw [nF1 j p h1] at h7
     have hb:=(hrel.new id' ob' b h6 h8).2
     rcases (hp.new j o b h3 h7).1 with q | q
     ·omega
     ·exact notM id' ob' b h5 h6 h8 q
    rcases cases_id id with hi | ⟨h1,h2,h3⟩<;>rcases cases_id id' with hi' | ⟨h1',h2',h3'⟩
    ·obtain ⟨j,p,o,h1,h2,h3,h4⟩:=hi
     obtain ⟨j',p',o',h1',h2',h3',h4'⟩:=hi'
     subst h2;subst h2'
     rw [nF1 j p h1] at hb
     rw [nF1 j' p' h1'] at hb'
     have:=hp.inj j j' o o' b h3 h3' hb hb'
     subst this
     rw [h1] at h1'
     cases h1'
     rfl
    ·rw [h2'] at ho'
     rw [h3'] at hb'
     exact (mixed id id' ob' b hi h1' ho' hb hb').elim
    ·rw [h2] at ho
     rw [h3] at hb
     exact (mixed id' id ob b hi' h1 ho hb' hb).elim
    ·rw [h2] at ho
     rw [h3] at hb
     rw [h2'] at ho'
     rw [h3'] at hb'
     exact hrel.inj id id' ob ob' b ho ho' hb hb'
   ·refine ⟨hp.same.os.trans hrel.same.os,hp.same.tape.trans hrel.same.tape,hp.same.output.trans hrel.same.output,Nat.le_trans hrel.same.size hp.same.size,fun b hb hnm=>?_⟩
    have hsz:=hrel.same.size
    refine (hp.same.block b (by omega) (fun hq=>?_)).trans (hrel.same.block b hb hnm)
    obtain ⟨j',i,ob',p',e1,e2,e3,e4,_⟩:=hM b hq
    rcases (hrel.new i ob' b e2 e4).1 with q | q
    ·omega
    ·exact hnm q
   ·rcases cases_id id with ⟨j,p,o,h1,h2,h3,h4⟩ | ⟨h1,h2,h3⟩
    ·subst h2
     rw [nF1 j p h1]
     rcases entry j p o h1 h3 with he | ⟨c1,⟨i,c2⟩,c3⟩
     ·obtain ⟨l1,s2,l2,l3,l4,l5⟩:=hla _ he
      simp only at l1 l3 l5
      rw [l1] at ho
      cases ho
      unfold YZ at l5
      rw [l3] at l5
      cases hold:look st1.sj p.1 with
      | none=>
        rw [hold] at l5
        simp only [ze,Nat.blt_eq] at l5
        omega
      | some old=>
        rw [hold] at l5
        cases old with
        | clo f y z=>cases l5
        | gone=>
          cases o with
          | gone=>exact hh.elim
          | box=>cases l5
          | arr=>cases l5
          | clo=>cases l5
        | box cs1=>
          cases o with
          | gone=>cases l5
          | arr=>cases l5
          | clo=>cases l5
          | box cs0=>
            cases hj:look σ j with
            | some i=>
              obtain ⟨k1,_⟩:=UW h4 hj
              subst k1
              rw [G1 j p _ p.1 h1 h3 h4 hj trivial]
              exact hrel.given p.1 _ hg hold trivial
            | none=>
              rcases eU h4 hj with ⟨⟨_,_,_,_,_,k1⟩,_⟩ | ⟨_,k1⟩
              ·cases k1
              ·rw [hox2 _ k1] at hold;cases hold
        | arr v1 fz1 e1 t1 xs1=>
          cases o with
          | gone=>exact hh.elim
          | box=>cases l5
          | clo=>cases l5
          | arr v0 fz0 e0 t0 xs0=>
            simp only [eY,Bool.or_eq_true,ze,Z3] at l5
            obtain ⟨hh1,hh2⟩:=hh
            rcases l5 with l5 | l5
            ·have hv:=Jx.1 l5
             subst hv
             cases hj:look σ j with
             | some i=>
               obtain ⟨k1,k2,k3⟩:=UW h4 hj
               obtain ⟨v,fz',xs',k4,k5⟩:=k3 _ _ _ _ _ rfl
               obtain ⟨fz2,k6⟩:=hox1 i _ _ _ _ _ k4
               subst k1
               rw [hold] at k6
               cases k6
               rcases k5 with ⟨k5,k7,_⟩ | k5
               ·subst k7
                rw [G1 j p _ p.1 h1 h3 h4 hj ⟨k5,rfl⟩]
                exact hrel.given p.1 _ hg hold ⟨hh1,hh2⟩
               ·omega
             | none=>
               rcases eU h4 hj with ⟨_,k1⟩ | ⟨k1,_⟩
               ·unfold Va at k1
                split at k1
                ·rename_i hq
                 rw [hox2 _ hq] at hold
                 cases hold
                ·rename_i v2 fz2 e2 t2 xs2 hq
                 obtain ⟨fz3,k6⟩:=hox1 _ _ _ _ _ _ hq
                 rw [hold] at k6
                 cases k6
                 simp only [zd] at k1
                 omega
                ·cases k1
               ·exact absurd rfl (k1 _ _ _ _ _)
            ·exact absurd hh2 (Yi.1 l5.1)
     ·obtain ⟨k1,_⟩:=UW h4 c2
      subst k1
      have hd:oG j o:=by
       cases o with
       | gone=>cases c1
       | clo=>trivial
       | box=>cases c1
       | arr=>cases c1
      rw [G1 j p o p.1 h1 h3 h4 c2 hd]
      rw [c3] at ho
      exact hrel.given p.1 ob hg ho hh
    ·rw [h3]
     rw [h2] at ho
     exact hrel.given id ob hg ho hh
   ·have hres:=hp.res
    unfold MM at hans
    split at hans
    ·rename_i k d1 hs
     rw [hs] at hres
     have hd:d1=d0:=by
      cases d1<;>first | (simp only [zd] at hans;exact hans) | cases hans
     subst hd
     exact PJ hren hres
    ·rename_i hs
     have ones:∀{l:List (Nat×Dv)} {cs:List At} {vs:List Value},hC l=some cs→vs.length=l.length →
      (∀(i:Nat) p u,l[i]?=some p→vs[i]?=some u→Vf w' (Zc w (Bs.of (Zc w0 Z0 nm st1.sj w) (cA nm σ) objsT) nm' pst.sj w') nm' pst.sj p.2 u) →
      Vx w' (Zc w (Bs.of (Zc w0 Z0 nm st1.sj w) (cA nm σ) objsT) nm' pst.sj w') nm' pst.sj cs vs:=by
      intro l
      induction l with
      | nil=>
        intro cs vs h1 h2 _
        simp only [hC,zd] at h1
        subst h1
        have:vs=[]:=zl h2
        subst this
        exact aD
      | cons p l ih=>
        intro cs vs h1 h2 h3
        obtain ⟨k,dk⟩:=p
        cases dk with
        | agg=>simp [hC] at h1
        | tup=>simp [hC] at h1
        | one x=>
          simp only [hC] at h1
          split at h1
          ·rename_i cs' h4
           simp only [zd] at h1
           subst h1
           match vs,h2 with
           | v1::vs,h2=>
             exact Uo (c1:=[x]) (v1:=[v1]) (Yu (h3 0 (k,.one x) v1 rfl rfl)) (ih h4 (by simpa using h2) fun i p u q1 q2=>h3 (i+1) p u (by simpa using q1) (by simpa using q2))
          ·cases h1
     split at hans
     ·rename_i cs hcs
      simp only [zd] at hans
      subst hans
      have hres':∃vs,v=.tuple vs∧vs.toList.length=pst.mj.length ∧ ∀(i:Nat) p u,pst.mj[i]?=some p→vs.toList[i]?=some u→Vf w' (Zc w (Bs.of (Zc w0 Z0 nm st1.sj w) (cA nm σ) objsT) nm' pst.sj w') nm' pst.sj p.2 u:=by
       unfold DN at hres
       split at hres
       ·rename_i p hs2
        exact absurd hs2 (hs p.1 p.2)
       ·exact hres
      obtain ⟨vs,e,r1,r2⟩:=hres'
      exact ⟨vs,e,eK hren (ones hcs r1 r2)⟩
     ·cases hans
  ·cases hk
 ·cases hk
end
end Go.Ql
end

section
namespace Go.Ql
def nD (P:Program) (t:TypeId):Ty→Bool
 | .bool=>(match P.underlying t with | some .bool=>true | _=>false)
 | .int k=>(match P.underlying t with | some (.int k')=>decide (k=k') | _=>false)
 | .str=>(match P.underlying t with | some .string=>true | _=>false)
 | _=>false
def pN (P:Program):List Field→Ty→Nat→Bool
 | [f], t, off => Nat.beq f.offset off && (f.name != "_") && nD P f.type t
 | f :: g :: r, .pair a b, off => Nat.beq f.offset off && (f.name != "_") && nD P f.type a && pN P (g :: r) b (off + 1)
 | _,_,_=>false
def FJ (P:Program) (t:TypeId) (s:Ty):Bool:=match P.underlying t with
 | some (.struct fs)=>!P.stoodInHeld t && !P.eqGuardType P.depth t&&pN P fs.toList s 0
 | _=>false
def CT (P:Program) (tab:List (Nat×TI)):List Nat→Bool
 | []=>true
 | t::r=>(match look tab t with
   | some ⟨.st s,_⟩=>FJ P t s
   | _=>false)&&CT P tab r
abbrev Fr (rd:Option Nat):Fence:={ fn:=fun _=>True,depth:=none,alive:=false,round:=rd }
def RH (P:Program) (gf:Nat) (lb:Array Value) (k:IntKind) (xs:List Int) (Kp:World→World→Prop) (w:World):Prop:=
 ∀(l:Nat) (J:List Int→World→Prop) (W:World),Same w W→(∀pre A B,J pre A→Same A B→J pre B) →
  (∀pre x W1,J pre W1→(∃r,xs=pre++x::r)→YieldAt (Fr none) 0 P l #[.int k x] W1 fun e W'=>e=.returned (.bool true)∧J (pre++[x]) W'∧Kp W1 W') →
  J [] W→CallsIn (Fr none) 0 P gf (#[.func (.yield l) #[] #[]]++lb) W fun e W'=>(∃v,e=.returned v)∧J xs W'
def QI (w:World) (Z:Nat→Prop) (t:Ty) (d:t.den) (v:Value):Prop:=
 ∃b off cs,v=.pointer (some ⟨b,off,none⟩)∧Z b∧kT w Z t cs d ∧ ∀j u,cs[j]?=some u→w.cell? ⟨b,off+j,none⟩=some u
def EY (w:World) (Z:Nat→Prop):(ts:List Ty)→YL ts→List Value→Prop
 | [],_,vs=>vs=[]
 | [t],x,vs=>∃v,vs=[v]∧QI w Z t x v
 | t::t'::ts,x,vs=>∃v r,vs=v::r∧QI w Z t x.1 v∧EY w Z (t'::ts) x.2 r
def RI (P : Program) (f : Nat) (sc : SeqC) : Prop := (∃ fn, P.funcs[f]? = some fn ∧ (fn.name == "runtime.NumGoroutine") = false ∧ fn.body.isNone = false) ∧
 ∀(w:World) (Z:Nat→Prop) (vs:List Value) (x:YL sc.caps),(∀b,Z b→b<w.heap.size)→EY w Z sc.caps x vs →
  RH P f vs.toArray sc.k (sc.L x) (fun A B=>∀b,Z b→B.heap[b]?=A.heap[b]?) w
def sA (P:Program) (tab:List (Nat×TI)) (e:Eqs):Prop:=(∀t,JK t e.l=true → ∀s k,look tab t=some ⟨.st s,k⟩→FJ P t s=true) ∧ ∀f sc,look e.seqs f=some sc→RI P f sc
def BB {P:Program} {tab:List (Nat×TI)}:∀{l:List Nat},CT P tab l=true → ∀t,JK t l=true → ∀s k,look tab t=some ⟨.st s,k⟩→FJ P t s=true
 | [],_,t,h,_,_,_=>by cases h
 | t'::r,hb,t,h,s,k,hl=>by
   simp only [CT,ze] at hb
   simp only [JK,Bool.or_eq_true] at h
   rcases h with h | h
   ·have:=Jx.1 h
    subst this
    have h1:=hb.1
    rw [hl] at h1
    exact h1
   ·exact BB hb.2 t h s k hl
def OX {P:Program} {tab:List (Nat×TI)} {l:List Nat} (h:CT P tab l=true):sA P tab ⟨l,[]⟩:=⟨BB h,fun f sc h=>by cases h⟩
section
variable [GInv] {P:Program} {w:World} {Z Z':Nat→Prop}
def zZ {t:TypeId} {s:Ty} (hb:nD P t s=true) {cx cy:List Value} {x y:s.den} (hx:kT w Z s cx x) (hy:kT w Z' s cy y) (d:Nat) :
 (isAgg t).run P w=.ok false w ∧ ∃u v,cx=[u]∧cy=[v]∧(Op.equalIn (d+1) t u v).run P w=.ok (Ty.eqT s x y) w:=by
 cases s with
 | bool=>
   simp only [nD] at hb
   split at hb
   ·rename_i hu
    exact ⟨by simp [isAgg,run_underlying hu],_,_,hx,hy,run_equalIn_bool' w d t x y hu⟩
   ·cases hb
 | int k=>
   simp only [nD] at hb
   split at hb
   ·rename_i k' hu
    exact ⟨by simp [isAgg,run_underlying hu],_,_,hx,hy,run_equalIn_int w d t k k' x y hu⟩
   ·cases hb
 | str=>
   simp only [nD] at hb
   split at hb
   ·rename_i hu
    refine ⟨by simp [isAgg,run_underlying hu],_,_,hx,hy,?_⟩
    rw [run_equalIn_string w d t _ _ hu]
    have e:∀z:Za,(⟨z.toArray⟩:ByteArray).toList=z:=bO
    rw [e,e]
    rfl
   ·cases hb
 | _=>cases hb
def oA (d:Nat):∀{fs:List Field} {s:Ty} {off:Nat},pN P fs s off=true → ∀{cx cy:List Value} {x y:s.den},kT w Z s cx x→kT w Z' s cy y →
 ∀{xs ys:Array Value},xs.toList.drop off=cx→ys.toList.drop off=cy→(Op.eqFields (d+1) xs ys fs).run P w=.ok (Ty.eqT s x y) w
 | [],s,off,h,cx,cy,x,y,_,_,xs,ys,_,_=>by cases h
 | [f],s,off,h,cx,cy,x,y,hx,hy,xs,ys,ex,ey=>by
   have h : (Nat.beq f.offset off && (f.name != "_") && nD P f.type s) = true := by cases s <;> exact h
   rw [ze,ze] at h
   obtain ⟨⟨h1,h2⟩,h3⟩:=h
   have e1:=Jx.1 h1
   have h2 : ¬ f.name = "_" := by simpa using h2
   obtain ⟨ha,u,v,q1,q2,q3⟩:=zZ h3 hx hy d
   have p1:xs[f.offset]?=some u:=by
    rw [←Array.getElem?_toList,e1,←Nat.add_zero off,←List.getElem?_drop,ex,q1];rfl
   have p2:ys[f.offset]?=some v:=by
    rw [←Array.getElem?_toList,e1,←Nat.add_zero off,←List.getElem?_drop,ey,q2];rfl
   cases hb:Ty.eqT s x y<;>simp [Op.eqFields,h2,Go.part,ha,p1,p2,q3,hb]
 | f::g::r,s,off,h,cx,cy,x,y,hx,hy,xs,ys,ex,ey=>by
   cases s with
   | pair a b=>
     simp only [pN,ze] at h
     obtain ⟨⟨⟨h1,h2⟩,h3⟩,h4⟩:=h
     have e1:=Jx.1 h1
     have h2 : ¬ f.name = "_" := by simpa using h2
     obtain ⟨c1,c2,ecx,hx1,hx2⟩:=hx
     obtain ⟨d1,d2,ecy,hy1,hy2⟩:=hy
     obtain ⟨ha,u,v,q1,q2,q3⟩:=zZ h3 hx1 hy1 d
     have p1:xs[f.offset]?=some u:=by
      rw [←Array.getElem?_toList,e1,←Nat.add_zero off,←List.getElem?_drop,ex,ecx,q1];rfl
     have p2:ys[f.offset]?=some v:=by
      rw [←Array.getElem?_toList,e1,←Nat.add_zero off,←List.getElem?_drop,ey,ecy,q2];rfl
     have ih:=oA d h4 hx2 hy2 (xs:=xs) (ys:=ys) (by rw [←List.drop_drop,ex,ecx,q1];rfl) (by rw [←List.drop_drop,ey,ecy,q2];rfl)
     cases hb:Ty.eqT a x.1 y.1 with
     | false=>simp [Op.eqFields,h2,Go.part,ha,p1,p2,q3,hb,Ty.eqT]
     | true=>
       show (Op.eqFields (d+1) xs ys (f::g::r)).run P w=.ok (Ty.eqT a x.1 y.1&&Ty.eqT b x.2 y.2) w
       rw [hb,Bool.true_and,←ih]
       conv=>lhs;unfold Op.eqFields
       simp [h2,Go.part,ha,p1,p2,q3,hb]
   | _=>cases h
def KA {t:TypeId} {s:Ty} (hb:FJ P t s=true) {cx cy:Array Value} {x y:s.den} (hx:kT w Z s cx.toList x) (hy:kT w Z' s cy.toList y) :
 (Op.equalIn 10000 t (.agg cx) (.agg cy)).run P w=.ok (Ty.eqT s x y) w∧P.eqGuardType P.depth t=false:=by
 unfold FJ at hb
 split at hb
 ·rename_i fs hu
  simp only [ze,Z3] at hb
  obtain ⟨⟨h1,h2⟩,h3⟩:=hb
  have hf:P.fieldsOf t=fs:=by unfold Program.fieldsOf;rw [hu]
  refine ⟨?_,h2⟩
  rw [run_equalIn_struct w 9999 t cx cy (by rw [hf];exact hu) h1,hf]
  exact oA 9998 h3 hx hy rfl rfl
 ·cases hb
end
structure AllOk [GInv] (P:Program) (G:Env):Prop where
 fns:sB P G.fns
 mfns:nU P G.mfns
 eqs:sA P G.tab G.eqs
 alts:nT P G.alts
section
variable [GInv] {P:Program} {G:Env} {n:Nat} {w0 w w':World} {Z0:Bs} {Z Z':Nat→Prop} {st st1 st':St} {a:Act} {nm nm':JY} {o:Oper} {dst:Nat} {ρ:Type} {k:Eff→Option ρ} {r:ρ}
def InjR.nil:InjR []:=fun j j' i h=>by simp [look] at h
def IW {sh:Sj} (h:cN sh.sj=true) {x:jq sh.tys}:∀j obT,look (sh.inj x).sj j=some obT→obT ≠ .gone:=by
 have one:∀(s:SO),(match s with
  | .gone=>false
  | _=>true)=true → ∀d:jq s.tys,s.inj d ≠ .gone:=by
  intro s hs d hg
  cases s with
  | gone=>cases hs
  | box ss=>cases hg
  | arr v f e t=>cases hg
  | clo f a b=>cases hg
 have key:∀(l:List (Nat×SO)) (d:jq (SP.tys l)),cN l=true → ∀j obT,look (SP.inj l d) j=some obT→obT ≠ .gone:=by
  intro l
  induction l with
  | nil=>intro d _ j obT ho;simp [SP.inj_nil,look] at ho
  | cons p l ih=>
    intro d hc j obT ho
    unfold cN at hc
    rw [List.all_cons,ze] at hc
    have e:SP.inj (p::l) d=(p.1,p.2.inj (NW _ _ d))::SP.inj l (bK _ _ d):=rfl
    rw [e] at ho
    simp only [look] at ho
    cases hb:Nat.beq p.1 j with
    | true=>
      rw [hb] at ho
      simp only [zj,zd] at ho
      subst ho
      exact one p.2 hc.1 _
    | false=>
      rw [hb] at ho
      exact ih _ hc.2 j obT ho
 exact key sh.sj _ h
def GJ (h:Rel n w0 Z0 st a w nm) {sh:Sj} {ds:List Dv} {vs:List Value} (l1:vs.length=ds.length)
 (l2:∀(i:Nat) d v,ds[i]?=some d→vs[i]?=some v→Vf w (Zc w0 Z0 nm st.sj w) nm st.sj d v)
 {x:jq sh.tys} {u:kY} {σ:Ren} (hb:UH (look st.sj) [] sh ds=some (x,u,σ)) {st1:St} (hl:kO st u=some st1) (hcalm:cN sh.sj=true) :
 Rel n w0 Z0 st1 a w nm∧Fz st st1∧InjR σ∧(∀j obT,look (sh.inj x).sj j=some obT → ∃i ob,look σ j=some i∧look st1.sj i=some ob∧ob.mine=true) ∧
  Pre w (Zc w0 Z0 nm st1.sj w) (cA nm σ) (sh.inj x) vs:=by
 obtain ⟨_,_,hi,l3,hall⟩:=sL h hb InjR.nil
 obtain ⟨hrel,hfz,m',hrd⟩:=hall st1 hl
 have hng:∀j obT,look (sh.inj x).sj j=some obT→obT ≠ .gone:=IW hcalm
 have m:∀j obT,look (sh.inj x).sj j=some obT → ∃i ob,look σ j=some i∧look st1.sj i=some ob∧look st.sj i=some ob∧ob.mine=true∧obT.mine=true:=fun j obT ho=>by
  obtain ⟨i,ob,p1,p2,p3,p4,p5,_⟩:=m' j obT ho
  exact ⟨i,ob,p1,p2,p3,p4 (hng j obT ho),p5 (hng j obT ho)⟩
 have hown:∀b,bT (cA nm σ) (sh.inj x).sj b→bT nm st1.sj b:=by
  rintro b ⟨j,obT,h1,h2,h3⟩
  obtain ⟨i,ob,q1,q2,_,q3,_⟩:=m j obT h1
  rw [UI q1] at h3
  exact ⟨i,ob,q2,q3,h3⟩
 obtain ⟨r1,r2⟩:=hrd (Zc w (Bs.of (Zc w0 Z0 nm st1.sj w) (cA nm σ) (sh.inj x).sj) (cA nm σ) (sh.inj x).sj w) (fun b hb=>⟨hb.1,fun _=>.inl hb,fun hh=>hb.2.2 (hown b hh)⟩)
 have hsl:(sh.inj x).mj.length=sh.mj.length:=by
  show (SS.inj sh.mj _).length=_
  have:∀(l:List (Nat×SD)) (y:jq (SS.tys l)),(SS.inj l y).length=l.length:=by
   intro l
   induction l with
   | nil=>intro y;rfl
   | cons p l ih=>intro y;simp [SS.inj_cons,ih]
  exact this _ _
 refine ⟨hrel,hfz,hi,fun j obT ho=>?_,by rw [hsl,←l3];exact l1,fun i p v q1 q2=>r2 vs l1 l2 i p v q1 q2,r1,fun j obT b ho hb=>?_,fun j j' obT obT' b ho ho' hb hb'=>?_,fun b hb=>hb.1,fun j obT ho=>?_,hrel.gnow,fun b hb=>?_⟩
 ·obtain ⟨i,ob,q1,q2,_,q3,_⟩:=m j obT ho
  exact ⟨i,ob,q1,q2,q3⟩
 ·obtain ⟨i,ob,q1,q2,_⟩:=m j obT ho
  rw [UI q1] at hb
  exact (hrel.new i ob b q2 hb).2
 ·obtain ⟨i,ob,q1,q2,_⟩:=m j obT ho
  obtain ⟨i',ob',q1',q2',_⟩:=m j' obT' ho'
  rw [UI q1] at hb
  rw [UI q1'] at hb'
  have:=hrel.inj i i' ob ob' b q2 q2' hb hb'
  subst this
  exact hi j j' i q1 q1'
 ·obtain ⟨i,ob,_,_,_,_,q⟩:=m j obT ho
  exact q
 ·obtain ⟨i,ob,q1,q2,q3⟩:=hown b hb
  rcases (hrel.new i ob b q1 q3).1 with q | q
  ·exact Nat.le_trans (GInv.size hrel.glob.1) q
  ·exact hrel.glob.2 b q
def DA (h:Rel n w0 Z0 st a w nm) {f:Nat} {mc:xj} (hmc:MOk P f mc) {ds:List Dv} {vs:List Value} (l1:vs.length=ds.length)
 (l2:∀(i:Nat) d v,ds[i]?=some d→vs[i]?=some v→Vf w (Zc w0 Z0 nm st.sj w) nm st.sj d v)
 (hrun : ∀ fn, P.funcs[f]? = some fn → (fn.name == "runtime.NumGoroutine") = false → fn.body.isNone = false → (execOp a.eval o).run P w = .ok (.enter f vs.toArray) w)
 {x:jq mc.pre.tys} {u:kY} {σ:Ren} (hb:UH (look st.sj) [] mc.pre ds=some (x,u,σ)) {y:jq mc.post.tys} (hF:mc.F x=some y) {d:Dv} {v:kY}
 (hk:aV (look st.sj) dst σ (mc.post.inj y)=some (d,v)) (hcalm:cN mc.pre.sj=true):Good P n w0 Z0 st a w o ⟨d,u++v⟩:=by
 intro st' hlay
 obtain ⟨st1,hl1,hl2⟩:=cO u hlay
 obtain ⟨hrel,hfz,hi,hm,hpre⟩:=GJ h l1 l2 hb hl1 hcalm
 obtain ⟨⟨fn,f1,f2,f3⟩,hcalls⟩:=hmc
 refine Does.of_call (hrun fn f1 f2 f3) ?_
 refine Calls.mono (hcalls w _ _ vs x y hpre hF) ?_
 rintro e w' ⟨v',nm',he,hpost⟩
 refine ⟨v',he,?_⟩
 refine M1 hrel (obx:=look st.sj) (fun i v fz e t xs ho=>?_) (fun i ho=>?_) hm hpost hk hl2
 ·rcases hfz.sj i with q | ⟨v2,fz2,e2,t2,xs2,q1,q2⟩
  ·exact ⟨fz,q.trans ho⟩
  ·rw [ho] at q1;cases q1;exact ⟨true,q2⟩
 ·rcases hfz.sj i with q | ⟨v2,fz2,e2,t2,xs2,q1,q2⟩
  ·exact q.trans ho
  ·rw [ho] at q1;cases q1
def rH (h:Rel n w0 Z0 st a w nm) {f:Nat} {ma:MAlt} (hma:uj P f ma) (hcalm:cN ma.pre.sj=true) {ds:List Dv} {vs:List Value} (l1:vs.length=ds.length)
 (l2:∀(i:Nat) d v,ds[i]?=some d→vs[i]?=some v→Vf w (Zc w0 Z0 nm st.sj w) nm st.sj d v)
 (hrun : ∀ fn, P.funcs[f]? = some fn → (fn.name == "runtime.NumGoroutine") = false → fn.body.isNone = false → (execOp a.eval o).run P w = .ok (.enter f vs.toArray) w)
 {x:jq ma.pre.tys} {u:kY} {σ:Ren} (hb:UH (look st.sj) [] ma.pre ds=some (x,u,σ)) {y:jq ma.post.tys⊕jq ma.post2.tys} (hF:ma.F x=some y) {d:Dv} {v:kY}
 (hk:aV (look st.sj) dst σ (match y with | .inl y=>ma.post.inj y | .inr y=>ma.post2.inj y)=some (d,v)) {st':St} (hlay:kO st (u++v)=some st') {K:Act→World→Prop} {Q:Exit→Act→World→Prop}
 (hK:∀v w' nm',Rel n w0 Z0 st' a w' nm'→Vf w' (Zc w0 Z0 nm' st'.sj w') nm' st'.sj d v→match y with
  | .inl _=>K (a.put o.dst v) w'
  | .inr _=>bif ma.pan then Q (.panic [{ v,recovered:=false }]) a w' else K (a.put o.dst v) w'):o.wp P a w K Q:=by
 obtain ⟨st1,hl1,hl2⟩:=cO u hlay
 obtain ⟨hrel,hfz,hi,hm,hpre⟩:=GJ h l1 l2 hb hl1 hcalm
 obtain ⟨⟨fn,f1,f2,f3⟩,hcalls⟩:=hma
 unfold Oper.wp
 rw [hrun fn f1 f2 f3]
 have back:∀{w':World} {v':Value} {nm':JY} {sp:St},Post w w' (Bs.of (Zc w0 Z0 nm st1.sj w) (cA nm σ) (ma.pre.inj x).sj) nm' sp v'→aV (look st.sj) dst σ sp=some (d,v) → ∃nm2,Rel n w0 Z0 st' a w' nm2∧Vf w' (Zc w0 Z0 nm2 st'.sj w') nm2 st'.sj d v':=by
  intro w' v' nm' sp hpost hk
  refine M1 hrel (obx:=look st.sj) (fun i v fz e t xs ho=>?_) (fun i ho=>?_) hm hpost hk hl2
  ·rcases hfz.sj i with q | ⟨v2,fz2,e2,t2,xs2,q1,q2⟩
   ·exact ⟨fz,q.trans ho⟩
   ·rw [ho] at q1;cases q1;exact ⟨true,q2⟩
  ·rcases hfz.sj i with q | ⟨v2,fz2,e2,t2,xs2,q1,q2⟩
   ·exact q.trans ho
   ·rw [ho] at q1;cases q1
 show Calls P f vs.toArray w _
 refine Calls.mono (hcalls w _ _ vs x y hpre hF) ?_
 rintro e w' ⟨v',nm',hp⟩
 cases y with
 | inl y=>
   obtain ⟨he,hpost⟩:=hp
   subst he
   obtain ⟨nm2,q1,q2⟩:=back hpost hk
   exact hK v' w' nm2 q1 q2
 | inr y=>
   obtain ⟨he,hpost⟩:=hp
   obtain ⟨nm2,q1,q2⟩:=back hpost hk
   have:=hK v' w' nm2 q1 q2
   subst he
   cases hpn:ma.pan with
   | true=>rw [hpn] at this;exact this
   | false=>rw [hpn] at this;exact this
def Rel.thrown (h:Rel n w0 Z0 st a w nm) {x:At} {v:Value} (hx:UE w (Zc w0 Z0 nm st.sj w) nm st.sj x v) {st':St} (ht:Go.Ql.thrown st x=some st') :
 Rel n w0 Z0 st' a w (VG nm Vu (.func (.func 0) #[] #[v])):=by
 unfold Go.Ql.thrown at ht
 cases hc:YZ st Vu (.clo 0 [] [x]) && !x.fj Vu with
 | false=>rw [hc] at ht;cases ht
 | true=>
   rw [hc] at ht
   simp only [zj,zd] at ht
   subst ht
   simp only [ze,Z3] at hc
   have hno:look st.sj Vu=none:=by
    cases hl:look st.sj Vu with
    | none=>rfl
    | some ob=>have:=hc.1;unfold YZ at this;rw [hl] at this;cases ob<;>cases this
   refine Rel.upd h Vu _ _ hc.1 (by rw [hno];trivial) ⟨rfl,rfl,rfl,zx _⟩ (fun b _=>.inr rfl) (fun b hb=>by cases hb) ?_
   refine ⟨#[],#[v],kW _ _ _,aD,?_⟩
   have hk:Kept w w (Zc w0 Z0 nm st.sj w) (Zc w0 Z0 (VG nm Vu (.func (.func 0) #[] #[v])) (YE Vu (.clo 0 [] [x]) st.sj) w):=by
    rintro b ⟨h1,h2,h3⟩
    refine ⟨⟨h1,h2,?_⟩,rfl⟩
    rintro ⟨j,ob,hj,hm,hb⟩
    by_cases he:Vu=j
    ·subst he
     rw [kW] at hb
     cases hb
    ·rw [ke,if_neg he] at hj
     rw [VU _ _ (Ne.symm he)] at hb
     exact h3 ⟨j,ob,hj,hm,hb⟩
   refine ⟨rfl,fun i a u h1 h2=>?_⟩
   cases i with
   | succ i=>simp at h1
   | zero=>
     simp only [List.getElem?_cons_zero,zd] at h1
     subst h1
     have h2:some v=some u:=h2
     cases h2
     exact m6 hk (NU hc.1 (by rw [hno];trivial) (fun _=>hc.2) (fun v _=>oF hc.2)) hx
def I5 {c:Call} {x:Operand} (hF:AllOk P G) (ho:o.op=.call c) (hc:c.callee=.value x):Uq P G o:=by
 intro hT n w0 w Z0 st a nm dst ρ k r h he
 unfold Jq at he
 rw [ho] at he
 simp only [hc] at he
 split at he
 ·rename_i f fs cs as h1 h2
  obtain ⟨vs,l1,l2,hrun⟩:=sN (P:=P) h ho hc h1 h2
  split at he
  ·rename_i ce hce
   split at he
   ·rename_i xs u hxs
    obtain ⟨res,hres,he⟩:=ki he
    exact ⟨_,he,GL h (hF.fns f ce hce) l1 l2 hrun hxs hres⟩
   ·cases he
  ·unfold oM at he
   split at he
   ·rename_i mc hmc
    cases hb:(Nat.beq mc.fn f&&cN mc.pre.sj) with
    | false=>rw [hb] at he;cases he
    | true=>
      rw [hb] at he
      rw [ze] at hb
      obtain ⟨hb,hcalm⟩:=hb
      have:=Jx.1 hb
      subst this
      simp only [zj] at he
      have hok:MOk P mc.fn mc:=by
       unfold uM at hmc
       split at hmc
       ·rename_i mc' h3
        cases hb2:Nat.beq mc'.fn mc.fn with
        | true=>rw [hb2] at hmc;simp only [zj,zd] at hmc;subst hmc;exact hF.mfns _ _ h3
        | false=>rw [hb2] at hmc;exact hF.mfns _ _ hmc
       ·exact hF.mfns _ _ hmc
      split at he
      ·rename_i x1 u σ hbi
       obtain ⟨y,hy,he⟩:=ki he
       split at he
       ·rename_i d v hk
        exact ⟨_,he,DA h hok l1 l2 hrun hbi hy hk hcalm⟩
       ·cases he
      ·cases he
   ·cases he
 ·cases he
def rT {id:Nat}:∀{ds:List Dv} {cs:List At},bS ds=some cs→(∀d∈ds,d.fj id=false) → ∀x∈cs,x.fj id=false
 | [],cs,h,_,x,hx=>by simp only [bS,zd] at h;subst h;cases hx
 | .one y::ds,cs,h,hn,x,hx=>by
   simp only [bS] at h
   split at h
   ·rename_i l h1
    simp only [zd] at h
    subst h
    rcases Z5.1 hx with rfl | hx
    ·exact hn (.one x) (by simp)
    ·exact rT h1 (fun d hd=>hn d (zz _ hd)) x hx
   ·cases h
 | .agg _::_,_,h,_,_,_=>by simp [bS] at h
 | .tup _::_,_,h,_,_,_=>by simp [bS] at h
def rO {id:Nat} (hf:st.free id=true):∀{l:List Operand} {ds:List Dv},NV (kS st) l=some ds → ∀d∈ds,d.fj id=false
 | [],ds,h,d,hd=>by simp only [NV,zd] at h;subst h;cases hd
 | x::l,ds,h,d,hd=>by
   simp only [NV] at h
   split at h
   ·rename_i y l' h1 h2
    simp only [zd] at h
    subst h
    rcases Z5.1 hd with rfl | hd
    ·exact MT hf h1
    ·exact rO hf h2 d hd
   ·cases h
def x9 {fn:Fn} {first caps:Array Operand} (ho:o.op=.makeFunc fn first caps):Uq P G o:=by
 intro hT n w0 w Z0 st a nm dst ρ k r h he
 unfold Jq at he
 rw [ho] at he
 cases fn with
 | func f=>
   simp only at he
   split at he
   ·rename_i fs cs h1 h2
    split at he
    ·rename_i x y h3 h4
     obtain ⟨l1,l2⟩:=mJ h h1
     obtain ⟨l3,l4⟩:=mJ h h2
     have r1:=rU (w:=w) (Z:=Zc w0 Z0 nm st.sj w) (nm:=nm) (sj:=st.sj) (vs:=first.toList.map a.eval) h3 (by simp [l1]) l2
     have r2:=rU (w:=w) (Z:=Zc w0 Z0 nm st.sj w) (nm:=nm) (sj:=st.sj) (vs:=caps.toList.map a.eval) h4 (by simp [l3]) l4
     have hrun:(execOp a.eval o).run P w=.ok (.value (.func (.func f) (first.map a.eval) (caps.map a.eval))) w:=by
      simp [execOp,ho,Instr.makeFunc]
     cases hn:(pW x&&pW y) with
     | true=>
       rw [hn] at he
       rw [ze] at hn
       have hx:x=[]:=by cases x with | nil=>rfl | cons p q=>cases hn.1
       have hy:y=[]:=by cases y with | nil=>rfl | cons p q=>cases hn.2
       subst hx;subst hy
       have e1:first.map a.eval=#[]:=by
        have:=r1.1
        simp only [List.length_map,zh] at this
        apply Array.ext'
        simp [zl this]
       have e2:caps.map a.eval=#[]:=by
        have:=r2.1
        simp only [List.length_map,zh] at this
        apply Array.ext'
        simp [zl this]
       rw [e1,e2] at hrun
       exact ⟨_,he,Good.pure h hrun rfl⟩
     | false=>
       rw [hn] at he
       simp only [zk] at he
       split at he
       ·rename_i hno
        refine ⟨_,he,fun st' hl=>?_⟩
        obtain ⟨hmay,rfl⟩:=NY hl
        have hfree:st.free dst=true:=by unfold YZ at hmay;rw [hno] at hmay;simp only [ze] at hmay;exact hmay.2
        refine Does.of_run hrun ⟨VG nm dst (.func (.func f) (first.map a.eval) (caps.map a.eval)),?_,⟨rfl,fun _ _ _ _=>(kW _ _ _).symm⟩⟩
        have hk:Kept w w (Zc w0 Z0 nm st.sj w) (Zc w0 Z0 (VG nm dst (.func (.func f) (first.map a.eval) (caps.map a.eval))) (YE dst (.clo f x y) st.sj) w):=by
         rintro b ⟨z1,z2,z3⟩
         refine ⟨⟨z1,z2,?_⟩,rfl⟩
         rintro ⟨j,ob,y1,y2,y3⟩
         by_cases hj:dst=j
         ·subst hj
          rw [kW] at y3
          cases y3
         ·rw [ke,if_neg hj] at y1
          rw [VU _ _ (Ne.symm hj)] at y3
          exact z3 ⟨j,ob,y1,y2,y3⟩
        have hat:∀cs:List At,(∀q∈cs,q.fj dst=false) → ∀q∈cs,AtOk nm (VG nm dst (.func (.func f) (first.map a.eval) (caps.map a.eval))) st.sj (YE dst (.clo f x y) st.sj) q:=by
         intro cs hcs q hq
         exact NU hmay (by rw [hno];trivial) (fun _=>hcs q hq) (fun v _=>oF (hcs q hq))
        refine h.upd dst _ _ hmay (by rw [hno];trivial) ⟨rfl,rfl,rfl,zx _⟩ (fun _ _=>.inr rfl) (fun b hb=>by cases hb) ⟨_,_,kW _ _ _,?_,?_⟩
        ·rw [Array.toList_map]
         exact Hz hk (hat x (rT h3 (rO hfree h1))) r1
        ·rw [Array.toList_map]
         exact Hz hk (hat y (rT h4 (rO hfree h2))) r2
       ·cases he
    ·cases he
   ·cases he
 | _=>cases he
def yA {x:Operand} (ho:o.op=.nilCheck x):Uq P G o:=by
 intro hT n w0 w Z0 st a nm dst ρ k r h he
 unfold Jq at he
 rw [ho] at he
 simp only at he
 have hp:∀ad,a.eval x=.pointer (some ad)→(execOp a.eval o).run P w=.ok (.value (a.eval x)) w:=by
  intro ad hv
  simp [execOp,ho,hv]
 have hf:∀f vx vy,a.eval x=.func (.func f) vx vy→(execOp a.eval o).run P w=.ok (.value (a.eval x)) w:=by
  intro f vx vy hv
  simp [execOp,ho,hv]
 split at he
 ·rename_i id off hx
  split at he
  ·rename_i cs hob
   have hv:=Yd h hx
   obtain ⟨b,_,e⟩:=hv.2 cs hob
   exact ⟨_,he,Good.pure h (hp _ e) (Yd h hx)⟩
  ·cases he
 ·rename_i t d hx
  obtain ⟨b,off,cs,e,_⟩:=Yd h hx
  exact ⟨_,he,Good.pure h (hp _ e) (Yd h hx)⟩
 ·rename_i id ver hx
  split at he
  ·rename_i v fz e t xs hob
   cases hc:Nat.beq v ver with
   | false=>rw [hc] at he;cases he
   | true=>
     rw [hc] at he
     have:=Jx.1 hc
     subst this
     have hv:=Yd h hx
     obtain ⟨b,_,_,_,e⟩:=hv.2 _ _ _ _ hob
     exact ⟨_,he,Good.pure h (hp _ e) (Yd h hx)⟩
  ·cases he
 ·rename_i id ver i sz off hx
  split at he
  ·rename_i v fz e t xs hob
   cases hc:Nat.beq v ver with
   | false=>rw [hc] at he;cases he
   | true=>
     rw [hc] at he
     have:=Jx.1 hc
     subst this
     have hv:=Yd h hx
     obtain ⟨_,_,_,b,_,_,_,e⟩:=hv.2 _ _ _ _ hob
     exact ⟨_,he,Good.pure h (hp _ e) (Yd h hx)⟩
  ·cases he
 ·rename_i f hx
  have hv:=Yd h hx
  exact ⟨_,he,Good.pure h (hf _ _ _ hv) hv⟩
 ·rename_i id hx
  split at he
  ·rename_i f p q hob
   have hv:=Yd h hx
   have e1:=hv.2 f p q hob
   obtain ⟨vx,vy,e2,_⟩:=h.sj id _ hob
   exact ⟨_,he,Good.pure h (hf _ _ _ (e1.trans e2)) hv⟩
  ·cases he
 ·cases he
def FC (hE:sA P G.tab G.eqs) {op:BinOp} {xt yt:TypeId} {x y:Operand} (ho:o.op=.binOp op xt x y yt):Uq P G o:=by
 intro hT n w0 w Z0 st a nm dst ρ k r h he
 unfold Jq at he
 rw [ho] at he
 simp only at he
 split at he
 ·rename_i d1 d2 h1 h2
  split at he
  ·
   rename_i j m l q
   have e1:=aJ h h1
   have e2:=aJ h h2
   have hg:(eqGuard op xt x y (a.eval x) (a.eval y)).run P w=.ok () w:=eM (by rw [e1];simp)
   rw [e1,e2] at hg
   have hx:∀v:Value,(binOp op xt (.int j m) (.int l q)).run P w=.ok v w→(execOp a.eval o).run P w=.ok (.value v) w:=by
    intro v hv
    simp only [execOp,ho]
    simp [hg,e1,e2,hv]
   have shl:∀hop:(op=.shl∨op=.shr),z7 op j m q (fun d=>k ⟨d,[]⟩)=some r → ∃e,k e=some r∧Good P n w0 Z0 st a w o e:=by
    intro hop hs
    rcases hop with rfl | rfl
    ·simp only [z7] at hs
     obtain ⟨_,hb,hs⟩:=ki hs
     have hb:=zw (Ua hb)
     exact ⟨_,hs,Good.pure h (hx _ (by simp [binOp,Op.shift,Int.not_lt.2 hb])) (aX ..)⟩
    ·simp only [z7] at hs
     obtain ⟨_,hb,hs⟩:=ki hs
     have hb:=zw (Ua hb)
     exact ⟨_,hs,Good.pure h (hx _ (by simp [binOp,Op.shift,Int.not_lt.2 hb])) (aX ..)⟩
   have arith:op ≠ .shl→op ≠ .shr→(bif decide (j=l) then rL op j m q (fun d=>k ⟨d,[]⟩) else none)=some r → ∃e,k e=some r∧Good P n w0 Z0 st a w o e:=by
    intro n1 n2 hs
    by_cases hjl:j=l
    ·subst hjl
     simp only [decide_true,zj] at hs
     obtain ⟨d,v,q1,q2,q3⟩:=IP (P:=P) (w:=w) (xt:=xt) n1 n2 hs
     exact ⟨_,q1,Good.pure h (hx _ q2) (q3 _ _ _)⟩
    ·simp [hjl] at hs
   cases op<;>first | exact shl (.inl rfl) he | exact shl (.inr rfl) he | exact arith (by simp) (by simp) he
  ·
   rename_i s t
   have e1:=gY h h1
   have e2:=gY h h2
   have hg:(eqGuard op xt x y (a.eval x) (a.eval y)).run P w=.ok () w:=eM (by rw [e1];simp)
   rw [e1,e2] at hg
   have hx:∀v:Value,(binOp op xt (.string ⟨s.toArray⟩) (.string ⟨t.toArray⟩)).run P w=.ok v w→(execOp a.eval o).run P w=.ok (.value v) w:=by
    intro v hv
    simp only [execOp,ho]
    simp [hg,e1,e2,hv]
   obtain ⟨d,v,q1,q2,q3⟩:=IQ (P:=P) (w:=w) (xt:=xt) he
   exact ⟨_,q1,Good.pure h (hx _ q2) (q3 _ _ _)⟩
  ·
   rename_i s t
   have e1:=lW h h1
   have e2:=lW h h2
   split at he
   ·rename_i htab
    have hk:=(hT _ _ htab).kind
    have hu:P.underlying xt=some .bool:=by
     rcases hk with ⟨_,h1⟩ | ⟨q,h1,_⟩ | ⟨h1,_⟩
     ·exact h1
     ·cases h1
     ·cases h1
    have hg:(eqGuard op xt x y (a.eval x) (a.eval y)).run P w=.ok () w:=eM (by rw [e1];simp)
    rw [e1,e2] at hg
    have hq:(Op.equal xt (.bool s) (.bool t)).run P w=.ok (s==t) w:=rX 9999 hu s t
    cases op<;>simp only at he
    case eql=>exact ⟨_,he,Good.pure h (v:=.bool (s==t)) (by simp only [execOp,ho];simp [hg,e1,e2,binOp,hq]) (Ug ..)⟩
    case neq=>exact ⟨_,he,Good.pure h (v:=.bool (!(s==t))) (by simp only [execOp,ho];simp [hg,e1,e2,binOp,hq]) (Ug ..)⟩
    all_goals cases he
   ·cases he
  ·
   have e1:a.eval x=.nilIface:=by
    have:=Yd h h1
    have this:[a.eval x]=[Hl 1]:=this
    exact (List.cons.inj this).1
   unfold lP at he
   split at he
   ·rename_i htab
    obtain ⟨kk,q1,_,q2⟩:=(hT _ _ htab).kind
    cases q1
    obtain ⟨ms,hu⟩:=q2 rfl
    have e2:a.eval (.const .nilIface)=.nilIface:=rfl
    have hg:(eqGuard op xt x (.const .nilIface) .nilIface .nilIface).run P w=.ok () w:=dU (by simp)
    have hq:(Op.equal xt .nilIface .nilIface).run P w=.ok true w:=lD 9999 hu
    cases op<;>simp only at he
    case eql=>exact ⟨_,he,Good.pure h (v:=.bool true) (by simp only [execOp,ho];simp [hg,e1,e2,binOp,hq]) (Ug ..)⟩
    case neq=>exact ⟨_,he,Good.pure h (v:=.bool (!true)) (by simp only [execOp,ho];simp [hg,e1,e2,binOp,hq]) (Ug ..)⟩
    all_goals cases he
   ·cases he
  ·
   obtain ⟨v,e,hd⟩:=Yd h h1
   replace e:a.eval x=v:=(List.cons.inj e).1
   unfold lP at he
   split at he
   ·rename_i htab
    obtain ⟨kk,q1,_,q2⟩:=(hT _ _ htab).kind
    cases q1
    obtain ⟨ms,hu⟩:=q2 rfl
    have e2:a.eval (.const .nilIface)=.nilIface:=rfl
    rcases hd with ⟨rfl,T,u,rfl⟩ | ⟨rfl,rfl⟩
    ·have e1:a.eval x=.iface T u:=e
     have hg:(eqGuard op xt x (.const .nilIface) (.iface T u) .nilIface).run P w=.ok () w:=dU (by simp)
     have hq:(Op.equal xt (.iface T u) .nilIface).run P w=.ok false w:=uS 9999 hu T u
     cases op<;>simp only at he
     case eql=>exact ⟨_,he,Good.pure h (v:=.bool false) (by simp only [execOp,ho];simp [hg,e1,e2,binOp,hq]) (Ug ..)⟩
     case neq=>exact ⟨_,he,Good.pure h (v:=.bool (!false)) (by simp only [execOp,ho];simp [hg,e1,e2,binOp,hq]) (Ug ..)⟩
     all_goals cases he
    ·have e1:a.eval x=.nilIface:=e
     have hg:(eqGuard op xt x (.const .nilIface) .nilIface .nilIface).run P w=.ok () w:=dU (by simp)
     have hq:(Op.equal xt .nilIface .nilIface).run P w=.ok true w:=lD 9999 hu
     cases op<;>simp only at he
     case eql=>exact ⟨_,he,Good.pure h (v:=.bool true) (by simp only [execOp,ho];simp [hg,e1,e2,binOp,hq]) (Ug ..)⟩
     case neq=>exact ⟨_,he,Good.pure h (v:=.bool (!true)) (by simp only [execOp,ho];simp [hg,e1,e2,binOp,hq]) (Ug ..)⟩
     all_goals cases he
   ·cases he
  ·
   have e1:a.eval x=.slice none 0 0:=Yd h h1
   have e2:a.eval y=.slice none 0 0:=Yd h h2
   split at he
   ·rename_i htab
    obtain ⟨hu,_⟩:=aM hT htab
    cases op<;>simp only at he
    case eql=>exact ⟨_,he,Good.pure h (v:=.bool true) (by simp [execOp,ho,e1,e2,eqGuard,binOp,run_equal_slice_nil w xt _ none 0 0 hu]) (Ug ..)⟩
    case neq=>exact ⟨_,he,Good.pure h (v:=.bool false) (by simp [execOp,ho,e1,e2,eqGuard,binOp,run_equal_slice_nil w xt _ none 0 0 hu]) (Ug ..)⟩
    all_goals cases he
   ·cases he
  ·
   cases hm:JK xt G.eqs.l with
   | false=>rw [hm] at he;cases he
   | true=>
   rw [hm] at he
   simp only [zj] at he
   split at he
   ·rename_i s kk htab
    split at he
    ·rename_i x1 y1 q1 q2
     have hq:=hE.1 xt hm s kk htab
     obtain ⟨f1,g1⟩:=aI (n:=n) (w0:=w0) (w:=w) (Z0:=Z0) (a:=a) (nm:=nm) q1
     obtain ⟨f2,g2⟩:=aI (n:=n) (w0:=w0) (w:=w) (Z0:=Z0) (a:=a) (nm:=nm) q2
     have hfr:Frozen n w0 Z0 st st a w nm []:=⟨Fz.refl _,h,fun p hp=>by cases hp⟩
     obtain ⟨cx,ex,hx⟩:=g1 st hfr _ (Yd h h1)
     obtain ⟨cy,ey,hy⟩:=g2 st hfr _ (Yd h h2)
     obtain ⟨r1,r2⟩:=KA hq hx hy
     have hg:(eqGuard op xt x y (.agg cx) (.agg cy)).run P w=.ok () w:=run_eqGuard_agg w op xt x y cx cy r2
     cases op<;>simp only at he
     case eql=>exact ⟨_,he,Good.pure h (v:=.bool (Ty.eqT s x1 y1)) (by simp only [execOp,ho];simp [hg,ex,ey,run_eql_struct,r1]) (Ug ..)⟩
     case neq=>exact ⟨_,he,Good.pure h (v:=.bool (!Ty.eqT s x1 y1)) (by simp only [execOp,ho];simp [hg,ex,ey,run_neq_struct,r1]) (Ug ..)⟩
     all_goals cases he
    ·cases he
   ·cases he
 ·cases he
end
end Go.Ql
end

section
namespace Go.Ql
section
variable [GInv] {P:Program} {G:Env} {n:Nat} {w0 w w':World} {Z0:Bs} {Z Z':Nat→Prop} {st st1:St} {a:Act} {nm:JY} {o:Oper} {dst:Nat} {ρ:Type} {k:Eff→Option ρ} {r:ρ}
def yJ (off:Nat):∀(vs:List Value) (j:Nat) (cells:Array Value),off+j+vs.length≤cells.size →
 (vs.zipIdx j).foldl (fun (cs:Array Value) (x:Value×Nat)=>cs.setIfInBounds (off+x.2) x.1) cells=(cells.toList.take (off+j)++vs++cells.toList.drop (off+j+vs.length)).toArray
 | [],j,cells,_=>by
   apply Array.ext'
   simp
 | v::vs,j,cells,h=>by
   simp only [zg] at h
   rw [List.zipIdx_cons,List.foldl_cons,yJ off vs (j+1) _ (by simp;omega)]
   apply Array.ext'
   have hlt:off+j<cells.toList.length:=by simp;omega
   simp only [Array.toList_setIfInBounds,List.toList_toArray,zg]
   rw [←Nat.add_assoc,List.take_add_one,List.take_set_of_le (zx _),List.getElem?_set_self hlt,List.drop_set_of_lt (by omega)]
   simp only [Option.toList_some,zq,List.singleton_append,List.cons_append,List.nil_append]
   rw [show off+j+1+vs.length=off+j+(vs.length+1) by omega]
def FV (off:Nat) (vs cells:Array Value) (h:off+vs.size≤cells.size) :
 vs.zipIdx.foldl (fun (cs:Array Value) (x:Value×Nat)=>cs.setIfInBounds (off+x.2) x.1) cells=(cells.toList.take off++vs.toList++cells.toList.drop (off+vs.size)).toArray:=by
 rw [←Array.foldl_toList,Array.toList_zipIdx]
 have:=yJ off vs.toList 0 cells (by simpa using h)
 simpa using this
def iS {place:Nat→Option (Nat×Nat)} {cells:Array Value} {i off size:Nat} {v:Value} {rest:List (Nat×Value)} (hp:place i=some (off,size)) (hs:v.cells.size=size) (hf:off+v.cells.size≤cells.size) :
 Instr.fill place cells ((i,v)::rest)=Instr.fill place (cells.toList.take off++v.cells.toList++cells.toList.drop (off+v.cells.size)).toArray rest:=by
 have h1:(v.cells.size≠size||off+v.cells.size>cells.size)=false:=by simp [hs];omega
 simp only [Instr.fill,hp,h1,zi,if_false]
 rw [←FV off v.cells cells hf]
def yG (hT:Uv P G.tab) (h:Rel n w0 Z0 st a w nm) {fs:List (Nat×TypeId)} {place:Nat→Option (Nat×Nat)}
 (hpl:∀i off ft fi,fs[i]?=some (off,ft)→look G.tab ft=some fi→place i=some (off,fi.ty.cells)) :
 ∀(ps:List (Nat×Operand)) {cs cs':List At} {cells:List Value},iP G.tab fs (kS st) ps cs=some cs'→Vx w (Zc w0 Z0 nm st.sj w) nm st.sj cs cells→(∀u∈cells,u.oneCell'=true) →
  ∃cells':List Value,Instr.fill place cells.toArray (ps.map fun x=>(x.1,a.eval x.2))=some cells'.toArray∧Vx w (Zc w0 Z0 nm st.sj w) nm st.sj cs' cells' ∧ ∀u∈cells',u.oneCell'=true
 | [],cs,cs',cells,he,hr,h1=>by
   simp only [iP,zd] at he
   subst he
   exact ⟨cells,rfl,hr,h1⟩
 | (i,x)::ps,cs,cs',cells,he,hr,h1=>by
   simp only [iP] at he
   split at he
   ·rename_i off ft d q1 q2
    split at he
    ·rename_i ds fi q3 q4
     cases hb:(Nat.beq ds.length fi.ty.cells&&Nat.ble (off+ds.length) cs.length) with
     | false=>rw [hb] at he;cases he
     | true=>
       rw [hb] at he
       simp only [zj] at he
       rw [ze] at hb
       have hl:=Jx.1 hb.1
       have hle:=Nat.le_of_ble_eq_true hb.2
       obtain ⟨r1,r2⟩:=mI (Yd h q2) q3
       have hvs:(a.eval x).cells.size=ds.length:=by rw [←r1.1];simp
       have hcl:=hr.1
       have hnew:=Uo (Uo (fL hr off) r1) (i8 hr (off+ds.length))
       obtain ⟨cells',s1,s2,s3⟩:=yG hT h hpl ps he hnew (by
        intro u hu
        rw [zq] at hu
        rcases List.mem_append.1 hu with hu | hu
        ·exact h1 u (List.mem_of_mem_take hu)
        ·rcases List.mem_append.1 hu with hu | hu
         ·exact r2 u hu
         ·exact h1 u (List.mem_of_mem_drop hu))
       refine ⟨cells',?_,s2,s3⟩
       rw [List.map_cons,iS (hpl i off ft fi q1 q4) (by rw [hvs,hl]) (by rw [hvs];simp;omega)]
       rw [hvs]
       simpa using s1
    ·cases he
   ·cases he
def tO {fields:List Field} (hf:∀f∈fields,∃fi,P.info? f.type=some fi) :
 (fields.mapM fun f=>(do pure (f.offset,←sizeOf f.type):Sem (Nat×Nat))).run P w=.ok (fields.map fun f=>(f.offset,((P.info? f.type).map (·.size)).getD 0)) w:=by
 induction fields with
 | nil=>simp
 | cons f fields ih=>
   obtain ⟨fi,h1⟩:=hf f (by simp)
   have:=ih (fun g hg=>hf g (by simp [hg]))
   have hs:(sizeOf f.type).run P w=.ok fi.size w:=by simp [sizeOf,typeInfo,h1]
   rw [List.mapM_cons]
   simp only [Sem.run_bind,hs,Result.andThen_ok,Sem.run_pure,this,List.map_cons,h1,Option.map_some,Option.getD_some]
def yI (hT:Uv P G.tab) (h:Rel n w0 Z0 st a w nm) {fs:List (Nat×TypeId)} {place:Nat→Option (Nat×Nat)}
 (hpl:∀i off ft fi,fs[i]?=some (off,ft)→look G.tab ft=some fi→place i=some (off,fi.ty.cells)) {s:Ty} :
 ∀(ps:List (Nat×Operand)) {y y2:s.den} {u:kY},iR (look st.sj) G.tab fs (kS st) s ps y=some (y2,u) →
  FzUpd st u ∧ ∀st1,Frozen n w0 Z0 st st1 a w nm u → ∀cells:List Value,kT w (Zc w0 Z0 nm st1.sj w) s cells y →
   ∃cells':List Value,Instr.fill place cells.toArray (ps.map fun x=>(x.1,a.eval x.2))=some cells'.toArray∧kT w (Zc w0 Z0 nm st1.sj w) s cells' y2
 | [],y,y2,u,he=>by
   simp only [iR,zd,zr] at he
   obtain ⟨rfl,rfl⟩:=he
   exact ⟨fun p hp=>(by cases hp),fun st1 _ cells hr=>⟨cells,rfl,hr⟩⟩
 | (i,x)::ps,y,y2,u,he=>by
   simp only [iR] at he
   split at he
   ·rename_i off ft d q1 q2
    split at he
    ·rename_i fi q3
     split at he
     ·rename_i z uz hz
      split at he
      ·rename_i y' hy'
       split at he
       ·rename_i y3 u' hys
        cases he
        obtain ⟨f1,g1⟩:=aI (n:=n) (w0:=w0) (w:=w) (Z0:=Z0) (a:=a) (nm:=nm) hz
        obtain ⟨f2,g2⟩:=yI hT h hpl ps hys
        refine ⟨f1.append f2,fun st1 hf cells hr=>?_⟩
        have hk1:Kept w w (Zc w0 Z0 nm st.sj w) (Zc w0 Z0 nm st1.sj w):=fun b hb=>⟨hf.fz.zc hb,rfl⟩
        have hv:=HA (g1 st1 hf.left (a.eval x) (Uu hk1 (DvOk.refl _ _ _) (Yd h q2)))
        have hvl:=Yy _ hv
        obtain ⟨c1,c2,c3,rfl,l1,l2,hr'⟩:=BS hv hy' hr
        obtain ⟨cells',s1,s2⟩:=g2 st1 hf.right _ hr'
        refine ⟨cells',?_,s2⟩
        have hsz:(a.eval x).cells.size=fi.ty.cells:=by simpa using hvl
        rw [List.map_cons,iS (hpl i off ft fi q1 q3) hsz (by rw [hsz];simp only [List.size_toArray,zf];omega)]
        rw [hsz]
        have:=fU c1 c2 c3 (a.eval x).cells.toList off fi.ty.cells l1 l2
        rw [List.toList_toArray,this]
        exact s1
       ·cases he
      ·cases he
     ·cases he
    ·cases he
   ·cases he
def yH (h:Rel n w0 Z0 st a w nm) {s:Ty} {m:Nat} :
 ∀(ps:List (Nat×Operand)) {y y2:List s.den} {u:kY},iQ (look st.sj) (kS st) s m ps y=some (y2,u)→y.length=m →
  FzUpd st u∧y2.length=m ∧ ∀st1,Frozen n w0 Z0 st st1 a w nm u → ∀cells:List Value,YF (kT w (Zc w0 Z0 nm st1.sj w) s) cells y →
   ∃cells':List Value,Instr.fill (fun i=>some (i*s.cells,s.cells)) cells.toArray (ps.map fun x=>(x.1,a.eval x.2))=some cells'.toArray∧YF (kT w (Zc w0 Z0 nm st1.sj w) s) cells' y2
 | [],y,y2,u,he,hl=>by
   simp only [iQ,zd,zr] at he
   obtain ⟨rfl,rfl⟩:=he
   exact ⟨fun p hp=>(by cases hp),hl,fun st1 _ cells hr=>⟨cells,rfl,hr⟩⟩
 | (i,x)::ps,y,y2,u,he,hl=>by
   simp only [iQ] at he
   split at he
   ·rename_i d hd
    split at he
    ·rename_i z uz hz
     cases hb:Nat.blt i m with
     | false=>rw [hb] at he;cases he
     | true=>
       rw [hb] at he
       simp only [zj] at he
       have hi:i<m:=Nat.le_of_ble_eq_true hb
       split at he
       ·rename_i y3 u' hys
        cases he
        obtain ⟨f1,g1⟩:=aI (n:=n) (w0:=w0) (w:=w) (Z0:=Z0) (a:=a) (nm:=nm) hz
        obtain ⟨f2,l2,g2⟩:=yH h ps hys (by rw [List.length_set];exact hl)
        refine ⟨f1.append f2,l2,fun st1 hf cells hr=>?_⟩
        have hk1:Kept w w (Zc w0 Z0 nm st.sj w) (Zc w0 Z0 nm st1.sj w):=fun b hb=>⟨hf.fz.zc hb,rfl⟩
        have hv:=HA (g1 st1 hf.left (a.eval x) (Uu hk1 (DvOk.refl _ _ _) (Yd h hd)))
        have hvl:=Yy _ hv
        have hat:y[i]?=some y[i]:=Z7 (by omega)
        obtain ⟨c1,c2,c3,rfl,q1,q2,q3,q4⟩:=eJ (fun _ _=>Yy s) hr hat
        have hset:y.set i z=y.take i++(z::y.drop (i+1)):=List.set_eq_take_append_cons_drop.trans (if_pos (by omega))
        have hr':YF (kT w (Zc w0 Z0 nm st1.sj w) s) (c1++(a.eval x).cells.toList++c3) (y.set i z):=by
         rw [hset]
         exact VE.2 ⟨c1,_,by rw [zq],q3,_,_,rfl,hv,q4⟩
        obtain ⟨cells',s1,s2⟩:=g2 st1 hf.right _ hr'
        refine ⟨cells',?_,s2⟩
        have hsz:(a.eval x).cells.size=s.cells:=by simpa using hvl
        have l2:=Yy _ q2
        rw [List.map_cons,iS (off:=i*s.cells) (size:=s.cells) rfl hsz (by rw [hsz];simp only [List.size_toArray,zf];omega)]
        rw [hsz]
        have:=fU c1 c2 c3 (a.eval x).cells.toList (i*s.cells) s.cells q1 l2
        rw [List.toList_toArray,this]
        exact s1
       ·cases he
    ·cases he
   ·cases he
def Good.datum (h:Rel n w0 Z0 st a w nm) {t:Ty} {y:t.den} {u:kY} (hfu:FzUpd st u)
 (hrun:∀st1,Frozen n w0 Z0 st st1 a w nm u → ∃v,(execOp a.eval o).run P w=.ok (.value v) w∧Ux w (Zc w0 Z0 nm st1.sj w) t v y) :
 Good P n w0 Z0 st a w o ⟨.one (.val t y),u⟩:=by
 intro st1 hl
 obtain ⟨hrel,hfz,hcold⟩:=Rel.freezes u h hfu hl
 obtain ⟨v,q1,q2⟩:=hrun st1 ⟨hfz,hrel,hcold⟩
 exact Does.of_run q1 ⟨nm,hrel,q2⟩
def FD {t:TypeId} {ps:Array (Nat×Operand)} (ho:o.op=.build t ps):Uq P G o:=by
 intro hT n w0 w Z0 st a nm dst ρ k r h he
 unfold Jq at he
 rw [ho] at he
 simp only at he
 have hps:(ps.map fun x=>(x.1,a.eval x.2)).toList=ps.toList.map fun x=>(x.1,a.eval x.2):=by simp
 split at he
 ·rename_i s fs htab
  obtain ⟨i,z,q1,q2,q3,q4,q5⟩:=(hT _ _ htab).info
  obtain ⟨s',fields,_,hu,hm,hfi⟩:=(hT _ _ htab).kind
  obtain ⟨zc,rfl⟩:=q5 rfl
  have hplaces:=tO (P:=P) (w:=w) (fields:=fields.toList) hfi
  have hpl:∀(i:Nat) (off:Nat) (ft:TypeId) (fi:TI),fs[i]?=some (off,ft)→look G.tab ft=some fi→(fields.toList.map fun f=>(f.offset,((P.info? f.type).map (·.size)).getD 0)).toArray[i]?=some (off,fi.ty.cells):=by
   intro i off ft fi h1 h2
   rw [←hm,List.getElem?_map,Z8] at h1
   obtain ⟨fld,g1,g2⟩:=h1
   cases g2
   obtain ⟨fi',z',p1,p2,_⟩:=(hT _ _ h2).info
   simp [g1,p1,p2]
  have hpm:(fields.mapM fun f=>(do pure (f.offset,←sizeOf f.type):Sem (Nat×Nat))).run P w=.ok (fields.toList.map fun f=>(f.offset,((P.info? f.type).map (·.size)).getD 0)).toArray w:=by
   rw [Array.mapM_eq_mapM_toList,Sem.run_map,hplaces]
   rfl
  have hz:(Value.agg zc).cells=zc:=rfl
  have hc:(Value.agg zc).cells.toList.toArray=zc:=Array.toArray_toList
  have hrun:∀cells':List Value,Instr.fill (fun i=>(fields.toList.map fun f=>(f.offset,((P.info? f.type).map (·.size)).getD 0)).toArray[i]?) (Value.agg zc).cells.toList.toArray (ps.toList.map fun x=>(x.1,a.eval x.2))=some cells'.toArray →
   (execOp a.eval o).run P w=.ok (.value (.agg cells'.toArray)) w:=by
   intro cells' s1
   have hfill:Instr.fill (fun i=>(fields.toList.map fun f=>(f.offset,((P.info? f.type).map (·.size)).getD 0)).toArray[i]?) zc (ps.map fun x=>(x.1,a.eval x.2)).toList=some cells'.toArray:=by
    rw [hc] at s1
    rw [hps]
    exact s1
   simp only [execOp,ho,Instr.build,Sem.run_bind,zeroValue,typeInfo,Sem.run_pure,run_program,Result.andThen_ok,q1,q3,run_underlying hu,hpm,hz,hfill]
  cases hfl:s.flat with
  | true=>
    rw [hfl] at he
    simp only [zj] at he
    split at he
    ·rename_i cs hcs
     obtain ⟨cells',s1,s2,s3⟩:=yG hT h hpl ps.toList hcs (bZ s hfl q4) (NX s q4)
     exact ⟨_,he,Good.pure h (v:=.agg cells'.toArray) (hrun _ s1) ⟨_,rfl,by simpa using s2,by simpa using s3⟩⟩
    ·cases he
  | false=>
    rw [hfl] at he
    simp only [zk] at he
    split at he
    ·rename_i y u hy
     obtain ⟨f1,g1⟩:=yI hT h hpl ps.toList hy
     refine ⟨_,he,Good.datum h f1 fun st1 hf=>?_⟩
     obtain ⟨cells',s1,s2⟩:=g1 st1 hf _ (Nb s q4)
     exact ⟨_,hrun _ s1,_,rfl,by simpa using s2⟩
    ·cases he
 ·rename_i m s m' e htab
  obtain ⟨i,z,q1,q2,q3,q4,q5⟩:=(hT _ _ htab).info
  obtain ⟨s',i',z',h1,hu,p1,p2,p3,p4⟩:=(hT _ _ htab).kind
  cases h1
  obtain ⟨zc,rfl⟩:=q5 rfl
  split at he
  ·rename_i y u hy
   obtain ⟨f1,l1,g1⟩:=yH (n:=n) (w0:=w0) (w:=w) (Z0:=Z0) (a:=a) (nm:=nm) h ps.toList hy List.length_replicate
   refine ⟨_,he,Good.datum h f1 fun st1 hf=>?_⟩
   obtain ⟨cells',s1,s2⟩:=g1 st1 hf _ (Nb (.ar m s) q4).2
   refine ⟨.agg cells'.toArray,?_,_,rfl,l1,by simpa using s2⟩
   have hz:(Value.agg zc).cells=zc:=rfl
   have hc:(Value.agg zc).cells.toList.toArray=zc:=Array.toArray_toList
   have hsz:(sizeOf e).run P w=.ok s.cells w:=by simp [sizeOf,typeInfo,p1,p2]
   have hfill:Instr.fill (fun i=>some (i*s.cells,s.cells)) zc (ps.map fun x=>(x.1,a.eval x.2)).toList=some cells'.toArray:=by
    rw [hc] at s1
    rw [hps]
    exact s1
   simp only [execOp,ho,Instr.build,Sem.run_bind,zeroValue,typeInfo,Sem.run_pure,run_program,Result.andThen_ok,q1,q3,run_underlying hu,hsz,hz,hfill]
  ·cases he
 ·cases he
def qK {t:TypeId} {x:Operand} (ho:o.op=.makeInterface t x):Uq P G o:=by
 intro hT n w0 w Z0 st a nm dst ρ k r h he
 unfold Jq at he
 rw [ho] at he
 simp only at he
 split at he
 ·rename_i s fs d htab hx
  obtain ⟨s',fields,_,hu,_⟩:=(hT _ _ htab).kind
  split at he
  ·rename_i y u hy
   obtain ⟨f,g⟩:=aI (n:=n) (w0:=w0) (w:=w) (Z0:=Z0) (a:=a) (nm:=nm) hy
   refine ⟨_,he,Good.datum h f fun st1 hf=>?_⟩
   obtain ⟨cs,e,hc⟩:=g st1 hf _ (Uu (fun b hb=>⟨hf.fz.zc hb,fun _ _ hu=>hu⟩) (DvOk.refl _ _ _) (Yd h hx))
   refine ⟨.iface t (a.eval x),?_,a.eval x,cs,rfl,.inl ⟨rfl,e⟩,hc⟩
   simp only [execOp,ho,Instr.makeInterface,Sem.run_bind,run_underlying hu,Result.andThen_ok,Sem.run_pure]
  ·cases he
 ·cases he
def vL (h:Rel n w0 Z0 st a w nm) {s:Ty}:∀(ps:List (Nat×Operand)) {i:Nat} {ys:List s.den} {u:kY},fG (look st.sj) (kS st) s i ps=some (ys,u) →
 FzUpd st u∧ys.length=ps.length ∧ ∀st1,Frozen n w0 Z0 st st1 a w nm u → ∃cells:List Value,YF (kT w (Zc w0 Z0 nm st1.sj w) s) cells ys ∧
  ∀(done tail:List Value),done.length=i*s.cells→tail.length=ps.length*s.cells →
   Instr.fill (fun i=>some (i*s.cells,s.cells)) (done++tail).toArray (ps.map fun x=>(x.1,a.eval x.2))=some (done++cells).toArray
 | [],i,ys,u,he=>by
   simp only [fG,zd,zr] at he
   obtain ⟨rfl,rfl⟩:=he
   refine ⟨fun p hp=>(by cases hp),rfl,fun st1 _=>⟨[],rfl,fun done tail _ ht=>?_⟩⟩
   have:tail=[]:=zl (by simpa using ht)
   subst this
   rfl
 | (j,x)::ps,i,ys,u,he=>by
   simp only [fG] at he
   cases hj:Nat.beq i j with
   | false=>rw [hj] at he;cases he
   | true=>
     rw [hj] at he
     have:=Jx.1 hj
     subst this
     simp only [zj] at he
     split at he
     ·rename_i d hd
      split at he
      ·rename_i y uy hy
       split at he
       ·rename_i ys' u' hys
        cases he
        obtain ⟨f1,g1⟩:=aI (n:=n) (w0:=w0) (w:=w) (Z0:=Z0) (a:=a) (nm:=nm) hy
        obtain ⟨f2,l2,g2⟩:=vL h ps hys
        refine ⟨f1.append f2,by simp [l2],fun st1 hf=>?_⟩
        have hk1:Kept w w (Zc w0 Z0 nm st.sj w) (Zc w0 Z0 nm st1.sj w):=fun b hb=>⟨hf.fz.zc hb,rfl⟩
        have hv:=HA (g1 st1 hf.left (a.eval x) (Uu hk1 (DvOk.refl _ _ _) (Yd h hd)))
        have hvl:=Yy _ hv
        obtain ⟨cells,c1,c2⟩:=g2 st1 hf.right
        refine ⟨(a.eval x).cells.toList++cells,⟨_,_,rfl,hv,c1⟩,fun done tail hd ht=>?_⟩
        simp only [zg,Nat.succ_mul] at ht
        have hsz:(a.eval x).cells.size=s.cells:=by simpa using hvl
        rw [List.map_cons,iS (off:=i*s.cells) (size:=s.cells) rfl hsz (by rw [hsz];simp;omega)]
        have t1:((done++tail).toArray.toList).take (i*s.cells)=done:=by rw [←hd];exact List.take_left
        have t2:((done++tail).toArray.toList).drop (i*s.cells+(a.eval x).cells.size)=tail.drop s.cells:=by
         rw [hsz,←hd]
         exact List.drop_length_add_append s.cells
        rw [t1,t2]
        have:=c2 (done++(a.eval x).cells.toList) (tail.drop s.cells) (by rw [zf,hd,hvl,Nat.succ_mul]) (by rw [zu];omega)
        rw [this,zq]
       ·cases he
      ·cases he
     ·cases he
def uE {t:TypeId} {m:Nat} {ps:Array (Nat×Operand)} (ho:o.op=.buildSlice t m ps):Uq P G o:=by
 intro hT n w0 w Z0 st a nm dst ρ k r h he
 unfold Jq at he
 rw [ho] at he
 simp only at he
 split at he
 ·rename_i s e by_ htab
  obtain ⟨hu,i,z,g1,g2,g3,g4,g5,g6⟩:=aM hT htab
  split at he
  ·rename_i ys u hys
   cases hb:(Nat.beq ys.length m&&Nat.ble (m*s.cells) 65536) with
   | false=>rw [hb] at he;cases he
   | true=>
     rw [hb] at he
     simp only [zj] at he
     rw [ze] at hb
     have hl:=Jx.1 hb.1
     have hle:=Nat.le_of_ble_eq_true hb.2
     split at he
     ·rename_i ver hver
      obtain ⟨fu,fl,frd⟩:=vL (n:=n) (w0:=w0) (w:=w) (Z0:=Z0) (a:=a) (nm:=nm) h ps.toList hys
      refine ⟨_,he,fun st' hlay=>?_⟩
      obtain ⟨st1,hlu,hmay,rfl⟩:=cG hlay
      obtain ⟨hrel,hfz,hcold⟩:=Rel.freezes u h fu hlu
      obtain ⟨cells,c1,c2⟩:=frd st1 ⟨hfz,hrel,hcold⟩
      have hzl:z.cells.size=s.cells:=by have:=Hp s g5;simpa using this
      have hcl:cells.length=ys.length*s.cells:=Hy (fun _ _=>Yy s) c1
      have hpl:ps.size=m:=by rw [←hl,fl];simp
      have hfill:∀zc:Array Value,zc.size=m*s.cells→Instr.fill (fun i=>some (i*s.cells,s.cells)) zc (ps.map fun x=>(x.1,a.eval x.2)).toList=some cells.toArray:=by
       intro zc hz
       have:=c2 [] zc.toList (by simp) (by simp [hz,hpl])
       simpa using this
      have hver1:∃ver1,Va (look st1.sj) dst=some ver1∧ver1=ver:=by
       unfold Va at hver ⊢
       rcases hfz.sj dst with q | ⟨v,fz,e',t',xs',q1,q2⟩
       ·rw [q];exact ⟨ver,hver,rfl⟩
       ·rw [q1] at hver;rw [q2];exact ⟨ver,hver,rfl⟩
      obtain ⟨ver1,hv1,rfl⟩:=hver1
      have hrun:(execOp a.eval o).run P w=.ok (.value (.slice (some ⟨w.heap.size,0,none⟩) m m)) (w.alloc (.cells cells.toArray e)):=by
       have hsz:(sizeOf e).run P w=.ok s.cells w:=by simp [sizeOf,typeInfo,g1,g2]
       have hnot:¬(m*s.cells>2^24):=by omega
       by_cases h0:m*s.cells=0
       ·have hf:=hfill ((Array.range (m*s.cells)).map fun x=>(#[]:Array Value)[x % (#[]:Array Value).size]!) (by simp)
        simp only [execOp,ho,Instr.buildSlice,Sem.run_bind,run_underlying hu,Result.andThen_ok,hsz,if_neg hnot,Sem.run_pure,if_pos h0,hf,newRow,run_newObj_alloc]
       ·have hf:=hfill ((Array.range (m*s.cells)).map fun x=>z.cells[x % z.cells.size]!) (by simp)
        have hzv:(zeroValue e).run P w=.ok z w:=by simp [zeroValue,typeInfo,g1,g4]
        simp only [execOp,ho,Instr.buildSlice,Sem.run_bind,run_underlying hu,Result.andThen_ok,hsz,if_neg hnot,Sem.run_pure,if_neg h0,hzv,hf,newRow,run_newObj_alloc]
      have hmm:m≤maxLen:=by
       have:m≤m*s.cells:=Nat.le_mul_of_pos_right m g6
       simp only [maxLen]
       omega
      obtain ⟨r1,r2⟩:=hrel.newArr (nv:=.slice (some ⟨w.heap.size,0,none⟩) m m) (cells:=cells) (gZ g5) hv1 hmay (Same.alloc w (.cells cells.toArray e)) (fun b hb=>by
       simp only [kV,zd] at hb
       subst hb
       exact ⟨zx _,by simp⟩)
       ⟨hcl,.inr ⟨w.heap.size,m,cells.toArray,by rw [hl],.of (heap_alloc_new w _),by omega,hmm,by simp [hcl,hl],by simp [←hcl]⟩⟩
       (VF (fun _ _=>YJ (fun b hb=>⟨hb,n6 ((Same.alloc w _).block b hb.1)⟩) s) c1)
      exact Does.of_run hrun ⟨_,r1,r2⟩
     ·cases he
  ·cases he
 ·cases he
end
end Go.Ql
end

section
namespace Go.Ql
section
variable [GInv] {P:Program} {G:Env} {n:Nat} {w0 w w':World} {Z0:Bs} {Z Z':Nat→Prop} {st st1:St} {a:Act} {nm:JY} {o:Oper} {dst:Nat} {ρ:Type} {r:ρ}
def OR (hF:AllOk P G) (o:Oper):Uq P G o:=by
 cases h:o.op with
 | move x=>exact I7 h
 | assign x=>exact CQ h
 | pick c x y=>exact I8 h
 | alloc t=>exact FB h
 | box t x=>exact OT h
 | build t ps=>exact FD h
 | buildSlice t m ps=>exact uE h
 | load t x=>exact I6 h
 | store t x y=>exact FH h
 | binOp op xt x y yt=>exact FC hF.eqs h
 | unOp op xt x=>exact I9 h
 | convert xt yt x=>exact AP h
 | slice t x lo hi mx=>exact FG h
 | fieldAddr t x f=>exact wO h
 | field t x f=>exact FE h
 | indexAddr t x ix=>exact wP h
 | index t x ix=>exact FF h
 | extract x i=>exact AQ h
 | makeInterface t x=>exact qK h
 | call c=>
   cases hc:c.callee with
   | builtin b=>
     by_cases h1:b=.append
     ·subst h1;exact CP h hc
     ·by_cases h2:b=.len
      ·subst h2;exact OU h hc
      by_cases h3:b=.min
      ·subst h3;exact OW h hc
      by_cases h4:b=.max
      ·subst h4;exact OV h hc
      ·intro hT n w0 w Z0 st a nm dst ρ k r hr he
       unfold Jq at he
       rw [h] at he
       simp only [hc] at he
       cases b<;>first | exact absurd rfl h1 | exact absurd rfl h2 | exact absurd rfl h3 | exact absurd rfl h4 | cases he
   | invoke x m=>
     intro hT n w0 w Z0 st a nm dst ρ k r hr he
     unfold Jq at he
     rw [h] at he
     simp only [hc] at he
     cases he
   | value x=>exact I5 hF h hc
 | makeFunc fn first caps=>exact x9 h
 | nilCheck x=>exact yA h
 | _=>
   intro hT n w0 w Z0 st a nm dst ρ k r hr he
   unfold Jq at he
   rw [h] at he
   simp only at he
   cases he
def OM {α:Type} {b:Bool} {x:Option α} {y:α} (h:(bif b then none else x)=some y):x=some y:=by
 cases b with
 | false=>exact h
 | true=>cases h
def EV {α:Type} {x y:Option α} {z:α} (h:both x y=some z):x=some z∧y=some z:=by
 unfold both at h
 split at h
 ·rename_i he
  exact ⟨h,he▸h⟩
 ·cases h
def GB (hT:Uv P G.tab) (h:Rel n w0 Z0 st a w nm) {q emp:Bool} (hn:NC G.tab o (kS st) (look st.sj)=some (q,emp)) :
 (Good P n w0 Z0 st a w o ⟨vB q,[]⟩∨Good P n w0 Z0 st a w o ⟨vB !q,[]⟩)∧(emp=false→Good P n w0 Z0 st a w o ⟨vB !q,[]⟩):=by
 unfold NC at hn
 split at hn
 ·rename_i op xt x y yt ho
  split at hn
  ·rename_i s e b d htab hd hy
   obtain ⟨hu,_⟩:=aM hT htab
   have hv:a.eval y=.slice none 0 0:=Yd h hy
   have run:∀(b l c) (q:Bool),(op=.eql∧q=true)∨(op=.neq∧q=false)→a.eval x=.slice b l c→(execOp a.eval o).run P w=.ok (.value (.bool (b.isNone==q))) w:=by
    intro b l c q hq hx
    rcases hq with ⟨rfl,rfl⟩ | ⟨rfl,rfl⟩<;>cases b<;>simp [execOp,ho,hv,hx,eqGuard,binOp,run_equal_slice_nil w xt e _ l c hu]
   have fin:∀q,((op=.eql∧q=true)∨(op=.neq∧q=false))→(∃t xs,(some (q,(List.isEmpty xs))=some (q,emp))∧BT w (Zc w0 Z0 nm st.sj w) t (a.eval x) xs) →
    (Good P n w0 Z0 st a w o ⟨vB q,[]⟩∨Good P n w0 Z0 st a w o ⟨vB !q,[]⟩)∧(emp=false→Good P n w0 Z0 st a w o ⟨vB !q,[]⟩):=by
    rintro q hq ⟨t,xs,he,hr⟩
    simp only [zd,zr,true_and] at he
    rcases hr with ⟨e1,e2⟩ | ⟨b,off,cap,cells,e1,_⟩ | ⟨ad,cap,e1,_⟩
    ·have hg:Good P n w0 Z0 st a w o ⟨vB q,[]⟩:=Good.pure h (run _ _ _ q hq e1) (by simpa using Ug (nm:=nm) _ st.sj (true==q))
     refine ⟨.inl hg,fun hf=>?_⟩
     rw [e2] at he
     rw [←he] at hf
     cases hf
    ·have hg:Good P n w0 Z0 st a w o ⟨vB !q,[]⟩:=Good.pure h (run _ _ _ q hq e1) (by simpa using Ug (nm:=nm) _ st.sj (false==q))
     exact ⟨.inr hg,fun _=>hg⟩
    ·have hg:Good P n w0 Z0 st a w o ⟨vB !q,[]⟩:=Good.pure h (run _ _ _ q hq e1) (by simpa using Ug (nm:=nm) _ st.sj (false==q))
     exact ⟨.inr hg,fun _=>hg⟩
   split at hn
   ·obtain ⟨t,xs,h1,h2⟩:=Nn h hd hn
    have hq:q=true:=by simp only [zd,zr] at h1;exact h1.1.symm
    subst hq
    exact fin true (.inl ⟨rfl,rfl⟩) ⟨t,xs,h1,h2⟩
   ·obtain ⟨t,xs,h1,h2⟩:=Nn h hd hn
    have hq:q=false:=by simp only [zd,zr] at h1;exact h1.1.symm
    subst hq
    exact fin false (.inr ⟨rfl,rfl⟩) ⟨t,xs,h1,h2⟩
   ·cases hn
  ·cases hn
 ·cases hn
def BO {o:Oper} {K:Act→World→Prop} {Q:Exit→Act→World→Prop} (h:o.wp P a w K Q) (hd:∀c,o.op ≠ .defer c) (rd:Option Nat) (m:Nat):o.wpIn (Fr rd) m P a w K Q:=by
 unfold Oper.wpIn
 refine ⟨fun _ _=>trivial,?_⟩
 rw [Oper.semAt_eq _ _ _ hd]
 unfold Oper.wp at h
 generalize (execOp a.eval o).run P w=r at h
 cases r with
 | ok x w'=>
   cases x<;>simp only [Oper.upon,Oper.uponIn] at h ⊢ <;>
    first
     | exact h
     | exact h.elim
     | exact ⟨(fun hh=>by cases hh),(callsIn_wide (n:=m-1)).2 h⟩
     | exact ⟨(fun hh=>by cases hh),fun c cs _=>let ⟨v,w',r,s⟩:=h c cs;⟨v,w',r,stepsIn_wide.2 s⟩⟩
 | halt x w'=>cases x<;>simp only [Oper.upon,Oper.uponIn] at h ⊢ <;> first | exact h | exact h.elim
def KeepT (l:List Nat) (a a':Act):Prop:=∀t,JK t l=false→a'.tmps[t]?=a.tmps[t]?
def KeepT.refl (l:List Nat) (a:Act):KeepT l a a:=fun _ _=>rfl
def lO {t:Nat}:∀{l m:List Nat},JK t (l++m)=(JK t l||JK t m)
 | [],m=>by simp [JK]
 | s::l,m=>by simp [JK,lO,Bool.or_assoc]
def KeepT.trans {l:List Nat} {a b c:Act} (h:KeepT l a b) (k:KeepT l b c):KeepT l a c:=fun t ht=>(k t ht).trans (h t ht)
def KeepT.left {l m:List Nat} {a b:Act} (h:KeepT l a b):KeepT (l++m) a b:=fun t ht=>h t (by rw [lO] at ht;simp only [Bool.or_eq_false_iff] at ht;exact ht.1)
def KeepT.right {l m:List Nat} {a b:Act} (h:KeepT m a b):KeepT (l++m) a b:=fun t ht=>h t (by rw [lO] at ht;simp only [Bool.or_eq_false_iff] at ht;exact ht.2)
def iW (a:Act) (d:Option Nat) (v:Value):KeepT d.toList a (a.put d v):=by
 intro t ht
 cases d with
 | none=>rfl
 | some s=>
   simp only [Option.toList,JK,Bool.or_false] at ht
   show (a.tmps.setIfInBounds s v)[t]?=_
   rw [Array.getElem?_setIfInBounds_ne (Yi.1 ht)]
def AC (P:Program) (ops:Array Oper) (o:Oper) (a:Act) (w:World) (rd:Option Nat) (m:Nat) (K:Act→World→Prop) (Q:Exit→Act→World→Prop):Prop:=
 if Region.wanted o (yielded ops a.tmps) then o.wpIn (Fr rd) m P a w K Q else (∀f,o.about P w a.eval=some f→(Fr rd).fn f)∧K (a.put o.dst undef) w
def IH (h:Rel G.n w0 Z0 st a w nm) {ma:MAlt} {ds:List Dv} (he:Hm G o (kS st) (look st.sj)=some (ma,ds)) :
 (∃i,look G.alts i=some ma)∧cN ma.pre.sj=true ∧ ∃vs:List Value,vs.length=ds.length∧(∀(i:Nat) d v,ds[i]?=some d→vs[i]?=some v→Vf w (Zc w0 Z0 nm st.sj w) nm st.sj d v) ∧
  ∀ fn, P.funcs[ma.fn]? = some fn → (fn.name == "runtime.NumGoroutine") = false → fn.body.isNone = false → (execOp a.eval o).run P w = .ok (.enter ma.fn vs.toArray) w := by
 unfold Hm at he
 split at he
 ·rename_i c ho
  split at he
  ·rename_i x hc
   split at he
   ·rename_i f fs cs as h1 h2
    split at he
    ·rename_i ma' _ _ hma
     cases hb:(Nat.beq ma'.fn f&&cN ma'.pre.sj) with
     | false=>rw [hb] at he;cases he
     | true=>
       rw [hb] at he
       simp only [zj,zd,zr] at he
       obtain ⟨rfl,rfl⟩:=he
       rw [ze] at hb
       obtain ⟨hb,hcalm⟩:=hb
       have:=Jx.1 hb
       subst this
       obtain ⟨vs,l1,l2,hrun⟩:=sN (P:=P) h ho hc h1 h2
       refine ⟨?_,hcalm,vs,l1,l2,hrun⟩
       unfold GA at hma
       split at hma
       ·rename_i m hl
        cases hb2:Nat.beq m.fn ma'.fn with
        | true=>rw [hb2] at hma;cases hma;exact ⟨_,hl⟩
        | false=>rw [hb2] at hma;exact ⟨_,hma⟩
       ·exact ⟨_,hma⟩
    ·cases he
   ·cases he
  ·cases he
 ·cases he
def fD (hT:Uv P G.tab) (hF:AllOk P G) {ops:Array Oper} {gs:List Nat} {k kp:St→Option ρ} {K:Act→World→Prop} {Q:Exit→Act→World→Prop}
 (h:Rel G.n w0 Z0 st a w nm) (he:nF G ops.toList gs o st k kp=some r)
 (hk:∀st' a' w' nm',Rel G.n w0 Z0 st' a' w' nm'→k st'=some r→KeepT o.dst.toList a a'→K a' w')
 (hp:∀st' a' w' nm' v,Rel G.n w0 Z0 st' a' w' nm'→nm' Vu=.func (.func 0) #[] #[v]→kp st'=some r→Q (.panic [{ v,recovered:=false }]) a' w') (rd:Option Nat) (m:Nat):AC P ops o a w rd m K Q:=by
 have part:∀(d0:Dv) (u:kY),(VZ gs o.dst d0 fun d=>VL G.n st o.dst d u k)=some r →
  ∃st',kO st u=some st' ∧ ∀v w' nm',Rel G.n w0 Z0 st' a w' nm'→Vf w' (Zc w0 Z0 nm' st'.sj w') nm' st'.sj d0 v→K (a.put o.dst v) w':=by
  intro d0 u h1
  have fin:∀d:Dv,(∀(w:World) (Z:Nat→Prop) (nm:JY) (sj:List (Nat×Ob)) v,Vf w Z nm sj d0 v→Vf w Z nm sj d v)→VL G.n st o.dst d u k=some r →
   ∃st',kO st u=some st' ∧ ∀v w' nm',Rel G.n w0 Z0 st' a w' nm'→Vf w' (Zc w0 Z0 nm' st'.sj w') nm' st'.sj d0 v→K (a.put o.dst v) w':=by
   intro d hd hl
   unfold VL lay at hl
   split at hl
   ·rename_i st2 hl2
    split at hl2
    ·rename_i st3 hl3
     refine ⟨st3,hl3,fun v w' nm' hr' hv=>?_⟩
     have hv:=hd _ _ _ _ _ hv
     cases hdst:o.dst with
     | none=>
       rw [hdst] at hl2
       cases hl2
       exact hk _ _ _ nm' hr' hl (by rw [hdst];exact iW _ _ _)
     | some t=>
       rw [hdst] at hl2
       simp only at hl2
       cases hb:Nat.blt t G.n with
       | false=>rw [hb] at hl2;cases hl2
       | true=>
         rw [hb] at hl2
         cases hl2
         have ht:t<G.n:=by simpa [Nat.blt_eq] using hb
         exact hk _ _ _ nm' (hr'.put ht hv) hl (by rw [hdst];exact iW _ _ _)
    ·cases hl2
   ·cases hl
  unfold VZ at h1
  split at h1
  ·rename_i t hdst
   cases hm:JK t gs with
   | false=>rw [hm] at h1;exact fin _ (fun _ _ _ _ _ h=>h) (hdst▸h1)
   | true=>
     rw [hm] at h1
     simp only [zj] at h1
     split at h1
     ·rename_i b
      cases b with
      | true=>
        simp only [br] at h1
        exact fin (vB true) (fun _ _ _ _ _ h=>h) (hdst▸h1)
      | false=>
        simp only [br] at h1
        exact fin (vB false) (fun _ _ _ _ _ h=>h) (hdst▸h1)
     ·cases h1
  ·rename_i hdst
   exact fin _ (fun _ _ _ _ _ h=>h) (hdst▸h1)
 have go:∀e,Good P G.n w0 Z0 st a w o e→(VZ gs o.dst e.dv fun d=>VL G.n st o.dst d e.upd k)=some r→o.wp P a w K Q:=by
  intro e h2 h1
  obtain ⟨st3,hl3,hf⟩:=part e.dv e.upd h1
  refine h2 st3 hl3 K Q ?_
  rintro v w' ⟨nm',hr',hv⟩
  exact hf v w' nm' hr' hv
 have run:(match NC G.tab o (kS st) (look st.sj) with
  | some (q,emp)=>
    br emp (bif JK (46000000+o.dst.getD 0) G.muts then none else both (VZ gs o.dst (vB q) fun d=>VL G.n st o.dst d [] k) (VZ gs o.dst (vB !q) fun d=>VL G.n st o.dst d [] k))
     (VZ gs o.dst (vB !q) fun d=>VL G.n st o.dst d [] k)
  | none=>match o.op with
    | .panic x=>match kS st x with
      | some (.one (.val (.ifc T s) y))=>(match thrown st (.val (.ifc T s) y) with
        | some s=>kp s
        | none=>none)
      | _=>none
    | _=>match Hm G o (kS st) (look st.sj) with
      | some (ma,ds)=>nX G gs o st ma ds k kp
      | none=>Jq G o (o.dst.getD 0) (kS st) (look st.sj) fun e=>VZ gs o.dst e.dv fun d=>VL G.n st o.dst d e.upd k)=some r→o.wp P a w K Q:=by
  intro hr
  split at hr
  ·rename_i q emp hn
   obtain ⟨q1,q2⟩:=GB hT h hn
   cases emp with
   | true=>
     simp only [br] at hr
     obtain ⟨g1,g2⟩:=EV (OM hr)
     rcases q1 with q1 | q1
     ·exact go ⟨vB q,[]⟩ q1 g1
     ·exact go ⟨vB !q,[]⟩ q1 g2
   | false=>exact go ⟨vB !q,[]⟩ (q2 rfl) hr
  ·split at hr
   ·rename_i x ho
    split at hr
    ·rename_i T s y hx
     split at hr
     ·rename_i s2 ht
      have hv:=Yd h hx
      obtain ⟨u,us,e,_⟩:=hv
      simp only [List.cons.injEq,and_true] at e
      have hq:=hp _ _ _ _ (a.eval x) (Rel.thrown h (x:=.val (.ifc T s) y) (Yd h hx) ht) (kW _ _ _) hr
      unfold Oper.wp
      have hrun:(execOp a.eval o).run P w=.halt (.panic (a.eval x)) w:=by
       simp only [execOp,ho,Instr.panic,e,goPanic]
       rfl
      rw [hrun]
      exact hq
     ·cases hr
    ·cases hr
   ·split at hr
    ·rename_i ma ds halt
     obtain ⟨hma,hcalm,vs,l1,l2,hrun⟩:=IH (P:=P) h halt
     obtain ⟨ia,hma⟩:=hma
     have hok:=hF.alts _ _ hma
     unfold nX at hr
     split at hr
     ·rename_i x1 u σ hbi
      obtain ⟨y,hy,hr⟩:=ki hr
      cases y with
      | inl y=>
        simp only [sel] at hr
        split at hr
        ·rename_i d v hk2
         obtain ⟨st3,hl3,hf⟩:=part d (u++v) hr
         exact rH h hok hcalm l1 l2 hrun hbi hy hk2 hl3 hf
        ·cases hr
      | inr y=>
        simp only [sel] at hr
        split at hr
        ·rename_i d v hk2
         cases hpn:ma.pan with
         | false=>
           rw [hpn] at hr
           obtain ⟨st3,hl3,hf⟩:=part d (u++v) hr
           refine rH h hok hcalm l1 l2 hrun hbi hy hk2 hl3 fun v' w' nm' q1 q2=>?_
           rw [hpn]
           exact hf v' w' nm' q1 q2
         | true=>
           rw [hpn] at hr
           simp only [zj] at hr
           split at hr
           ·rename_i st3 x2 hl3
            split at hr
            ·rename_i s2 ht
             refine rH h hok hcalm l1 l2 hrun hbi hy hk2 hl3 fun v' w' nm' q1 q2=>?_
             rw [hpn]
             exact hp _ _ _ _ v' (Rel.thrown q1 q2 ht) (kW _ _ _) hr
            ·cases hr
           ·cases hr
        ·cases hr
     ·cases hr
    ·obtain ⟨e,h1,h2⟩:=OR hF o hT h hr
     exact go e h2 h1
 have hnd:(match NC G.tab o (kS st) (look st.sj) with
  | some (q,emp)=>
    br emp (bif JK (46000000+o.dst.getD 0) G.muts then none else both (VZ gs o.dst (vB q) fun d=>VL G.n st o.dst d [] k) (VZ gs o.dst (vB !q) fun d=>VL G.n st o.dst d [] k))
     (VZ gs o.dst (vB !q) fun d=>VL G.n st o.dst d [] k)
  | none=>match o.op with
    | .panic x=>match kS st x with
      | some (.one (.val (.ifc T s) y))=>(match thrown st (.val (.ifc T s) y) with
        | some s=>kp s
        | none=>none)
      | _=>none
    | _=>match Hm G o (kS st) (look st.sj) with
      | some (ma,ds)=>nX G gs o st ma ds k kp
      | none=>Jq G o (o.dst.getD 0) (kS st) (look st.sj) fun e=>VZ gs o.dst e.dv fun d=>VL G.n st o.dst d e.upd k)=some r → ∀c,o.op ≠ .defer c:=by
  intro hr c hc
  unfold NC Hm Jq at hr
  simp only [hc] at hr
  cases hr
 unfold nF at he
 unfold AC
 simp only at he
 split at he
 ·rename_i hg
  rw [if_pos (by simp [Region.wanted,hg])]
  exact BO (run he) (hnd he) rd m
 ·rename_i j want hg
  split at he
  ·rename_i g hj
   have hj':(ops[j]?).bind (·.dst)=some g:=by rw [←Array.getElem?_toList];exact hj
   have skip:VL G.n st o.dst (.tup []) [] k=some r→K (a.put o.dst undef) w:=by
    intro hs
    unfold VL lay at hs
    simp only [kO] at hs
    cases hdst:o.dst with
    | none=>
      rw [hdst] at hs
      exact hk _ _ _ nm h hs (by rw [hdst];exact iW _ _ undef)
    | some t=>
      rw [hdst] at hs
      simp only at hs
      cases hb:Nat.blt t G.n with
      | false=>rw [hb] at hs;cases hs
      | true=>
        rw [hb] at hs
        have ht:t<G.n:=by simpa [Nat.blt_eq] using hb
        exact hk _ _ _ nm (h.put ht (d:=.tup []) (v:=undef) ⟨#[],rfl,aD⟩) hs (by rw [hdst];exact iW _ _ _)
   split at he
   ·rename_i b hb
    obtain ⟨v,q1,q2⟩:=h.mj g _ hb
    have hv:v=.bool b:=by simpa [Vf,UE,Ux,kT] using q2
    subst hv
    have hy:yielded ops a.tmps j=some b:=by
     unfold yielded
     rw [hj']
     simp [q1]
    cases hbw:(b==want) with
    | true=>
      rw [hbw] at he
      simp only [br] at he
      rw [if_pos (by simp only [Region.wanted,hg,hy];simpa using hbw)]
      exact BO (run he) (hnd he) rd m
    | false=>
      rw [hbw] at he
      simp only [br] at he
      rw [if_neg (by simp only [Region.wanted,hg,hy];simpa using hbw)]
      exact ⟨fun _ _=>trivial,skip he⟩
   ·rename_i hb
    obtain ⟨v,q1,vs,e1,e2⟩:=h.mj g _ hb
    have hy:yielded ops a.tmps j=none:=by
     unfold yielded
     rw [hj']
     simp [q1,e1]
    rw [if_neg (by simp [Region.wanted,hg,hy])]
    exact ⟨fun _ _=>trivial,skip he⟩
   ·cases he
  ·cases he
end
end Go.Ql
end
