/- Part of the lifter: a function's contract out of its meaning; for any program. -/
import Derived.Test.YtdocfkidnnalnaaGreatDoorLeS
import Derived.LoopN
import Derived.KernelRfl
import Derived.Recover
set_option linter.all false
section
namespace Go.Ql
def iV {S R:Type} {f:S→Option (S⊕R)} {s:S} {r:R} (h:iter f s=some r):∃n,Hd f n s=some r:=by
 unfold iter at h
 split at h
 ·rename_i hex
  simp only [zd] at h
  subst h
  exact ⟨_,Classical.choose_spec (Classical.choose_spec hex)⟩
 ·cases h
def mQ {S R:Type} {f:S→Option (S⊕R)}:∀{n:Nat} {s:S} {r:R} (m:Nat),Hd f n s=some r→Hd f (n+m) s=some r
 | 0,_,_,_,h=>by simp [Hd] at h
 | n+1,s,r,m,h=>by
   rw [show n+1+m=(n+m)+1 by omega]
   simp only [Hd] at h ⊢
   split at h
   ·exact mQ m h
   ·exact h
   ·cases h
def FZ {S R:Type} {f:S→Option (S⊕R)} {n m:Nat} {s:S} {r r':R} (h:Hd f n s=some r) (h':Hd f m s=some r'):r=r':=by
 have h1:=mQ m h
 have h2:=mQ n h'
 rw [Nat.add_comm] at h2
 rw [h1] at h2
 cases h2;rfl
def uK {S R:Type} {f:S→Option (S⊕R)} {n:Nat} {s:S} {r:R} (h:Hd f n s=some r):iter f s=some r:=by
 have hex:∃n r,Hd f n s=some r:=⟨n,r,h⟩
 unfold iter
 rw [dif_pos hex]
 rw [FZ (Classical.choose_spec (Classical.choose_spec hex)) h]
noncomputable def wZ (G:Env) (c:Code) (s:St):Option (St⊕(Ex×St)):=
 Vs G c (St⊕(Ex×St)) s fun e s'=>bif HI e then some (.inl (restrict s s')) else some (.inr (e,restrict s s'))
noncomputable def QZ (G:Env) (p t:Nat) (body:Code) (s:St):Option (St⊕(Ex×St)):=match look s.mj mB with
 | some (.one (.val (.sl (.int kd')) ys))=>br (List.isEmpty ys) (some (.inr (0,⟨del mB s.mj,s.sj⟩)))
   (jc (idx ys 0) fun y=>Vs G body (St⊕(Ex×St)) ⟨YE t (.one (.val (.int kd') y)) (YE p (.one (.val (.int kd') y)) (del mB s.mj)),s.sj⟩ fun e s'=>
    bif HI e&&wX (p8 s.sj s'.sj) then some (.inl ⟨YE mB (.one (.val (.sl (.int kd')) (ys.drop 1))) (eZ (fun t'=>!JK t' (p::t::mB::rG body)) s'.mj),p8 s.sj s'.sj⟩) else none)
 | _=>none
def tW (raw:(ρ:Type)→St→(Ex→St→Option ρ)→Option ρ) (s:Ck):Prop:=
 ∀(ρ:Type) st k r,s.run ρ st k=some r → ∃p:Ex×St,raw (Ex×St) st (fun e s=>some (e,s))=some p∧k p.1 p.2=some r
inductive PK where
 | region (id:Nat) (ops:Array Oper) (d:Bool) | join (a:Code) | loop (c:Code) | range (asg c:Code)
def UF (G:Env) (key:Nat) (p:PK):Prop:=∀s,look G.cks key=some s→match p with
 | .region id ops d=>tW (bH G id ops d) s
 | .join a=>tW (fun ρ st k=>Vs G a ρ st fun e s=>k e (restrict (x8 G key st) s)) s
 | .loop c=>∀(ρ:Type) st k r,s.run ρ st k=some r → ∃p:Ex×St,iter (wZ G c) st=some p∧k p.1 p.2=some r
 | .range asg c=>∀p t,IK asg=some (p,t) → ∀(ρ:Type) st k r,s.run ρ st k=some r → ∃q:Ex×St,iter (QZ G p t c) st=some q∧k q.1 q.2=some r
def Yr (cks:List (Nat×Ck)):Code→List (Nat×PK)
 | .region id ops d=>bif (oE ops||d)&&(look cks id).isSome then [(id,.region id ops d)] else []
 | .seq a b=>(bif C4 a b&&(look cks (gP a)).isSome then [(gP a,PK.join a)] else [])++(Yr cks a++Yr cks b)
 | .cond _ a b=>Yr cks a++Yr cks b
 | .block _ c=>Yr cks c
 | .loop c=>(bif (look cks (pY c)).isSome then [(pY c,PK.loop c)] else [])++Yr cks c
 | .rangeFunc _ _ asg c=>(bif (look cks (yV c)).isSome then [(yV c,PK.range asg c)] else [])++Yr cks c
 | _=>[]
def Vw (G:Env):Code→Bool
 | .region id ops d=>!d||(match look G.fps id with
   | some hs=>pR ops.toList hs
   | none=>false)
 | .seq a b=>Vw G a&&Vw G b
 | .cond _ a b=>Vw G a&&Vw G b
 | .block _ c=>Vw G c
 | .loop c=>Vw G c
 | .rangeFunc _ _ _ c=>Vw G c
 | _=>true
def dR (Q:Exit→Act→World→Prop) (nm:JY) (n:Nat) (a:Act) (w:World):Prop:=
 if n=hJ then ∃v,nm Vu=.func (.func 0) #[] #[v]∧Q (.panic [{ v,recovered:=false }]) a w else Q (.exit n) a w
def VD (Q:Exit→Act→World→Prop) (nm:JY):Ex→Act→World→Prop
 | 0,a,w=>Q .normal a w
 | 1,a,w=>Q .ret a w
 | n+2,a,w=>dR Q nm n a w
section
variable [GInv] {P:Program} {G:Env} {w0:World} {Z0:Bs}
def KeepE (l:List Nat) (e:Ex) (a a':Act):Prop:=Nat.beq e mA=false→KeepT l a a'
def KeepE.left {l m:List Nat} {e:Ex} {a b:Act} (h:KeepE l e a b):KeepE (l++m) e a b:=fun he=>(h he).left
def KeepE.right {l m:List Nat} {e:Ex} {a b:Act} (h:KeepE m e a b):KeepE (l++m) e a b:=fun he=>(h he).right
def zK {next:Act→World→Prop} {Q:Exit→Act→World→Prop} {e:Ex} (h:HI e=false) {a:Act} {w:World} {nm:JY} (hq:VD Q nm e a w):VD (Exit.then next Q) nm e a w:=by
 match e,h with
 | 1,_=>exact hq
 | n+2,_=>
   have hq:dR Q nm n a w:=hq
   show dR _ nm n a w
   unfold dR at hq ⊢
   split
   ·rename_i hn;rw [if_pos hn] at hq;exact hq
   ·rename_i hn;rw [if_neg hn] at hq;exact hq
def oW (hT:Uv P G.tab) (hF:AllOk P G) (hm:P.follows .mixedOrders=true) {id:Nat} {ops:Array Oper} {d:Bool} (hd:Vw G (.region id ops d)=true)
 {ρ:Type} {st:St} {a:Act} {w:World} {nm:JY} {k:Ex→St→Option ρ} {r:ρ} {Q:Exit→Act→World→Prop}
 (h:Rel G.n w0 Z0 st a w nm) (he:bH G id ops d ρ st k=some r) (hk:∀e st' a' w' nm',Rel G.n w0 Z0 st' a' w' nm'→k e st'=some r→KeepE (bA ops.toList) e a a'→VD Q nm' e a' w') (rd:Option Nat):(Code.region id ops d).wpIn (Fr rd) 0 P Q a w:=by
 unfold bH at he
 cases d with
 | false=>
   refine wpIn_region_list ?_
   refine tC hT hF (L:=bA ops.toList) (a0:=a) (fun st' a' w' nm' h' hk' hkt=>hk 0 _ a' w' nm' ((h'.norm (E6 G id)).forget _) hk' fun _=>hkt) (fun st' a' w' nm' v h' hv hk'=>?_) rd 0 ops.toList (fun _ ht=>ht) (KeepT.refl _ _) h he
   have:=hk mA _ a' w' nm' (h'.norm G) hk' (fun hh=>by simp [mA] at hh)
   have this:dR Q nm' hJ a' w':=this
   unfold dR at this
   rw [if_pos rfl] at this
   obtain ⟨v',q1,q2⟩:=this
   rw [hv] at q1
   cases q1
   exact q2
 | true=>
   simp only [zj] at he
   simp only [Vw,Bool.not_true,Bool.false_or] at hd
   split at he
   ·rename_i hs hl
    rw [hl] at hd
    refine AO (k:=fun st'=>k 0 (norm G st')) (kp:=fun st'=>k mA (norm G st')) hT hF hm hd h he (fun st' a' w' nm' h' hk' hkt=>hk 0 _ a' w' nm' (h'.norm G) hk' fun _=>hkt) (fun st' a' w' nm' v h' hv hk'=>?_) rd 0
    have:=hk mA _ a' w' nm' (h'.norm G) hk' (fun hh=>by simp [mA] at hh)
    have this:dR Q nm' hJ a' w':=this
    unfold dR at this
    rw [if_pos rfl] at this
    obtain ⟨v',q1,q2⟩:=this
    rw [hv] at q1
    cases q1
    exact q2
   ·cases he
def Hu (hT:Uv P G.tab) (hF:AllOk P G) (hm:P.follows .mixedOrders=true):∀(c:Code),Vw G c=true→(∀p∈Yr G.cks c,UF G p.1 p.2) →
 ∀{w0:World} {Z0:Bs} (rd:Option Nat),(rd=none∧Z0.calm=false∨NG c=false) → ∀{ρ:Type} {st:St} {a:Act} {w:World} {nm:JY} {k:Ex→St→Option ρ} {r:ρ} {Q:Exit→Act→World→Prop},
 Rel G.n w0 Z0 st a w nm→Vs G c ρ st k=some r→(∀e st' a' w' nm',Rel G.n w0 Z0 st' a' w' nm'→k e st'=some r→KeepE (rG c) e a a'→VD Q nm' e a' w')→c.wpIn (Fr rd) 0 P Q a w:=by
 intro c
 induction c with
 | skip=>intro _ _ w0 Z0 rd hrd ρ st a w nm k r Q h he hk;exact wpIn_skip (hk 0 st a w nm h he fun _=>KeepT.refl _ _)
 | label l=>intro _ _ w0 Z0 rd hrd ρ st a w nm k r Q h he hk;exact wpIn_label (hk 0 st a w nm h he fun _=>KeepT.refl _ _)
 | ret=>intro _ _ w0 Z0 rd hrd ρ st a w nm k r Q h he hk;exact wpIn_ret (hk 1 st a w nm h he fun _=>KeepT.refl _ _)
 | exit id=>
   intro _ _ w0 Z0 rd hrd ρ st a w nm k r Q h he hk
   unfold Vs at he
   cases hb:Nat.beq id hJ with
   | true=>rw [hb] at he;cases he
   | false=>
     rw [hb] at he
     have this:dR Q nm id a w:=hk (id+2) st a w nm h he fun _=>KeepT.refl _ _
     unfold dR at this
     rw [if_neg (Yi.1 hb)] at this
     exact wpIn_exit this
 | region id ops d=>
   intro hd hp w0 Z0 rd hrd ρ st a w nm k r Q h he hk
   unfold Vs at he
   cases hg:(oE ops||d) with
   | false=>
     rw [hg] at he
     exact oW hT hF hm hd h he hk rd
   | true=>
     rw [hg] at he
     simp only [zj] at he
     split at he
     ·rename_i s hs
      obtain ⟨p,h1,h2⟩:=(hp (id,.region id ops d) (by simp [Yr,hg,hs])) s hs ρ st k r he
      refine oW hT hF hm hd h h1 (fun e st' a' w' nm' h' hk' hkt=>?_) rd
      simp only [zd] at hk'
      subst hk'
      exact hk _ _ a' w' nm' h' h2 hkt
     ·exact oW hT hF hm hd h he hk rd
 | seq x y ihx ihy=>
   intro hd hp w0 Z0 rd hrd ρ st a w nm k r Q h he hk
   simp only [Vw,ze] at hd
   have hr2:(rd=none∧Z0.calm=false∨NG x=false)∧(rd=none∧Z0.calm=false∨NG y=false):=by
    rcases hrd with h | h
    ·exact ⟨.inl h,.inl h⟩
    ·simp only [NG,Bool.or_eq_false_iff] at h;exact ⟨.inr h.1,.inr h.2⟩
   have ihx:=@ihx hd.1 (fun p hq=>hp p (by simp only [Yr,List.mem_append];exact .inr (.inl hq))) w0 Z0 rd hr2.1
   have ihy:=@ihy hd.2 (fun p hq=>hp p (by simp only [Yr,List.mem_append];exact .inr (.inr hq))) w0 Z0 rd hr2.2
   refine wpIn_seq ?_
   have next:∀e st' a' w' nm',Rel G.n w0 Z0 st' a' w' nm'→(bif HI e then Vs G y ρ st' k else k e st')=some r→KeepE (rG x) e a a'→VD (Exit.then (y.wpIn (Fr rd) 0 P Q) Q) nm' e a' w':=by
    intro e st' a' w' nm' h' hk' hkt
    cases hn:HI e with
    | true=>
      rw [hn] at hk'
      have:e=0:=Jx.1 hn
      subst this
      exact ihy h' hk' fun e2 st2 a2 w2 nm2 h2 hk2 hkt2=>hk e2 st2 a2 w2 nm2 h2 hk2 fun he=>(hkt rfl).left.trans (hkt2 he).right
    | false=>
      rw [hn] at hk'
      exact zK hn (hk e st' a' w' nm' h' hk' hkt.left)
   unfold Vs at he
   cases hj:C4 x y with
   | false=>
     rw [hj] at he
     exact ihx h he next
   | true=>
     rw [hj] at he
     simp only [zj] at he
     split at he
     ·rename_i s hs
      obtain ⟨p,h1,h2⟩:=(hp (gP x,.join x) (by simp [Yr,hj,hs])) s hs ρ st _ r he
      refine ihx h h1 (fun e st' a' w' nm' h' hk' hkt=>?_)
      simp only [zd] at hk'
      subst hk'
      exact next _ _ a' w' nm' (h'.restrict _) h2 hkt
     ·exact ihx h he (fun e st' a' w' nm' h' hk' hkt=>next e _ a' w' nm' (h'.restrict _) hk' hkt)
 | cond c x y ihx ihy=>
   intro hd hp w0 Z0 rd hrd ρ st a w nm k r Q h he hk
   simp only [Vw,ze] at hd
   have hr2:(rd=none∧Z0.calm=false∨NG x=false)∧(rd=none∧Z0.calm=false∨NG y=false):=by
    rcases hrd with h | h
    ·exact ⟨.inl h,.inl h⟩
    ·simp only [NG,Bool.or_eq_false_iff] at h;exact ⟨.inr h.1,.inr h.2⟩
   have ihx:=@ihx hd.1 (fun p hq=>hp p (by simp only [Yr,List.mem_append];exact .inl hq)) w0 Z0 rd hr2.1
   have ihy:=@ihy hd.2 (fun p hq=>hp p (by simp only [Yr,List.mem_append];exact .inr hq)) w0 Z0 rd hr2.2
   unfold Vs at he
   split at he
   ·rename_i t
    split at he
    ·rename_i b hb
     have hc:a.eval (.tmp t)=.bool b:=lW h hb
     refine wpIn_cond hc ?_
     cases b with
     | true=>simp only [br] at he;exact ihx (h.delC G t) he fun e st' a' w' nm' h' hk' hkt=>hk e st' a' w' nm' h' hk' hkt.left
     | false=>simp only [br] at he;exact ihy (h.delC G t) he fun e st' a' w' nm' h' hk' hkt=>hk e st' a' w' nm' h' hk' hkt.right
    ·cases he
   ·have hc:a.eval (.const (.bool true))=.bool true:=rfl
    refine wpIn_cond hc ?_
    exact ihx h he fun e st' a' w' nm' h' hk' hkt=>hk e st' a' w' nm' h' hk' hkt.left
   ·have hc:a.eval (.const (.bool false))=.bool false:=rfl
    refine wpIn_cond hc ?_
    exact ihy h he fun e st' a' w' nm' h' hk' hkt=>hk e st' a' w' nm' h' hk' hkt.right
   ·cases he
 | block id c ih=>
   intro hd hp w0 Z0 rd hrd ρ st a w nm k r Q h he hk
   unfold Vs at he
   cases hbad:Nat.beq id hJ with
   | true=>rw [hbad] at he;cases he
   | false=>
   rw [hbad] at he
   refine wpIn_block (ih hd hp rd hrd h he (fun e st' a' w' nm' h' hk' hkt=>?_))
   cases hb:Nat.beq e (id+2) with
   | true=>
     rw [hb] at hk'
     have:=Jx.1 hb
     subst this
     show dR _ nm' id a' w'
     unfold dR
     rw [if_neg (Yi.1 hbad)]
     simp only [Exit.inBlock,if_true]
     exact hk 0 st' a' w' nm' h' hk' fun _=>hkt (by
      cases hb2:Nat.beq (id+2) mA with
      | false=>rfl
      | true=>exact absurd (Nat.add_right_cancel (Jx.1 hb2:id+2=hJ+2)) (Yi.1 hbad))
   | false=>
     rw [hb] at hk'
     have:=hk e st' a' w' nm' h' hk' hkt
     match e,hb with
     | 0,_=>exact this
     | 1,_=>exact this
     | n+2,hb=>
       have hne:¬n=id:=by intro hh;subst hh;exact absurd rfl (Yi.1 hb)
       have this:dR Q nm' n a' w':=this
       show dR _ nm' n a' w'
       unfold dR at this ⊢
       by_cases hn:n=hJ
       ·rw [if_pos hn] at this ⊢
        exact this
       ·rw [if_neg hn] at this ⊢
        simp only [Exit.inBlock,if_neg hne]
        exact this
 | loop c ih=>
   intro hd hp w0 Z0 rd hrd ρ st a w nm k r Q h he hk
   have ih:=@ih hd (fun p hq=>hp p (by simp only [Yr,List.mem_append];exact .inr hq)) w0 Z0 rd hrd
   obtain ⟨a0,ha0⟩:∃a0,a0=a:=⟨_,rfl⟩
   have key:∀(p:Ex×St),k p.1 p.2=some r → ∀(m:Nat) {st:St} {a:Act} {w:World} {nm:JY},Rel G.n w0 Z0 st a w nm→KeepT (rG c) a0 a→Hd (wZ G c) m st=some p→Code.roundsIn (Fr rd) 0 P c Q m a w:=by
    intro p hkp m
    induction m with
    | zero=>intro st a w nm _ _ hi;simp [Hd] at hi
    | succ m ihm=>
      intro st a w nm h hkt0 hi
      rw [roundsIn_succ]
      simp only [Hd] at hi
      split at hi
      ·rename_i s' hs
       refine ih h hs (fun e st' a' w' nm' h' hk' hkt=>?_)
       cases hn:HI e with
       | true=>
         rw [hn] at hk'
         simp only [zj,zd,Sum.inl.injEq] at hk'
         subst hk'
         have:e=0:=Jx.1 hn
         subst this
         exact ihm (h'.restrict st) (hkt0.trans (hkt rfl)) hi
       | false=>rw [hn] at hk';cases hk'
      ·rename_i p' hs
       simp only [zd] at hi
       subst hi
       refine ih h hs (fun e st' a' w' nm' h' hk' hkt=>?_)
       cases hn:HI e with
       | true=>rw [hn] at hk';cases hk'
       | false=>
         rw [hn] at hk'
         simp only [zk,zd,Sum.inr.injEq] at hk'
         subst hk'
         exact zK hn (hk e _ a' w' nm' (h'.restrict st) hkp fun he=>by rw [←ha0];exact hkt0.trans (hkt he))
      ·cases hi
   unfold Vs at he
   split at he
   ·rename_i s hs
    obtain ⟨p,h1,h2⟩:=(hp (pY c,.loop c) (by simp [Yr,hs])) s hs ρ st k r he
    obtain ⟨m,hm⟩:=iV h1
    exact wpIn_loop_rounds m (key p h2 m h (by rw [ha0];exact KeepT.refl _ _) hm)
   ·obtain ⟨p,h1,h2⟩:=ki he
    obtain ⟨m,hm⟩:=iV h1
    exact wpIn_loop_rounds m (key p h2 m h (by rw [ha0];exact KeepT.refl _ _) hm)
 | rangeFunc g ps asg body _ ih=>
   intro hd hp w0 Z0 rd hrd ρ st a w nm k r Q h he hk
   unfold Vs at he
   cases he
 | scope c _=>intro _ _ w0 Z0 rd hrd ρ st a w nm k r Q h he hk;unfold Vs at he;cases he
 | goto l=>intro _ _ w0 Z0 rd hrd ρ st a w nm k r Q h he hk;unfold Vs at he;cases he
 | refuse y=>intro _ _ w0 Z0 rd hrd ρ st a w nm k r Q h he hk;unfold Vs at he;cases he
def gG:∀(ts:List Ty) (i:Nat) {x:YL ts} {vs:List Value} {Z:Nat→Prop} {w:World},Ng w Z ts x vs →
 vs.length=ts.length ∧ ∀t d,look (gV i ts x) t=some d → ∃j ty y v,t=i+j∧d=.one (.val ty y)∧vs[j]?=some v∧Ux w Z ty v y
 | [],i,x,vs,Z,w,h=>by
   have h:vs=[]:=h
   subst h
   exact ⟨rfl,fun t d hl=>by simp [gV,look] at hl⟩
 | [ty],i,x,vs,Z,w,⟨v,e,h⟩=>by
   subst e
   refine ⟨rfl,fun t d hl=>?_⟩
   simp only [gV,look] at hl
   cases hb:Nat.beq i t with
   | false=>rw [hb] at hl;cases hl
   | true=>
     rw [hb] at hl
     have:=Jx.1 hb
     subst this
     simp only [zj,zd] at hl
     exact ⟨0,ty,x,v,rfl,hl.symm,rfl,h⟩
 | ty::t'::ts,i,x,vs,Z,w,⟨v,r,e,h1,h2⟩=>by
   subst e
   obtain ⟨l1,l2⟩:=gG (t'::ts) (i+1) h2
   refine ⟨by simp [l1],fun t d hl=>?_⟩
   simp only [gV,look] at hl
   cases hb:Nat.beq i t with
   | false=>
     rw [hb] at hl
     simp only [zk] at hl
     obtain ⟨j,ty',y,v',q1,q2,q3,q4⟩:=l2 t d hl
     exact ⟨j+1,ty',y,v',by omega,q2,by simpa using q3,q4⟩
   | true=>
     rw [hb] at hl
     have:=Jx.1 hb
     subst this
     simp only [zj,zd] at hl
     exact ⟨0,ty,x.1,v,rfl,hl.symm,rfl,h1⟩
def aF (hT:Uv P G.tab) {n:Nat} {st:St} {a:Act} {w:World} {nm:JY} (h:Rel n w0 Z0 st a w nm):∀(rv:List ResultVar) {ρ:Type} {k:List Dv→Option ρ} {r:ρ},cW G st rv k=some r →
 ∃(l:List Dv) (vs:List Value),k l=some r∧(rv.mapM fun (x:ResultVar)=>match x with
  | .tmp t=>(pure (a.tmps.getD t undef):Sem Value)
  | .cell p t=>do loadVar t (←asAddr (a.tmps.getD p undef))).run P w=.ok vs w∧vs.length=l.length ∧ ∀(i:Nat) d v,l[i]?=some d→vs[i]?=some v→Vf w (Zc w0 Z0 nm st.sj w) nm st.sj d v
 | [],_,k,r,he=>⟨[],[],he,rfl,rfl,fun i d v q _=>by simp at q⟩
 | .tmp t::rv,_,k,r,he=>by
   simp only [cW] at he
   split at he
   ·rename_i d h1
    obtain ⟨l,vs,he,q1,q2,q3⟩:=aF hT h rv he
    obtain ⟨v,s1,s2⟩:=h.mj t d h1
    refine ⟨_,v::vs,he,?_,by simp [q2],fun i d' v' p1 p2=>?_⟩
    ·have hg:a.tmps.getD t undef=v:=by simp [s1]
     rw [List.mapM_cons]
     simp only [Sem.run_bind,Sem.run_pure,hg,Result.andThen_ok,q1]
    ·cases i with
     | zero=>simp at p1 p2;subst p1;subst p2;exact s2
     | succ i=>exact q3 i d' v' (by simpa using p1) (by simpa using p2)
   ·cases he
 | .cell p t::rv,_,k,r,he=>by
   simp only [cW] at he
   split at he
   ·rename_i ti id h1 h2
    obtain ⟨v,s1,s2⟩:=h.mj p _ h2
    split at he
    ·rename_i cs hob
     obtain ⟨b,e1,e2⟩:=s2.2 cs hob
     subst e2
     obtain ⟨b',vs',T,p1,p2,p3,p4⟩:=h.sj id _ hob
     rw [e1] at p1
     cases p1
     have hcell:∀j,w.cell? ⟨b,j,none⟩=vs'[j]?:=fun j=>cell_of_row w b j vs' T (0,0) p2
     have hag:=(hT _ _ h1).agg w
     have hsz:=(hT _ _ h1).sizeOf w
     cases hst:ti.ty.isSt with
     | true=>
       rw [hst] at he hag
       simp only [zj] at he
       cases hle:Nat.ble ti.ty.cells cs.length with
       | false=>rw [hle] at he;cases he
       | true=>
         rw [hle] at he
         have hle:=Nat.le_of_ble_eq_true hle
         simp only [zj] at he
         obtain ⟨l,vs,he,q1,q2,q3⟩:=aF hT h rv he
         have hl:=run_loadCells_list (P:=P) (w:=w) ⟨b,0,none⟩ (vs'.toList.take ti.ty.cells) (fun j v hj=>by
          rw [Addr.add_lit,zv,hcell,←Array.getElem?_toList]
          rw [List.getElem?_take] at hj
          split at hj
          ·exact hj
          ·cases hj)
         have hln:(vs'.toList.take ti.ty.cells).length=ti.ty.cells:=by rw [List.length_take,p3.1];omega
         rw [hln] at hl
         refine ⟨_,.agg (vs'.toList.take ti.ty.cells).toArray::vs,he,?_,by simp [q2],fun i d' v' r1 r2=>?_⟩
         ·have hg:a.tmps.getD p undef=.pointer (some ⟨b,0,none⟩):=by simp [s1]
          have hA:(asAddr (.pointer (some ⟨b,0,none⟩))).run P w=.ok ⟨b,0,none⟩ w:=rfl
          have hLV:(loadVar t ⟨b,0,none⟩).run P w=.ok (.agg (vs'.toList.take ti.ty.cells).toArray) w:=by
           simp [loadVar,hag,hsz,hl]
          rw [List.mapM_cons]
          simp only [Sem.run_bind,Sem.run_pure,hg,Result.andThen_ok,hA,hLV,q1]
         ·cases i with
          | zero=>
            simp at r1 r2;subst r1;subst r2
            exact ⟨_,rfl,fL p3 ti.ty.cells,fun u hu=>p4.1 u (List.mem_of_mem_take hu)⟩
          | succ i=>exact q3 i d' v' (by simpa using r1) (by simpa using r2)
     | false=>
       rw [hst] at he hag
       simp only [zk] at he
       split at he
       ·rename_i x hx
        obtain ⟨l,vs,he,q1,q2,q3⟩:=aF hT h rv he
        have hlt:0<vs'.toList.length:=by rw [p3.1];exact (Z6.1 hx).1
        have hv:vs'.toList[0]?=some vs'.toList[0]:=Z7 hlt
        have hc0:=hcell 0
        rw [←Array.getElem?_toList,hv] at hc0
        refine ⟨_,vs'.toList[0]::vs,he,?_,by simp [q2],fun i d' v' r1 r2=>?_⟩
        ·have hg:a.tmps.getD p undef=.pointer (some ⟨b,0,none⟩):=by simp [s1]
         have hA:(asAddr (.pointer (some ⟨b,0,none⟩))).run P w=.ok ⟨b,0,none⟩ w:=rfl
         have hLV:(loadVar t ⟨b,0,none⟩).run P w=.ok vs'.toList[0] w:=by
          simp [loadVar,hag,hc0]
         rw [List.mapM_cons]
         simp only [Sem.run_bind,Sem.run_pure,hg,Result.andThen_ok,hA,hLV,q1]
        ·cases i with
         | zero=>simp at r1 r2;subst r1;subst r2;exact p3.2 0 x _ hx hv
         | succ i=>exact q3 i d' v' (by simpa using r1) (by simpa using r2)
       ·cases he
    ·cases he
   ·
    rename_i m s' n' e' id ver h1 h2
    obtain ⟨v,s1,s2⟩:=h.mj p _ h2
    split at he
    ·rename_i v0 fz e s xs hob
     split at he
     ·rename_i hs
      subst hs
      cases hv:Nat.beq v0 ver with
      | false=>rw [hv] at he;cases he
      | true=>
        rw [hv] at he
        have:=Jx.1 hv
        subst this
        simp only [zj] at he
        obtain ⟨_,hb,he⟩:=ki he
        have hb:=zw (Ua hb)
        obtain ⟨l,vs,he,q1,q2,q3⟩:=aF hT h rv he
        obtain ⟨b,mm,c,s4,s5⟩:=s2.2 fz e s xs hob
        obtain ⟨_,cells,t1,t2⟩:=(h.sj id _ hob).of s4
        rcases t1.2 with ⟨t3,_⟩ | ⟨g,cap,cur,t3,t4,t5,t6,t7,t8⟩
        ·rw [s4] at t3;cases t3
        rw [s4] at t3
        cases t3
        have hcell:∀k u,cells[k]?=some u→w.cell? ⟨b,k,none⟩=some u:=by
         intro k u hk
         rw [t4.cell,←Array.getElem?_toList]
         rw [←t8,List.getElem?_take] at hk
         split at hk
         ·exact hk
         ·cases hk
        obtain ⟨v',l1,l2⟩:=cQ (P:=P) (w:=w) (hT _ _ h1) (cs:=cells) (d:=xs) ⟨hb,t2⟩ (NH (hT _ _ h1)) (b:=b) (q:=0) (fun k u hk=>by rw [zv];exact hcell k u hk)
        refine ⟨_,v'::vs,he,?_,by simp [q2],fun i d' v2 r1 r2=>?_⟩
        ·have hg:a.tmps.getD p undef=.pointer (some ⟨b,0,none⟩):=by simp [s1,s5]
         have hA:(asAddr (.pointer (some ⟨b,0,none⟩))).run P w=.ok ⟨b,0,none⟩ w:=rfl
         have hLV:(loadVar t ⟨b,0,none⟩).run P w=.ok v' w:=by simpa [Instr.loadAt,Instr.sureAddr] using l1
         rw [List.mapM_cons]
         simp only [Sem.run_bind,Sem.run_pure,hg,Result.andThen_ok,hA,hLV,q1]
        ·cases i with
         | zero=>simp at r1 r2;subst r1;subst r2;exact l2
         | succ i=>exact q3 i d' v2 (by simpa using r1) (by simpa using r2)
     ·cases he
    ·cases he
   ·
    rename_i s' fs id ver h1 h2
    obtain ⟨v,s1,s2⟩:=h.mj p _ h2
    split at he
    ·rename_i v0 fz e s xs hob
     split at he
     ·rename_i hs
      subst hs
      cases hv:Nat.beq v0 ver with
      | false=>rw [hv] at he;cases he
      | true=>
        rw [hv] at he
        have:=Jx.1 hv
        subst this
        simp only [zj] at he
        obtain ⟨y,hy,he⟩:=ki he
        obtain ⟨i1,i2,i3⟩:=eD hy
        obtain ⟨l,vs,he,q1,q2,q3⟩:=aF hT h rv he
        obtain ⟨b,mm,c,s4,s5⟩:=s2.2 fz e (.st s') xs hob
        obtain ⟨_,cells,t1,t2⟩:=(h.sj id _ hob).of s4
        rcases t1.2 with ⟨t3,_⟩ | ⟨g,cap,cur,t3,t4,t5,t6,t7,t8⟩
        ·rw [s4] at t3;cases t3
        rw [s4] at t3
        cases t3
        obtain ⟨c1,c2,c3,r1,r2,r3,_⟩:=eJ (fun _ _=>Yy (.st s')) t2 i3
        have hz:c1=[]:=zl (by rw [r2];simp)
        subst hz
        have hcell:∀k u,c2[k]?=some u→w.cell? ⟨b,k,none⟩=some u:=by
         intro k u hk
         rw [t4.cell,←Array.getElem?_toList]
         have hk':cells[k]?=some u:=by
          rw [r1,List.nil_append,List.getElem?_append_left (Z6.1 hk).1]
          exact hk
         rw [←t8,List.getElem?_take] at hk'
         split at hk'
         ·exact hk'
         ·cases hk'
        obtain ⟨v',l1,l2⟩:=cQ (P:=P) (w:=w) (hT _ _ h1) (cs:=c2) (d:=y) r3 (NH (hT _ _ h1)) (b:=b) (q:=0) (fun k u hk=>by rw [zv];exact hcell k u hk)
        refine ⟨_,v'::vs,he,?_,by simp [q2],fun i d' v2 r1 r2=>?_⟩
        ·have hg:a.tmps.getD p undef=.pointer (some ⟨b,0,none⟩):=by simp [s1,s5]
         have hA:(asAddr (.pointer (some ⟨b,0,none⟩))).run P w=.ok ⟨b,0,none⟩ w:=rfl
         have hLV:(loadVar t ⟨b,0,none⟩).run P w=.ok v' w:=by simpa [Instr.loadAt,Instr.sureAddr] using l1
         rw [List.mapM_cons]
         simp only [Sem.run_bind,Sem.run_pure,hg,Result.andThen_ok,hA,hLV,q1]
        ·cases i with
         | zero=>simp at r1 r2;subst r1;subst r2;exact l2
         | succ i=>exact q3 i d' v2 (by simpa using r1) (by simpa using r2)
     ·cases he
    ·cases he
   ·cases he
def tK {n:Nat} {st:St} {a:Act} {w:World} {nm:JY} (h:Rel n w0 Z0 st a w nm) {ts:List Ty} {ds:List Dv} {x:YL ts} {u:kY} (he:args (look st.sj) ts ds=some (x,u))
 {vs:List Value} (hl:vs.length=ds.length) (hr:∀(i:Nat) d v,ds[i]?=some d→vs[i]?=some v→Vf w (Zc w0 Z0 nm st.sj w) nm st.sj d v):∃Z,(∀b,Z b→b<w.heap.size∧(b<w0.heap.size→Z0.z b∨Z0.m b))∧Ng w Z ts x vs:=by
 obtain ⟨fu,frd⟩:=uB (n:=n) (w0:=w0) (w:=w) (Z0:=Z0) (a:=a) (nm:=nm) ts he
 obtain ⟨st1,hl1⟩:=FzUpd.lays u h fu
 obtain ⟨hrel,hfz,hcold⟩:=Rel.freezes u h fu hl1
 have hk1:Kept w w (Zc w0 Z0 nm st.sj w) (Zc w0 Z0 nm st1.sj w):=fun b hb=>⟨hfz.zc hb,rfl⟩
 exact ⟨Zc w0 Z0 nm st1.sj w,fun b hb=>⟨hb.1,hb.2.1⟩,frd st1 ⟨hfz,hrel,hcold⟩ vs hl (fun i d v q1 q2=>Uu hk1 (DvOk.refl _ _ _) (hr i d v q1 q2))⟩
def E7 (hT:Uv P G.tab) (hF:AllOk P G) (hm:P.follows .mixedOrders=true) {f:FuncId} {fn:Func} {c:Code} {ps rs:List Ty} (hf:P.funcs[f]?=some fn) (hb:fn.body=some c) (hn:fn.ntmps=G.n) (hps:ps.length≤G.n)
 (hrs:fn.results.toList.length=rs.length) (hd:Vw G c=true) (hp:∀p∈Yr G.cks c,UF G p.1 p.2)
 (w:World) (Z:Nat→Prop) (vs:List Value) (x:YL ps) (r:YL rs) (hg:GInv.ok w) (hZ:∀b,Z b→b<w.heap.size) (hargs:Ng w Z ps x vs) (he:den G fn ps rs x=some r) :
 Calls P f vs.toArray w fun e w'=>∃v,e=.returned v∧Same w w'∧bV w' (aQ w w' Z) rs r v:=by
 refine callsIn_wide.1 (show CallsIn (Fr none) 0 P f vs.toArray w _ from callsIn_of_wp_marks hf hb trivial ?_ rfl)
 unfold den at he
 rw [hb] at he
 simp only at he
 obtain ⟨l1,l2⟩:=gG ps 0 hargs
 have hrel:Rel G.n w ⟨Z,fun _=>False,fun _=>undef,[],false⟩ ⟨gV 0 ps x,[]⟩ { tmps:=vs.toArray++Array.replicate (fn.ntmps-vs.toArray.size) undef,defers:=[] } w (fun _=>undef):=by
  refine ⟨⟨[],rfl,Marks.nil _ _ _⟩,by simp [hn];omega,fun t d hl=>?_,fun id ob hl=>by simp [look] at hl,fun id ob b hl=>by simp [look] at hl,fun id id' ob ob' b hl=>by simp [look] at hl,SameBut.refl _ w,fun id ob _ hl=>by simp [look] at hl,⟨hg,fun b hb=>hb.elim⟩,fun hh=>(by cases hh)⟩
  obtain ⟨j,ty,y,v,rfl,rfl,q3,q4⟩:=l2 t d hl
  have hj:j<vs.length:=(Z6.1 q3).1
  refine ⟨v,?_,bJ (fun b hb=>⟨⟨hZ b hb,fun _=>.inl hb,?_⟩,fun _ _ hu=>hu⟩) q4⟩
  ·rw [zv,Array.getElem?_append_left (by simpa using hj)]
   simpa using q3
  ·rintro ⟨id,ob,h1,_⟩
   simp [look] at h1
 refine Hu hT hF hm c hd hp none (.inl ⟨rfl,rfl⟩) hrel he ?_
 intro e st' a' w' nm' h1' hk1 _
 have key:∀w',Rel G.n w ⟨Z,fun _=>False,fun _=>undef,[],false⟩ st' { tmps:=a'.tmps,defers:=[] } w' nm'→Nat.blt e 2=true∧LeavesIn (Fr none) 0 P fn a'.tmps (fun e w'=>∃v,e=.returned v∧Same w w'∧bV w' (aQ w w' Z) rs r v) [] .returning w':=by
  intro w' h'
  have hk:=hk1
  unfold FT at hk
  cases hlt:Nat.blt e 2 with
  | false=>rw [hlt] at hk;cases hk
  | true=>
   refine ⟨rfl,?_⟩
   rw [hlt] at hk
   simp only [zj] at hk
   obtain ⟨l,rvs,hk,q1,q2,q3⟩:=aF hT h' fn.results.toList hk
   ·split at hk
    ·rename_i x' u hx
     simp only [zd] at hk
     subst hk
     obtain ⟨Z1,hz1,hr1⟩:=tK h' hx q2 q3
     have hk1:Kept w' w' Z1 (aQ w w' Z):=fun b hb=>⟨by
      have:=hz1 b hb
      by_cases hlt:b<w.heap.size
      ·exact .inl ((this.2 hlt).resolve_right id)
      ·exact .inr ⟨by omega,this.1⟩,rfl⟩
     have hr2:=cJ hk1 rs hr1
     have hrun:(results fn a'.tmps).run P w'=.ok (if h:rvs.toArray.size=1 then rvs.toArray[0] else .tuple rvs.toArray) w':=by
      unfold results
      rw [Array.mapM_eq_mapM_toList]
      simp only [Sem.run_bind,Sem.run_map]
      erw [q1]
      simp only [Result.andThen_ok,Sem.run_pure]
     have hpost:∃v,(results fn a'.tmps).run P w'=.ok v w' ∧ ∃v',Ending.returned v=.returned v'∧Same w w'∧bV w' (aQ w w' Z) rs x' v':=by
      refine ⟨_,hrun,_,rfl,⟨h'.same.os,h'.same.tape,h'.same.output,h'.same.size,fun b hb=>h'.same.block b hb id⟩,?_⟩
      match rs,x',hr2 with
      | [],x',h => 
        have h0:rvs=[]:=h
        subst h0
        exact ⟨#[],rfl,rfl⟩
      | [t],x',⟨v,e,h⟩=>subst e;exact h
      | t::t'::ts,x',h=>
        have hln:=(gG (t::t'::ts) 0 h).1
        obtain ⟨v,r,e,h1,h2⟩:=h
        have hne:¬rvs.toArray.size=1:=by
         simp only [List.size_toArray,hln,zg]
         omega
        rw [dif_neg hne]
        exact ⟨_,rfl,v,r,e,h1,h2⟩
     exact hpost
    ·cases hk
 have hl:=h1'.leaves (P:=P) (fn:=fn) rfl (u:=.returning) (by simp) fun w2 h2=>(key w2 h2).2
 match e,(key w' (h1'.bare rfl)).1 with
 | 0,_=>exact hl
 | 1,_=>exact hl
 | n+2,h=>rw [Nat.blt_eq] at h;omega
def iE:∀{l:List (Nat×SD)} {i:Nat} {x:jq (SS.tys l)} {t:Nat} {d:Dv},Nh i l=true→look (SS.inj l x) t=some d → ∃j,t=i+j∧(SS.inj l x)[j]?=some (t,d)
 | [],i,x,t,d,_,h=>by simp [SS.inj,look] at h
 | p::r,i,x,t,d,hs,h=>by
   simp only [Nh,ze] at hs
   simp only [SS.inj,look] at h
   cases hb:Nat.beq p.1 t with
   | true=>
     rw [hb] at h
     simp only [zj,zd] at h
     have e1:=Jx.1 hb
     have e2:=Jx.1 hs.1
     exact ⟨0,by omega,by simp [SS.inj,h,e1]⟩
   | false=>
     rw [hb] at h
     obtain ⟨j,h1,h2⟩:=iE hs.2 h
     exact ⟨j+1,by omega,by simpa [SS.inj] using h2⟩
def nE:∀{l:List (Nat×SO)} {j i:Nat},look (fC l) j=some i→i=j
 | [],j,i,h=>by simp [fC,look] at h
 | p::r,j,i,h=>by
   simp only [fC,look] at h
   cases hb:Nat.beq p.1 j with
   | true=>rw [hb] at h;simp only [zj,zd] at h;rw [←h];exact Jx.1 hb
   | false=>rw [hb] at h;exact nE h
def w9 {w w':World} {Z:Nat→Prop} {nm nm':JY} {pre:Sj} {x:jq pre.tys} {st':St} {a':Act} (h':Rel G.n w (Bs.of Z nm (pre.inj x).sj) st' a' w' nm')
 {post:Sj} {l:List Dv} {y':jq post.tys} {u:kY} {σ:Ren} (hbi:UH (look st'.sj) (fC pre.sj) post l=some (y',u,σ)) (hko:dL (look st'.sj) σ=true)
 {rvs:List Value} (q2:rvs.length=l.length) (q3:∀(i:Nat) d v,l[i]?=some d→rvs[i]?=some v→Vf w' (Zc w (Bs.of Z nm (pre.inj x).sj) nm' st'.sj w') nm' st'.sj d v) :
 ∃nm2,Post w w' (Bs.of Z nm (pre.inj x).sj) nm2 (post.inj y') (if h:rvs.toArray.size=1 then rvs.toArray[0] else .tuple rvs.toArray):=by
 have hself:InjR (fC pre.sj):=fun j j' i h1 h2=>(nE h1).symm.trans (nE h2)
 obtain ⟨fu,_,hi,l3,hall⟩:=sL h' hbi hself
 obtain ⟨st1,hl1⟩:=FzUpd.lays u h' fu
 obtain ⟨hrel1,hfz,m,hrd⟩:=hall st1 hl1
 have hown:∀b,bT (cA nm' σ) (post.inj y').sj b→bT nm' st1.sj b:=by
  rintro b ⟨j,obT,h1,h2,h3⟩
  obtain ⟨i,ob,p1,p2,_,p3,_⟩:=m j obT h1
  rw [UI p1] at h3
  exact ⟨i,ob,p2,p3 (fun hg=>by rw [hg] at h2;cases h2),h3⟩
 obtain ⟨r1,r2⟩:=hrd (Zc w (Bs.of Z nm (pre.inj x).sj) (cA nm' σ) (post.inj y').sj w') (fun b hb=>⟨hb.1,hb.2.1,fun hh=>hb.2.2 (hown b hh)⟩)
 have r3:=r2 rvs q2 q3
 have hsl:(post.inj y').mj.length=post.mj.length:=by
  show (SS.inj post.mj _).length=_
  have:∀(l:List (Nat×SD)) (y:jq (SS.tys l)),(SS.inj l y).length=l.length:=by
   intro l
   induction l with
   | nil=>intro y;rfl
   | cons p l ih=>intro y;simp [SS.inj,ih]
  exact this _ _
 have hrl:rvs.length=(post.inj y').mj.length:=by rw [hsl,q2,l3]
 refine ⟨cA nm' σ,h'.same,?_,r1,fun j obT b ho hb=>?_,fun j j' obT obT' b ho ho' hb hb'=>?_,fun j obT hg ho hh=>?_,fun j obT ho=>?_⟩
 ·unfold DN
  split
  ·rename_i p hp1
   rw [hp1] at hrl
   obtain ⟨v,rfl⟩:=List.length_eq_one_iff.1 hrl
   exact r3 0 p v (by rw [hp1];rfl) rfl
  ·rename_i hp1
   have hne:¬rvs.toArray.size=1:=by
    simp only [List.size_toArray]
    intro h1
    rw [h1] at hrl
    match hsls:(post.inj y').mj,hrl with
    | [p],_=>exact hp1 p hsls
   rw [dif_neg hne]
   exact ⟨_,rfl,hrl,r3⟩
 ·obtain ⟨i,ob,p1,p2,_⟩:=m j obT ho
  rw [UI p1] at hb
  exact hrel1.new i ob b p2 hb
 ·obtain ⟨i,ob,p1,p2,_⟩:=m j obT ho
  obtain ⟨i',ob',p1',p2',_⟩:=m j' obT' ho'
  rw [UI p1] at hb
  rw [UI p1'] at hb'
  have:=hrel1.inj i i' ob ob' b p2 p2' hb hb'
  subst this
  exact hi j j' i p1 p1'
 ·obtain ⟨i,ob,p1,p2,p3,_,_,p4,p5,p6⟩:=m j obT ho
  have hq:=zy.1 hko (j,i) (Ul p1)
  simp only [Bool.or_eq_true,ze,Nat.blt_eq] at hq
  rcases hq with hq | ⟨hq,hq2⟩
  ·omega
  ·have:=Jx.1 hq
   subst this
   rw [UI p1]
   refine hrel1.given j ob hg p2 ?_
   cases obT with
   | gone=>exact hh.elim
   | box cs=>obtain ⟨cs',e1⟩:=p5 cs rfl;subst e1;trivial
   | clo f y z=>obtain ⟨y',z',e1⟩:=p6 f y z rfl;subst e1;trivial
   | arr v fz e t xs=>
     obtain ⟨e0,v',e1⟩:=p4 v fz e t xs rfl
     subst e1
     obtain ⟨g1,_⟩:=hh
     refine ⟨g1,?_⟩
     rcases hq2 with hq2 | hq2
     ·omega
     ·rw [p3] at hq2
      exact Jx.1 hq2
 ·obtain ⟨i,ob,_,_,_,_,p,_⟩:=m j obT ho
  exact p
def CN (hT:Uv P G.tab) (hF:AllOk P G) (hm:P.follows .mixedOrders=true) {f:FuncId} {fn:Func} {c:Code} {pre post:Sj} (hf:P.funcs[f]?=some fn) (hb:fn.body=some c) (hn:fn.ntmps=G.n)
 (hps:pre.mj.length≤G.n) (hs:Nh 0 pre.mj=true) (hd:Vw G c=true) (hp:∀p∈Yr G.cks c,UF G p.1 p.2)
 (w:World) (Z:Nat→Prop) (nm:JY) (vs:List Value) (x:jq pre.tys) (y:jq post.tys) (hpre:Pre w Z nm (pre.inj x) vs) (he:CL G fn pre post x=some y) :
 Calls P f vs.toArray w fun e w'=>∃v nm',e=.returned v∧Post w w' (Bs.of Z nm (pre.inj x).sj) nm' (post.inj y) v:=by
 refine callsIn_wide.1 (show CallsIn (Fr none) 0 P f vs.toArray w _ from callsIn_of_wp_marks hf hb trivial ?_ rfl)
 unfold CL at he
 rw [hb] at he
 simp only at he
 have hlen:vs.length=pre.mj.length:=by
  rw [hpre.len]
  show (SS.inj pre.mj _).length=_
  have:∀(l:List (Nat×SD)) (y:jq (SS.tys l)),(SS.inj l y).length=l.length:=by
   intro l
   induction l with
   | nil=>intro y;rfl
   | cons p l ih=>intro y;simp [SS.inj,ih]
  exact this _ _
 have hrel:Rel G.n w (Bs.of Z nm (pre.inj x).sj) (pre.inj x) { tmps:=vs.toArray++Array.replicate (fn.ntmps-vs.toArray.size) undef,defers:=[] } w nm:=by
  refine ⟨⟨[],rfl,Marks.nil _ _ _⟩,by simp [hn];omega,fun t d hl=>?_,hpre.sj,fun id ob b ho hb=>⟨.inr ⟨id,ob,ho,hpre.mine id ob ho,hb⟩,hpre.lt id ob b ho hb⟩,hpre.inj,SameBut.refl _ w,fun id ob _ _ _=>rfl,hpre.glob,fun hh=>(by cases hh)⟩
  obtain ⟨j,e1,e2⟩:=iE (l:=pre.mj) hs hl
  rw [zv] at e1
  subst e1
  have hj:t<vs.length:=by
   have:=(Z6.1 e2).1
   rw [hpre.len]
   exact this
  have hv:vs[t]?=some vs[t]:=Z7 hj
  refine ⟨vs[t],?_,hpre.mj t (t,d) _ e2 hv⟩
  rw [Array.getElem?_append_left (by simpa using hj)]
  simp
 refine Hu hT hF hm c hd hp none (.inl ⟨rfl,rfl⟩) hrel he ?_
 intro e st' a' w' nm' h1' hk1 _
 have key:∀w',Rel G.n w (Bs.of Z nm (pre.inj x).sj) st' { tmps:=a'.tmps,defers:=[] } w' nm'→Nat.blt e 2=true∧LeavesIn (Fr none) 0 P fn a'.tmps (fun e w'=>∃v nm',e=.returned v∧Post w w' (Bs.of Z nm (pre.inj x).sj) nm' (post.inj y) v) [] .returning w':=by
  intro w' h'
  have hk:=hk1
  unfold BE at hk
  cases hlt:Nat.blt e 2 with
  | false=>rw [hlt] at hk;cases hk
  | true=>
   refine ⟨rfl,?_⟩
   rw [hlt] at hk
   simp only [zj] at hk
   obtain ⟨l,rvs,hk,q1,q2,q3⟩:=aF hT h' fn.results.toList hk
   ·split at hk
    ·rename_i y' u σ hbi
     cases hko:dL (look st'.sj) σ with
     | false=>rw [hko] at hk;cases hk
     | true=>
     rw [hko] at hk
     simp only [zj,zd] at hk
     subst hk
     obtain ⟨nm2,hp2⟩:=w9 h' hbi hko q2 q3
     have hrun:(results fn a'.tmps).run P w'=.ok (if h:rvs.toArray.size=1 then rvs.toArray[0] else .tuple rvs.toArray) w':=by
      unfold results
      rw [Array.mapM_eq_mapM_toList]
      simp only [Sem.run_bind,Sem.run_map]
      erw [q1]
      simp only [Result.andThen_ok,Sem.run_pure]
     exact ⟨_,hrun,_,nm2,rfl,hp2⟩
    ·cases hk
 have hl:=h1'.leaves (P:=P) (fn:=fn) rfl (u:=.returning) (by simp) fun w2 h2=>(key w2 h2).2
 match e,(key w' (h1'.bare rfl)).1 with
 | 0,_=>exact hl
 | 1,_=>exact hl
 | n+2,h=>rw [Nat.blt_eq] at h;omega
def CM (hT:Uv P G.tab) (hF:AllOk P G) (hm:P.follows .mixedOrders=true) {f:FuncId} {fn:Func} {c:Code} {pre post:Sj} {pan:Bool} {post2:Sj} (hf:P.funcs[f]?=some fn) (hb:fn.body=some c) (hn:fn.ntmps=G.n)
 (hps:pre.mj.length≤G.n) (hs:Nh 0 pre.mj=true) (hd:Vw G c=true) (hp:∀p∈Yr G.cks c,UF G p.1 p.2)
 (w:World) (Z:Nat→Prop) (nm:JY) (vs:List Value) (x:jq pre.tys) (y:jq post.tys⊕jq post2.tys) (hpre:Pre w Z nm (pre.inj x) vs) (he:CK G fn pre post pan post2 x=some y) :
 Calls P f vs.toArray w fun e w'=>∃v nm',match y with
  | .inl y=>e=.returned v∧Post w w' (Bs.of Z nm (pre.inj x).sj) nm' (post.inj y) v
  | .inr y=>e=(bif pan then .panicked [{ v,recovered:=false }] else .returned v)∧Post w w' (Bs.of Z nm (pre.inj x).sj) nm' (post2.inj y) v:=by
 refine callsIn_wide.1 (show CallsIn (Fr none) 0 P f vs.toArray w _ from callsIn_of_wp_marks hf hb trivial ?_ rfl)
 unfold CK at he
 rw [hb] at he
 simp only at he
 have hlen:vs.length=pre.mj.length:=by
  rw [hpre.len]
  show (SS.inj pre.mj _).length=_
  have:∀(l:List (Nat×SD)) (y:jq (SS.tys l)),(SS.inj l y).length=l.length:=by
   intro l
   induction l with
   | nil=>intro y;rfl
   | cons p l ih=>intro y;simp [SS.inj,ih]
  exact this _ _
 have hrel:Rel G.n w (Bs.of Z nm (pre.inj x).sj) (pre.inj x) { tmps:=vs.toArray++Array.replicate (fn.ntmps-vs.toArray.size) undef,defers:=[] } w nm:=by
  refine ⟨⟨[],rfl,Marks.nil _ _ _⟩,by simp [hn];omega,fun t d hl=>?_,hpre.sj,fun id ob b ho hb=>⟨.inr ⟨id,ob,ho,hpre.mine id ob ho,hb⟩,hpre.lt id ob b ho hb⟩,hpre.inj,SameBut.refl _ w,fun id ob _ _ _=>rfl,hpre.glob,fun hh=>(by cases hh)⟩
  obtain ⟨j,e1,e2⟩:=iE (l:=pre.mj) hs hl
  rw [zv] at e1
  subst e1
  have hj:t<vs.length:=by
   have:=(Z6.1 e2).1
   rw [hpre.len]
   exact this
  have hv:vs[t]?=some vs[t]:=Z7 hj
  refine ⟨vs[t],?_,hpre.mj t (t,d) _ e2 hv⟩
  rw [Array.getElem?_append_left (by simpa using hj)]
  simp
 refine Hu hT hF hm c hd hp none (.inl ⟨rfl,rfl⟩) hrel he ?_
 intro e st' a' w' nm' h1' hk1 _
 cases hlt:Nat.blt e 2 with
 | false=>
   have hk:=hk1
   have h':=h1'.bare rfl
   unfold uG at hk
   rw [hlt] at hk
   simp only [zk] at hk
   cases hpe:pan&&Nat.beq e mA with
   | false=>rw [hpe] at hk;cases hk
   | true=>
     rw [hpe] at hk
     simp only [zj] at hk
     rw [ze] at hpe
     obtain ⟨hpn,hpe⟩:=hpe
     have:=Jx.1 hpe
     subst this
     subst hpn
     split at hk
     ·rename_i b ho
      split at hk
      ·rename_i y' u σ hbi
       cases hko:dL (look st'.sj) σ with
       | false=>rw [hko] at hk;cases hk
       | true=>
         rw [hko] at hk
         simp only [zj,zd] at hk
         subst hk
         show dR _ nm' hJ a' w'
         unfold dR
         rw [if_pos rfl]
         obtain ⟨vx,vy,g1,g2,g3⟩:=h'.sj Vu _ ho
         have e1:vx=#[]:=by
          have:=g2.1
          simp at this
          exact this
         obtain ⟨v,e2⟩:∃v,vy=#[v]:=by
          have:=g3.1
          match hv:vy.toList,this with
          | [v],_=>exact ⟨v,by rw [←Array.toArray_toList (xs:=vy),hv]⟩
         subst e1;subst e2
         refine ⟨v,g1,h1'.leaves rfl (by simp) fun w2 h2=>?_⟩
         obtain ⟨vx2,vy2,g12,g22,g32⟩:=h2.sj Vu _ ho
         have hv2:vy2=#[v]:=by
          have e:=g1.symm.trans g12
          simp only [Value.func.injEq] at e
          exact e.2.2.symm
         subst hv2
         obtain ⟨nm2,hp2⟩:=w9 h2 hbi hko (rvs:=[v]) rfl (fun i d u h1 h2=>by
          cases i with
          | succ i=>simp at h1
          | zero=>
            simp only [List.getElem?_cons_zero,zd] at h1 h2
            subst h1;subst h2
            exact g32.2 0 _ _ rfl rfl)
         exact ⟨v,nm2,rfl,hp2⟩
      ·cases hk
     ·cases hk
 | true=>
  have key:∀w',Rel G.n w (Bs.of Z nm (pre.inj x).sj) st' { tmps:=a'.tmps,defers:=[] } w' nm'→LeavesIn (Fr none) 0 P fn a'.tmps (fun e w'=>∃v nm',match y with
   | .inl y=>e=.returned v∧Post w w' (Bs.of Z nm (pre.inj x).sj) nm' (post.inj y) v
   | .inr y=>e=(bif pan then .panicked [{ v,recovered:=false }] else .returned v)∧Post w w' (Bs.of Z nm (pre.inj x).sj) nm' (post2.inj y) v) [] .returning w':=by
   intro w' h'
   have hk:=hk1
   unfold uG at hk
   rw [hlt] at hk
   simp only [zj] at hk
   obtain ⟨l,rvs,hk,q1,q2,q3⟩:=aF hT h' fn.results.toList hk
   have hrun:(results fn a'.tmps).run P w'=.ok (if h:rvs.toArray.size=1 then rvs.toArray[0] else .tuple rvs.toArray) w':=by
    unfold results
    rw [Array.mapM_eq_mapM_toList]
    simp only [Sem.run_bind,Sem.run_map]
    erw [q1]
    simp only [Result.andThen_ok,Sem.run_pure]
   have fin:(∃v nm',match y with
    | .inl y=>Ending.returned (if h:rvs.toArray.size=1 then rvs.toArray[0] else .tuple rvs.toArray)=.returned v∧Post w w' (Bs.of Z nm (pre.inj x).sj) nm' (post.inj y) v
    | .inr y=>Ending.returned (if h:rvs.toArray.size=1 then rvs.toArray[0] else .tuple rvs.toArray)=(bif pan then .panicked [{ v,recovered:=false }] else .returned v)∧Post w w' (Bs.of Z nm (pre.inj x).sj) nm' (post2.inj y) v) →
    LeavesIn (Fr none) 0 P fn a'.tmps (fun e w'=>∃v nm',match y with
    | .inl y=>e=.returned v∧Post w w' (Bs.of Z nm (pre.inj x).sj) nm' (post.inj y) v
    | .inr y=>e=(bif pan then .panicked [{ v,recovered:=false }] else .returned v)∧Post w w' (Bs.of Z nm (pre.inj x).sj) nm' (post2.inj y) v) [] .returning w':=fun hq=>⟨_,hrun,hq⟩
   split at hk
   ·rename_i y' u σ hbi
    cases hko:dL (look st'.sj) σ with
    | false=>rw [hko] at hk;cases hk
    | true=>
      rw [hko] at hk
      simp only [zj,zd] at hk
      subst hk
      obtain ⟨nm2,hp2⟩:=w9 h' hbi hko q2 q3
      exact fin ⟨_,nm2,rfl,hp2⟩
   ·cases pan with
    | true=>cases hk
    | false=>
      simp only [zk] at hk
      split at hk
      ·rename_i y' u σ hbi
       cases hko:dL (look st'.sj) σ with
       | false=>rw [hko] at hk;cases hk
       | true=>
         rw [hko] at hk
         simp only [zj,zd] at hk
         subst hk
         obtain ⟨nm2,hp2⟩:=w9 h' hbi hko q2 q3
         exact fin ⟨_,nm2,rfl,hp2⟩
      ·cases hk
  have hl:=h1'.leaves (P:=P) (fn:=fn) rfl (u:=.returning) (by simp) fun w2 h2=>key w2 h2
  match e,hlt with
  | 0,_=>exact hl
  | 1,_=>exact hl
  | n+2,h=>rw [Nat.blt_eq] at h;omega
end
end Go.Ql
end

section
namespace Go.Ql
abbrev nP:=fun (e:Ex) (s:St)=>some (e,s)
def SA.inj_proj:∀(s:SA) {a:At} {x:jq s.tys},s.proj a=some x→a=s.inj x:=by
 intro s a x h
 cases s<;>cases a<;>simp only [SA.proj,reduceCtorEq] at h
 ·split at h
  ·rename_i h1;subst h1;cases h;rfl
  ·cases h
 ·rfl
 ·rename_i i o j p
  cases hb:Nat.beq i j&&Nat.beq o p with
  | true=>
    simp only [ze] at hb
    rw [Jx.1 hb.1,Jx.1 hb.2]
  | false=>rw [hb] at h;cases h
 ·rename_i i o j p
  cases hb:Nat.beq i j&&Nat.beq o p with
  | true=>
    simp only [ze] at hb
    rw [Jx.1 hb.1,Jx.1 hb.2]
  | false=>rw [hb] at h;cases h
 ·rename_i i o j p lo m
  cases hb:Nat.beq i j&&Nat.beq o p with
  | true=>
    rw [hb] at h
    simp only [ze] at hb
    rw [Jx.1 hb.1,Jx.1 hb.2]
    cases h
    rfl
  | false=>rw [hb] at h;cases h
 ·split at h
  ·rename_i h1;subst h1;cases h;rfl
  ·cases h
 ·rename_i i j
  cases hb:Nat.beq i j with
  | true=>rw [Jx.1 hb]
  | false=>rw [hb] at h;cases h
 ·rename_i i j
  cases hb:Nat.beq i j with
  | true=>rw [Jx.1 hb]
  | false=>rw [hb] at h;cases h
 ·rename_i i o j p
  cases hb:Nat.beq i j&&Nat.beq o p with
  | true=>
    simp only [ze] at hb
    rw [Jx.1 hb.1,Jx.1 hb.2]
  | false=>rw [hb] at h;cases h
 ·rename_i i o j p
  cases hb:Nat.beq i j&&Nat.beq o p with
  | true=>
    simp only [ze] at hb
    rw [Jx.1 hb.1,Jx.1 hb.2]
  | false=>rw [hb] at h;cases h
 ·rfl
def SL.inj_proj:∀(s:List SA) {a:List At} {x:jq (SL.tys s)},SL.proj s a=some x→a=SL.inj s x
 | [],[],x,h=>rfl
 | [],_::_,x,h=>by cases h
 | _::_,[],x,h=>by cases h
 | s::r,a::b,x,h=>by
   simp only [SL.proj] at h
   split at h
   ·rename_i y z h1 h2
    cases h
    show _=s.inj (NW _ _ _)::SL.inj r (bK _ _ _)
    rw [HR,HT,←SA.inj_proj s h1,←SL.inj_proj r h2]
   ·cases h
def SD.inj_proj:∀(s:SD) {a:Dv} {x:jq s.tys},s.proj a=some x→a=s.inj x
 | .one a,.one b,x,h=>congrArg Dv.one (SA.inj_proj a h)
 | .agg a,.agg b,x,h=>congrArg Dv.agg (SL.inj_proj a h)
 | .tup a,.tup b,x,h=>congrArg Dv.tup (SL.inj_proj a h)
 | .one _,.agg _,x,h=>by cases h
 | .one _,.tup _,x,h=>by cases h
 | .agg _,.one _,x,h=>by cases h
 | .agg _,.tup _,x,h=>by cases h
 | .tup _,.one _,x,h=>by cases h
 | .tup _,.agg _,x,h=>by cases h
def SO.inj_proj (s:SO) {a:Ob} {x:jq s.tys} (h:s.proj a=some x):a=s.inj x:=by
 cases s with
 | box cs=>
   cases a with
   | box b=>exact congrArg Ob.box (SL.inj_proj cs h)
   | arr v f e t xs=>cases h
   | clo f p q=>cases h
   | gone=>cases h
 | gone=>
   cases a with
   | gone=>rfl
   | box b=>cases h
   | arr v f e t xs=>cases h
   | clo f p q=>cases h
 | arr v f e t=>
   cases a with
   | box b=>cases h
   | gone=>cases h
   | clo f p q=>cases h
   | arr v' f' e' t' xs=>
     change (if h1:t'=t then (bif Nat.beq v v'&&(f==f')&&Nat.beq e e' then some (h1▸xs,()) else none) else none)=some x at h
     split at h
     ·rename_i h1
      subst h1
      cases hb:Nat.beq v v'&&(f==f')&&Nat.beq e e' with
      | true=>
        rw [hb] at h
        have h:=(Option.some.inj h).symm
        subst h
        simp only [ze,beq_iff_eq] at hb
        rw [Jx.1 hb.1.1,Jx.1 hb.2,hb.1.2]
      | false=>rw [hb] at h;cases h
     ·cases h
 | clo f p q=>
   cases a with
   | box b=>cases h
   | gone=>cases h
   | arr v' f' e' t' xs'=>cases h
   | clo g c d=>
     have h:(bif Nat.beq f g then (match SL.proj p c,SL.proj q d with
      | some x,some y=>some (NT (SL.tys p) (SL.tys q) x y)
      | _,_=>none) else none)=some x:=h
     cases hb:Nat.beq f g with
     | false=>rw [hb] at h;cases h
     | true=>
       rw [hb] at h
       obtain ⟨o1,h1⟩:∃o,SL.proj p c=o:=⟨_,rfl⟩
       obtain ⟨o2,h2⟩:∃o,SL.proj q d=o:=⟨_,rfl⟩
       rw [h1,h2] at h
       cases o1 with
       | none=>cases h
       | some y=>
         cases o2 with
         | none=>cases h
         | some z=>
           have h:NT (SL.tys p) (SL.tys q) y z=x:=Option.some.inj h
           subst h
           show _=Ob.clo f (SL.inj p (NW _ _ _)) (SL.inj q (bK _ _ _))
           rw [HR,HT,←SL.inj_proj p h1,←SL.inj_proj q h2,Jx.1 hb]
def SS.inj_proj:∀(s:List (Nat×SD)) {a:List (Nat×Dv)} {x:jq (SS.tys s)},SS.proj s a=some x→a=SS.inj s x
 | [],[],x,h=>rfl
 | [],_::_,x,h=>by cases h
 | _::_,[],x,h=>by cases h
 | (i,s)::r,(j,a)::b,x,h=>by
   simp only [SS.proj] at h
   cases hb:Nat.beq i j with
   | false=>rw [hb] at h;cases h
   | true=>
     rw [hb] at h
     simp only [zj] at h
     split at h
     ·rename_i y z h1 h2
      cases h
      show _=(i,s.inj (NW _ _ _))::SS.inj r (bK _ _ _)
      rw [HR,HT,←SD.inj_proj s h1,←SS.inj_proj r h2,Jx.1 hb]
     ·cases h
def SP.inj_proj:∀(s:List (Nat×SO)) {a:List (Nat×Ob)} {x:jq (SP.tys s)},SP.proj s a=some x→a=SP.inj s x
 | [],[],x,h=>rfl
 | [],_::_,x,h=>by cases h
 | _::_,[],x,h=>by cases h
 | (i,s)::r,(j,a)::b,x,h=>by
   simp only [SP.proj] at h
   cases hb:Nat.beq i j with
   | false=>rw [hb] at h;cases h
   | true=>
     rw [hb] at h
     simp only [zj] at h
     split at h
     ·rename_i y z h1 h2
      cases h
      show _=(i,s.inj (NW _ _ _))::SP.inj r (bK _ _ _)
      rw [HR,HT,←SO.inj_proj s h1,←SP.inj_proj r h2,Jx.1 hb]
     ·cases h
def Sj.inj_proj (s:Sj) {st:St} {x:jq s.tys} (h:s.proj st=some x):st=s.inj x:=by
 unfold Sj.proj at h
 split at h
 ·rename_i y z h1 h2
  cases h
  unfold Sj.inj
  rw [HR,HT,←SS.inj_proj _ h1,←SP.inj_proj _ h2]
 ·cases h
noncomputable def Ck.of {T:Type} (sh:Sj) (A:(ρ:Type)→jq sh.tys→(T→Option ρ)→Option ρ) (K:(ρ:Type)→jq sh.tys→T→(Ex→St→Option ρ)→Option ρ):Ck:=
 ⟨fun ρ st k=>match sh.proj st with
  | some x=>jc (A T x some) fun t=>K ρ x t k
  | none=>none⟩
noncomputable def Ck.ofLoop {S T:Type} (sh:Sj) (s0:jq sh.tys→S) (A:(ρ:Type)→jq sh.tys→S→(S⊕T→Option ρ)→Option ρ) (K:(ρ:Type)→jq sh.tys→T→(Ex→St→Option ρ)→Option ρ):Ck:=
 ⟨fun ρ st k=>match sh.proj st with
  | some x=>jc (iter (fun s=>A (S⊕T) x s some) (s0 x)) fun t=>K ρ x t k
  | none=>none⟩
noncomputable def Ck.or (sh:Sj) (a b:Ck):Ck:=⟨fun ρ st k=>match sh.proj st with
 | some _=>a.run ρ st k
 | none=>b.run ρ st k⟩
def uU [GInv] {T:Type} {raw:(ρ:Type)→St→(Ex→St→Option ρ)→Option ρ} {sh:Sj} {A:(ρ:Type)→jq sh.tys→(T→Option ρ)→Option ρ} {K:(ρ:Type)→jq sh.tys→T→(Ex→St→Option ρ)→Option ρ}
 (hA:∀ρ x k,A ρ x k=jc (A T x some) k) (hK:∀ρ x t k,K ρ x t k=jc (K (Ex×St) x t nP) fun p=>k p.1 p.2)
 (hraw:∀x,raw (Ex×St) (sh.inj x) nP=A (Ex×St) x fun t=>K (Ex×St) x t nP):tW raw (Ck.of sh A K):=by
 intro ρ st k r h
 simp only [Ck.of] at h
 split at h
 ·rename_i x hx
  obtain ⟨t,h1,h2⟩:=ki h
  rw [hK] at h2
  obtain ⟨p,h3,h4⟩:=ki h2
  refine ⟨p,?_,h4⟩
  rw [Sj.inj_proj sh hx]
  refine (hraw x).trans ?_
  rw [hA,h1]
  exact h3
 ·cases h
def y7 [GInv] {S T:Type} {Fs:St→Option (St⊕(Ex×St))} {sh:Sj} {s0:jq sh.tys→S} {I:jq sh.tys→S→jq sh.tys} {A:(ρ:Type)→jq sh.tys→S→(S⊕T→Option ρ)→Option ρ} {K:(ρ:Type)→jq sh.tys→T→(Ex→St→Option ρ)→Option ρ}
 (hI:∀x,I x (s0 x)=x) (hA:∀ρ x s k,A ρ x s k=jc (A (S⊕T) x s some) k) (hK:∀ρ x t k,K ρ x t k=jc (K (Ex×St) x t nP) fun p=>k p.1 p.2)
 (hraw:∀x s,Fs (sh.inj (I x s))=A (St⊕(Ex×St)) x s fun r=>sel r (fun s'=>some (.inl (sh.inj (I x s')))) fun t=>K (St⊕(Ex×St)) x t fun e s=>some (.inr (e,s))) :
 ∀(ρ:Type) st k r,(Ck.ofLoop sh s0 A K).run ρ st k=some r → ∃p:Ex×St,iter (Fs) st=some p∧k p.1 p.2=some r:=by
 intro ρ st k r h
 simp only [Ck.ofLoop] at h
 split at h
 ·rename_i x hx
  obtain ⟨t,h1,h2⟩:=ki h
  rw [hK] at h2
  obtain ⟨p,h3,h4⟩:=ki h2
  refine ⟨p,?_,h4⟩
  rw [Sj.inj_proj sh hx]
  obtain ⟨n,hn⟩:=iV h1
  have key:∀n s,Hd (fun s=>A (S⊕T) x s some) n s=some t→Hd (Fs) n (sh.inj (I x s))=some p:=by
   intro n
   induction n with
   | zero=>intro s h;simp [Hd] at h
   | succ n ih=>
     intro s h
     simp only [Hd] at h ⊢
     rw [hraw,hA]
     split at h
     ·rename_i s' hs
      rw [hs]
      exact ih s' h
     ·rename_i t' hs
      cases h
      rw [hs]
      simp only [jc,sel]
      rw [hK,h3]
      rfl
     ·cases h
  have:=key n _ hn
  rw [hI] at this
  exact uK this
 ·cases h
def PK.code:PK→Code
 | .join a=>a
 | .loop a=>a
 | .region ..=>.skip
 | .range _ a=>a
def PK.asg:PK→Code
 | .range a _=>a
 | _=>.skip
def PK.id:PK→Nat
 | .region i _ _=>i
 | _=>0
def PK.ops:PK→Array Oper
 | .region _ o _=>o
 | _=>#[]
def PK.draws:PK→Bool
 | .region _ _ d=>d
 | _=>false
def PK.kind:PK→Nat
 | .region ..=>0 | .join _=>1 | .loop _=>2 | .range ..=>3
def NF (l:List (Nat×PK)) (i:Nat):Nat×PK:=l.getD i (0,.join .skip)
def o5 {G:Env} {p:Nat×PK} {s:Ck} (h0:Nat.beq p.2.kind 0=true) (h1:look G.cks p.1=some s) (h:tW (bH G p.2.id p.2.ops p.2.draws) s):UF G p.1 p.2:=by
 obtain ⟨i,p⟩:=p
 cases p with
 | region i o d=>intro s' h';rw [h1] at h';cases h';exact h
 | join a=>cases h0
 | loop a=>cases h0
 | range a b=>cases h0
def O8 {G:Env} {p:Nat×PK} {s:Ck} (h0:Nat.beq p.2.kind 1=true) (h1:look G.cks p.1=some s) (h:tW (fun ρ st k=>Vs G p.2.code ρ st fun e s=>k e (restrict (x8 G p.1 st) s)) s):UF G p.1 p.2:=by
 obtain ⟨i,p⟩:=p
 cases p with
 | join o=>intro s' h';rw [h1] at h';cases h';exact h
 | region i a d=>cases h0
 | loop a=>cases h0
 | range a b=>cases h0
def BK {G:Env} {p:Nat×PK} {s:Ck} (h0:Nat.beq p.2.kind 2=true) (h1:look G.cks p.1=some s) (h:∀(ρ:Type) st k r,s.run ρ st k=some r → ∃q:Ex×St,iter (wZ G p.2.code) st=some q∧k q.1 q.2=some r):UF G p.1 p.2:=by
 obtain ⟨i,p⟩:=p
 cases p with
 | loop o=>intro s' h';rw [h1] at h';cases h';exact h
 | region i a d=>cases h0
 | join a=>cases h0
 | range a b=>cases h0
def lJ (G:Env) (l:List (Nat×PK)):Nat→Prop
 | 0=>True
 | n+1=>lJ G l n∧UF G (NF l n).1 (NF l n).2
def nL {G:Env} {l:List (Nat×PK)} {n:Nat} (hn:Nat.beq l.length n=true) (h:lJ G l n):∀p∈l,UF G p.1 p.2:=by
 have key:∀n,lJ G l n → ∀i,i<n→UF G (NF l i).1 (NF l i).2:=by
  intro n
  induction n with
  | zero=>intro _ i hi;omega
  | succ n ih=>
    intro h i hi
    by_cases he:i=n
    ·subst he;exact h.2
    ·exact ih h.1 i (by omega)
 intro p hp
 obtain ⟨i,hi,he⟩:=List.mem_iff_getElem.1 hp
 have:=key n h i (by rw [←Jx.1 hn];exact hi)
 unfold NF at this
 rw [List.getD_eq_getElem?_getD,Z7 hi,he] at this
 exact this
noncomputable section
def cR:Ty→Value→Bool
 | .bool,.bool b=>!b
 | .int k,.int k' n=>decide (k=k')&&decide (n=0)
 | .str,.string s=>decide (s.data=#[])
 | .sl t,.slice none n m=>Nat.beq n 0&&Nat.beq m 0 && !t.isPair
 | .nilv k,.pointer none=>Nat.beq k 0
 | .nilv k,.nilIface=>Nat.beq k 1
 | .nilv k,.map none=>Nat.beq k 2
 | .nilv k,.nilFunc=>Nat.beq k 3
 | _,_=>false
def MH {t:Ty} {v:Value} (h:cR t v=true):Vc t [v]:=by
 cases t<;>cases v
 case bool.bool b=>cases b<;>simp_all [cR,Vc]
 case int.int k k' n=>simp_all [cR,Vc]
 case str.string s=>obtain ⟨d⟩:=s;simp_all [cR,Vc]
 case sl.slice t a n m=>
  cases a with
  | none=>
    simp only [cR,ze,Z3] at h
    rw [Jx.1 h.1.1,Jx.1 h.1.2];exact ⟨rfl,h.2⟩
  | some a=>cases h
 case nilv.map k a=>
  cases a with
  | none=>simp only [cR] at h;rw [Jx.1 h];rfl
  | some a=>cases h
 case nilv.nilFunc k=>simp only [cR] at h;rw [Jx.1 h];rfl
 case nilv.pointer k a=>
  cases a with
  | none=>rw [Jx.1 (show Nat.beq k 0=true from h)];rfl
  | some a=>cases h
 case nilv.nilIface k=>rw [Jx.1 (show Nat.beq k 1=true from h)];rfl
 all_goals cases h
def lI (f:List Value→Option (List Value)):Nat→List Value→Option (List Value)
 | 0,l=>some l
 | n+1,l=>match f l with
   | some l'=>lI f n l'
   | none=>none
def AK {f:List Value→Option (List Value)} {p:List Value→Prop} (h:∀l r,f l=some r → ∃c,l=c++r∧p c):∀(n:Nat) {l r:List Value},lI f n l=some r → ∃c,l=c++r∧dT p n c
 | 0,l,r,he=>by cases he;exact ⟨[],rfl,rfl⟩
 | n+1,l,r,he=>by
   simp only [lI] at he
   split at he
   ·rename_i l' h1
    obtain ⟨c1,h2,h3⟩:=h _ _ h1
    obtain ⟨c2,h4,h5⟩:=AK h n he
    exact ⟨c1++c2,by rw [h2,h4,zq],c1,c2,rfl,h3,h5⟩
   ·cases he
def dZ:Ty→List Value→Option (List Value)
 | .unit,l=>some l
 | .st t,l=>dZ t l
 | .pair a b,l=>match dZ a l with
   | some l'=>dZ b l'
   | none=>none
 | .ar n t,l=>lI (dZ t) n l
 | .node t,l=>match dZ t l with
   | some (.slice none 0 0::l')=>some l'
   | _=>none
 | t,l=>match l with
   | v::l'=>bif cR t v then some l' else none
   | []=>none
def MG:∀(t:Ty) {l r:List Value},dZ t l=some r → ∃c,l=c++r∧Vc t c:=by
 intro t
 have base:∀(t:Ty),(∀l r,dZ t l=some r → ∃v l',l=v::l'∧(bif cR t v then some l' else none)=some r) → ∀{l r:List Value},dZ t l=some r → ∃c,l=c++r∧Vc t c:=by
  intro t hb l r h
  obtain ⟨v,l',rfl,h2⟩:=hb l r h
  cases hz:cR t v with
  | true=>rw [hz] at h2;cases h2;exact ⟨[v],rfl,MH hz⟩
  | false=>rw [hz] at h2;cases h2
 have step:∀(t:Ty) (l r:List Value),(match l with
  | v::l'=>bif cR t v then some l' else none
  | []=>none)=some r → ∃v l',l=v::l'∧(bif cR t v then some l' else none)=some r:=by
  intro t l r h
  cases l with
  | nil=>cases h
  | cons v l'=>exact ⟨v,l',rfl,h⟩
 induction t with
 | bool=>intro l r h;exact base .bool (fun l r h=>step .bool l r (by cases l<;>exact h)) h
 | int k=>intro l r h;exact base (.int k) (fun l r h=>step (.int k) l r (by cases l<;>exact h)) h
 | str=>intro l r h;exact base .str (fun l r h=>step .str l r (by cases l<;>exact h)) h
 | nilv k=>intro l r h;exact base (.nilv k) (fun l r h=>step (.nilv k) l r (by cases l<;>exact h)) h
 | nn=>intro l r h;exact base .nn (fun l r h=>step .nn l r (by cases l<;>exact h)) h
 | len=>intro l r h;exact base .len (fun l r h=>step .len l r (by cases l<;>exact h)) h
 | fl t _=>intro l r h;exact base (.fl t) (fun l r h=>step (.fl t) l r (by cases l<;>exact h)) h
 | ifc T t _=>intro l r h;exact base (.ifc T t) (fun l r h=>step (.ifc T t) l r (by cases l<;>exact h)) h
 | sl t _=>intro l r h;exact base (.sl t) (fun l r h=>step (.sl t) l r (by cases l<;>exact h)) h
 | st t ih=>intro l r h;obtain ⟨c,h1,h2⟩:=ih h;exact ⟨c,h1,h2⟩
 | unit=>intro l r h;cases h;exact ⟨[],rfl,rfl⟩
 | pair a b iha ihb=>
   intro l r h
   simp only [dZ] at h
   split at h
   ·rename_i l' h1
    obtain ⟨c1,h2,h3⟩:=iha h1
    obtain ⟨c2,h4,h5⟩:=ihb h
    exact ⟨c1++c2,by rw [h2,h4,zq],c1,c2,rfl,h3,h5⟩
   ·cases h
 | ar n t ih=>intro l r h;exact AK (fun l r h=>ih h) n h
 | node t ih=>
   intro l r h
   simp only [dZ] at h
   split at h
   ·rename_i l' h1
    cases h
    obtain ⟨c1,h2,h3⟩:=ih h1
    exact ⟨c1++[.slice none 0 0],by rw [h2];simp,c1,rfl,h3⟩
   ·cases h
def tV (t:Ty) (v:Value):Bool:=match dZ t v.cells.toList with
 | some []=>true
 | _=>false
def r9 {t:Ty} {v:Value} (h:tV t v=true):Vc t v.cells.toList:=by
 unfold tV at h
 split at h
 ·rename_i h1
  obtain ⟨c,h2,h3⟩:=MG t h1
  rw [List.append_nil] at h2
  rw [h2];exact h3
 ·cases h
def QN:Value→Bool
 | .agg _=>true
 | _=>false
def wY (P:Program) (t:TypeId) (ty:Ty):Bool:=match P.info? t with
 | some i=>Nat.beq i.size ty.cells&&(match i.zero with
   | some z=>tV ty z&&(!ty.isSt||QN z)
   | none=>false)
 | none=>false
def C7 (P:Program) (t:TypeId) (ti:TI):Bool:=match ti.kind,P.underlying t with
 | .scalar,some .bool=>(match ti.ty with | .bool=>true | _=>false)
 | .scalar,some (.int k)=>(match ti.ty with | .int k'=>decide (k=k') | _=>false)
 | .scalar,some .string=>(match ti.ty with | .str=>true | _=>false)
 | .nul,some (.pointer _)=>(match ti.ty with | .nilv k=>!Nat.beq k 1 | _=>false)
 | .nul,some (.interface _)=>(match ti.ty with | .nilv _=>true | _=>false)
 | .nul,some (.func _ _ _)=>(match ti.ty with | .nilv k=>!Nat.beq k 1 | _=>false)
 | .map k e j u,some (.map k' e')=>Nat.beq k k'&&Nat.beq e e'&&(match ti.ty with
   | .nilv 2=>(match P.underlying k,P.info? e with
     | some (.int j'),some i=>decide (j'=j)&&(match i.zero with
       | some (.int u' 0)=>decide (u'=u)
       | _=>false)
     | _,_=>false)
   | _=>false)
 | .struct fs,some (.struct fields)=>(match ti.ty with | .st _=>true | _=>false)&&decide (fields.toList.map (fun f=>(f.offset,f.type))=fs)&&fields.toList.all fun f=>(P.info? f.type).isSome
 | .slice e b,some (.slice e')=>Nat.beq e e'&&(match ti.ty with
   | .sl s=>(match P.info? e with
     | some i=>Nat.beq i.size s.cells&&Nat.beq i.bytes b&&Nat.blt 0 s.cells&&(match i.zero with
       | some z=>tV s z
       | none=>false)
     | none=>false)
   | _=>false)
 | .arr n e,some (.array n' e')=>Nat.beq e e'&&Nat.beq n n'&&(match ti.ty with
   | .ar m s=>Nat.beq m n&&(match P.info? e with
     | some i=>Nat.beq i.size s.cells&&(match i.zero with
       | some z=>tV s z
       | none=>false)
     | none=>false)
   | _=>false)
 | _,_=>false
def LR (P:Program):List (Nat×TI)→Bool
 | []=>true
 | (t,ti)::r=>wY P t ti.ty&&C7 P t ti&&LR P r
def KK {P:Program} {t:TypeId} {ty:Ty} (h:wY P t ty=true):∃i z,P.info? t=some i∧i.size=ty.cells∧i.zero=some z∧Vc ty z.cells.toList∧(ty.isSt=true → ∃cs,z=.agg cs):=by
 unfold wY at h
 split at h
 ·rename_i i hi
  simp only [ze] at h
  obtain ⟨h1,h2⟩:=h
  split at h2
  ·rename_i z hz
   simp only [ze,Bool.or_eq_true,Z3] at h2
   refine ⟨i,z,hi,Jx.1 h1,hz,r9 h2.1,fun hs=>?_⟩
   rcases h2.2 with h3 | h3
   ·rw [hs] at h3;cases h3
   ·cases z with
    | agg cs=>exact ⟨cs,rfl⟩
    | _=>cases h3
  ·cases h2
 ·cases h
def KQ {P:Program} {t:TypeId} {ti:TI} (hi:wY P t ti.ty=true) (h:C7 P t ti=true):TiOk P t ti:=by
 refine ⟨KK hi,?_⟩
 unfold C7 at h
 split at h
 ·rename_i h1 h2
  rw [h1]
  split at h
  ·rename_i h3;exact .inl ⟨h3,h2⟩
  ·cases h
 ·rename_i k h1 h2
  rw [h1]
  split at h
  ·rename_i k' h3
   have:=zw h
   subst this
   exact .inr (.inl ⟨_,h3,h2⟩)
  ·cases h
 ·rename_i h1 h2
  rw [h1]
  split at h
  ·rename_i h3;exact .inr (.inr ⟨h3,h2⟩)
  ·cases h
 ·rename_i e h1 h2
  rw [h1]
  split at h
  ·rename_i k h3
   simp only [Z3] at h
   exact ⟨k,h3,.inl ⟨e,h2⟩,fun hk=>absurd hk (Yi.1 h)⟩
  ·cases h
 ·rename_i ms h1 h2
  rw [h1]
  split at h
  ·rename_i k h3;exact ⟨k,h3,.inr (.inl ⟨ms,h2⟩),fun _=>⟨ms,h2⟩⟩
  ·cases h
 ·rename_i h1 h2
  rw [h1]
  split at h
  ·rename_i k h3
   simp only [Z3] at h
   exact ⟨k,h3,.inr (.inr ⟨_,_,_,h2⟩),fun hk=>absurd hk (Yi.1 h)⟩
  ·cases h
 ·rename_i k e j u k' e' h1 h2
  rw [h1]
  simp only [ze] at h
  obtain ⟨⟨h3,h4⟩,h5⟩:=h
  have:=Jx.1 h3
  subst this
  have:=Jx.1 h4
  subst this
  split at h5
  ·rename_i hty
   split at h5
   ·rename_i j' i hk hi
    rw [ze] at h5
    obtain ⟨h6,h7⟩:=h5
    have:=zw h6
    subst this
    split at h7
    ·rename_i u' hz
     have:=zw h7
     subst this
     exact ⟨hty,h2,hk,i,hi,hz⟩
    ·cases h7
   ·cases h5
  ·cases h5
 ·rename_i fs fields h1 h2
  rw [h1]
  simp only [ze] at h
  obtain ⟨⟨h3,h4⟩,h5⟩:=h
  split at h3
  ·rename_i s hs
   refine ⟨s,fields,hs,h2,zw h4,fun f hf=>?_⟩
   have:=zy.1 h5 f hf
   exact Option.isSome_iff_exists.1 this
  ·cases h3
 ·rename_i e b e' h1 h2
  rw [h1]
  simp only [ze] at h
  obtain ⟨h3,h4⟩:=h
  have:=Jx.1 h3
  subst this
  split at h4
  ·rename_i s hs
   split at h4
   ·rename_i i hi
    simp only [ze] at h4
    obtain ⟨⟨⟨h5,h6⟩,h7⟩,h8⟩:=h4
    split at h8
    ·rename_i z hz
     rw [Nat.blt_eq] at h7
     exact ⟨s,i,z,hs,h2,hi,Jx.1 h5,Jx.1 h6,hz,r9 h8,h7⟩
    ·cases h8
   ·cases h4
  ·cases h4
 ·rename_i n e n' e' h1 h2
  rw [h1]
  simp only [ze] at h
  obtain ⟨⟨h3,h0⟩,h4⟩:=h
  have:=Jx.1 h3
  subst this
  have:=Jx.1 h0
  subst this
  split at h4
  ·rename_i m s hs
   simp only [ze] at h4
   obtain ⟨h5,h4⟩:=h4
   have:=Jx.1 h5
   subst this
   split at h4
   ·rename_i i hi
    simp only [ze] at h4
    obtain ⟨h5,h8⟩:=h4
    split at h8
    ·rename_i z hz
     exact ⟨s,i,z,hs,h2,hi,Jx.1 h5,hz,r9 h8⟩
    ·cases h8
   ·cases h4
  ·cases h4
 ·cases h
def B0 {P:Program}:∀{l:List (Nat×TI)},LR P l=true→Uv P l
 | [],_=>fun t ti h=>by cases h
 | (t,ti)::r,h=>by
   simp only [LR,ze] at h
   intro t' ti' hl
   simp only [look] at hl
   cases hb:Nat.beq t t' with
   | true=>
     rw [hb] at hl
     cases hl
     rw [←Jx.1 hb]
     exact KQ h.1.1 h.1.2
   | false=>
     rw [hb] at hl
     exact B0 h.2 t' ti' hl
def lY [GInv] {P:Program}:sB P []:=fun f ce h=>by cases h
def mK [GInv] {P:Program} {f:Nat} {ce:Callee} {l:List (Nat×Callee)} (h:vj P f ce) (hl:sB P l):sB P ((f,ce)::l):=by
 intro f' ce' h'
 simp only [look] at h'
 cases hb:Nat.beq f f' with
 | true=>
   rw [hb] at h'
   cases h'
   rw [←Jx.1 hb];exact h
 | false=>rw [hb] at h';exact hl f' ce' h'
def Yz (fn:Func):Code:=fn.body.getD .skip
def MU [GInv] {P:Program} {G:Env} {f:Nat} {fn:Func} {ce:Callee} (hT:Uv P G.tab) (hm:P.follows .mixedOrders=true) (hf:P.funcs[f]?=some fn) (hF:AllOk P G) {m:Nat}
 (hn:Nat.beq (Yr G.cks (Yz fn)).length m=true) (hp:lJ G (Yr G.cks (Yz fn)) m)
 (hb : (fn.body.isSome && Vw G (Yz fn) && Nat.beq fn.ntmps G.n && Nat.ble ce.params.length G.n && Nat.beq fn.results.toList.length ce.res.length && !(fn.name == "runtime.NumGoroutine")) = true)
 (he:∀x,den G fn ce.params ce.res x=ce.F x):vj P f ce:=by
 simp only [ze,Z3] at hb
 obtain ⟨⟨⟨⟨⟨h1,h2⟩,h3⟩,h4⟩,h5⟩,h6⟩:=hb
 obtain ⟨c,hc⟩:=Option.isSome_iff_exists.1 h1
 have hbo:Yz fn=c:=by unfold Yz;rw [hc];rfl
 rw [hbo] at h2 hn hp
 refine ⟨⟨fn,hf,h6,by rw [hc];rfl⟩,fun w Z vs x r hg hZ ha hr=>?_⟩
 rw [←he] at hr
 exact E7 hT hF hm hf hc (Jx.1 h3) (by rw [Nat.ble_eq] at h4;exact h4) (Jx.1 h5) h2 (nL hn hp) w Z vs x r hg hZ ha hr
def g8 [GInv] {P:Program}:nU P []:=fun i mc h=>by cases h
def vW [GInv] {P:Program} {i:Nat} {mc:xj} {l:List (Nat×xj)} (h:MOk P mc.fn mc) (hl:nU P l):nU P ((i,mc)::l):=by
 intro i' mc' h'
 simp only [look] at h'
 cases hb:Nat.beq i i' with
 | true=>
   rw [hb] at h'
   cases h'
   exact h
 | false=>rw [hb] at h';exact hl i' mc' h'
def QH [GInv] {P:Program} {G:Env} {f:Nat} {fn:Func} {mc:xj} (hT:Uv P G.tab) (hm:P.follows .mixedOrders=true) (hf:P.funcs[f]?=some fn) (hF:AllOk P G) {m:Nat}
 (hn:Nat.beq (Yr G.cks (Yz fn)).length m=true) (hp:lJ G (Yr G.cks (Yz fn)) m)
 (hb : (fn.body.isSome && Vw G (Yz fn) && Nat.beq fn.ntmps G.n && Nat.ble mc.pre.mj.length G.n && Nh 0 mc.pre.mj && !(fn.name == "runtime.NumGoroutine") && Nat.beq mc.fn f) = true)
 (he:∀x,CL G fn mc.pre mc.post x=mc.F x):MOk P mc.fn mc:=by
 simp only [ze,Z3] at hb
 obtain ⟨⟨⟨⟨⟨⟨h1,h2⟩,h3⟩,h4⟩,h5⟩,h6⟩,h7⟩:=hb
 obtain ⟨c,hc⟩:=Option.isSome_iff_exists.1 h1
 have hbo:Yz fn=c:=by unfold Yz;rw [hc];rfl
 rw [hbo] at h2 hn hp
 rw [Jx.1 h7]
 refine ⟨⟨fn,hf,h6,by rw [hc];rfl⟩,fun w Z nm vs x y hpre hr=>?_⟩
 rw [←he] at hr
 exact CN hT hF hm hf hc (Jx.1 h3) (by rw [Nat.ble_eq] at h4;exact h4) h5 h2 (nL hn hp) w Z nm vs x y hpre hr
def QG [GInv] {P:Program} {G:Env} {f:Nat} {fn:Func} {ma:MAlt} (hT:Uv P G.tab) (hm:P.follows .mixedOrders=true) (hf:P.funcs[f]?=some fn) (hF:AllOk P G) {m:Nat}
 (hn:Nat.beq (Yr G.cks (Yz fn)).length m=true) (hp:lJ G (Yr G.cks (Yz fn)) m)
 (hb : (fn.body.isSome && Vw G (Yz fn) && Nat.beq fn.ntmps G.n && Nat.ble ma.pre.mj.length G.n && Nh 0 ma.pre.mj && !(fn.name == "runtime.NumGoroutine") && Nat.beq ma.fn f) = true)
 (he:∀x,CK G fn ma.pre ma.post ma.pan ma.post2 x=ma.F x):uj P ma.fn ma:=by
 simp only [ze,Z3] at hb
 obtain ⟨⟨⟨⟨⟨⟨h1,h2⟩,h3⟩,h4⟩,h5⟩,h6⟩,h7⟩:=hb
 obtain ⟨c,hc⟩:=Option.isSome_iff_exists.1 h1
 have hbo:Yz fn=c:=by unfold Yz;rw [hc];rfl
 rw [hbo] at h2 hn hp
 rw [Jx.1 h7]
 refine ⟨⟨fn,hf,h6,by rw [hc];rfl⟩,fun w Z nm vs x y hpre hr=>?_⟩
 rw [←he] at hr
 refine Calls.mono (CM hT hF hm hf hc (Jx.1 h3) (by rw [Nat.ble_eq] at h4;exact h4) h5 h2 (nL hn hp) w Z nm vs x y hpre hr) ?_
 rintro e w' ⟨v,nm',q⟩
 cases y with
 | inl y=>exact ⟨v,nm',q⟩
 | inr y=>exact ⟨v,nm',q⟩
def gR [GInv] {P:Program}:nT P []:=fun i mc h=>by cases h
def vC [GInv] {P:Program} {i:Nat} {ma:MAlt} {l:List (Nat×MAlt)} (h:uj P ma.fn ma) (hl:nT P l):nT P ((i,ma)::l):=by
 intro i' ma' h'
 simp only [look] at h'
 cases hb:Nat.beq i i' with
 | true=>
   rw [hb] at h'
   cases h'
   exact h
 | false=>rw [hb] at h';exact hl i' ma' h'
end
end Go.Ql
end

section
namespace Go.Ql
noncomputable section
def Sj.s (x:Sj) (t:Nat) (d:SD):Sj:=⟨YE t d x.mj,x.sj⟩
def Sj.o (x:Sj) (t:Nat) (d:SO):Sj:=⟨x.mj,YE t d x.sj⟩
def Sj.d (x:Sj) (t:Nat):Sj:=⟨del t x.mj,x.sj⟩
def Sj.g (x:Sj) (t:Nat):Sj:=⟨x.mj,del t x.sj⟩
def xG:List Ty→Nat→Ty
 | [],_=>.unit
 | t::_,0=>t
 | _::r,n+1=>xG r n
def zC:(l:List Ty)→jq l→(i:Nat)→(xG l i).den
 | [],_,_=>()
 | _::_,x,0=>x.1
 | _::r,x,n+1=>zC r x.2 n
@[reducible] def n8 (l:List Ty) (R:Type):List Nat→Type
 | []=>R
 | i::r=>(xG l i).den→n8 l R r
def rI (l:List Ty) {R:Type} (x:jq l):(s:List Nat)→n8 l R s→R
 | [],c=>c
 | i::r,c=>rI l x r (c (zC l x i))
abbrev Sg:=(t:Ty)×t.den
def BV:(l:List Ty)→jq l→List Sg
 | [],_=>[]
 | t::r,x=>⟨t,x.1⟩::BV r x.2
def sgD:(l:List Ty)→YL l→List Sg
 | [],_=>[]
 | [t],x=>[⟨t,x⟩]
 | t::t'::r,x=>⟨t,x.1⟩::sgD (t'::r) x.2
def QV:(l:List Ty)→List Sg→Option (jq l)
 | [],[]=>some ()
 | t::r,s::q=>if h:s.1=t then (match QV r q with
   | some y=>some (h▸s.2,y)
   | none=>none) else none
 | _,_=>none
def uN {α:Type} (e:List α):List Nat→List α→List α→List α
 | [],o,_=>o
 | c::r,o,q=>bif Nat.blt c 100 then o.take c++uN e r (o.drop c) q else
  bif Nat.blt c 200 then q.take (c-100)++uN e r o (q.drop (c-100)) else
  bif Nat.blt c 300 then q.take (c-200)++uN e r (o.drop (c-200)) (q.drop (c-200)) else
  bif Nat.blt c 400 then uN e r (o.drop (c-300)) q else (e.drop (c-400)).take 1++uN e r o q
def rS:List Nat→List Ty→List Ty
 | [],_=>[]
 | c::r,p=>bif Nat.blt c 100 then rS r (p.drop c) else
  bif Nat.blt c 200 then p.take (c-100)++rS r (p.drop (c-100)) else
  bif Nat.blt c 300 then p.take (c-200)++rS r (p.drop (c-200)) else
  bif Nat.blt c 400 then rS r p else rS r (p.drop 1)
def BC:List Nat→List Ty→List Ty
 | [],_=>[]
 | c::r,p=>bif Nat.blt c 100 then BC r (p.drop c) else
  bif Nat.blt c 200 then BC r (p.drop (c-100)) else
  bif Nat.blt c 300 then BC r (p.drop (c-200)) else
  bif Nat.blt c 400 then BC r p else p.take 1++BC r (p.drop 1)
abbrev u9:=Sj×Nat×List Nat
@[reducible] def MC (q:u9):Type:=YL (rS q.2.2 q.1.tys)
def l7 {ρ:Type} (sh:Sj)(e:List Sg)(x:jq sh.tys)(q:u9)(t:MC q)(k:Ex→St→Option ρ):Option ρ:=
 match QV q.1.tys (uN e q.2.2 (BV sh.tys x) (sgD (rS q.2.2 q.1.tys) t)) with
 | some y=>k q.2.1 (q.1.inj y)
 | none=>none
@[reducible] def fE:List u9→Type
 | []=>Unit
 | [q]=>MC q
 | q::q'::r=>MC q⊕fE (q'::r)
def iX {ρ:Type} (sh:Sj) (e:List Sg) (x:jq sh.tys) (k:Ex→St→Option ρ):(l:List u9)→fE l→Option ρ
 | [],_=>none
 | [q],t=>l7 sh e x q t k
 | q::q'::r,t=>sel t (fun t=>l7 sh e x q t k) (fun t=>iX sh e x k (q'::r) t)
def oK {ρ:Type} (sh:Sj) (e:List Sg) (x:jq sh.tys) (k:Ex→St→Option ρ):∀(l:List u9) (t:fE l),
 iX sh e x k l t=jc (iX sh e x nP l t) fun p=>k p.1 p.2
 | [],_=>rfl
 | [q],t=>by
   unfold iX l7
   split<;>rfl
 | q::q'::r,.inl t=>by
   show l7 sh e x q t k=jc (l7 sh e x q t nP) _
   unfold l7
   split<;>rfl
 | q::q'::r,.inr t=>oK sh e x k (q'::r) t
def KB:List u9→List Ty
 | []=>[]
 | q::r=>BC q.2.2 q.1.tys++KB r
def no {α:Type}:α→Unit:=fun _=>()
def B5 (l:List Ty) {T ρ:Type}:(s:List Nat)→n8 l ((T→Option ρ)→Option ρ) s→n8 l ((T→Option T)→Option T) s→Prop
 | [],c,c'=>∀k,c k=jc (c' some) k
 | _::r,c,c'=>∀a,B5 l r (c a) (c' a)
def rJ {l:List Ty} {T ρ:Type}:∀(s:List Nat) {c:n8 l ((T→Option ρ)→Option ρ) s} {c':n8 l ((T→Option T)→Option T) s},B5 l s c c' → ∀x k,rI l x s c k=jc (rI l x s c' some) k
 | [],_,_,h,_,k=>h k
 | i::r,_,_,h,x,k=>rJ r (h (zC l x i)) x k
structure RC where
 sh:Sj
 xs:List u9
 ex:jq sh.tys→jq (KB xs)
 sel:List Nat
 c:(ρ:Type)→n8 sh.tys ((fE xs→Option ρ)→Option ρ) sel
 lin:∀ρ,B5 sh.tys sel (c ρ) (c _)
abbrev RC.K {ρ:Type} (r:RC) (x:jq r.sh.tys) (k:Ex→St→Option ρ) (t:fE r.xs):Option ρ:=iX r.sh (BV _ (r.ex x)) x k r.xs t
def RC.ck (r:RC):Ck:=
 Ck.of (T:=fE r.xs) r.sh (fun ρ x k=>rI r.sh.tys x r.sel (r.c ρ) k) (fun _ x t k=>r.K x k t)
def L8 (l:List Ty) (x:jq l):(s:List Nat)→YL (s.map (xG l))
 | []=>()
 | [i]=>zC l x i
 | i::j::r=>(zC l x i,L8 l x (j::r))
def QW (s:List Sg) (i:Nat) (vs:List Nat) (t:Ty) (d:t.den):t.den:=match vs,s with
 | v::vr,⟨t',d'⟩::sr=>bif Nat.beq v i then (if h:t'=t then h▸d' else d) else QW sr i vr t d
 | _,_=>d
def QX (vs:List Nat) (s:List Sg):(l:List Ty)→Nat→jq l→jq l
 | [],_,_=>()
 | t::r,i,x=>(QW s i vs t x.1,QX vs s r (i+1) x.2)
structure LC where
 sh:Sj
 xs:List u9
 ex:jq sh.tys→jq (KB xs)
 v:List Nat
 sel:List Nat
 c:(ρ:Type)→n8 sh.tys ((YL (v.map (xG sh.tys))⊕fE xs→Option ρ)→Option ρ) sel
 lin:∀ρ,B5 sh.tys sel (c ρ) (c _)
def LC.I (r:LC) (x:jq r.sh.tys) (s:YL (r.v.map (xG r.sh.tys))):jq r.sh.tys:=QX r.v (sgD _ s) r.sh.tys 0 x
abbrev LC.K {ρ:Type} (r:LC) (x:jq r.sh.tys) (k:Ex→St→Option ρ) (t:fE r.xs):Option ρ:=iX r.sh (BV _ (r.ex x)) x k r.xs t
def LC.ck (r:LC):Ck:=
 Ck.ofLoop (S:=YL (r.v.map (xG r.sh.tys))) (T:=fE r.xs) r.sh (fun x=>L8 r.sh.tys x r.v) (fun ρ x s k=>rI r.sh.tys (r.I x s) r.sel (r.c ρ) k) (fun _ x t k=>r.K x k t)
section
variable [GInv] {G:Env} {p:Nat×PK}
abbrev RC.A (r:RC) (x:jq r.sh.tys) (ρ:Type) (k:fE r.xs→Option ρ):Option ρ:=rI r.sh.tys x r.sel (r.c ρ) k
def RC.sums (r:RC) {raw:(ρ:Type)→St→(Ex→St→Option ρ)→Option ρ}
 (hraw:∀x,raw (Ex×St) (r.sh.inj x) nP=r.A x (Ex×St) (r.K x nP)):tW raw r.ck:=
 uU (fun ρ x k=>rJ r.sel (r.lin ρ) x k) (fun _ x t k=>oK r.sh (BV _ (r.ex x)) x k r.xs t) hraw
def kR (r:RC)
 (h:((Nat.beq p.2.kind 0,look G.cks p.1),fun x=>bH G p.2.id p.2.ops p.2.draws (Ex×St) (r.sh.inj x) nP)=((true,some r.ck),fun x=>r.A x (Ex×St) (r.K x nP)):=by kernel_rfl):UF G p.1 p.2:=by
 injection h with h1 h2
 injection h1 with h0 h1
 exact o5 h0 h1 (r.sums fun x=>congrFun h2 x)
def kJ (r:RC)
 (h:((Nat.beq p.2.kind 1,look G.cks p.1),fun x=>Vs G p.2.code (Ex×St) (r.sh.inj x) (fun e s=>nP e (restrict (x8 G p.1 (r.sh.inj x)) s)))=((true,some r.ck),fun x=>r.A x (Ex×St) (r.K x nP)):=by kernel_rfl):UF G p.1 p.2:=by
 injection h with h1 h2
 injection h1 with h0 h1
 exact O8 h0 h1 (r.sums fun x=>congrFun h2 x)
def kL (r:LC)
 (h:((Nat.beq p.2.kind 2,look G.cks p.1),fun x=>r.I x (L8 r.sh.tys x r.v),fun x s=>wZ G p.2.code (r.sh.inj (r.I x s))) =
  ((true,some r.ck),fun x=>x,fun x s=>rI r.sh.tys (r.I x s) r.sel (r.c _) fun q=>sel q (fun s'=>some (.inl (r.sh.inj (r.I x s')))) (r.K x fun e s=>some (.inr (e,s)))):=by kernel_rfl):UF G p.1 p.2:=by
 injection h with h1 h2
 injection h1 with h0 h1
 injection h2 with h2 h3
 exact BK h0 h1 (y7 (fun x=>congrFun h2 x) (fun ρ x s k=>rJ r.sel (r.lin ρ) (r.I x s) k) (fun _ x t k=>oK r.sh (BV _ (r.ex x)) x k r.xs t) (fun x s=>congrFun (congrFun h3 x) s))
end
def zD (a:List Nat):List Nat→List Nat
 | []=>a
 | x::r=>zD (bif JK x a then a else a++[x]) r
def onOf (o:Oper):List Nat:=(o.after.toList.filter fun e=>Region.binds .any e).map (·.on)
def GK:List Oper→List (List Nat)→List (List Nat)
 | [],acc=>acc
 | o::r,acc=>GK r (acc++[(onOf o).foldl (fun p e=>zD (zD p [e]) (acc.getD e [])) []])
def nO (wr:List (Nat×List Nat)) (i:Nat):List Nat:=match look wr i with
 | some l=>l
 | none=>[]
def QJ (ops:List Oper) (pres:List (List Nat)) (wr:List (Nat×List Nat)) (i:Nat):Hint:=
 let p:=pres.getD i []
 let oth:=(List.range ops.length).filter fun j=>!Nat.beq j i && !JK j p && !JK i (pres.getD j [])
 ⟨p,nO wr i,oth.foldl (fun a j=>match ops[j]? with | some o=>(match o.dst with | some t=>zD a [t] | none=>a) | none=>a) [],oth.foldl (fun a j=>zD a (nO wr j)) []⟩
def KI (ops:List Oper) (wr:List (Nat×List Nat)):List Hint:=let pres:=GK ops [];(List.range ops.length).map (QJ ops pres wr)
def mX (i:Nat):Code→Option (List Oper)
 | .region id ops _=>bif Nat.beq id i then some ops.toList else none
 | .seq a b=>match mX i a with
   | some l=>some l
   | none=>mX i b
 | .cond _ a b=>match mX i a with
   | some l=>some l
   | none=>mX i b
 | .block _ c=>mX i c
 | .loop c=>mX i c
 | _=>none
def BH (c:Code):List (Nat×List (Nat×List Nat))→List (Nat×List Hint)
 | []=>[]
 | (i,wr)::r=>(match mX i c with
   | some l=>[(i,KI l wr)]
   | none=>[])++BH c r
def xB (tab:List (Nat×TI)) (l:List TypeId):List Ty:=l.map fun t=>match look tab t with
 | some ti=>ti.ty
 | none=>.unit
@[reducible] def I0 (R:Type):List Ty→Type
 | []=>R
 | t::r=>t.den→I0 R r
def QA {R:Type}:(l:List Ty)→YL l→I0 R l→R
 | [],_,c=>c
 | [_],x,c=>c x
 | _::t::r,x,c=>QA (t::r) x.2 (c x.1)
noncomputable def Vt (tab:List (Nat×TI)) (fn:Func) (f:I0 (Option (YL (xB tab fn.resultTypes.toList))) (xB tab fn.params.toList)):Callee:=
 ⟨xB tab fn.params.toList,xB tab fn.resultTypes.toList,fun x=>QA _ x f⟩
structure SegOk (G:Env) (fn:Func) (pre:Sj) (chk:St→Bool) (ts:List Ty) (T:Nat) (p:Ty) (F:jq pre.tys→Option (YL ts⊕p.den)):Prop where
 n:G.n=fn.ntmps
 draws:Vw G (Yz fn)=true
 ps:∀q∈Yr G.cks (Yz fn),UF G q.1 q.2
 eq:∀x,Vs G (Yz fn) _ (pre.inj x) (lX G fn.results.toList ts T p chk)=F x
def RZ {G:Env} {fn:Func} {pre:Sj} {chk:St→Bool} {ts:List Ty} {T:Nat} {p:Ty} {F:jq pre.tys→Option (YL ts⊕p.den)} {m:Nat} (hp:lJ G (Yr G.cks (Yz fn)) m)
 (h:((Nat.beq (Yr G.cks (Yz fn)).length m,Vw G (Yz fn)&&Nat.beq G.n fn.ntmps),fun x=>Vs G (Yz fn) (YL ts⊕p.den) (pre.inj x) (lX G fn.results.toList ts T p chk))=((true,true),F)):SegOk G fn pre chk ts T p F:=by
 injection h with h1 h2
 injection h1 with h0 h1
 rw [ze] at h1
 exact ⟨Jx.1 h1.2,h1.1,nL h0 hp,fun x=>congrFun h2 x⟩
structure FnB [GInv] (P:Program) where
 f:Nat
 ce:Callee
 ok:vj P f ce
structure MB [GInv] (P:Program) where
 i:Nat
 mc:xj
 ok:MOk P mc.fn mc
structure AB [GInv] (P:Program) where
 i:Nat
 ma:MAlt
 ok:uj P ma.fn ma
structure TB [GInv] (P:Program) where
 tab:List (Nat×TI)
 eqs:Eqs
 hT:Uv P tab
 hE:sA P tab eqs
 hm:P.follows .mixedOrders=true
structure EB [GInv] (P:Program) where
 t:TB P
 fn:Func
 fns:List (FnB P)
 keep:List Nat
 muts:List Nat
 fps:List (Nat×List (Nat×List Nat))
 cks:List (Nat×Ck)
 ms:List (MB P)
 as:List (AB P)
section
variable [GInv] {P:Program}
def EB.env (b:EB P):Env:=⟨b.fn.ntmps,b.t.tab,b.fns.map (fun x=>(x.f,x.ce)),b.keep,b.muts,BH (Yz b.fn) b.fps,b.cks,b.ms.map (fun x=>(x.i,x.mc)),b.t.eqs,b.as.map fun x=>(x.i,x.ma)⟩
def FU:∀l:List (FnB P),sB P (l.map fun x=>(x.f,x.ce))
 | []=>lY
 | x::r=>mK x.ok (FU r)
def M0:∀l:List (MB P),nU P (l.map fun x=>(x.i,x.mc))
 | []=>g8
 | x::r=>vW x.ok (M0 r)
def ML:∀l:List (AB P),nT P (l.map fun x=>(x.i,x.ma))
 | []=>gR
 | x::r=>vC x.ok (ML r)
theorem EB.ok (b:EB P):AllOk P b.env:=⟨FU b.fns,M0 b.ms,b.t.hE,ML b.as⟩
def Uj (b:EB P) {f:Nat} {ce:Callee} (hf:P.funcs[f]?=some b.fn) {m:Nat} (hp:lJ b.env (Yr b.cks (Yz b.fn)) m)
 (h : (Nat.beq (Yr b.cks (Yz b.fn)).length m, (b.fn.body.isSome && Vw b.env (Yz b.fn) && Nat.ble ce.params.length b.fn.ntmps && Nat.beq b.fn.results.toList.length ce.res.length && !(b.fn.name == "runtime.NumGoroutine")), den b.env b.fn ce.params ce.res) = (true, true, ce.F):=by kernel_rfl) : vj P f ce := by
 injection h with h1 h2
 injection h2 with h2 h3
 refine MU b.t.hT b.t.hm hf b.ok h1 hp ?_ (fun x=>congrFun h3 x)
 simp only [ze] at h2 ⊢
 exact ⟨⟨⟨⟨⟨h2.1.1.1.1,h2.1.1.1.2⟩,Jx.2 rfl⟩,h2.1.1.2⟩,h2.1.2⟩,h2.2⟩
def Ub (b:EB P) {f:Nat} {mc:xj} (hf:P.funcs[f]?=some b.fn) {m:Nat} (hp:lJ b.env (Yr b.cks (Yz b.fn)) m)
 (h : (Nat.beq (Yr b.cks (Yz b.fn)).length m, (b.fn.body.isSome && Vw b.env (Yz b.fn) && Nat.ble mc.pre.mj.length b.fn.ntmps && Nh 0 mc.pre.mj && !(b.fn.name == "runtime.NumGoroutine") && Nat.beq mc.fn f), CL b.env b.fn mc.pre mc.post) = (true, true, mc.F):=by kernel_rfl) : MOk P mc.fn mc := by
 injection h with h1 h2
 injection h2 with h2 h3
 refine QH b.t.hT b.t.hm hf b.ok h1 hp ?_ (fun x=>congrFun h3 x)
 simp only [ze] at h2 ⊢
 exact ⟨⟨⟨⟨⟨⟨h2.1.1.1.1.1,h2.1.1.1.1.2⟩,Jx.2 rfl⟩,h2.1.1.1.2⟩,h2.1.1.2⟩,h2.1.2⟩,h2.2⟩
def Hw (b:EB P) {f:Nat} {ma:MAlt} (hf:P.funcs[f]?=some b.fn) {m:Nat} (hp:lJ b.env (Yr b.cks (Yz b.fn)) m)
 (h : (Nat.beq (Yr b.cks (Yz b.fn)).length m, (b.fn.body.isSome && Vw b.env (Yz b.fn) && Nat.ble ma.pre.mj.length b.fn.ntmps && Nh 0 ma.pre.mj && !(b.fn.name == "runtime.NumGoroutine") && Nat.beq ma.fn f), CK b.env b.fn ma.pre ma.post ma.pan ma.post2) = (true, true, ma.F):=by kernel_rfl) : uj P ma.fn ma := by
 injection h with h1 h2
 injection h2 with h2 h3
 refine QG b.t.hT b.t.hm hf b.ok h1 hp ?_ (fun x=>congrFun h3 x)
 simp only [ze] at h2 ⊢
 exact ⟨⟨⟨⟨⟨⟨h2.1.1.1.1.1,h2.1.1.1.1.2⟩,Jx.2 rfl⟩,h2.1.1.1.2⟩,h2.1.1.2⟩,h2.1.2⟩,h2.2⟩
end
end
end Go.Ql
end

section
namespace Go.Ql
section
variable [GInv] {P:Program} {G:Env} {n n':Nat} {w0 w w1:World} {Z0:Bs} {st:St} {a a':Act} {nm:JY}
def Rel.frame (h:Rel n w0 Z0 st a w nm) {df:List Deferred} {cm:Bool} {sl:List (Nat×Dv)} (hd:a'.defers=df) (hn:a'.tmps.size=n')
 (hs:∀t d,look sl t=some d → ∃v,a'.tmps[t]?=some v∧Vf w (Zc w0 Z0 nm st.sj w) nm st.sj d v) :
 Rel n' w0 ⟨Z0.z,Z0.m,Z0.nm,df,cm⟩ ⟨sl,st.sj⟩ a' w nm:=
 ⟨⟨[],by rw [hd];rfl,Marks.nil _ _ _⟩,hn,hs,h.sj,h.new,h.inj,h.same,h.given,h.glob,fun _=>hd⟩
def CY {ρ:Type} (ob:Nat→Option Ob) (rs:List Ty) (f:YL rs→ρ) (l:List Dv):Option ρ:=match args ob rs l with
 | some (x,_)=>some (f x)
 | none=>none
def qH (hT:Uv P G.tab) {Z:Nat→Prop} {nm0:JY} {df:List Deferred} {cm:Bool} {fn:Func} {rs:List Ty} {ρ:Type} {f:YL rs→ρ} {r:ρ}
 (h:Rel n w0 ⟨Z,fun _=>False,nm0,df,cm⟩ st a w nm)
 (hk:cW G st fn.results.toList (CY (look st.sj) rs f)=some r) :
 ∃x v,r=f x∧(results fn a.tmps).run P w=.ok v w∧Same w0 w∧bV w (aQ w0 w Z) rs x v:=by
 obtain ⟨l,rvs,hk,q1,q2,q3⟩:=aF hT h fn.results.toList hk
 unfold CY at hk
 split at hk
 ·rename_i x' u hx
  simp only [zd] at hk
  obtain ⟨Z1,hz1,hr1⟩:=tK h hx q2 q3
  have hk1:Kept w w Z1 (aQ w0 w Z):=fun b hb=>⟨by
   have:=hz1 b hb
   by_cases hlt:b<w0.heap.size
   ·exact .inl ((this.2 hlt).resolve_right id)
   ·exact .inr ⟨by omega,this.1⟩,rfl⟩
  have hr2:=cJ hk1 rs hr1
  have hrun:(results fn a.tmps).run P w=.ok (if h:rvs.toArray.size=1 then rvs.toArray[0] else .tuple rvs.toArray) w:=by
   unfold results
   rw [Array.mapM_eq_mapM_toList]
   simp only [Sem.run_bind,Sem.run_map]
   erw [q1]
   simp only [Result.andThen_ok,Sem.run_pure]
  refine ⟨x',_,hk.symm,hrun,⟨h.same.os,h.same.tape,h.same.output,h.same.size,fun b hb=>h.same.block b hb id⟩,?_⟩
  match rs,x',hr2 with
  | [],x',h=>
    have h0:rvs=[]:=h
    subst h0
    exact ⟨#[],rfl,rfl⟩
  | [t],x',⟨v,e,h⟩=>subst e;exact h
  | t::t'::ts,x',h=>
    have hln:=(gG (t::t'::ts) 0 h).1
    obtain ⟨v,r,e,h1,h2⟩:=h
    have hne:¬rvs.toArray.size=1:=by
     simp only [List.size_toArray,hln,zg]
     omega
    rw [dif_neg hne]
    exact ⟨_,rfl,v,r,e,h1,h2⟩
 ·cases hk
end
def bX (fn:Func):Func:={ fn with body:=match fn.body with
 | some (.seq _ (.seq _ (.seq _ c)))=>some c
 | _=>none }
end Go.Ql
end

section
namespace Go.Ql
section
variable [GInv] {P:Program} {G:Env} {n n':Nat} {w0 w w1:World} {Z0:Bs} {st:St} {a a':Act} {nm:JY}
def OF (old:Nat→Nat) (a0 a:At):Prop:=(∃t d,a0=.val t d∧a=.val t d) ∨ ∃i ver,a=.own i ver∧a0=.own (old i) ver
def ObRen (old:Nat→Nat) (ob0 ob:Ob):Prop:=match ob with
 | .arr v fz e t xs=>ob0=.arr v fz e t xs
 | .box cs=>∃cs0,ob0=.box cs0∧cs0.length=cs.length ∧ ∀(j:Nat) (x:At),cs[j]?=some x → ∃x0,cs0[j]?=some x0∧OF old x0 x
 | _=>False
def ObRen.mine {old:Nat→Nat} {ob0 ob:Ob} (h:ObRen old ob0 ob):ob0.mine=ob.mine:=by
 cases ob with
 | arr v fz e t xs=>rw [show ob0=_ from h]
 | box cs=>obtain ⟨cs0,rfl,_⟩:=h;rfl
 | gone=>exact h.elim
 | clo=>exact h.elim
def Rel.renum2 (h:Rel n w0 Z0 st a w nm) {sj:List (Nat×Ob)} {nm':JY} {old:Nat→Nat} (hin:∀i j,old i=old j→(look sj i).isSome→(look sj j).isSome→i=j)
 (hsub:∀id ob,look sj id=some ob → ∃ob0,look st.sj (old id)=some ob0∧ObRen old ob0 ob∧nm' id=nm (old id)) :
 Rel n w0 ⟨Z0.z,Z0.m,nm',Z0.df,Z0.calm⟩ ⟨[],sj⟩ a w nm':=by
 have hZ:Kept w w (Zc w0 Z0 nm st.sj w) (Zc w0 ⟨Z0.z,Z0.m,nm',Z0.df,Z0.calm⟩ nm' sj w):=fun b hb=>⟨⟨hb.1,hb.2.1,fun ⟨j,o,q1,q2,q3⟩=>by
  obtain ⟨o0,p1,p2,p3⟩:=hsub j o q1
  exact hb.2.2 ⟨old j,o0,p1,by rw [p2.mine];exact q2,by rw [←p3];exact q3⟩⟩,rfl⟩
 refine ⟨h.defk hZ,h.size,fun t d hl=>by simp [look] at hl,fun id ob hl=>?_,fun id ob b hl hb=>?_,fun id id' ob ob' b h1 h2 hb hb'=>?_,h.same,fun id ob _ _ _=>rfl,h.glob,h.calm⟩
 ·obtain ⟨ob0,h1,h2,h3⟩:=hsub id ob hl
  have:=h.sj _ _ h1
  cases ob with
  | arr v fz e t xs=>
    rw [show ob0=_ from h2] at this
    show rdArr w _ (nm' id) e t xs
    rw [h3]
    exact bU hZ (fun _ _=>rfl) this
  | box cs=>
    obtain ⟨cs0,rfl,hlen,hcs⟩:=h2
    obtain ⟨b,vs,T,e1,e2,e3,e4⟩:=this
    refine ⟨b,vs,T,by rw [h3];exact e1,e2,⟨by rw [e3.1];exact hlen,fun j x v hx hv=>?_⟩,e4.1,fun T' hT=>?_⟩
    ·obtain ⟨x0,g1,g2⟩:=hcs j x hx
     have g3:=e3.2 j x0 v g1 hv
     rcases g2 with ⟨t,d,rfl,rfl⟩ | ⟨i,ver,rfl,rfl⟩
     ·exact bJ (Kept.weak hZ) g3
     ·refine ⟨g3.1,fun fz e t xs hlk=>?_⟩
      obtain ⟨o0,p1,p2,p3⟩:=hsub i _ hlk
      rw [show o0=_ from p2] at p1
      rw [p3]
      exact g3.2 fz e t xs p1
    ·obtain ⟨j,hj⟩:=List.mem_iff_getElem?.1 hT
     obtain ⟨x0,_,g2⟩:=hcs j _ hj
     rcases g2 with ⟨t,d,_,e⟩ | ⟨i,ver,e,_⟩<;>cases e
  | gone=>exact h2.elim
  | clo=>exact h2.elim
 ·obtain ⟨ob0,h1,h2,h3⟩:=hsub id ob hl
  rw [h3] at hb
  exact h.new _ ob0 b h1 hb
 ·obtain ⟨o1,p1,p2,p3⟩:=hsub id ob h1
  obtain ⟨o2,q1,q2,q3⟩:=hsub id' ob' h2
  rw [p3] at hb
  rw [q3] at hb'
  exact hin id id' (h.inj _ _ o1 o2 b p1 q1 hb hb') (by rw [h1];rfl) (by rw [h2];rfl)
def Rel.only2 (h:Rel n w0 Z0 st a w nm) {sj:List (Nat×Ob)} (hsub:∀id ob,look sj id=some ob→look st.sj id=some ob∧ObOk nm nm st.sj sj ob):Rel n w0 Z0 ⟨[],sj⟩ a w nm:=by
 have hk:Kept w w (Zc w0 Z0 nm st.sj w) (Zc w0 Z0 nm sj w):=fun b hb=>⟨⟨hb.1,hb.2.1,fun ⟨j,o,q1,q2,q3⟩=>hb.2.2 ⟨j,o,(hsub j o q1).1,q2,q3⟩⟩,rfl⟩
 refine ⟨h.defk hk,h.size,fun t d hl=>by simp [look] at hl,fun id ob hl=>?_,fun id ob b hl=>h.new id ob b (hsub id ob hl).1,fun id id' ob ob' b h1 h2=>h.inj id id' ob ob' b (hsub id ob h1).1 (hsub id' ob' h2).1,h.same,fun id ob hg hl=>h.given id ob hg (hsub id ob hl).1,h.glob,h.calm⟩
 exact Hh hk rfl (fun _ _=>rfl) (hsub id ob hl).2 (h.sj id ob (hsub id ob hl).1)
def Ob.semi (sj:List (Nat×Ob)):Ob→Prop
 | .arr ..=>True
 | .box cs=>∀a∈cs,(∃t d,a=At.val t d) ∨ ∃i v,a=At.own i v∧look sj i=none
 | _=>False
def Ob.semi.ok {nm nm':JY} {sj objs':List (Nat×Ob)}:∀{ob:Ob},ob.semi objs'→ObOk nm nm' sj objs' ob
 | .arr ..,_=>trivial
 | .box cs,h=>by
   intro a ha
   rcases h a ha with ⟨t,d,rfl⟩ | ⟨i,v,rfl,hn⟩
   ·intro id hm
    simp [At.fj] at hm
   ·intro id hm
    have:i=id:=Jx.1 hm
    subst this
    exact ⟨(fun ver fz e t xs hl=>by rw [hn] at hl;cases hl),(fun cs hl=>by rw [hn] at hl;cases hl),(fun f x y hl=>by rw [hn] at hl;cases hl)⟩
 | .gone,h=>h.elim
 | .clo ..,h=>h.elim
end
end Go.Ql
end
