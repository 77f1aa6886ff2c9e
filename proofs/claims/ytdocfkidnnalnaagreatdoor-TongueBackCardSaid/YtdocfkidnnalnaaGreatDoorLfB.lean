/- Part of the lifter: a function's contract out of its meaning; for any program. -/
import Derived.Test.YtdocfkidnnalnaaGreatDoorLeB
import Derived.LoopN
import Derived.KernelRfl
import Derived.Recover
set_option linter.all false
section
namespace Go.Ql
theorem Uj {S R:Type} {f:S→Option (S⊕R)} {s:S} {r:R} (h:iter f s=some r):∃n,iterN f n s=some r:=by
 unfold iter at h
 split at h
 ·rename_i hex
  simp only [z6] at h
  subst h
  exact ⟨_,Classical.choose_spec (Classical.choose_spec hex)⟩
 ·cases h
theorem iterN_mono {S R:Type} {f:S→Option (S⊕R)}:∀{n:Nat} {s:S} {r:R} (m:Nat),iterN f n s=some r→iterN f (n+m) s=some r
 | 0,_,_,_,h=>by simp [iterN] at h
 | n+1,s,r,m,h=>by
   rw [show n+1+m=(n+m)+1 by omega]
   simp only [iterN] at h ⊢
   split at h
   ·exact iterN_mono m h
   ·exact h
   ·cases h
theorem iterN_det {S R:Type} {f:S→Option (S⊕R)} {n m:Nat} {s:S} {r r':R} (h:iterN f n s=some r) (h':iterN f m s=some r'):r=r':=by
 have h1:=iterN_mono m h
 have h2:=iterN_mono n h'
 rw [Nat.add_comm] at h2
 rw [h1] at h2
 cases h2;rfl
theorem iter_of {S R:Type} {f:S→Option (S⊕R)} {n:Nat} {s:S} {r:R} (h:iterN f n s=some r):iter f s=some r:=by
 have hex:∃n r,iterN f n s=some r:=⟨n,r,h⟩
 unfold iter
 rw [dif_pos hex]
 rw [iterN_det (Classical.choose_spec (Classical.choose_spec hex)) h]
noncomputable def loopF (G:Env) (c:Code) (s:St):Option (St⊕(Ex×St)):=
 execK G c (St⊕(Ex×St)) s fun e s'=>bif Yu e then some (.inl (restrict s s')) else some (.inr (e,restrict s s'))
noncomputable def Hs (G:Env) (p t:Nat) (body:Code) (s:St):Option (St⊕(Ex×St)):=match look s.slots kH with
 | some (.one (.val (.sl (.int kd')) ys))=>br (List.isEmpty ys) (some (.inr (0,⟨del kH s.slots,s.objs⟩)))
   (bnd (idx ys 0) fun y=>execK G body (St⊕(Ex×St)) ⟨ins t (.one (.val (.int kd') y)) (ins p (.one (.val (.int kd') y)) (del kH s.slots)),s.objs⟩ fun e s'=>
    bif Yu e&&calmO (onlyO s.objs s'.objs) then some (.inl ⟨ins kH (.one (.val (.sl (.int kd')) (ys.drop 1))) (onlyP (fun t'=>!memN t' (p::t::kH::wrC body)) s'.slots),onlyO s.objs s'.objs⟩) else none)
 | _=>none
def Sums (raw:(ρ:Type)→St→(Ex→St→Option ρ)→Option ρ) (s:Ck):Prop:=
 ∀(ρ:Type) st k r,s.run ρ st k=some r → ∃p:Ex×St,raw (Ex×St) st (fun e s=>some (e,s))=some p∧k p.1 p.2=some r
inductive PK where
 | region (id:Nat) (ops:Array Oper) (d:Bool) | join (a:Code) | loop (c:Code) | range (asg c:Code)
def Yg (G:Env) (key:Nat) (p:PK):Prop:=∀s,look G.cks key=some s→match p with
 | .region id ops d=>Sums (VK G id ops d) s
 | .join a=>Sums (fun ρ st k=>execK G a ρ st fun e s=>k e (restrict (domJ G key st) s)) s
 | .loop c=>∀(ρ:Type) st k r,s.run ρ st k=some r → ∃p:Ex×St,iter (loopF G c) st=some p∧k p.1 p.2=some r
 | .range asg c=>∀p t,Hm asg=some (p,t) → ∀(ρ:Type) st k r,s.run ρ st k=some r → ∃q:Ex×St,iter (Hs G p t c) st=some q∧k q.1 q.2=some r
def JP (cks:List (Nat×Ck)):Code→List (Nat×PK)
 | .region id ops d=>bif (hasGuards ops||d)&&(look cks id).isSome then [(id,.region id ops d)] else []
 | .seq a b=>(bif joins a b&&(look cks (Hg a)).isSome then [(Hg a,PK.join a)] else [])++(JP cks a++JP cks b)
 | .cond _ a b=>JP cks a++JP cks b
 | .block _ c=>JP cks c
 | .loop c=>(bif (look cks (keyLoop c)).isSome then [(keyLoop c,PK.loop c)] else [])++JP cks c
 | .rangeFunc _ _ asg c=>(bif (look cks (keyRange c)).isSome then [(keyRange c,PK.range asg c)] else [])++JP cks c
 | _=>[]
def kG (G:Env):Code→Bool
 | .region id ops d=>!d||(match look G.fps id with
   | some hs=>hintsOk ops.toList hs
   | none=>false)
 | .seq a b=>kG G a&&kG G b
 | .cond _ a b=>kG G a&&kG G b
 | .block _ c=>kG G c
 | .loop c=>kG G c
 | .rangeFunc _ _ _ c=>kG G c
 | _=>true
def qEx (Q:Exit→Act→World→Prop) (nm:Names) (n:Nat) (a:Act) (w:World):Prop:=
 if n=pBad then ∃v,nm payId=.func (.func 0) #[] #[v]∧Q (.panic [{ v,recovered:=false }]) a w else Q (.exit n) a w
def qOf (Q:Exit→Act→World→Prop) (nm:Names):Ex→Act→World→Prop
 | 0,a,w=>Q .normal a w
 | 1,a,w=>Q .ret a w
 | n+2,a,w=>qEx Q nm n a w
section
variable [GInv] {P:Program} {G:Env} {w0:World} {Z0:Bs}
def KeepE (l:List Nat) (e:Ex) (a a':Act):Prop:=Nat.beq e pEx=false→KeepT l a a'
theorem KeepE.left {l m:List Nat} {e:Ex} {a b:Act} (h:KeepE l e a b):KeepE (l++m) e a b:=fun he=>(h he).left
theorem KeepE.right {l m:List Nat} {e:Ex} {a b:Act} (h:KeepE m e a b):KeepE (l++m) e a b:=fun he=>(h he).right
theorem qOf_then {next:Act→World→Prop} {Q:Exit→Act→World→Prop} {e:Ex} (h:Yu e=false) {a:Act} {w:World} {nm:Names} (hq:qOf Q nm e a w):qOf (Exit.then next Q) nm e a w:=by
 match e,h with
 | 1,_=>exact hq
 | n+2,_=>
   have hq:qEx Q nm n a w:=hq
   show qEx _ nm n a w
   unfold qEx at hq ⊢
   split
   ·rename_i hn;rw [if_pos hn] at hq;exact hq
   ·rename_i hn;rw [if_neg hn] at hq;exact hq
theorem raw_sound (hT:TabOk P G.tab) (hF:AllOk P G) (hm:P.follows .mixedOrders=true) {id:Nat} {ops:Array Oper} {d:Bool} (hd:kG G (.region id ops d)=true)
 {ρ:Type} {st:St} {a:Act} {w:World} {nm:Names} {k:Ex→St→Option ρ} {r:ρ} {Q:Exit→Act→World→Prop}
 (h:Rel G.n w0 Z0 st a w nm) (he:VK G id ops d ρ st k=some r) (hk:∀e st' a' w' nm',Rel G.n w0 Z0 st' a' w' nm'→k e st'=some r→KeepE (wrOps ops.toList) e a a'→qOf Q nm' e a' w') (rd:Option Nat):(Code.region id ops d).wpIn (Fr rd) 0 P Q a w:=by
 unfold VK at he
 cases d with
 | false=>
   refine wpIn_region_list ?_
   refine opsK_sound hT hF (L:=wrOps ops.toList) (a0:=a) (fun st' a' w' nm' h' hk' hkt=>hk 0 _ a' w' nm' ((h'.norm (cooled G id)).forget _) hk' fun _=>hkt) (fun st' a' w' nm' v h' hv hk'=>?_) rd 0 ops.toList (fun _ ht=>ht) (KeepT.refl _ _) h he
   have:=hk pEx _ a' w' nm' (h'.norm G) hk' (fun hh=>by simp [pEx] at hh)
   have this:qEx Q nm' pBad a' w':=this
   unfold qEx at this
   rw [if_pos rfl] at this
   obtain ⟨v',q1,q2⟩:=this
   rw [hv] at q1
   cases q1
   exact q2
 | true=>
   simp only [ze] at he
   simp only [kG,Bool.not_true,Bool.false_or] at hd
   split at he
   ·rename_i hs hl
    rw [hl] at hd
    refine drawn_sound (k:=fun st'=>k 0 (norm G st')) (kp:=fun st'=>k pEx (norm G st')) hT hF hm hd h he (fun st' a' w' nm' h' hk' hkt=>hk 0 _ a' w' nm' (h'.norm G) hk' fun _=>hkt) (fun st' a' w' nm' v h' hv hk'=>?_) rd 0
    have:=hk pEx _ a' w' nm' (h'.norm G) hk' (fun hh=>by simp [pEx] at hh)
    have this:qEx Q nm' pBad a' w':=this
    unfold qEx at this
    rw [if_pos rfl] at this
    obtain ⟨v',q1,q2⟩:=this
    rw [hv] at q1
    cases q1
    exact q2
   ·cases he
theorem capsOf_rd {w:World} {Z:Nat→Prop} {nm:Names} {objs:List (Nat×Ob)}:∀{ts:List Ty} {b:List At} {x:dens ts} {vs:List Value},VH ts b=some x→rdAs w Z nm objs b vs→capsRd w Z ts x vs
 | [],[],x,vs,_,h=>zg h.1
 | [t],[.fptr s d],x,vs,he,h=>by
   simp only [VH] at he
   split at he
   ·rename_i e
    subst e
    simp only [z6] at he
    subst he
    obtain ⟨h1,h2⟩:=h
    match vs,h1 with
    | [v],_=>exact ⟨v,rfl,h2 0 _ v rfl rfl⟩
   ·cases he
 | t::t'::ts,.fptr s d::r,x,vs,he,h=>by
   simp only [VH] at he
   split at he
   ·rename_i y hy
    split at he
    ·rename_i e
     subst e
     simp only [z6] at he
     subst he
     obtain ⟨h1,h2⟩:=h
     match vs,h1 with
     | v::vr,h1=>exact ⟨v,vr,rfl,h2 0 _ v rfl rfl,capsOf_rd hy ⟨by simpa using h1,fun i a u q1 q2=>h2 (i+1) a u (by simpa using q1) (by simpa using q2)⟩⟩
    ·cases he
   ·cases he
 | [],_::_,_,_,he,_=>by simp [VH] at he
 | [_],[],_,_,he,_=>by simp [VH] at he
 | _::_::_,[],_,_,he,_=>by simp [VH] at he
 | [_],.val _ _::_,_,_,he,_ | [_],.nilS::_,_,_,he,_ | [_],.ref _ _::_,_,_,he,_ | [_],.own _ _::_,_,_,he,_ | [_],.win _ _ _ _::_,_,_,he,_ | [_],.elem _ _ _ _ _::_,_,_,he,_ | [_],.aptr _ _::_,_,_,he,_
 | [_],.aelem _ _ _ _ _ _ _ _ _::_,_,_,he,_ | [_],.fn _::_,_,_,he,_ | [_],.clo _::_,_,_,he,_ | [_],.selfp _ _::_,_,_,he,_ | [_],.junk::_,_,_,he,_=>by simp [VH] at he
 | [_],.fptr _ _::_::_,_,_,he,_=>by simp [VH] at he
 | _::_::_,.val _ _::_,_,_,he,_ | _::_::_,.nilS::_,_,_,he,_ | _::_::_,.ref _ _::_,_,_,he,_ | _::_::_,.own _ _::_,_,_,he,_ | _::_::_,.win _ _ _ _::_,_,_,he,_ | _::_::_,.elem _ _ _ _ _::_,_,_,he,_ | _::_::_,.aptr _ _::_,_,_,he,_
 | _::_::_,.aelem _ _ _ _ _ _ _ _ _::_,_,_,he,_ | _::_::_,.fn _::_,_,_,he,_ | _::_::_,.clo _::_,_,_,he,_ | _::_::_,.selfp _ _::_,_,_,he,_ | _::_::_,.junk::_,_,_,he,_=>by simp [VH] at he
theorem seqOf_rd {n:Nat} {st:St} {a:Act} {w:World} {nm:Names} (h:Rel n w0 Z0 st a w nm) {tab:List (Nat×TI)} (hE:EqsOk P tab G.eqs) {g:Operand} {kd:IntKind} {xs:List Int} (hs:seqOf G st g=some (kd,xs)) :
 ∃(gf:Nat) (lb:Array Value) (sc:SeqC) (x:dens sc.caps),a.eval g=.func (.func gf) #[] lb∧SeqOk P gf sc∧capsRd w (Zc w0 Z0 nm st.objs w) sc.caps x lb.toList∧sc.k=kd∧sc.L x=xs ∧
  ∀args w,(callFunc gf args).run P w=.ok (.enter gf args) w:=by
 unfold seqOf at hs
 split at hs
 ·rename_i t
  split at hs
  ·rename_i id hsl
   split at hs
   ·rename_i f b hob
    split at hs
    ·rename_i sc hsc
     cases hb:Nat.beq sc.fn f with
     | false=>rw [hb] at hs;cases hs
     | true=>
       rw [hb] at hs
       simp only [ze,Z4] at hs
       obtain ⟨x,hx,e⟩:=hs
       cases e
       have hok:=hE.2 f sc hsc
       obtain ⟨v,q1,q2⟩:=h.slots t _ hsl
       obtain ⟨vx,vy,g1,g2,g3⟩:=h.objs id _ hob
       have hv:=q2.2 f [] b hob
       have e1:vx=#[]:=by
        have:=g2.1
        simp at this
        exact this
       subst e1
       refine ⟨f,vy,sc,x,?_,hok,capsOf_rd hx g3,rfl,rfl,?_⟩
       ·show a.tmps.getD t undef=_
        simp [q1,hv,g1]
       ·obtain ⟨fn,f1,f2,f3⟩:=hok.1
        intro args w
        have f2' : ¬ fn.name = "runtime.NumGoroutine" := by simpa using f2
        have f3':¬fn.body=none:=by intro hh;rw [hh] at f3;cases f3
        simp [callFunc,f1,f2',f3']
    ·cases hs
   ·cases hs
  ·cases hs
 ·cases hs
theorem YR (hT:TabOk P G.tab) (hF:AllOk P G) (hm:P.follows .mixedOrders=true):∀(c:Code),kG G c=true→(∀p∈JP G.cks c,Yg G p.1 p.2) →
 ∀{w0:World} {Z0:Bs} (rd:Option Nat),(rd=none∧Z0.calm=false∨YK c=false) → ∀{ρ:Type} {st:St} {a:Act} {w:World} {nm:Names} {k:Ex→St→Option ρ} {r:ρ} {Q:Exit→Act→World→Prop},
 Rel G.n w0 Z0 st a w nm→execK G c ρ st k=some r→(∀e st' a' w' nm',Rel G.n w0 Z0 st' a' w' nm'→k e st'=some r→KeepE (wrC c) e a a'→qOf Q nm' e a' w')→c.wpIn (Fr rd) 0 P Q a w:=by
 intro c
 induction c with
 | skip=>intro _ _ w0 Z0 rd hrd ρ st a w nm k r Q h he hk;exact wpIn_skip (hk 0 st a w nm h he fun _=>KeepT.refl _ _)
 | label l=>intro _ _ w0 Z0 rd hrd ρ st a w nm k r Q h he hk;exact wpIn_label (hk 0 st a w nm h he fun _=>KeepT.refl _ _)
 | ret=>intro _ _ w0 Z0 rd hrd ρ st a w nm k r Q h he hk;exact wpIn_ret (hk 1 st a w nm h he fun _=>KeepT.refl _ _)
 | exit id=>
   intro _ _ w0 Z0 rd hrd ρ st a w nm k r Q h he hk
   unfold execK at he
   cases hb:Nat.beq id pBad with
   | true=>rw [hb] at he;cases he
   | false=>
     rw [hb] at he
     have this:qEx Q nm id a w:=hk (id+2) st a w nm h he fun _=>KeepT.refl _ _
     unfold qEx at this
     rw [if_neg (JJ.1 hb)] at this
     exact wpIn_exit this
 | region id ops d=>
   intro hd hp w0 Z0 rd hrd ρ st a w nm k r Q h he hk
   unfold execK at he
   cases hg:(hasGuards ops||d) with
   | false=>
     rw [hg] at he
     exact raw_sound hT hF hm hd h he hk rd
   | true=>
     rw [hg] at he
     simp only [ze] at he
     split at he
     ·rename_i s hs
      obtain ⟨p,h1,h2⟩:=(hp (id,.region id ops d) (by simp [JP,hg,hs])) s hs ρ st k r he
      refine raw_sound hT hF hm hd h h1 (fun e st' a' w' nm' h' hk' hkt=>?_) rd
      simp only [z6] at hk'
      subst hk'
      exact hk _ _ a' w' nm' h' h2 hkt
     ·exact raw_sound hT hF hm hd h he hk rd
 | seq x y ihx ihy=>
   intro hd hp w0 Z0 rd hrd ρ st a w nm k r Q h he hk
   simp only [kG,z7] at hd
   have hr2:(rd=none∧Z0.calm=false∨YK x=false)∧(rd=none∧Z0.calm=false∨YK y=false):=by
    rcases hrd with h | h
    ·exact ⟨.inl h,.inl h⟩
    ·simp only [YK,Bool.or_eq_false_iff] at h;exact ⟨.inr h.1,.inr h.2⟩
   have ihx:=@ihx hd.1 (fun p hq=>hp p (by simp only [JP,List.mem_append];exact .inr (.inl hq))) w0 Z0 rd hr2.1
   have ihy:=@ihy hd.2 (fun p hq=>hp p (by simp only [JP,List.mem_append];exact .inr (.inr hq))) w0 Z0 rd hr2.2
   refine wpIn_seq ?_
   have next:∀e st' a' w' nm',Rel G.n w0 Z0 st' a' w' nm'→(bif Yu e then execK G y ρ st' k else k e st')=some r→KeepE (wrC x) e a a'→qOf (Exit.then (y.wpIn (Fr rd) 0 P Q) Q) nm' e a' w':=by
    intro e st' a' w' nm' h' hk' hkt
    cases hn:Yu e with
    | true=>
      rw [hn] at hk'
      have:e=0:=beqN.1 hn
      subst this
      exact ihy h' hk' fun e2 st2 a2 w2 nm2 h2 hk2 hkt2=>hk e2 st2 a2 w2 nm2 h2 hk2 fun he=>(hkt rfl).left.trans (hkt2 he).right
    | false=>
      rw [hn] at hk'
      exact qOf_then hn (hk e st' a' w' nm' h' hk' hkt.left)
   unfold execK at he
   cases hj:joins x y with
   | false=>
     rw [hj] at he
     exact ihx h he next
   | true=>
     rw [hj] at he
     simp only [ze] at he
     split at he
     ·rename_i s hs
      obtain ⟨p,h1,h2⟩:=(hp (Hg x,.join x) (by simp [JP,hj,hs])) s hs ρ st _ r he
      refine ihx h h1 (fun e st' a' w' nm' h' hk' hkt=>?_)
      simp only [z6] at hk'
      subst hk'
      exact next _ _ a' w' nm' (h'.restrict _) h2 hkt
     ·exact ihx h he (fun e st' a' w' nm' h' hk' hkt=>next e _ a' w' nm' (h'.restrict _) hk' hkt)
 | cond c x y ihx ihy=>
   intro hd hp w0 Z0 rd hrd ρ st a w nm k r Q h he hk
   simp only [kG,z7] at hd
   have hr2:(rd=none∧Z0.calm=false∨YK x=false)∧(rd=none∧Z0.calm=false∨YK y=false):=by
    rcases hrd with h | h
    ·exact ⟨.inl h,.inl h⟩
    ·simp only [YK,Bool.or_eq_false_iff] at h;exact ⟨.inr h.1,.inr h.2⟩
   have ihx:=@ihx hd.1 (fun p hq=>hp p (by simp only [JP,List.mem_append];exact .inl hq)) w0 Z0 rd hr2.1
   have ihy:=@ihy hd.2 (fun p hq=>hp p (by simp only [JP,List.mem_append];exact .inr hq)) w0 Z0 rd hr2.2
   unfold execK at he
   split at he
   ·rename_i t
    split at he
    ·rename_i b hb
     have hc:a.eval (.tmp t)=.bool b:=HB h hb
     refine wpIn_cond hc ?_
     cases b with
     | true=>simp only [br] at he;exact ihx (h.delC G t) he fun e st' a' w' nm' h' hk' hkt=>hk e st' a' w' nm' h' hk' hkt.left
     | false=>simp only [br] at he;exact ihy (h.delC G t) he fun e st' a' w' nm' h' hk' hkt=>hk e st' a' w' nm' h' hk' hkt.right
    ·cases he
   ·have hc:a.eval (.const (.bool true))=.bool true:=rfl
    refine wpIn_cond hc ?_
    exact ihx h he fun e st' a' w' nm' h' hk' hkt=>hk e st' a' w' nm' h' hk' hkt.left
   ·have hc:a.eval (.const (.bool false))=.bool false:=rfl
    refine wpIn_cond hc ?_
    exact ihy h he fun e st' a' w' nm' h' hk' hkt=>hk e st' a' w' nm' h' hk' hkt.right
   ·cases he
 | block id c ih=>
   intro hd hp w0 Z0 rd hrd ρ st a w nm k r Q h he hk
   unfold execK at he
   cases hbad:Nat.beq id pBad with
   | true=>rw [hbad] at he;cases he
   | false=>
   rw [hbad] at he
   refine wpIn_block (ih hd hp rd hrd h he (fun e st' a' w' nm' h' hk' hkt=>?_))
   cases hb:Nat.beq e (id+2) with
   | true=>
     rw [hb] at hk'
     have:=beqN.1 hb
     subst this
     show qEx _ nm' id a' w'
     unfold qEx
     rw [if_neg (JJ.1 hbad)]
     simp only [Exit.inBlock,if_true]
     exact hk 0 st' a' w' nm' h' hk' fun _=>hkt (by
      cases hb2:Nat.beq (id+2) pEx with
      | false=>rfl
      | true=>exact absurd (Nat.add_right_cancel (beqN.1 hb2:id+2=pBad+2)) (JJ.1 hbad))
   | false=>
     rw [hb] at hk'
     have:=hk e st' a' w' nm' h' hk' hkt
     match e,hb with
     | 0,_=>exact this
     | 1,_=>exact this
     | n+2,hb=>
       have hne:¬n=id:=by intro hh;subst hh;exact absurd rfl (JJ.1 hb)
       have this:qEx Q nm' n a' w':=this
       show qEx _ nm' n a' w'
       unfold qEx at this ⊢
       by_cases hn:n=pBad
       ·rw [if_pos hn] at this ⊢
        exact this
       ·rw [if_neg hn] at this ⊢
        simp only [Exit.inBlock,if_neg hne]
        exact this
 | loop c ih=>
   intro hd hp w0 Z0 rd hrd ρ st a w nm k r Q h he hk
   have ih:=@ih hd (fun p hq=>hp p (by simp only [JP,List.mem_append];exact .inr hq)) w0 Z0 rd hrd
   obtain ⟨a0,ha0⟩:∃a0,a0=a:=⟨_,rfl⟩
   have key:∀(p:Ex×St),k p.1 p.2=some r → ∀(m:Nat) {st:St} {a:Act} {w:World} {nm:Names},Rel G.n w0 Z0 st a w nm→KeepT (wrC c) a0 a→iterN (loopF G c) m st=some p→Code.roundsIn (Fr rd) 0 P c Q m a w:=by
    intro p hkp m
    induction m with
    | zero=>intro st a w nm _ _ hi;simp [iterN] at hi
    | succ m ihm=>
      intro st a w nm h hkt0 hi
      rw [roundsIn_succ]
      simp only [iterN] at hi
      split at hi
      ·rename_i s' hs
       refine ih h hs (fun e st' a' w' nm' h' hk' hkt=>?_)
       cases hn:Yu e with
       | true=>
         rw [hn] at hk'
         simp only [ze,z6,Sum.inl.injEq] at hk'
         subst hk'
         have:e=0:=beqN.1 hn
         subst this
         exact ihm (h'.restrict st) (hkt0.trans (hkt rfl)) hi
       | false=>rw [hn] at hk';cases hk'
      ·rename_i p' hs
       simp only [z6] at hi
       subst hi
       refine ih h hs (fun e st' a' w' nm' h' hk' hkt=>?_)
       cases hn:Yu e with
       | true=>rw [hn] at hk';cases hk'
       | false=>
         rw [hn] at hk'
         simp only [zf,z6,Sum.inr.injEq] at hk'
         subst hk'
         exact qOf_then hn (hk e _ a' w' nm' (h'.restrict st) hkp fun he=>by rw [←ha0];exact hkt0.trans (hkt he))
      ·cases hi
   unfold execK at he
   split at he
   ·rename_i s hs
    obtain ⟨p,h1,h2⟩:=(hp (keyLoop c,.loop c) (by simp [JP,hs])) s hs ρ st k r he
    obtain ⟨m,hm⟩:=Uj h1
    exact wpIn_loop_rounds m (key p h2 m h (by rw [ha0];exact KeepT.refl _ _) hm)
   ·obtain ⟨p,h1,h2⟩:=jQ he
    obtain ⟨m,hm⟩:=Uj h1
    exact wpIn_loop_rounds m (key p h2 m h (by rw [ha0];exact KeepT.refl _ _) hm)
 | rangeFunc g ps asg body _ ih=>
   intro hd hp w0 Z0 rd hrd ρ st a w nm k r Q h he hk
   obtain ⟨hrd,hcm⟩:rd=none∧Z0.calm=false:=hrd.resolve_right (by simp [YK])
   subst hrd
   unfold execK at he
   split at he
   ·rename_i kd xs p t hseq hasg
    cases hb:(!YK body&&(ps.toList==[p])&&Nat.blt p G.n&&Nat.blt t G.n&&Nat.blt G.n kH&&calmO st.objs) with
    | false=>rw [hb] at he;cases he
    | true=>
    rw [hb] at he
    simp only [ze] at he
    simp only [z7,zx,beq_iff_eq] at hb
    obtain ⟨⟨⟨⟨⟨hrb,hps⟩,hpn⟩,htn⟩,hsn⟩,hcalm⟩:=hb
    have hps:ps=#[p]:=by rw [←Array.toArray_toList (xs:=ps),hps]
    subst hps
    have hpn:p<G.n:=by simpa [Nat.blt_eq] using hpn
    have htn:t<G.n:=by simpa [Nat.blt_eq] using htn
    have hsn:G.n<kH:=by simpa [Nat.blt_eq] using hsn
    obtain ⟨q,m,hq,hkq⟩:∃(q:Ex×St) (m:Nat),iterN (Hs G p t body) m ⟨ins kH (.one (.val (.sl (.int kd)) xs)) st.slots,st.objs⟩=some q∧k q.1 q.2=some r:=by
     split at he
     ·rename_i s hs
      obtain ⟨q,h1,h2⟩:=(hp (keyRange body,.range asg body) (by simp [JP,hs])) s hs p t hasg ρ _ k r he
      obtain ⟨m,hm⟩:=Uj h1
      exact ⟨q,m,hm,h2⟩
     ·obtain ⟨q,h1,h2⟩:=jQ he
      obtain ⟨m,hm⟩:=Uj h1
      exact ⟨q,m,hm,h2⟩
    have ih:=@ih hd (fun p hq=>hp p (by simp only [JP,List.mem_append];exact .inr hq))
    obtain ⟨gf,lb,sc,x,hg,hsc,hlb,e1,e2,eg⟩:=seqOf_rd h hF.eqs hseq
    subst e1;subst e2
    have hZ:∀b,Zc w0 Z0 nm st.objs w b→b<w.heap.size:=fun b hb=>hb.1
    have hat:=hsc.2 w _ _ x hZ hlb
    have hbase:=h.rebase hcalm (a':={ tmps:=a.tmps,defers:=[] }) (df:=[]) rfl rfl
    have hsz:=h.size
    refine range_law hasg (by rw [hsz];exact hpn) hZ hg eg (by simpa using hat)
     (fun pre W=>∃rest s m' nm',sc.L x=pre++rest∧iterN (Hs G p t body) m' s=some q∧look s.slots kH=some (.one (.val (.sl (.int sc.k)) rest))∧calmO s.objs=true ∧
      Rel G.n w (VY w0 Z0 nm st w []) ⟨del kH s.slots,s.objs⟩ { tmps:=a.tmps,defers:=[] } W nm') ⟨_,_,m,nm,rfl,hq,by rw [Jm,if_pos rfl],hcalm,?_⟩ ?_ ?_ ?_ ?_
    ·refine hbase.slotsOf (sl:=del kH (ins kH _ st.slots)) fun t' d hl=>?_
     rw [look_del_ins,UM] at hl
     split at hl
     ·cases hl
     ·exact hl
    ·rintro pre A B ⟨rest,s,m',nm',h1,h2,h3,h4,h5⟩ hs
     exact ⟨rest,s,m',nm',h1,h2,h3,h4,h5.grow hs⟩
    ·rintro pre A l o o' hl ⟨rest,s,m',nm',h1,h2,h3,h4,h5⟩ ho hc
     exact ⟨rest,s,m',nm',h1,h2,h3,h4,h5.turn ho hc hl (fun id ob hob _=>h5.noObj h4 ho hc hob) ⟨[],rfl,Marks.nil _ _ _⟩⟩
    ·rintro l pre y W ⟨rest,s,m',nm',h1,h2,h3,h4,h5⟩ ⟨r',hr'⟩
     have hrest:rest=y::r':=List.append_cancel_left (h1.symm.trans hr')
     subst hrest
     cases m' with
     | zero=>cases h2
     | succ m'=>
     simp only [iterN] at h2
     obtain ⟨fs,hfs⟩:∃fs,Hs G p t body s=fs:=⟨_,rfl⟩
     rw [hfs] at h2
     unfold Hs at hfs
     rw [h3] at hfs
     simp only [List.isEmpty_cons,br] at hfs
     have hidx:idx (y::r') 0=some y:=rfl
     rw [hidx] at hfs
     simp only [bnd] at hfs
     cases fs with
     | none=>cases h2
     | some fs=>
     have hend:=h5.rebase h4 (a':={ tmps:=a.tmps,defers:=[] }) (df:=[]) rfl rfl
     have hput:=(hend.put hpn (d:=.one (.val (.int sc.k) y)) (v:=.int sc.k y) rfl).put htn (d:=.one (.val (.int sc.k) y)) (v:=.int sc.k y) rfl
     refine ih (some l) (.inr hrb) hput hfs ?_
     intro e st2 a2 W2 nm2 hr2 hk2 hkt2
     cases hb2:(Yu e&&calmO (onlyO s.objs st2.objs)) with
     | false=>rw [hb2] at hk2;cases hk2
     | true=>
     rw [hb2] at hk2
     simp only [ze,z6] at hk2
     subst hk2
     simp only [z7] at hb2
     obtain ⟨hb2,hc2⟩:=hb2
     have:e=0:=beqN.1 hb2
     subst this
     simp only at h2
     have hr3:Rel G.n W (VY w (VY w0 Z0 nm st w []) nm' ⟨del kH s.slots,s.objs⟩ W []) ⟨st2.slots,onlyO s.objs st2.objs⟩ a2 W2 nm2:=hr2.objsOf s.objs
     have hkt2:=hkt2 rfl
     have hnot:∀b,b<W.heap.size → ¬owned nm' s.objs b→W2.heap[b]?=W.heap[b]?:=fun b hb hm=>hr2.same.block b hb hm
     show _∧_
     refine ⟨rfl,⟨hr2.same.size,fun j o hj ho=>?_⟩,fun b hb=>?_,r',_,m',nm2,by rw [hr',zl];rfl,h2,by rw [Jm,if_pos rfl];rfl,hc2,?_⟩
     ·have hlt:=(Array.getElem?_eq_some_iff.1 hj).1
      rw [hnot j hlt ?_]
      ·exact hj
      ·rintro ⟨id,ob,hl,_,hb⟩
       exact h5.noObj h4 hj ho hl hb
     ·have hbW:b<W.heap.size:=zw hb.1 h5.same.size
      refine hnot b hbW ?_
      rintro ⟨id,ob,hl,_,hb'⟩
      rcases (h5.new id ob b hl hb').1 with q1 | q1
      ·have:=hb.1;omega
      ·exact hb.2.2 q1
     ·refine h5.unbase (fun hh=>by cases hh) hr3 (sl:=del kH (ins kH _ (onlyP (fun t'=>!memN t' (p::t::kH::wrC body)) st2.slots))) hsz ⟨[],rfl,Marks.nil _ _ _⟩ fun t' d hl=>?_
      rw [look_del_ins,UM] at hl
      split at hl
      ·cases hl
      ·have q1:=UA _ _ _ hl
       have q2:=look_onlyP_true hl
       simp only [memN,zx,Bool.or_eq_false_iff] at q2
       obtain ⟨e1,e2,_,e4⟩:=q2
       obtain ⟨v,q3,q4⟩:=hr3.slots t' d q1
       refine ⟨v,?_,kI (Kept.weak fun b hb=>⟨h5.zc21 hb,rfl⟩) (DvOk.refl ..) q4⟩
       rw [hkt2 t' e4] at q3
       rw [←q3]
       show _=((a.tmps.setIfInBounds p _).setIfInBounds t _)[t']?
       rw [Array.getElem?_setIfInBounds_ne (JJ.1 e2),Array.getElem?_setIfInBounds_ne (JJ.1 e1)]
    ·rintro D W hD ⟨rest,s,m',nm',h1,h2,h3,h4,h5⟩ hdef
     have hrest:rest=[]:=by
      have:=congrArg List.length h1
      rw [z8] at this
      exact zg (by omega)
     subst hrest
     cases m' with
     | zero=>cases h2
     | succ m'=>
     simp only [iterN] at h2
     have hfs:Hs G p t body s=some (.inr (0,⟨del kH s.slots,s.objs⟩)):=by
      unfold Hs
      rw [h3]
      simp only [List.isEmpty_nil,br]
     rw [hfs] at h2
     simp only [z6] at h2
     subst h2
     refine hk 0 _ _ _ nm' (h.unbase (fun hh=>by rw [hcm] at hh;cases hh) h5 (sl:=del kH s.slots) (aN:={ a with defers:={ target:=.collected D,args:=#[] }::a.defers }) hsz ?_ fun t' d hl=>?_) hkq fun _=>fun _ _=>rfl
     ·obtain ⟨l,hl,ds,e1,e2,e3⟩:=h.defers
      refine ⟨{ target:=.collected D,args:=#[] }::l,by rw [hl];rfl,D::ds,by rw [e1];rfl,List.nodup_cons.2 ⟨fun hm=>?_,e2⟩,fun D' hD'=>?_⟩
      ·have:=(e3 D hm).2.1.1
       omega
      ·rcases zz.1 hD' with rfl | hD'
       ·refine ⟨Nat.le_trans h.same.size hD,⟨(Array.getElem?_eq_some_iff.1 hdef).1,fun hlt=>?_,?_⟩,hdef⟩
        ·have:=h.same.size;omega
        ·rintro ⟨id,ob,hl,_,hb⟩
         exact h5.noObj h4 hdef rfl hl hb
       ·obtain ⟨f1,f2,f3⟩:=e3 D' hD'
        have hk12:=h.kept12 h5 D' f2
        exact ⟨f1,hk12.1,hk12.2.trans f3⟩
     ·obtain ⟨v,q3,q4⟩:=h5.slots t' d hl
      exact ⟨v,q3,kI (Kept.weak fun b hb=>⟨h.zc21 hb,rfl⟩) (DvOk.refl ..) q4⟩
   ·cases he
 | scope c _=>intro _ _ w0 Z0 rd hrd ρ st a w nm k r Q h he hk;unfold execK at he;cases he
 | goto l=>intro _ _ w0 Z0 rd hrd ρ st a w nm k r Q h he hk;unfold execK at he;cases he
 | refuse y=>intro _ _ w0 Z0 rd hrd ρ st a w nm k r Q h he hk;unfold execK at he;cases he
theorem look_begin:∀(ts:List Ty) (i:Nat) {x:dens ts} {vs:List Value} {Z:Nat→Prop} {w:World},Vj w Z ts x vs →
 vs.length=ts.length ∧ ∀t d,look (Ho i ts x) t=some d → ∃j ty y v,t=i+j∧d=.one (.val ty y)∧vs[j]?=some v∧rdV w Z ty v y
 | [],i,x,vs,Z,w,h=>by
   have h:vs=[]:=h
   subst h
   exact ⟨rfl,fun t d hl=>by simp [Ho,look] at hl⟩
 | [ty],i,x,vs,Z,w,⟨v,e,h⟩=>by
   subst e
   refine ⟨rfl,fun t d hl=>?_⟩
   simp only [Ho,look] at hl
   cases hb:Nat.beq i t with
   | false=>rw [hb] at hl;cases hl
   | true=>
     rw [hb] at hl
     have:=beqN.1 hb
     subst this
     simp only [ze,z6] at hl
     exact ⟨0,ty,x,v,rfl,hl.symm,rfl,h⟩
 | ty::t'::ts,i,x,vs,Z,w,⟨v,r,e,h1,h2⟩=>by
   subst e
   obtain ⟨l1,l2⟩:=look_begin (t'::ts) (i+1) h2
   refine ⟨by simp [l1],fun t d hl=>?_⟩
   simp only [Ho,look] at hl
   cases hb:Nat.beq i t with
   | false=>
     rw [hb] at hl
     simp only [zf] at hl
     obtain ⟨j,ty',y,v',q1,q2,q3,q4⟩:=l2 t d hl
     exact ⟨j+1,ty',y,v',by omega,q2,by simpa using q3,q4⟩
   | true=>
     rw [hb] at hl
     have:=beqN.1 hb
     subst this
     simp only [ze,z6] at hl
     exact ⟨0,ty,x.1,v,rfl,hl.symm,rfl,h1⟩
theorem VA (hT:TabOk P G.tab) {n:Nat} {st:St} {a:Act} {w:World} {nm:Names} (h:Rel n w0 Z0 st a w nm):∀(rv:List ResultVar) {ρ:Type} {k:List Dv→Option ρ} {r:ρ},resK G st rv k=some r →
 ∃(l:List Dv) (vs:List Value),k l=some r∧(rv.mapM fun (x:ResultVar)=>match x with
  | .tmp t=>(pure (a.tmps.getD t undef):Sem Value)
  | .cell p t=>do loadVar t (←asAddr (a.tmps.getD p undef))).run P w=.ok vs w∧vs.length=l.length ∧ ∀(i:Nat) d v,l[i]?=some d→vs[i]?=some v→rdD w (Zc w0 Z0 nm st.objs w) nm st.objs d v
 | [],_,k,r,he=>⟨[],[],he,rfl,rfl,fun i d v q _=>by simp at q⟩
 | .tmp t::rv,_,k,r,he=>by
   simp only [resK] at he
   split at he
   ·rename_i d h1
    obtain ⟨l,vs,he,q1,q2,q3⟩:=VA hT h rv he
    obtain ⟨v,s1,s2⟩:=h.slots t d h1
    refine ⟨_,v::vs,he,?_,by simp [q2],fun i d' v' p1 p2=>?_⟩
    ·have hg:a.tmps.getD t undef=v:=by simp [s1]
     rw [List.mapM_cons]
     simp only [Sem.run_bind,Sem.run_pure,hg,Result.andThen_ok,q1]
    ·cases i with
     | zero=>simp at p1 p2;subst p1;subst p2;exact s2
     | succ i=>exact q3 i d' v' (by simpa using p1) (by simpa using p2)
   ·cases he
 | .cell p t::rv,_,k,r,he=>by
   simp only [resK] at he
   split at he
   ·rename_i ti id h1 h2
    obtain ⟨v,s1,s2⟩:=h.slots p _ h2
    split at he
    ·rename_i cs hob
     obtain ⟨b,e1,e2⟩:=s2.2 cs hob
     subst e2
     obtain ⟨b',vs',T,p1,p2,p3,p4⟩:=h.objs id _ hob
     rw [e1] at p1
     cases p1
     have hcell:∀j,w.cell? ⟨b,j,none⟩=vs'[j]?:=fun j=>cell_of_row w b j vs' T (0,0) p2
     have hag:=(hT _ _ h1).agg w
     have hsz:=(hT _ _ h1).sizeOf w
     cases hst:ti.ty.isSt with
     | true=>
       rw [hst] at he hag
       simp only [ze] at he
       cases hle:Nat.ble ti.ty.cells cs.length with
       | false=>rw [hle] at he;cases he
       | true=>
         rw [hle] at he
         have hle:=Nat.le_of_ble_eq_true hle
         simp only [ze] at he
         obtain ⟨l,vs,he,q1,q2,q3⟩:=VA hT h rv he
         have hl:=run_loadCells_list (P:=P) (w:=w) ⟨b,0,none⟩ (vs'.toList.take ti.ty.cells) (fun j v hj=>by
          rw [Addr.add_lit,zq,hcell,←Array.getElem?_toList]
          rw [List.getElem?_take] at hj
          split at hj
          ·exact hj
          ·cases hj)
         have hln:(vs'.toList.take ti.ty.cells).length=ti.ty.cells:=by rw [List.length_take,p3.1];omega
         rw [hln] at hl
         refine ⟨_,.agg (vs'.toList.take ti.ty.cells).toArray::vs,he,?_,by simp [q2],fun i d' v' r1 r2=>?_⟩
         ·have hg:a.tmps.getD p undef=.pointer (some ⟨b,0,none⟩):=by simp [s1]
          have hA:(asAddr (.pointer (some ⟨b,0,none⟩))).run P w=.ok ⟨b,0,none⟩ w:=rfl
          have hLV:(loadVar t ⟨b,0,none⟩).run P w=.ok (.agg (vs'.toList.take ti.ty.cells).toArray) w:=by
           simp [loadVar,hag,hsz,hl]
          rw [List.mapM_cons]
          simp only [Sem.run_bind,Sem.run_pure,hg,Result.andThen_ok,hA,hLV,q1]
         ·cases i with
          | zero=>
            simp at r1 r2;subst r1;subst r2
            exact ⟨_,rfl,Hb p3 ti.ty.cells,fun u hu=>p4.1 u (List.mem_of_mem_take hu)⟩
          | succ i=>exact q3 i d' v' (by simpa using r1) (by simpa using r2)
     | false=>
       rw [hst] at he hag
       simp only [zf] at he
       split at he
       ·rename_i x hx
        obtain ⟨l,vs,he,q1,q2,q3⟩:=VA hT h rv he
        have hlt:0<vs'.toList.length:=by rw [p3.1];exact (Z2.1 hx).1
        have hv:vs'.toList[0]?=some vs'.toList[0]:=Z3 hlt
        have hc0:=hcell 0
        rw [←Array.getElem?_toList,hv] at hc0
        refine ⟨_,vs'.toList[0]::vs,he,?_,by simp [q2],fun i d' v' r1 r2=>?_⟩
        ·have hg:a.tmps.getD p undef=.pointer (some ⟨b,0,none⟩):=by simp [s1]
         have hA:(asAddr (.pointer (some ⟨b,0,none⟩))).run P w=.ok ⟨b,0,none⟩ w:=rfl
         have hLV:(loadVar t ⟨b,0,none⟩).run P w=.ok vs'.toList[0] w:=by
          simp [loadVar,hag,hc0]
         rw [List.mapM_cons]
         simp only [Sem.run_bind,Sem.run_pure,hg,Result.andThen_ok,hA,hLV,q1]
        ·cases i with
         | zero=>simp at r1 r2;subst r1;subst r2;exact p3.2 0 x _ hx hv
         | succ i=>exact q3 i d' v' (by simpa using r1) (by simpa using r2)
       ·cases he
    ·cases he
   ·
    rename_i m s' n' e' id ver h1 h2
    obtain ⟨v,s1,s2⟩:=h.slots p _ h2
    split at he
    ·rename_i v0 fz e s xs hob
     split at he
     ·rename_i hs
      subst hs
      cases hv:Nat.beq v0 ver with
      | false=>rw [hv] at he;cases he
      | true=>
        rw [hv] at he
        have:=beqN.1 hv
        subst this
        simp only [ze] at he
        obtain ⟨_,hb,he⟩:=jQ he
        have hb:=zr (JS hb)
        obtain ⟨l,vs,he,q1,q2,q3⟩:=VA hT h rv he
        obtain ⟨b,mm,c,s4,s5⟩:=s2.2 fz e s xs hob
        obtain ⟨_,cells,t1,t2⟩:=(h.objs id _ hob).of s4
        rcases t1.2 with ⟨t3,_⟩ | ⟨g,cap,cur,t3,t4,t5,t6,t7,t8⟩
        ·rw [s4] at t3;cases t3
        rw [s4] at t3
        cases t3
        have hcell:∀k u,cells[k]?=some u→w.cell? ⟨b,k,none⟩=some u:=by
         intro k u hk
         rw [t4.cell,←Array.getElem?_toList]
         rw [←t8,List.getElem?_take] at hk
         split at hk
         ·exact hk
         ·cases hk
        obtain ⟨v',l1,l2⟩:=YG (P:=P) (w:=w) (hT _ _ h1) (cs:=cells) (d:=xs) ⟨hb,t2⟩ (Yl (hT _ _ h1)) (b:=b) (q:=0) (fun k u hk=>by rw [zq];exact hcell k u hk)
        refine ⟨_,v'::vs,he,?_,by simp [q2],fun i d' v2 r1 r2=>?_⟩
        ·have hg:a.tmps.getD p undef=.pointer (some ⟨b,0,none⟩):=by simp [s1,s5]
         have hA:(asAddr (.pointer (some ⟨b,0,none⟩))).run P w=.ok ⟨b,0,none⟩ w:=rfl
         have hLV:(loadVar t ⟨b,0,none⟩).run P w=.ok v' w:=by simpa [Instr.loadAt,Instr.sureAddr] using l1
         rw [List.mapM_cons]
         simp only [Sem.run_bind,Sem.run_pure,hg,Result.andThen_ok,hA,hLV,q1]
        ·cases i with
         | zero=>simp at r1 r2;subst r1;subst r2;exact l2
         | succ i=>exact q3 i d' v2 (by simpa using r1) (by simpa using r2)
     ·cases he
    ·cases he
   ·
    rename_i s' fs id ver h1 h2
    obtain ⟨v,s1,s2⟩:=h.slots p _ h2
    split at he
    ·rename_i v0 fz e s xs hob
     split at he
     ·rename_i hs
      subst hs
      cases hv:Nat.beq v0 ver with
      | false=>rw [hv] at he;cases he
      | true=>
        rw [hv] at he
        have:=beqN.1 hv
        subst this
        simp only [ze] at he
        obtain ⟨y,hy,he⟩:=jQ he
        obtain ⟨i1,i2,i3⟩:=Yt hy
        obtain ⟨l,vs,he,q1,q2,q3⟩:=VA hT h rv he
        obtain ⟨b,mm,c,s4,s5⟩:=s2.2 fz e (.st s') xs hob
        obtain ⟨_,cells,t1,t2⟩:=(h.objs id _ hob).of s4
        rcases t1.2 with ⟨t3,_⟩ | ⟨g,cap,cur,t3,t4,t5,t6,t7,t8⟩
        ·rw [s4] at t3;cases t3
        rw [s4] at t3
        cases t3
        obtain ⟨c1,c2,c3,r1,r2,r3,_⟩:=Yv (fun _ _=>JF (.st s')) t2 i3
        have hz:c1=[]:=zg (by rw [r2];simp)
        subst hz
        have hcell:∀k u,c2[k]?=some u→w.cell? ⟨b,k,none⟩=some u:=by
         intro k u hk
         rw [t4.cell,←Array.getElem?_toList]
         have hk':cells[k]?=some u:=by
          rw [r1,List.nil_append,List.getElem?_append_left (Z2.1 hk).1]
          exact hk
         rw [←t8,List.getElem?_take] at hk'
         split at hk'
         ·exact hk'
         ·cases hk'
        obtain ⟨v',l1,l2⟩:=YG (P:=P) (w:=w) (hT _ _ h1) (cs:=c2) (d:=y) r3 (Yl (hT _ _ h1)) (b:=b) (q:=0) (fun k u hk=>by rw [zq];exact hcell k u hk)
        refine ⟨_,v'::vs,he,?_,by simp [q2],fun i d' v2 r1 r2=>?_⟩
        ·have hg:a.tmps.getD p undef=.pointer (some ⟨b,0,none⟩):=by simp [s1,s5]
         have hA:(asAddr (.pointer (some ⟨b,0,none⟩))).run P w=.ok ⟨b,0,none⟩ w:=rfl
         have hLV:(loadVar t ⟨b,0,none⟩).run P w=.ok v' w:=by simpa [Instr.loadAt,Instr.sureAddr] using l1
         rw [List.mapM_cons]
         simp only [Sem.run_bind,Sem.run_pure,hg,Result.andThen_ok,hA,hLV,q1]
        ·cases i with
         | zero=>simp at r1 r2;subst r1;subst r2;exact l2
         | succ i=>exact q3 i d' v2 (by simpa using r1) (by simpa using r2)
     ·cases he
    ·cases he
   ·cases he
theorem resArgs_rd {n:Nat} {st:St} {a:Act} {w:World} {nm:Names} (h:Rel n w0 Z0 st a w nm) {ts:List Ty} {ds:List Dv} {x:dens ts} {u:Upd} (he:args (look st.objs) ts ds=some (x,u))
 {vs:List Value} (hl:vs.length=ds.length) (hr:∀(i:Nat) d v,ds[i]?=some d→vs[i]?=some v→rdD w (Zc w0 Z0 nm st.objs w) nm st.objs d v):∃Z,(∀b,Z b→b<w.heap.size∧(b<w0.heap.size→Z0.z b∨Z0.m b))∧Vj w Z ts x vs:=by
 obtain ⟨fu,frd⟩:=args_rd (n:=n) (w0:=w0) (w:=w) (Z0:=Z0) (a:=a) (nm:=nm) ts he
 obtain ⟨st1,hl1⟩:=FzUpd.lays u h fu
 obtain ⟨hrel,hfz,hcold⟩:=Rel.freezes u h fu hl1
 have hk1:Kept w w (Zc w0 Z0 nm st.objs w) (Zc w0 Z0 nm st1.objs w):=fun b hb=>⟨hfz.zc hb,rfl⟩
 exact ⟨Zc w0 Z0 nm st1.objs w,fun b hb=>⟨hb.1,hb.2.1⟩,frd st1 ⟨hfz,hrel,hcold⟩ vs hl (fun i d v q1 q2=>kI hk1 (DvOk.refl _ _ _) (hr i d v q1 q2))⟩
theorem den_calls (hT:TabOk P G.tab) (hF:AllOk P G) (hm:P.follows .mixedOrders=true) {f:FuncId} {fn:Func} {c:Code} {ps rs:List Ty} (hf:P.funcs[f]?=some fn) (hb:fn.body=some c) (hn:fn.ntmps=G.n) (hps:ps.length≤G.n)
 (hrs:fn.results.toList.length=rs.length) (hd:kG G c=true) (hp:∀p∈JP G.cks c,Yg G p.1 p.2)
 (w:World) (Z:Nat→Prop) (vs:List Value) (x:dens ps) (r:dens rs) (hg:GInv.ok w) (hZ:∀b,Z b→b<w.heap.size) (hargs:Vj w Z ps x vs) (he:den G fn ps rs x=some r) :
 Calls P f vs.toArray w fun e w'=>∃v,e=.returned v∧Same w w'∧rdRes w' (VD w w' Z) rs r v:=by
 refine callsIn_wide.1 (show CallsIn (Fr none) 0 P f vs.toArray w _ from callsIn_of_wp_marks hf hb trivial ?_ rfl)
 unfold den at he
 rw [hb] at he
 simp only at he
 obtain ⟨l1,l2⟩:=look_begin ps 0 hargs
 have hrel:Rel G.n w ⟨Z,fun _=>False,fun _=>undef,[],false⟩ ⟨Ho 0 ps x,[]⟩ { tmps:=vs.toArray++Array.replicate (fn.ntmps-vs.toArray.size) undef,defers:=[] } w (fun _=>undef):=by
  refine ⟨⟨[],rfl,Marks.nil _ _ _⟩,by simp [hn];omega,fun t d hl=>?_,fun id ob hl=>by simp [look] at hl,fun id ob b hl=>by simp [look] at hl,fun id id' ob ob' b hl=>by simp [look] at hl,SameBut.refl _ w,fun id ob _ hl=>by simp [look] at hl,⟨hg,fun b hb=>hb.elim⟩,fun hh=>(by cases hh)⟩
  obtain ⟨j,ty,y,v,rfl,rfl,q3,q4⟩:=l2 t d hl
  have hj:j<vs.length:=(Z2.1 q3).1
  refine ⟨v,?_,VM (fun b hb=>⟨⟨hZ b hb,fun _=>.inl hb,?_⟩,fun _ _ hu=>hu⟩) q4⟩
  ·rw [zq,Array.getElem?_append_left (by simpa using hj)]
   simpa using q3
  ·rintro ⟨id,ob,h1,_⟩
   simp [look] at h1
 refine YR hT hF hm c hd hp none (.inl ⟨rfl,rfl⟩) hrel he ?_
 intro e st' a' w' nm' h1' hk1 _
 have key:∀w',Rel G.n w ⟨Z,fun _=>False,fun _=>undef,[],false⟩ st' { tmps:=a'.tmps,defers:=[] } w' nm'→Nat.blt e 2=true∧LeavesIn (Fr none) 0 P fn a'.tmps (fun e w'=>∃v,e=.returned v∧Same w w'∧rdRes w' (VD w w' Z) rs r v) [] .returning w':=by
  intro w' h'
  have hk:=hk1
  unfold finish at hk
  cases hlt:Nat.blt e 2 with
  | false=>rw [hlt] at hk;cases hk
  | true=>
   refine ⟨rfl,?_⟩
   rw [hlt] at hk
   simp only [ze] at hk
   obtain ⟨l,rvs,hk,q1,q2,q3⟩:=VA hT h' fn.results.toList hk
   ·split at hk
    ·rename_i x' u hx
     simp only [z6] at hk
     subst hk
     obtain ⟨Z1,hz1,hr1⟩:=resArgs_rd h' hx q2 q3
     have hk1:Kept w' w' Z1 (VD w w' Z):=fun b hb=>⟨by
      have:=hz1 b hb
      by_cases hlt:b<w.heap.size
      ·exact .inl ((this.2 hlt).resolve_right id)
      ·exact .inr ⟨by omega,this.1⟩,rfl⟩
     have hr2:=Ub hk1 rs hr1
     have hrun:(results fn a'.tmps).run P w'=.ok (if h:rvs.toArray.size=1 then rvs.toArray[0] else .tuple rvs.toArray) w':=by
      unfold results
      rw [Array.mapM_eq_mapM_toList]
      simp only [Sem.run_bind,Sem.run_map]
      erw [q1]
      simp only [Result.andThen_ok,Sem.run_pure]
     have hpost:∃v,(results fn a'.tmps).run P w'=.ok v w' ∧ ∃v',Ending.returned v=.returned v'∧Same w w'∧rdRes w' (VD w w' Z) rs x' v':=by
      refine ⟨_,hrun,_,rfl,⟨h'.same.os,h'.same.tape,h'.same.output,h'.same.size,fun b hb=>h'.same.block b hb id⟩,?_⟩
      match rs,x',hr2 with
      | [],x',h => 
        have h0:rvs=[]:=h
        subst h0
        exact ⟨#[],rfl,rfl⟩
      | [t],x',⟨v,e,h⟩=>subst e;exact h
      | t::t'::ts,x',h=>
        have hln:=(look_begin (t::t'::ts) 0 h).1
        obtain ⟨v,r,e,h1,h2⟩:=h
        have hne:¬rvs.toArray.size=1:=by
         simp only [List.size_toArray,hln,za]
         omega
        rw [dif_neg hne]
        exact ⟨_,rfl,v,r,e,h1,h2⟩
     exact hpost
    ·cases hk
 have hl:=h1'.leaves (P:=P) (fn:=fn) rfl (u:=.returning) (by simp) fun w2 h2=>(key w2 h2).2
 match e,(key w' (h1'.bare rfl)).1 with
 | 0,_=>exact hl
 | 1,_=>exact hl
 | n+2,h=>rw [Nat.blt_eq] at h;omega
theorem slotsFrom_at:∀{l:List (Nat×SD)} {i:Nat} {x:densU (SS.tys l)} {t:Nat} {d:Dv},Vl i l=true→look (SS.inj l x) t=some d → ∃j,t=i+j∧(SS.inj l x)[j]?=some (t,d)
 | [],i,x,t,d,_,h=>by simp [SS.inj,look] at h
 | p::r,i,x,t,d,hs,h=>by
   simp only [Vl,z7] at hs
   simp only [SS.inj,look] at h
   cases hb:Nat.beq p.1 t with
   | true=>
     rw [hb] at h
     simp only [ze,z6] at h
     have e1:=beqN.1 hb
     have e2:=beqN.1 hs.1
     exact ⟨0,by omega,by simp [SS.inj,h,e1]⟩
   | false=>
     rw [hb] at h
     obtain ⟨j,h1,h2⟩:=slotsFrom_at hs.2 h
     exact ⟨j+1,by omega,by simpa [SS.inj] using h2⟩
theorem selfR_look:∀{l:List (Nat×SO)} {j i:Nat},look (selfR l) j=some i→i=j
 | [],j,i,h=>by simp [selfR,look] at h
 | p::r,j,i,h=>by
   simp only [selfR,look] at h
   cases hb:Nat.beq p.1 j with
   | true=>rw [hb] at h;simp only [ze,z6] at h;rw [←h];exact beqN.1 hb
   | false=>rw [hb] at h;exact selfR_look h
theorem mpost {w w':World} {Z:Nat→Prop} {nm nm':Names} {pre:Shape} {x:densU pre.tys} {st':St} {a':Act} (h':Rel G.n w (Bs.of Z nm (pre.inj x).objs) st' a' w' nm')
 {post:Shape} {l:List Dv} {y':densU post.tys} {u:Upd} {σ:Ren} (hbi:Yh (look st'.objs) (selfR pre.objs) post l=some (y',u,σ)) (hko:Uz (look st'.objs) σ=true)
 {rvs:List Value} (q2:rvs.length=l.length) (q3:∀(i:Nat) d v,l[i]?=some d→rvs[i]?=some v→rdD w' (Zc w (Bs.of Z nm (pre.inj x).objs) nm' st'.objs w') nm' st'.objs d v) :
 ∃nm2,Post w w' (Bs.of Z nm (pre.inj x).objs) nm2 (post.inj y') (if h:rvs.toArray.size=1 then rvs.toArray[0] else .tuple rvs.toArray):=by
 have hself:InjR (selfR pre.objs):=fun j j' i h1 h2=>(selfR_look h1).symm.trans (selfR_look h2)
 obtain ⟨fu,_,hi,l3,hall⟩:=bindAll_ok h' hbi hself
 obtain ⟨st1,hl1⟩:=FzUpd.lays u h' fu
 obtain ⟨hrel1,hfz,m,hrd⟩:=hall st1 hl1
 have hown:∀b,owned (nmT nm' σ) (post.inj y').objs b→owned nm' st1.objs b:=by
  rintro b ⟨j,obT,h1,h2,h3⟩
  obtain ⟨i,ob,p1,p2,_,p3,_⟩:=m j obT h1
  rw [Yj p1] at h3
  exact ⟨i,ob,p2,p3 (fun hg=>by rw [hg] at h2;cases h2),h3⟩
 obtain ⟨r1,r2⟩:=hrd (Zc w (Bs.of Z nm (pre.inj x).objs) (nmT nm' σ) (post.inj y').objs w') (fun b hb=>⟨hb.1,hb.2.1,fun hh=>hb.2.2 (hown b hh)⟩)
 have r3:=r2 rvs q2 q3
 have hsl:(post.inj y').slots.length=post.slots.length:=by
  show (SS.inj post.slots _).length=_
  have:∀(l:List (Nat×SD)) (y:densU (SS.tys l)),(SS.inj l y).length=l.length:=by
   intro l
   induction l with
   | nil=>intro y;rfl
   | cons p l ih=>intro y;simp [SS.inj,ih]
  exact this _ _
 have hrl:rvs.length=(post.inj y').slots.length:=by rw [hsl,q2,l3]
 refine ⟨nmT nm' σ,h'.same,?_,r1,fun j obT b ho hb=>?_,fun j j' obT obT' b ho ho' hb hb'=>?_,fun j obT hg ho hh=>?_,fun j obT ho=>?_⟩
 ·unfold rdAns
  split
  ·rename_i p hp1
   rw [hp1] at hrl
   obtain ⟨v,rfl⟩:=List.length_eq_one_iff.1 hrl
   exact r3 0 p v (by rw [hp1];rfl) rfl
  ·rename_i hp1
   have hne:¬rvs.toArray.size=1:=by
    simp only [List.size_toArray]
    intro h1
    rw [h1] at hrl
    match hsls:(post.inj y').slots,hrl with
    | [p],_=>exact hp1 p hsls
   rw [dif_neg hne]
   exact ⟨_,rfl,hrl,r3⟩
 ·obtain ⟨i,ob,p1,p2,_⟩:=m j obT ho
  rw [Yj p1] at hb
  exact hrel1.new i ob b p2 hb
 ·obtain ⟨i,ob,p1,p2,_⟩:=m j obT ho
  obtain ⟨i',ob',p1',p2',_⟩:=m j' obT' ho'
  rw [Yj p1] at hb
  rw [Yj p1'] at hb'
  have:=hrel1.inj i i' ob ob' b p2 p2' hb hb'
  subst this
  exact hi j j' i p1 p1'
 ·obtain ⟨i,ob,p1,p2,p3,_,_,p4,p5,p6⟩:=m j obT ho
  have hq:=zu.1 hko (j,i) (kV p1)
  simp only [Bool.or_eq_true,z7,Nat.blt_eq] at hq
  rcases hq with hq | ⟨hq,hq2⟩
  ·omega
  ·have:=beqN.1 hq
   subst this
   rw [Yj p1]
   refine hrel1.given j ob hg p2 ?_
   cases obT with
   | gone=>exact hh.elim
   | box cs=>obtain ⟨cs',e1⟩:=p5 cs rfl;subst e1;trivial
   | clo f y z=>obtain ⟨y',z',e1⟩:=p6 f y z rfl;subst e1;trivial
   | arr v fz e t xs=>
     obtain ⟨e0,v',e1⟩:=p4 v fz e t xs rfl
     subst e1
     obtain ⟨g1,_⟩:=hh
     refine ⟨g1,?_⟩
     rcases hq2 with hq2 | hq2
     ·omega
     ·rw [p3] at hq2
      exact beqN.1 hq2
 ·obtain ⟨i,ob,_,_,_,_,p,_⟩:=m j obT ho
  exact p
theorem den_mcalls (hT:TabOk P G.tab) (hF:AllOk P G) (hm:P.follows .mixedOrders=true) {f:FuncId} {fn:Func} {c:Code} {pre post:Shape} (hf:P.funcs[f]?=some fn) (hb:fn.body=some c) (hn:fn.ntmps=G.n)
 (hps:pre.slots.length≤G.n) (hs:Vl 0 pre.slots=true) (hd:kG G c=true) (hp:∀p∈JP G.cks c,Yg G p.1 p.2)
 (w:World) (Z:Nat→Prop) (nm:Names) (vs:List Value) (x:densU pre.tys) (y:densU post.tys) (hpre:Pre w Z nm (pre.inj x) vs) (he:denM G fn pre post x=some y) :
 Calls P f vs.toArray w fun e w'=>∃v nm',e=.returned v∧Post w w' (Bs.of Z nm (pre.inj x).objs) nm' (post.inj y) v:=by
 refine callsIn_wide.1 (show CallsIn (Fr none) 0 P f vs.toArray w _ from callsIn_of_wp_marks hf hb trivial ?_ rfl)
 unfold denM at he
 rw [hb] at he
 simp only at he
 have hlen:vs.length=pre.slots.length:=by
  rw [hpre.len]
  show (SS.inj pre.slots _).length=_
  have:∀(l:List (Nat×SD)) (y:densU (SS.tys l)),(SS.inj l y).length=l.length:=by
   intro l
   induction l with
   | nil=>intro y;rfl
   | cons p l ih=>intro y;simp [SS.inj,ih]
  exact this _ _
 have hrel:Rel G.n w (Bs.of Z nm (pre.inj x).objs) (pre.inj x) { tmps:=vs.toArray++Array.replicate (fn.ntmps-vs.toArray.size) undef,defers:=[] } w nm:=by
  refine ⟨⟨[],rfl,Marks.nil _ _ _⟩,by simp [hn];omega,fun t d hl=>?_,hpre.objs,fun id ob b ho hb=>⟨.inr ⟨id,ob,ho,hpre.mine id ob ho,hb⟩,hpre.lt id ob b ho hb⟩,hpre.inj,SameBut.refl _ w,fun id ob _ _ _=>rfl,hpre.glob,fun hh=>(by cases hh)⟩
  obtain ⟨j,e1,e2⟩:=slotsFrom_at (l:=pre.slots) hs hl
  rw [zq] at e1
  subst e1
  have hj:t<vs.length:=by
   have:=(Z2.1 e2).1
   rw [hpre.len]
   exact this
  have hv:vs[t]?=some vs[t]:=Z3 hj
  refine ⟨vs[t],?_,hpre.slots t (t,d) _ e2 hv⟩
  rw [Array.getElem?_append_left (by simpa using hj)]
  simp
 refine YR hT hF hm c hd hp none (.inl ⟨rfl,rfl⟩) hrel he ?_
 intro e st' a' w' nm' h1' hk1 _
 have key:∀w',Rel G.n w (Bs.of Z nm (pre.inj x).objs) st' { tmps:=a'.tmps,defers:=[] } w' nm'→Nat.blt e 2=true∧LeavesIn (Fr none) 0 P fn a'.tmps (fun e w'=>∃v nm',e=.returned v∧Post w w' (Bs.of Z nm (pre.inj x).objs) nm' (post.inj y) v) [] .returning w':=by
  intro w' h'
  have hk:=hk1
  unfold finishM at hk
  cases hlt:Nat.blt e 2 with
  | false=>rw [hlt] at hk;cases hk
  | true=>
   refine ⟨rfl,?_⟩
   rw [hlt] at hk
   simp only [ze] at hk
   obtain ⟨l,rvs,hk,q1,q2,q3⟩:=VA hT h' fn.results.toList hk
   ·split at hk
    ·rename_i y' u σ hbi
     cases hko:Uz (look st'.objs) σ with
     | false=>rw [hko] at hk;cases hk
     | true=>
     rw [hko] at hk
     simp only [ze,z6] at hk
     subst hk
     obtain ⟨nm2,hp2⟩:=mpost h' hbi hko q2 q3
     have hrun:(results fn a'.tmps).run P w'=.ok (if h:rvs.toArray.size=1 then rvs.toArray[0] else .tuple rvs.toArray) w':=by
      unfold results
      rw [Array.mapM_eq_mapM_toList]
      simp only [Sem.run_bind,Sem.run_map]
      erw [q1]
      simp only [Result.andThen_ok,Sem.run_pure]
     exact ⟨_,hrun,_,nm2,rfl,hp2⟩
    ·cases hk
 have hl:=h1'.leaves (P:=P) (fn:=fn) rfl (u:=.returning) (by simp) fun w2 h2=>(key w2 h2).2
 match e,(key w' (h1'.bare rfl)).1 with
 | 0,_=>exact hl
 | 1,_=>exact hl
 | n+2,h=>rw [Nat.blt_eq] at h;omega
theorem den_acalls (hT:TabOk P G.tab) (hF:AllOk P G) (hm:P.follows .mixedOrders=true) {f:FuncId} {fn:Func} {c:Code} {pre post:Shape} {pan:Bool} {post2:Shape} (hf:P.funcs[f]?=some fn) (hb:fn.body=some c) (hn:fn.ntmps=G.n)
 (hps:pre.slots.length≤G.n) (hs:Vl 0 pre.slots=true) (hd:kG G c=true) (hp:∀p∈JP G.cks c,Yg G p.1 p.2)
 (w:World) (Z:Nat→Prop) (nm:Names) (vs:List Value) (x:densU pre.tys) (y:densU post.tys⊕densU post2.tys) (hpre:Pre w Z nm (pre.inj x) vs) (he:denA G fn pre post pan post2 x=some y) :
 Calls P f vs.toArray w fun e w'=>∃v nm',match y with
  | .inl y=>e=.returned v∧Post w w' (Bs.of Z nm (pre.inj x).objs) nm' (post.inj y) v
  | .inr y=>e=(bif pan then .panicked [{ v,recovered:=false }] else .returned v)∧Post w w' (Bs.of Z nm (pre.inj x).objs) nm' (post2.inj y) v:=by
 refine callsIn_wide.1 (show CallsIn (Fr none) 0 P f vs.toArray w _ from callsIn_of_wp_marks hf hb trivial ?_ rfl)
 unfold denA at he
 rw [hb] at he
 simp only at he
 have hlen:vs.length=pre.slots.length:=by
  rw [hpre.len]
  show (SS.inj pre.slots _).length=_
  have:∀(l:List (Nat×SD)) (y:densU (SS.tys l)),(SS.inj l y).length=l.length:=by
   intro l
   induction l with
   | nil=>intro y;rfl
   | cons p l ih=>intro y;simp [SS.inj,ih]
  exact this _ _
 have hrel:Rel G.n w (Bs.of Z nm (pre.inj x).objs) (pre.inj x) { tmps:=vs.toArray++Array.replicate (fn.ntmps-vs.toArray.size) undef,defers:=[] } w nm:=by
  refine ⟨⟨[],rfl,Marks.nil _ _ _⟩,by simp [hn];omega,fun t d hl=>?_,hpre.objs,fun id ob b ho hb=>⟨.inr ⟨id,ob,ho,hpre.mine id ob ho,hb⟩,hpre.lt id ob b ho hb⟩,hpre.inj,SameBut.refl _ w,fun id ob _ _ _=>rfl,hpre.glob,fun hh=>(by cases hh)⟩
  obtain ⟨j,e1,e2⟩:=slotsFrom_at (l:=pre.slots) hs hl
  rw [zq] at e1
  subst e1
  have hj:t<vs.length:=by
   have:=(Z2.1 e2).1
   rw [hpre.len]
   exact this
  have hv:vs[t]?=some vs[t]:=Z3 hj
  refine ⟨vs[t],?_,hpre.slots t (t,d) _ e2 hv⟩
  rw [Array.getElem?_append_left (by simpa using hj)]
  simp
 refine YR hT hF hm c hd hp none (.inl ⟨rfl,rfl⟩) hrel he ?_
 intro e st' a' w' nm' h1' hk1 _
 cases hlt:Nat.blt e 2 with
 | false=>
   have hk:=hk1
   have h':=h1'.bare rfl
   unfold finishA at hk
   rw [hlt] at hk
   simp only [zf] at hk
   cases hpe:pan&&Nat.beq e pEx with
   | false=>rw [hpe] at hk;cases hk
   | true=>
     rw [hpe] at hk
     simp only [ze] at hk
     rw [z7] at hpe
     obtain ⟨hpn,hpe⟩:=hpe
     have:=beqN.1 hpe
     subst this
     subst hpn
     split at hk
     ·rename_i b ho
      split at hk
      ·rename_i y' u σ hbi
       cases hko:Uz (look st'.objs) σ with
       | false=>rw [hko] at hk;cases hk
       | true=>
         rw [hko] at hk
         simp only [ze,z6] at hk
         subst hk
         show qEx _ nm' pBad a' w'
         unfold qEx
         rw [if_pos rfl]
         obtain ⟨vx,vy,g1,g2,g3⟩:=h'.objs payId _ ho
         have e1:vx=#[]:=by
          have:=g2.1
          simp at this
          exact this
         obtain ⟨v,e2⟩:∃v,vy=#[v]:=by
          have:=g3.1
          match hv:vy.toList,this with
          | [v],_=>exact ⟨v,by rw [←Array.toArray_toList (xs:=vy),hv]⟩
         subst e1;subst e2
         refine ⟨v,g1,h1'.leaves rfl (by simp) fun w2 h2=>?_⟩
         obtain ⟨vx2,vy2,g12,g22,g32⟩:=h2.objs payId _ ho
         have hv2:vy2=#[v]:=by
          have e:=g1.symm.trans g12
          simp only [Value.func.injEq] at e
          exact e.2.2.symm
         subst hv2
         obtain ⟨nm2,hp2⟩:=mpost h2 hbi hko (rvs:=[v]) rfl (fun i d u h1 h2=>by
          cases i with
          | succ i=>simp at h1
          | zero=>
            simp only [List.getElem?_cons_zero,z6] at h1 h2
            subst h1;subst h2
            exact g32.2 0 _ _ rfl rfl)
         exact ⟨v,nm2,rfl,hp2⟩
      ·cases hk
     ·cases hk
 | true=>
  have key:∀w',Rel G.n w (Bs.of Z nm (pre.inj x).objs) st' { tmps:=a'.tmps,defers:=[] } w' nm'→LeavesIn (Fr none) 0 P fn a'.tmps (fun e w'=>∃v nm',match y with
   | .inl y=>e=.returned v∧Post w w' (Bs.of Z nm (pre.inj x).objs) nm' (post.inj y) v
   | .inr y=>e=(bif pan then .panicked [{ v,recovered:=false }] else .returned v)∧Post w w' (Bs.of Z nm (pre.inj x).objs) nm' (post2.inj y) v) [] .returning w':=by
   intro w' h'
   have hk:=hk1
   unfold finishA at hk
   rw [hlt] at hk
   simp only [ze] at hk
   obtain ⟨l,rvs,hk,q1,q2,q3⟩:=VA hT h' fn.results.toList hk
   have hrun:(results fn a'.tmps).run P w'=.ok (if h:rvs.toArray.size=1 then rvs.toArray[0] else .tuple rvs.toArray) w':=by
    unfold results
    rw [Array.mapM_eq_mapM_toList]
    simp only [Sem.run_bind,Sem.run_map]
    erw [q1]
    simp only [Result.andThen_ok,Sem.run_pure]
   have fin:(∃v nm',match y with
    | .inl y=>Ending.returned (if h:rvs.toArray.size=1 then rvs.toArray[0] else .tuple rvs.toArray)=.returned v∧Post w w' (Bs.of Z nm (pre.inj x).objs) nm' (post.inj y) v
    | .inr y=>Ending.returned (if h:rvs.toArray.size=1 then rvs.toArray[0] else .tuple rvs.toArray)=(bif pan then .panicked [{ v,recovered:=false }] else .returned v)∧Post w w' (Bs.of Z nm (pre.inj x).objs) nm' (post2.inj y) v) →
    LeavesIn (Fr none) 0 P fn a'.tmps (fun e w'=>∃v nm',match y with
    | .inl y=>e=.returned v∧Post w w' (Bs.of Z nm (pre.inj x).objs) nm' (post.inj y) v
    | .inr y=>e=(bif pan then .panicked [{ v,recovered:=false }] else .returned v)∧Post w w' (Bs.of Z nm (pre.inj x).objs) nm' (post2.inj y) v) [] .returning w':=fun hq=>⟨_,hrun,hq⟩
   split at hk
   ·rename_i y' u σ hbi
    cases hko:Uz (look st'.objs) σ with
    | false=>rw [hko] at hk;cases hk
    | true=>
      rw [hko] at hk
      simp only [ze,z6] at hk
      subst hk
      obtain ⟨nm2,hp2⟩:=mpost h' hbi hko q2 q3
      exact fin ⟨_,nm2,rfl,hp2⟩
   ·cases pan with
    | true=>cases hk
    | false=>
      simp only [zf] at hk
      split at hk
      ·rename_i y' u σ hbi
       cases hko:Uz (look st'.objs) σ with
       | false=>rw [hko] at hk;cases hk
       | true=>
         rw [hko] at hk
         simp only [ze,z6] at hk
         subst hk
         obtain ⟨nm2,hp2⟩:=mpost h' hbi hko q2 q3
         exact fin ⟨_,nm2,rfl,hp2⟩
      ·cases hk
  have hl:=h1'.leaves (P:=P) (fn:=fn) rfl (u:=.returning) (by simp) fun w2 h2=>key w2 h2
  match e,hlt with
  | 0,_=>exact hl
  | 1,_=>exact hl
  | n+2,h=>rw [Nat.blt_eq] at h;omega
end
end Go.Ql
end

section
namespace Go.Ql
abbrev Ret:=fun (e:Ex) (s:St)=>some (e,s)
theorem SA.inj_proj:∀(s:SA) {a:At} {x:densU s.tys},s.proj a=some x→a=s.inj x:=by
 intro s a x h
 cases s<;>cases a<;>simp only [SA.proj,reduceCtorEq] at h
 ·split at h
  ·rename_i h1;subst h1;cases h;rfl
  ·cases h
 ·rfl
 ·rename_i i o j p
  cases hb:Nat.beq i j&&Nat.beq o p with
  | true=>
    simp only [z7] at hb
    rw [beqN.1 hb.1,beqN.1 hb.2]
  | false=>rw [hb] at h;cases h
 ·rename_i i o j p
  cases hb:Nat.beq i j&&Nat.beq o p with
  | true=>
    simp only [z7] at hb
    rw [beqN.1 hb.1,beqN.1 hb.2]
  | false=>rw [hb] at h;cases h
 ·rename_i i o j p lo m
  cases hb:Nat.beq i j&&Nat.beq o p with
  | true=>
    rw [hb] at h
    simp only [z7] at hb
    rw [beqN.1 hb.1,beqN.1 hb.2]
    cases h
    rfl
  | false=>rw [hb] at h;cases h
 ·split at h
  ·rename_i h1;subst h1;cases h;rfl
  ·cases h
 ·rename_i i j
  cases hb:Nat.beq i j with
  | true=>rw [beqN.1 hb]
  | false=>rw [hb] at h;cases h
 ·rename_i i j
  cases hb:Nat.beq i j with
  | true=>rw [beqN.1 hb]
  | false=>rw [hb] at h;cases h
 ·rename_i i o j p
  cases hb:Nat.beq i j&&Nat.beq o p with
  | true=>
    simp only [z7] at hb
    rw [beqN.1 hb.1,beqN.1 hb.2]
  | false=>rw [hb] at h;cases h
 ·rename_i i o j p
  cases hb:Nat.beq i j&&Nat.beq o p with
  | true=>
    simp only [z7] at hb
    rw [beqN.1 hb.1,beqN.1 hb.2]
  | false=>rw [hb] at h;cases h
 ·rfl
theorem SL.inj_proj:∀(s:List SA) {a:List At} {x:densU (SL.tys s)},SL.proj s a=some x→a=SL.inj s x
 | [],[],x,h=>rfl
 | [],_::_,x,h=>by cases h
 | _::_,[],x,h=>by cases h
 | s::r,a::b,x,h=>by
   simp only [SL.proj] at h
   split at h
   ·rename_i y z h1 h2
    cases h
    show _=s.inj (fstU _ _ _)::SL.inj r (sndU _ _ _)
    rw [Vd,Ve,←SA.inj_proj s h1,←SL.inj_proj r h2]
   ·cases h
theorem SD.inj_proj:∀(s:SD) {a:Dv} {x:densU s.tys},s.proj a=some x→a=s.inj x
 | .one a,.one b,x,h=>congrArg Dv.one (SA.inj_proj a h)
 | .agg a,.agg b,x,h=>congrArg Dv.agg (SL.inj_proj a h)
 | .tup a,.tup b,x,h=>congrArg Dv.tup (SL.inj_proj a h)
 | .one _,.agg _,x,h=>by cases h
 | .one _,.tup _,x,h=>by cases h
 | .agg _,.one _,x,h=>by cases h
 | .agg _,.tup _,x,h=>by cases h
 | .tup _,.one _,x,h=>by cases h
 | .tup _,.agg _,x,h=>by cases h
theorem SO.inj_proj (s:SO) {a:Ob} {x:densU s.tys} (h:s.proj a=some x):a=s.inj x:=by
 cases s with
 | box cs=>
   cases a with
   | box b=>exact congrArg Ob.box (SL.inj_proj cs h)
   | arr v f e t xs=>cases h
   | clo f p q=>cases h
   | gone=>cases h
 | gone=>
   cases a with
   | gone=>rfl
   | box b=>cases h
   | arr v f e t xs=>cases h
   | clo f p q=>cases h
 | arr v f e t=>
   cases a with
   | box b=>cases h
   | gone=>cases h
   | clo f p q=>cases h
   | arr v' f' e' t' xs=>
     change (if h1:t'=t then (bif Nat.beq v v'&&(f==f')&&Nat.beq e e' then some (h1▸xs,()) else none) else none)=some x at h
     split at h
     ·rename_i h1
      subst h1
      cases hb:Nat.beq v v'&&(f==f')&&Nat.beq e e' with
      | true=>
        rw [hb] at h
        have h:=(Option.some.inj h).symm
        subst h
        simp only [z7,beq_iff_eq] at hb
        rw [beqN.1 hb.1.1,beqN.1 hb.2,hb.1.2]
      | false=>rw [hb] at h;cases h
     ·cases h
 | clo f p q=>
   cases a with
   | box b=>cases h
   | gone=>cases h
   | arr v' f' e' t' xs'=>cases h
   | clo g c d=>
     have h:(bif Nat.beq f g then (match SL.proj p c,SL.proj q d with
      | some x,some y=>some (appU (SL.tys p) (SL.tys q) x y)
      | _,_=>none) else none)=some x:=h
     cases hb:Nat.beq f g with
     | false=>rw [hb] at h;cases h
     | true=>
       rw [hb] at h
       obtain ⟨o1,h1⟩:∃o,SL.proj p c=o:=⟨_,rfl⟩
       obtain ⟨o2,h2⟩:∃o,SL.proj q d=o:=⟨_,rfl⟩
       rw [h1,h2] at h
       cases o1 with
       | none=>cases h
       | some y=>
         cases o2 with
         | none=>cases h
         | some z=>
           have h:appU (SL.tys p) (SL.tys q) y z=x:=Option.some.inj h
           subst h
           show _=Ob.clo f (SL.inj p (fstU _ _ _)) (SL.inj q (sndU _ _ _))
           rw [Vd,Ve,←SL.inj_proj p h1,←SL.inj_proj q h2,beqN.1 hb]
theorem SS.inj_proj:∀(s:List (Nat×SD)) {a:List (Nat×Dv)} {x:densU (SS.tys s)},SS.proj s a=some x→a=SS.inj s x
 | [],[],x,h=>rfl
 | [],_::_,x,h=>by cases h
 | _::_,[],x,h=>by cases h
 | (i,s)::r,(j,a)::b,x,h=>by
   simp only [SS.proj] at h
   cases hb:Nat.beq i j with
   | false=>rw [hb] at h;cases h
   | true=>
     rw [hb] at h
     simp only [ze] at h
     split at h
     ·rename_i y z h1 h2
      cases h
      show _=(i,s.inj (fstU _ _ _))::SS.inj r (sndU _ _ _)
      rw [Vd,Ve,←SD.inj_proj s h1,←SS.inj_proj r h2,beqN.1 hb]
     ·cases h
theorem SP.inj_proj:∀(s:List (Nat×SO)) {a:List (Nat×Ob)} {x:densU (SP.tys s)},SP.proj s a=some x→a=SP.inj s x
 | [],[],x,h=>rfl
 | [],_::_,x,h=>by cases h
 | _::_,[],x,h=>by cases h
 | (i,s)::r,(j,a)::b,x,h=>by
   simp only [SP.proj] at h
   cases hb:Nat.beq i j with
   | false=>rw [hb] at h;cases h
   | true=>
     rw [hb] at h
     simp only [ze] at h
     split at h
     ·rename_i y z h1 h2
      cases h
      show _=(i,s.inj (fstU _ _ _))::SP.inj r (sndU _ _ _)
      rw [Vd,Ve,←SO.inj_proj s h1,←SP.inj_proj r h2,beqN.1 hb]
     ·cases h
theorem Shape.inj_proj (s:Shape) {st:St} {x:densU s.tys} (h:s.proj st=some x):st=s.inj x:=by
 unfold Shape.proj at h
 split at h
 ·rename_i y z h1 h2
  cases h
  unfold Shape.inj
  rw [Vd,Ve,←SS.inj_proj _ h1,←SP.inj_proj _ h2]
 ·cases h
noncomputable def Ck.of {T:Type} (sh:Shape) (A:(ρ:Type)→densU sh.tys→(T→Option ρ)→Option ρ) (K:(ρ:Type)→densU sh.tys→T→(Ex→St→Option ρ)→Option ρ):Ck:=
 ⟨fun ρ st k=>match sh.proj st with
  | some x=>bnd (A T x some) fun t=>K ρ x t k
  | none=>none⟩
noncomputable def Ck.ofLoop {S T:Type} (sh:Shape) (s0:densU sh.tys→S) (A:(ρ:Type)→densU sh.tys→S→(S⊕T→Option ρ)→Option ρ) (K:(ρ:Type)→densU sh.tys→T→(Ex→St→Option ρ)→Option ρ):Ck:=
 ⟨fun ρ st k=>match sh.proj st with
  | some x=>bnd (iter (fun s=>A (S⊕T) x s some) (s0 x)) fun t=>K ρ x t k
  | none=>none⟩
noncomputable def Ck.or (sh:Shape) (a b:Ck):Ck:=⟨fun ρ st k=>match sh.proj st with
 | some _=>a.run ρ st k
 | none=>b.run ρ st k⟩
theorem sums_of [GInv] {T:Type} {raw:(ρ:Type)→St→(Ex→St→Option ρ)→Option ρ} {sh:Shape} {A:(ρ:Type)→densU sh.tys→(T→Option ρ)→Option ρ} {K:(ρ:Type)→densU sh.tys→T→(Ex→St→Option ρ)→Option ρ}
 (hA:∀ρ x k,A ρ x k=bnd (A T x some) k) (hK:∀ρ x t k,K ρ x t k=bnd (K (Ex×St) x t Ret) fun p=>k p.1 p.2)
 (hraw:∀x,raw (Ex×St) (sh.inj x) Ret=A (Ex×St) x fun t=>K (Ex×St) x t Ret):Sums raw (Ck.of sh A K):=by
 intro ρ st k r h
 simp only [Ck.of] at h
 split at h
 ·rename_i x hx
  obtain ⟨t,h1,h2⟩:=jQ h
  rw [hK] at h2
  obtain ⟨p,h3,h4⟩:=jQ h2
  refine ⟨p,?_,h4⟩
  rw [Shape.inj_proj sh hx]
  refine (hraw x).trans ?_
  rw [hA,h1]
  exact h3
 ·cases h
theorem loops_of [GInv] {S T:Type} {Fs:St→Option (St⊕(Ex×St))} {sh:Shape} {s0:densU sh.tys→S} {I:densU sh.tys→S→densU sh.tys} {A:(ρ:Type)→densU sh.tys→S→(S⊕T→Option ρ)→Option ρ} {K:(ρ:Type)→densU sh.tys→T→(Ex→St→Option ρ)→Option ρ}
 (hI:∀x,I x (s0 x)=x) (hA:∀ρ x s k,A ρ x s k=bnd (A (S⊕T) x s some) k) (hK:∀ρ x t k,K ρ x t k=bnd (K (Ex×St) x t Ret) fun p=>k p.1 p.2)
 (hraw:∀x s,Fs (sh.inj (I x s))=A (St⊕(Ex×St)) x s fun r=>sel r (fun s'=>some (.inl (sh.inj (I x s')))) fun t=>K (St⊕(Ex×St)) x t fun e s=>some (.inr (e,s))) :
 ∀(ρ:Type) st k r,(Ck.ofLoop sh s0 A K).run ρ st k=some r → ∃p:Ex×St,iter (Fs) st=some p∧k p.1 p.2=some r:=by
 intro ρ st k r h
 simp only [Ck.ofLoop] at h
 split at h
 ·rename_i x hx
  obtain ⟨t,h1,h2⟩:=jQ h
  rw [hK] at h2
  obtain ⟨p,h3,h4⟩:=jQ h2
  refine ⟨p,?_,h4⟩
  rw [Shape.inj_proj sh hx]
  obtain ⟨n,hn⟩:=Uj h1
  have key:∀n s,iterN (fun s=>A (S⊕T) x s some) n s=some t→iterN (Fs) n (sh.inj (I x s))=some p:=by
   intro n
   induction n with
   | zero=>intro s h;simp [iterN] at h
   | succ n ih=>
     intro s h
     simp only [iterN] at h ⊢
     rw [hraw,hA]
     split at h
     ·rename_i s' hs
      rw [hs]
      exact ih s' h
     ·rename_i t' hs
      cases h
      rw [hs]
      simp only [bnd,sel]
      rw [hK,h3]
      rfl
     ·cases h
  have:=key n _ hn
  rw [hI] at this
  exact iter_of this
 ·cases h
def PK.code:PK→Code
 | .join a=>a
 | .loop a=>a
 | .region ..=>.skip
 | .range _ a=>a
def PK.asg:PK→Code
 | .range a _=>a
 | _=>.skip
def PK.id:PK→Nat
 | .region i _ _=>i
 | _=>0
def PK.ops:PK→Array Oper
 | .region _ o _=>o
 | _=>#[]
def PK.draws:PK→Bool
 | .region _ _ d=>d
 | _=>false
def PK.kind:PK→Nat
 | .region ..=>0 | .join _=>1 | .loop _=>2 | .range ..=>3
def Vr (l:List (Nat×PK)) (i:Nat):Nat×PK:=l.getD i (0,.join .skip)
theorem region_ok {G:Env} {p:Nat×PK} {s:Ck} (h0:Nat.beq p.2.kind 0=true) (h1:look G.cks p.1=some s) (h:Sums (VK G p.2.id p.2.ops p.2.draws) s):Yg G p.1 p.2:=by
 obtain ⟨i,p⟩:=p
 cases p with
 | region i o d=>intro s' h';rw [h1] at h';cases h';exact h
 | join a=>cases h0
 | loop a=>cases h0
 | range a b=>cases h0
theorem join_ok {G:Env} {p:Nat×PK} {s:Ck} (h0:Nat.beq p.2.kind 1=true) (h1:look G.cks p.1=some s) (h:Sums (fun ρ st k=>execK G p.2.code ρ st fun e s=>k e (restrict (domJ G p.1 st) s)) s):Yg G p.1 p.2:=by
 obtain ⟨i,p⟩:=p
 cases p with
 | join o=>intro s' h';rw [h1] at h';cases h';exact h
 | region i a d=>cases h0
 | loop a=>cases h0
 | range a b=>cases h0
theorem loop_ok {G:Env} {p:Nat×PK} {s:Ck} (h0:Nat.beq p.2.kind 2=true) (h1:look G.cks p.1=some s) (h:∀(ρ:Type) st k r,s.run ρ st k=some r → ∃q:Ex×St,iter (loopF G p.2.code) st=some q∧k q.1 q.2=some r):Yg G p.1 p.2:=by
 obtain ⟨i,p⟩:=p
 cases p with
 | loop o=>intro s' h';rw [h1] at h';cases h';exact h
 | region i a d=>cases h0
 | join a=>cases h0
 | range a b=>cases h0
def Upto (G:Env) (l:List (Nat×PK)):Nat→Prop
 | 0=>True
 | n+1=>Upto G l n∧Yg G (Vr l n).1 (Vr l n).2
theorem upto_all {G:Env} {l:List (Nat×PK)} {n:Nat} (hn:Nat.beq l.length n=true) (h:Upto G l n):∀p∈l,Yg G p.1 p.2:=by
 have key:∀n,Upto G l n → ∀i,i<n→Yg G (Vr l i).1 (Vr l i).2:=by
  intro n
  induction n with
  | zero=>intro _ i hi;omega
  | succ n ih=>
    intro h i hi
    by_cases he:i=n
    ·subst he;exact h.2
    ·exact ih h.1 i (by omega)
 intro p hp
 obtain ⟨i,hi,he⟩:=List.mem_iff_getElem.1 hp
 have:=key n h i (by rw [←beqN.1 hn];exact hi)
 unfold Vr at this
 rw [List.getD_eq_getElem?_getD,Z3 hi,he] at this
 exact this
noncomputable section
def zeroV:Ty→Value→Bool
 | .bool,.bool b=>!b
 | .int k,.int k' n=>decide (k=k')&&decide (n=0)
 | .str,.string s=>decide (s.data=#[])
 | .sl t,.slice none n m=>Nat.beq n 0&&Nat.beq m 0 && !t.isPair
 | .nilv k,.pointer none=>Nat.beq k 0
 | .nilv k,.nilIface=>Nat.beq k 1
 | .nilv k,.map none=>Nat.beq k 2
 | .nilv k,.nilFunc=>Nat.beq k 3
 | _,_=>false
theorem zeroV_ok {t:Ty} {v:Value} (h:zeroV t v=true):kl t [v]:=by
 cases t<;>cases v
 case bool.bool b=>cases b<;>simp_all [zeroV,kl]
 case int.int k k' n=>simp_all [zeroV,kl]
 case str.string s=>obtain ⟨d⟩:=s;simp_all [zeroV,kl]
 case sl.slice t a n m=>
  cases a with
  | none=>
    simp only [zeroV,z7,zx] at h
    rw [beqN.1 h.1.1,beqN.1 h.1.2];exact ⟨rfl,h.2⟩
  | some a=>cases h
 case nilv.map k a=>
  cases a with
  | none=>simp only [zeroV] at h;rw [beqN.1 h];rfl
  | some a=>cases h
 case nilv.nilFunc k=>simp only [zeroV] at h;rw [beqN.1 h];rfl
 case nilv.pointer k a=>
  cases a with
  | none=>rw [beqN.1 (show Nat.beq k 0=true from h)];rfl
  | some a=>cases h
 case nilv.nilIface k=>rw [beqN.1 (show Nat.beq k 1=true from h)];rfl
 all_goals cases h
def zeroN (f:List Value→Option (List Value)):Nat→List Value→Option (List Value)
 | 0,l=>some l
 | n+1,l=>match f l with
   | some l'=>zeroN f n l'
   | none=>none
theorem zeroN_ok {f:List Value→Option (List Value)} {p:List Value→Prop} (h:∀l r,f l=some r → ∃c,l=c++r∧p c):∀(n:Nat) {l r:List Value},zeroN f n l=some r → ∃c,l=c++r∧UE p n c
 | 0,l,r,he=>by cases he;exact ⟨[],rfl,rfl⟩
 | n+1,l,r,he=>by
   simp only [zeroN] at he
   split at he
   ·rename_i l' h1
    obtain ⟨c1,h2,h3⟩:=h _ _ h1
    obtain ⟨c2,h4,h5⟩:=zeroN_ok h n he
    exact ⟨c1++c2,by rw [h2,h4,zl],c1,c2,rfl,h3,h5⟩
   ·cases he
def zeroB:Ty→List Value→Option (List Value)
 | .unit,l=>some l
 | .st t,l=>zeroB t l
 | .pair a b,l=>match zeroB a l with
   | some l'=>zeroB b l'
   | none=>none
 | .ar n t,l=>zeroN (zeroB t) n l
 | .node t,l=>match zeroB t l with
   | some (.slice none 0 0::l')=>some l'
   | _=>none
 | t,l=>match l with
   | v::l'=>bif zeroV t v then some l' else none
   | []=>none
theorem zeroB_ok:∀(t:Ty) {l r:List Value},zeroB t l=some r → ∃c,l=c++r∧kl t c:=by
 intro t
 have base:∀(t:Ty),(∀l r,zeroB t l=some r → ∃v l',l=v::l'∧(bif zeroV t v then some l' else none)=some r) → ∀{l r:List Value},zeroB t l=some r → ∃c,l=c++r∧kl t c:=by
  intro t hb l r h
  obtain ⟨v,l',rfl,h2⟩:=hb l r h
  cases hz:zeroV t v with
  | true=>rw [hz] at h2;cases h2;exact ⟨[v],rfl,zeroV_ok hz⟩
  | false=>rw [hz] at h2;cases h2
 have step:∀(t:Ty) (l r:List Value),(match l with
  | v::l'=>bif zeroV t v then some l' else none
  | []=>none)=some r → ∃v l',l=v::l'∧(bif zeroV t v then some l' else none)=some r:=by
  intro t l r h
  cases l with
  | nil=>cases h
  | cons v l'=>exact ⟨v,l',rfl,h⟩
 induction t with
 | bool=>intro l r h;exact base .bool (fun l r h=>step .bool l r (by cases l<;>exact h)) h
 | int k=>intro l r h;exact base (.int k) (fun l r h=>step (.int k) l r (by cases l<;>exact h)) h
 | str=>intro l r h;exact base .str (fun l r h=>step .str l r (by cases l<;>exact h)) h
 | nilv k=>intro l r h;exact base (.nilv k) (fun l r h=>step (.nilv k) l r (by cases l<;>exact h)) h
 | nn=>intro l r h;exact base .nn (fun l r h=>step .nn l r (by cases l<;>exact h)) h
 | len=>intro l r h;exact base .len (fun l r h=>step .len l r (by cases l<;>exact h)) h
 | fl t _=>intro l r h;exact base (.fl t) (fun l r h=>step (.fl t) l r (by cases l<;>exact h)) h
 | ifc T t _=>intro l r h;exact base (.ifc T t) (fun l r h=>step (.ifc T t) l r (by cases l<;>exact h)) h
 | sl t _=>intro l r h;exact base (.sl t) (fun l r h=>step (.sl t) l r (by cases l<;>exact h)) h
 | st t ih=>intro l r h;obtain ⟨c,h1,h2⟩:=ih h;exact ⟨c,h1,h2⟩
 | unit=>intro l r h;cases h;exact ⟨[],rfl,rfl⟩
 | pair a b iha ihb=>
   intro l r h
   simp only [zeroB] at h
   split at h
   ·rename_i l' h1
    obtain ⟨c1,h2,h3⟩:=iha h1
    obtain ⟨c2,h4,h5⟩:=ihb h
    exact ⟨c1++c2,by rw [h2,h4,zl],c1,c2,rfl,h3,h5⟩
   ·cases h
 | ar n t ih=>intro l r h;exact zeroN_ok (fun l r h=>ih h) n h
 | node t ih=>
   intro l r h
   simp only [zeroB] at h
   split at h
   ·rename_i l' h1
    cases h
    obtain ⟨c1,h2,h3⟩:=ih h1
    exact ⟨c1++[.slice none 0 0],by rw [h2];simp,c1,rfl,h3⟩
   ·cases h
def zeroC (t:Ty) (v:Value):Bool:=match zeroB t v.cells.toList with
 | some []=>true
 | _=>false
theorem zeroC_ok {t:Ty} {v:Value} (h:zeroC t v=true):kl t v.cells.toList:=by
 unfold zeroC at h
 split at h
 ·rename_i h1
  obtain ⟨c,h2,h3⟩:=zeroB_ok t h1
  rw [List.append_nil] at h2
  rw [h2];exact h3
 ·cases h
def isAggV:Value→Bool
 | .agg _=>true
 | _=>false
def infoB (P:Program) (t:TypeId) (ty:Ty):Bool:=match P.info? t with
 | some i=>Nat.beq i.size ty.cells&&(match i.zero with
   | some z=>zeroC ty z&&(!ty.isSt||isAggV z)
   | none=>false)
 | none=>false
def kindB (P:Program) (t:TypeId) (ti:TI):Bool:=match ti.kind,P.underlying t with
 | .scalar,some .bool=>(match ti.ty with | .bool=>true | _=>false)
 | .scalar,some (.int k)=>(match ti.ty with | .int k'=>decide (k=k') | _=>false)
 | .scalar,some .string=>(match ti.ty with | .str=>true | _=>false)
 | .nul,some (.pointer _)=>(match ti.ty with | .nilv k=>!Nat.beq k 1 | _=>false)
 | .nul,some (.interface _)=>(match ti.ty with | .nilv _=>true | _=>false)
 | .nul,some (.func _ _ _)=>(match ti.ty with | .nilv k=>!Nat.beq k 1 | _=>false)
 | .map k e j u,some (.map k' e')=>Nat.beq k k'&&Nat.beq e e'&&(match ti.ty with
   | .nilv 2=>(match P.underlying k,P.info? e with
     | some (.int j'),some i=>decide (j'=j)&&(match i.zero with
       | some (.int u' 0)=>decide (u'=u)
       | _=>false)
     | _,_=>false)
   | _=>false)
 | .struct fs,some (.struct fields)=>(match ti.ty with | .st _=>true | _=>false)&&decide (fields.toList.map (fun f=>(f.offset,f.type))=fs)&&fields.toList.all fun f=>(P.info? f.type).isSome
 | .slice e b,some (.slice e')=>Nat.beq e e'&&(match ti.ty with
   | .sl s=>(match P.info? e with
     | some i=>Nat.beq i.size s.cells&&Nat.beq i.bytes b&&Nat.blt 0 s.cells&&(match i.zero with
       | some z=>zeroC s z
       | none=>false)
     | none=>false)
   | _=>false)
 | .arr n e,some (.array n' e')=>Nat.beq e e'&&Nat.beq n n'&&(match ti.ty with
   | .ar m s=>Nat.beq m n&&(match P.info? e with
     | some i=>Nat.beq i.size s.cells&&(match i.zero with
       | some z=>zeroC s z
       | none=>false)
     | none=>false)
   | _=>false)
 | _,_=>false
def tabB (P:Program):List (Nat×TI)→Bool
 | []=>true
 | (t,ti)::r=>infoB P t ti.ty&&kindB P t ti&&tabB P r
theorem infoB_ok {P:Program} {t:TypeId} {ty:Ty} (h:infoB P t ty=true):∃i z,P.info? t=some i∧i.size=ty.cells∧i.zero=some z∧kl ty z.cells.toList∧(ty.isSt=true → ∃cs,z=.agg cs):=by
 unfold infoB at h
 split at h
 ·rename_i i hi
  simp only [z7] at h
  obtain ⟨h1,h2⟩:=h
  split at h2
  ·rename_i z hz
   simp only [z7,Bool.or_eq_true,zx] at h2
   refine ⟨i,z,hi,beqN.1 h1,hz,zeroC_ok h2.1,fun hs=>?_⟩
   rcases h2.2 with h3 | h3
   ·rw [hs] at h3;cases h3
   ·cases z with
    | agg cs=>exact ⟨cs,rfl⟩
    | _=>cases h3
  ·cases h2
 ·cases h
theorem kindB_ok {P:Program} {t:TypeId} {ti:TI} (hi:infoB P t ti.ty=true) (h:kindB P t ti=true):TiOk P t ti:=by
 refine ⟨infoB_ok hi,?_⟩
 unfold kindB at h
 split at h
 ·rename_i h1 h2
  rw [h1]
  split at h
  ·rename_i h3;exact .inl ⟨h3,h2⟩
  ·cases h
 ·rename_i k h1 h2
  rw [h1]
  split at h
  ·rename_i k' h3
   have:=zr h
   subst this
   exact .inr (.inl ⟨_,h3,h2⟩)
  ·cases h
 ·rename_i h1 h2
  rw [h1]
  split at h
  ·rename_i h3;exact .inr (.inr ⟨h3,h2⟩)
  ·cases h
 ·rename_i e h1 h2
  rw [h1]
  split at h
  ·rename_i k h3
   simp only [zx] at h
   exact ⟨k,h3,.inl ⟨e,h2⟩,fun hk=>absurd hk (JJ.1 h)⟩
  ·cases h
 ·rename_i ms h1 h2
  rw [h1]
  split at h
  ·rename_i k h3;exact ⟨k,h3,.inr (.inl ⟨ms,h2⟩),fun _=>⟨ms,h2⟩⟩
  ·cases h
 ·rename_i h1 h2
  rw [h1]
  split at h
  ·rename_i k h3
   simp only [zx] at h
   exact ⟨k,h3,.inr (.inr ⟨_,_,_,h2⟩),fun hk=>absurd hk (JJ.1 h)⟩
  ·cases h
 ·rename_i k e j u k' e' h1 h2
  rw [h1]
  simp only [z7] at h
  obtain ⟨⟨h3,h4⟩,h5⟩:=h
  have:=beqN.1 h3
  subst this
  have:=beqN.1 h4
  subst this
  split at h5
  ·rename_i hty
   split at h5
   ·rename_i j' i hk hi
    rw [z7] at h5
    obtain ⟨h6,h7⟩:=h5
    have:=zr h6
    subst this
    split at h7
    ·rename_i u' hz
     have:=zr h7
     subst this
     exact ⟨hty,h2,hk,i,hi,hz⟩
    ·cases h7
   ·cases h5
  ·cases h5
 ·rename_i fs fields h1 h2
  rw [h1]
  simp only [z7] at h
  obtain ⟨⟨h3,h4⟩,h5⟩:=h
  split at h3
  ·rename_i s hs
   refine ⟨s,fields,hs,h2,zr h4,fun f hf=>?_⟩
   have:=zu.1 h5 f hf
   exact Option.isSome_iff_exists.1 this
  ·cases h3
 ·rename_i e b e' h1 h2
  rw [h1]
  simp only [z7] at h
  obtain ⟨h3,h4⟩:=h
  have:=beqN.1 h3
  subst this
  split at h4
  ·rename_i s hs
   split at h4
   ·rename_i i hi
    simp only [z7] at h4
    obtain ⟨⟨⟨h5,h6⟩,h7⟩,h8⟩:=h4
    split at h8
    ·rename_i z hz
     rw [Nat.blt_eq] at h7
     exact ⟨s,i,z,hs,h2,hi,beqN.1 h5,beqN.1 h6,hz,zeroC_ok h8,h7⟩
    ·cases h8
   ·cases h4
  ·cases h4
 ·rename_i n e n' e' h1 h2
  rw [h1]
  simp only [z7] at h
  obtain ⟨⟨h3,h0⟩,h4⟩:=h
  have:=beqN.1 h3
  subst this
  have:=beqN.1 h0
  subst this
  split at h4
  ·rename_i m s hs
   simp only [z7] at h4
   obtain ⟨h5,h4⟩:=h4
   have:=beqN.1 h5
   subst this
   split at h4
   ·rename_i i hi
    simp only [z7] at h4
    obtain ⟨h5,h8⟩:=h4
    split at h8
    ·rename_i z hz
     exact ⟨s,i,z,hs,h2,hi,beqN.1 h5,hz,zeroC_ok h8⟩
    ·cases h8
   ·cases h4
  ·cases h4
 ·cases h
theorem tabB_ok {P:Program}:∀{l:List (Nat×TI)},tabB P l=true→TabOk P l
 | [],_=>fun t ti h=>by cases h
 | (t,ti)::r,h=>by
   simp only [tabB,z7] at h
   intro t' ti' hl
   simp only [look] at hl
   cases hb:Nat.beq t t' with
   | true=>
     rw [hb] at hl
     cases hl
     rw [←beqN.1 hb]
     exact kindB_ok h.1.1 h.1.2
   | false=>
     rw [hb] at hl
     exact tabB_ok h.2 t' ti' hl
theorem HD [GInv] {P:Program}:FnsOk P []:=fun f ce h=>by cases h
theorem fns_cons [GInv] {P:Program} {f:Nat} {ce:Callee} {l:List (Nat×Callee)} (h:CalleeOk P f ce) (hl:FnsOk P l):FnsOk P ((f,ce)::l):=by
 intro f' ce' h'
 simp only [look] at h'
 cases hb:Nat.beq f f' with
 | true=>
   rw [hb] at h'
   cases h'
   rw [←beqN.1 hb];exact h
 | false=>rw [hb] at h';exact hl f' ce' h'
def JY (fn:Func):Code:=fn.body.getD .skip
theorem fn_ok [GInv] {P:Program} {G:Env} {f:Nat} {fn:Func} {ce:Callee} (hT:TabOk P G.tab) (hm:P.follows .mixedOrders=true) (hf:P.funcs[f]?=some fn) (hF:AllOk P G) {m:Nat}
 (hn:Nat.beq (JP G.cks (JY fn)).length m=true) (hp:Upto G (JP G.cks (JY fn)) m)
 (hb : (fn.body.isSome && kG G (JY fn) && Nat.beq fn.ntmps G.n && Nat.ble ce.params.length G.n && Nat.beq fn.results.toList.length ce.res.length && !(fn.name == "runtime.NumGoroutine")) = true)
 (he:∀x,den G fn ce.params ce.res x=ce.F x):CalleeOk P f ce:=by
 simp only [z7,zx] at hb
 obtain ⟨⟨⟨⟨⟨h1,h2⟩,h3⟩,h4⟩,h5⟩,h6⟩:=hb
 obtain ⟨c,hc⟩:=Option.isSome_iff_exists.1 h1
 have hbo:JY fn=c:=by unfold JY;rw [hc];rfl
 rw [hbo] at h2 hn hp
 refine ⟨⟨fn,hf,h6,by rw [hc];rfl⟩,fun w Z vs x r hg hZ ha hr=>?_⟩
 rw [←he] at hr
 exact den_calls hT hF hm hf hc (beqN.1 h3) (by rw [Nat.ble_eq] at h4;exact h4) (beqN.1 h5) h2 (upto_all hn hp) w Z vs x r hg hZ ha hr
theorem Hq [GInv] {P:Program}:HL P []:=fun i mc h=>by cases h
theorem mfns_cons [GInv] {P:Program} {i:Nat} {mc:MCallee} {l:List (Nat×MCallee)} (h:MOk P mc.fn mc) (hl:HL P l):HL P ((i,mc)::l):=by
 intro i' mc' h'
 simp only [look] at h'
 cases hb:Nat.beq i i' with
 | true=>
   rw [hb] at h'
   cases h'
   exact h
 | false=>rw [hb] at h';exact hl i' mc' h'
theorem fnm_ok [GInv] {P:Program} {G:Env} {f:Nat} {fn:Func} {mc:MCallee} (hT:TabOk P G.tab) (hm:P.follows .mixedOrders=true) (hf:P.funcs[f]?=some fn) (hF:AllOk P G) {m:Nat}
 (hn:Nat.beq (JP G.cks (JY fn)).length m=true) (hp:Upto G (JP G.cks (JY fn)) m)
 (hb : (fn.body.isSome && kG G (JY fn) && Nat.beq fn.ntmps G.n && Nat.ble mc.pre.slots.length G.n && Vl 0 mc.pre.slots && !(fn.name == "runtime.NumGoroutine") && Nat.beq mc.fn f) = true)
 (he:∀x,denM G fn mc.pre mc.post x=mc.F x):MOk P mc.fn mc:=by
 simp only [z7,zx] at hb
 obtain ⟨⟨⟨⟨⟨⟨h1,h2⟩,h3⟩,h4⟩,h5⟩,h6⟩,h7⟩:=hb
 obtain ⟨c,hc⟩:=Option.isSome_iff_exists.1 h1
 have hbo:JY fn=c:=by unfold JY;rw [hc];rfl
 rw [hbo] at h2 hn hp
 rw [beqN.1 h7]
 refine ⟨⟨fn,hf,h6,by rw [hc];rfl⟩,fun w Z nm vs x y hpre hr=>?_⟩
 rw [←he] at hr
 exact den_mcalls hT hF hm hf hc (beqN.1 h3) (by rw [Nat.ble_eq] at h4;exact h4) h5 h2 (upto_all hn hp) w Z nm vs x y hpre hr
theorem fna_ok [GInv] {P:Program} {G:Env} {f:Nat} {fn:Func} {ma:MAlt} (hT:TabOk P G.tab) (hm:P.follows .mixedOrders=true) (hf:P.funcs[f]?=some fn) (hF:AllOk P G) {m:Nat}
 (hn:Nat.beq (JP G.cks (JY fn)).length m=true) (hp:Upto G (JP G.cks (JY fn)) m)
 (hb : (fn.body.isSome && kG G (JY fn) && Nat.beq fn.ntmps G.n && Nat.ble ma.pre.slots.length G.n && Vl 0 ma.pre.slots && !(fn.name == "runtime.NumGoroutine") && Nat.beq ma.fn f) = true)
 (he:∀x,denA G fn ma.pre ma.post ma.pan ma.post2 x=ma.F x):AltOk P ma.fn ma:=by
 simp only [z7,zx] at hb
 obtain ⟨⟨⟨⟨⟨⟨h1,h2⟩,h3⟩,h4⟩,h5⟩,h6⟩,h7⟩:=hb
 obtain ⟨c,hc⟩:=Option.isSome_iff_exists.1 h1
 have hbo:JY fn=c:=by unfold JY;rw [hc];rfl
 rw [hbo] at h2 hn hp
 rw [beqN.1 h7]
 refine ⟨⟨fn,hf,h6,by rw [hc];rfl⟩,fun w Z nm vs x y hpre hr=>?_⟩
 rw [←he] at hr
 refine Calls.mono (den_acalls hT hF hm hf hc (beqN.1 h3) (by rw [Nat.ble_eq] at h4;exact h4) h5 h2 (upto_all hn hp) w Z nm vs x y hpre hr) ?_
 rintro e w' ⟨v,nm',q⟩
 cases y with
 | inl y=>exact ⟨v,nm',q⟩
 | inr y=>exact ⟨v,nm',q⟩
theorem Hk [GInv] {P:Program}:HK P []:=fun i mc h=>by cases h
theorem alts_cons [GInv] {P:Program} {i:Nat} {ma:MAlt} {l:List (Nat×MAlt)} (h:AltOk P ma.fn ma) (hl:HK P l):HK P ((i,ma)::l):=by
 intro i' ma' h'
 simp only [look] at h'
 cases hb:Nat.beq i i' with
 | true=>
   rw [hb] at h'
   cases h'
   exact h
 | false=>rw [hb] at h';exact hl i' ma' h'
end
end Go.Ql
end

section
namespace Go.Ql
noncomputable section
def Shape.s (x:Shape) (t:Nat) (d:SD):Shape:=⟨ins t d x.slots,x.objs⟩
def Shape.o (x:Shape) (t:Nat) (d:SO):Shape:=⟨x.slots,ins t d x.objs⟩
def Shape.d (x:Shape) (t:Nat):Shape:=⟨del t x.slots,x.objs⟩
def Shape.g (x:Shape) (t:Nat):Shape:=⟨x.slots,del t x.objs⟩
def atU:List Ty→Nat→Ty
 | [],_=>.unit
 | t::_,0=>t
 | _::r,n+1=>atU r n
def nthU:(l:List Ty)→densU l→(i:Nat)→(atU l i).den
 | [],_,_=>()
 | _::_,x,0=>x.1
 | _::r,x,n+1=>nthU r x.2 n
@[reducible] def curT (l:List Ty) (R:Type):List Nat→Type
 | []=>R
 | i::r=>(atU l i).den→curT l R r
def appS (l:List Ty) {R:Type} (x:densU l):(s:List Nat)→curT l R s→R
 | [],c=>c
 | i::r,c=>appS l x r (c (nthU l x i))
abbrev Sg:=(t:Ty)×t.den
def sgU:(l:List Ty)→densU l→List Sg
 | [],_=>[]
 | t::r,x=>⟨t,x.1⟩::sgU r x.2
def sgD:(l:List Ty)→dens l→List Sg
 | [],_=>[]
 | [t],x=>[⟨t,x⟩]
 | t::t'::r,x=>⟨t,x.1⟩::sgD (t'::r) x.2
def ofSg:(l:List Ty)→List Sg→Option (densU l)
 | [],[]=>some ()
 | t::r,s::q=>if h:s.1=t then (match ofSg r q with
   | some y=>some (h▸s.2,y)
   | none=>none) else none
 | _,_=>none
def mixS {α:Type} (e:List α):List Nat→List α→List α→List α
 | [],o,_=>o
 | c::r,o,q=>bif Nat.blt c 100 then o.take c++mixS e r (o.drop c) q else
  bif Nat.blt c 200 then q.take (c-100)++mixS e r o (q.drop (c-100)) else
  bif Nat.blt c 300 then q.take (c-200)++mixS e r (o.drop (c-200)) (q.drop (c-200)) else
  bif Nat.blt c 400 then mixS e r (o.drop (c-300)) q else (e.drop (c-400)).take 1++mixS e r o q
def newT:List Nat→List Ty→List Ty
 | [],_=>[]
 | c::r,p=>bif Nat.blt c 100 then newT r (p.drop c) else
  bif Nat.blt c 200 then p.take (c-100)++newT r (p.drop (c-100)) else
  bif Nat.blt c 300 then p.take (c-200)++newT r (p.drop (c-200)) else
  bif Nat.blt c 400 then newT r p else newT r (p.drop 1)
def exT:List Nat→List Ty→List Ty
 | [],_=>[]
 | c::r,p=>bif Nat.blt c 100 then exT r (p.drop c) else
  bif Nat.blt c 200 then exT r (p.drop (c-100)) else
  bif Nat.blt c 300 then exT r (p.drop (c-200)) else
  bif Nat.blt c 400 then exT r p else p.take 1++exT r (p.drop 1)
abbrev Way:=Shape×Nat×List Nat
@[reducible] def wayT (q:Way):Type:=dens (newT q.2.2 q.1.tys)
def HF {ρ:Type} (sh:Shape)(e:List Sg)(x:densU sh.tys)(q:Way)(t:wayT q)(k:Ex→St→Option ρ):Option ρ:=
 match ofSg q.1.tys (mixS e q.2.2 (sgU sh.tys x) (sgD (newT q.2.2 q.1.tys) t)) with
 | some y=>k q.2.1 (q.1.inj y)
 | none=>none
@[reducible] def waysT:List Way→Type
 | []=>Unit
 | [q]=>wayT q
 | q::q'::r=>wayT q⊕waysT (q'::r)
def leave {ρ:Type} (sh:Shape) (e:List Sg) (x:densU sh.tys) (k:Ex→St→Option ρ):(l:List Way)→waysT l→Option ρ
 | [],_=>none
 | [q],t=>HF sh e x q t k
 | q::q'::r,t=>sel t (fun t=>HF sh e x q t k) (fun t=>leave sh e x k (q'::r) t)
theorem leave_lin {ρ:Type} (sh:Shape) (e:List Sg) (x:densU sh.tys) (k:Ex→St→Option ρ):∀(l:List Way) (t:waysT l),
 leave sh e x k l t=bnd (leave sh e x Ret l t) fun p=>k p.1 p.2
 | [],_=>rfl
 | [q],t=>by
   unfold leave HF
   split<;>rfl
 | q::q'::r,.inl t=>by
   show HF sh e x q t k=bnd (HF sh e x q t Ret) _
   unfold HF
   split<;>rfl
 | q::q'::r,.inr t=>leave_lin sh e x k (q'::r) t
def exTs:List Way→List Ty
 | []=>[]
 | q::r=>exT q.2.2 q.1.tys++exTs r
def no {α:Type}:α→Unit:=fun _=>()
def LinS (l:List Ty) {T ρ:Type}:(s:List Nat)→curT l ((T→Option ρ)→Option ρ) s→curT l ((T→Option T)→Option T) s→Prop
 | [],c,c'=>∀k,c k=bnd (c' some) k
 | _::r,c,c'=>∀a,LinS l r (c a) (c' a)
theorem appS_lin {l:List Ty} {T ρ:Type}:∀(s:List Nat) {c:curT l ((T→Option ρ)→Option ρ) s} {c':curT l ((T→Option T)→Option T) s},LinS l s c c' → ∀x k,appS l x s c k=bnd (appS l x s c' some) k
 | [],_,_,h,_,k=>h k
 | i::r,_,_,h,x,k=>appS_lin r (h (nthU l x i)) x k
structure RC where
 sh:Shape
 xs:List Way
 ex:densU sh.tys→densU (exTs xs)
 sel:List Nat
 c:(ρ:Type)→curT sh.tys ((waysT xs→Option ρ)→Option ρ) sel
 lin:∀ρ,LinS sh.tys sel (c ρ) (c _)
abbrev RC.K {ρ:Type} (r:RC) (x:densU r.sh.tys) (k:Ex→St→Option ρ) (t:waysT r.xs):Option ρ:=leave r.sh (sgU _ (r.ex x)) x k r.xs t
def RC.ck (r:RC):Ck:=
 Ck.of (T:=waysT r.xs) r.sh (fun ρ x k=>appS r.sh.tys x r.sel (r.c ρ) k) (fun _ x t k=>r.K x k t)
def tupS (l:List Ty) (x:densU l):(s:List Nat)→dens (s.map (atU l))
 | []=>()
 | [i]=>nthU l x i
 | i::j::r=>(nthU l x i,tupS l x (j::r))
def putG (s:List Sg) (i:Nat) (vs:List Nat) (t:Ty) (d:t.den):t.den:=match vs,s with
 | v::vr,⟨t',d'⟩::sr=>bif Nat.beq v i then (if h:t'=t then h▸d' else d) else putG sr i vr t d
 | _,_=>d
def putS (vs:List Nat) (s:List Sg):(l:List Ty)→Nat→densU l→densU l
 | [],_,_=>()
 | t::r,i,x=>(putG s i vs t x.1,putS vs s r (i+1) x.2)
structure LC where
 sh:Shape
 xs:List Way
 ex:densU sh.tys→densU (exTs xs)
 v:List Nat
 sel:List Nat
 c:(ρ:Type)→curT sh.tys ((dens (v.map (atU sh.tys))⊕waysT xs→Option ρ)→Option ρ) sel
 lin:∀ρ,LinS sh.tys sel (c ρ) (c _)
def LC.I (r:LC) (x:densU r.sh.tys) (s:dens (r.v.map (atU r.sh.tys))):densU r.sh.tys:=putS r.v (sgD _ s) r.sh.tys 0 x
abbrev LC.K {ρ:Type} (r:LC) (x:densU r.sh.tys) (k:Ex→St→Option ρ) (t:waysT r.xs):Option ρ:=leave r.sh (sgU _ (r.ex x)) x k r.xs t
def LC.ck (r:LC):Ck:=
 Ck.ofLoop (S:=dens (r.v.map (atU r.sh.tys))) (T:=waysT r.xs) r.sh (fun x=>tupS r.sh.tys x r.v) (fun ρ x s k=>appS r.sh.tys (r.I x s) r.sel (r.c ρ) k) (fun _ x t k=>r.K x k t)
section
variable [GInv] {G:Env} {p:Nat×PK}
abbrev RC.A (r:RC) (x:densU r.sh.tys) (ρ:Type) (k:waysT r.xs→Option ρ):Option ρ:=appS r.sh.tys x r.sel (r.c ρ) k
theorem RC.sums (r:RC) {raw:(ρ:Type)→St→(Ex→St→Option ρ)→Option ρ}
 (hraw:∀x,raw (Ex×St) (r.sh.inj x) Ret=r.A x (Ex×St) (r.K x Ret)):Sums raw r.ck:=
 sums_of (fun ρ x k=>appS_lin r.sel (r.lin ρ) x k) (fun _ x t k=>leave_lin r.sh (sgU _ (r.ex x)) x k r.xs t) hraw
theorem kR (r:RC)
 (h:((Nat.beq p.2.kind 0,look G.cks p.1),fun x=>VK G p.2.id p.2.ops p.2.draws (Ex×St) (r.sh.inj x) Ret)=((true,some r.ck),fun x=>r.A x (Ex×St) (r.K x Ret)):=by kernel_rfl):Yg G p.1 p.2:=by
 injection h with h1 h2
 injection h1 with h0 h1
 exact region_ok h0 h1 (r.sums fun x=>congrFun h2 x)
theorem kJ (r:RC)
 (h:((Nat.beq p.2.kind 1,look G.cks p.1),fun x=>execK G p.2.code (Ex×St) (r.sh.inj x) (fun e s=>Ret e (restrict (domJ G p.1 (r.sh.inj x)) s)))=((true,some r.ck),fun x=>r.A x (Ex×St) (r.K x Ret)):=by kernel_rfl):Yg G p.1 p.2:=by
 injection h with h1 h2
 injection h1 with h0 h1
 exact join_ok h0 h1 (r.sums fun x=>congrFun h2 x)
theorem kL (r:LC)
 (h:((Nat.beq p.2.kind 2,look G.cks p.1),fun x=>r.I x (tupS r.sh.tys x r.v),fun x s=>loopF G p.2.code (r.sh.inj (r.I x s))) =
  ((true,some r.ck),fun x=>x,fun x s=>appS r.sh.tys (r.I x s) r.sel (r.c _) fun q=>sel q (fun s'=>some (.inl (r.sh.inj (r.I x s')))) (r.K x fun e s=>some (.inr (e,s)))):=by kernel_rfl):Yg G p.1 p.2:=by
 injection h with h1 h2
 injection h1 with h0 h1
 injection h2 with h2 h3
 exact loop_ok h0 h1 (loops_of (fun x=>congrFun h2 x) (fun ρ x s k=>appS_lin r.sel (r.lin ρ) (r.I x s) k) (fun _ x t k=>leave_lin r.sh (sgU _ (r.ex x)) x k r.xs t) (fun x s=>congrFun (congrFun h3 x) s))
end
def nubA (a:List Nat):List Nat→List Nat
 | []=>a
 | x::r=>nubA (bif memN x a then a else a++[x]) r
def onOf (o:Oper):List Nat:=(o.after.toList.filter fun e=>Region.binds .any e).map (·.on)
def presOf:List Oper→List (List Nat)→List (List Nat)
 | [],acc=>acc
 | o::r,acc=>presOf r (acc++[(onOf o).foldl (fun p e=>nubA (nubA p [e]) (acc.getD e [])) []])
def wrOf (wr:List (Nat×List Nat)) (i:Nat):List Nat:=match look wr i with
 | some l=>l
 | none=>[]
def hintAt (ops:List Oper) (pres:List (List Nat)) (wr:List (Nat×List Nat)) (i:Nat):Hint:=
 let p:=pres.getD i []
 let oth:=(List.range ops.length).filter fun j=>!Nat.beq j i && !memN j p && !memN i (pres.getD j [])
 ⟨p,wrOf wr i,oth.foldl (fun a j=>match ops[j]? with | some o=>(match o.dst with | some t=>nubA a [t] | none=>a) | none=>a) [],oth.foldl (fun a j=>nubA a (wrOf wr j)) []⟩
def hintsFor (ops:List Oper) (wr:List (Nat×List Nat)):List Hint:=let pres:=presOf ops [];(List.range ops.length).map (hintAt ops pres wr)
def opsOf (i:Nat):Code→Option (List Oper)
 | .region id ops _=>bif Nat.beq id i then some ops.toList else none
 | .seq a b=>match opsOf i a with
   | some l=>some l
   | none=>opsOf i b
 | .cond _ a b=>match opsOf i a with
   | some l=>some l
   | none=>opsOf i b
 | .block _ c=>opsOf i c
 | .loop c=>opsOf i c
 | _=>none
def hintsIn (c:Code):List (Nat×List (Nat×List Nat))→List (Nat×List Hint)
 | []=>[]
 | (i,wr)::r=>(match opsOf i c with
   | some l=>[(i,hintsFor l wr)]
   | none=>[])++hintsIn c r
def tysOf (tab:List (Nat×TI)) (l:List TypeId):List Ty:=l.map fun t=>match look tab t with
 | some ti=>ti.ty
 | none=>.unit
@[reducible] def curD (R:Type):List Ty→Type
 | []=>R
 | t::r=>t.den→curD R r
def appD {R:Type}:(l:List Ty)→dens l→curD R l→R
 | [],_,c=>c
 | [_],x,c=>c x
 | _::t::r,x,c=>appD (t::r) x.2 (c x.1)
noncomputable def ceOf (tab:List (Nat×TI)) (fn:Func) (f:curD (Option (dens (tysOf tab fn.resultTypes.toList))) (tysOf tab fn.params.toList)):Callee:=
 ⟨tysOf tab fn.params.toList,tysOf tab fn.resultTypes.toList,fun x=>appD _ x f⟩
structure SegOk (G:Env) (fn:Func) (pre:Shape) (chk:St→Bool) (ts:List Ty) (T:Nat) (p:Ty) (F:densU pre.tys→Option (dens ts⊕p.den)):Prop where
 n:G.n=fn.ntmps
 draws:kG G (JY fn)=true
 ps:∀q∈JP G.cks (JY fn),Yg G q.1 q.2
 eq:∀x,execK G (JY fn) _ (pre.inj x) (HC G fn.results.toList ts T p chk)=F x
theorem segOk {G:Env} {fn:Func} {pre:Shape} {chk:St→Bool} {ts:List Ty} {T:Nat} {p:Ty} {F:densU pre.tys→Option (dens ts⊕p.den)} {m:Nat} (hp:Upto G (JP G.cks (JY fn)) m)
 (h:((Nat.beq (JP G.cks (JY fn)).length m,kG G (JY fn)&&Nat.beq G.n fn.ntmps),fun x=>execK G (JY fn) (dens ts⊕p.den) (pre.inj x) (HC G fn.results.toList ts T p chk))=((true,true),F)):SegOk G fn pre chk ts T p F:=by
 injection h with h1 h2
 injection h1 with h0 h1
 rw [z7] at h1
 exact ⟨beqN.1 h1.2,h1.1,upto_all h0 hp,fun x=>congrFun h2 x⟩
structure FnB [GInv] (P:Program) where
 f:Nat
 ce:Callee
 ok:CalleeOk P f ce
structure MB [GInv] (P:Program) where
 i:Nat
 mc:MCallee
 ok:MOk P mc.fn mc
structure AB [GInv] (P:Program) where
 i:Nat
 ma:MAlt
 ok:AltOk P ma.fn ma
structure TB [GInv] (P:Program) where
 tab:List (Nat×TI)
 eqs:Eqs
 hT:TabOk P tab
 hE:EqsOk P tab eqs
 hm:P.follows .mixedOrders=true
structure EB [GInv] (P:Program) where
 t:TB P
 fn:Func
 fns:List (FnB P)
 keep:List Nat
 muts:List Nat
 fps:List (Nat×List (Nat×List Nat))
 cks:List (Nat×Ck)
 ms:List (MB P)
 as:List (AB P)
section
variable [GInv] {P:Program}
def EB.env (b:EB P):Env:=⟨b.fn.ntmps,b.t.tab,b.fns.map (fun x=>(x.f,x.ce)),b.keep,b.muts,hintsIn (JY b.fn) b.fps,b.cks,b.ms.map (fun x=>(x.i,x.mc)),b.t.eqs,b.as.map fun x=>(x.i,x.ma)⟩
theorem fnb_ok:∀l:List (FnB P),FnsOk P (l.map fun x=>(x.f,x.ce))
 | []=>HD
 | x::r=>fns_cons x.ok (fnb_ok r)
theorem mb_ok:∀l:List (MB P),HL P (l.map fun x=>(x.i,x.mc))
 | []=>Hq
 | x::r=>mfns_cons x.ok (mb_ok r)
theorem ab_ok:∀l:List (AB P),HK P (l.map fun x=>(x.i,x.ma))
 | []=>Hk
 | x::r=>alts_cons x.ok (ab_ok r)
theorem EB.ok (b:EB P):AllOk P b.env:=⟨fnb_ok b.fns,mb_ok b.ms,b.t.hE,ab_ok b.as⟩
theorem fnB (b:EB P) {f:Nat} {ce:Callee} (hf:P.funcs[f]?=some b.fn) {m:Nat} (hp:Upto b.env (JP b.cks (JY b.fn)) m)
 (h : (Nat.beq (JP b.cks (JY b.fn)).length m, (b.fn.body.isSome && kG b.env (JY b.fn) && Nat.ble ce.params.length b.fn.ntmps && Nat.beq b.fn.results.toList.length ce.res.length && !(b.fn.name == "runtime.NumGoroutine")), den b.env b.fn ce.params ce.res) = (true, true, ce.F):=by kernel_rfl) : CalleeOk P f ce := by
 injection h with h1 h2
 injection h2 with h2 h3
 refine fn_ok b.t.hT b.t.hm hf b.ok h1 hp ?_ (fun x=>congrFun h3 x)
 simp only [z7] at h2 ⊢
 exact ⟨⟨⟨⟨⟨h2.1.1.1.1,h2.1.1.1.2⟩,beqN.2 rfl⟩,h2.1.1.2⟩,h2.1.2⟩,h2.2⟩
theorem fnM (b:EB P) {f:Nat} {mc:MCallee} (hf:P.funcs[f]?=some b.fn) {m:Nat} (hp:Upto b.env (JP b.cks (JY b.fn)) m)
 (h : (Nat.beq (JP b.cks (JY b.fn)).length m, (b.fn.body.isSome && kG b.env (JY b.fn) && Nat.ble mc.pre.slots.length b.fn.ntmps && Vl 0 mc.pre.slots && !(b.fn.name == "runtime.NumGoroutine") && Nat.beq mc.fn f), denM b.env b.fn mc.pre mc.post) = (true, true, mc.F):=by kernel_rfl) : MOk P mc.fn mc := by
 injection h with h1 h2
 injection h2 with h2 h3
 refine fnm_ok b.t.hT b.t.hm hf b.ok h1 hp ?_ (fun x=>congrFun h3 x)
 simp only [z7] at h2 ⊢
 exact ⟨⟨⟨⟨⟨⟨h2.1.1.1.1.1,h2.1.1.1.1.2⟩,beqN.2 rfl⟩,h2.1.1.1.2⟩,h2.1.1.2⟩,h2.1.2⟩,h2.2⟩
theorem fnA (b:EB P) {f:Nat} {ma:MAlt} (hf:P.funcs[f]?=some b.fn) {m:Nat} (hp:Upto b.env (JP b.cks (JY b.fn)) m)
 (h : (Nat.beq (JP b.cks (JY b.fn)).length m, (b.fn.body.isSome && kG b.env (JY b.fn) && Nat.ble ma.pre.slots.length b.fn.ntmps && Vl 0 ma.pre.slots && !(b.fn.name == "runtime.NumGoroutine") && Nat.beq ma.fn f), denA b.env b.fn ma.pre ma.post ma.pan ma.post2) = (true, true, ma.F):=by kernel_rfl) : AltOk P ma.fn ma := by
 injection h with h1 h2
 injection h2 with h2 h3
 refine fna_ok b.t.hT b.t.hm hf b.ok h1 hp ?_ (fun x=>congrFun h3 x)
 simp only [z7] at h2 ⊢
 exact ⟨⟨⟨⟨⟨⟨h2.1.1.1.1.1,h2.1.1.1.1.2⟩,beqN.2 rfl⟩,h2.1.1.1.2⟩,h2.1.1.2⟩,h2.1.2⟩,h2.2⟩
end
end
end Go.Ql
end

section
namespace Go.Ql
section
variable [GInv] {P:Program} {G:Env} {n n':Nat} {w0 w w1:World} {Z0:Bs} {st:St} {a a':Act} {nm:Names}
theorem Rel.frame (h:Rel n w0 Z0 st a w nm) {df:List Deferred} {cm:Bool} {sl:List (Nat×Dv)} (hd:a'.defers=df) (hn:a'.tmps.size=n')
 (hs:∀t d,look sl t=some d → ∃v,a'.tmps[t]?=some v∧rdD w (Zc w0 Z0 nm st.objs w) nm st.objs d v) :
 Rel n' w0 ⟨Z0.z,Z0.m,Z0.nm,df,cm⟩ ⟨sl,st.objs⟩ a' w nm:=
 ⟨⟨[],by rw [hd];rfl,Marks.nil _ _ _⟩,hn,hs,h.objs,h.new,h.inj,h.same,h.given,h.glob,fun _=>hd⟩
def finK {ρ:Type} (ob:Nat→Option Ob) (rs:List Ty) (f:dens rs→ρ) (l:List Dv):Option ρ:=match args ob rs l with
 | some (x,_)=>some (f x)
 | none=>none
theorem res_fin (hT:TabOk P G.tab) {Z:Nat→Prop} {nm0:Names} {df:List Deferred} {cm:Bool} {fn:Func} {rs:List Ty} {ρ:Type} {f:dens rs→ρ} {r:ρ}
 (h:Rel n w0 ⟨Z,fun _=>False,nm0,df,cm⟩ st a w nm)
 (hk:resK G st fn.results.toList (finK (look st.objs) rs f)=some r) :
 ∃x v,r=f x∧(results fn a.tmps).run P w=.ok v w∧Same w0 w∧rdRes w (VD w0 w Z) rs x v:=by
 obtain ⟨l,rvs,hk,q1,q2,q3⟩:=VA hT h fn.results.toList hk
 unfold finK at hk
 split at hk
 ·rename_i x' u hx
  simp only [z6] at hk
  obtain ⟨Z1,hz1,hr1⟩:=resArgs_rd h hx q2 q3
  have hk1:Kept w w Z1 (VD w0 w Z):=fun b hb=>⟨by
   have:=hz1 b hb
   by_cases hlt:b<w0.heap.size
   ·exact .inl ((this.2 hlt).resolve_right id)
   ·exact .inr ⟨by omega,this.1⟩,rfl⟩
  have hr2:=Ub hk1 rs hr1
  have hrun:(results fn a.tmps).run P w=.ok (if h:rvs.toArray.size=1 then rvs.toArray[0] else .tuple rvs.toArray) w:=by
   unfold results
   rw [Array.mapM_eq_mapM_toList]
   simp only [Sem.run_bind,Sem.run_map]
   erw [q1]
   simp only [Result.andThen_ok,Sem.run_pure]
  refine ⟨x',_,hk.symm,hrun,⟨h.same.os,h.same.tape,h.same.output,h.same.size,fun b hb=>h.same.block b hb id⟩,?_⟩
  match rs,x',hr2 with
  | [],x',h=>
    have h0:rvs=[]:=h
    subst h0
    exact ⟨#[],rfl,rfl⟩
  | [t],x',⟨v,e,h⟩=>subst e;exact h
  | t::t'::ts,x',h=>
    have hln:=(look_begin (t::t'::ts) 0 h).1
    obtain ⟨v,r,e,h1,h2⟩:=h
    have hne:¬rvs.toArray.size=1:=by
     simp only [List.size_toArray,hln,za]
     omega
    rw [dif_neg hne]
    exact ⟨_,rfl,v,r,e,h1,h2⟩
 ·cases hk
end
def segF3 (fn:Func):Func:={ fn with body:=match fn.body with
 | some (.seq _ (.seq _ (.seq _ c)))=>some c
 | _=>none }
end Go.Ql
end

section
namespace Go.Ql
section
variable [GInv] {P:Program} {G:Env} {n n':Nat} {w0 w w1:World} {Z0:Bs} {st:St} {a a':Act} {nm:Names}
def CellRen (old:Nat→Nat) (a0 a:At):Prop:=(∃t d,a0=.val t d∧a=.val t d) ∨ ∃i ver,a=.own i ver∧a0=.own (old i) ver
def ObRen (old:Nat→Nat) (ob0 ob:Ob):Prop:=match ob with
 | .arr v fz e t xs=>ob0=.arr v fz e t xs
 | .box cs=>∃cs0,ob0=.box cs0∧cs0.length=cs.length ∧ ∀(j:Nat) (x:At),cs[j]?=some x → ∃x0,cs0[j]?=some x0∧CellRen old x0 x
 | _=>False
theorem ObRen.mine {old:Nat→Nat} {ob0 ob:Ob} (h:ObRen old ob0 ob):ob0.mine=ob.mine:=by
 cases ob with
 | arr v fz e t xs=>rw [show ob0=_ from h]
 | box cs=>obtain ⟨cs0,rfl,_⟩:=h;rfl
 | gone=>exact h.elim
 | clo=>exact h.elim
theorem Rel.renum2 (h:Rel n w0 Z0 st a w nm) {objs:List (Nat×Ob)} {nm':Names} {old:Nat→Nat} (hin:∀i j,old i=old j→(look objs i).isSome→(look objs j).isSome→i=j)
 (hsub:∀id ob,look objs id=some ob → ∃ob0,look st.objs (old id)=some ob0∧ObRen old ob0 ob∧nm' id=nm (old id)) :
 Rel n w0 ⟨Z0.z,Z0.m,nm',Z0.df,Z0.calm⟩ ⟨[],objs⟩ a w nm':=by
 have hZ:Kept w w (Zc w0 Z0 nm st.objs w) (Zc w0 ⟨Z0.z,Z0.m,nm',Z0.df,Z0.calm⟩ nm' objs w):=fun b hb=>⟨⟨hb.1,hb.2.1,fun ⟨j,o,q1,q2,q3⟩=>by
  obtain ⟨o0,p1,p2,p3⟩:=hsub j o q1
  exact hb.2.2 ⟨old j,o0,p1,by rw [p2.mine];exact q2,by rw [←p3];exact q3⟩⟩,rfl⟩
 refine ⟨h.defk hZ,h.size,fun t d hl=>by simp [look] at hl,fun id ob hl=>?_,fun id ob b hl hb=>?_,fun id id' ob ob' b h1 h2 hb hb'=>?_,h.same,fun id ob _ _ _=>rfl,h.glob,h.calm⟩
 ·obtain ⟨ob0,h1,h2,h3⟩:=hsub id ob hl
  have:=h.objs _ _ h1
  cases ob with
  | arr v fz e t xs=>
    rw [show ob0=_ from h2] at this
    show rdArr w _ (nm' id) e t xs
    rw [h3]
    exact VT hZ (fun _ _=>rfl) this
  | box cs=>
    obtain ⟨cs0,rfl,hlen,hcs⟩:=h2
    obtain ⟨b,vs,T,e1,e2,e3,e4⟩:=this
    refine ⟨b,vs,T,by rw [h3];exact e1,e2,⟨by rw [e3.1];exact hlen,fun j x v hx hv=>?_⟩,e4.1,fun T' hT=>?_⟩
    ·obtain ⟨x0,g1,g2⟩:=hcs j x hx
     have g3:=e3.2 j x0 v g1 hv
     rcases g2 with ⟨t,d,rfl,rfl⟩ | ⟨i,ver,rfl,rfl⟩
     ·exact VM (Kept.weak hZ) g3
     ·refine ⟨g3.1,fun fz e t xs hlk=>?_⟩
      obtain ⟨o0,p1,p2,p3⟩:=hsub i _ hlk
      rw [show o0=_ from p2] at p1
      rw [p3]
      exact g3.2 fz e t xs p1
    ·obtain ⟨j,hj⟩:=List.mem_iff_getElem?.1 hT
     obtain ⟨x0,_,g2⟩:=hcs j _ hj
     rcases g2 with ⟨t,d,_,e⟩ | ⟨i,ver,e,_⟩<;>cases e
  | gone=>exact h2.elim
  | clo=>exact h2.elim
 ·obtain ⟨ob0,h1,h2,h3⟩:=hsub id ob hl
  rw [h3] at hb
  exact h.new _ ob0 b h1 hb
 ·obtain ⟨o1,p1,p2,p3⟩:=hsub id ob h1
  obtain ⟨o2,q1,q2,q3⟩:=hsub id' ob' h2
  rw [p3] at hb
  rw [q3] at hb'
  exact hin id id' (h.inj _ _ o1 o2 b p1 q1 hb hb') (by rw [h1];rfl) (by rw [h2];rfl)
theorem Rel.only2 (h:Rel n w0 Z0 st a w nm) {objs:List (Nat×Ob)} (hsub:∀id ob,look objs id=some ob→look st.objs id=some ob∧ObOk nm nm st.objs objs ob):Rel n w0 Z0 ⟨[],objs⟩ a w nm:=by
 have hk:Kept w w (Zc w0 Z0 nm st.objs w) (Zc w0 Z0 nm objs w):=fun b hb=>⟨⟨hb.1,hb.2.1,fun ⟨j,o,q1,q2,q3⟩=>hb.2.2 ⟨j,o,(hsub j o q1).1,q2,q3⟩⟩,rfl⟩
 refine ⟨h.defk hk,h.size,fun t d hl=>by simp [look] at hl,fun id ob hl=>?_,fun id ob b hl=>h.new id ob b (hsub id ob hl).1,fun id id' ob ob' b h1 h2=>h.inj id id' ob ob' b (hsub id ob h1).1 (hsub id' ob' h2).1,h.same,fun id ob hg hl=>h.given id ob hg (hsub id ob hl).1,h.glob,h.calm⟩
 exact Yf hk rfl (fun _ _=>rfl) (hsub id ob hl).2 (h.objs id ob (hsub id ob hl).1)
def Ob.semi (objs:List (Nat×Ob)):Ob→Prop
 | .arr ..=>True
 | .box cs=>∀a∈cs,(∃t d,a=At.val t d) ∨ ∃i v,a=At.own i v∧look objs i=none
 | _=>False
theorem Ob.semi.ok {nm nm':Names} {objs objs':List (Nat×Ob)}:∀{ob:Ob},ob.semi objs'→ObOk nm nm' objs objs' ob
 | .arr ..,_=>trivial
 | .box cs,h=>by
   intro a ha
   rcases h a ha with ⟨t,d,rfl⟩ | ⟨i,v,rfl,hn⟩
   ·intro id hm
    simp [At.mentions] at hm
   ·intro id hm
    have:i=id:=beqN.1 hm
    subst this
    exact ⟨(fun ver fz e t xs hl=>by rw [hn] at hl;cases hl),(fun cs hl=>by rw [hn] at hl;cases hl),(fun f x y hl=>by rw [hn] at hl;cases hl)⟩
 | .gone,h=>h.elim
 | .clo ..,h=>h.elim
end
end Go.Ql
end
