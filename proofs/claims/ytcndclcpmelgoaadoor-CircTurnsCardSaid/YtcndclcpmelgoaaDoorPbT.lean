/- Plain laws: circuits controlled and moved. -/
import Derived.Test.YtcndclcpmelgoaaDoorPaT
set_option linter.all false
section
namespace Go.Ql
theorem contains_ok (l:List Int) (x:Int) (hl:l.length≤17592186043904):W.jU l x=some (decide (x∈l)):=by
 have key : ∃ r,iter (fun s:Int↦W.jE.c100002 l x (l.length:Int) s some) (0:Int)=some r∧((∃ u,r = .inl u∧0≤u.1∧x∈l) ∨ ∃ u,r = .inr u∧x∉l):=by
  refine Jv (l:=l) (fun pre r s=>s=(pre.length:Int)∧x∉pre) _ ?_ ?_ ⟨rfl,by simp⟩
  ·rintro pre a r s rfl ⟨rfl,h⟩
   simp only [List.length_append,List.length_cons] at hl
   simp only [W.jE.c100002,br_if,JK,jh]
   rw [if_pos JY]
   by_cases e:x=a
   ·subst e
    rw [if_pos (by simp)]
    exact .inr ⟨_,rfl,.inl ⟨_,rfl,by simp,by simp⟩⟩
   ·rw [if_neg (by simpa using e),Jh (by omega)]
    exact .inl ⟨_,rfl,by simp,by simp [h,e]⟩
  ·rintro s ⟨rfl,h⟩
   simp only [W.jE.c100002,br_if]
   rw [if_neg (by simp)]
   exact ⟨_,rfl,.inr ⟨_,rfl,h⟩⟩
 obtain ⟨r,hr,h⟩:=key
 simp only [W.jU,W.jE,hr,jh]
 rcases h with ⟨u,rfl,h1,h2⟩ | ⟨u,rfl,h1⟩
 ·simp only [kl,jh]
  exact Jq (by simp [h2];omega)
 ·simp only [ky,jh]
  exact Jq (by simp [h1])
def ctlO (q:Int) (o:Op):Op:=if o.1=1 then (4,o.2.1,[],q,0,[]) else (o.1,o.2.1,q::o.2.2.1,o.2.2.2.1,o.2.2.2.2.1,o.2.2.2.2.2)
def clash (q:Int):Nat→List Op→Int×Int
 | _,[]=>(0,0)
 | i,o::r=>if o.1≠1∧(o.2.2.2.1=q∨q∈o.2.2.1) then (12,i) else clash q (i+1) r
def VS (c:Cir) (q:Int):Cir×Int×Int:=
 if (chk c).1≠0 then (nix,chk c) else if q < 0∨c.1≤q then (nix,(10,0)) else if (pur c).1≠0 then (nix,pur c)
 else if (clash q 0 c.2.2).1≠0 then (nix,clash q 0 c.2.2) else ((c.1,c.2.1,c.2.2.map (ctlO q)),(0,0))
theorem ctl1_ok (o:Op) (q:Int) (ho:WOp o):W.Jj o q=some (ctlO q o,q,()):=by
 have:=ho.1
 simp only [W.Jj,br_if,ctlO]
 by_cases h:o.1=1
 ·rw [if_pos (by simp [h]),if_pos h]
 ·rw [if_neg (by simp [h]),if_neg h,Jw (by simp;omega)]
  rfl
theorem eachCtl_ok (c:Cir) (q:Int) (hc:WCir c):W.ju c q=some ((c.1,c.2.1,c.2.2.map (ctlO q)),q,()):=by
 obtain ⟨qn,bn,ops⟩:=c
 obtain ⟨hl,hw⟩:=hc
 simp only at hl hw
 have h : ∃ r,iter (fun s:Int×List Op×Int↦W.ju.c100003 ops (ops.length:Int) s.1 s.2.1 s.2.2 some) ((0:Int),[],q)=some r∧r.2.1=ops.map (ctlO q)∧r.2.2=q:=by
  refine Jv (l:=ops) (fun pre r s=>s=((pre.length:Int),pre.map (ctlO q),q)) _ ?_ ?_ rfl
  ·rintro pre a r s rfl rfl
   simp only [List.length_append,List.length_cons] at hl
   simp only [W.ju.c100003,W.ju.c5,br_if,JK,jh,WOp.eta,copied_ok a (hw a (by simp)),ctl1_ok a q (hw a (by simp))]
   rw [if_pos JY,Jw (by simp;omega),Jh (by omega)]
   exact .inl ⟨_,rfl,by simp⟩
  ·rintro s rfl
   simp only [W.ju.c100003,br_if]
   rw [if_neg (by simp)]
   exact ⟨_,rfl,rfl,rfl⟩
 obtain ⟨r,hr,h1,h2⟩:=h
 simp only [W.ju,hr,jh,h1,h2]
theorem ctl_c4 (a q:Int):W.ji.c4 a q some=some (decide (q < 0∨a≤q)):=by
 simp only [W.ji.c4];rw [br_or];exact Jq (by simp)
theorem rctl_c4 (q a:Int):W.jg.c4 q a some=some (decide (q < 0∨a≤q)):=by
 simp only [W.jg.c4];rw [br_or];exact Jq (by simp)
theorem ctl_c12 (q k:Int) (l:List Int) (t:Int) (hl:l.length≤17592186043904):W.ji.c12 q k l t some=some (decide (k≠1∧(t=q∨q∈l))):=by
 simp only [W.ji.c12,contains_ok l q hl,jh]
 rw [br_or,Yy]
 exact Jq (by simp)
theorem rctl_c16 (q:Int) (l:List Int) (t:Int) (hl:l.length≤17592186043904):W.jg.c16 q l t some=some (decide (t=q∨q∈l)):=by
 simp only [W.jg.c16,member_ok l q hl,jh]
 rw [br_or]
 exact Jq (by simp)
theorem control_ok (c:Cir) (q:Int) (hc:WCir c):W.ji c q=some (VS c q):=by
 simp only [W.ji,W.ji.c3,W.ji.c8,WCir.eta,check_ok c hc,pure_ok c hc,ctl_c4,Va,jh,br_if,VS]
 by_cases h1:(chk c).1=0
 ·rw [if_neg (show ¬ ((chk c).1 != 0)=true by simp [h1]),if_neg (show ¬ (chk c).1≠0 by simp [h1])]
  by_cases h2:q < 0∨c.1≤q
  ·rw [if_pos (show decide (q < 0∨c.1≤q)=true by simpa using h2),if_pos h2]
  ·rw [if_neg (show ¬ decide (q < 0∨c.1≤q)=true by simpa using h2),if_neg h2]
   by_cases h3:(pur c).1=0
   ·rw [if_neg (show ¬ ((pur c).1 != 0)=true by simp [h3]),if_neg (show ¬ (pur c).1≠0 by simp [h3])]
    have hc':=hc
    obtain ⟨qn,bn,ops⟩:=c
    obtain ⟨hl,hw⟩:=hc
    simp only at hl hw
    have key : ∃ r,iter (fun s:Int↦W.ji.c100010 ops (ops.length:Int) s q some) (0:Int)=some r ∧
     ((∃ u,r = .inl u∧(u.2.1,u.2.2)=clash q 0 ops∧(clash q 0 ops).1≠0) ∨ ∃ u,r = .inr u∧(0,0)=clash q 0 ops):=by
     refine Jv (l:=ops) (fun pre r s=>s=(pre.length:Int)∧clash q pre.length r=clash q 0 ops) _ ?_ ?_ ⟨rfl,rfl⟩
     ·rintro pre o r s rfl ⟨rfl,h4⟩
      simp only [List.length_append,List.length_cons] at hl
      simp only [W.ji.c100010,br_if,JK,jh,ctl_c12 _ _ _ _ (hw o (by simp)).1,Va]
      rw [if_pos JY]
      rw [clash] at h4
      by_cases ho:o.1≠1∧(o.2.2.2.1=q∨q∈o.2.2.1)
      ·rw [if_pos ho] at h4
       rw [if_pos (by simpa using ho)]
       exact .inr ⟨_,rfl,.inl ⟨_,rfl,h4,by rw [← h4];simp⟩⟩
      ·rw [if_neg ho] at h4
       rw [if_neg (by simpa using ho),Jh (by omega)]
       exact .inl ⟨_,rfl,by simp,by simpa using h4⟩
     ·rintro s ⟨rfl,h4⟩
      simp only [W.ji.c100010,br_if]
      rw [if_neg (by simp)]
      exact ⟨_,rfl,.inr ⟨_,rfl,h4⟩⟩
    obtain ⟨r,hr,h⟩:=key
    rw [hr,jh]
    rcases h with ⟨u,rfl,h,h5⟩ | ⟨u,rfl,h⟩
    ·rw [kl,if_pos h5,← h]
    ·rw [ky,if_neg (by rw [← h];simp),eachCtl_ok _ q hc']
     rfl
   ·rw [if_pos (show ((pur c).1 != 0)=true by simp [h3]),if_pos h3]
 ·rw [if_pos (show ((chk c).1 != 0)=true by simp [h1]),if_pos h1]
theorem rcontrol_ok (c:Cir) (q:Int) (hc:WCir c):W.jg c q=some (VS c q):=by
 simp only [W.jg,W.jg.c3,W.jg.c8,W.jg.c21,WCir.eta,rcheck_ok c hc,rpure_ok c hc,rctl_c4,Ym,jh,br_if,VS]
 by_cases h1:(chk c).1=0
 ·rw [if_neg (show ¬ ((chk c).1 != 0)=true by simp [h1]),if_neg (show ¬ (chk c).1≠0 by simp [h1])]
  by_cases h2:q < 0∨c.1≤q
  ·rw [if_pos (show decide (q < 0∨c.1≤q)=true by simpa using h2),if_pos h2]
  ·rw [if_neg (show ¬ decide (q < 0∨c.1≤q)=true by simpa using h2),if_neg h2]
   by_cases h3:(pur c).1=0
   ·rw [if_neg (show ¬ ((pur c).1 != 0)=true by simp [h3]),if_neg (show ¬ (pur c).1≠0 by simp [h3])]
    have hp:=(pur_zero h3).2.1
    obtain ⟨qn,bn,ops⟩:=c
    obtain ⟨hl,hw⟩:=hc
    simp only at hl hw
    have key : ∃ r,iter (fun s:Int×List Op↦W.jg.c100011 q s.1 ops s.2 some) ((0:Int),[])=some r ∧
     ((∃ u,r = .inl u∧(u.2.1,u.2.2.1)=clash q 0 ops∧(clash q 0 ops).1≠0) ∨ ∃ u,r = .inr u∧(0,0)=clash q 0 ops∧u.2=ops.map (ctlO q)):=by
     refine Jv (l:=ops) (fun pre r s=>s=((pre.length:Int),pre.map (ctlO q))∧clash q pre.length r=clash q 0 ops) _ ?_ ?_ ⟨rfl,rfl⟩
     ·rintro pre o r s rfl ⟨rfl,h4⟩
      simp only [List.length_append,List.length_cons] at hl
      have ho:=hw o (by simp)
      have ho1:=ho.1
      have hb:okIf (decide (((pre.map (ctlO q)).length+(1:Nat))*(80:Nat)≤(140737488355328:Nat)) && decide ((pre.map (ctlO q)).length+(1:Nat)≤(140737488355328:Nat)))=some ():=Jw (by simp;omega)
      have hb2:okIf (decide (((1:Nat)+o.2.2.1.length)*(8:Nat)≤(140737488355328:Nat)) && decide ((1:Nat)+o.2.2.1.length≤(140737488355328:Nat)))=some ():=Jw (by simp;omega)
      simp only [W.jg.c100011,W.jg.c253266,br_if,JK,jh,rctl_c16 _ _ _ ho.1,Ym,rcopyOp_ok o ho,WOp.eta,hb,hb2]
      rw [if_pos JY]
      rw [clash] at h4
      by_cases hk:o.1=1
      ·rw [if_neg (by simp [hk])] at h4
       rw [if_pos (by simp [hk])]
       simp only [jh,kl]
       rw [Jh (by omega)]
       exact .inl ⟨_,rfl,by simp [ctlO,hk],by simpa using h4⟩
      ·rw [if_neg (by simp [hk])]
       by_cases hq:o.2.2.2.1=q∨q∈o.2.2.1
       ·rw [if_pos ⟨hk,hq⟩] at h4
        rw [if_pos (by simpa using hq)]
        simp only [jh,ky]
        exact .inr ⟨_,rfl,.inl ⟨_,rfl,h4,by rw [← h4];simp⟩⟩
       ·rw [if_neg (fun hh=>hq hh.2)] at h4
        rw [if_neg (by simpa using hq)]
        simp only [jh,kl]
        rw [Jh (by omega)]
        exact .inl ⟨_,rfl,by simp [ctlO,hk],by simpa using h4⟩
     ·rintro s ⟨rfl,h4⟩
      simp only [W.jg.c100011,br_if]
      rw [if_neg (by simp)]
      exact ⟨_,rfl,.inr ⟨_,rfl,h4,rfl⟩⟩
    obtain ⟨r,hr,h⟩:=key
    rw [hr,jh]
    rcases h with ⟨u,rfl,h,h5⟩ | ⟨u,rfl,h,h6⟩
    ·rw [kl,if_pos h5,← h]
    ·rw [ky,if_neg (by rw [← h];simp)]
     simp only [hp,h6]
   ·rw [if_pos (show ((pur c).1 != 0)=true by simp [h3]),if_pos h3]
 ·rw [if_pos (show ((chk c).1 != 0)=true by simp [h1]),if_pos h1]
theorem control_w (c:Cir) (q:Int) (hc:WCir c):WCir (VS c q).1:=by
 have hn:WCir nix:=⟨by decide,by intro o ho;cases ho⟩
 unfold VS
 split
 ·exact hn
 ·rename_i h1
  split
  ·exact hn
  ·split
   ·exact hn
   ·split
    ·exact hn
    ·have h1:(chk c).1=0:=by simpa using h1
     obtain ⟨hg,_⟩:=Vh h1
     refine ⟨by simpa using hc.1,fun o ho => ?_⟩
     simp only [List.mem_map] at ho
     obtain ⟨o,ho,rfl⟩:=ho
     have hl:=(YI (hg.ops o ho)).len hg.q.2
     have hw:=hc.2 o ho
     unfold ctlO
     split
     ·exact ⟨by simp,by simp⟩
     ·exact ⟨by simp;omega,hw.2⟩
end Go.Ql
end

section
namespace Go.Ql
def goQ (to:List Int) (q:Int):Int:=to.getD q.toNat 0
theorem idx_go {to:List Int} {q:Int} (h:0≤q∧q < (to.length:Int)):idx to q=some (goQ to q):=by
 rw [idx_int h.1 h.2,goQ,List.getD_eq_getElem?_getD,List.getElem?_eq_getElem (by omega)]
 rfl
def mvO (to:List Int) (o:Op):Op:=(o.1,o.2.1,o.2.2.1.map (goQ to),if o.1≠1 then goQ to o.2.2.2.1 else o.2.2.2.1,o.2.2.2.2.1,o.2.2.2.2.2)
def kc (n:Int):List Int→List Int→Int×Int
 | _,[]=>(0,0)
 | pre,x::r=>if x < 0∨n≤x∨x∈pre then (17,pre.length) else kc n (pre++[x]) r
def moveF (c:Cir) (to:List Int) (n:Int):Int×Int:=
 if (chk c).1≠0 then chk c else if n < 1∨12 < n then (6,0) else if (to.length:Int)≠c.1 then (17,0) else kc n [] to
def moved (c:Cir) (to:List Int) (n:Int):Cir×Int×Int:=
 if (moveF c to n).1≠0 then (nix,moveF c to n) else ((n,c.2.1,c.2.2.map (mvO to)),(0,0))
theorem mapBad_zero {n:Int} : ∀ {l pre:List Int},(kc n pre l).1=0→kc n pre l=(0,0)
 | [],_,_=>rfl
 | o::r,pre,h=>by
   rw [kc] at h ⊢
   split at h
   ·cases h
   ·rename_i h1;rw [if_neg h1];exact mapBad_zero h
theorem moveF_zero {c:Cir} {to:List Int} {n:Int} (h:(moveF c to n).1=0):(chk c).1=0∧1≤n∧n≤12∧(to.length:Int)=c.1∧moveF c to n=(0,0):=by
 unfold moveF at h ⊢
 by_cases h1:(chk c).1=0
 ·rw [if_neg (by simp [h1])] at h ⊢
  by_cases h2:n < 1∨12 < n
  ·rw [if_pos h2] at h;cases h
  ·rw [if_neg h2] at h ⊢
   by_cases h3:(to.length:Int)=c.1
   ·rw [if_neg (by simp [h3])] at h ⊢
    exact ⟨h1,by omega,by omega,h3,mapBad_zero h⟩
   ·rw [if_pos h3] at h;cases h
 ·rw [if_pos h1] at h;exact absurd h h1
theorem VZ {α:Type} {pre:List α} {a:α} {r:List α} {n:Nat} (h:pre.length=n):idx (pre++a::r) (n:Int)=some a:=by rw [← h];exact JK
theorem Ua {α:Type} {pre:List α} {a:α} {r:List α} {n:Nat} (h:pre.length=n):inR (pre++a::r).length (n:Int)=some ():=Uq (by simp;omega)
theorem set_mid' {α:Type} {pre:List α} {a b:α} {r:List α} {n:Nat} (h:pre.length=n):(pre++a::r).set ((n:Int)).toNat b=(pre++[b])++r:=by
 subst h;simp
structure QOp (o:Op) (m:Nat):Prop where
 q:0≤o.2.2.2.1∧o.2.2.2.1 < (m:Int)
 c : ∀ x∈o.2.2.1,0≤x∧x < (m:Int)
theorem qop_of {o:Op} {qn bn:Int} {m:Nat} (h:GoodOp o qn bn) (hm:(m:Int)=qn):QOp o m:=
 ⟨by have:=h.q;omega,fun x hx=>by have:=(ctlBad_zero.1 h.ctls).1 x hx;omega⟩
theorem copiedOwn_ok (o:Op) (ho:WOp o):W.jG o=some (o.1,o.2.1,o.2.2.2.1,o.2.2.2.2.1,o.2.2.2.2.2,o.2.2.1,()):=by
 simp only [W.jG,W.jG.c1,clone_ok _ ho.1,clone_ok _ ho.2,jh]
theorem move1_ok (o:Op) (to:List Int) (ho:WOp o) (hq:QOp o to.length) :
 W.jq o.1 o.2.1 o.2.2.2.1 o.2.2.2.2.1 o.2.2.2.2.2 o.2.2.1 to=some (o.1,o.2.1,(mvO to o).2.2.2.1,o.2.2.2.2.1,o.2.2.2.2.2,(mvO to o).2.2.1,to,()):=by
 have hl:=ho.1
 have h1:W.jq.c204101 o.1 o.2.2.2.1 to some=some (mvO to o).2.2.2.1:=by
  simp only [W.jq.c204101,br_if,idx_go hq.q,jh,mvO]
  by_cases h:o.1=1
  ·rw [if_neg (by simp [h]),if_neg (by simp [h])]
  ·rw [if_pos (by simp [h]),if_pos h]
 have key : ∃ r,iter (fun s:Int×List Int↦W.jq.c100004 (o.2.2.1.length:Int) s.1 s.2 to some) ((0:Int),o.2.2.1)=some r∧r.2=o.2.2.1.map (goQ to):=by
  refine Jv (l:=o.2.2.1) (fun pre r s=>s=((pre.length:Int),pre.map (goQ to)++r)) _ ?_ ?_ rfl
  ·rintro pre a r s he rfl
   have ha:=hq.c a (by rw [he];simp)
   rw [he] at hl ⊢
   simp only [List.length_append,List.length_cons] at hl
   have hn:(pre.map (goQ to)).length=pre.length:=List.length_map _
   simp only [W.jq.c100004,W.jq.c6,br_if,VZ hn,Ua hn,set_mid' hn,idx_go ha,jh]
   rw [if_pos JY,Jh (by omega)]
   exact .inl ⟨_,rfl,by simp⟩
  ·rintro s rfl
   simp only [W.jq.c100004,br_if]
   rw [if_neg (by simp)]
   exact ⟨_,rfl,by simp⟩
 obtain ⟨r,hr,h⟩:=key
 simp only [W.jq,h1,hr,h,jh]
 rfl
theorem eachMove_ok (c:Cir) (to:List Int) (hc:WCir c) (hq : ∀ o∈c.2.2,QOp o to.length):W.jp c to=some ((c.1,c.2.1,c.2.2.map (mvO to)),to,()):=by
 obtain ⟨qn,bn,ops⟩:=c
 obtain ⟨hl,hw⟩:=hc
 simp only at hl hw hq
 have h : ∃ r,iter (fun s:Int×List Op×List Int↦W.jp.c100003 ops (ops.length:Int) s.1 s.2.1 s.2.2 some) ((0:Int),[],to)=some r∧r.2.1=ops.map (mvO to)∧r.2.2=to:=by
  refine Jv (l:=ops) (fun pre r s=>s=((pre.length:Int),pre.map (mvO to),to)) _ ?_ ?_ rfl
  ·rintro pre a r s rfl rfl
   simp only [List.length_append,List.length_cons] at hl
   simp only [W.jp.c100003,W.jp.c5,br_if,JK,jh,WOp.eta,copiedOwn_ok a (hw a (by simp)),move1_ok a to (hw a (by simp)) (hq a (by simp))]
   rw [if_pos JY,Jw (by simp;omega),Jh (by omega)]
   exact .inl ⟨_,rfl,by simp [mvO]⟩
  ·rintro s rfl
   simp only [W.jp.c100003,br_if]
   rw [if_neg (by simp)]
   exact ⟨_,rfl,rfl,rfl⟩
 obtain ⟨r,hr,h1,h2⟩:=h
 simp only [W.jp,hr,jh,h1,h2]
theorem mv_c4 (n:Int):W.js.c4 n some=some (decide (n < 1∨12 < n)):=by
 simp only [W.js.c4];rw [br_or];exact Jq (by simp)
theorem mv_c11 (n x:Int) (pre r:List Int) (hl:(pre++x::r).length≤17592186043904):W.js.c11 n (pre.length:Int) x (pre++x::r) some=some (decide (x < 0∨n≤x∨x∈pre)):=by
 simp only [List.length_append,List.length_cons] at hl
 simp only [W.js.c11,Int.toNat_natCast,List.take_left,contains_ok pre x (by omega),jh]
 rw [Jw (by simp;omega)]
 simp only [jh]
 rw [br_or,br_or]
 exact Jq (by simp)
theorem move_ok (c:Cir) (to:List Int) (n:Int) (hc:WCir c) (ht:to.length≤17592186043904):W.js c to n=some (moved c to n):=by
 simp only [W.js,W.js.c3,WCir.eta,check_ok c hc,mv_c4,Va,jh,br_if,moved]
 have hF:moveF c to n=if (chk c).1≠0 then chk c else if n < 1∨12 < n then (6,0) else if (to.length:Int)≠c.1 then (17,0) else kc n [] to:=rfl
 by_cases h1:(chk c).1=0
 ·rw [if_neg (show ¬ ((chk c).1 != 0)=true by simp [h1])]
  rw [if_neg (show ¬ (chk c).1≠0 by simp [h1])] at hF
  by_cases h2:n < 1∨12 < n
  ·rw [if_pos (show decide (n < 1∨12 < n)=true by simpa using h2)]
   rw [if_pos h2] at hF
   rw [hF];rfl
  ·rw [if_neg (show ¬ decide (n < 1∨12 < n)=true by simpa using h2)]
   rw [if_neg h2] at hF
   by_cases h3:(to.length:Int)=c.1
   ·rw [if_neg (show ¬ (((to.length:Int)) != c.1)=true by simp [h3])]
    rw [if_neg (show ¬ (to.length:Int)≠c.1 by simp [h3])] at hF
    have hg:=(Vh h1).1
    have key : ∃ r,iter (fun s:Int↦W.js.c100009 n to (to.length:Int) s to some) (0:Int)=some r ∧
     ((∃ u,r = .inl u∧(u.2.1,u.2.2)=kc n [] to∧(kc n [] to).1≠0) ∨ ∃ u,r = .inr u∧(0,0)=kc n [] to):=by
     refine Jv (l:=to) (fun pre r s=>s=(pre.length:Int)∧kc n pre r=kc n [] to) _ ?_ ?_ ⟨rfl,rfl⟩
     ·rintro pre x r s he ⟨rfl,h4⟩
      rw [he] at ht ⊢
      simp only [W.js.c100009,br_if,JK,jh,mv_c11 n x pre r ht,Va]
      simp only [List.length_append,List.length_cons] at ht
      rw [if_pos JY]
      rw [he,kc] at h4
      by_cases ho:x < 0∨n≤x∨x∈pre
      ·rw [if_pos ho] at h4
       rw [if_pos (by simpa using ho)]
       exact .inr ⟨_,rfl,.inl ⟨_,rfl,h4,by rw [← h4];simp⟩⟩
      ·rw [if_neg ho] at h4
       rw [if_neg (by simpa using ho),Jh (by omega)]
       exact .inl ⟨_,rfl,by simp,by simpa using h4⟩
     ·rintro s ⟨rfl,h4⟩
      simp only [W.js.c100009,br_if]
      rw [if_neg (by simp)]
      exact ⟨_,rfl,.inr ⟨_,rfl,h4⟩⟩
    obtain ⟨r,hr,h⟩:=key
    rw [hr,jh,hF]
    rcases h with ⟨u,rfl,h,h5⟩ | ⟨u,rfl,h⟩
    ·rw [kl,if_pos h5,← h]
    ·rw [ky,if_neg (by rw [← h];simp),eachMove_ok c to hc (fun o ho=>qop_of (YI (hg.ops o ho)) h3)]
     rfl
   ·rw [if_pos (show (((to.length:Int)) != c.1)=true by simp [h3])]
    rw [if_pos h3] at hF
    rw [hF];rfl
 ·rw [if_pos (show ((chk c).1 != 0)=true by simp [h1])]
  rw [if_pos h1] at hF
  rw [hF,if_pos h1]
end Go.Ql
end

section
namespace Go.Ql
theorem rcopyIntsOwn_ok (l:List Int) (hl:l.length≤17592186043904):W.jD l=some (l,()):=by
 have h : ∃ r,iter (fun s:Int×List Int↦W.jD.c100003 l s.1 s.2 some) ((0:Int),[])=some r∧r.2=l:=by
  refine Jv (l:=l) (fun pre r s=>s=((pre.length:Int),pre)) _ ?_ ?_ rfl
  ·rintro pre a r s rfl rfl
   simp only [List.length_append,List.length_cons] at hl
   simp only [W.jD.c100003,br_if,JK,jh]
   rw [if_pos JY,Jw (by simp;omega),Jh (by omega)]
   exact .inl ⟨_,rfl,by simp⟩
  ·rintro s rfl
   simp only [W.jD.c100003,br_if]
   rw [if_neg (by simp)]
   exact ⟨_,rfl,rfl⟩
 obtain ⟨r,hr,h⟩:=h
 simp only [W.jD,hr,jh,h]
theorem rcopyOpOwn_ok (o:Op) (ho:WOp o):W.Jo o=some (o.1,o.2.1,o.2.2.2.1,o.2.2.2.2.1,o.2.2.1,o.2.2.2.2.2,()):=by
 simp only [W.Jo,rcopyIntsOwn_ok _ ho.1,rcopyIntsOwn_ok _ ho.2,jh]
theorem copyDeep_ok (c:Cir) (hc:WCir c):W.jm c=some (c.1,c.2.1,c.2.2,()):=by
 obtain ⟨qn,bn,ops⟩:=c
 obtain ⟨hl,hw⟩:=hc
 simp only at hl hw
 have h : ∃ r,iter (fun s:Int×List Op↦W.jm.c100003 s.1 ops s.2 some) ((0:Int),[])=some r∧r.2=ops:=by
  refine Jv (l:=ops) (fun pre r s=>s=((pre.length:Int),pre)) _ ?_ ?_ rfl
  ·rintro pre a r s rfl rfl
   simp only [List.length_append,List.length_cons] at hl
   simp only [W.jm.c100003,W.jm.c5,br_if,JK,jh,rcopyOpOwn_ok a (hw a (by simp))]
   rw [if_pos JY,Jw (by simp;omega),Jh (by omega)]
   exact .inl ⟨_,rfl,by simp⟩
  ·rintro s rfl
   simp only [W.jm.c100003,br_if]
   rw [if_neg (by simp)]
   exact ⟨_,rfl,rfl⟩
 obtain ⟨r,hr,h⟩:=h
 simp only [W.jm,hr,jh,h]
theorem rmove_ctl (to:List Int) (A B:List Op) (i:Nat) (hi:A.length=i) (o:Op) (ho:WOp o) (hq : ∀ x∈o.2.2.1,0≤x∧x < (to.length:Int)) :
 ∃ r,iter (fun s:Int×List Op↦W.jb.c100021 to (i:Int) s.1 s.2 some) ((0:Int),A++o::B)=some r∧r.2=A++(o.1,o.2.1,o.2.2.1.map (goQ to),o.2.2.2)::B:=by
 have hl:=ho.1
 refine Jv (l:=o.2.2.1) (fun pre r s=>s=((pre.length:Int),A++(o.1,o.2.1,pre.map (goQ to)++r,o.2.2.2)::B)) _ ?_ ?_ rfl
 ·rintro pre a r s he rfl
  have ha:=hq a (by rw [he];simp)
  rw [he] at hl
  simp only [List.length_append,List.length_cons] at hl
  have hn:(pre.map (goQ to)).length=pre.length:=List.length_map _
  simp only [W.jb.c100021,W.jb.c23,br_if,VZ hi,Ua hi,set_mid' hi,VZ hn,Ua hn,set_mid' hn,idx_go ha,jh]
  rw [if_pos (by simp;omega),Jh (by omega)]
  exact .inl ⟨_,rfl,by simp⟩
 ·rintro s rfl
  simp only [W.jb.c100021,br_if,VZ hi,Ua hi,jh]
  rw [if_neg (by simp)]
  exact ⟨_,rfl,by simp⟩
theorem rmove_ops (to:List Int) (ops:List Op) (hl:ops.length≤1759218604390) (hw : ∀ o∈ops,WOp o) (hq : ∀ o∈ops,QOp o to.length) :
 ∃ r,iter (fun s:Int×List Op↦W.jb.c100016 to s.1 s.2 some) ((0:Int),ops)=some r∧r.2=ops.map (mvO to):=by
 refine Jv (l:=ops) (fun pre r s=>s=((pre.length:Int),pre.map (mvO to)++r)) _ ?_ ?_ rfl
 ·rintro pre o r s rfl rfl
  simp only [List.length_append,List.length_cons] at hl
  have hn:(pre.map (mvO to)).length=pre.length:=List.length_map _
  have ho:=hq o (by simp)
  have h1:W.jb.c273733 to (pre.length:Int) (pre.map (mvO to)++o::r) some=some (pre.map (mvO to)++(o.1,o.2.1,o.2.2.1,(mvO to o).2.2.2)::r):=by
   simp only [W.jb.c273733,W.jb.c19,br_if,VZ hn,Ua hn,set_mid' hn,idx_go ho.q,jh,mvO]
   by_cases h:o.1=1
   ·rw [if_neg (by simp [h]),if_neg (by simp [h])]
   ·rw [if_pos (by simp [h]),if_pos h]
    simp
  obtain ⟨x,h2,h3⟩:=rmove_ctl to (pre.map (mvO to)) r pre.length hn (o.1,o.2.1,o.2.2.1,(mvO to o).2.2.2) (hw o (by simp)) ho.c
  simp only [W.jb.c100016,br_if,h1,jh]
  rw [if_pos (by simp;omega),h2]
  simp only [jh]
  rw [Jh (by omega),h3]
  exact .inl ⟨_,rfl,by simp [mvO]⟩
 ·rintro s rfl
  simp only [W.jb.c100016,br_if]
  rw [if_neg (by simp)]
  exact ⟨_,rfl,by simp⟩
theorem rmv_c2 (n f:Int):W.jb.c2 n f some=some (decide (f=0∧(n < 1∨12 < n))):=by
 simp only [W.jb.c2];rw [br_or,Yy];exact Jq (by simp)
theorem rmv_c4 (t:List Int) (a f:Int):W.jb.c4 t a f some=some (decide (f=0∧(t.length:Int)≠a)):=by
 simp only [W.jb.c4];rw [Yy];exact Jq (by simp)
theorem Uz (t:List Int) (i f:Int):W.jb.c7 t i f some=some (decide (i < (t.length:Int)∧f=0)):=by
 simp only [W.jb.c7];rw [Yy];exact Jq (by simp)
theorem rmv_c9 (n x:Int) (pre r:List Int) (hl:(pre++x::r).length≤17592186043904):W.jb.c9 (pre++x::r) n (pre.length:Int) some=some (decide (x < 0∨n≤x∨x∈pre)):=by
 simp only [List.length_append,List.length_cons] at hl
 simp only [W.jb.c9,JK,Int.toNat_natCast,List.take_left,member_ok pre x (by omega),jh]
 rw [Jw (by simp;omega)]
 simp only [jh]
 rw [br_or,br_or]
 exact Jq (by simp)
theorem rmove_ok (c:Cir) (to:List Int) (n:Int) (hc:WCir c) (ht:to.length≤17592186043904):W.jb c to n=some (moved c to n):=by
 have e1:W.jb.c208197 n (chk c).1 (chk c).2 some=some (if (chk c).1≠0 then chk c else if n < 1∨12 < n then (6,0) else (0,0)):=by
  simp only [W.jb.c208197,rmv_c2,Ym,jh,br_if]
  by_cases h1:(chk c).1=0
  ·rw [(Vh h1).2]
   by_cases h2:n < 1∨12 < n
   ·simp [h2]
   ·simp [h2]
  ·simp [h1]
 have e2 : ∀ f:Int×Int,W.jb.c216389 to c.1 f.1 f.2 some=some (if f.1=0∧(to.length:Int)≠c.1 then (17,0) else f):=by
  intro f
  simp only [W.jb.c216389,rmv_c4,Ym,jh,br_if,decide_eq_true_eq]
  split <;> rfl
 have e3 : ∀ f:Int×Int,∃ r,iter (fun s:Int×Int×Int↦W.jb.c100007 to n s.1 s.2.1 s.2.2 some) ((0:Int),f.1,f.2)=some r∧r.2=(if f.1=0 then (if (kc n [] to).1=0 then f else kc n [] to) else f):=by
  intro f
  by_cases hf:f.1=0
  ·rw [if_pos hf]
   have key : ∃ r,iter (fun s:Int×Int×Int↦W.jb.c100007 to n s.1 s.2.1 s.2.2 some) ((0:Int),f.1,f.2)=some r∧r.2=(if (kc n [] to).1=0 then f else kc n [] to):=by
    have stop : ∀ (i a b:Int),a≠0→W.jb.c100007 to n i a b some=some (.inr (i,a,b)):=by
     intro i a b h
     simp only [W.jb.c100007,Uz,jh,br_if]
     rw [if_neg (by simp [h])]
    have gen : ∀ (r pre:List Int) (s:Int×Int×Int),to=pre++r→s=((pre.length:Int),f.1,f.2)→kc n pre r=kc n [] to →
     ∃ x,iter (fun s:Int×Int×Int↦W.jb.c100007 to n s.1 s.2.1 s.2.2 some) s=some x∧x.2=(if (kc n [] to).1=0 then f else kc n [] to):=by
     intro r
     induction r with
     | nil=>
       rintro pre s he rfl h4
       rw [List.append_nil] at he
       refine ⟨((pre.length:Int),f.1,f.2),Vb ?_,?_⟩
       ·simp only [W.jb.c100007,Uz,jh,br_if]
        rw [if_neg (by simp [he])]
       ·rw [← h4]
        simp [kc]
     | cons x r ih=>
       rintro pre s he rfl h4
       have ht':=ht
       rw [he] at ht'
       simp only [List.length_append,List.length_cons] at ht'
       have h9:W.jb.c9 to n (pre.length:Int) some=some (decide (x < 0∨n≤x∨x∈pre)):=by rw [he];exact rmv_c9 n x pre r (by rw [← he];exact ht)
       have hlt:(decide ((pre.length:Int) < (to.length:Int)∧f.1=0))=true:=by simp [hf,he];omega
       rw [kc] at h4
       by_cases ho:x < 0∨n≤x∨x∈pre
       ·rw [if_pos ho] at h4
        refine ⟨((pre.length:Int)+1,17,(pre.length:Int)),iter_inl (s':=((pre.length:Int)+1,17,(pre.length:Int))) ?_ (Vb (stop _ _ _ (by simp))),?_⟩
        ·simp only [W.jb.c100007,W.jb.c236870,Uz,h9,Ym,jh,br_if]
         rw [if_pos hlt,if_pos (by simpa using ho)]
         simp only [jh]
         rw [Jh (by omega)]
        ·rw [← h4];simp
       ·rw [if_neg ho] at h4
        obtain ⟨y,h5,h6⟩:=ih (pre++[x]) (((pre++[x]).length:Int),f.1,f.2) (by simp [he]) rfl h4
        refine ⟨y,iter_inl (s':=(((pre++[x]).length:Int),f.1,f.2)) ?_ h5,h6⟩
        simp only [W.jb.c100007,W.jb.c236870,Uz,h9,Ym,jh,br_if]
        rw [if_pos hlt,if_neg (by simpa using ho)]
        simp only [jh]
        rw [Jh (by omega)]
        simp
    exact gen to [] _ rfl rfl rfl
   exact key
  ·rw [if_neg hf]
   refine ⟨((0:Int),f.1,f.2),Vb ?_,rfl⟩
   simp only [W.jb.c100007,Uz,jh,br_if]
   rw [if_neg (by simp [hf])]
 simp only [W.jb,W.jb.c12,W.jb.c24,WCir.eta,rcheck_ok c hc,e1,e2,jh,br_if]
 obtain ⟨F,hF⟩ : ∃ F:Int×Int,F=(if (if (chk c).1≠0 then chk c else if n < 1∨12 < n then (6,0) else (0,0):Int×Int).1=0∧(to.length:Int)≠c.1 then (17,0) else if (chk c).1≠0 then chk c else if n < 1∨12 < n then (6,0) else (0,0)):=⟨_,rfl⟩
 rw [← hF]
 obtain ⟨r,h1,h2⟩:=e3 F
 rw [h1]
 simp only [jh]
 have hr:r.2=moveF c to n:=by
  rw [h2,hF]
  unfold moveF
  by_cases g1:(chk c).1=0
  ·have g0:=(Vh g1).2
   by_cases g2:n < 1∨12 < n
   ·simp [g0,g2]
   ·by_cases g3:(to.length:Int)=c.1
    ·simp [g0,g2,g3]
     intro g4
     rw [mapBad_zero g4]
    ·simp [g0,g2,g3]
  ·simp [g1]
 rw [hr]
 unfold moved
 by_cases hz:(moveF c to n).1=0
 ·obtain ⟨g1,_,_,g4,g5⟩:=moveF_zero hz
  rw [if_neg (by simp [hz]),if_neg (by simp [hz]),copyDeep_ok c hc]
  simp only [jh]
  obtain ⟨x,h3,h4⟩:=rmove_ops to c.2.2 hc.1 hc.2 (fun o ho=>qop_of (YI ((Vh g1).1.ops o ho)) g4)
  rw [h3]
  simp only [jh,h4,g5]
 ·rw [if_pos (by simp [hz]),if_pos hz]
theorem moved_w (c:Cir) (to:List Int) (n:Int) (hc:WCir c):WCir (moved c to n).1:=by
 unfold moved
 split
 ·exact ⟨by simp,by intro o ho;cases ho⟩
 ·refine ⟨by simpa using hc.1,fun o ho => ?_⟩
  simp only [List.mem_map] at ho
  obtain ⟨o,ho,rfl⟩:=ho
  have hw:=hc.2 o ho
  exact ⟨by simpa [mvO] using hw.1,hw.2⟩
theorem inverse_w (c:Cir) (hc:WCir c):WCir (VU c).1:=by
 unfold VU
 split
 ·exact ⟨by simp,by intro o ho;cases ho⟩
 ·refine ⟨by simpa [inv] using hc.1,fun o ho => ?_⟩
  simp only [inv,List.mem_reverse,List.mem_map] at ho
  obtain ⟨o,ho,rfl⟩:=ho
  exact hc.2 o ho
theorem turns_law (c:Cir) (q:Int) (to:List Int) (n:Int) (hc:WCir c) (ht:to.length≤17592186043904):W.jA c q to n=some true:=by
 have a1 : ∀ x:Cir×Int×Int,WCir x.1→W.jP x.1 x.2 x.1 x.2=some true:=fun x hx=>by rw [answers_ok _ _ _ _ hx];simp
 have c5 : ∀ x:Cir×Int×Int,WCir x.1→W.jA.c5 x.1.1 x.1.2.1 x.1.2.2 x.2.1 x.2.2 x.1.1 x.1.2.1 x.1.2.2 x.2.1 x.2.2 some=some false:=fun x hx=>by
  have h0:W.jP (x.1.1,x.1.2.1,x.1.2.2) (x.2.1,x.2.2) (x.1.1,x.1.2.1,x.1.2.2) (x.2.1,x.2.2)=some true:=a1 x hx
  simp only [W.jA.c5,begun_ok,jh,h0]
  rfl
 simp only [W.jA,W.jA.c13,WCir.eta,copyCircuit_ok c hc,inverse_ok c hc,rinverse_ok c hc,control_ok c q hc,rcontrol_ok c q hc,move_ok c to n hc ht,rmove_ok c to n hc ht,jh,c5 _ (inverse_w c hc),a1 _ (control_w c q hc),a1 _ (moved_w c to n hc),sameCircuit_ok c c hc,sameInts_ok to to ht]
 rw [Jw (by simp;omega)]
 simp only [jh]
 simp [br,jh]
theorem turns_all : ∀ x:dens [cirTy,.int .i64,.sl (.int .i64),.int .i64],WfL [cirTy,.int .i64,.sl (.int .i64),.int .i64] x→W.jA.ce.F x=some true:=by
 intro x h
 have h1:Wf (.sl (.int .i64)) x.2.2.1:=h.2.2.1
 obtain ⟨h2,_⟩:=h1
 rw [int_bytes] at h2
 have h2:List.length x.2.2.1*8≤140737488351232:=h2
 exact turns_law x.1 x.2.1 x.2.2.1 x.2.2.2 (wcir_of h.1) (by omega)
end Go.Ql
end
