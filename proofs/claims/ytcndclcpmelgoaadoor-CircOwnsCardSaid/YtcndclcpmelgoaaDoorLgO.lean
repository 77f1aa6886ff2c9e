/- Part of the lifter: a function's contract out of its meaning; for any program. -/
import Derived.Test.YtcndclcpmelgoaaDoorLfO
import Derived.LoopN
import Derived.KernelRfl
set_option linter.all false
section
set_option linter.unusedSectionVars false
namespace Go.Ql
variable [GInv]
def bindsB (e:Edge):Bool:=Region.binds .any e
def apartH (oi:Oper) (hi hj:Hint):Bool:=
 (match oi.dst with | some t=>memN t hj.hideS | none=>true) && hi.wr.all fun id=>memN id hj.hideO
def freshNo (dst i:Nat):Bool:=Nat.blt i dst || !Nat.beq ((i - dst) % 1000) 0
def rowOk (hs:List Hint) (ops:List Oper) (j:Nat) (oj:Oper) (hj:Hint):Nat→List (Oper×Hint)→Bool
 | _,[]=>true
 | i,(oi,hi)::r=>(Nat.beq i j || ((memN i hj.pre || memN j hi.pre || apartH oi hi hj) && (match oi.dst,oj.dst with | some s,some t => !Nat.beq s t | _,_=>true))) && rowOk hs ops j oj hj (i+1) r
def oneOk (hs:List Hint) (ops:List Oper) (all:List (Oper×Hint)) (j:Nat) (oj:Oper) (hj:Hint):Bool:=
 oj.after.toList.all (fun e => !bindsB e || Nat.blt e.on j) &&
 hj.pre.all (fun i=>Nat.blt i j && oj.after.toList.any fun e=>bindsB e && (Nat.beq e.on i || memN i (preOf hs e.on))) &&
 hj.hideO.all (fun i=>freshNo (oj.dst.getD 0) i) && hj.wr.all (fun id => !memN id hj.hideO) && rowOk hs ops j oj hj 0 all
def colsOk (hs:List Hint) (ops:List Oper) (all:List (Oper×Hint)):Nat→List (Oper×Hint)→Bool
 | _,[]=>true
 | j,(oj,hj)::r=>oneOk hs ops all j oj hj && colsOk hs ops all (j+1) r
def hintsOk (ops:List Oper) (hs:List Hint):Bool:=Nat.beq hs.length ops.length && colsOk hs ops (ops.zip hs) 0 (ops.zip hs)
structure HOk (ops:List Oper) (hs:List Hint):Prop where
 len:hs.length=ops.length
 back : ∀ j o,ops[j]? = some o → ∀ e∈o.after,Region.binds .any e=true→e.on < j
 pre : ∀ j i,i∈preOf hs j→i < j ∧ ∃ o,ops[j]? = some o ∧ ∃ e∈o.after,Region.binds .any e=true∧(e.on=i∨i∈preOf hs e.on)
 apart : ∀ (i j:Nat) (oi oj:Oper) (hi hj:Hint),ops[i]? = some oi→ops[j]? = some oj→hs[i]? = some hi→hs[j]? = some hj→i≠j →
  (i∈hj.pre∨j∈hi.pre∨((∀ t,oi.dst=some t→memN t hj.hideS=true) ∧ ∀ id,memN id hi.wr=true→memN id hj.hideO=true)) ∧ ∀ t,oi.dst=some t→oj.dst≠some t
 selfD : ∀ (j:Nat) (o:Oper) (h:Hint),ops[j]? = some o→hs[j]? = some h → ∀ i,memN (kl (o.dst.getD 0) i) h.hideO=false
 selfW : ∀ (j:Nat) (h:Hint),hs[j]? = some h → ∀ id,memN id h.wr=true→memN id h.hideO=false
theorem rowOk_at {hs:List Hint} {ops:List Oper} {j:Nat} {oj:Oper} {hj:Hint} : ∀ {l:List (Oper×Hint)} {i0:Nat},rowOk hs ops j oj hj i0 l=true → ∀ i oi hi,l[i]? = some (oi,hi)→i0+i≠j →
 (i0+i∈hj.pre∨j∈hi.pre∨apartH oi hi hj=true) ∧ ∀ t,oi.dst=some t→oj.dst≠some t
 | [],i0,_,i,oi,hi,h,_=>by simp at h
 | (o,h)::l,i0,hr,i,oi,hi,hl,hne=>by
   simp only [rowOk,Bool.and_eq_true] at hr
   cases i with
   | zero=>
     simp only [List.getElem?_cons_zero,Option.some.injEq,Prod.mk.injEq] at hl
     obtain ⟨rfl,rfl⟩:=hl
     have h1:=hr.1
     have hb:Nat.beq i0 j=false:=Jb.2 hne
     rw [hb,Bool.false_or,Bool.and_eq_true,Bool.or_eq_true,Bool.or_eq_true] at h1
     refine ⟨?_,fun t ht hj' => ?_⟩
     ·rcases h1.1 with (h2 | h2) | h2
      ·exact .inl (Yg.1 h2)
      ·exact .inr (.inl (Yg.1 h2))
      ·exact .inr (.inr h2)
     ·have h2:=h1.2
      rw [ht,hj'] at h2
      simp only [beqN.2 rfl] at h2
      cases h2
   | succ i=>
     have:=rowOk_at hr.2 i oi hi (by simpa using hl) (by omega)
     rwa [show i0+(i+1)=i0+1+i by omega]
theorem colsOk_at {hs:List Hint} {ops:List Oper} {all:List (Oper×Hint)} : ∀ {l:List (Oper×Hint)} {j0:Nat},colsOk hs ops all j0 l=true → ∀ j oj hj,l[j]? = some (oj,hj)→oneOk hs ops all (j0+j) oj hj=true
 | [],j0,_,j,oj,hj,h=>by simp at h
 | (o,h)::l,j0,hr,j,oj,hj,hl=>by
   simp only [colsOk,Bool.and_eq_true] at hr
   cases j with
   | zero=>
     simp only [List.getElem?_cons_zero,Option.some.injEq,Prod.mk.injEq] at hl
     obtain ⟨rfl,rfl⟩:=hl
     exact hr.1
   | succ j=>
     have:=colsOk_at hr.2 j oj hj (by simpa using hl)
     rwa [show j0+(j+1)=j0+1+j by omega]
theorem hintsOk_ok {ops:List Oper} {hs:List Hint} (h:hintsOk ops hs=true):HOk ops hs:=by
 simp only [hintsOk,Bool.and_eq_true] at h
 obtain ⟨h1,h2⟩:=h
 have hl:hs.length=ops.length:=beqN.1 h1
 have zip : ∀ j o h,ops[j]? = some o→hs[j]? = some h→(ops.zip hs)[j]? = some (o,h):=fun j o h q1 q2=>by
  rw [List.getElem?_zip_eq_some];exact ⟨q1,q2⟩
 have both : ∀ (j:Nat) (o:Oper),ops[j]? = some o → ∃ h,hs[j]? = some h:=fun j o q=>by
  have:j < hs.length:=by rw [hl];exact (List.getElem?_eq_some_iff.1 q).1
  exact ⟨_,List.getElem?_eq_getElem this⟩
 have both' : ∀ (j:Nat) (h:Hint),hs[j]? = some h → ∃ o,ops[j]? = some o:=fun j o q=>by
  have:j < ops.length:=by rw [← hl];exact (List.getElem?_eq_some_iff.1 q).1
  exact ⟨_,List.getElem?_eq_getElem this⟩
 have one : ∀ j o h,ops[j]? = some o→hs[j]? = some h→oneOk hs ops (ops.zip hs) j o h=true:=fun j o h q1 q2=>by
  have:=colsOk_at h2 j o h (zip j o h q1 q2)
  rwa [Nat.zero_add] at this
 refine ⟨hl,fun j o q e he hb => ?_,fun j i hi => ?_,fun i j oi oj hi hj q1 q2 q3 q4 hne => ?_,fun j o h q1 q2 => ?_,fun j h q id hid => ?_⟩
 ·obtain ⟨h,hh⟩:=both j o q
  have:=one j o h q hh
  simp only [oneOk,Bool.and_eq_true] at this
  have h3:=List.all_eq_true.1 this.1.1.1.1 e (Array.mem_toList_iff.2 he)
  rw [show bindsB e=true from hb] at h3
  simpa [Nat.blt_eq] using h3
 ·unfold preOf at hi
  split at hi
  ·rename_i h hh
   obtain ⟨o,q⟩:=both' j h hh
   have:=one j o h q hh
   simp only [oneOk,Bool.and_eq_true] at this
   have h3:=List.all_eq_true.1 this.1.1.1.2 i hi
   simp only [Bool.and_eq_true] at h3
   refine ⟨by simpa [Nat.blt_eq] using h3.1,o,q,?_⟩
   obtain ⟨e,he,hb⟩:=List.any_eq_true.1 h3.2
   simp only [Bool.and_eq_true,Bool.or_eq_true] at hb
   refine ⟨e,Array.mem_toList_iff.1 he,hb.1,?_⟩
   rcases hb.2 with h4 | h4
   ·exact .inl (beqN.1 h4)
   ·exact .inr (Yg.1 h4)
  ·cases hi
 ·have:=one j oj hj q2 q4
  simp only [oneOk,Bool.and_eq_true] at this
  have h3:=rowOk_at this.2 i oi hi (zip i oi hi q1 q3) (by omega)
  rw [Nat.zero_add] at h3
  refine ⟨?_,h3.2⟩
  rcases h3.1 with h4 | h4 | h4
  ·exact .inl h4
  ·exact .inr (.inl h4)
  ·simp only [apartH,Bool.and_eq_true] at h4
   exact .inr (.inr ⟨fun t ht=>by rw [ht] at h4;exact h4.1,fun id hid=>List.all_eq_true.1 h4.2 id (Yg.1 hid)⟩)
 ·have:=one j o h q1 q2
  simp only [oneOk,Bool.and_eq_true] at this
  intro i
  cases hm:memN (kl (o.dst.getD 0) i) h.hideO with
  | false=>rfl
  | true=>
    have hf:=List.all_eq_true.1 this.1.1.2 _ (Yg.1 hm)
    unfold freshNo kl at hf
    simp only [Bool.or_eq_true,Nat.blt_eq,Bool.not_eq_true'] at hf
    rcases hf with hf | hf
    ·omega
    ·exact absurd (by omega) (Jb.1 hf)
 ·obtain ⟨o,q'⟩:=both' j h q
  have:=one j o h q' q
  simp only [oneOk,Bool.and_eq_true] at this
  simpa using List.all_eq_true.1 this.1.2 id (Yg.1 hid)
def VH (ops:List Oper) (S:Nat→Bool):Prop:=∀ j o,ops[j]? = some o→S j=true → ∀ e∈o.after,Region.binds .any e=true→S e.on=true
theorem HOk.pre_in {ops:List Oper} {hs:List Hint} (h:HOk ops hs) {S:Nat→Bool} (hc:VH ops S) : ∀ (j i:Nat),S j=true→i∈preOf hs j→S i=true:=by
 intro j
 induction j using Nat.strongRecOn with
 | _ j ih=>
   intro i hj hi
   obtain ⟨_,o,ho,e,he,hb,h2⟩:=h.pre j i hi
   have h3:=hc j o ho hj e he hb
   rcases h2 with h2 | h2
   ·rw [← h2];exact h3
   ·exact ih e.on (h.back j o ho e he hb) i h3 h2
theorem evSt_const (st st':St) (v:Value):evSt st (.const v)=evSt st' (.const v):=by
 cases v <;> try rfl
 case pointer q=>cases q <;> rfl
 case map q=>cases q <;> rfl
 case slice a l c=>
  cases a
  ·cases l <;> cases c <;> rfl
  ·rfl
theorem partK_nil {ρ:Type} {dst:Option Nat} {d:Dv} {k:Dv→Option ρ}:partK [] dst d k=k d:=by
 unfold partK
 cases dst <;> rfl
theorem YU {hs:List Hint} {j:Nat} {h:Hint} (q:hs[j]? = some h):preOf hs j=h.pre:=by unfold preOf;rw [q]
section
variable {P:Program} {G:Env} {n:Nat} {w0 w w':World} {Z0:Bs} {Z Z':Nat→Prop} {st st0:St} {a:Act} {nm:Names} {ops:List Oper} {hs:List Hint} {trs:List Tr}
structure Text (G:Env) (ops:List Oper) (hs:List Hint) (st0:St) (trs:List Tr) (live:Nat→Bool):Prop where
 hok:HOk ops hs
 len:trs.length=ops.length
 step : ∀ (m:Nat) (o:Oper) (h:Hint) (t:Tr),ops[m]? = some o→hs[m]? = some h→trs[m]? = some t→live m=true→StepT G ops o h (foldS (fun k=>decide (k < m)) 0 trs st0) t
 rest : ∀ (m:Nat) (o:Oper) (t:Tr),ops[m]? = some o→trs[m]? = some t→live m=false→t=idle o
 clean : ∀ (m:Nat) (t:Tr),trs[m]? = some t→cleanI hs st0 trs m t=true
theorem cleanFrom_at {hs:List Hint} {st0:St} {trs:List Tr} : ∀ {l:List Tr} {i:Nat},Vf hs st0 trs i l=true → ∀ m t,l[m]? = some t→cleanI hs st0 trs (i+m) t=true
 | [],i,_,m,t,h=>by simp at h
 | u::l,i,hc,m,t,h=>by
   simp only [Vf,Bool.and_eq_true] at hc
   cases m with
   | zero=>simp only [List.getElem?_cons_zero,Option.some.injEq] at h;subst h;exact hc.1
   | succ m=>
     have:=cleanFrom_at hc.2 m t (by simpa using h)
     rwa [show i+(m+1)=i+1+m by omega]
theorem othersOk_at {hs:List Hint} {i:Nat} {p:Tr→Bool} : ∀ {l:List Tr} {j0:Nat},Vi hs i p j0 l=true → ∀ k t,l[k]? = some t→i≠j0+k→i∉preOf hs (j0+k)→p t=true
 | [],j0,_,k,t,h,_,_=>by simp at h
 | u::l,j0,ho,k,t,h,h1,h2=>by
   simp only [Vi,Bool.and_eq_true] at ho
   cases k with
   | zero=>
     simp only [List.getElem?_cons_zero,Option.some.injEq] at h
     subst h
     have h3:=ho.1
     rw [show Nat.beq i j0=false from Jb.2 h1] at h3
     cases hm:memN i (preOf hs j0) with
     | true=>exact absurd (Yg.1 hm) h2
     | false=>rw [hm] at h3;exact h3
   | succ k=>exact othersOk_at ho.2 k t (by simpa using h) (by omega) (by rwa [show j0+1+k=j0+(k+1) by omega])
def Ul (hs:List Hint):Option Pm→Nat→Bool
 | none,_=>true
 | some q,k => !Nat.beq k q.1 && !memN q.1 (preOf hs k)
theorem Text.of {pm:Option Pm} (hok:HOk ops hs) (h:StepsT G ops 0 none (ops.zip hs) st0 trs pm) (hc:Vf hs st0 trs 0 trs=true):Text G ops hs st0 trs (Ul hs pm):=by
 obtain ⟨h1,h2⟩:=StepsT.at (fun q hq=>by cases hq) h
 have hlen:trs.length=ops.length:=by rw [h1,List.length_zip,hok.len,Nat.min_self]
 refine ⟨hok,hlen,fun m o h t q1 q2 q3 hl => ?_,fun m o t q1 q3 hl => ?_,fun m t q => ?_⟩
 ·have:=h2 m o h t (by rw [List.getElem?_zip_eq_some];exact ⟨q1,q2⟩) q3
  rw [Nat.zero_add] at this
  rcases this with this | ⟨q,g1,g2,g3,_⟩ | ⟨a,u,g1,_⟩
  ·exact this.1
  ·subst g1
   simp only [Ul,YU q2,g3,Bool.not_true,Bool.and_false] at hl
   cases hl
  ·subst g1
   simp only [Ul,beqN.2 rfl,Bool.not_true,Bool.false_and] at hl
   cases hl
 ·have hh : ∃ h,hs[m]? = some h:=⟨_,List.getElem?_eq_getElem (by rw [hok.len];exact (List.getElem?_eq_some_iff.1 q1).1)⟩
  obtain ⟨hi,q2⟩:=hh
  have:=h2 m o hi t (by rw [List.getElem?_zip_eq_some];exact ⟨q1,q2⟩) q3
  rw [Nat.zero_add] at this
  rcases this with this | ⟨q,g1,g2,g3,g4⟩ | ⟨a,u,g1,g4,_⟩
  ·cases pm with
   | none=>cases hl
   | some q=>
     obtain ⟨g1,g2⟩:=this.2 q rfl
     have e1:Nat.beq m q.1=false:=Jb.2 fun hh=>g1 hh.symm
     simp only [Ul,e1,Bool.not_false,Bool.true_and,YU q2] at hl
     by_cases hlt:q.1 < m
     ·rw [g2 hlt] at hl;cases hl
     ·have:memN q.1 hi.pre=true:=by simpa using hl
      have:=(hok.pre m q.1 (by rw [YU q2];exact Yg.1 this)).1
      omega
  ·exact g4
  ·exact g4
 ·have:=cleanFrom_at hc m t q
  rwa [Nat.zero_add] at this
theorem nilCmp_none {o:Oper} {dst:Nat} {ev:Operand→Option Dv} {ob:Objs} {ρ:Type} {k:Eff→Option ρ} {q:Bool×Bool} (h:YH G.tab o ev ob=some q):effK G o dst ev ob k=none:=by
 unfold YH at h
 split at h
 ·rename_i op xt x y yt ho
  split at h
  ·rename_i s e b d htab hd hy
   have hne:d ≠ .one .nilS:=by
    rintro rfl
    cases op <;> cases h
   unfold effK
   rw [ho]
   simp only [hd,hy,htab]
   split
   all_goals first
    | (cases memN xt G.eqs.l <;> rfl)
    | (rename_i h1 h2;cases h1;done)
    | (rename_i h1 h2;cases h2;done)
    | (rename_i h1 h2;cases h1;cases h2;done)
    | (rename_i h1;cases h1;done)
    | (exact absurd rfl hne)
    | (exfalso;simp_all;done)
  ·cases h
 ·cases h
theorem altOf_none {o:Oper} {ev:Operand→Option Dv} {ob:Objs} {ρ:Type} {k:Eff→Option ρ} {q:MAlt×List Dv} (h:altOf G o ev ob=some q):effK G o (o.dst.getD 0) ev ob k=none:=by
 unfold altOf at h
 split at h
 ·rename_i c ho
  split at h
  ·rename_i x hc
   split at h
   ·rename_i f fs cs as h1 h2
    split at h
    ·rename_i ma h3 h4 h5
     unfold effK
     rw [ho]
     simp only [hc,h1,h2,h3]
     unfold UQ
     rw [h4]
    ·cases h
   ·cases h
  ·cases h
 ·cases h
noncomputable def runK {ρ:Type} (G:Env) (gs:List Nat) (o:Oper) (st:St) (k kp:St→Option ρ):Option ρ:=match YH G.tab o (evSt st) (look st.objs) with
 | some (q,emp)=>
   br emp (bif memN (46000000+o.dst.getD 0) G.muts then none else both (partK gs o.dst (vB q) fun d=>layK G.n st o.dst d [] k) (partK gs o.dst (vB !q) fun d=>layK G.n st o.dst d [] k))
    (partK gs o.dst (vB !q) fun d=>layK G.n st o.dst d [] k)
 | none=>match o.op with
   | .panic x=>match evSt st x with
     | some (.one (.val (.ifc T s) y))=>(match thrown st (.val (.ifc T s) y) with
       | some s=>kp s
       | none=>none)
     | _=>none
   | _=>match altOf G o (evSt st) (look st.objs) with
     | some (ma,ds)=>altK G gs o st ma ds k kp
     | none=>effK G o (o.dst.getD 0) (evSt st) (look st.objs) fun e=>
       partK gs o.dst e.dv fun d=>layK G.n st o.dst d e.upd k
theorem stepK_eq {ρ:Type} {ops:List Oper} {gs:List Nat} {o:Oper} {st:St} {k kp:St→Option ρ}:stepK G ops gs o st k kp=(match o.guard with
 | none=>runK G gs o st k kp
 | some (j,want)=>match (ops[j]?).bind (·.dst) with
   | some g=>match look st.slots g with
     | some (.one (.val .bool b))=>br (b == want) (runK G gs o st k kp) (layK G.n st o.dst (.tup []) [] k)
     | some (.tup [])=>layK G.n st o.dst (.tup []) [] k
     | _=>none
   | none=>none):=rfl
theorem runK_eff {ρ:Type} {gs:List Nat} {o:Oper} {st:St} {k kp:St→Option ρ} {r:ρ} (run:(effK G o (o.dst.getD 0) (evSt st) (look st.objs) fun e=>partK gs o.dst e.dv fun d=>layK G.n st o.dst d e.upd k)=some r):runK G gs o st k kp=some r:=by
 have hnil:YH G.tab o (evSt st) (look st.objs)=none:=by
  cases hn:YH G.tab o (evSt st) (look st.objs) with
  | none=>rfl
  | some q=>rw [nilCmp_none hn] at run;cases run
 have halt:altOf G o (evSt st) (look st.objs)=none:=by
  cases hn:altOf G o (evSt st) (look st.objs) with
  | none=>rfl
  | some q=>rw [altOf_none hn] at run;cases run
 have hop : ∀ x,o.op ≠ .panic x:=by
  intro x ho
  unfold effK at run
  rw [ho] at run
  cases run
 unfold runK
 simp only [hnil,halt]
 cases ho2:o.op <;> first | exact absurd ho2 (hop _) | exact run
theorem runK_alt {ρ:Type} {gs:List Nat} {o:Oper} {st:St} {k kp:St→Option ρ} {ma:MAlt} {ds:List Dv} (h:altOf G o (evSt st) (look st.objs)=some (ma,ds)):runK G gs o st k kp=altK G gs o st ma ds k kp:=by
 obtain ⟨c,hc⟩ : ∃ c,o.op = .call c:=by
  unfold altOf at h
  split at h
  ·rename_i c hc;exact ⟨c,hc⟩
  ·cases h
 have hnil:YH G.tab o (evSt st) (look st.objs)=none:=by
  unfold YH
  rw [hc]
 unfold runK
 rw [hnil]
 simp only [hc,h]
theorem Text.agree {live:Nat→Bool} (T:Text G ops hs st0 trs live) {S:Nat→Bool} (hc:VH ops S) {m:Nat} {o:Oper} {h:Hint} (ho:ops[m]? = some o) (hh:hs[m]? = some h) (hm:S m=false)
 (hr : ∀ e∈o.after,Region.binds .any e=true→S e.on=true) {k:Nat} (hk:k∈preOf hs m∨m∈preOf hs k∨k=m):S k=decide (k < m):=by
 rcases hk with hk | hk | hk
 ·obtain ⟨h1,o',ho',e,he,hb,h2⟩:=T.hok.pre m k hk
  rw [ho] at ho';cases ho'
  have h3:=hr e he hb
  have:S k=true:=by
   rcases h2 with h2 | h2
   ·rw [← h2];exact h3
   ·exact T.hok.pre_in hc e.on k h3 h2
  rw [this];simp [h1]
 ·obtain ⟨h1,_⟩:=T.hok.pre k m hk
  have:S k=false:=by
   cases hs':S k with
   | false=>rfl
   | true=>rw [T.hok.pre_in hc k m hs' hk] at hm;cases hm
  rw [this];simp;omega
 ·subst hk;rw [hm];simp
theorem Text.sees {live:Nat→Bool} (T:Text G ops hs st0 trs live) {S:Nat→Bool} (hc:VH ops S) {m:Nat} {o:Oper} {h:Hint} (ho:ops[m]? = some o) (hh:hs[m]? = some h) (hm:S m=false)
 (hr : ∀ e∈o.after,Region.binds .any e=true→S e.on=true) :
 (∀ s,memN s h.hideS=false∨o.dst=some s→look (foldS S 0 trs st0).slots s=look (foldS (fun k=>decide (k < m)) 0 trs st0).slots s) ∧
 (∀ id,memN id h.hideO=false→look (foldS S 0 trs st0).objs id=look (foldS (fun k=>decide (k < m)) 0 trs st0).objs id) ∧
 ExtE (evM (foldS (fun k=>decide (k < m)) 0 trs st0) h.hideS) (evSt (foldS S 0 trs st0)) (obM (foldS (fun k=>decide (k < m)) 0 trs st0) h.hideO) (look (foldS S 0 trs st0).objs) (o.dst.getD 0):=by
 have agree:=fun {k}=>T.agree (k:=k) hc ho hh hm hr
 have wrOf : ∀ (k:Nat) (u:Tr) (hk:Hint) (ok:Oper),trs[k]? = some u→hs[k]? = some hk→ops[k]? = some ok→u.dst=ok.dst ∧ ∀ id ob,(id,ob)∈u.upd→memN id hk.wr=true:=by
  intro k u hk ok q1 q2 q3
  cases hlk:live k with
  | false=>rw [T.rest k ok u q3 q1 hlk];exact ⟨rfl,fun id ob hu=>by cases hu⟩
  | true=>
  obtain ⟨h1,h2⟩:=T.step k ok hk u q3 q2 q1 hlk
  refine ⟨h1,fun id ob hu => ?_⟩
  rcases h2 with ⟨e,hran⟩ | hsk
  ·have:=hran.ok
   rw [← hran.upd] at this
   unfold okUpd at this
   rw [Bool.and_eq_true,List.all_eq_true] at this
   exact this.1 _ hu
  ·rw [hsk.upd] at hu;cases hu
 have get : ∀ (k:Nat) (u:Tr),trs[k]? = some u → ∃ (ok:Oper) (hk:Hint),ops[k]? = some ok∧hs[k]? = some hk:=by
  intro k u q
  have h1:k < ops.length:=by rw [← T.len];exact (List.getElem?_eq_some_iff.1 q).1
  have h2:k < hs.length:=by rw [T.hok.len];exact h1
  exact ⟨_,_,List.getElem?_eq_getElem h1,List.getElem?_eq_getElem h2⟩
 have slot : ∀ s,memN s h.hideS=false∨o.dst=some s→look (foldS S 0 trs st0).slots s=look (foldS (fun k=>decide (k < m)) 0 trs st0).slots s:=by
  intro s hs'
  refine foldS_slot rfl (fun k u q1 q2 => ?_)
  rw [Nat.zero_add]
  obtain ⟨ok,hk,q3,q4⟩:=get k u q1
  by_cases hkm:k=m
  ·exact agree (.inr (.inr hkm))
  ·obtain ⟨a1,a2⟩:=T.hok.apart k m ok o hk h q3 ho q4 hh hkm
   rw [(wrOf k u hk ok q1 q4 q3).1] at q2
   rcases a1 with a1 | a1 | a1
   ·exact agree (.inl (by rw [YU hh];exact a1))
   ·exact agree (.inr (.inl (by rw [YU q4];exact a1)))
   ·rcases hs' with hs' | hs'
    ·rw [a1.1 s q2] at hs';cases hs'
    ·exact absurd hs' (a2 s q2)
 have obj : ∀ id,memN id h.hideO=false→look (foldS S 0 trs st0).objs id=look (foldS (fun k=>decide (k < m)) 0 trs st0).objs id:=by
  intro s hs'
  refine foldS_obj rfl (fun k u ob q1 q2 => ?_)
  rw [Nat.zero_add]
  obtain ⟨ok,hk,q3,q4⟩:=get k u q1
  by_cases hkm:k=m
  ·exact agree (.inr (.inr hkm))
  ·obtain ⟨a1,a2⟩:=T.hok.apart k m ok o hk h q3 ho q4 hh hkm
   rcases a1 with a1 | a1 | a1
   ·exact agree (.inl (by rw [YU hh];exact a1))
   ·exact agree (.inr (.inl (by rw [YU q4];exact a1)))
   ·rw [a1.2 s ((wrOf k u hk ok q1 q4 q3).2 s ob q2)] at hs';cases hs'
 refine ⟨slot,obj,fun {x d} hx => ?_,fun {i b} hb => ?_,?_⟩
 ·cases x with
  | tmp t'=>
    simp only [evM] at hx
    cases hmm:memN t' h.hideS with
    | true=>rw [hmm] at hx;cases hx
    | false=>rw [hmm] at hx;simp only [evSt];rw [slot t' (.inl hmm)];exact hx
  | const v=>rw [evSt_const _ (foldS (fun k=>decide (k < m)) 0 trs st0)];exact hx
  | _=>exact hx
 ·unfold obM at hb
  cases hmm:memN i h.hideO with
  | true=>rw [hmm] at hb;cases hb
  | false=>rw [hmm] at hb;rw [obj i hmm];exact hb
 ·intro i
  have:=T.hok.selfD m o h ho hh i
  unfold obM
  rw [this,obj _ this];rfl
theorem Text.step_at {live:Nat→Bool} (T:Text G ops hs st0 trs live) {S:Nat→Bool} (hc:VH ops S) {m:Nat} {o:Oper} {h:Hint} {t:Tr} (ho:ops[m]? = some o) (hh:hs[m]? = some h) (ht:trs[m]? = some t) (hm:S m=false) (hlive:live m=true)
 (hr : ∀ e∈o.after,Region.binds .any e=true→S e.on=true) :
 stepK G ops [] o (foldS S 0 trs st0) some (fun _=>none)=some (foldS (fun k=>S k || decide (k=m)) 0 trs st0):=by
 obtain ⟨hd,hst⟩:=T.step m o h t ho hh ht hlive
 have wrOf : ∀ (k:Nat) (u:Tr) (hk:Hint) (ok:Oper),trs[k]? = some u→hs[k]? = some hk→ops[k]? = some ok→u.dst=ok.dst ∧ ∀ id ob,(id,ob)∈u.upd→memN id hk.wr=true:=by
  intro k u hk ok q1 q2 q3
  cases hlk:live k with
  | false=>rw [T.rest k ok u q3 q1 hlk];exact ⟨rfl,fun id ob hu=>by cases hu⟩
  | true=>
  obtain ⟨h1,h2⟩:=T.step k ok hk u q3 q2 q1 hlk
  refine ⟨h1,fun id ob hu => ?_⟩
  rcases h2 with ⟨e,hran⟩ | hsk
  ·have:=hran.ok
   rw [← hran.upd] at this
   unfold okUpd at this
   rw [Bool.and_eq_true,List.all_eq_true] at this
   exact this.1 _ hu
  ·rw [hsk.upd] at hu;cases hu
 have get : ∀ (k:Nat) (u:Tr),trs[k]? = some u → ∃ (ok:Oper) (hk:Hint),ops[k]? = some ok∧hs[k]? = some hk:=by
  intro k u q
  have h1:k < ops.length:=by rw [← T.len];exact (List.getElem?_eq_some_iff.1 q).1
  have h2:k < hs.length:=by rw [T.hok.len];exact h1
  exact ⟨_,_,List.getElem?_eq_getElem h1,List.getElem?_eq_getElem h2⟩
 obtain ⟨slot,obj,hext⟩:=T.sees hc ho hh hm hr
 have more:foldS (fun k=>S k || decide (k=m)) 0 trs st0=t.lay (foldS S 0 trs st0):=by
  have:=foldS_more (S:=S) (m:=m) (t:=t) (i:=0) (trs:=trs) (st:=st0) (by rwa [Nat.zero_add]) ht (fun k u q1 hlt hsk=>by
   rw [Nat.zero_add] at hsk
   obtain ⟨ok,hk,q3,q4⟩:=get k u q1
   obtain ⟨a1,a2⟩:=T.hok.apart m k o ok h hk ho q3 hh q4 (by omega)
   refine ⟨fun s h1 h2 => ?_,fun p hp q hq h12 => ?_⟩
   ·rw [hd] at h1
    rw [(wrOf k u hk ok q1 q4 q3).1] at h2
    exact a2 s h1 h2
   ·have w1:=(wrOf m t h o ht hh ho).2 p.1 p.2 hp
    have w2:=(wrOf k u hk ok q1 q4 q3).2 p.1 q.2 (by rw [h12];exact hq)
    have w3:=T.hok.selfW k hk q4 p.1 w2
    rcases a1 with a1 | a1 | a1
    ·rw [T.hok.pre_in hc k m hsk (by rw [YU q4];exact a1)] at hm;cases hm
    ·have:=(T.hok.pre m k (by rw [YU hh];exact a1)).1;omega
    ·rw [a1.2 p.1 w1] at w3;cases w3)
  simpa using this
 rw [more]
 have guard : ∀ c,VX ops h (foldS (fun k=>decide (k < m)) 0 trs st0) o c → ∃ j want g,o.guard=some (j,want)∧(ops[j]?).bind (·.dst)=some g∧((∃ b,look (foldS S 0 trs st0).slots g=some (.one (.val .bool b))∧(b == want)=c)∨(look (foldS S 0 trs st0).slots g=some (.tup [])∧c=false)):=by
  rintro c ⟨j,want,g,g1,g2,g3,g4⟩
  refine ⟨j,want,g,g1,g2,?_⟩
  rw [slot g (.inl g3)]
  exact g4
 rcases hst with ⟨e,hran⟩ | hsk
 ·
  have others : ∀ p:Tr→Bool,Vi hs m p 0 trs=true → ∀ k u,trs[k]? = some u→S (0+k)=true→p u=true:=by
   intro p hp k u q1 q2
   rw [Nat.zero_add] at q2
   refine othersOk_at hp k u q1 ?_ ?_
   ·intro hh';rw [Nat.zero_add] at hh';subst hh';rw [hm] at q2;cases q2
   ·intro hh';rw [Nat.zero_add] at hh';rw [T.hok.pre_in hc k m q2 hh'] at hm;cases hm
  
  have may1 : ∀ (ahead:Upd) id ob,memN id h.wr=true→(∀ p∈ahead,p.1≠id)→UE hs st0 trs m ahead id ob (need1 (foldS (fun k=>decide (k < m)) 0 trs st0) id ob)=true →
   mayOb ⟨(foldS (fun k=>decide (k < m)) 0 trs st0).slots,JM ahead (foldS (fun k=>decide (k < m)) 0 trs st0).objs⟩ id ob=true →
   mayOb ⟨(foldS S 0 trs st0).slots,JM ahead (foldS S 0 trs st0).objs⟩ id ob=true:=by
   intro ahead id ob hw hne hcl h1
   have ho':=obj id (T.hok.selfW m h hh id hw)
   unfold mayOb at h1 ⊢
   simp only [insAll_ne hne] at h1 ⊢
   rw [ho']
   unfold need1 at hcl
   obtain ⟨x,hx⟩ : ∃ x,look (foldS (fun k=>decide (k < m)) 0 trs st0).objs id=x:=⟨_,rfl⟩
   rw [hx] at h1 ⊢
   simp only [hx] at hcl
   clear hx
   cases x with
   | none=>
     simp only [UE] at hcl
     unfold St.free at hcl ⊢
     rw [Bool.and_eq_true,Bool.and_eq_true,Bool.and_eq_true] at hcl
     obtain ⟨⟨⟨c1,c2⟩,c3⟩,c4⟩:=hcl
     have:=Vh (S:=S) (i:=0) (trs:=trs) c1 c2 (fun k u q1 q2=>by
      have h3:=others _ c4 k u q1 q2
      simp only [Tr.noMention,Bool.and_eq_true] at h3
      refine ⟨fun s d hd => ?_,fun q hq => ?_⟩
      ·rw [hd] at h3;exact h3.1
      ·have h5:=List.all_eq_true.1 h3.2 q hq
       exact h5)
     have t2:=YR this.2 (fun q hq=>List.all_eq_true.1 c3 q hq)
     simp only [Bool.and_eq_true] at h1 ⊢
     exact ⟨h1.1,this.1,t2⟩
   | some ob0=>
     cases ob0 with
     | box cs=>exact h1
     | clo f y z=>exact h1
     | gone=>exact h1
     | arr v fz ty s xs=>
       cases ob with
       | box cs=>exact h1
       | clo f y z=>exact h1
       | gone=>exact h1
       | deep=>exact h1
       | arr v' fz' ty' s' xs'=>
         cases hv:Nat.beq v v' with
         | true=>simp only [hv,Bool.true_or]
         | false=>
           simp only [hv,cond_false,Bool.false_or] at hcl h1 ⊢
           simp only [UE] at hcl
           unfold St.noVer at hcl ⊢
           rw [Bool.and_eq_true,Bool.and_eq_true,Bool.and_eq_true] at hcl
           obtain ⟨⟨⟨c1,c2⟩,c3⟩,c4⟩:=hcl
           have:=Vh (S:=S) (i:=0) (trs:=trs) c1 c2 (fun k u q1 q2=>by
            have h3:=others _ c4 k u q1 q2
            simp only [Tr.noVer,Bool.and_eq_true] at h3
            refine ⟨fun s d hd => ?_,fun q hq => ?_⟩
            ·rw [hd] at h3;exact h3.1
            ·exact List.all_eq_true.1 h3.2 q hq)
           have t2:=YR this.2 (fun q hq=>List.all_eq_true.1 c3 q hq)
           rw [Bool.and_eq_true] at h1 ⊢
           exact ⟨h1.1,by rw [Bool.and_eq_true];exact ⟨this.1,t2⟩⟩
     | deep v fz ty te s xs hole=>
       cases ob with
       | box cs=>exact h1
       | clo f y z=>exact h1
       | gone=>exact h1
       | arr=>exact h1
       | deep v' fz' ty' te' s' xs' hole'=>
         cases hv:Nat.beq v v' with
         | true=>
           cases hh:(!hole.isSome && !hole'.isSome) with
           | true=>simp only [hv,hh,Bool.true_or,Bool.true_and]
           | false=>
           simp only [hv,hh,cond_true,cond_false] at hcl
           simp only [UE] at hcl
           have hnd:St.noDin ⟨(foldS S 0 trs st0).slots,JM ahead (foldS S 0 trs st0).objs⟩ id=true:=by
            unfold St.noDin at hcl ⊢
            rw [Bool.and_eq_true,Bool.and_eq_true,Bool.and_eq_true] at hcl
            obtain ⟨⟨⟨c1,c2⟩,c3⟩,c4⟩:=hcl
            have:=Vh (S:=S) (i:=0) (trs:=trs) c1 c2 (fun k u q1 q2=>by
             have h3:=others _ c4 k u q1 q2
             simp only [Tr.noDin,Bool.and_eq_true] at h3
             refine ⟨fun s d hd => ?_,fun q hq => ?_⟩
             ·rw [hd] at h3;exact h3.1
             ·exact List.all_eq_true.1 h3.2 q hq)
            have t2:=YR this.2 (fun q hq=>List.all_eq_true.1 c3 q hq)
            rw [Bool.and_eq_true]
            exact ⟨this.1,t2⟩
           simp only [hv,hnd,Bool.or_true,Bool.and_true,Bool.true_or]
         | false=>
           simp only [hv,cond_false,Bool.false_or,Bool.false_and] at hcl h1 ⊢
           simp only [UE] at hcl
           unfold St.noVer at hcl ⊢
           rw [Bool.and_eq_true,Bool.and_eq_true,Bool.and_eq_true] at hcl
           obtain ⟨⟨⟨c1,c2⟩,c3⟩,c4⟩:=hcl
           have:=Vh (S:=S) (i:=0) (trs:=trs) c1 c2 (fun k u q1 q2=>by
            have h3:=others _ c4 k u q1 q2
            simp only [Tr.noVer,Bool.and_eq_true] at h3
            refine ⟨fun s d hd => ?_,fun q hq => ?_⟩
            ·rw [hd] at h3;exact h3.1
            ·exact List.all_eq_true.1 h3.2 q hq)
           have t2:=YR this.2 (fun q hq=>List.all_eq_true.1 c3 q hq)
           rw [Bool.and_eq_true] at h1 ⊢
           exact ⟨h1.1,by rw [Bool.and_eq_true];exact ⟨this.1,t2⟩⟩
  have mays : ∀ (u ahead:Upd),(u.all fun p=>memN p.1 h.wr)=true→kj u=true→(∀ p∈ahead,∀ q∈u,p.1≠q.1) →
   cleanU hs st0 trs m ahead u (VO (foldS (fun k=>decide (k < m)) 0 trs st0) u)=true →
   (Jh ⟨(foldS (fun k=>decide (k < m)) 0 trs st0).slots,JM ahead (foldS (fun k=>decide (k < m)) 0 trs st0).objs⟩ u).isSome=true →
   (Jh ⟨(foldS S 0 trs st0).slots,JM ahead (foldS S 0 trs st0).objs⟩ u).isSome=true:=by
   intro u
   induction u with
   | nil=>intro _ _ _ _ _ _;rfl
   | cons p r ih=>
     obtain ⟨id,ob⟩:=p
     intro ahead a1 a2 a3 a4 a5
     rw [List.all_cons,Bool.and_eq_true] at a1
     simp only [kj,Bool.and_eq_true,List.all_eq_true] at a2
     simp only [VO,cleanU,Bool.and_eq_true] at a4
     simp only [Jh] at a5 ⊢
     cases hmo:mayOb ⟨(foldS (fun k=>decide (k < m)) 0 trs st0).slots,JM ahead (foldS (fun k=>decide (k < m)) 0 trs st0).objs⟩ id ob with
     | false=>rw [hmo] at a5;cases a5
     | true=>
       rw [hmo] at a5
       rw [may1 ahead id ob a1.1 (fun p hp=>a3 p hp (id,ob) (by simp)) a4.1 hmo]
       have e : ∀ l,ins id ob (JM ahead l)=JM (ahead++[(id,ob)]) l:=by
        intro l
        clear ih a1 a2 a3 a4 a5 hmo
        induction ahead generalizing l with
        | nil=>rfl
        | cons p r ih=>exact ih _
       simp only [cond_true,e] at a5 ⊢
       refine ih (ahead++[(id,ob)]) a1.2 a2.2 ?_ a4.2 a5
       intro p hp q hq
       rcases List.mem_append.1 hp with hp | hp
       ·exact a3 p hp q (List.mem_cons_of_mem _ hq)
       ·have:p=(id,ob):=by simpa using hp
        subst this
        have h9:=a2.1 q hq
        intro h10
        rw [← h10,beqN.2 rfl] at h9
        cases h9
  have may:(Jh (foldS S 0 trs st0) e.upd).isSome=true:=by
   have hok:=hran.ok
   unfold okUpd at hok
   rw [Bool.and_eq_true] at hok
   have hcl:=T.clean m t ht
   unfold cleanI at hcl
   rw [hran.upd,hran.need] at hcl
   exact mays e.upd [] hok.1 hok.2 (fun p hp=>by cases hp) hcl hran.may
  have hl:=lay_of (n:=G.n) (st:=foldS S 0 trs st0) (t:=t) hran.dv hran.upd may (fun s hs'=>hran.dst s (by rw [← hd];exact hs'))
  have hl':lay G.n (foldS S 0 trs st0) o.dst e.dv e.upd=some (t.lay (foldS S 0 trs st0)):=by rw [← hd];exact hl
  have run:runK G [] o (foldS S 0 trs st0) some (fun _=>none)=some (t.lay (foldS S 0 trs st0)):=by
   rcases hran.eff with heff | ⟨ma,ds,x,u,σ,y,d,v,hF,hy,rfl⟩
   ·refine runK_eff ?_
    rw [heff hext,partK_nil]
    unfold layK
    rw [hl']
   ·obtain ⟨q1,q2,q3⟩:=hF hext
    rw [runK_alt q1]
    unfold altK
    simp only [q2,hy,bnd,sel,q3,partK_nil]
    unfold layK
    rw [hl']
  rw [stepK_eq]
  rcases hran.guard with hg | hg
  ·rw [hg]
   exact run
  ·obtain ⟨j,want,g,g1,g2,g3⟩:=guard true hg
   rcases g3 with ⟨b,g3,g4⟩ | ⟨_,g4⟩
   ·rw [g1]
    simp only [g2,g3,g4,br]
    exact run
   ·cases g4
 ·obtain ⟨j,want,g,g1,g2,g3⟩:=guard false hsk.guard
  have hl:=lay_of (n:=G.n) (st:=foldS S 0 trs st0) (t:=t) hsk.dv hsk.upd rfl (fun s hs'=>hsk.dst s (by rw [← hd];exact hs'))
  have hl':layK G.n (foldS S 0 trs st0) o.dst (.tup []) [] some=some (t.lay (foldS S 0 trs st0)):=by
   unfold layK
   rw [← hd,hl]
  unfold stepK
  rcases g3 with ⟨b,g3,g4⟩ | ⟨g3,_⟩
  ·simp only [g1,g2,g3,g4,br]
   exact hl'
  ·simp only [g1,g2,g3]
   exact hl'
def left (listed:Array Bool):Nat:=listed.toList.count false
theorem left_set {listed:Array Bool} {i:Nat} (hi:listed.getD i true=false):left (listed.setIfInBounds i true)+1=left listed:=by
 have hlt:i < listed.size:=by
  rcases Nat.lt_or_ge i listed.size with h | h
  ·exact h
  ·simp [Array.getElem?_eq_none h] at hi
 have hv:listed.toList[i]'(by simpa using hlt)=false:=by simpa [hlt] using hi
 unfold left
 rw [Array.toList_setIfInBounds,List.count_set (by simpa using hlt)]
 rw [hv]
 have:0 < listed.toList.count false:=List.count_pos_iff.2 (hv ▸ List.getElem_mem _)
 have e1:(if (false == false)=true then 1 else 0)=1:=rfl
 have e2:(if (true == false)=true then 1 else 0)=0:=rfl
 rw [e1,e2]
 omega
theorem left_zero {listed:Array Bool} (h:left listed=0) {i:Nat} (hi:i < listed.size):listed.getD i false=true:=by
 have h1:=List.count_eq_zero.1 h
 have:listed[i]∈listed.toList:=by simp
 cases hb:listed[i] with
 | true=>simp [hi,hb]
 | false=>rw [hb] at this;exact absurd this h1
variable {ops':Array Oper} {Q:Exit→Act→World→Prop}
theorem ready_closed {listed:Array Bool} (hc:VH ops'.toList fun i=>listed.getD i false) {i:Nat} (hi:i∈Region.ready .any ops' listed):VH ops'.toList fun k=>(listed.setIfInBounds i true).getD k false:=by
 obtain ⟨h1,o,ho,h2⟩:=mem_ready.1 hi
 intro j oj hj hl e he hb
 by_cases hji:j=i
 ·subst hji
  have:oj=o:=by
   rw [Array.getElem?_toList] at hj
   exact Option.some.inj (hj.symm.trans ho)
  subst this
  exact getD_set_true (h2 e he hb)
 ·have:listed.getD j false=true:=by simpa only [getD_set_ne false (Ne.symm hji)] using hl
  exact getD_set_true (hc j oj hj this e he hb)
theorem all_of_ready {listed:Array Bool} (hok:HOk ops'.toList hs) (hsz:listed.size=ops'.size) (hr:Region.ready .any ops' listed=[]) : ∀ i,i < ops'.size→listed.getD i false=true:=by
 intro i
 induction i using Nat.strongRecOn with
 | _ i ih=>
   intro hi
   cases hl:listed.getD i false with
   | true=>rfl
   | false=>
     have:i∈Region.ready .any ops' listed:=by
      refine mem_ready.2 ⟨?_,ops'[i],Array.getElem?_eq_getElem hi,fun e he hb => ?_⟩
      ·have h1:i < listed.size:=by omega
       simp [h1] at hl ⊢
       exact hl
      ·have h1:=hok.back i ops'[i] (by rw [Array.getElem?_toList];exact Array.getElem?_eq_getElem hi) e he hb
       exact ih e.on h1 (by omega)
     rw [hr] at this
     cases this
theorem wrOps_mem {l:List Oper} {i:Nat} {o:Oper} (h:l[i]? = some o) {t:Nat} (ht:memN t (wrOps l)=false):memN t o.dst.toList=false:=by
 cases hd:o.dst with
 | none=>rfl
 | some s=>
   cases hb:memN t [s] with
   | false=>exact hb
   | true=>
     have:memN t (wrOps l)=true:=by
      rw [Yg] at hb ⊢
      have e:t=s:=by simpa using hb
      subst e
      exact List.mem_filterMap.2 ⟨o,List.mem_of_getElem? h,hd⟩
     rw [this] at ht;cases ht
theorem drawn_any (hT:TabOk P G.tab) (hF:AllOk P G) (rd:Option Nat) (m:Nat) (T:Text G ops'.toList hs st0 trs (Ul hs none))
 {a0:Act} (hq : ∀ a' w' nm',Rel G.n w0 Z0 (foldS (fun _=>true) 0 trs st0) a' w' nm'→KeepT (wrOps ops'.toList) a0 a'→Q .normal a' w') : ∀ (fuel:Nat) (listed:Array Bool) (a:Act) (w:World) (nm:Names),
 listed.size=ops'.size→left listed=fuel→VH ops'.toList (fun i=>listed.getD i false)→Rel G.n w0 Z0 (foldS (fun i=>listed.getD i false) 0 trs st0) a w nm→KeepT (wrOps ops'.toList) a0 a →
 wpAnyIn (Fr rd) m P .any ops' Q fuel listed a w:=by
 have fin : ∀ (listed:Array Bool) (a:Act) (w:World) (nm:Names),(∀ i,i < ops'.size→listed.getD i false=true)→Rel G.n w0 Z0 (foldS (fun i=>listed.getD i false) 0 trs st0) a w nm→KeepT (wrOps ops'.toList) a0 a→Q .normal a w:=by
  intro listed a w nm h1 h2 h3
  refine hq a w nm ?_ h3
  rwa [Vs (S':=fun _=>true) (fun k hk=>by
   rw [Nat.zero_add]
   exact h1 k (by rw [T.len] at hk;simpa using hk))] at h2
 intro fuel
 induction fuel with
 | zero=>
   intro listed a w nm hsz hf hc hrel hkt
   have hall : ∀ i,i < ops'.size→listed.getD i false=true:=fun i hi=>left_zero hf (by omega)
   refine ⟨?_,fin listed a w nm hall hrel hkt⟩
   cases hr:Region.ready .any ops' listed with
   | nil=>rfl
   | cons i l=>
     have hi:i∈Region.ready .any ops' listed:=by rw [hr];simp
     obtain ⟨h1,o,ho,_⟩:=mem_ready.1 hi
     have hlt:i < ops'.size:=(Array.getElem?_eq_some_iff.1 ho).1
     have h2:=hall i hlt
     have h3:i < listed.size:=by omega
     simp [h3] at h1 h2
     rw [h1] at h2;cases h2
 | succ fuel ih=>
   intro listed a w nm hsz hf hc hrel hkt
   refine ⟨fun hr=>fin listed a w nm (all_of_ready T.hok hsz hr) hrel hkt,fun i hi => ?_⟩
   obtain ⟨h1,o,ho,h2⟩:=mem_ready.1 hi
   have hlt:i < ops'.size:=(Array.getElem?_eq_some_iff.1 ho).1
   have ho':ops'.toList[i]? = some o:=by rw [Array.getElem?_toList];exact ho
   have hh : ∃ h,hs[i]? = some h:=⟨_,List.getElem?_eq_getElem (by rw [T.hok.len];simpa using hlt)⟩
   have ht : ∃ t,trs[i]? = some t:=⟨_,List.getElem?_eq_getElem (by rw [T.len];simpa using hlt)⟩
   obtain ⟨h,hh⟩:=hh
   obtain ⟨t,ht⟩:=ht
   have hm:listed.getD i false=false:=by
    have h3:i < listed.size:=by omega
    simp [h3] at h1 ⊢
    exact h1
   have hstep:=T.step_at (S:=fun i=>listed.getD i false) hc ho' hh ht hm rfl h2
   have:=stepK_sound (P:=P) (Q:=Q) (K:=wpAnyIn (Fr rd) m P .any ops' Q fuel (listed.setIfInBounds i true)) (gs:=[]) hT hF hrel hstep (fun st' a' w' nm' h' hk' hput=>by
    simp only [Option.some.injEq] at hk'
    subst hk'
    refine ih _ a' w' nm' (by simpa using hsz) ?_ (ready_closed hc hi) ?_ (hkt.trans fun t ht=>hput t (wrOps_mem ho' ht))
    ·have:=left_set h1
     omega
    ·rwa [Vs (S':=fun k=>listed.getD k false || decide (k=i)) (fun k hk=>by
      rw [Nat.zero_add]
      by_cases hki:k=i
      ·subst hki
       have h3:k < listed.size:=by omega
       simp [h3]
      ·rw [getD_set_ne false (Ne.symm hki)];simp [hki])]) (fun _ _ _ _ _ _ _ hk'=>by cases hk') rd m
   unfold wpOpIn
   rw [ho]
   exact this
theorem Rel.sub (h:Rel n w0 Z0 st a w nm) {st2:St} (hs : ∀ t d,look st2.slots t=some d→look st.slots t=some d) (ho : ∀ id ob,look st2.objs id=some ob→look st.objs id=some ob):Rel n w0 Z0 st2 a w nm:=by
 have hz:Kept w w (Zc w0 Z0 nm st.objs w) (Zc w0 Z0 nm st2.objs w):=fun b hb=>⟨UB (fun id ob h1 h2=>⟨ob,ho _ _ h1,h2⟩) hb,rfl⟩
 have hat : ∀ x,AtOk nm nm st.objs st2.objs x:=fun x id _=>⟨fun ver fz e t xs h1 _=>⟨rfl,fz,xs,ho _ _ h1,rfl⟩,fun cs h1=>⟨rfl,cs,ho _ _ h1⟩,fun f y z h1=>⟨rfl,f,y,z,ho _ _ h1⟩,fun ver fz e te t xs hh h1 _=>⟨rfl,fz,xs,hh,ho _ _ h1,rfl,fun _ e=>⟨e,rfl⟩⟩⟩
 refine ⟨h.defk hz,h.size,fun t d ht => ?_,fun id ob h1 => ?_,fun id ob b h1 hb=>h.new id ob b (ho _ _ h1) hb,fun id id' ob ob' b h1 h2=>h.inj id id' ob ob' b (ho _ _ h1) (ho _ _ h2),h.same,fun id ob hg h1=>h.given id ob hg (ho _ _ h1),h.glob,h.calm⟩
 ·obtain ⟨v,h1,h2⟩:=h.slots t d (hs _ _ ht)
  refine ⟨v,h1,JU hz.weak ?_ h2⟩
  cases d <;> simp only [DvOk] <;> first | exact hat _ | exact fun x _=>hat x
 ·refine kL hz.weak rfl (fun _ _=>rfl) ?_ (h.objs id ob (ho _ _ h1))
  cases ob <;> simp only [ObOk] <;> first | trivial | exact fun x _=>hat x | exact ⟨fun x _=>hat x,fun x _=>hat x⟩ | (split <;> first | trivial | exact hat _)
theorem layObs_same {st0:St} : ∀ {u:Upd} {st:St},(∀ p∈u,look st.objs p.1=look st0.objs p.1)→kj u=true→(∀ p∈u,sameOb (look st0.objs p.1) p.2=true)→Jh st u=some ⟨st.slots,JM u st.objs⟩
 | [],st,_,_,_=>rfl
 | (id,ob)::r,st,h1,h2,h3=>by
   simp only [kj,Bool.and_eq_true,List.all_eq_true] at h2
   have hm:mayOb st id ob=true:=by
    have q1:=h1 (id,ob) (by simp)
    have q2:=h3 (id,ob) (by simp)
    simp only at q1 q2
    unfold mayOb
    rw [q1]
    unfold sameOb at q2
    split at q2
    ·rename_i e;rw [e]
    ·rename_i e;rw [e];simp only [q2,Bool.true_or]
    ·rename_i e;rw [e]
    ·rename_i e;rw [e]
    ·rename_i e;rw [e];rw [Bool.and_eq_true] at q2;simp only [q2.1,q2.2,Bool.true_or,Bool.true_and]
    ·rename_i e;rw [e]
    ·cases q2
   simp only [Jh,hm,cond_true]
   refine layObs_same (fun p hp => ?_) h2.2 fun p hp=>h3 p (List.mem_cons_of_mem _ hp)
   have:=h2.1 p hp
   rw [Jl,if_neg]
   ·exact h1 p (List.mem_cons_of_mem _ hp)
   ·intro hh
    rw [hh,beqN.2 rfl] at this
    cases this
theorem look_gone {α:Type} {id:Nat} : ∀ {l:List (Nat×α)},(l.all fun p => !Nat.beq p.1 id)=true→look l id=none
 | [],_=>rfl
 | (s,u)::l,h=>by
   rw [List.all_cons,Bool.and_eq_true] at h
   simp only [look]
   have h1:Nat.beq s id=false:=by simpa using h.1
   rw [h1]
   exact look_gone h.2
theorem othersNew_at {pre:List Nat} {objs:List (Nat×Ob)} : ∀ {l:List Tr} {i:Nat},othersNew pre objs i l=true → ∀ k t,l[k]? = some t→i+k∉pre → ∀ p∈t.upd,look objs p.1=none
 | [],i,_,k,t,h,_=>by simp at h
 | u::l,i,ho,k,t,h,hn=>by
   simp only [othersNew,Bool.and_eq_true] at ho
   cases k with
   | zero=>
     simp only [List.getElem?_cons_zero,Option.some.injEq] at h
     subst h
     have h1:=ho.1
     have hn:memN i pre=false:=by
      cases hb:memN i pre with
      | false=>rfl
      | true=>exact absurd (Yg.1 hb) hn
     rw [hn,Bool.false_or] at h1
     exact fun p hp=>by simpa using List.all_eq_true.1 h1 p hp
   | succ k=>exact othersNew_at ho.2 k t (by simpa using h) (by rwa [show i+1+k=i+(k+1) by omega])
def kept1 (ks:List Nat) (tr:List Tr) (s:Nat):Bool:=memN s ks && tr.all fun t=>match t.dst with | some s' => !Nat.beq s' s | none=>true
theorem keepSlots_cons {ks:List Nat} {tr:List Tr} {p:Nat×Dv} {r:List (Nat×Dv)}:Yz ks tr (p::r)=bif kept1 ks tr p.1 then p::Yz ks tr r else Yz ks tr r:=rfl
theorem keepSlots_none {ks:List Nat} {tr:List Tr} {s:Nat} (h:kept1 ks tr s=false) : ∀ l:List (Nat×Dv),look (Yz ks tr l) s=none
 | []=>rfl
 | q::l=>by
   rw [keepSlots_cons]
   cases hq:kept1 ks tr q.1 with
   | false=>rw [cond_false];exact keepSlots_none h l
   | true=>
     rw [cond_true,look]
     cases hb:Nat.beq q.1 s with
     | false=>exact keepSlots_none h l
     | true=>rw [beqN.1 hb,h] at hq;cases hq
theorem keepSlots_look {ks:List Nat} {tr:List Tr} {s:Nat} {d:Dv} : ∀ {l:List (Nat×Dv)},look (Yz ks tr l) s=some d→look l s=some d ∧ ∀ t∈tr,t.dst≠some s
 | [],h=>by simp [Yz,look] at h
 | p::r,h=>by
   cases hk:kept1 ks tr s with
   | false=>rw [keepSlots_none hk] at h;cases h
   | true=>
     refine ⟨?_,fun t ht he => ?_⟩
     ·rw [keepSlots_cons] at h
      rw [look]
      cases hb:Nat.beq p.1 s with
      | true=>
        rw [beqN.1 hb,hk,cond_true,look,hb,cond_true] at h
        rw [cond_true];exact h
      | false=>
        rw [cond_false]
        cases hc:kept1 ks tr p.1 with
        | true=>rw [hc,cond_true,look,hb,cond_false] at h;exact (keepSlots_look h).1
        | false=>rw [hc,cond_false] at h;exact (keepSlots_look h).1
     ·unfold kept1 at hk
      rw [Bool.and_eq_true] at hk
      have:=List.all_eq_true.1 hk.2 t ht
      rw [he] at this
      have h2:Nat.beq s s=true:=beqN.2 rfl
      simp [h2] at this
theorem panSt_of {ks:List Nat} {S:Nat→Bool} {m:Nat} {x:At} {u:Upd} (hpre : ∀ k∈preOf hs m,S k=true) (hok:panOk hs m st0 trs x u=true) :
 Jh (foldS S 0 trs st0) u=some ⟨(foldS S 0 trs st0).slots,JM u (foldS S 0 trs st0).objs⟩ ∧
 thrown ⟨(foldS S 0 trs st0).slots,JM u (foldS S 0 trs st0).objs⟩ x=some ⟨(foldS S 0 trs st0).slots,ins payId (.clo 0 [] [x]) (JM u (foldS S 0 trs st0).objs)⟩ ∧
 (∀ id ob,look (panSt ks hs m trs st0 x u).objs id=some ob→look (ins payId (.clo 0 [] [x]) (JM u (foldS S 0 trs st0).objs)) id=some ob) ∧
 ∀ t d,look (panSt ks hs m trs st0 x u).slots t=some d→look (foldS S 0 trs st0).slots t=some d:=by
 unfold panOk at hok
 simp only [Bool.and_eq_true] at hok
 obtain ⟨⟨⟨⟨⟨q1,q2⟩,q6⟩,q3⟩,q4⟩,q5⟩:=hok
 have q4' : ∀ p∈u,sameOb (look (preSt hs m trs st0).objs p.1) p.2=true∧Nat.beq p.1 payId=false∧p.2.mentions payId=false:=fun p hp=>by
  have:=List.all_eq_true.1 q4 p hp
  simp only [Bool.and_eq_true,Bool.not_eq_true'] at this
  exact ⟨this.1.1,this.1.2,this.2⟩
 have old : ∀ {id ob},look (preSt hs m trs st0).objs id=some ob→look (foldS S 0 trs st0).objs id=look (preSt hs m trs st0).objs id:=fun {id ob} he=>by
  unfold preSt
  refine foldS_obj rfl fun k t ob' h1 h2 => ?_
  rw [Nat.zero_add]
  by_cases hk:k∈preOf hs m
  ·rw [hpre k hk,Yg.2 hk]
  ·have:=othersNew_at q6 k t h1 (by rwa [Nat.zero_add]) _ h2
   simp only at this
   rw [he] at this
   cases this
 have hu : ∀ p∈u,∃ ob,look (preSt hs m trs st0).objs p.1=some ob:=fun p hp=>by
  cases he:look (preSt hs m trs st0).objs p.1 with
  | some ob=>exact ⟨ob,rfl⟩
  | none=>
    have:=(q4' p hp).1
    rw [he] at this
    cases this
 refine ⟨layObs_same (st0:=preSt hs m trs st0) (fun p hp => ?_) q3 fun p hp=>(q4' p hp).1,?_,fun id ob hl => ?_,fun t d hl => ?_⟩
 ·obtain ⟨ob,he⟩:=hu p hp
  exact old he
 ·unfold St.free at q1
  rw [Bool.and_eq_true] at q1
  obtain ⟨f1,f2⟩:=Vh (S:=S) (i:=0) (trs:=trs) q1.1 q1.2 (fun k t h1 h2=>by
   have h3:=List.all_eq_true.1 q2 t (List.mem_of_getElem? h1)
   simp only [Tr.noMention,Bool.and_eq_true] at h3
   refine ⟨fun s d hd => ?_,fun q hq => ?_⟩
   ·rw [hd] at h3;exact h3.1
   ·exact List.all_eq_true.1 h3.2 q hq)
  have f3:=YR f2 (u:=u) (fun p hp=>by
   obtain ⟨_,g1,g2⟩:=q4' p hp
   simp only [g1,g2,Bool.not_false,Bool.and_self])
  have hno:look (JM u (foldS S 0 trs st0).objs) payId=none:=look_gone (List.all_eq_true.2 fun p hp=>by
   have:=List.all_eq_true.1 f3 p hp
   rw [Bool.and_eq_true] at this
   exact this.1)
  unfold Go.Ql.thrown mayOb St.free
  simp only [hno]
  rw [f1,f3]
  have e1:Nat.blt payId gBox=true:=rfl
  rw [e1]
  simp only [Bool.and_self,Bool.true_and]
  rw [q5]
  rfl
 ·unfold panSt at hl
  simp only [Jl] at hl ⊢
  by_cases hp:payId=id
  ·rw [if_pos hp] at hl ⊢;exact hl
  ·rw [if_neg hp] at hl ⊢
   cases he:look (preSt hs m trs st0).objs id with
   | none=>
     rw [insAll_ne (fun p hp hh=>by
      obtain ⟨ob',h1⟩:=hu p hp
      rw [hh,he] at h1
      cases h1),he] at hl
     cases hl
   | some ob'=>
     rw [insAll_look (l':=(preSt hs m trs st0).objs) (old he)]
     exact hl
 ·obtain ⟨g1,g2⟩:=keepSlots_look hl
  rw [foldS_slot (S':=fun _=>false) (st':=st0) rfl (fun k t' h1 h2=>absurd h2 (g2 t' (List.mem_of_getElem? h1))),foldS_none (fun _ _=>rfl)]
  exact g1
theorem drawn_pan (hT:TabOk P G.tab) (hF:AllOk P G) (rd:Option Nat) (m:Nat) {q:Pm} (T:Text G ops'.toList hs st0 trs (Ul hs (some q)))
 {oq:Oper} {hq:Hint} (g1:ops'.toList[q.1]? = some oq) (g2:hs[q.1]? = some hq) (g3:PanT G ops'.toList oq hq (foldS (fun k=>decide (k < q.1)) 0 trs st0) q.2.1 q.2.2) (hok:panOk hs q.1 st0 trs q.2.1 q.2.2=true)
 {ks:List Nat} (hQ : ∀ a' w' nm' v,Rel G.n w0 Z0 (panSt ks hs q.1 trs st0 q.2.1 q.2.2) a' w' nm'→nm' payId = .func (.func 0) #[] #[v]→Q (.panic [{ v,recovered:=false }]) a' w') : ∀ (fuel:Nat) (listed:Array Bool) (a:Act) (w:World) (nm:Names),
 listed.size=ops'.size→left listed=fuel→VH ops'.toList (fun i=>listed.getD i false)→listed.getD q.1 false=false→Rel G.n w0 Z0 (foldS (fun i=>listed.getD i false) 0 trs st0) a w nm →
 wpAnyIn (Fr rd) m P .any ops' Q fuel listed a w:=by
 have hqlt:q.1 < ops'.size:=by
  have:=(List.getElem?_eq_some_iff.1 g1).1
  simpa using this
 intro fuel
 induction fuel with
 | zero=>
   intro listed a w nm hsz hf hc hno hrel
   have:=left_zero hf (i:=q.1) (by omega)
   rw [hno] at this
   cases this
 | succ fuel ih=>
   intro listed a w nm hsz hf hc hno hrel
   refine ⟨fun hr => ?_,fun i hi => ?_⟩
   ·have:=all_of_ready T.hok hsz hr q.1 hqlt
    rw [hno] at this
    cases this
   obtain ⟨h1,o,ho,h2⟩:=mem_ready.1 hi
   have hlt:i < ops'.size:=(Array.getElem?_eq_some_iff.1 ho).1
   have ho':ops'.toList[i]? = some o:=by rw [Array.getElem?_toList];exact ho
   have hh : ∃ h,hs[i]? = some h:=⟨_,List.getElem?_eq_getElem (by rw [T.hok.len];simpa using hlt)⟩
   have ht : ∃ t,trs[i]? = some t:=⟨_,List.getElem?_eq_getElem (by rw [T.len];simpa using hlt)⟩
   obtain ⟨h,hh⟩:=hh
   obtain ⟨t,ht⟩:=ht
   have hm:listed.getD i false=false:=by
    have h3:i < listed.size:=by omega
    simp [h3] at h1 ⊢
    exact h1
   by_cases hiq:i=q.1
   ·subst hiq
    rw [g1] at ho';cases ho'
    rw [g2] at hh;cases hh
    obtain ⟨slot,obj,hext⟩:=T.sees (S:=fun i=>listed.getD i false) hc g1 g2 hm h2
    have hpre : ∀ k∈preOf hs q.1,(fun i=>listed.getD i false) k=true:=fun k hk=>by
     obtain ⟨_,o2,p1,e,p2,p3,p4⟩:=T.hok.pre q.1 k hk
     rw [g1] at p1;cases p1
     have p5:=h2 e p2 p3
     rcases p4 with p4 | p4
     ·rw [← p4];exact p5
     ·exact T.hok.pre_in hc e.on k p5 p4
    obtain ⟨l1,l2,l3,l4⟩:=panSt_of (ks:=ks) (S:=fun i=>listed.getD i false) hpre hok
    obtain ⟨hg,ma,ds,x,u,σ,y,v,hF2,hy,hpn,hu⟩:=g3
    obtain ⟨k1,k2,k3⟩:=hF2 hext
    have run:runK G [] oq (foldS (fun i=>listed.getD i false) 0 trs st0) (fun _=>none) some=some ⟨(foldS (fun i=>listed.getD i false) 0 trs st0).slots,ins payId (.clo 0 [] [q.2.1]) (JM q.2.2 (foldS (fun i=>listed.getD i false) 0 trs st0).objs)⟩:=by
     rw [runK_alt k1]
     unfold altK
     simp only [k2,hy,bnd,sel,k3,hpn,cond_true]
     rw [← hu,l1]
     simp only [l2]
    have hstep:stepK G ops'.toList [] oq (foldS (fun i=>listed.getD i false) 0 trs st0) (fun _=>none) some=some ⟨(foldS (fun i=>listed.getD i false) 0 trs st0).slots,ins payId (.clo 0 [] [q.2.1]) (JM q.2.2 (foldS (fun i=>listed.getD i false) 0 trs st0).objs)⟩:=by
     rw [stepK_eq]
     rcases hg with hg | ⟨j,want,g,e1,e2,e3,e4⟩
     ·rw [hg]
      exact run
     ·rw [e1]
      rcases e4 with ⟨b,e4,e5⟩ | ⟨_,e5⟩
      ·rw [← slot g (.inl e3)] at e4
       simp only [e2,e4,e5,br]
       exact run
      ·cases e5
    have:=stepK_sound (P:=P) (Q:=Q) (K:=wpAnyIn (Fr rd) m P .any ops' Q fuel (listed.setIfInBounds q.1 true)) (gs:=[]) hT hF hrel hstep (fun _ _ _ _ _ hk'=>by cases hk') (fun st' a' w' nm' v' h' hv hk'=>by
     simp only [Option.some.injEq] at hk'
     subst hk'
     exact hQ a' w' nm' v' (h'.sub l4 l3) hv) rd m
    unfold wpOpIn
    rw [ho]
    exact this
   ·have hlive:Ul hs (some q) i=true:=by
     have e1:Nat.beq i q.1=false:=Jb.2 hiq
     simp only [Ul,e1,Bool.not_false,Bool.true_and,Bool.not_eq_true']
     cases hb:memN q.1 (preOf hs i) with
     | false=>rfl
     | true=>
       obtain ⟨_,o2,p1,e,p2,p3,p4⟩:=T.hok.pre i q.1 (Yg.1 hb)
       rw [ho'] at p1;cases p1
       have p5:=h2 e p2 p3
       rcases p4 with p4 | p4
       ·rw [p4,hno] at p5;cases p5
       ·rw [T.hok.pre_in hc e.on q.1 p5 p4] at hno;cases hno
    have hstep:=T.step_at (S:=fun i=>listed.getD i false) hc ho' hh ht hm hlive h2
    have:=stepK_sound (P:=P) (Q:=Q) (K:=wpAnyIn (Fr rd) m P .any ops' Q fuel (listed.setIfInBounds i true)) (gs:=[]) hT hF hrel hstep (fun st' a' w' nm' h' hk' _=>by
     simp only [Option.some.injEq] at hk'
     subst hk'
     refine ih _ a' w' nm' (by simpa using hsz) ?_ (ready_closed hc hi) ?_ ?_
     ·have:=left_set h1
      omega
     ·rw [getD_set_ne false hiq];exact hno
     ·rwa [Vs (S':=fun k=>listed.getD k false || decide (k=i)) (fun k hk=>by
       rw [Nat.zero_add]
       by_cases hki:k=i
       ·subst hki
        have h3:k < listed.size:=by omega
        simp [h3]
       ·rw [getD_set_ne false (Ne.symm hki)];simp [hki])]) (fun _ _ _ _ _ _ _ hk'=>by cases hk') rd m
    unfold wpOpIn
    rw [ho]
    exact this
theorem Same.drawn' (w:World) (n:Nat):Same w { w with drawn:=n }:=⟨rfl,rfl,rfl,Nat.le_refl _,fun _ _=>rfl⟩
theorem rep_false (m j:Nat):(Array.replicate m false).getD j false=false:=by
 rcases Nat.lt_or_ge j m with h | h
 ·simp [h]
 ·simp [h]
theorem StepsT.pan {q:Pm} {ops:List Oper} (h:StepsT G ops 0 none (ops.zip hs) st0 trs (some q)) (hok:HOk ops hs) :
 ∃ o hi,ops[q.1]? = some o∧hs[q.1]? = some hi∧PanT G ops o hi (foldS (fun k=>decide (k < q.1)) 0 trs st0) q.2.1 q.2.2:=by
 obtain ⟨h1,h2⟩:=StepsT.at (fun q hq=>by cases hq) h
 have hlt:q.1 < trs.length:=by
  have gen : ∀ {l:List (Oper×Hint)} {i:Nat} {st:St} {trs:List Tr},StepsT G ops i none l st trs (some q)→q.1 < i+trs.length:=by
   intro l
   induction l with
   | nil=>intro i st trs h;cases h.2
   | cons p l ih=>
     intro i st trs h
     obtain ⟨t,r,rfl,h | h | ⟨_,_,a,u,_,h⟩⟩:=h
     ·have:=ih h.2.2;simp only [List.length_cons];omega
     ·cases h.1
     ·have:=StepsT.stays h
      simp only [Option.some.injEq] at this
      rw [this]
      simp only [List.length_cons];omega
  have:=gen h
  omega
 have hl1:q.1 < ops.length:=by rw [h1,List.length_zip] at hlt;omega
 have hl2:q.1 < hs.length:=by rw [hok.len];exact hl1
 have e1:ops[q.1]? = some ops[q.1]:=List.getElem?_eq_getElem hl1
 have e2:hs[q.1]? = some hs[q.1]:=List.getElem?_eq_getElem hl2
 have:=h2 q.1 _ _ trs[q.1] (by rw [List.getElem?_zip_eq_some];exact ⟨e1,e2⟩) (List.getElem?_eq_getElem hlt)
 rw [Nat.zero_add] at this
 rcases this with this | ⟨q',g1,g2,_⟩ | ⟨a,u,g1,_,g3⟩
 ·exact absurd rfl (this.2 q rfl).1
 ·simp only [Option.some.injEq] at g1
  subst g1
  omega
 ·simp only [Option.some.injEq] at g1
  have ea:q.2.1=a:=by rw [g1]
  have eu:q.2.2=u:=by rw [g1]
  exact ⟨_,_,e1,e2,by rw [ea,eu];exact g3⟩
theorem drawn_sound {ks:List Nat} (hT:TabOk P G.tab) (hF:AllOk P G) (hm:P.follows .mixedOrders=true) {id:Nat} (hok:hintsOk ops'.toList hs=true) {ρ:Type} {gs:List Nat} {k kp:St→Option ρ} {r:ρ} {nm:Names}
 (h:Rel G.n w0 Z0 st0 a w nm) (he:drawK G ops'.toList gs (ops'.toList.zip hs) st0 [] none (fun pm st' tr=>bif Vf hs st0 tr 0 tr then (match pm with
  | none=>k st'
  | some q=>bif panOk hs q.1 st0 tr q.2.1 q.2.2 then kp (panSt ks hs q.1 tr st0 q.2.1 q.2.2) else none) else none)=some r)
 (hk : ∀ st' a' w' nm',Rel G.n w0 Z0 st' a' w' nm'→k st'=some r→KeepT (wrOps ops'.toList) a a'→Q .normal a' w')
 (hp : ∀ st' a' w' nm' v,Rel G.n w0 Z0 st' a' w' nm'→nm' payId = .func (.func 0) #[] #[v]→kp st'=some r→Q (.panic [{ v,recovered:=false }]) a' w') (rd:Option Nat) (m:Nat):(Code.region id ops' true).wpIn (Fr rd) m P Q a w:=by
 obtain ⟨trs,pm,h1,h2⟩:=drawK_steps he
 rw [List.nil_append] at h2
 have h1:StepsT G ops'.toList 0 none (ops'.toList.zip hs) st0 trs pm:=h1
 cases hc:Vf hs st0 trs 0 trs with
 | false=>rw [hc] at h2;cases h2
 | true=>
   rw [hc] at h2
   simp only [cond_true] at h2
   have hclosed:VH ops'.toList fun i=>(Array.replicate ops'.size false).getD i false:=by
    intro j o _ hl
    simp only [rep_false] at hl
    cases hl
   have hrel0 : ∀ k:Nat,Rel G.n w0 Z0 (foldS (fun i=>(Array.replicate ops'.size false).getD i false) 0 trs st0) a { w with drawn:=k } nm:=fun k=>by
    rw [foldS_none (fun k _=>rep_false _ _)]
    exact h.grow (Same.drawn' w _)
   cases pm with
   | none=>
     have T:=Text.of (hintsOk_ok hok) h1 hc
     refine wpIn_region_any hm (drawn_any hT hF rd m T (a0:=a) (fun a' w' nm' h' hkt=>hk _ a' w' nm' h' h2 hkt) _ _ _ _ nm (by simp) (by simp [left]) hclosed (hrel0 _) (KeepT.refl _ _))
   | some q=>
     simp only at h2
     cases hpo:panOk hs q.1 st0 trs q.2.1 q.2.2 with
     | false=>rw [hpo] at h2;cases h2
     | true=>
       rw [hpo] at h2
       have T:=Text.of (hintsOk_ok hok) h1 hc
       obtain ⟨o,hi,g1,g2,g3⟩:=StepsT.pan h1 (hintsOk_ok hok)
       refine wpIn_region_any hm (drawn_pan hT hF rd m T g1 g2 g3 hpo (fun a' w' nm' v h' hv=>hp _ a' w' nm' v h' hv h2) _ _ _ _ nm (by simp) (by simp [left]) hclosed (rep_false _ _) (hrel0 _))
end
end Go.Ql
end

section
set_option linter.unusedSectionVars false
namespace Go.Ql
theorem look_del_ins {α:Type} (k t:Nat) (v:α) (l:List (Nat×α)):look (del k (ins k v l)) t=look (del k l) t:=by
 rw [Vv,Vv,Jl]
 split <;> simp_all
section
variable [GInv] {P:Program} {G:Env} {n:Nat} {w0 w w' W:World} {Z0:Bs} {Z Z':Nat→Prop} {st st1 st2:St} {a a':Act} {nm nm':Names}
theorem Rel.slotsOf (h:Rel n w0 Z0 st a w nm) {sl:List (Nat×Dv)} (hs : ∀ t d,look sl t=some d→look st.slots t=some d):Rel n w0 Z0 ⟨sl,st.objs⟩ a w nm:=
 ⟨h.defers,h.size,fun t d ht=>h.slots t d (hs t d ht),h.objs,h.new,h.inj,h.same,h.given,h.glob,h.calm⟩
theorem calm_of {id:Nat} {ob:Ob} : ∀ {l:List (Nat×Ob)},calmO l=true→(id,ob)∈l→ob.mine=true∧(match ob with | .gone=>False | .deep .. => False | .arr _ _ _ t _=>t.isMap=false | _=>True)
 | p::r,hc,hm=>by
   obtain ⟨i,x⟩:=p
   rcases List.mem_cons.1 hm with e | hm
   ·cases e
    cases ob with
    | box=>exact ⟨rfl,trivial⟩
    | arr v fz e t xs=>
      simp only [calmO,Bool.and_eq_true,Bool.not_eq_true'] at hc
      exact ⟨by simp [Ob.mine,hc.1],hc.2.1⟩
    | clo=>exact ⟨rfl,trivial⟩
    | gone=>cases hc
    | deep=>cases hc
   ·refine calm_of ?_ hm
    cases x with
    | box=>exact hc
    | arr v fz e t xs=>simp only [calmO,Bool.and_eq_true] at hc;exact hc.2.2
    | clo=>exact hc
    | gone=>cases hc
    | deep=>cases hc
theorem Vz {objs:List (Nat×Ob)} {β:Type} (dom:List (Nat×β)) (x:At):AtOk nm nm objs (onlyO dom objs) x:=
 fun id _=>⟨fun ver fz e t xs h1 _=>⟨rfl,fz,xs,JP _ _ _ h1,rfl⟩,fun cs h1=>⟨rfl,cs,JP _ _ _ h1⟩,fun f y z h1=>⟨rfl,f,y,z,JP _ _ _ h1⟩,fun ver fz e te t xs hh h1 _=>⟨rfl,fz,xs,hh,JP _ _ _ h1,rfl,fun _ e=>⟨e,rfl⟩⟩⟩
theorem dvOk_only {objs:List (Nat×Ob)} {β:Type} (dom:List (Nat×β)) {d:Dv}:DvOk nm nm objs (onlyO dom objs) d:=by
 cases d <;> simp only [DvOk] <;> first | exact Vz dom _ | exact fun x _=>Vz dom x
theorem obOk_only {objs:List (Nat×Ob)} {β:Type} (dom:List (Nat×β)) {ob:Ob}:ObOk nm nm objs (onlyO dom objs) ob:=by
 cases ob with
 | box cs=>exact fun x _=>Vz dom x
 | arr=>trivial
 | clo f x y=>exact ⟨fun x _=>Vz dom x,fun x _=>Vz dom x⟩
 | gone=>trivial
 | deep v fz e te t xs hole=>
   cases hole with
   | none=>trivial
   | some q=>cases q with
     | none=>trivial
     | some q=>exact Vz dom _
theorem own_row {e:TypeId} {size m:Nat} {v:Value} {xs:List Value} (h:w.ownsM e size v m xs) {b:Nat} (hb:blk v=some b) : ∃ cur e,rowAt w b cur e:=by
 rcases h.2 with ⟨rfl,_⟩ | ⟨g,cap,cur,rfl,h1,_⟩
 ·cases hb
 ·cases hb;exact ⟨cur,_,h1⟩
theorem rdI_row {te:TypeId} : ∀ {t:Ty} {cs:List Value} {d:t.den} {us:List Value},rdI w Z te t cs d us → ∀ u∈us,∀ b,blk u=some b → ∃ cur e,rowAt w b cur e:=by
 intro t
 induction t with
 | sl s ih=>
   rintro cs d us ⟨_,v,es,h1,h2,h3,_⟩ u hu b hb
   rw [h2,List.mem_singleton] at hu
   exact own_row h3 (hu ▸ hb)
 | st t ih=>exact fun h=>ih h
 | pair a b iha ihb=>
   rintro cs d us ⟨c1,c2,u1,u2,h1,h2,h3,h4⟩ u hu
   rw [h2,List.mem_append] at hu
   exact hu.elim (iha h3 u) (ihb h4 u)
 | _=>
   intro cs d us h u hu b hb
   rw [h.2.2] at hu
   obtain ⟨_,_,rfl⟩:=List.mem_map.1 hu
   cases hb
theorem rdIs_row {te:TypeId} {t:Ty} : ∀ {xs:List t.den} {cs us:List Value},rdIs w Z te t cs xs us → ∀ u∈us,∀ b,blk u=some b → ∃ cur e,rowAt w b cur e
 | [],_,_,h,u,hu=>by rw [h.2] at hu;cases hu
 | _::_,_,_,⟨c1,c2,u1,u2,h1,h2,h3,h4⟩,u,hu=>by
   rw [h2,List.mem_append] at hu
   exact hu.elim (rdI_row h3 u) (rdIs_row h4 u)
theorem deep_row {objs:List (Nat×Ob)} {id ver:Nat} {fz:Bool} {e te:TypeId} {t:Ty} {xs:List t.den} {hole:Option (Option (Int×Nat×Ty×Nat×Nat))} (h:rdO w Z nm objs id (.deep ver fz e te t xs hole)) {b:Nat} (hb:hasB (nm id) b) : ∃ cur e,rowAt w b cur e:=by
 have key : ∀ {hd us},nm id = .tuple (hd::us).toArray→(∀ {b},blk hd=some b → ∃ cur e,rowAt w b cur e)→(∀ u∈us,∀ b,blk u=some b → ∃ cur e,rowAt w b cur e) → ∃ cur e,rowAt w b cur e:=fun h1 h2 h3=>by
  rw [h1,km] at hb
  obtain ⟨u,hu,hb⟩:=hb
  rcases List.mem_cons.1 hu with rfl | hu
  ·exact h2 hb
  ·exact h3 u hu b hb
 cases hole with
 | none=>obtain ⟨hd,us,cells,h1,h2,h3,_⟩:=h;exact key h1 (own_row h2) (rdIs_row h3)
 | some q=>cases q with
   | none=>obtain ⟨hd,us,cells,h1,h2,h3,_⟩:=h;exact key h1 (own_row h2) (rdIs_row h3)
   | some q=>obtain ⟨u,_,_,hd,us,cells,x,x0,h1,_,_,_,h2,h3,_⟩:=h;exact key h1 (own_row h2) (rdIs_row h3)
theorem Rel.objsOf (h:Rel n w0 Z0 st a w nm) {β:Type} (dom:List (Nat×β)):Rel n w0 Z0 ⟨st.slots,onlyO dom st.objs⟩ a w nm:=by
 have hz:Kept w w (Zc w0 Z0 nm st.objs w) (Zc w0 Z0 nm (onlyO dom st.objs) w):=fun b hb=>⟨UB (fun id ob h1 h2=>⟨ob,JP _ _ _ h1,h2⟩) hb,rfl⟩
 refine ⟨h.defk hz,h.size,fun t d ht => ?_,fun id ob ho => ?_,fun id ob b ho hb=>h.new id ob b (JP _ _ _ ho) hb,fun id id' ob ob' b ho ho'=>h.inj id id' ob ob' b (JP _ _ _ ho) (JP _ _ _ ho'),h.same,fun id ob hg ho=>h.given id ob hg (JP _ _ _ ho),h.glob,h.calm⟩
 ·obtain ⟨v,h1,h2⟩:=h.slots t d ht
  exact ⟨v,h1,JU hz.weak (dvOk_only dom) h2⟩
 ·exact kL hz.weak rfl (fun _ _=>rfl) (obOk_only dom) (h.objs id ob (JP _ _ _ ho))
theorem Rel.noObj (h:Rel n w0 Z0 st a w nm) (hc:calmO st.objs=true) {r:Nat} {o:Obj} (hr:w.heap[r]? = some o) (ho:o.isCells=false) {id:Nat} {ob:Ob} (hl:look st.objs id=some ob) : ¬ hasB (nm id) r:=by
 intro hb
 have hro:=h.objs id ob hl
 have hm:=ky hl
 have:=(calm_of hc hm).2
 cases ob with
 | box cs=>
   obtain ⟨b',vs,T,h1,h2,_⟩:=hro
   rw [h1] at hb
   cases hb
   rw [h2] at hr;cases hr;cases ho
 | arr v fz e t xs=>
   obtain ⟨cells,h1,_⟩:=rdArr.sl (show rdArr w _ (nm id) e t xs from hro) this
   rcases h1.2 with ⟨e1,_⟩ | ⟨g,cap,cur,e1,⟨fz2,h2,_⟩,_⟩
   ·rw [e1] at hb;cases hb
   ·rw [e1] at hb;cases hb;rw [h2] at hr;cases hr;cases ho
 | clo f x y=>
   obtain ⟨vx,vy,h1,_⟩:=hro
   rw [h1] at hb;cases hb
 | gone=>exact this
 | deep=>exact this
theorem Rel.turn (h:Rel n w0 Z0 st a w nm) {r:Nat} {o o':Obj} (hr:w.heap[r]? = some o) (ho:o.isCells=false) (h0:w0.heap.size≤r) (hno : ∀ id ob,look st.objs id=some ob→ob ≠ .gone → ¬ hasB (nm id) r)
 (hd : ∃ l,a.defers=l++Z0.df∧Marks w0 (w.putObj r o') (Zc w0 Z0 nm st.objs (w.putObj r o')) l):Rel n w0 Z0 st a (w.putObj r o') nm:=by
 have hsz:(w.putObj r o').heap.size=w.heap.size:=by simp [World.putObj]
 have hbl : ∀ b,b≠r→(w.putObj r o').heap[b]? = w.heap[b]?:=fun b hb=>World.putObj_heap_other hb
 have hk:KeptW w (w.putObj r o') (Zc w0 Z0 nm st.objs w) (Zc w0 Z0 nm st.objs (w.putObj r o')):=by
  rintro b ⟨h1,h2,h3⟩
  refine ⟨⟨by rw [hsz];exact h1,h2,h3⟩,fun q u hu => ?_⟩
  by_cases hb:b=r
  ·subst hb
   obtain ⟨o2,e1,e2⟩:=cells_of_cell hu
   have e1:w.heap[b]? = some o2:=e1
   rw [hr] at e1;cases e1;rw [ho] at e2;cases e2
  ·exact UD (hbl b hb) q u hu
 refine ⟨hd,h.size,fun t d ht => ?_,fun id ob hl => ?_,fun id ob b hl hb => ?_,h.inj,⟨h.same.os,h.same.tape,h.same.output,by rw [hsz];exact h.same.size,fun b hb hm => ?_⟩,h.given,h.glob,h.calm⟩
 ·obtain ⟨v,h1,h2⟩:=h.slots t d ht
  exact ⟨v,h1,JU hk (DvOk.refl ..) h2⟩
 ·by_cases hg:ob = .gone
  ·subst hg
   trivial
  ·exact kL hk rfl (fun b hb=>hbl b (fun e=>hno id ob hl hg (by rw [← e];exact hb))) (ObOk.refl _ _ _) (h.objs id ob hl)
 ·rw [hsz];exact h.new id ob b hl hb
 ·rw [hbl b (by omega)];exact h.same.block b hb hm
def Vq (w0:World) (Z0:Bs) (nm:Names) (st:St) (w:World) (df:List Deferred):Bs:=⟨Zc w0 Z0 nm st.objs w,owned nm st.objs,Z0.nm,df,false⟩
theorem Rel.rebase (h:Rel n w0 Z0 st a w nm) (hc:calmO st.objs=true) {df:List Deferred} (hd:a'.defers=df) (ht:a'.tmps=a.tmps):Rel n w (Vq w0 Z0 nm st w df) st a' w nm:=by
 have hzc : ∀ b,Zc w0 Z0 nm st.objs w b→Zc w (Vq w0 Z0 nm st w df) nm st.objs w b:=fun b hb=>⟨hb.1,fun _ => .inl hb,hb.2.2⟩
 have hk:Kept w w (Zc w0 Z0 nm st.objs w) (Zc w (Vq w0 Z0 nm st w df) nm st.objs w):=fun b hb=>⟨hzc b hb,rfl⟩
 refine ⟨⟨[],by rw [hd];rfl,Marks.nil _ _ _⟩,by rw [ht];exact h.size,fun t d hl => ?_,fun id ob hl=>kL hk rfl (fun _ _=>rfl) (ObOk.refl _ _ _) (h.objs id ob hl),fun id ob b hl hb => ?_,h.inj,SameBut.refl _ w,h.given,⟨h.gnow,fun b hb => ?_⟩,fun hh=>(by cases hh)⟩
 ·obtain ⟨v,h1,h2⟩:=h.slots t d hl
  exact ⟨v,by rw [ht];exact h1,JU hk (DvOk.refl ..) h2⟩
 ·exact ⟨.inr ⟨id,ob,hl,(calm_of hc (ky hl)).1,hb⟩,(h.new id ob b hl hb).2⟩
 ·obtain ⟨id,ob,hl,_,hb⟩:=hb
  rcases (h.new id ob b hl hb).1 with h1 | h1
  ·exact Nat.le_trans (GInv.size h.glob.1) h1
  ·exact h.glob.2 b h1
theorem look_onlyP_true {α:Type} {f:Nat→Bool} {t:Nat} : ∀ {l:List (Nat×α)} {d:α},look (onlyP f l) t=some d→f t=true
 | [],_,h=>by cases h
 | (s,x)::r,d,h=>by
   simp only [onlyP] at h
   cases hb:f s with
   | true=>
     rw [hb] at h
     simp only [cond_true,look] at h
     cases hq:Nat.beq s t with
     | true=>rw [← beqN.1 hq];exact hb
     | false=>rw [hq] at h;exact look_onlyP_true h
   | false=>rw [hb] at h;exact look_onlyP_true h
theorem Rel.kept12 (h1:Rel n w0 Z0 st a w nm) {df:List Deferred} {a2:Act} (h2:Rel n w (Vq w0 Z0 nm st w df) st2 a2 W nm'):Kept w W (Zc w0 Z0 nm st.objs w) (Zc w0 Z0 nm' st2.objs W):=by
 rintro b ⟨q1,q2,q3⟩
 refine ⟨⟨Nat.lt_of_lt_of_le q1 h2.same.size,q2,?_⟩,h2.same.block b q1 q3⟩
 rintro ⟨id,ob,hl,hm,hb⟩
 rcases (h2.new id ob b hl hb).1 with h | h
 ·omega
 ·exact q3 h
theorem Rel.zc21 (h1:Rel n w0 Z0 st a w nm) {df:List Deferred} {objs:List (Nat×Ob)} {b:Nat} (h:Zc w (Vq w0 Z0 nm st w df) nm' objs W b):Zc w0 Z0 nm' objs W b:=by
 refine ⟨h.1,fun hlt => ?_,h.2.2⟩
 rcases h.2.1 (Nat.lt_of_lt_of_le hlt h1.same.size) with q | ⟨id,ob,hl,_,hb⟩
 ·exact q.2.1 hlt
 ·exact .inr ((h1.new id ob b hl hb).1.resolve_left (by omega))
theorem Rel.unbase (h1:Rel n w0 Z0 st a w nm) {df:List Deferred} {a2 aN:Act} (hcm:Z0.calm=true→aN.defers=Z0.df) (h2:Rel n w (Vq w0 Z0 nm st w df) st2 a2 W nm') {sl:List (Nat×Dv)} (hn:aN.tmps.size=n)
 (hd : ∃ l,aN.defers=l++Z0.df∧Marks w0 W (Zc w0 Z0 nm' st2.objs W) l) (hsl : ∀ t d,look sl t=some d → ∃ v,aN.tmps[t]? = some v∧rdD W (Zc w0 Z0 nm' st2.objs W) nm' st2.objs d v):Rel n w0 Z0 ⟨sl,st2.objs⟩ aN W nm':=by
 have hz:Kept W W (Zc w (Vq w0 Z0 nm st w df) nm' st2.objs W) (Zc w0 Z0 nm' st2.objs W):=fun b hb=>⟨h1.zc21 hb,rfl⟩
 have hnw : ∀ b,(w.heap.size≤b∨owned nm st.objs b)→w0.heap.size≤b∨Z0.m b:=by
  rintro b (h | ⟨id,ob,hl,_,hb⟩)
  ·exact .inl (Nat.le_trans h1.same.size h)
  ·exact (h1.new id ob b hl hb).1
 refine ⟨hd,hn,hsl,fun id ob hl=>kL hz rfl (fun _ _=>rfl) (ObOk.refl _ _ _) (h2.objs id ob hl),fun id ob b hl hb=>⟨hnw b (h2.new id ob b hl hb).1,(h2.new id ob b hl hb).2⟩,h2.inj,?_,h2.given,h1.glob,hcm⟩
 refine ⟨h2.same.os.trans h1.same.os,h2.same.tape.trans h1.same.tape,h2.same.output.trans h1.same.output,Nat.le_trans h1.same.size h2.same.size,fun b hb hm => ?_⟩
 rw [h2.same.block b (Nat.lt_of_lt_of_le hb h1.same.size) ?_]
 ·exact h1.same.block b hb hm
 ·rintro ⟨id,ob,hl,_,hb'⟩
  rcases (h1.new id ob b hl hb').1 with h | h
  ·omega
  ·exact hm h
theorem leaves_marks {fn:Func} {R:Ending→World→Prop} {u:FrameMode} (hu:u ≠ .run) (hdf:Z0.df=[]) (fin : ∀ w2,Rel n w0 Z0 st { tmps:=a.tmps,defers:=[] } w2 nm→LeavesIn (Fr none) 0 P fn a.tmps R [] u w2) :
 ∀ (ds:List Nat) (w:World),Rel n w0 Z0 st { tmps:=a.tmps,defers:=[] } w nm→ds.Nodup→(∀ D:Nat,D∈ds→w0.heap.size≤D∧Zc w0 Z0 nm st.objs w D∧w.heap[D]? = some (Obj.deferred (some []))) →
  LeavesInM (Fr none) 0 P fn a.tmps R (ds.map (fun D=>({ target:=.collected D,args:=#[] }:Deferred))) u w
 | [],w,h,_,_=>fin w h
 | D::ds,w,h,hnd,hD=>by
   obtain ⟨e1,e2,e3⟩:=hD D (by simp)
   rw [List.nodup_cons] at hnd
   have hsz:(w.putObj D (.deferred none)).heap.size=w.heap.size:=by simp [World.putObj]
   have hno : ∀ id ob,look st.objs id=some ob→ob ≠ .gone → ¬ hasB (nm id) D:=by
    intro id ob hl hg hb
    by_cases hm:ob.mine=true
    ·exact e2.2.2 ⟨id,ob,hl,hm,hb⟩
    ·cases ob with
     | arr v fz e t xs=>
       rcases (show rdArr w _ (nm id) e t xs from h.objs id _ hl) with ⟨_,cells,h1,_⟩ | ⟨j,k,l,_,b',es,clock,h1,h2,_⟩
       ·rcases h1.2 with ⟨e1,_⟩ | ⟨g,cap,cur,e1,⟨fz2,h2,_⟩,_⟩
        ·rw [e1] at hb;cases hb
        ·rw [e1] at hb;cases hb;rw [h2] at e3;cases e3
       ·rw [h1] at hb;cases hb;rw [h2] at e3;cases e3
     | box=>exact hm rfl
     | clo=>exact hm rfl
     | gone=>exact hg rfl
     | deep v fz e te t xs hole=>
       obtain ⟨cur,e',fz',h1,_⟩:=deep_row (h.objs id _ hl) hb
       rw [h1] at e3;cases e3
   refine ⟨hu,.inl ⟨D,_,rfl,run_takeDeferred e3,leaves_marks hu hdf fin ds _ (h.turn e3 rfl e1 hno ⟨[],by rw [hdf];rfl,Marks.nil _ _ _⟩) hnd.2 fun D' hD' => ?_⟩⟩
   obtain ⟨f1,f2,f3⟩:=hD D' (by simp [hD'])
   refine ⟨f1,⟨by rw [hsz];exact f2.1,f2.2.1,f2.2.2⟩,?_⟩
   rw [World.putObj_heap_other (fun e=>hnd.1 (by rw [← e];exact hD'))]
   exact f3
theorem Rel.bare (h:Rel n w0 Z0 st a w nm) (hdf:Z0.df=[]):Rel n w0 Z0 st { tmps:=a.tmps,defers:=[] } w nm:=
 ⟨⟨[],by rw [hdf];rfl,Marks.nil _ _ _⟩,h.size,h.slots,h.objs,h.new,h.inj,h.same,h.given,h.glob,fun _=>hdf.symm⟩
theorem Rel.leaves {fn:Func} {R:Ending→World→Prop} {u:FrameMode} (h:Rel n w0 Z0 st a w nm) (hdf:Z0.df=[]) (hu:u ≠ .run)
 (fin : ∀ w2,Rel n w0 Z0 st { tmps:=a.tmps,defers:=[] } w2 nm→LeavesIn (Fr none) 0 P fn a.tmps R [] u w2):LeavesInM (Fr none) 0 P fn a.tmps R a.defers u w:=by
 obtain ⟨l,hl,ds,e1,e2,e3⟩:=h.defers
 rw [hl,hdf,List.append_nil,e1]
 exact leaves_marks hu hdf fin ds w (h.bare hdf) e2 e3
theorem assign_wp {asg:Code} {p t:Nat} (h:Ur asg=some (p,t)) {rd:Option Nat} {tmps:Array Value} {v:Value} (hp:p < tmps.size) {K:Act→World→Prop} {Q:Exit→Act→World→Prop}
 (hK:K { tmps:=(tmps.setIfInBounds p v).setIfInBounds t v,defers:=[] } W):asg.wpIn (Fr rd) 0 P (Exit.then K Q) { tmps:=tmps.setIfInBounds p v,defers:=[] } W:=by
 unfold Ur at h
 split at h
 ·rename_i id ops
  split at h
  ·rename_i t' p' ty pos aft hops
   cases h
   refine wpIn_region_list ?_
   rw [hops]
   unfold wpListIn
   simp only [Region.wanted,if_true]
   have hev:({ tmps:=tmps.setIfInBounds p v,defers:=[] }:Act).eval (.tmp p)=v:=by
    show (tmps.setIfInBounds p v).getD p undef=v
    simp [hp]
   refine oper_in (P:=P) ?_ (fun c hc=>by cases hc) rd 0
   unfold Oper.wp
   simp only [execOp,hev]
   exact hK
  ·cases h
 ·cases h
theorem range_law {a:Act} {w:World} {Q:Exit→Act→World→Prop} {g:Operand} {p t:Nat} {asg body:Code} (hasg:Ur asg=some (p,t)) (hp:p < a.tmps.size) {gf:Nat} {lb:Array Value} {k:IntKind} {xs:List Int} {Zk:Nat→Prop}
 (hZ : ∀ b,Zk b→b < w.heap.size) (hg:a.eval g = .func (.func gf) #[] lb) (eg : ∀ args w,(callFunc gf args).run P w = .ok (.enter gf args) w) (hseq:SeqAt P gf lb k xs (fun A B => ∀ b,Zk b→B.heap[b]? = A.heap[b]?) w)
 (I:List Int→World→Prop) (h0:I [] w) (hI : ∀ pre A B,I pre A→Same A B→I pre B)
 (hT : ∀ pre A l o o',w.heap.size≤l→I pre A→A.heap[l]? = some o→o.isCells=false→I pre (A.putObj l o'))
 (hbody : ∀ l pre x W,I pre W→(∃ r,xs=pre++x::r)→body.wpIn (Fr (some l)) 0 P (fun e _ W'=>e = .normal∧KeepsOthers W W'∧(∀ b,Zk b→W'.heap[b]? = W.heap[b]?)∧I (pre++[x]) W')
  { tmps:=(a.tmps.setIfInBounds p (.int k x)).setIfInBounds t (.int k x),defers:=[] } W)
 (hdone : ∀ (D:Nat) W,w.heap.size≤D→I xs W→W.heap[D]? = some (Obj.deferred (some []))→Q .normal { a with defers:={ target:=.collected D,args:=#[] }::a.defers } W) :
 (Code.rangeFunc g #[p] asg body).wpIn (Fr none) 0 P Q a w:=by
 refine wpIn_rangeFunc fun fn hfn => ?_
 obtain ⟨rec,hrec⟩ : ∃ rec:LoopState→Loop,rec=fun st=>{ state:=st,pending:=none,fn,tmps:=a.tmps,params:=#[p],assign:=asg,body,defers:=w.heap.size }:=⟨_,rfl⟩
 have hen:=run_enterLoop_outer (P:=P) (w:=w) fn a.tmps #[p] asg body
 have hready:(Obj.loop { state:=.ready,pending:=none,fn,tmps:=a.tmps,params:=#[p],assign:=asg,body,defers:=w.heap.size }) = .loop (rec .ready):=by rw [hrec]
 rw [hready] at hen
 obtain ⟨W1,hW1⟩ : ∃ W1,(w.alloc (.deferred (some []))).alloc (.loop (rec .ready))=W1:=⟨_,rfl⟩
 rw [hW1] at hen
 have s1:Same w W1:=by rw [← hW1];exact (Same.alloc w _).trans (Same.alloc _ _)
 have hsz:W1.heap.size=w.heap.size+2:=by rw [← hW1];simp
 have hL:W1.heap[w.heap.size+1]? = some (.loop (rec .ready)):=by
  rw [← hW1]
  have:=World.alloc_heap_new (w.alloc (.deferred (some []))) (.loop (rec .ready))
  rwa [World.size_alloc] at this
 have hD:W1.heap[w.heap.size]? = some (Obj.deferred (some [])):=by
  rw [← hW1,(Same.alloc (w.alloc (.deferred (some []))) _).block _ (by simp)]
  exact World.alloc_heap_new w _
 refine ⟨w.heap.size+1,[{ target:=.collected w.heap.size,args:=#[] }],W1,{ target:=.fn (.func gf) lb,args:=#[.func (.yield (w.heap.size+1)) #[] #[]] },W1,gf,#[.func (.yield (w.heap.size+1)) #[] #[]]++lb,W1,hen,?_,fun _ _=>trivial,?_,fun _ => ?_,?_⟩
 ·simp only [resolve,hg]
  simp [go_sem]
 ·simp [invoke,go_sem,eg]
 ·rename_i hh;cases hh
 ·have hq:=hseq (w.heap.size+1) (fun pre W=>I pre W∧W.heap[w.heap.size+1]? = some (.loop (rec .ready))∧W.heap[w.heap.size]? = some (Obj.deferred (some []))) W1 s1
   (fun pre A B h hs=>⟨hI _ _ _ h.1 hs,(hs.block _ (Array.getElem?_eq_some_iff.1 h.2.1).1).trans h.2.1,(hs.block _ (Array.getElem?_eq_some_iff.1 h.2.2).1).trans h.2.2⟩) ?_ ⟨hI _ _ _ h0 s1,hL,hD⟩
  ·refine CallsIn.mono hq ?_
   rintro e W2 ⟨⟨v,rfl⟩,hi,hl,hd⟩
   refine ⟨none,_,(by have:=run_endLoop (P:=P) hl (by rw [hrec];simp);rw [hrec] at this;exact this),?_⟩
   refine hdone w.heap.size _ (Nat.le_refl _) (hT _ _ _ _ _ (by omega) hi hl rfl) ?_
   rw [World.putObj_heap_other (by omega)]
   exact hd
  ·rintro pre x W ⟨hi,hl,hd⟩ hr
   have hy:=run_yield (P:=P) (args:=#[.int k x]) hl (by rw [hrec];rfl)
   refine ⟨_,_,_,_,hy,?_⟩
   have hrb:(rec .ready).assign=asg∧(rec .ready).body=body∧(rec .ready).tmps=a.tmps∧(rec .ready).params = #[p]∧(rec .ready).fn=fn:=by rw [hrec];exact ⟨rfl,rfl,rfl,rfl,rfl⟩
   rw [hrb.1,hrb.2.1,hrb.2.2.1,hrb.2.2.2.1,hrb.2.2.2.2]
   refine roundIn_of_wpIn (F:=Fr none) hfn ?_
   have hfold:((#[p].zip #[Value.int k x]).foldl (fun tmps (x:Tmp×Value)=>tmps.setIfInBounds x.1 x.2) a.tmps)=a.tmps.setIfInBounds p (.int k x):=by
    rw [← Array.foldl_toList,Array.toList_zip];rfl
   show asg.wpIn (Fr (some (w.heap.size+1))) 0 P _ { tmps:=((#[p].zip #[Value.int k x]).foldl (fun tmps (x:Tmp×Value)=>tmps.setIfInBounds x.1 x.2) a.tmps),defers:=[] } W
   rw [hfold]
   refine assign_wp hasg hp ⟨_,run_beginRound hl (by rw [hrec]),?_⟩
   have hlt:=(Array.getElem?_eq_some_iff.1 hl).1
   refine wpIn_mono (hbody (w.heap.size+1) pre x _ (hT _ _ _ _ _ (by omega) hi hl rfl) hr) ?_
   rintro e a3 W3 ⟨rfl,k1,k2,k3⟩
   have hb3:W3.heap[w.heap.size+1]? = some (.loop { rec .ready with state:=.busy }):=k1.same _ _ (World.putObj_heap_same hlt) rfl
   have hd3:W3.heap[w.heap.size]? = some (Obj.deferred (some [])):=k1.same _ _ ((World.putObj_heap_other (by omega)).trans hd) rfl
   have hend:=run_endRound (P:=P) none hb3
   have hlt3:=(Array.getElem?_eq_some_iff.1 hb3).1
   refine ⟨_,_,hend,rfl,⟨hT _ _ _ _ _ (by omega) k3 hb3 rfl,?_,?_⟩,fun b hb => ?_⟩
   ·rw [World.putObj_heap_same hlt3,hrec]
    rfl
   ·rw [World.putObj_heap_other (by omega)];exact hd3
   ·have:=hZ b hb
    rw [World.putObj_heap_other (by omega),k2 b hb,World.putObj_heap_other (by omega)]
end
end Go.Ql
end

section
set_option linter.unusedSectionVars false
namespace Go.Ql
theorem VB {S R:Type} {f:S→Option (S⊕R)} {s:S} {r:R} (h:iter f s=some r) : ∃ n,iterN f n s=some r:=by
 unfold iter at h
 split at h
 ·rename_i hex
  simp only [Option.some.injEq] at h
  subst h
  exact ⟨_,Classical.choose_spec (Classical.choose_spec hex)⟩
 ·cases h
theorem iterN_mono {S R:Type} {f:S→Option (S⊕R)} : ∀ {n:Nat} {s:S} {r:R} (m:Nat),iterN f n s=some r→iterN f (n+m) s=some r
 | 0,_,_,_,h=>by simp [iterN] at h
 | n+1,s,r,m,h=>by
   rw [show n+1+m=(n+m)+1 by omega]
   simp only [iterN] at h ⊢
   split at h
   ·exact iterN_mono m h
   ·exact h
   ·cases h
theorem iterN_det {S R:Type} {f:S→Option (S⊕R)} {n m:Nat} {s:S} {r r':R} (h:iterN f n s=some r) (h':iterN f m s=some r'):r=r':=by
 have h1:=iterN_mono m h
 have h2:=iterN_mono n h'
 rw [Nat.add_comm] at h2
 rw [h1] at h2
 cases h2;rfl
theorem iter_of {S R:Type} {f:S→Option (S⊕R)} {n:Nat} {s:S} {r:R} (h:iterN f n s=some r):iter f s=some r:=by
 have hex : ∃ n r,iterN f n s=some r:=⟨n,r,h⟩
 unfold iter
 rw [dif_pos hex]
 rw [iterN_det (Classical.choose_spec (Classical.choose_spec hex)) h]
noncomputable def loopF (G:Env) (c:Code) (s:St):Option (St⊕(Ex×St)):=
 execK G c (St⊕(Ex×St)) s fun e s'=>bif kR e then some (.inl (restrict s s')) else some (.inr (e,restrict s s'))
noncomputable def Uy (G:Env) (p t:Nat) (body:Code) (s:St):Option (St⊕(Ex×St)):=match look s.slots JV with
 | some (.one (.val (.sl (.int kd')) ys))=>br (List.isEmpty ys) (some (.inr (0,⟨del JV s.slots,s.objs⟩)))
   (bnd (idx ys 0) fun y=>execK G body (St⊕(Ex×St)) ⟨ins t (.one (.val (.int kd') y)) (ins p (.one (.val (.int kd') y)) (del JV s.slots)),s.objs⟩ fun e s'=>
    bif kR e && calmO (onlyO s.objs s'.objs) then some (.inl ⟨ins JV (.one (.val (.sl (.int kd')) (ys.drop 1))) (onlyP (fun t' => !memN t' (p::t::JV::wrC body)) s'.slots),onlyO s.objs s'.objs⟩) else none)
 | _=>none
def Sums (raw:(ρ:Type)→St→(Ex→St→Option ρ)→Option ρ) (s:Ck):Prop:=
 ∀ (ρ:Type) st k r,s.run ρ st k=some r → ∃ p:Ex×St,raw (Ex×St) st (fun e s=>some (e,s))=some p∧k p.1 p.2=some r
inductive PK where
 | region (id:Nat) (ops:Array Oper) (d:Bool) | join (a:Code) | loop (c:Code) | range (asg c:Code)
def YZ (G:Env) (key:Nat) (p:PK):Prop:=∀ s,look G.cks key=some s→match p with
 | .region id ops d=>Sums (VC G id ops d) s
 | .join a=>Sums (fun ρ st k=>execK G a ρ st fun e s=>k e (restrict (domJ G key st) s)) s
 | .loop c => ∀ (ρ:Type) st k r,s.run ρ st k=some r → ∃ p:Ex×St,iter (loopF G c) st=some p∧k p.1 p.2=some r
 | .range asg c => ∀ p t,Ur asg=some (p,t) → ∀ (ρ:Type) st k r,s.run ρ st k=some r → ∃ q:Ex×St,iter (Uy G p t c) st=some q∧k q.1 q.2=some r
def kc (cks:List (Nat×Ck)):Code→List (Nat×PK)
 | .region id ops d=>bif (hasGuards ops || d) && (look cks id).isSome then [(id,.region id ops d)] else []
 | .seq a b=>(bif joins a b && (look cks (Uq a)).isSome then [(Uq a,PK.join a)] else [])++(kc cks a++kc cks b)
 | .cond _ a b=>kc cks a++kc cks b
 | .block _ c=>kc cks c
 | .loop c=>(bif (look cks (keyLoop c)).isSome then [(keyLoop c,PK.loop c)] else [])++kc cks c
 | .rangeFunc _ _ asg c=>(bif (look cks (keyRange c)).isSome then [(keyRange c,PK.range asg c)] else [])++kc cks c
 | _=>[]
def kN (G:Env):Code→Bool
 | .region id ops d => !d || (match look G.fps id with
   | some hs=>hintsOk ops.toList hs
   | none=>false)
 | .seq a b=>kN G a && kN G b
 | .cond _ a b=>kN G a && kN G b
 | .block _ c=>kN G c
 | .loop c=>kN G c
 | .rangeFunc _ _ _ c=>kN G c
 | _=>true
def qEx (Q:Exit→Act→World→Prop) (nm:Names) (n:Nat) (a:Act) (w:World):Prop:=
 if n=pBad then ∃ v,nm payId = .func (.func 0) #[] #[v]∧Q (.panic [{ v,recovered:=false }]) a w else Q (.exit n) a w
def qOf (Q:Exit→Act→World→Prop) (nm:Names):Ex→Act→World→Prop
 | 0,a,w=>Q .normal a w
 | 1,a,w=>Q .ret a w
 | n+2,a,w=>qEx Q nm n a w
section
variable [GInv] {P:Program} {G:Env} {w0:World} {Z0:Bs}
def KeepE (l:List Nat) (e:Ex) (a a':Act):Prop:=Nat.beq e pEx=false→KeepT l a a'
theorem KeepE.left {l m:List Nat} {e:Ex} {a b:Act} (h:KeepE l e a b):KeepE (l++m) e a b:=fun he=>(h he).left
theorem KeepE.right {l m:List Nat} {e:Ex} {a b:Act} (h:KeepE m e a b):KeepE (l++m) e a b:=fun he=>(h he).right
theorem qOf_then {next:Act→World→Prop} {Q:Exit→Act→World→Prop} {e:Ex} (h:kR e=false) {a:Act} {w:World} {nm:Names} (hq:qOf Q nm e a w):qOf (Exit.then next Q) nm e a w:=by
 match e,h with
 | 1,_=>exact hq
 | n+2,_=>
   have hq:qEx Q nm n a w:=hq
   show qEx _ nm n a w
   unfold qEx at hq ⊢
   split
   ·rename_i hn;rw [if_pos hn] at hq;exact hq
   ·rename_i hn;rw [if_neg hn] at hq;exact hq
theorem raw_sound (hT:TabOk P G.tab) (hF:AllOk P G) (hm:P.follows .mixedOrders=true) {id:Nat} {ops:Array Oper} {d:Bool} (hd:kN G (.region id ops d)=true)
 {ρ:Type} {st:St} {a:Act} {w:World} {nm:Names} {k:Ex→St→Option ρ} {r:ρ} {Q:Exit→Act→World→Prop}
 (h:Rel G.n w0 Z0 st a w nm) (he:VC G id ops d ρ st k=some r) (hk : ∀ e st' a' w' nm',Rel G.n w0 Z0 st' a' w' nm'→k e st'=some r→KeepE (wrOps ops.toList) e a a'→qOf Q nm' e a' w') (rd:Option Nat):(Code.region id ops d).wpIn (Fr rd) 0 P Q a w:=by
 unfold VC at he
 cases d with
 | false=>
   refine wpIn_region_list ?_
   refine opsK_sound hT hF (L:=wrOps ops.toList) (a0:=a) (fun st' a' w' nm' h' hk' hkt=>by obtain ⟨st2,nm2,r1,r2⟩:=Vt _ h' hk';exact hk 0 _ a' w' nm2 ((r1.norm (cooled G id)).forget _) r2 fun _=>hkt) (fun st' a' w' nm' v h' hv hk' => ?_) rd 0 ops.toList (fun _ ht=>ht) (KeepT.refl _ _) h he
   have:=hk pEx _ a' w' nm' (h'.norm G) hk' (fun hh=>by simp [pEx] at hh)
   have this:qEx Q nm' pBad a' w':=this
   unfold qEx at this
   rw [if_pos rfl] at this
   obtain ⟨v',q1,q2⟩:=this
   rw [hv] at q1
   cases q1
   exact q2
 | true=>
   simp only [cond_true] at he
   simp only [kN,Bool.not_true,Bool.false_or] at hd
   split at he
   ·rename_i hs hl
    rw [hl] at hd
    refine drawn_sound (k:=fun st'=>shutK st'.objs st' fun st'=>k 0 (norm G st')) (kp:=fun st'=>k pEx (norm G st')) hT hF hm hd h he (fun st' a' w' nm' h' hk' hkt=>by obtain ⟨st2,nm2,r1,r2⟩:=Vt _ h' hk';exact hk 0 _ a' w' nm2 (r1.norm G) r2 fun _=>hkt) (fun st' a' w' nm' v h' hv hk' => ?_) rd 0
    have:=hk pEx _ a' w' nm' (h'.norm G) hk' (fun hh=>by simp [pEx] at hh)
    have this:qEx Q nm' pBad a' w':=this
    unfold qEx at this
    rw [if_pos rfl] at this
    obtain ⟨v',q1,q2⟩:=this
    rw [hv] at q1
    cases q1
    exact q2
   ·cases he
theorem capsOf_rd {w:World} {Z:Nat→Prop} {nm:Names} {objs:List (Nat×Ob)} : ∀ {ts:List Ty} {b:List At} {x:dens ts} {vs:List Value},Ve ts b=some x→rdAs w Z nm objs b vs→capsRd w Z ts x vs
 | [],[],x,vs,_,h=>List.eq_nil_of_length_eq_zero h.1
 | [t],[.fptr s d],x,vs,he,h=>by
   simp only [Ve] at he
   split at he
   ·rename_i e
    subst e
    simp only [Option.some.injEq] at he
    subst he
    obtain ⟨h1,h2⟩:=h
    match vs,h1 with
    | [v],_=>exact ⟨v,rfl,h2 0 _ v rfl rfl⟩
   ·cases he
 | t::t'::ts,.fptr s d::r,x,vs,he,h=>by
   simp only [Ve] at he
   split at he
   ·rename_i y hy
    split at he
    ·rename_i e
     subst e
     simp only [Option.some.injEq] at he
     subst he
     obtain ⟨h1,h2⟩:=h
     match vs,h1 with
     | v::vr,h1=>exact ⟨v,vr,rfl,h2 0 _ v rfl rfl,capsOf_rd hy ⟨by simpa using h1,fun i a u q1 q2=>h2 (i+1) a u (by simpa using q1) (by simpa using q2)⟩⟩
    ·cases he
   ·cases he
 | [],_::_,_,_,he,_=>by simp [Ve] at he
 | [_],[],_,_,he,_=>by simp [Ve] at he
 | _::_::_,[],_,_,he,_=>by simp [Ve] at he
 | [_],.val _ _::_,_,_,he,_ | [_],.nilS::_,_,_,he,_ | [_],.ref _ _::_,_,_,he,_ | [_],.own _ _::_,_,_,he,_ | [_],.win _ _ _ _::_,_,_,he,_ | [_],.elem _ _ _ _ _::_,_,_,he,_ | [_],.aptr _ _::_,_,_,he,_
 | [_],.aelem _ _ _ _ _ _ _ _ _::_,_,_,he,_ | [_],.fn _::_,_,_,he,_ | [_],.clo _::_,_,_,he,_ | [_],.selfp _ _::_,_,_,he,_ | [_],.junk::_,_,_,he,_=>by simp [Ve] at he
 | [_],.fptr _ _::_::_,_,_,he,_=>by simp [Ve] at he
 | _::_::_,.val _ _::_,_,_,he,_ | _::_::_,.nilS::_,_,_,he,_ | _::_::_,.ref _ _::_,_,_,he,_ | _::_::_,.own _ _::_,_,_,he,_ | _::_::_,.win _ _ _ _::_,_,_,he,_ | _::_::_,.elem _ _ _ _ _::_,_,_,he,_ | _::_::_,.aptr _ _::_,_,_,he,_
 | _::_::_,.aelem _ _ _ _ _ _ _ _ _::_,_,_,he,_ | _::_::_,.fn _::_,_,_,he,_ | _::_::_,.clo _::_,_,_,he,_ | _::_::_,.selfp _ _::_,_,_,he,_ | _::_::_,.junk::_,_,_,he,_=>by simp [Ve] at he
theorem seqOf_rd {n:Nat} {st:St} {a:Act} {w:World} {nm:Names} (h:Rel n w0 Z0 st a w nm) {tab:List (Nat×TI)} (hE:EqsOk P tab G.eqs) {g:Operand} {kd:IntKind} {xs:List Int} (hs:seqOf G st g=some (kd,xs)) :
 ∃ (gf:Nat) (lb:Array Value) (sc:SeqC) (x:dens sc.caps),a.eval g = .func (.func gf) #[] lb∧SeqOk P gf sc∧capsRd w (Zc w0 Z0 nm st.objs w) sc.caps x lb.toList∧sc.k=kd∧sc.L x=xs ∧
  ∀ args w,(callFunc gf args).run P w = .ok (.enter gf args) w:=by
 unfold seqOf at hs
 split at hs
 ·rename_i t
  split at hs
  ·rename_i id hsl
   split at hs
   ·rename_i f b hob
    split at hs
    ·rename_i sc hsc
     cases hb:Nat.beq sc.fn f with
     | false=>rw [hb] at hs;cases hs
     | true=>
       rw [hb] at hs
       simp only [cond_true,Option.map_eq_some_iff] at hs
       obtain ⟨x,hx,e⟩:=hs
       cases e
       have hok:=hE.2 f sc hsc
       obtain ⟨v,q1,q2⟩:=h.slots t _ hsl
       obtain ⟨vx,vy,g1,g2,g3⟩:=h.objs id _ hob
       have hv:=q2.2 f [] b hob
       have e1:vx = #[]:=by
        have:=g2.1
        simp at this
        exact this
       subst e1
       refine ⟨f,vy,sc,x,?_,hok,capsOf_rd hx g3,rfl,rfl,?_⟩
       ·show a.tmps.getD t undef=_
        simp [q1,hv,g1]
       ·obtain ⟨fn,f1,f2,f3⟩:=hok.1
        intro args w
        have f2' : ¬ fn.name = "runtime.NumGoroutine" := by simpa using f2
        have f3' : ¬ fn.body=none:=by intro hh;rw [hh] at f3;cases f3
        simp [callFunc,f1,f2',f3']
    ·cases hs
   ·cases hs
  ·cases hs
 ·cases hs
theorem execK_sound (hT:TabOk P G.tab) (hF:AllOk P G) (hm:P.follows .mixedOrders=true) : ∀ (c:Code),kN G c=true→(∀ p∈kc G.cks c,YZ G p.1 p.2) →
 ∀ {w0:World} {Z0:Bs} (rd:Option Nat),(rd=none∧Z0.calm=false∨Ym c=false) → ∀ {ρ:Type} {st:St} {a:Act} {w:World} {nm:Names} {k:Ex→St→Option ρ} {r:ρ} {Q:Exit→Act→World→Prop},
 Rel G.n w0 Z0 st a w nm→execK G c ρ st k=some r→(∀ e st' a' w' nm',Rel G.n w0 Z0 st' a' w' nm'→k e st'=some r→KeepE (wrC c) e a a'→qOf Q nm' e a' w')→c.wpIn (Fr rd) 0 P Q a w:=by
 intro c
 induction c with
 | skip=>intro _ _ w0 Z0 rd hrd ρ st a w nm k r Q h he hk;exact wpIn_skip (hk 0 st a w nm h he fun _=>KeepT.refl _ _)
 | label l=>intro _ _ w0 Z0 rd hrd ρ st a w nm k r Q h he hk;exact wpIn_label (hk 0 st a w nm h he fun _=>KeepT.refl _ _)
 | ret=>intro _ _ w0 Z0 rd hrd ρ st a w nm k r Q h he hk;exact wpIn_ret (hk 1 st a w nm h he fun _=>KeepT.refl _ _)
 | exit id=>
   intro _ _ w0 Z0 rd hrd ρ st a w nm k r Q h he hk
   unfold execK at he
   cases hb:Nat.beq id pBad with
   | true=>rw [hb] at he;cases he
   | false=>
     rw [hb] at he
     have this:qEx Q nm id a w:=hk (id+2) st a w nm h he fun _=>KeepT.refl _ _
     unfold qEx at this
     rw [if_neg (Jb.1 hb)] at this
     exact wpIn_exit this
 | region id ops d=>
   intro hd hp w0 Z0 rd hrd ρ st a w nm k r Q h he hk
   unfold execK at he
   cases hg:(hasGuards ops || d) with
   | false=>
     rw [hg] at he
     exact raw_sound hT hF hm hd h he hk rd
   | true=>
     rw [hg] at he
     simp only [cond_true] at he
     split at he
     ·rename_i s hs
      obtain ⟨p,h1,h2⟩:=(hp (id,.region id ops d) (by simp [kc,hg,hs])) s hs ρ st k r he
      refine raw_sound hT hF hm hd h h1 (fun e st' a' w' nm' h' hk' hkt => ?_) rd
      simp only [Option.some.injEq] at hk'
      subst hk'
      exact hk _ _ a' w' nm' h' h2 hkt
     ·exact raw_sound hT hF hm hd h he hk rd
 | seq x y ihx ihy=>
   intro hd hp w0 Z0 rd hrd ρ st a w nm k r Q h he hk
   simp only [kN,Bool.and_eq_true] at hd
   have hr2:(rd=none∧Z0.calm=false∨Ym x=false)∧(rd=none∧Z0.calm=false∨Ym y=false):=by
    rcases hrd with h | h
    ·exact ⟨.inl h,.inl h⟩
    ·simp only [Ym,Bool.or_eq_false_iff] at h;exact ⟨.inr h.1,.inr h.2⟩
   have ihx:=@ihx hd.1 (fun p hq=>hp p (by simp only [kc,List.mem_append];exact .inr (.inl hq))) w0 Z0 rd hr2.1
   have ihy:=@ihy hd.2 (fun p hq=>hp p (by simp only [kc,List.mem_append];exact .inr (.inr hq))) w0 Z0 rd hr2.2
   refine wpIn_seq ?_
   have next : ∀ e st' a' w' nm',Rel G.n w0 Z0 st' a' w' nm'→(bif kR e then execK G y ρ st' k else k e st')=some r→KeepE (wrC x) e a a'→qOf (Exit.then (y.wpIn (Fr rd) 0 P Q) Q) nm' e a' w':=by
    intro e st' a' w' nm' h' hk' hkt
    cases hn:kR e with
    | true=>
      rw [hn] at hk'
      have:e=0:=beqN.1 hn
      subst this
      exact ihy h' hk' fun e2 st2 a2 w2 nm2 h2 hk2 hkt2=>hk e2 st2 a2 w2 nm2 h2 hk2 fun he=>(hkt rfl).left.trans (hkt2 he).right
    | false=>
      rw [hn] at hk'
      exact qOf_then hn (hk e st' a' w' nm' h' hk' hkt.left)
   unfold execK at he
   cases hj:joins x y with
   | false=>
     rw [hj] at he
     exact ihx h he next
   | true=>
     rw [hj] at he
     simp only [cond_true] at he
     split at he
     ·rename_i s hs
      obtain ⟨p,h1,h2⟩:=(hp (Uq x,.join x) (by simp [kc,hj,hs])) s hs ρ st _ r he
      refine ihx h h1 (fun e st' a' w' nm' h' hk' hkt => ?_)
      simp only [Option.some.injEq] at hk'
      subst hk'
      exact next _ _ a' w' nm' (h'.restrict _) h2 hkt
     ·exact ihx h he (fun e st' a' w' nm' h' hk' hkt=>next e _ a' w' nm' (h'.restrict _) hk' hkt)
 | cond c x y ihx ihy=>
   intro hd hp w0 Z0 rd hrd ρ st a w nm k r Q h he hk
   simp only [kN,Bool.and_eq_true] at hd
   have hr2:(rd=none∧Z0.calm=false∨Ym x=false)∧(rd=none∧Z0.calm=false∨Ym y=false):=by
    rcases hrd with h | h
    ·exact ⟨.inl h,.inl h⟩
    ·simp only [Ym,Bool.or_eq_false_iff] at h;exact ⟨.inr h.1,.inr h.2⟩
   have ihx:=@ihx hd.1 (fun p hq=>hp p (by simp only [kc,List.mem_append];exact .inl hq)) w0 Z0 rd hr2.1
   have ihy:=@ihy hd.2 (fun p hq=>hp p (by simp only [kc,List.mem_append];exact .inr hq)) w0 Z0 rd hr2.2
   unfold execK at he
   split at he
   ·rename_i t
    split at he
    ·rename_i b hb
     have hc:a.eval (.tmp t) = .bool b:=UF h hb
     refine wpIn_cond hc ?_
     cases b with
     | true=>simp only [br] at he;exact ihx (h.delC G t) he fun e st' a' w' nm' h' hk' hkt=>hk e st' a' w' nm' h' hk' hkt.left
     | false=>simp only [br] at he;exact ihy (h.delC G t) he fun e st' a' w' nm' h' hk' hkt=>hk e st' a' w' nm' h' hk' hkt.right
    ·cases he
   ·have hc:a.eval (.const (.bool true)) = .bool true:=rfl
    refine wpIn_cond hc ?_
    exact ihx h he fun e st' a' w' nm' h' hk' hkt=>hk e st' a' w' nm' h' hk' hkt.left
   ·have hc:a.eval (.const (.bool false)) = .bool false:=rfl
    refine wpIn_cond hc ?_
    exact ihy h he fun e st' a' w' nm' h' hk' hkt=>hk e st' a' w' nm' h' hk' hkt.right
   ·cases he
 | block id c ih=>
   intro hd hp w0 Z0 rd hrd ρ st a w nm k r Q h he hk
   unfold execK at he
   cases hbad:Nat.beq id pBad with
   | true=>rw [hbad] at he;cases he
   | false=>
   rw [hbad] at he
   refine wpIn_block (ih hd hp rd hrd h he (fun e st' a' w' nm' h' hk' hkt => ?_))
   cases hb:Nat.beq e (id+2) with
   | true=>
     rw [hb] at hk'
     have:=beqN.1 hb
     subst this
     show qEx _ nm' id a' w'
     unfold qEx
     rw [if_neg (Jb.1 hbad)]
     simp only [Exit.inBlock,if_true]
     exact hk 0 st' a' w' nm' h' hk' fun _=>hkt (by
      cases hb2:Nat.beq (id+2) pEx with
      | false=>rfl
      | true=>exact absurd (Nat.add_right_cancel (beqN.1 hb2:id+2=pBad+2)) (Jb.1 hbad))
   | false=>
     rw [hb] at hk'
     have:=hk e st' a' w' nm' h' hk' hkt
     match e,hb with
     | 0,_=>exact this
     | 1,_=>exact this
     | n+2,hb=>
       have hne : ¬ n=id:=by intro hh;subst hh;exact absurd rfl (Jb.1 hb)
       have this:qEx Q nm' n a' w':=this
       show qEx _ nm' n a' w'
       unfold qEx at this ⊢
       by_cases hn:n=pBad
       ·rw [if_pos hn] at this ⊢
        exact this
       ·rw [if_neg hn] at this ⊢
        simp only [Exit.inBlock,if_neg hne]
        exact this
 | loop c ih=>
   intro hd hp w0 Z0 rd hrd ρ st a w nm k r Q h he hk
   have ih:=@ih hd (fun p hq=>hp p (by simp only [kc,List.mem_append];exact .inr hq)) w0 Z0 rd hrd
   obtain ⟨a0,ha0⟩ : ∃ a0,a0=a:=⟨_,rfl⟩
   have key : ∀ (p:Ex×St),k p.1 p.2=some r → ∀ (m:Nat) {st:St} {a:Act} {w:World} {nm:Names},Rel G.n w0 Z0 st a w nm→KeepT (wrC c) a0 a→iterN (loopF G c) m st=some p→Code.roundsIn (Fr rd) 0 P c Q m a w:=by
    intro p hkp m
    induction m with
    | zero=>intro st a w nm _ _ hi;simp [iterN] at hi
    | succ m ihm=>
      intro st a w nm h hkt0 hi
      rw [roundsIn_succ]
      simp only [iterN] at hi
      split at hi
      ·rename_i s' hs
       refine ih h hs (fun e st' a' w' nm' h' hk' hkt => ?_)
       cases hn:kR e with
       | true=>
         rw [hn] at hk'
         simp only [cond_true,Option.some.injEq,Sum.inl.injEq] at hk'
         subst hk'
         have:e=0:=beqN.1 hn
         subst this
         exact ihm (h'.restrict st) (hkt0.trans (hkt rfl)) hi
       | false=>rw [hn] at hk';cases hk'
      ·rename_i p' hs
       simp only [Option.some.injEq] at hi
       subst hi
       refine ih h hs (fun e st' a' w' nm' h' hk' hkt => ?_)
       cases hn:kR e with
       | true=>rw [hn] at hk';cases hk'
       | false=>
         rw [hn] at hk'
         simp only [cond_false,Option.some.injEq,Sum.inr.injEq] at hk'
         subst hk'
         exact qOf_then hn (hk e _ a' w' nm' (h'.restrict st) hkp fun he=>by rw [← ha0];exact hkt0.trans (hkt he))
      ·cases hi
   unfold execK at he
   split at he
   ·rename_i s hs
    obtain ⟨p,h1,h2⟩:=(hp (keyLoop c,.loop c) (by simp [kc,hs])) s hs ρ st k r he
    obtain ⟨m,hm⟩:=VB h1
    exact wpIn_loop_rounds m (key p h2 m h (by rw [ha0];exact KeepT.refl _ _) hm)
   ·obtain ⟨p,h1,h2⟩:=ju he
    obtain ⟨m,hm⟩:=VB h1
    exact wpIn_loop_rounds m (key p h2 m h (by rw [ha0];exact KeepT.refl _ _) hm)
 | rangeFunc g ps asg body _ ih=>
   intro hd hp w0 Z0 rd hrd ρ st a w nm k r Q h he hk
   obtain ⟨hrd,hcm⟩:rd=none∧Z0.calm=false:=hrd.resolve_right (by simp [Ym])
   subst hrd
   unfold execK at he
   split at he
   ·rename_i kd xs p t hseq hasg
    cases hb:(!Ym body && (ps.toList == [p]) && Nat.blt p G.n && Nat.blt t G.n && Nat.blt G.n JV && calmO st.objs) with
    | false=>rw [hb] at he;cases he
    | true=>
    rw [hb] at he
    simp only [cond_true] at he
    simp only [Bool.and_eq_true,Bool.not_eq_true',beq_iff_eq] at hb
    obtain ⟨⟨⟨⟨⟨hrb,hps⟩,hpn⟩,htn⟩,hsn⟩,hcalm⟩:=hb
    have hps:ps = #[p]:=by rw [← Array.toArray_toList (xs:=ps),hps]
    subst hps
    have hpn:p < G.n:=by simpa [Nat.blt_eq] using hpn
    have htn:t < G.n:=by simpa [Nat.blt_eq] using htn
    have hsn:G.n < JV:=by simpa [Nat.blt_eq] using hsn
    obtain ⟨q,m,hq,hkq⟩ : ∃ (q:Ex×St) (m:Nat),iterN (Uy G p t body) m ⟨ins JV (.one (.val (.sl (.int kd)) xs)) st.slots,st.objs⟩=some q∧k q.1 q.2=some r:=by
     split at he
     ·rename_i s hs
      obtain ⟨q,h1,h2⟩:=(hp (keyRange body,.range asg body) (by simp [kc,hs])) s hs p t hasg ρ _ k r he
      obtain ⟨m,hm⟩:=VB h1
      exact ⟨q,m,hm,h2⟩
     ·obtain ⟨q,h1,h2⟩:=ju he
      obtain ⟨m,hm⟩:=VB h1
      exact ⟨q,m,hm,h2⟩
    have ih:=@ih hd (fun p hq=>hp p (by simp only [kc,List.mem_append];exact .inr hq))
    obtain ⟨gf,lb,sc,x,hg,hsc,hlb,e1,e2,eg⟩:=seqOf_rd h hF.eqs hseq
    subst e1;subst e2
    have hZ : ∀ b,Zc w0 Z0 nm st.objs w b→b < w.heap.size:=fun b hb=>hb.1
    have hat:=hsc.2 w _ _ x hZ hlb
    have hbase:=h.rebase hcalm (a':={ tmps:=a.tmps,defers:=[] }) (df:=[]) rfl rfl
    have hsz:=h.size
    refine range_law hasg (by rw [hsz];exact hpn) hZ hg eg (by simpa using hat)
     (fun pre W => ∃ rest s m' nm',sc.L x=pre++rest∧iterN (Uy G p t body) m' s=some q∧look s.slots JV=some (.one (.val (.sl (.int sc.k)) rest))∧calmO s.objs=true ∧
      Rel G.n w (Vq w0 Z0 nm st w []) ⟨del JV s.slots,s.objs⟩ { tmps:=a.tmps,defers:=[] } W nm') ⟨_,_,m,nm,rfl,hq,by rw [Jl,if_pos rfl],hcalm,?_⟩ ?_ ?_ ?_ ?_
    ·refine hbase.slotsOf (sl:=del JV (ins JV _ st.slots)) fun t' d hl => ?_
     rw [look_del_ins,Vv] at hl
     split at hl
     ·cases hl
     ·exact hl
    ·rintro pre A B ⟨rest,s,m',nm',h1,h2,h3,h4,h5⟩ hs
     exact ⟨rest,s,m',nm',h1,h2,h3,h4,h5.grow hs⟩
    ·rintro pre A l o o' hl ⟨rest,s,m',nm',h1,h2,h3,h4,h5⟩ ho hc
     exact ⟨rest,s,m',nm',h1,h2,h3,h4,h5.turn ho hc hl (fun id ob hob _=>h5.noObj h4 ho hc hob) ⟨[],rfl,Marks.nil _ _ _⟩⟩
    ·rintro l pre y W ⟨rest,s,m',nm',h1,h2,h3,h4,h5⟩ ⟨r',hr'⟩
     have hrest:rest=y::r':=List.append_cancel_left (h1.symm.trans hr')
     subst hrest
     cases m' with
     | zero=>cases h2
     | succ m'=>
     simp only [iterN] at h2
     obtain ⟨fs,hfs⟩ : ∃ fs,Uy G p t body s=fs:=⟨_,rfl⟩
     rw [hfs] at h2
     unfold Uy at hfs
     rw [h3] at hfs
     simp only [List.isEmpty_cons,br] at hfs
     have hidx:idx (y::r') 0=some y:=rfl
     rw [hidx] at hfs
     simp only [bnd] at hfs
     cases fs with
     | none=>cases h2
     | some fs=>
     have hend:=h5.rebase h4 (a':={ tmps:=a.tmps,defers:=[] }) (df:=[]) rfl rfl
     have hput:=(hend.put hpn (d:=.one (.val (.int sc.k) y)) (v:=.int sc.k y) rfl).put htn (d:=.one (.val (.int sc.k) y)) (v:=.int sc.k y) rfl
     refine ih (some l) (.inr hrb) hput hfs ?_
     intro e st2 a2 W2 nm2 hr2 hk2 hkt2
     cases hb2:(kR e && calmO (onlyO s.objs st2.objs)) with
     | false=>rw [hb2] at hk2;cases hk2
     | true=>
     rw [hb2] at hk2
     simp only [cond_true,Option.some.injEq] at hk2
     subst hk2
     simp only [Bool.and_eq_true] at hb2
     obtain ⟨hb2,hc2⟩:=hb2
     have:e=0:=beqN.1 hb2
     subst this
     simp only at h2
     have hr3:Rel G.n W (Vq w (Vq w0 Z0 nm st w []) nm' ⟨del JV s.slots,s.objs⟩ W []) ⟨st2.slots,onlyO s.objs st2.objs⟩ a2 W2 nm2:=hr2.objsOf s.objs
     have hkt2:=hkt2 rfl
     have hnot : ∀ b,b < W.heap.size → ¬ owned nm' s.objs b→W2.heap[b]? = W.heap[b]?:=fun b hb hm=>hr2.same.block b hb hm
     show _∧_
     refine ⟨rfl,⟨hr2.same.size,fun j o hj ho => ?_⟩,fun b hb => ?_,r',_,m',nm2,by rw [hr',List.append_assoc];rfl,h2,by rw [Jl,if_pos rfl];rfl,hc2,?_⟩
     ·have hlt:=(Array.getElem?_eq_some_iff.1 hj).1
      rw [hnot j hlt ?_]
      ·exact hj
      ·rintro ⟨id,ob,hl,_,hb⟩
       exact h5.noObj h4 hj ho hl hb
     ·have hbW:b < W.heap.size:=Nat.lt_of_lt_of_le hb.1 h5.same.size
      refine hnot b hbW ?_
      rintro ⟨id,ob,hl,_,hb'⟩
      rcases (h5.new id ob b hl hb').1 with q1 | q1
      ·have:=hb.1;omega
      ·exact hb.2.2 q1
     ·refine h5.unbase (fun hh=>by cases hh) hr3 (sl:=del JV (ins JV _ (onlyP (fun t' => !memN t' (p::t::JV::wrC body)) st2.slots))) hsz ⟨[],rfl,Marks.nil _ _ _⟩ fun t' d hl => ?_
      rw [look_del_ins,Vv] at hl
      split at hl
      ·cases hl
      ·have q1:=VM _ _ _ hl
       have q2:=look_onlyP_true hl
       simp only [memN,Bool.not_eq_true',Bool.or_eq_false_iff] at q2
       obtain ⟨e1,e2,_,e4⟩:=q2
       obtain ⟨v,q3,q4⟩:=hr3.slots t' d q1
       refine ⟨v,?_,JU (Kept.weak fun b hb=>⟨h5.zc21 hb,rfl⟩) (DvOk.refl ..) q4⟩
       rw [hkt2 t' e4] at q3
       rw [← q3]
       show _=((a.tmps.setIfInBounds p _).setIfInBounds t _)[t']?
       rw [Array.getElem?_setIfInBounds_ne (Jb.1 e2),Array.getElem?_setIfInBounds_ne (Jb.1 e1)]
    ·rintro D W hD ⟨rest,s,m',nm',h1,h2,h3,h4,h5⟩ hdef
     have hrest:rest=[]:=by
      have:=congrArg List.length h1
      rw [List.length_append] at this
      exact List.eq_nil_of_length_eq_zero (by omega)
     subst hrest
     cases m' with
     | zero=>cases h2
     | succ m'=>
     simp only [iterN] at h2
     have hfs:Uy G p t body s=some (.inr (0,⟨del JV s.slots,s.objs⟩)):=by
      unfold Uy
      rw [h3]
      simp only [List.isEmpty_nil,br]
     rw [hfs] at h2
     simp only [Option.some.injEq] at h2
     subst h2
     refine hk 0 _ _ _ nm' (h.unbase (fun hh=>by rw [hcm] at hh;cases hh) h5 (sl:=del JV s.slots) (aN:={ a with defers:={ target:=.collected D,args:=#[] }::a.defers }) hsz ?_ fun t' d hl => ?_) hkq fun _=>fun _ _=>rfl
     ·obtain ⟨l,hl,ds,e1,e2,e3⟩:=h.defers
      refine ⟨{ target:=.collected D,args:=#[] }::l,by rw [hl];rfl,D::ds,by rw [e1];rfl,List.nodup_cons.2 ⟨fun hm => ?_,e2⟩,fun D' hD' => ?_⟩
      ·have:=(e3 D hm).2.1.1
       omega
      ·rcases List.mem_cons.1 hD' with rfl | hD'
       ·refine ⟨Nat.le_trans h.same.size hD,⟨(Array.getElem?_eq_some_iff.1 hdef).1,fun hlt => ?_,?_⟩,hdef⟩
        ·have:=h.same.size;omega
        ·rintro ⟨id,ob,hl,_,hb⟩
         exact h5.noObj h4 hdef rfl hl hb
       ·obtain ⟨f1,f2,f3⟩:=e3 D' hD'
        have hk12:=h.kept12 h5 D' f2
        exact ⟨f1,hk12.1,hk12.2.trans f3⟩
     ·obtain ⟨v,q3,q4⟩:=h5.slots t' d hl
      exact ⟨v,q3,JU (Kept.weak fun b hb=>⟨h.zc21 hb,rfl⟩) (DvOk.refl ..) q4⟩
   ·cases he
 | scope c _=>intro _ _ w0 Z0 rd hrd ρ st a w nm k r Q h he hk;unfold execK at he;cases he
 | goto l=>intro _ _ w0 Z0 rd hrd ρ st a w nm k r Q h he hk;unfold execK at he;cases he
 | refuse y=>intro _ _ w0 Z0 rd hrd ρ st a w nm k r Q h he hk;unfold execK at he;cases he
theorem look_begin : ∀ (ts:List Ty) (i:Nat) {x:dens ts} {vs:List Value} {Z:Nat→Prop} {w:World},YC w Z ts x vs →
 vs.length=ts.length ∧ ∀ t d,look (Ut i ts x) t=some d → ∃ j ty y v,t=i+j∧d = .one (.val ty y)∧vs[j]? = some v∧rdV w Z ty v y
 | [],i,x,vs,Z,w,h=>by
   have h:vs=[]:=h
   subst h
   exact ⟨rfl,fun t d hl=>by simp [Ut,look] at hl⟩
 | [ty],i,x,vs,Z,w,⟨v,e,h⟩=>by
   subst e
   refine ⟨rfl,fun t d hl => ?_⟩
   simp only [Ut,look] at hl
   cases hb:Nat.beq i t with
   | false=>rw [hb] at hl;cases hl
   | true=>
     rw [hb] at hl
     have:=beqN.1 hb
     subst this
     simp only [cond_true,Option.some.injEq] at hl
     exact ⟨0,ty,x,v,rfl,hl.symm,rfl,h⟩
 | ty::t'::ts,i,x,vs,Z,w,⟨v,r,e,h1,h2⟩=>by
   subst e
   obtain ⟨l1,l2⟩:=look_begin (t'::ts) (i+1) h2
   refine ⟨by simp [l1],fun t d hl => ?_⟩
   simp only [Ut,look] at hl
   cases hb:Nat.beq i t with
   | false=>
     rw [hb] at hl
     simp only [cond_false] at hl
     obtain ⟨j,ty',y,v',q1,q2,q3,q4⟩:=l2 t d hl
     exact ⟨j+1,ty',y,v',by omega,q2,by simpa using q3,q4⟩
   | true=>
     rw [hb] at hl
     have:=beqN.1 hb
     subst this
     simp only [cond_true,Option.some.injEq] at hl
     exact ⟨0,ty,x.1,v,rfl,hl.symm,rfl,h1⟩
theorem Vy (hT:TabOk P G.tab) {n:Nat} {st:St} {a:Act} {w:World} {nm:Names} (h:Rel n w0 Z0 st a w nm) : ∀ (rv:List ResultVar) {ρ:Type} {k:List Dv→Option ρ} {r:ρ},resK G st rv k=some r →
 ∃ (l:List Dv) (vs:List Value),k l=some r∧(rv.mapM fun (x:ResultVar)=>match x with
  | .tmp t=>(pure (a.tmps.getD t undef):Sem Value)
  | .cell p t=>do loadVar t (← asAddr (a.tmps.getD p undef))).run P w = .ok vs w∧vs.length=l.length ∧ ∀ (i:Nat) d v,l[i]? = some d→vs[i]? = some v→rdD w (Zc w0 Z0 nm st.objs w) nm st.objs d v
 | [],_,k,r,he=>⟨[],[],he,rfl,rfl,fun i d v q _=>by simp at q⟩
 | .tmp t::rv,_,k,r,he=>by
   simp only [resK] at he
   split at he
   ·rename_i d h1
    obtain ⟨l,vs,he,q1,q2,q3⟩:=Vy hT h rv he
    obtain ⟨v,s1,s2⟩:=h.slots t d h1
    refine ⟨_,v::vs,he,?_,by simp [q2],fun i d' v' p1 p2 => ?_⟩
    ·have hg:a.tmps.getD t undef=v:=by simp [s1]
     rw [List.mapM_cons]
     simp only [Sem.run_bind,Sem.run_pure,hg,Result.andThen_ok,q1]
    ·cases i with
     | zero=>simp at p1 p2;subst p1;subst p2;exact s2
     | succ i=>exact q3 i d' v' (by simpa using p1) (by simpa using p2)
   ·cases he
 | .cell p t::rv,_,k,r,he=>by
   simp only [resK] at he
   split at he
   ·rename_i ti id h1 h2
    obtain ⟨v,s1,s2⟩:=h.slots p _ h2
    split at he
    ·rename_i cs hob
     obtain ⟨b,e1,e2⟩:=s2.2 cs hob
     subst e2
     obtain ⟨b',vs',T,p1,p2,p3,p4⟩:=h.objs id _ hob
     rw [e1] at p1
     cases p1
     have hcell : ∀ j,w.cell? ⟨b,j,none⟩=vs'[j]?:=fun j=>cell_of_row w b j vs' T (0,0) p2
     have hag:=(hT _ _ h1).agg w
     have hsz:=(hT _ _ h1).sizeOf w
     cases hst:ti.ty.isSt with
     | true=>
       rw [hst] at he hag
       simp only [cond_true] at he
       cases hle:Nat.ble ti.ty.cells cs.length with
       | false=>rw [hle] at he;cases he
       | true=>
         rw [hle] at he
         have hle:=Nat.le_of_ble_eq_true hle
         simp only [cond_true] at he
         obtain ⟨l,vs,he,q1,q2,q3⟩:=Vy hT h rv he
         have hl:=run_loadCells_list (P:=P) (w:=w) ⟨b,0,none⟩ (vs'.toList.take ti.ty.cells) (fun j v hj=>by
          rw [Addr.add_lit,Nat.zero_add,hcell,← Array.getElem?_toList]
          rw [List.getElem?_take] at hj
          split at hj
          ·exact hj
          ·cases hj)
         have hln:(vs'.toList.take ti.ty.cells).length=ti.ty.cells:=by rw [List.length_take,p3.1];omega
         rw [hln] at hl
         refine ⟨_,.agg (vs'.toList.take ti.ty.cells).toArray::vs,he,?_,by simp [q2],fun i d' v' r1 r2 => ?_⟩
         ·have hg:a.tmps.getD p undef = .pointer (some ⟨b,0,none⟩):=by simp [s1]
          have hA:(asAddr (.pointer (some ⟨b,0,none⟩))).run P w = .ok ⟨b,0,none⟩ w:=rfl
          have hLV:(loadVar t ⟨b,0,none⟩).run P w = .ok (.agg (vs'.toList.take ti.ty.cells).toArray) w:=by
           simp [loadVar,hag,hsz,hl]
          rw [List.mapM_cons]
          simp only [Sem.run_bind,Sem.run_pure,hg,Result.andThen_ok,hA,hLV,q1]
         ·cases i with
          | zero=>
            simp at r1 r2;subst r1;subst r2
            exact ⟨_,rfl,VD p3 ti.ty.cells,fun u hu=>p4.1 u (List.mem_of_mem_take hu)⟩
          | succ i=>exact q3 i d' v' (by simpa using r1) (by simpa using r2)
     | false=>
       rw [hst] at he hag
       simp only [cond_false] at he
       split at he
       ·rename_i x hx
        obtain ⟨l,vs,he,q1,q2,q3⟩:=Vy hT h rv he
        have hlt:0 < vs'.toList.length:=by rw [p3.1];exact (List.getElem?_eq_some_iff.1 hx).1
        have hv:vs'.toList[0]? = some vs'.toList[0]:=List.getElem?_eq_getElem hlt
        have hc0:=hcell 0
        rw [← Array.getElem?_toList,hv] at hc0
        refine ⟨_,vs'.toList[0]::vs,he,?_,by simp [q2],fun i d' v' r1 r2 => ?_⟩
        ·have hg:a.tmps.getD p undef = .pointer (some ⟨b,0,none⟩):=by simp [s1]
         have hA:(asAddr (.pointer (some ⟨b,0,none⟩))).run P w = .ok ⟨b,0,none⟩ w:=rfl
         have hLV:(loadVar t ⟨b,0,none⟩).run P w = .ok vs'.toList[0] w:=by
          simp [loadVar,hag,hc0]
         rw [List.mapM_cons]
         simp only [Sem.run_bind,Sem.run_pure,hg,Result.andThen_ok,hA,hLV,q1]
        ·cases i with
         | zero=>simp at r1 r2;subst r1;subst r2;exact p3.2 0 x _ hx hv
         | succ i=>exact q3 i d' v' (by simpa using r1) (by simpa using r2)
       ·cases he
    ·cases he
   ·
    rename_i m s' n' e' id ver h1 h2
    obtain ⟨v,s1,s2⟩:=h.slots p _ h2
    split at he
    ·rename_i v0 fz e s xs hob
     split at he
     ·rename_i hs
      subst hs
      cases hv:Nat.beq v0 ver with
      | false=>rw [hv] at he;cases he
      | true=>
        rw [hv] at he
        have:=beqN.1 hv
        subst this
        simp only [cond_true] at he
        obtain ⟨_,hb,he⟩:=ju he
        have hb:=of_decide_eq_true (JB hb)
        obtain ⟨l,vs,he,q1,q2,q3⟩:=Vy hT h rv he
        obtain ⟨b,mm,c,s4,s5⟩:=s2.2 fz e s xs hob
        obtain ⟨_,cells,t1,t2⟩:=(h.objs id _ hob).of s4
        rcases t1.2 with ⟨t3,_⟩ | ⟨g,cap,cur,t3,t4,t5,t6,t7,t8⟩
        ·rw [s4] at t3;cases t3
        rw [s4] at t3
        cases t3
        have hcell : ∀ k u,cells[k]? = some u→w.cell? ⟨b,k,none⟩=some u:=by
         intro k u hk
         rw [t4.cell,← Array.getElem?_toList]
         rw [← t8,List.getElem?_take] at hk
         split at hk
         ·exact hk
         ·cases hk
        obtain ⟨v',l1,l2⟩:=kG (P:=P) (w:=w) (hT _ _ h1) (cs:=cells) (d:=xs) ⟨hb,t2⟩ (kq (hT _ _ h1)) (b:=b) (q:=0) (fun k u hk=>by rw [Nat.zero_add];exact hcell k u hk)
        refine ⟨_,v'::vs,he,?_,by simp [q2],fun i d' v2 r1 r2 => ?_⟩
        ·have hg:a.tmps.getD p undef = .pointer (some ⟨b,0,none⟩):=by simp [s1,s5]
         have hA:(asAddr (.pointer (some ⟨b,0,none⟩))).run P w = .ok ⟨b,0,none⟩ w:=rfl
         have hLV:(loadVar t ⟨b,0,none⟩).run P w = .ok v' w:=by simpa [Instr.loadAt,Instr.sureAddr] using l1
         rw [List.mapM_cons]
         simp only [Sem.run_bind,Sem.run_pure,hg,Result.andThen_ok,hA,hLV,q1]
        ·cases i with
         | zero=>simp at r1 r2;subst r1;subst r2;exact l2
         | succ i=>exact q3 i d' v2 (by simpa using r1) (by simpa using r2)
     ·cases he
    ·cases he
   ·
    rename_i s' fs id ver h1 h2
    obtain ⟨v,s1,s2⟩:=h.slots p _ h2
    split at he
    ·rename_i v0 fz e s xs hob
     split at he
     ·rename_i hs
      subst hs
      cases hv:Nat.beq v0 ver with
      | false=>rw [hv] at he;cases he
      | true=>
        rw [hv] at he
        have:=beqN.1 hv
        subst this
        simp only [cond_true] at he
        obtain ⟨y,hy,he⟩:=ju he
        obtain ⟨i1,i2,i3⟩:=JQ hy
        obtain ⟨l,vs,he,q1,q2,q3⟩:=Vy hT h rv he
        obtain ⟨b,mm,c,s4,s5⟩:=s2.2 fz e (.st s') xs hob
        obtain ⟨_,cells,t1,t2⟩:=(h.objs id _ hob).of s4
        rcases t1.2 with ⟨t3,_⟩ | ⟨g,cap,cur,t3,t4,t5,t6,t7,t8⟩
        ·rw [s4] at t3;cases t3
        rw [s4] at t3
        cases t3
        obtain ⟨c1,c2,c3,r1,r2,r3,_⟩:=kI (fun _ _=>Ji (.st s')) t2 i3
        have hz:c1=[]:=List.eq_nil_of_length_eq_zero (by rw [r2];simp)
        subst hz
        have hcell : ∀ k u,c2[k]? = some u→w.cell? ⟨b,k,none⟩=some u:=by
         intro k u hk
         rw [t4.cell,← Array.getElem?_toList]
         have hk':cells[k]? = some u:=by
          rw [r1,List.nil_append,List.getElem?_append_left (List.getElem?_eq_some_iff.1 hk).1]
          exact hk
         rw [← t8,List.getElem?_take] at hk'
         split at hk'
         ·exact hk'
         ·cases hk'
        obtain ⟨v',l1,l2⟩:=kG (P:=P) (w:=w) (hT _ _ h1) (cs:=c2) (d:=y) r3 (kq (hT _ _ h1)) (b:=b) (q:=0) (fun k u hk=>by rw [Nat.zero_add];exact hcell k u hk)
        refine ⟨_,v'::vs,he,?_,by simp [q2],fun i d' v2 r1 r2 => ?_⟩
        ·have hg:a.tmps.getD p undef = .pointer (some ⟨b,0,none⟩):=by simp [s1,s5]
         have hA:(asAddr (.pointer (some ⟨b,0,none⟩))).run P w = .ok ⟨b,0,none⟩ w:=rfl
         have hLV:(loadVar t ⟨b,0,none⟩).run P w = .ok v' w:=by simpa [Instr.loadAt,Instr.sureAddr] using l1
         rw [List.mapM_cons]
         simp only [Sem.run_bind,Sem.run_pure,hg,Result.andThen_ok,hA,hLV,q1]
        ·cases i with
         | zero=>simp at r1 r2;subst r1;subst r2;exact l2
         | succ i=>exact q3 i d' v2 (by simpa using r1) (by simpa using r2)
     ·cases he
    ·cases he
   ·cases he
theorem resArgs_rd {n:Nat} {st:St} {a:Act} {w:World} {nm:Names} (h:Rel n w0 Z0 st a w nm) {ts:List Ty} {ds:List Dv} {x:dens ts} {u:Upd} (he:args (look st.objs) ts ds=some (x,u))
 {vs:List Value} (hl:vs.length=ds.length) (hr : ∀ (i:Nat) d v,ds[i]? = some d→vs[i]? = some v→rdD w (Zc w0 Z0 nm st.objs w) nm st.objs d v) : ∃ Z,(∀ b,Z b→b < w.heap.size∧(b < w0.heap.size→Z0.z b∨Z0.m b))∧YC w Z ts x vs:=by
 obtain ⟨fu,frd⟩:=args_rd (n:=n) (w0:=w0) (w:=w) (Z0:=Z0) (a:=a) (nm:=nm) ts he
 obtain ⟨st1,hl1⟩:=FzUpd.lays u h fu
 obtain ⟨hrel,hfz,hcold⟩:=Rel.freezes u h fu hl1
 have hk1:Kept w w (Zc w0 Z0 nm st.objs w) (Zc w0 Z0 nm st1.objs w):=fun b hb=>⟨hfz.zc hb,rfl⟩
 exact ⟨Zc w0 Z0 nm st1.objs w,fun b hb=>⟨hb.1,hb.2.1⟩,frd st1 ⟨hfz,hrel,hcold⟩ vs hl (fun i d v q1 q2=>JU hk1 (DvOk.refl _ _ _) (hr i d v q1 q2))⟩
theorem den_calls (hT:TabOk P G.tab) (hF:AllOk P G) (hm:P.follows .mixedOrders=true) {f:FuncId} {fn:Func} {c:Code} {ps rs:List Ty} (hf:P.funcs[f]? = some fn) (hb:fn.body=some c) (hn:fn.ntmps=G.n) (hps:ps.length≤G.n)
 (hrs:fn.results.toList.length=rs.length) (hd:kN G c=true) (hp : ∀ p∈kc G.cks c,YZ G p.1 p.2)
 (w:World) (Z:Nat→Prop) (vs:List Value) (x:dens ps) (r:dens rs) (hg:GInv.ok w) (hZ : ∀ b,Z b→b < w.heap.size) (hargs:YC w Z ps x vs) (he:den G fn ps rs x=some r) :
 Calls P f vs.toArray w fun e w' => ∃ v,e = .returned v∧Same w w'∧rdRes w' (UL w w' Z) rs r v:=by
 refine callsIn_wide.1 (show CallsIn (Fr none) 0 P f vs.toArray w _ from callsIn_of_wp_marks hf hb trivial ?_ rfl)
 unfold den at he
 rw [hb] at he
 simp only at he
 obtain ⟨l1,l2⟩:=look_begin ps 0 hargs
 have hrel:Rel G.n w ⟨Z,fun _=>False,fun _=>undef,[],false⟩ ⟨Ut 0 ps x,[]⟩ { tmps:=vs.toArray++Array.replicate (fn.ntmps - vs.toArray.size) undef,defers:=[] } w (fun _=>undef):=by
  refine ⟨⟨[],rfl,Marks.nil _ _ _⟩,by simp [hn];omega,fun t d hl => ?_,fun id ob hl=>by simp [look] at hl,fun id ob b hl=>by simp [look] at hl,fun id id' ob ob' b hl=>by simp [look] at hl,SameBut.refl _ w,fun id ob _ hl=>by simp [look] at hl,⟨hg,fun b hb=>hb.elim⟩,fun hh=>(by cases hh)⟩
  obtain ⟨j,ty,y,v,rfl,rfl,q3,q4⟩:=l2 t d hl
  have hj:j < vs.length:=(List.getElem?_eq_some_iff.1 q3).1
  refine ⟨v,?_,Vx (fun b hb=>⟨⟨hZ b hb,fun _ => .inl hb,?_⟩,fun _ _ hu=>hu⟩) q4⟩
  ·rw [Nat.zero_add,Array.getElem?_append_left (by simpa using hj)]
   simpa using q3
  ·rintro ⟨id,ob,h1,_⟩
   simp [look] at h1
 refine execK_sound hT hF hm c hd hp none (.inl ⟨rfl,rfl⟩) hrel he ?_
 intro e st' a' w' nm' h1' hk1 _
 have key : ∀ w',Rel G.n w ⟨Z,fun _=>False,fun _=>undef,[],false⟩ st' { tmps:=a'.tmps,defers:=[] } w' nm'→Nat.blt e 2=true∧LeavesIn (Fr none) 0 P fn a'.tmps (fun e w' => ∃ v,e = .returned v∧Same w w'∧rdRes w' (UL w w' Z) rs r v) [] .returning w':=by
  intro w' h'
  have hk:=hk1
  unfold finish at hk
  cases hlt:Nat.blt e 2 with
  | false=>rw [hlt] at hk;cases hk
  | true=>
   refine ⟨rfl,?_⟩
   rw [hlt] at hk
   simp only [cond_true] at hk
   obtain ⟨l,rvs,hk,q1,q2,q3⟩:=Vy hT h' fn.results.toList hk
   ·split at hk
    ·rename_i x' u hx
     simp only [Option.some.injEq] at hk
     subst hk
     obtain ⟨Z1,hz1,hr1⟩:=resArgs_rd h' hx q2 q3
     have hk1:Kept w' w' Z1 (UL w w' Z):=fun b hb=>⟨by
      have:=hz1 b hb
      by_cases hlt:b < w.heap.size
      ·exact .inl ((this.2 hlt).resolve_right id)
      ·exact .inr ⟨by omega,this.1⟩,rfl⟩
     have hr2:=rdArgs_mono hk1 rs hr1
     have hrun:(results fn a'.tmps).run P w' = .ok (if h:rvs.toArray.size=1 then rvs.toArray[0] else .tuple rvs.toArray) w':=by
      unfold results
      rw [Array.mapM_eq_mapM_toList]
      simp only [Sem.run_bind,Sem.run_map]
      erw [q1]
      simp only [Result.andThen_ok,Sem.run_pure]
     have hpost : ∃ v,(results fn a'.tmps).run P w' = .ok v w' ∧ ∃ v',Ending.returned v = .returned v'∧Same w w'∧rdRes w' (UL w w' Z) rs x' v':=by
      refine ⟨_,hrun,_,rfl,⟨h'.same.os,h'.same.tape,h'.same.output,h'.same.size,fun b hb=>h'.same.block b hb id⟩,?_⟩
      match rs,x',hr2 with
      | [],x',h => 
        have h0:rvs=[]:=h
        subst h0
        exact ⟨#[],rfl,rfl⟩
      | [t],x',⟨v,e,h⟩=>subst e;exact h
      | t::t'::ts,x',h=>
        have hln:=(look_begin (t::t'::ts) 0 h).1
        obtain ⟨v,r,e,h1,h2⟩:=h
        have hne : ¬ rvs.toArray.size=1:=by
         simp only [List.size_toArray,hln,List.length_cons]
         omega
        rw [dif_neg hne]
        exact ⟨_,rfl,v,r,e,h1,h2⟩
     exact hpost
    ·cases hk
 have hl:=h1'.leaves (P:=P) (fn:=fn) rfl (u:=.returning) (by simp) fun w2 h2=>(key w2 h2).2
 match e,(key w' (h1'.bare rfl)).1 with
 | 0,_=>exact hl
 | 1,_=>exact hl
 | n+2,h=>rw [Nat.blt_eq] at h;omega
theorem slotsFrom_at : ∀ {l:List (Nat×SD)} {i:Nat} {x:densU (SS.tys l)} {t:Nat} {d:Dv},Un i l=true→look (SS.inj l x) t=some d → ∃ j,t=i+j∧(SS.inj l x)[j]? = some (t,d)
 | [],i,x,t,d,_,h=>by simp [SS.inj,look] at h
 | p::r,i,x,t,d,hs,h=>by
   simp only [Un,Bool.and_eq_true] at hs
   simp only [SS.inj,look] at h
   cases hb:Nat.beq p.1 t with
   | true=>
     rw [hb] at h
     simp only [cond_true,Option.some.injEq] at h
     have e1:=beqN.1 hb
     have e2:=beqN.1 hs.1
     exact ⟨0,by omega,by simp [SS.inj,h,e1]⟩
   | false=>
     rw [hb] at h
     obtain ⟨j,h1,h2⟩:=slotsFrom_at hs.2 h
     exact ⟨j+1,by omega,by simpa [SS.inj] using h2⟩
theorem selfR_look : ∀ {l:List (Nat×SO)} {j i:Nat},look (selfR l) j=some i→i=j
 | [],j,i,h=>by simp [selfR,look] at h
 | p::r,j,i,h=>by
   simp only [selfR,look] at h
   cases hb:Nat.beq p.1 j with
   | true=>rw [hb] at h;simp only [cond_true,Option.some.injEq] at h;rw [← h];exact beqN.1 hb
   | false=>rw [hb] at h;exact selfR_look h
theorem mpost {w w':World} {Z:Nat→Prop} {nm nm':Names} {pre:Shape} {x:densU pre.tys} {st':St} {a':Act} (h':Rel G.n w (Bs.of Z nm (pre.inj x).objs) st' a' w' nm')
 {post:Shape} {l:List Dv} {y':densU post.tys} {u:Upd} {σ:Ren} (hbi:Ye (look st'.objs) (selfR pre.objs) post l=some (y',u,σ)) (hko:keepOk (look st'.objs) σ=true)
 {rvs:List Value} (q2:rvs.length=l.length) (q3 : ∀ (i:Nat) d v,l[i]? = some d→rvs[i]? = some v→rdD w' (Zc w (Bs.of Z nm (pre.inj x).objs) nm' st'.objs w') nm' st'.objs d v) :
 ∃ nm2,Post w w' (Bs.of Z nm (pre.inj x).objs) nm2 (post.inj y') (if h:rvs.toArray.size=1 then rvs.toArray[0] else .tuple rvs.toArray):=by
 have hself:InjR (selfR pre.objs):=fun j j' i h1 h2=>(selfR_look h1).symm.trans (selfR_look h2)
 obtain ⟨fu,_,hi,l3,hall⟩:=bindAll_ok h' hbi hself
 obtain ⟨st1,hl1⟩:=FzUpd.lays u h' fu
 obtain ⟨hrel1,hfz,m,hrd⟩:=hall st1 hl1
 have hown : ∀ b,owned (nmT nm' σ) (post.inj y').objs b→owned nm' st1.objs b:=by
  rintro b ⟨j,obT,h1,h2,h3⟩
  obtain ⟨i,ob,p1,p2,_,p3,_⟩:=m j obT h1
  rw [kw p1] at h3
  exact ⟨i,ob,p2,p3 (fun hg=>by rw [hg] at h2;cases h2),h3⟩
 obtain ⟨r1,r2⟩:=hrd (Zc w (Bs.of Z nm (pre.inj x).objs) (nmT nm' σ) (post.inj y').objs w') (fun b hb=>⟨hb.1,hb.2.1,fun hh=>hb.2.2 (hown b hh)⟩)
 have r3:=r2 rvs q2 q3
 have hsl:(post.inj y').slots.length=post.slots.length:=by
  show (SS.inj post.slots _).length=_
  have : ∀ (l:List (Nat×SD)) (y:densU (SS.tys l)),(SS.inj l y).length=l.length:=by
   intro l
   induction l with
   | nil=>intro y;rfl
   | cons p l ih=>intro y;simp [SS.inj,ih]
  exact this _ _
 have hrl:rvs.length=(post.inj y').slots.length:=by rw [hsl,q2,l3]
 refine ⟨nmT nm' σ,h'.same,?_,r1,fun j obT b ho hb => ?_,fun j j' obT obT' b ho ho' hb hb' => ?_,fun j obT hg ho => ?_,fun j obT ho => ?_⟩
 ·unfold rdAns
  split
  ·rename_i p hp1
   rw [hp1] at hrl
   obtain ⟨v,rfl⟩:=List.length_eq_one_iff.1 hrl
   exact r3 0 p v (by rw [hp1];rfl) rfl
  ·rename_i hp1
   have hne : ¬ rvs.toArray.size=1:=by
    simp only [List.size_toArray]
    intro h1
    rw [h1] at hrl
    match hsls:(post.inj y').slots,hrl with
    | [p],_=>exact hp1 p hsls
   rw [dif_neg hne]
   exact ⟨_,rfl,hrl,r3⟩
 ·obtain ⟨i,ob,p1,p2,_⟩:=m j obT ho
  rw [kw p1] at hb
  exact hrel1.new i ob b p2 hb
 ·obtain ⟨i,ob,p1,p2,_⟩:=m j obT ho
  obtain ⟨i',ob',p1',p2',_⟩:=m j' obT' ho'
  rw [kw p1] at hb
  rw [kw p1'] at hb'
  have:=hrel1.inj i i' ob ob' b p2 p2' hb hb'
  subst this
  exact hi j j' i p1 p1'
 ·obtain ⟨i,ob,p1,p2,p3,_,_,p4,p5,p6,p7⟩:=m j obT ho
  have hq:=List.all_eq_true.1 hko (j,i) (ky p1)
  simp only [Bool.or_eq_true,Bool.and_eq_true,Nat.blt_eq] at hq
  rcases hq with hq | ⟨hq,hq2⟩
  ·omega
  ·have:=beqN.1 hq
   subst this
   rw [kw p1]
   have hgv:=hrel1.given j ob hg p2
   cases obT with
   | gone=>exact ⟨fun hh=>hh.elim,fun hh=>hh.elim⟩
   | box cs=>obtain ⟨cs',e1⟩:=p5 cs rfl;subst e1;exact hgv
   | clo f y z=>obtain ⟨y',z',e1⟩:=p6 f y z rfl;subst e1;exact hgv
   | arr v fz e t xs=>
     obtain ⟨e0,v',e1⟩:=p4 v fz e t xs rfl
     subst e1
     refine ⟨fun hh=>hgv.1 ⟨hh.1,?_⟩,fun hh=>hh.elim⟩
     have hh1:=hh.1
     rcases hq2 with hq2 | hq2
     ·omega
     ·rw [p3] at hq2
      exact beqN.1 hq2
   | deep v fz e te t xs hole=>
     obtain ⟨e0,_,v',e1⟩:=p7 v fz e te t xs hole rfl
     subst e1
     refine ⟨fun hh=>hh.elim,fun hh=>hgv.2 ⟨hh.1,?_⟩⟩
     have hh1:=hh.1
     rcases hq2 with hq2 | hq2
     ·omega
     ·rw [p3] at hq2
      exact beqN.1 hq2
 ·obtain ⟨i,ob,_,_,_,_,p,_⟩:=m j obT ho
  exact p
theorem den_mcalls (hT:TabOk P G.tab) (hF:AllOk P G) (hm:P.follows .mixedOrders=true) {f:FuncId} {fn:Func} {c:Code} {pre post:Shape} (hf:P.funcs[f]? = some fn) (hb:fn.body=some c) (hn:fn.ntmps=G.n)
 (hps:pre.slots.length≤G.n) (hs:Un 0 pre.slots=true) (hd:kN G c=true) (hp : ∀ p∈kc G.cks c,YZ G p.1 p.2)
 (w:World) (Z:Nat→Prop) (nm:Names) (vs:List Value) (x:densU pre.tys) (y:densU post.tys) (hpre:Pre w Z nm (pre.inj x) vs) (he:denM G fn pre post x=some y) :
 Calls P f vs.toArray w fun e w' => ∃ v nm',e = .returned v∧Post w w' (Bs.of Z nm (pre.inj x).objs) nm' (post.inj y) v:=by
 refine callsIn_wide.1 (show CallsIn (Fr none) 0 P f vs.toArray w _ from callsIn_of_wp_marks hf hb trivial ?_ rfl)
 unfold denM at he
 rw [hb] at he
 simp only at he
 have hlen:vs.length=pre.slots.length:=by
  rw [hpre.len]
  show (SS.inj pre.slots _).length=_
  have : ∀ (l:List (Nat×SD)) (y:densU (SS.tys l)),(SS.inj l y).length=l.length:=by
   intro l
   induction l with
   | nil=>intro y;rfl
   | cons p l ih=>intro y;simp [SS.inj,ih]
  exact this _ _
 have hrel:Rel G.n w (Bs.of Z nm (pre.inj x).objs) (pre.inj x) { tmps:=vs.toArray++Array.replicate (fn.ntmps - vs.toArray.size) undef,defers:=[] } w nm:=by
  refine ⟨⟨[],rfl,Marks.nil _ _ _⟩,by simp [hn];omega,fun t d hl => ?_,hpre.objs,fun id ob b ho hb=>⟨.inr ⟨id,ob,ho,hpre.mine id ob ho,hb⟩,hpre.lt id ob b ho hb⟩,hpre.inj,SameBut.refl _ w,fun id ob _ _=>⟨fun _=>rfl,fun _=>rfl⟩,hpre.glob,fun hh=>(by cases hh)⟩
  obtain ⟨j,e1,e2⟩:=slotsFrom_at (l:=pre.slots) hs hl
  rw [Nat.zero_add] at e1
  subst e1
  have hj:t < vs.length:=by
   have:=(List.getElem?_eq_some_iff.1 e2).1
   rw [hpre.len]
   exact this
  have hv:vs[t]? = some vs[t]:=List.getElem?_eq_getElem hj
  refine ⟨vs[t],?_,hpre.slots t (t,d) _ e2 hv⟩
  rw [Array.getElem?_append_left (by simpa using hj)]
  simp
 refine execK_sound hT hF hm c hd hp none (.inl ⟨rfl,rfl⟩) hrel he ?_
 intro e st' a' w' nm' h1' hk1 _
 have key : ∀ w',Rel G.n w (Bs.of Z nm (pre.inj x).objs) st' { tmps:=a'.tmps,defers:=[] } w' nm'→Nat.blt e 2=true∧LeavesIn (Fr none) 0 P fn a'.tmps (fun e w' => ∃ v nm',e = .returned v∧Post w w' (Bs.of Z nm (pre.inj x).objs) nm' (post.inj y) v) [] .returning w':=by
  intro w' h'
  have hk:=hk1
  unfold finishM at hk
  cases hlt:Nat.blt e 2 with
  | false=>rw [hlt] at hk;cases hk
  | true=>
   refine ⟨rfl,?_⟩
   rw [hlt] at hk
   simp only [cond_true] at hk
   obtain ⟨l,rvs,hk,q1,q2,q3⟩:=Vy hT h' fn.results.toList hk
   ·split at hk
    ·rename_i y' u σ hbi
     cases hko:keepOk (look st'.objs) σ with
     | false=>rw [hko] at hk;cases hk
     | true=>
     rw [hko] at hk
     simp only [cond_true,Option.some.injEq] at hk
     subst hk
     obtain ⟨nm2,hp2⟩:=mpost h' hbi hko q2 q3
     have hrun:(results fn a'.tmps).run P w' = .ok (if h:rvs.toArray.size=1 then rvs.toArray[0] else .tuple rvs.toArray) w':=by
      unfold results
      rw [Array.mapM_eq_mapM_toList]
      simp only [Sem.run_bind,Sem.run_map]
      erw [q1]
      simp only [Result.andThen_ok,Sem.run_pure]
     exact ⟨_,hrun,_,nm2,rfl,hp2⟩
    ·cases hk
 have hl:=h1'.leaves (P:=P) (fn:=fn) rfl (u:=.returning) (by simp) fun w2 h2=>(key w2 h2).2
 match e,(key w' (h1'.bare rfl)).1 with
 | 0,_=>exact hl
 | 1,_=>exact hl
 | n+2,h=>rw [Nat.blt_eq] at h;omega
end
end Go.Ql
end

section
set_option linter.unusedSectionVars false
namespace Go.Ql
abbrev Ret:=fun (e:Ex) (s:St)=>some (e,s)
theorem SA.inj_proj : ∀ (s:SA) {a:At} {x:densU s.tys},s.proj a=some x→a=s.inj x:=by
 intro s a x h
 cases s <;> cases a <;> simp only [SA.proj,reduceCtorEq] at h
 ·split at h
  ·rename_i h1;subst h1;cases h;rfl
  ·cases h
 ·rfl
 ·rename_i i o j p
  cases hb:Nat.beq i j && Nat.beq o p with
  | true=>
    simp only [Bool.and_eq_true] at hb
    rw [beqN.1 hb.1,beqN.1 hb.2]
  | false=>rw [hb] at h;cases h
 ·rename_i i o j p
  cases hb:Nat.beq i j && Nat.beq o p with
  | true=>
    simp only [Bool.and_eq_true] at hb
    rw [beqN.1 hb.1,beqN.1 hb.2]
  | false=>rw [hb] at h;cases h
 ·rename_i i o j p lo m
  cases hb:Nat.beq i j && Nat.beq o p with
  | true=>
    rw [hb] at h
    simp only [Bool.and_eq_true] at hb
    rw [beqN.1 hb.1,beqN.1 hb.2]
    cases h
    rfl
  | false=>rw [hb] at h;cases h
 ·split at h
  ·rename_i h1;subst h1;cases h;rfl
  ·cases h
 ·rename_i i j
  cases hb:Nat.beq i j with
  | true=>rw [beqN.1 hb]
  | false=>rw [hb] at h;cases h
 ·rename_i i j
  cases hb:Nat.beq i j with
  | true=>rw [beqN.1 hb]
  | false=>rw [hb] at h;cases h
 ·rename_i i o j p
  cases hb:Nat.beq i j && Nat.beq o p with
  | true=>
    simp only [Bool.and_eq_true] at hb
    rw [beqN.1 hb.1,beqN.1 hb.2]
  | false=>rw [hb] at h;cases h
 ·rename_i i o j p
  cases hb:Nat.beq i j && Nat.beq o p with
  | true=>
    simp only [Bool.and_eq_true] at hb
    rw [beqN.1 hb.1,beqN.1 hb.2]
  | false=>rw [hb] at h;cases h
 ·rfl
 ·rename_i i o j p
  cases hb:Nat.beq i j && Nat.beq o p with
  | true=>
    simp only [Bool.and_eq_true] at hb
    rw [beqN.1 hb.1,beqN.1 hb.2]
  | false=>rw [hb] at h;cases h
theorem SL.inj_proj : ∀ (s:List SA) {a:List At} {x:densU (SL.tys s)},SL.proj s a=some x→a=SL.inj s x
 | [],[],x,h=>rfl
 | [],_::_,x,h=>by cases h
 | _::_,[],x,h=>by cases h
 | s::r,a::b,x,h=>by
   simp only [SL.proj] at h
   split at h
   ·rename_i y z h1 h2
    cases h
    show _=s.inj (fstU _ _ _)::SL.inj r (sndU _ _ _)
    rw [Yv,Yy,← SA.inj_proj s h1,← SL.inj_proj r h2]
   ·cases h
theorem SD.inj_proj : ∀ (s:SD) {a:Dv} {x:densU s.tys},s.proj a=some x→a=s.inj x
 | .one a,.one b,x,h=>congrArg Dv.one (SA.inj_proj a h)
 | .agg a,.agg b,x,h=>congrArg Dv.agg (SL.inj_proj a h)
 | .tup a,.tup b,x,h=>congrArg Dv.tup (SL.inj_proj a h)
 | .one _,.agg _,x,h=>by cases h
 | .one _,.tup _,x,h=>by cases h
 | .agg _,.one _,x,h=>by cases h
 | .agg _,.tup _,x,h=>by cases h
 | .tup _,.one _,x,h=>by cases h
 | .tup _,.agg _,x,h=>by cases h
 | .one _,.tgg _ _,x,h=>by cases h
 | .agg _,.tgg _ _,x,h=>by cases h
 | .tup _,.tgg _ _,x,h=>by cases h
theorem SO.inj_proj (s:SO) {a:Ob} {x:densU s.tys} (h:s.proj a=some x):a=s.inj x:=by
 cases s with
 | box cs=>
   cases a with
   | box b=>exact congrArg Ob.box (SL.inj_proj cs h)
   | arr v f e t xs=>cases h
   | clo f p q=>cases h
   | gone=>cases h
   | deep=>cases h
 | gone=>
   cases a with
   | gone=>rfl
   | deep=>cases h
   | box b=>cases h
   | arr v f e t xs=>cases h
   | clo f p q=>cases h
 | arr v f e t=>
   cases a with
   | box b=>cases h
   | gone=>cases h
   | clo f p q=>cases h
   | deep=>cases h
   | arr v' f' e' t' xs=>
     change (if h1:t'=t then (bif Nat.beq v v' && (f == f') && Nat.beq e e' then some (h1 ▸ xs,()) else none) else none)=some x at h
     split at h
     ·rename_i h1
      subst h1
      cases hb:Nat.beq v v' && (f == f') && Nat.beq e e' with
      | true=>
        rw [hb] at h
        have h:=(Option.some.inj h).symm
        subst h
        simp only [Bool.and_eq_true,beq_iff_eq] at hb
        rw [beqN.1 hb.1.1,beqN.1 hb.2,hb.1.2]
      | false=>rw [hb] at h;cases h
     ·cases h
 | deep v e te t=>
   cases a with
   | deep v' fz e' te' t' xs hole=>
     cases fz with
     | true=>cases h
     | false=>
     cases hole with
     | some q=>cases h
     | none=>
     change (if h1:t'=t then (bif Nat.beq v v' && Nat.beq e e' && Nat.beq te te' then some (h1 ▸ xs,()) else none) else none)=some x at h
     split at h
     ·rename_i h1
      subst h1
      cases hb:Nat.beq v v' && Nat.beq e e' && Nat.beq te te' with
      | true=>
        rw [hb] at h
        have h:=(Option.some.inj h).symm
        subst h
        simp only [Bool.and_eq_true] at hb
        rw [beqN.1 hb.1.1,beqN.1 hb.1.2,beqN.1 hb.2]
      | false=>rw [hb] at h;cases h
     ·cases h
   | _=>cases h
 | clo f p q=>
   cases a with
   | box b=>cases h
   | gone=>cases h
   | deep=>cases h
   | arr v' f' e' t' xs'=>cases h
   | clo g c d=>
     have h:(bif Nat.beq f g then (match SL.proj p c,SL.proj q d with
      | some x,some y=>some (appU (SL.tys p) (SL.tys q) x y)
      | _,_=>none) else none)=some x:=h
     cases hb:Nat.beq f g with
     | false=>rw [hb] at h;cases h
     | true=>
       rw [hb] at h
       obtain ⟨o1,h1⟩ : ∃ o,SL.proj p c=o:=⟨_,rfl⟩
       obtain ⟨o2,h2⟩ : ∃ o,SL.proj q d=o:=⟨_,rfl⟩
       rw [h1,h2] at h
       cases o1 with
       | none=>cases h
       | some y=>
         cases o2 with
         | none=>cases h
         | some z=>
           have h:appU (SL.tys p) (SL.tys q) y z=x:=Option.some.inj h
           subst h
           show _=Ob.clo f (SL.inj p (fstU _ _ _)) (SL.inj q (sndU _ _ _))
           rw [Yv,Yy,← SL.inj_proj p h1,← SL.inj_proj q h2,beqN.1 hb]
theorem SS.inj_proj : ∀ (s:List (Nat×SD)) {a:List (Nat×Dv)} {x:densU (SS.tys s)},SS.proj s a=some x→a=SS.inj s x
 | [],[],x,h=>rfl
 | [],_::_,x,h=>by cases h
 | _::_,[],x,h=>by cases h
 | (i,s)::r,(j,a)::b,x,h=>by
   simp only [SS.proj] at h
   cases hb:Nat.beq i j with
   | false=>rw [hb] at h;cases h
   | true=>
     rw [hb] at h
     simp only [cond_true] at h
     split at h
     ·rename_i y z h1 h2
      cases h
      show _=(i,s.inj (fstU _ _ _))::SS.inj r (sndU _ _ _)
      rw [Yv,Yy,← SD.inj_proj s h1,← SS.inj_proj r h2,beqN.1 hb]
     ·cases h
theorem SP.inj_proj : ∀ (s:List (Nat×SO)) {a:List (Nat×Ob)} {x:densU (SP.tys s)},SP.proj s a=some x→a=SP.inj s x
 | [],[],x,h=>rfl
 | [],_::_,x,h=>by cases h
 | _::_,[],x,h=>by cases h
 | (i,s)::r,(j,a)::b,x,h=>by
   simp only [SP.proj] at h
   cases hb:Nat.beq i j with
   | false=>rw [hb] at h;cases h
   | true=>
     rw [hb] at h
     simp only [cond_true] at h
     split at h
     ·rename_i y z h1 h2
      cases h
      show _=(i,s.inj (fstU _ _ _))::SP.inj r (sndU _ _ _)
      rw [Yv,Yy,← SO.inj_proj s h1,← SP.inj_proj r h2,beqN.1 hb]
     ·cases h
theorem Shape.inj_proj (s:Shape) {st:St} {x:densU s.tys} (h:s.proj st=some x):st=s.inj x:=by
 unfold Shape.proj at h
 split at h
 ·rename_i y z h1 h2
  cases h
  unfold Shape.inj
  rw [Yv,Yy,← SS.inj_proj _ h1,← SP.inj_proj _ h2]
 ·cases h
noncomputable def Ck.of {T:Type} (sh:Shape) (A:(ρ:Type)→densU sh.tys→(T→Option ρ)→Option ρ) (K:(ρ:Type)→densU sh.tys→T→(Ex→St→Option ρ)→Option ρ):Ck:=
 ⟨fun ρ st k=>match sh.proj st with
  | some x=>bnd (A T x some) fun t=>K ρ x t k
  | none=>none⟩
noncomputable def Ck.ofLoop {S T:Type} (sh:Shape) (s0:densU sh.tys→S) (A:(ρ:Type)→densU sh.tys→S→(S⊕T→Option ρ)→Option ρ) (K:(ρ:Type)→densU sh.tys→T→(Ex→St→Option ρ)→Option ρ):Ck:=
 ⟨fun ρ st k=>match sh.proj st with
  | some x=>bnd (iter (fun s=>A (S⊕T) x s some) (s0 x)) fun t=>K ρ x t k
  | none=>none⟩
noncomputable def Ck.or (sh:Shape) (a b:Ck):Ck:=⟨fun ρ st k=>match sh.proj st with
 | some _=>a.run ρ st k
 | none=>b.run ρ st k⟩
theorem sums_or [GInv] {raw:(ρ:Type)→St→(Ex→St→Option ρ)→Option ρ} {sh:Shape} {a b:Ck} (ha:Sums raw a) (hb:Sums raw b):Sums raw (Ck.or sh a b):=by
 intro ρ st k r h
 simp only [Ck.or] at h
 split at h
 ·exact ha ρ st k r h
 ·exact hb ρ st k r h
theorem jF [GInv] {T:Type} {raw:(ρ:Type)→St→(Ex→St→Option ρ)→Option ρ} {sh:Shape} {A:(ρ:Type)→densU sh.tys→(T→Option ρ)→Option ρ} {K:(ρ:Type)→densU sh.tys→T→(Ex→St→Option ρ)→Option ρ}
 (hA : ∀ ρ x k,A ρ x k=bnd (A T x some) k) (hK : ∀ ρ x t k,K ρ x t k=bnd (K (Ex×St) x t Ret) fun p=>k p.1 p.2)
 (hraw : ∀ x,raw (Ex×St) (sh.inj x) Ret=A (Ex×St) x fun t=>K (Ex×St) x t Ret):Sums raw (Ck.of sh A K):=by
 intro ρ st k r h
 simp only [Ck.of] at h
 split at h
 ·rename_i x hx
  obtain ⟨t,h1,h2⟩:=ju h
  rw [hK] at h2
  obtain ⟨p,h3,h4⟩:=ju h2
  refine ⟨p,?_,h4⟩
  rw [Shape.inj_proj sh hx]
  refine (hraw x).trans ?_
  rw [hA,h1]
  exact h3
 ·cases h
theorem Jt [GInv] {S T:Type} {Fs:St→Option (St⊕(Ex×St))} {sh:Shape} {s0:densU sh.tys→S} {I:densU sh.tys→S→densU sh.tys} {A:(ρ:Type)→densU sh.tys→S→(S⊕T→Option ρ)→Option ρ} {K:(ρ:Type)→densU sh.tys→T→(Ex→St→Option ρ)→Option ρ}
 (hI : ∀ x,I x (s0 x)=x) (hA : ∀ ρ x s k,A ρ x s k=bnd (A (S⊕T) x s some) k) (hK : ∀ ρ x t k,K ρ x t k=bnd (K (Ex×St) x t Ret) fun p=>k p.1 p.2)
 (hraw : ∀ x s,Fs (sh.inj (I x s))=A (St⊕(Ex×St)) x s fun r=>sel r (fun s'=>some (.inl (sh.inj (I x s')))) fun t=>K (St⊕(Ex×St)) x t fun e s=>some (.inr (e,s))) :
 ∀ (ρ:Type) st k r,(Ck.ofLoop sh s0 A K).run ρ st k=some r → ∃ p:Ex×St,iter (Fs) st=some p∧k p.1 p.2=some r:=by
 intro ρ st k r h
 simp only [Ck.ofLoop] at h
 split at h
 ·rename_i x hx
  obtain ⟨t,h1,h2⟩:=ju h
  rw [hK] at h2
  obtain ⟨p,h3,h4⟩:=ju h2
  refine ⟨p,?_,h4⟩
  rw [Shape.inj_proj sh hx]
  obtain ⟨n,hn⟩:=VB h1
  have key : ∀ n s,iterN (fun s=>A (S⊕T) x s some) n s=some t→iterN (Fs) n (sh.inj (I x s))=some p:=by
   intro n
   induction n with
   | zero=>intro s h;simp [iterN] at h
   | succ n ih=>
     intro s h
     simp only [iterN] at h ⊢
     rw [hraw,hA]
     split at h
     ·rename_i s' hs
      rw [hs]
      exact ih s' h
     ·rename_i t' hs
      cases h
      rw [hs]
      simp only [bnd,sel]
      rw [hK,h3]
      rfl
     ·cases h
  have:=key n _ hn
  rw [hI] at this
  exact iter_of this
 ·cases h
def PK.code:PK→Code
 | .join a=>a
 | .loop a=>a
 | .region .. => .skip
 | .range _ a=>a
def PK.asg:PK→Code
 | .range a _=>a
 | _ => .skip
def PK.id:PK→Nat
 | .region i _ _=>i
 | _=>0
def PK.ops:PK→Array Oper
 | .region _ o _=>o
 | _ => #[]
def PK.draws:PK→Bool
 | .region _ _ d=>d
 | _=>false
def PK.kind:PK→Nat
 | .region .. => 0 | .join _=>1 | .loop _=>2 | .range .. => 3
def VY (l:List (Nat×PK)) (i:Nat):Nat×PK:=l.getD i (0,.join .skip)
theorem jG {G:Env} {p:Nat×PK} {s:Ck} (h0:Nat.beq p.2.kind 0=true) (h1:look G.cks p.1=some s) (h:Sums (VC G p.2.id p.2.ops p.2.draws) s):YZ G p.1 p.2:=by
 obtain ⟨i,p⟩:=p
 cases p with
 | region i o d=>intro s' h';rw [h1] at h';cases h';exact h
 | join a=>cases h0
 | loop a=>cases h0
 | range a b=>cases h0
theorem kn {G:Env} {p:Nat×PK} {s:Ck} (h0:Nat.beq p.2.kind 1=true) (h1:look G.cks p.1=some s) (h:Sums (fun ρ st k=>execK G p.2.code ρ st fun e s=>k e (restrict (domJ G p.1 st) s)) s):YZ G p.1 p.2:=by
 obtain ⟨i,p⟩:=p
 cases p with
 | join o=>intro s' h';rw [h1] at h';cases h';exact h
 | region i a d=>cases h0
 | loop a=>cases h0
 | range a b=>cases h0
theorem JA {G:Env} {p:Nat×PK} {s:Ck} (h0:Nat.beq p.2.kind 2=true) (h1:look G.cks p.1=some s) (h : ∀ (ρ:Type) st k r,s.run ρ st k=some r → ∃ q:Ex×St,iter (loopF G p.2.code) st=some q∧k q.1 q.2=some r):YZ G p.1 p.2:=by
 obtain ⟨i,p⟩:=p
 cases p with
 | loop o=>intro s' h';rw [h1] at h';cases h';exact h
 | region i a d=>cases h0
 | join a=>cases h0
 | range a b=>cases h0
def Upto (G:Env) (l:List (Nat×PK)):Nat→Prop
 | 0=>True
 | n+1=>Upto G l n∧YZ G (VY l n).1 (VY l n).2
theorem upto_all {G:Env} {l:List (Nat×PK)} {n:Nat} (hn:Nat.beq l.length n=true) (h:Upto G l n) : ∀ p∈l,YZ G p.1 p.2:=by
 have key : ∀ n,Upto G l n → ∀ i,i < n→YZ G (VY l i).1 (VY l i).2:=by
  intro n
  induction n with
  | zero=>intro _ i hi;omega
  | succ n ih=>
    intro h i hi
    by_cases he:i=n
    ·subst he;exact h.2
    ·exact ih h.1 i (by omega)
 intro p hp
 obtain ⟨i,hi,he⟩:=List.mem_iff_getElem.1 hp
 have:=key n h i (by rw [← beqN.1 hn];exact hi)
 unfold VY at this
 rw [List.getD_eq_getElem?_getD,List.getElem?_eq_getElem hi,he] at this
 exact this
noncomputable section
def zeroV:Ty→Value→Bool
 | .bool,.bool b => !b
 | .int k,.int k' n=>decide (k=k') && decide (n=0)
 | .str,.string s=>decide (s.data = #[])
 | .sl t,.slice none n m=>Nat.beq n 0 && Nat.beq m 0 && !t.isPair
 | .nilv k,.pointer none=>Nat.beq k 0
 | .nilv k,.nilIface=>Nat.beq k 1
 | .nilv k,.map none=>Nat.beq k 2
 | .nilv k,.nilFunc=>Nat.beq k 3
 | .raw,.slice none n m=>Nat.beq n 0 && Nat.beq m 0
 | _,_=>false
theorem zeroV_ok {t:Ty} {v:Value} (h:zeroV t v=true):JJ t [v]:=by
 cases t <;> cases v
 case bool.bool b=>cases b <;> simp_all [zeroV,JJ]
 case int.int k k' n=>simp_all [zeroV,JJ]
 case str.string s=>obtain ⟨d⟩:=s;simp_all [zeroV,JJ]
 case sl.slice t a n m=>
  cases a with
  | none=>
    simp only [zeroV,Bool.and_eq_true,Bool.not_eq_true'] at h
    rw [beqN.1 h.1.1,beqN.1 h.1.2];exact ⟨rfl,h.2⟩
  | some a=>cases h
 case raw.slice a n m=>
  cases a with
  | none=>
    simp only [zeroV,Bool.and_eq_true] at h
    rw [beqN.1 h.1,beqN.1 h.2];rfl
  | some a=>cases h
 case nilv.map k a=>
  cases a with
  | none=>simp only [zeroV] at h;rw [beqN.1 h];rfl
  | some a=>cases h
 case nilv.nilFunc k=>simp only [zeroV] at h;rw [beqN.1 h];rfl
 case nilv.pointer k a=>
  cases a with
  | none=>rw [beqN.1 (show Nat.beq k 0=true from h)];rfl
  | some a=>cases h
 case nilv.nilIface k=>rw [beqN.1 (show Nat.beq k 1=true from h)];rfl
 all_goals cases h
def zeroN (f:List Value→Option (List Value)):Nat→List Value→Option (List Value)
 | 0,l=>some l
 | n+1,l=>match f l with
   | some l'=>zeroN f n l'
   | none=>none
theorem zeroN_ok {f:List Value→Option (List Value)} {p:List Value→Prop} (h : ∀ l r,f l=some r → ∃ c,l=c++r∧p c) : ∀ (n:Nat) {l r:List Value},zeroN f n l=some r → ∃ c,l=c++r∧VR p n c
 | 0,l,r,he=>by cases he;exact ⟨[],rfl,rfl⟩
 | n+1,l,r,he=>by
   simp only [zeroN] at he
   split at he
   ·rename_i l' h1
    obtain ⟨c1,h2,h3⟩:=h _ _ h1
    obtain ⟨c2,h4,h5⟩:=zeroN_ok h n he
    exact ⟨c1++c2,by rw [h2,h4,List.append_assoc],c1,c2,rfl,h3,h5⟩
   ·cases he
def zeroB:Ty→List Value→Option (List Value)
 | .unit,l=>some l
 | .st t,l=>zeroB t l
 | .pair a b,l=>match zeroB a l with
   | some l'=>zeroB b l'
   | none=>none
 | .ar n t,l=>zeroN (zeroB t) n l
 | .node t,l=>match zeroB t l with
   | some (.slice none 0 0::l')=>some l'
   | _=>none
 | t,l=>match l with
   | v::l'=>bif zeroV t v then some l' else none
   | []=>none
theorem zeroB_ok : ∀ (t:Ty) {l r:List Value},zeroB t l=some r → ∃ c,l=c++r∧JJ t c:=by
 intro t
 have base : ∀ (t:Ty),(∀ l r,zeroB t l=some r → ∃ v l',l=v::l'∧(bif zeroV t v then some l' else none)=some r) → ∀ {l r:List Value},zeroB t l=some r → ∃ c,l=c++r∧JJ t c:=by
  intro t hb l r h
  obtain ⟨v,l',rfl,h2⟩:=hb l r h
  cases hz:zeroV t v with
  | true=>rw [hz] at h2;cases h2;exact ⟨[v],rfl,zeroV_ok hz⟩
  | false=>rw [hz] at h2;cases h2
 have step : ∀ (t:Ty) (l r:List Value),(match l with
  | v::l'=>bif zeroV t v then some l' else none
  | []=>none)=some r → ∃ v l',l=v::l'∧(bif zeroV t v then some l' else none)=some r:=by
  intro t l r h
  cases l with
  | nil=>cases h
  | cons v l'=>exact ⟨v,l',rfl,h⟩
 induction t with
 | bool=>intro l r h;exact base .bool (fun l r h=>step .bool l r (by cases l <;> exact h)) h
 | int k=>intro l r h;exact base (.int k) (fun l r h=>step (.int k) l r (by cases l <;> exact h)) h
 | str=>intro l r h;exact base .str (fun l r h=>step .str l r (by cases l <;> exact h)) h
 | nilv k=>intro l r h;exact base (.nilv k) (fun l r h=>step (.nilv k) l r (by cases l <;> exact h)) h
 | nn=>intro l r h;exact base .nn (fun l r h=>step .nn l r (by cases l <;> exact h)) h
 | len=>intro l r h;exact base .len (fun l r h=>step .len l r (by cases l <;> exact h)) h
 | raw=>intro l r h;exact base .raw (fun l r h=>step .raw l r (by cases l <;> exact h)) h
 | fl t _=>intro l r h;exact base (.fl t) (fun l r h=>step (.fl t) l r (by cases l <;> exact h)) h
 | ifc T t _=>intro l r h;exact base (.ifc T t) (fun l r h=>step (.ifc T t) l r (by cases l <;> exact h)) h
 | sl t _=>intro l r h;exact base (.sl t) (fun l r h=>step (.sl t) l r (by cases l <;> exact h)) h
 | st t ih=>intro l r h;obtain ⟨c,h1,h2⟩:=ih h;exact ⟨c,h1,h2⟩
 | unit=>intro l r h;cases h;exact ⟨[],rfl,rfl⟩
 | pair a b iha ihb=>
   intro l r h
   simp only [zeroB] at h
   split at h
   ·rename_i l' h1
    obtain ⟨c1,h2,h3⟩:=iha h1
    obtain ⟨c2,h4,h5⟩:=ihb h
    exact ⟨c1++c2,by rw [h2,h4,List.append_assoc],c1,c2,rfl,h3,h5⟩
   ·cases h
 | ar n t ih=>intro l r h;exact zeroN_ok (fun l r h=>ih h) n h
 | node t ih=>
   intro l r h
   simp only [zeroB] at h
   split at h
   ·rename_i l' h1
    cases h
    obtain ⟨c1,h2,h3⟩:=ih h1
    exact ⟨c1++[.slice none 0 0],by rw [h2];simp,c1,rfl,h3⟩
   ·cases h
def zeroC (t:Ty) (v:Value):Bool:=match zeroB t v.cells.toList with
 | some []=>true
 | _=>false
theorem zeroC_ok {t:Ty} {v:Value} (h:zeroC t v=true):JJ t v.cells.toList:=by
 unfold zeroC at h
 split at h
 ·rename_i h1
  obtain ⟨c,h2,h3⟩:=zeroB_ok t h1
  rw [List.append_nil] at h2
  rw [h2];exact h3
 ·cases h
def isAggV:Value→Bool
 | .agg _=>true
 | _=>false
def infoB (P:Program) (t:TypeId) (ty:Ty):Bool:=match P.info? t with
 | some i=>Nat.beq i.size ty.cells && (match i.zero with
   | some z=>zeroC ty z && (!ty.isSt || isAggV z)
   | none=>false)
 | none=>false
def kindB (P:Program) (t:TypeId) (ti:TI):Bool:=match ti.kind,P.underlying t with
 | .scalar,some .bool=>(match ti.ty with | .bool=>true | _=>false)
 | .scalar,some (.int k)=>(match ti.ty with | .int k'=>decide (k=k') | _=>false)
 | .scalar,some .string=>(match ti.ty with | .str=>true | _=>false)
 | .nul,some (.pointer _)=>(match ti.ty with | .nilv k => !Nat.beq k 1 | _=>false)
 | .nul,some (.interface _)=>(match ti.ty with | .nilv _=>true | _=>false)
 | .nul,some (.func _ _ _)=>(match ti.ty with | .nilv k => !Nat.beq k 1 | _=>false)
 | .map k e j u,some (.map k' e')=>Nat.beq k k' && Nat.beq e e' && (match ti.ty with
   | .nilv 2=>(match P.underlying k,P.info? e with
     | some (.int j'),some i=>decide (j'=j) && (match i.zero with
       | some (.int u' 0)=>decide (u'=u)
       | _=>false)
     | _,_=>false)
   | _=>false)
 | .struct fs,some (.struct fields)=>(match ti.ty with | .st _=>true | _=>false) && decide (fields.toList.map (fun f=>(f.offset,f.type))=fs) && fields.toList.all fun f=>(P.info? f.type).isSome
 | .slice e b,some (.slice e')=>Nat.beq e e' && (match ti.ty with
   | .sl s=>(match P.info? e with
     | some i=>Nat.beq i.size s.cells && Nat.beq i.bytes b && Nat.blt 0 s.cells && (match i.zero with
       | some z=>zeroC s z
       | none=>false)
     | none=>false)
   | _=>false)
 | .arr n e,some (.array n' e')=>Nat.beq e e' && Nat.beq n n' && (match ti.ty with
   | .ar m s=>Nat.beq m n && (match P.info? e with
     | some i=>Nat.beq i.size s.cells && (match i.zero with
       | some z=>zeroC s z
       | none=>false)
     | none=>false)
   | _=>false)
 | _,_=>false
def tabB (P:Program):List (Nat×TI)→Bool
 | []=>true
 | (t,ti)::r=>infoB P t ti.ty && kindB P t ti && tabB P r
theorem infoB_ok {P:Program} {t:TypeId} {ty:Ty} (h:infoB P t ty=true) : ∃ i z,P.info? t=some i∧i.size=ty.cells∧i.zero=some z∧JJ ty z.cells.toList∧(ty.isSt=true → ∃ cs,z = .agg cs):=by
 unfold infoB at h
 split at h
 ·rename_i i hi
  simp only [Bool.and_eq_true] at h
  obtain ⟨h1,h2⟩:=h
  split at h2
  ·rename_i z hz
   simp only [Bool.and_eq_true,Bool.or_eq_true,Bool.not_eq_true'] at h2
   refine ⟨i,z,hi,beqN.1 h1,hz,zeroC_ok h2.1,fun hs => ?_⟩
   rcases h2.2 with h3 | h3
   ·rw [hs] at h3;cases h3
   ·cases z with
    | agg cs=>exact ⟨cs,rfl⟩
    | _=>cases h3
  ·cases h2
 ·cases h
theorem kindB_ok {P:Program} {t:TypeId} {ti:TI} (hi:infoB P t ti.ty=true) (h:kindB P t ti=true):TiOk P t ti:=by
 refine ⟨infoB_ok hi,?_⟩
 unfold kindB at h
 split at h
 ·rename_i h1 h2
  rw [h1]
  split at h
  ·rename_i h3;exact .inl ⟨h3,h2⟩
  ·cases h
 ·rename_i k h1 h2
  rw [h1]
  split at h
  ·rename_i k' h3
   have:=of_decide_eq_true h
   subst this
   exact .inr (.inl ⟨_,h3,h2⟩)
  ·cases h
 ·rename_i h1 h2
  rw [h1]
  split at h
  ·rename_i h3;exact .inr (.inr ⟨h3,h2⟩)
  ·cases h
 ·rename_i e h1 h2
  rw [h1]
  split at h
  ·rename_i k h3
   simp only [Bool.not_eq_true'] at h
   exact ⟨k,h3,.inl ⟨e,h2⟩,fun hk=>absurd hk (Jb.1 h)⟩
  ·cases h
 ·rename_i ms h1 h2
  rw [h1]
  split at h
  ·rename_i k h3;exact ⟨k,h3,.inr (.inl ⟨ms,h2⟩),fun _=>⟨ms,h2⟩⟩
  ·cases h
 ·rename_i h1 h2
  rw [h1]
  split at h
  ·rename_i k h3
   simp only [Bool.not_eq_true'] at h
   exact ⟨k,h3,.inr (.inr ⟨_,_,_,h2⟩),fun hk=>absurd hk (Jb.1 h)⟩
  ·cases h
 ·rename_i k e j u k' e' h1 h2
  rw [h1]
  simp only [Bool.and_eq_true] at h
  obtain ⟨⟨h3,h4⟩,h5⟩:=h
  have:=beqN.1 h3
  subst this
  have:=beqN.1 h4
  subst this
  split at h5
  ·rename_i hty
   split at h5
   ·rename_i j' i hk hi
    rw [Bool.and_eq_true] at h5
    obtain ⟨h6,h7⟩:=h5
    have:=of_decide_eq_true h6
    subst this
    split at h7
    ·rename_i u' hz
     have:=of_decide_eq_true h7
     subst this
     exact ⟨hty,h2,hk,i,hi,hz⟩
    ·cases h7
   ·cases h5
  ·cases h5
 ·rename_i fs fields h1 h2
  rw [h1]
  simp only [Bool.and_eq_true] at h
  obtain ⟨⟨h3,h4⟩,h5⟩:=h
  split at h3
  ·rename_i s hs
   refine ⟨s,fields,hs,h2,of_decide_eq_true h4,fun f hf => ?_⟩
   have:=List.all_eq_true.1 h5 f hf
   exact Option.isSome_iff_exists.1 this
  ·cases h3
 ·rename_i e b e' h1 h2
  rw [h1]
  simp only [Bool.and_eq_true] at h
  obtain ⟨h3,h4⟩:=h
  have:=beqN.1 h3
  subst this
  split at h4
  ·rename_i s hs
   split at h4
   ·rename_i i hi
    simp only [Bool.and_eq_true] at h4
    obtain ⟨⟨⟨h5,h6⟩,h7⟩,h8⟩:=h4
    split at h8
    ·rename_i z hz
     rw [Nat.blt_eq] at h7
     exact ⟨s,i,z,hs,h2,hi,beqN.1 h5,beqN.1 h6,hz,zeroC_ok h8,h7⟩
    ·cases h8
   ·cases h4
  ·cases h4
 ·rename_i n e n' e' h1 h2
  rw [h1]
  simp only [Bool.and_eq_true] at h
  obtain ⟨⟨h3,h0⟩,h4⟩:=h
  have:=beqN.1 h3
  subst this
  have:=beqN.1 h0
  subst this
  split at h4
  ·rename_i m s hs
   simp only [Bool.and_eq_true] at h4
   obtain ⟨h5,h4⟩:=h4
   have:=beqN.1 h5
   subst this
   split at h4
   ·rename_i i hi
    simp only [Bool.and_eq_true] at h4
    obtain ⟨h5,h8⟩:=h4
    split at h8
    ·rename_i z hz
     exact ⟨s,i,z,hs,h2,hi,beqN.1 h5,hz,zeroC_ok h8⟩
    ·cases h8
   ·cases h4
  ·cases h4
 ·cases h
theorem tabB_ok {P:Program} : ∀ {l:List (Nat×TI)},tabB P l=true→TabOk P l
 | [],_=>fun t ti h=>by cases h
 | (t,ti)::r,h=>by
   simp only [tabB,Bool.and_eq_true] at h
   intro t' ti' hl
   simp only [look] at hl
   cases hb:Nat.beq t t' with
   | true=>
     rw [hb] at hl
     cases hl
     rw [← beqN.1 hb]
     exact kindB_ok h.1.1 h.1.2
   | false=>
     rw [hb] at hl
     exact tabB_ok h.2 t' ti' hl
theorem Je [GInv] {P:Program}:FnsOk P []:=fun f ce h=>by cases h
theorem Ja [GInv] {P:Program} {f:Nat} {ce:Callee} {l:List (Nat×Callee)} (h:CalleeOk P f ce) (hl:FnsOk P l):FnsOk P ((f,ce)::l):=by
 intro f' ce' h'
 simp only [look] at h'
 cases hb:Nat.beq f f' with
 | true=>
   rw [hb] at h'
   cases h'
   rw [← beqN.1 hb];exact h
 | false=>rw [hb] at h';exact hl f' ce' h'
def YX (fn:Func):Code:=fn.body.getD .skip
theorem fn_ok [GInv] {P:Program} {G:Env} {f:Nat} {fn:Func} {ce:Callee} (hT:TabOk P G.tab) (hm:P.follows .mixedOrders=true) (hf:P.funcs[f]? = some fn) (hF:AllOk P G) {m:Nat}
 (hn:Nat.beq (kc G.cks (YX fn)).length m=true) (hp:Upto G (kc G.cks (YX fn)) m)
 (hb : (fn.body.isSome && kN G (YX fn) && Nat.beq fn.ntmps G.n && Nat.ble ce.params.length G.n && Nat.beq fn.results.toList.length ce.res.length && !(fn.name == "runtime.NumGoroutine")) = true)
 (he : ∀ x,den G fn ce.params ce.res x=ce.F x):CalleeOk P f ce:=by
 simp only [Bool.and_eq_true,Bool.not_eq_true'] at hb
 obtain ⟨⟨⟨⟨⟨h1,h2⟩,h3⟩,h4⟩,h5⟩,h6⟩:=hb
 obtain ⟨c,hc⟩:=Option.isSome_iff_exists.1 h1
 have hbo:YX fn=c:=by unfold YX;rw [hc];rfl
 rw [hbo] at h2 hn hp
 refine ⟨⟨fn,hf,h6,by rw [hc];rfl⟩,fun w Z vs x r hg hZ ha hr => ?_⟩
 rw [← he] at hr
 exact den_calls hT hF hm hf hc (beqN.1 h3) (by rw [Nat.ble_eq] at h4;exact h4) (beqN.1 h5) h2 (upto_all hn hp) w Z vs x r hg hZ ha hr
theorem jU [GInv] {P:Program}:MfnsOk P []:=fun i mc h=>by cases h
theorem Jj [GInv] {P:Program} {i:Nat} {mc:MCallee} {l:List (Nat×MCallee)} (h:MOk P mc.fn mc) (hl:MfnsOk P l):MfnsOk P ((i,mc)::l):=by
 intro i' mc' h'
 simp only [look] at h'
 cases hb:Nat.beq i i' with
 | true=>
   rw [hb] at h'
   cases h'
   exact h
 | false=>rw [hb] at h';exact hl i' mc' h'
theorem kb [GInv] {P:Program} {G:Env} {f:Nat} {fn:Func} {mc:MCallee} (hT:TabOk P G.tab) (hm:P.follows .mixedOrders=true) (hf:P.funcs[f]? = some fn) (hF:AllOk P G) {m:Nat}
 (hn:Nat.beq (kc G.cks (YX fn)).length m=true) (hp:Upto G (kc G.cks (YX fn)) m)
 (hb : (fn.body.isSome && kN G (YX fn) && Nat.beq fn.ntmps G.n && Nat.ble mc.pre.slots.length G.n && Un 0 mc.pre.slots && !(fn.name == "runtime.NumGoroutine") && Nat.beq mc.fn f) = true)
 (he : ∀ x,denM G fn mc.pre mc.post x=mc.F x):MOk P mc.fn mc:=by
 simp only [Bool.and_eq_true,Bool.not_eq_true'] at hb
 obtain ⟨⟨⟨⟨⟨⟨h1,h2⟩,h3⟩,h4⟩,h5⟩,h6⟩,h7⟩:=hb
 obtain ⟨c,hc⟩:=Option.isSome_iff_exists.1 h1
 have hbo:YX fn=c:=by unfold YX;rw [hc];rfl
 rw [hbo] at h2 hn hp
 rw [beqN.1 h7]
 refine ⟨⟨fn,hf,h6,by rw [hc];rfl⟩,fun w Z nm vs x y hpre hr => ?_⟩
 rw [← he] at hr
 exact den_mcalls hT hF hm hf hc (beqN.1 h3) (by rw [Nat.ble_eq] at h4;exact h4) h5 h2 (upto_all hn hp) w Z nm vs x y hpre hr
theorem jT [GInv] {P:Program}:AltsOk P []:=fun i mc h=>by cases h
end
abbrev PcA (G:Env) (f:Func) (n:Nat):Prop:=YZ G (VY (kc G.cks (YX f)) n).1 (VY (kc G.cks (YX f)) n).2
end Go.Ql
end
