/- Part of the lifter: regions and functions, for any program. -/
import Derived.Test.YtcndclcpmelgoaaDoorLeO
import Derived.Orders
set_option linter.all false
section
set_option linter.unusedSectionVars false
namespace Go.Ql
section
variable [GInv] {P:Program} {G:Env} {n:Nat} {w0 w w':World} {Z0:Bs} {Z Z':Nat→Prop} {st st1:St} {a:Act} {nm:Names} {o:Oper} {dst:Nat} {ρ:Type} {r:ρ}
theorem keepT_step {l:List Oper} {o:Oper} {L:List Nat} {a0 a a':Act} (hL : ∀ t,memN t L=false→memN t (wrOps (o::l))=false) (h0:KeepT L a0 a) (h:KeepT o.dst.toList a a') :
 (∀ t,memN t L=false→memN t (wrOps l)=false)∧KeepT L a0 a':=by
 have key : ∀ t,memN t L=false→memN t o.dst.toList=false∧memN t (wrOps l)=false:=by
  intro t ht
  have:=hL t ht
  unfold wrOps at this ⊢
  cases hd:o.dst with
  | none=>simp only [List.filterMap_cons,hd] at this;exact ⟨rfl,this⟩
  | some s=>
    simp only [List.filterMap_cons,hd,memN,Bool.or_eq_false_iff] at this
    exact ⟨by simp [memN,this.1],this.2⟩
 exact ⟨fun t ht=>(key t ht).2,fun t ht=>(h t (key t ht).1).trans (h0 t ht)⟩
theorem opsK_sound (hT:TabOk P G.tab) (hF:AllOk P G) {ops:Array Oper} {gs:List Nat} {k kp:St→Option ρ} {Q:Exit→Act→World→Prop} {L:List Nat} {a0:Act}
 (hk : ∀ st' a' w' nm',Rel G.n w0 Z0 st' a' w' nm'→k st'=some r→KeepT L a0 a'→Q .normal a' w')
 (hp : ∀ st' a' w' nm' v,Rel G.n w0 Z0 st' a' w' nm'→nm' payId = .func (.func 0) #[] #[v]→kp st'=some r→Q (.panic [{ v,recovered:=false }]) a' w') (rd:Option Nat) (m:Nat) : ∀ (l:List Oper) {st:St} {a:Act} {w:World} {nm:Names},
 (∀ t,memN t L=false→memN t (wrOps l)=false)→KeepT L a0 a →
 Rel G.n w0 Z0 st a w nm→opsK G ops.toList gs l st k kp=some r→wpListIn (Fr rd) m P ops Q l a w
 | [],_,_,_,_,_,h0,h,he=>hk _ _ _ _ h he h0
 | o::l,_,_,_,_,hL,h0,h,he=>by
   unfold opsK at he
   have:=stepK_sound (P:=P) (Q:=Q) (K:=wpListIn (Fr rd) m P ops Q l) hT hF h he (fun st' a' w' nm' h' hk' hkt=>opsK_sound hT hF hk hp rd m l (keepT_step hL h0 hkt).1 (keepT_step hL h0 hkt).2 h' hk') hp rd m
   unfold stepWp at this
   unfold wpListIn
   exact this
theorem Yg {t:Nat} {l:List Nat}:memN t l=true↔t∈l:=by
 induction l with
 | nil=>simp [memN]
 | cons s r ih=>
   simp only [memN,Bool.or_eq_true,ih,List.mem_cons,beqN]
   constructor
   ·rintro (h | h)
    ·exact .inl h.symm
    ·exact .inr h
   ·rintro (h | h)
    ·exact .inl h.symm
    ·exact .inr h
theorem look_normSlots (G:Env) (objs:List (Nat×Ob)) (t:Nat) : ∀ (l:List (Nat×Dv)) {d:Dv},look (YL G objs l) t=some d → ∃ d0,look l t=some d0∧d=convDv G.muts objs d0
 | [],d,h=>by simp [YL,look] at h
 | (s,d1)::l,d,h=>by
   simp only [YL] at h
   cases hm:memN s G.keep with
   | true=>
     rw [hm] at h
     simp only [cond_true,look] at h ⊢
     cases hb:Nat.beq s t with
     | true=>rw [hb] at h;simp only [cond_true,Option.some.injEq] at h;exact ⟨d1,by simp,h.symm⟩
     | false=>rw [hb] at h;simp only [cond_false] at h ⊢;exact look_normSlots G objs t l h
   | false=>
     rw [hm] at h
     simp only [cond_false,look] at h ⊢
     obtain ⟨d0,h1,h2⟩:=look_normSlots G objs t l h
     cases hb:Nat.beq s t with
     | true=>
       have:=beqN.1 hb
       subst this
       exact absurd h (by
        have : ∀ l:List (Nat×Dv),look (YL G objs l) s=none:=by
         intro l
         induction l with
         | nil=>rfl
         | cons p l ih=>
           obtain ⟨q,x⟩:=p
           simp only [YL]
           cases hq:memN q G.keep with
           | false=>exact ih
           | true=>
             simp only [cond_true,look]
             have:Nat.beq q s=false:=by rw [Jb];rintro rfl;rw [hm] at hq;cases hq
             rw [this]
             exact ih
        rw [this];simp)
     | false=>simp only [cond_false];exact ⟨d0,h1,h2⟩
def YA (G:Env) (objs:List (Nat×Ob)) (id:Nat):Ob→Option Ob
 | .box cs=>some (.box (cs.map (kK G.muts objs)))
 | .arr v fz e t xs=>bif fz || !memN id G.muts then (bif fz && memN (20000000+id) G.muts then some .gone else none) else some (.arr (Yx id v) false e t xs)
 | .clo f x y=>some (.clo f (x.map (kK G.muts objs)) (y.map (kK G.muts objs)))
 | .gone=>some .gone
 | .deep v fz e te t xs h=>bif fz || !memN id G.muts || h.isSome then none else some (.deep (Yx id v) false e te t xs none)
theorem JW (G:Env) (objs:List (Nat×Ob)) (id:Nat) : ∀ (l:List (Nat×Ob)) {ob:Ob},look (kg G objs l) id=some ob → ∃ ob0,look l id=some ob0∧YA G objs id ob0=some ob
 | [],d,h=>by simp [kg,look] at h
 | (s,.box cs)::l,d,h=>by
   simp only [kg,look] at h ⊢
   cases hb:Nat.beq s id with
   | true=>
     rw [hb] at h
     have:=beqN.1 hb
     subst this
     simp only [cond_true] at h
     exact ⟨.box cs,by simp,h⟩
   | false=>
     rw [hb] at h
     simp only [cond_false] at h ⊢
     exact JW G objs id l h
 | (s,.gone)::l,d,h=>by
   simp only [kg,look] at h ⊢
   cases hb:Nat.beq s id with
   | true=>
     rw [hb] at h
     have:=beqN.1 hb
     subst this
     simp only [cond_true] at h
     exact ⟨.gone,by simp,h⟩
   | false=>
     rw [hb] at h
     simp only [cond_false] at h ⊢
     exact JW G objs id l h
 | (s,.clo f x y)::l,d,h=>by
   simp only [kg,look] at h ⊢
   cases hb:Nat.beq s id with
   | true=>
     rw [hb] at h
     have:=beqN.1 hb
     subst this
     simp only [cond_true] at h
     exact ⟨.clo f x y,by simp,h⟩
   | false=>
     rw [hb] at h
     simp only [cond_false] at h ⊢
     exact JW G objs id l h
 | (s,.deep v fz e te t xs hole)::l,d,h=>by
   simp only [kg] at h
   cases hm:(fz || !memN s G.muts || hole.isSome) with
   | true=>
     rw [hm] at h
     simp only [cond_true,Vv] at h
     by_cases hs:s=id
     ·simp [hs] at h
     ·rw [if_neg hs] at h
      simp only [look,Jb.2 hs,cond_false]
      exact JW G objs id l h
   | false=>
     rw [hm] at h
     simp only [cond_false,look] at h ⊢
     cases hb:Nat.beq s id with
     | true=>
       rw [hb] at h
       have:=beqN.1 hb
       subst this
       refine ⟨.deep v fz e te t xs hole,by simp,?_⟩
       simp only [YA,hm,cond_false]
       exact h
     | false=>
       rw [hb] at h
       simp only [cond_false] at h ⊢
       exact JW G objs id l h
 | (s,.arr v fz e t xs)::l,d,h=>by
   simp only [kg] at h
   cases hm:(fz || !memN s G.muts) with
   | true=>
     rw [hm] at h
     simp only [cond_true] at h
     cases hf:(fz && memN (20000000+s) G.muts) with
     | true=>
       rw [hf] at h
       simp only [cond_true,look] at h ⊢
       cases hb:Nat.beq s id with
       | true=>
         rw [hb] at h
         have:=beqN.1 hb
         subst this
         simp only [cond_true] at h
         refine ⟨.arr v fz e t xs,by simp,?_⟩
         simp only [YA,hm,hf,cond_true]
         exact h
       | false=>
         rw [hb] at h
         simp only [cond_false] at h ⊢
         exact JW G objs id l h
     | false=>
     rw [hf] at h
     simp only [cond_false,Vv] at h
     by_cases hs:s=id
     ·simp [hs] at h
     ·rw [if_neg hs] at h
      simp only [look,Jb.2 hs,cond_false]
      exact JW G objs id l h
   | false=>
     rw [hm] at h
     simp only [cond_false,look] at h ⊢
     cases hb:Nat.beq s id with
     | true=>
       rw [hb] at h
       have:=beqN.1 hb
       subst this
       refine ⟨.arr v fz e t xs,by simp,?_⟩
       simp only [YA,hm,cond_false]
       exact h
     | false=>
       rw [hb] at h
       simp only [cond_false] at h ⊢
       exact JW G objs id l h
theorem VM {α:Type} (f:Nat→Bool) (t:Nat) : ∀ (l:List (Nat×α)) {d:α},look (onlyP f l) t=some d→look l t=some d
 | [],d,h=>by simp [onlyP,look] at h
 | (s,x)::l,d,h=>by
   simp only [onlyP] at h
   cases hm:f s with
   | true=>
     rw [hm] at h
     simp only [cond_true,look] at h ⊢
     cases hb:Nat.beq s t with
     | true=>rw [hb] at h;exact h
     | false=>rw [hb] at h;simp only [cond_false] at h ⊢;exact VM f t l h
   | false=>
     rw [hm] at h
     simp only [cond_false,look] at h ⊢
     cases hb:Nat.beq s t with
     | true=>
       have:=beqN.1 hb
       subst this
       have hno : ∀ l:List (Nat×α),look (onlyP f l) s=none:=by
        intro l
        induction l with
        | nil=>rfl
        | cons p l ih=>
          obtain ⟨q,y⟩:=p
          simp only [onlyP]
          cases hq:f q with
          | false=>exact ih
          | true=>
            simp only [cond_true,look]
            have:Nat.beq q s=false:=by rw [Jb];rintro rfl;rw [hm] at hq;cases hq
            rw [this]
            exact ih
       rw [hno] at h
       cases h
     | false=>simp only [cond_false];exact VM f t l h
theorem look_only {α β:Type} (dom:List (Nat×β)) (t:Nat) (l:List (Nat×α)) {d:α} (h:look (only dom l) t=some d):look l t=some d:=VM _ t l h
theorem JP {α β:Type} (dom:List (Nat×β)) (t:Nat) (l:List (Nat×α)) {d:α} (h:look (onlyO dom l) t=some d):look l t=some d:=VM _ t l h
theorem UB {objs objs':List (Nat×Ob)} (hsub : ∀ id ob,look objs' id=some ob→ob.mine=true → ∃ ob',look objs id=some ob'∧ob'.mine=true) {b:Nat} (h:Zc w0 Z0 nm objs w b):Zc w0 Z0 nm objs' w b:=by
 refine ⟨h.1,h.2.1,?_⟩
 rintro ⟨id,ob,h1,h2,h3⟩
 obtain ⟨ob',h4,h5⟩:=hsub id ob h1 h2
 exact h.2.2 ⟨id,ob',h4,h5,h3⟩
theorem Rel.delC (h:Rel n w0 Z0 st a w nm) (G:Env) (t:Nat):Rel n w0 Z0 (Go.Ql.delC G t st) a w nm:=by
 unfold Go.Ql.delC
 cases memN (2000000000000+t) G.muts with
 | true=>exact h
 | false=>exact h.del t
theorem Rel.restrict (h:Rel n w0 Z0 st a w nm) (dom:St):Rel n w0 Z0 (Go.Ql.restrict dom st) a w nm:=by
 have hz:Kept w w (Zc w0 Z0 nm st.objs w) (Zc w0 Z0 nm (onlyO dom.objs st.objs) w):=fun b hb=>⟨UB (fun id ob h1 h2=>⟨ob,JP _ _ _ h1,h2⟩) hb,rfl⟩
 have hat : ∀ x,AtOk nm nm st.objs (onlyO dom.objs st.objs) x:=fun x id _=>⟨fun ver fz e t xs h1 _=>⟨rfl,fz,xs,JP _ _ _ h1,rfl⟩,fun cs h1=>⟨rfl,cs,JP _ _ _ h1⟩,fun f y z h1=>⟨rfl,f,y,z,JP _ _ _ h1⟩,fun ver fz e te t xs hh h1 _=>⟨rfl,fz,xs,hh,JP _ _ _ h1,rfl,fun _ e=>⟨e,rfl⟩⟩⟩
 refine ⟨h.defk hz,h.size,fun t d ht => ?_,fun id ob ho => ?_,fun id ob b ho hb=>h.new id ob b (JP _ _ _ ho) hb,fun id id' ob ob' b ho ho'=>h.inj id id' ob ob' b (JP _ _ _ ho) (JP _ _ _ ho'),h.same,fun id ob hg ho=>h.given id ob hg (JP _ _ _ ho),h.glob,h.calm⟩
 ·obtain ⟨v,h1,h2⟩:=h.slots t d (look_only _ _ _ ht)
  refine ⟨v,h1,JU hz.weak ?_ h2⟩
  cases d <;> simp only [DvOk] <;> first | exact hat _ | exact fun x _=>hat x
 ·refine kL hz.weak rfl (fun _ _=>rfl) ?_ (h.objs id ob (JP _ _ _ ho))
  cases ob <;> simp only [ObOk] <;> first | trivial | exact fun x _=>hat x | exact ⟨fun x _=>hat x,fun x _=>hat x⟩ | (split <;> first | trivial | exact hat _)
theorem Rel.forget (h:Rel n w0 Z0 st a w nm) (l:List Nat):Rel n w0 Z0 (Go.Ql.forget l st) a w nm:=by
 unfold Go.Ql.forget
 split
 ·exact h
 ·exact h.restrict _
def keptIn (st:St) (muts:List Nat) (id:Nat):Ob→Prop
 | .box _ => ∃ cs,look st.objs id=some (.box cs)
 | .arr v fz e t xs=>fz=false∧memN id muts=true ∧ ∃ v',look st.objs id=some (.arr v' false e t xs)∧v=Yx id v'
 | .gone => ∃ o,look st.objs id=some o∧o.mine=false
 | .clo f _ _ => ∃ p q,look st.objs id=some (.clo f p q)
 | .deep v fz e te t xs hole=>fz=false∧memN id muts=true∧hole=none ∧ ∃ v',look st.objs id=some (.deep v' false e te t xs none)∧v=Yx id v'
theorem keptIn.old {muts:List Nat} {id:Nat} {ob:Ob} (h:keptIn st muts id ob) : ∃ o,look st.objs id=some o∧(ob.mine=true→o.mine=true):=by
 cases ob with
 | box cs=>obtain ⟨cs',h⟩:=h;exact ⟨_,h,fun _=>rfl⟩
 | arr v fz e t xs=>obtain ⟨_,_,v',h,_⟩:=h;exact ⟨_,h,fun _=>rfl⟩
 | gone=>obtain ⟨o,h,_⟩:=h;exact ⟨o,h,fun h=>by cases h⟩
 | clo f x y=>obtain ⟨p,q,h⟩:=h;exact ⟨_,h,fun _=>rfl⟩
 | deep v fz e te t xs hole=>obtain ⟨_,_,_,v',h,_⟩:=h;exact ⟨_,h,fun _=>rfl⟩
theorem convAt_rd (h:Rel n w0 Z0 st a w nm) {muts:List Nat} {objs':List (Nat×Ob)}
 (hin : ∀ id ob,look objs' id=some ob→keptIn st muts id ob) {x:At} {v:Value} (hr:rdA w (Zc w0 Z0 nm st.objs w) nm st.objs x v) :
 rdA w (Zc w0 Z0 nm objs' w) nm objs' (kK muts st.objs x) v:=by
 have hz:Kept w w (Zc w0 Z0 nm st.objs w) (Zc w0 Z0 nm objs' w):=fun b hb=>⟨UB (fun id ob h1 h2=>(hin id ob h1).old.imp fun o ho=>⟨ho.1,ho.2 h2⟩) hb,rfl⟩
 have lost : ∀ id ob0,look st.objs id=some ob0→(∀ ob,look objs' id=some ob→ob.mine=true→False) → ∀ g,hasB (nm id) g→Zc w0 Z0 nm objs' w g:=by
  intro id ob0 hl hno g hb
  have hn:=h.new id _ g hl hb
  refine ⟨hn.2,fun hlt => .inr (hn.1.resolve_left (by omega)),?_⟩
  rintro ⟨id',ob,q1,q2,q3⟩
  obtain ⟨o,q4,_⟩:=(hin id' ob q1).old
  have hid:=h.inj id' id _ _ g q4 hl q3 hb
  subst hid
  exact hno ob q1 q2
 have gone : ∀ id v0 fz e t xs,look st.objs id=some (.arr v0 fz e t xs)→(fz || !memN id muts)=true → ∀ g,hasB (nm id) g→Zc w0 Z0 nm objs' w g:=by
  intro id v0 fz e t xs hl hm
  refine lost id _ hl fun ob q1 q2 => ?_
  have hq:=hin id ob q1
  cases ob with
  | box cs=>obtain ⟨cs',h4⟩:=hq;rw [hl] at h4;cases h4
  | clo f p q=>obtain ⟨_,_,h4⟩:=hq;rw [hl] at h4;cases h4
  | gone=>cases q2
  | deep v fz e te t xs hole=>obtain ⟨_,_,_,v',h4,_⟩:=hq;rw [hl] at h4;cases h4
  | arr v fz' e t xs=>
    obtain ⟨_,h5,v',h4,_⟩:=hq
    rw [hl] at h4
    cases h4
    rw [h5] at hm
    cases hm
 cases x with
 | val t d=>exact Vx hz hr
 | nilS=>exact hr
 | ref id off=>
   refine ⟨hr.1,fun cs hl => ?_⟩
   obtain ⟨cs',h3⟩:=hin id _ hl
   exact hr.2 cs' h3
 | clo id=>
   refine ⟨hr.1,fun f p q hl => ?_⟩
   obtain ⟨p',q',h3⟩:=hin id _ hl
   exact hr.2 f p' q' h3
 | win id ver lo m=>
   simp only [kK]
   split
   ·rename_i v0 fz e t xs hl
    cases hv:Nat.beq v0 ver with
    | false=>exact hr.1
    | true=>
      have:=beqN.1 hv
      subst this
      simp only [cond_true]
      obtain ⟨hw,hi⟩:=hr.2 fz e t xs hl
      cases hm:(fz || !memN id muts) with
      | true=>
        simp only [cond_true]
        cases hmap:t.isMap with
        | true=>exact hr.1
        | false=>
        simp only [cond_false]
        obtain ⟨cells,h1,h2⟩:=(h.objs id _ hl).sl hmap
        refine ⟨_,rfl,?_⟩
        rcases win_rd h1 h2 hw hi with hh | ⟨b,g,c,cs,q1,q2,q3,q4,q5,q6⟩
        ·exact .inl hh
        ·exact .inr (.inl ⟨b,g,c,cs,q1,q2,q3,gone id _ _ _ _ _ hl hm b (Yw q4),JK (fun _ _=>JD hz t) q5,q6⟩)
      | false=>
        simp only [cond_false]
        refine ⟨hr.1,fun fz1 e1 t1 xs1 hl1 => ?_⟩
        obtain ⟨_,_,v',h3,_⟩:=hin id _ hl1
        rw [hl] at h3
        cases h3
        exact ⟨hw,hi⟩
   ·exact hr.1
 | own id ver=>
   simp only [kK]
   split
   ·rename_i v0 fz e t xs hl
    cases hv:Nat.beq v0 ver with
    | false=>exact hr.1
    | true=>
      have:=beqN.1 hv
      subst this
      simp only [cond_true]
      have hvn:=hr.2 fz e t xs hl
      cases hm:(fz || !memN id muts) with
      | true=>
        simp only [cond_true]
        cases hmap:t.isMap with
        | true=>exact hr.1
        | false=>
        simp only [cond_false]
        rw [hvn]
        obtain ⟨cells,h1,h2⟩:=(h.objs id _ hl).sl hmap
        refine ⟨_,rfl,?_⟩
        rcases h1.2 with ⟨e1,e2⟩ | ⟨g,cap,cur,e1,e3,e4,e5,e6,e7⟩
        ·exact .inl ⟨e1,List.eq_nil_of_length_eq_zero e2⟩
        ·refine .inr (.inl ⟨g,0,cap,cells,e1,e4,e5,?_,JK (fun _ _=>JD hz t) h2,fun j u hj => ?_⟩)
         ·have hb:hasB (nm id) g:=by rw [e1];exact rfl
          have hn:=h.new id _ g hl hb
          exact gone id v0 fz e t xs hl hm g hb
         ·rw [Nat.zero_add,e3.cell]
          rw [← e7,List.getElem?_take] at hj
          split at hj
          ·simpa using hj
          ·cases hj
      | false=>
        simp only [cond_false]
        exact ⟨hr.1,fun _ _ _ _ _=>hvn⟩
   ·exact hr.1
 | aptr id ver=>
   simp only [kK]
   split
   ·rename_i v0 fz e t xs hl
    cases hv:Nat.beq v0 ver with
    | false=>exact hr.1
    | true=>
      have:=beqN.1 hv
      subst this
      simp only [cond_true]
      have hvn:=hr.2 fz e t xs hl
      cases hm:(fz || !memN id muts) with
      | true=>exact hr.1
      | false=>
        simp only [cond_false]
        exact ⟨hr.1,fun _ _ _ _ _=>hvn⟩
   ·exact hr.1
 | selfp id T=>
   refine ⟨hr.1,fun cs hl => ?_⟩
   obtain ⟨cs',h3⟩:=hin id _ hl
   exact hr.2 cs' h3
 | elem id ver i sz off=>exact hr.1
 | aelem=>exact hr.1
 | delem=>exact hr.1
 | din=>exact hr.1
 | dinel=>exact hr.1
 | down id ver=>
   simp only [kK]
   split
   ·rename_i v0 fz e te t xs hole hl
    cases hv:(Nat.beq v0 ver && !hole.isSome) with
    | false=>exact hr.1
    | true=>
      rw [Bool.and_eq_true] at hv
      have:=beqN.1 hv.1
      subst this
      simp only [cond_true]
      have hvn:=hr.2 fz e te t xs hole hl
      cases hm:(fz || !memN id muts) with
      | true=>
        simp only [cond_true]
        rw [hvn]
        have hh:hole=none:=by have:=hv.2;cases hole <;> simp_all
        subst hh
        refine rdDeep.data (kX hz.weak (fun _ _=>rfl) (show rdDeep w _ (nm id) e te t xs from h.objs id _ hl)) (lost id _ hl fun ob q1 q2 => ?_)
        have hq:=hin id ob q1
        cases ob with
        | box cs=>obtain ⟨cs',h4⟩:=hq;rw [hl] at h4;cases h4
        | clo f p q=>obtain ⟨_,_,h4⟩:=hq;rw [hl] at h4;cases h4
        | gone=>cases q2
        | arr v fz' e t xs=>obtain ⟨_,h5,v',h4,_⟩:=hq;rw [hl] at h4;cases h4
        | deep v fz e te t xs hole=>
          obtain ⟨_,h5,_,v',h4,_⟩:=hq
          rw [hl] at h4
          cases h4
          rw [h5] at hm
          cases hm
      | false=>
        simp only [cond_false]
        exact ⟨hr.1,fun _ _ _ _ _ _ _=>hvn⟩
   ·exact hr.1
 | fptr t d=>
   obtain ⟨b,off,cs,h1,h2,h3,h4⟩:=hr
   exact ⟨b,off,cs,h1,(hz b h2).1,JD hz t h3,h4⟩
 | fn f=>exact hr
 | junk=>exact hr
theorem keptVer_zero {id v:Nat} (hg:gFix≤id) (h:Yx id v=0):v=0:=by
 have:Nat.ble gFix id=true:=by rw [Nat.ble_eq];exact hg
 unfold Yx at h
 rw [this] at h
 exact h
theorem Ua {Z Z':Nat→Prop} {objs objs':List (Nat×Ob)} {g:At→At} (hg : ∀ x v,rdA w Z nm objs x v→rdA w Z' nm objs' (g x) v) {cs:List At} {vs:List Value} (h:rdAs w Z nm objs cs vs):rdAs w Z' nm objs' (cs.map g) vs:=by
 refine ⟨by rw [List.length_map];exact h.1,fun i x v q1 q2 => ?_⟩
 rw [List.getElem?_map,Option.map_eq_some_iff] at q1
 obtain ⟨y,h1,rfl⟩:=q1
 exact hg y v (h.2 i y v h1 q2)
theorem conv_self {muts:List Nat} {objs:List (Nat×Ob)} {id:Nat} {T:TypeId} {cs:List At} (h:At.selfp id T∈cs.map (kK muts objs)):At.selfp id T∈cs:=by
 obtain ⟨x,hx,e⟩:=List.mem_map.1 h
 have:x=At.selfp id T:=by
  cases x with
  | down id2 ver=>
    simp only [kK] at e
    split at e
    ·rename_i v fz e1 te t xs hole _
     cases hb:(Nat.beq v ver && !hole.isSome) <;> rw [hb] at e <;> simp only [cond_true,cond_false] at e
     ·cases e
     ·cases hm:(fz || !memN id2 muts) <;> rw [hm] at e <;> cases e
    ·cases e
  | _=>simp only [kK] at e <;> first | exact e | (cases e;done) | (split at e <;> first | (cases e;done) | (rename_i v _ _ _ _ _;cases hb:Nat.beq v _ <;> rw [hb] at e <;> simp only [cond_true,cond_false] at e <;> first | (cases e;done) | (split at e <;> cases e) | (cases hm:(_ || _:Bool) <;> rw [hm] at e <;> simp only [cond_true,cond_false] at e <;> first | (cases e;done) | (rename_i t _ _;cases hq:Ty.isMap _ <;> rw [hq] at e <;> cases e))))
 exact this ▸ hx
theorem Rel.norm (h:Rel n w0 Z0 st a w nm) (G:Env):Rel n w0 Z0 (Go.Ql.norm G st) a w nm:=by
 have hin : ∀ id ob,look (kg G st.objs st.objs) id=some ob→keptIn st G.muts id ob:=by
  intro id ob hl
  obtain ⟨ob0,h1,h2⟩:=JW G st.objs id st.objs hl
  cases ob0 with
  | box cs=>simp only [YA,Option.some.injEq] at h2;subst h2;exact ⟨cs,h1⟩
  | clo f p q=>simp only [YA,Option.some.injEq] at h2;subst h2;exact ⟨p,q,h1⟩
  | gone=>simp only [YA,Option.some.injEq] at h2;subst h2;exact ⟨_,h1,rfl⟩
  | arr v fz e t xs=>
    simp only [YA] at h2
    cases hm:(fz || !memN id G.muts) with
    | true=>
      rw [hm] at h2
      simp only [cond_true] at h2
      cases hf:(fz && memN (20000000+id) G.muts) with
      | true=>
        rw [hf] at h2
        simp only [cond_true,Option.some.injEq] at h2
        subst h2
        rw [Bool.and_eq_true] at hf
        exact ⟨_,h1,by simp [Ob.mine,hf.1]⟩
      | false=>rw [hf] at h2;cases h2
    | false=>
      rw [hm] at h2
      simp only [cond_false,Option.some.injEq] at h2
      subst h2
      rw [Bool.or_eq_false_iff] at hm
      obtain ⟨rfl,hm2⟩:=hm
      exact ⟨rfl,by simpa using hm2,v,h1,rfl⟩
  | deep v fz e te t xs hole=>
    simp only [YA] at h2
    cases hm:(fz || !memN id G.muts || hole.isSome) with
    | true=>rw [hm] at h2;cases h2
    | false=>
      rw [hm] at h2
      simp only [cond_false,Option.some.injEq] at h2
      subst h2
      rw [Bool.or_eq_false_iff,Bool.or_eq_false_iff] at hm
      obtain ⟨⟨rfl,hm2⟩,hm3⟩:=hm
      have hh:hole=none:=by cases hole <;> simp_all
      subst hh
      exact ⟨rfl,by simpa using hm2,rfl,v,h1,rfl⟩
 have hz:Kept w w (Zc w0 Z0 nm st.objs w) (Zc w0 Z0 nm (kg G st.objs st.objs) w):=fun b hb=>⟨UB (fun id ob h1 h2=>(hin id ob h1).old.imp fun o ho=>⟨ho.1,ho.2 h2⟩) hb,rfl⟩
 have hconv : ∀ x v,rdA w (Zc w0 Z0 nm st.objs w) nm st.objs x v→rdA w (Zc w0 Z0 nm (kg G st.objs st.objs) w) nm (kg G st.objs st.objs) (kK G.muts st.objs x) v:=fun x v hr=>convAt_rd h hin hr
 refine ⟨h.defk hz,h.size,fun t d ht => ?_,fun id ob ho => ?_,fun id ob b ho hb => ?_,fun id id' ob ob' b ho ho' hb hb' => ?_,h.same,fun id ob hg ho=>⟨fun hh => ?_,fun hh => ?_⟩,h.glob,h.calm⟩
 ·obtain ⟨d0,h1,rfl⟩:=look_normSlots G st.objs t st.slots ht
  obtain ⟨v,h2,h3⟩:=h.slots t d0 h1
  refine ⟨v,h2,?_⟩
  cases d0 with
  | one x=>exact hconv x v h3
  | agg cs=>obtain ⟨vs,e,h4,h5⟩:=h3;exact ⟨vs,e,Ua hconv h4,h5⟩
  | tup cs=>obtain ⟨vs,e,h4⟩:=h3;exact ⟨vs,e,Ua hconv h4⟩
  | tgg k cs=>obtain ⟨vs,c0,r,e,e1,e2,h4,h5⟩:=h3;exact ⟨vs,c0,r,e,e1,e2,Ua hconv h4,h5⟩
 ·obtain ⟨ob0,h1,h2⟩:=JW G st.objs id st.objs ho
  have h3:=h.objs id ob0 h1
  cases ob0 with
  | box cs=>
    simp only [YA,Option.some.injEq] at h2
    subst h2
    obtain ⟨b,vs,T,p1,p2,p3,p4⟩:=h3
    exact ⟨b,vs,T,p1,p2,Ua hconv p3,p4.1,fun T' hT=>p4.2 T' (conv_self hT)⟩
  | clo f p q=>
    simp only [YA,Option.some.injEq] at h2
    subst h2
    obtain ⟨vx,vy,p1,p2,p3⟩:=h3
    exact ⟨vx,vy,p1,Ua hconv p2,Ua hconv p3⟩
  | gone=>
    simp only [YA,Option.some.injEq] at h2
    subst h2
    trivial
  | arr v fz e t xs=>
    simp only [YA] at h2
    cases hm:(fz || !memN id G.muts) with
    | true=>
      rw [hm] at h2
      simp only [cond_true] at h2
      cases hf:(fz && memN (20000000+id) G.muts) with
      | true=>
        rw [hf] at h2
        simp only [cond_true,Option.some.injEq] at h2
        subst h2
        trivial
      | false=>rw [hf] at h2;cases h2
    | false=>
      rw [hm] at h2
      simp only [cond_false,Option.some.injEq] at h2
      subst h2
      exact VQ (w':=w) hz.weak (fun _ _=>rfl) (show rdArr w _ (nm id) e t xs from h3)
  | deep v fz e te t xs hole=>
    simp only [YA] at h2
    cases hm:(fz || !memN id G.muts || hole.isSome) with
    | true=>rw [hm] at h2;cases h2
    | false=>
      rw [hm] at h2
      simp only [cond_false,Option.some.injEq] at h2
      subst h2
      rw [Bool.or_eq_false_iff] at hm
      have hh:hole=none:=by have:=hm.2;cases hole <;> simp_all
      subst hh
      exact kX (w':=w) hz.weak (fun _ _=>rfl) (show rdDeep w _ (nm id) e te t xs from h3)
 ·obtain ⟨ob0,h1,_⟩:=JW G st.objs id st.objs ho
  exact h.new id ob0 b h1 hb
 ·obtain ⟨ob0,h1,_⟩:=JW G st.objs id st.objs ho
  obtain ⟨ob1,h2,_⟩:=JW G st.objs id' st.objs ho'
  exact h.inj id id' ob0 ob1 b h1 h2 hb hb'
 ·have hq:=hin id ob ho
  cases ob with
  | box cs=>obtain ⟨cs',h4⟩:=hq;exact (h.given id _ hg h4).1 trivial
  | clo f p q=>obtain ⟨_,_,h4⟩:=hq;exact (h.given id _ hg h4).1 trivial
  | gone=>exact hh.elim
  | deep=>exact hh.elim
  | arr v fz e t xs=>
    obtain ⟨_,_,v',h4,h5⟩:=hq
    exact (h.given id _ hg h4).1 ⟨hh.1,keptVer_zero hh.1 (h5.symm.trans hh.2)⟩
 ·have hq:=hin id ob ho
  cases ob with
  | deep v fz e te t xs hole=>
    obtain ⟨_,_,_,v',h4,h5⟩:=hq
    exact (h.given id _ hg h4).2 ⟨hh.1,keptVer_zero hh.1 (h5.symm.trans hh.2)⟩
  | _=>exact hh.elim
theorem Vt {k:St→Option ρ} : ∀ (l:List (Nat×Ob)) {st:St} {nm:Names},Rel n w0 Z0 st a w nm→shutK l st k=some r → ∃ st' nm',Rel n w0 Z0 st' a w nm'∧k st'=some r
 | [],st,nm,h,he=>⟨st,nm,h,he⟩
 | p::l,st,nm,h,he=>by
   unfold shutK at he
   split at he
   ·rename_i v e te t xs hole hob
    cases hd:st.noDin p.1 with
    | false=>rw [hd] at he;cases he
    | true=>
    rw [hd] at he
    simp only [cond_true] at he
    cases hole with
    | none=>
      simp only at he
      have hr:rdDeep w _ (nm p.1) e te t xs:=h.objs p.1 _ hob
      have hm:mayOb st p.1 (.deep v false e te t xs none)=true:=by unfold mayOb;rw [hob];simp [beqN.2,hd]
      have h2:=h.upd p.1 (.deep v false e te t xs none) (nm p.1) hm (by rw [hob];exact fun _=>⟨rfl,rfl,rfl,rfl,rfl,fun hh=>by cases hh⟩) ⟨rfl,rfl,rfl,Nat.le_refl _⟩ (fun b hb => .inr rfl) (fun b hb => .inl ⟨hb,_,hob,.inl rfl⟩)
       (by
        show rdDeep w _ (setN nm p.1 (nm p.1) p.1) e te t xs
        rw [jW,kO]
        refine kX (fun b hb=>⟨UB (fun id ob g1 g2 => ?_) hb,fun _ _ hu=>hu⟩) (fun _ _=>rfl) hr
        rw [Jl] at g1
        by_cases e:p.1=id
        ·subst e;rw [if_pos rfl] at g1;cases g1;exact ⟨_,hob,rfl⟩
        ·rw [if_neg e] at g1;exact ⟨ob,g1,g2⟩)
      exact Vt l h2 he
    | some q=>
    obtain ⟨i,off,s,oid,v0⟩:=q
    simp only at he
    split at he
    ·rename_i v1 te1 s1 ys hob2
     split at he
     ·rename_i hs
      subst hs
      cases hc:(Nat.beq v1 v0 && Nat.beq te1 te && !Nat.beq oid p.1 && !s1.isMap) with
      | false=>rw [hc] at he;cases he
      | true=>
        rw [hc] at he
        simp only [cond_true] at he
        simp only [Bool.and_eq_true,Bool.not_eq_true'] at hc
        obtain ⟨⟨⟨c1,c2⟩,c3⟩,c4⟩:=hc
        have:=beqN.1 c1
        subst this
        have:=beqN.1 c2
        subst this
        have hne:=Jb.1 c3
        obtain ⟨x,hy,he⟩:=ju he
        obtain ⟨q1,q2,q3⟩:=JQ hy
        split at he
        ·rename_i x' hx'
         obtain ⟨u,k0,k1,k2⟩:=h.objs p.1 _ hob
         have hu:u=nm oid:=k1.2 _ _ _ _ hob2
         obtain ⟨es,m1,m2⟩:=(h.objs oid _ hob2).sl c4
         rw [← hu] at m1
         obtain ⟨v',g1,g2,g3,_⟩:=k2.shut q3 hx' m1 m2 (fun b hb hh=>hne (h.inj oid p.1 _ _ b hob2 hob (Yw (hu ▸ hb)) hh))
         have hl:Jh st [(p.1,.deep v false e te1 t (xs.set i.toNat x') none),(oid,.gone)]=some ⟨st.slots,ins oid .gone (ins p.1 (.deep v false e te1 t (xs.set i.toNat x') none) st.objs)⟩:=by
          have h1:mayOb st p.1 (.deep v false e te1 t (xs.set i.toNat x') none)=true:=by unfold mayOb;rw [hob];simp [beqN.2,hd]
          have h2:mayOb ⟨st.slots,ins p.1 (.deep v false e te1 t (xs.set i.toNat x') none) st.objs⟩ oid .gone=true:=by
           unfold mayOb
           simp only [Jl,if_neg (Ne.symm hne),hob2]
          simp only [Jh,h1,h2,cond_true]
         have n1:setN (setN nm oid .nilIface) p.1 v' p.1=v':=jW _ _ _
         have n2:setN (setN nm oid .nilIface) p.1 v' oid = .nilIface:=by rw [ka _ _ hne,jW]
         have hno : ∀ b,¬ hasB (setN (setN nm oid .nilIface) p.1 v' oid) b:=fun b hb=>by rw [n2] at hb;cases hb
         refine Vt l (h.updM (setN (setN nm oid .nilIface) p.1 v') hl (by simp [kj,Jb.2 hne]) (fun j hj => ?_) ?_ ⟨rfl,rfl,rfl,Nat.le_refl _⟩ (fun b hb => .inr rfl) ?_ ?_ (fun hk => ?_)) he
         ·rw [ka _ _ (Ne.symm (hj _ (List.mem_cons_self ..))),ka _ _ (Ne.symm (hj _ (List.mem_cons_of_mem _ (List.mem_cons_self ..))))]
         ·simp only [List.forall_mem_cons,List.not_mem_nil,false_imp_iff,implies_true,and_true]
          exact ⟨by rw [hob,n1];exact fun _=>⟨g2,rfl,rfl,rfl,List.length_set,fun hh=>by cases hh⟩,by rw [hob2];trivial⟩
         ·simp only [List.forall_mem_cons,List.not_mem_nil,false_imp_iff,implies_true,and_true]
          refine ⟨fun b hb => ?_,fun b hb=>absurd hb (hno b)⟩
          rw [n1] at hb
          rcases g3 b hb with hh | hh
          ·exact .inl ⟨_,List.mem_cons_self ..,_,hob,.inl rfl,hh⟩
          ·exact .inl ⟨_,List.mem_cons_of_mem _ (List.mem_cons_self ..),_,hob2,.inl rfl,Yw (hu ▸ hh)⟩
         ·simp only [List.forall_mem_cons,List.not_mem_nil,false_imp_iff,implies_true,and_true,true_and]
          exact ⟨fun b _ h2=>absurd h2 (hno b),fun b h1=>absurd h1 (hno b)⟩
         ·simp only [List.forall_mem_cons,List.not_mem_nil,false_imp_iff,implies_true,and_true]
          refine ⟨?_,trivial⟩
          show rdDeep w _ _ e te1 t _
          rw [n1]
          exact kX hk.weak (fun _ _=>rfl) g1
        ·cases he
     ·cases he
    ·cases he
   ·exact Vt l h he
end
end Go.Ql
end

section
set_option linter.unusedSectionVars false
namespace Go.Ql
section
variable [GInv] {α β γ ρ τ:Type}
theorem je {p:Option α} {f:α→Option ρ} {f':α→Option τ} {k:τ→Option ρ} (h : ∀ x,f x=bnd (f' x) k):bnd p f=bnd (bnd p f') k:=by
 cases p with
 | none=>rfl
 | some x=>exact h x
theorem jw {b:Bool} {x y:Option ρ} {x' y':Option τ} {k:τ→Option ρ} (h1:x=bnd x' k) (h2:y=bnd y' k):br b x y=bnd (br b x' y') k:=by
 cases b with
 | true=>exact h1
 | false=>exact h2
theorem kB {r:α⊕β} {f:α→Option ρ} {g:β→Option ρ} {f':α→Option τ} {g':β→Option τ} {k:τ→Option ρ} (h1 : ∀ x,f x=bnd (f' x) k) (h2 : ∀ x,g x=bnd (g' x) k):sel r f g=bnd (sel r f' g') k:=by
 cases r with
 | inl x=>exact h1 x
 | inr x=>exact h2 x
theorem jc {k:τ→Option ρ} {t:τ}:k t=bnd (some t) k:=rfl
end
structure ExtE (ev ev':Operand→Option Dv) (ob ob':Objs) (dst:Nat):Prop where
 e : ∀ {x d},ev x=some d→ev' x=some d
 o : ∀ {i b},ob i=some b→ob' i=some b
 ds : ∀ j,ob (kl dst j)=ob' (kl dst j)
theorem ExtE.d {ev ev':Operand→Option Dv} {ob ob':Objs} {dst:Nat} (h:ExtE ev ev' ob ob' dst):ob dst=ob' dst:=h.ds 0
section
variable [GInv] {G:Env} {o:Oper} {dst:Nat} {ev:Operand→Option Dv} {ob:Objs} {ρ:Type} {k:Eff→Option ρ} {r:ρ}
def Fixed (G:Env) (o:Oper) (dst:Nat) (ev:Operand→Option Dv) (ob:Objs) (k:Eff→Option ρ) (r:ρ):Prop:=
 ∃ e,k e=some r ∧ ∀ {ev' ob'},ExtE ev ev' ob ob' dst → ∀ (τ:Type) (k':Eff→Option τ),effK G o dst ev' ob' k'=k' e
theorem atV_ext {ob':Objs} (h : ∀ {i b},ob i=some b→ob' i=some b) {t:Ty} {a:At} {p} (he:atV ob t a=some p):atV ob' t a=some p:=by
 cases a <;> try exact he
 case own id ver=>
  simp only [atV] at he ⊢
  split at he
  ·rename_i hob;rw [h hob];exact he
  ·cases he
 case win id ver lo m=>
  simp only [atV] at he ⊢
  split at he
  ·rename_i hob;rw [h hob];exact he
  ·cases he
 case down id ver=>
  simp only [atV] at he ⊢
  split at he
  ·rename_i hob;rw [h hob];exact he
  ·cases he
theorem verD_ext {ev':Operand→Option Dv} {ob':Objs} (h:ExtE ev ev' ob ob' dst):verD ob' dst=verD ob dst:=by unfold verD;rw [h.d]
theorem verOf_ext {ev':Operand→Option Dv} {ob':Objs} (h:ExtE ev ev' ob ob' dst):verOf ob' dst=verOf ob dst:=by unfold verOf;rw [h.d]
theorem deepV_ext {ob':Objs} (h : ∀ {i b},ob i=some b→ob' i=some b) {te:TypeId} : ∀ {t:Ty} {cs:List At} {p},deepV ob te t cs=some p→deepV ob' te t cs=some p:=by
 intro t
 induction t with
 | st t ih=>intro cs p he;exact ih he
 | pair a b iha ihb=>
   intro cs p he
   simp only [deepV] at he ⊢
   split at he
   ·rename_i h1
    rw [iha h1]
    simp only
    split at he
    ·rename_i h2;rw [ihb h2];exact he
    ·cases he
   ·cases he
 | unit=>intro cs p he;exact he
 | sl s ih=>
   intro cs p he
   cases cs with
   | nil=>exact he
   | cons c r=>
     cases c with
     | own id ver=>
       simp only [deepV] at he ⊢
       split at he
       ·rename_i hob;rw [h hob];exact he
       ·cases he
     | _=>exact he
 | _=>intro cs p he;cases cs <;> exact he
theorem joinV_ext {ob':Objs} (h : ∀ {i b},ob i=some b→ob' i=some b) : ∀ {t:Ty} {cs:List At} {p},joinV ob t cs=some p→joinV ob' t cs=some p:=by
 intro t
 induction t with
 | st t ih=>intro cs p he;exact ih he
 | pair a b iha ihb=>
   intro cs p he
   simp only [joinV] at he ⊢
   split at he
   ·rename_i h1
    rw [iha h1]
    simp only
    split at he
    ·rename_i h2;rw [ihb h2];exact he
    ·cases he
   ·cases he
 | unit=>intro cs p he;exact he
 | ar m t ih=>intro cs p he;cases cs <;> cases he
 | node t ih=>
   intro cs p he
   simp only [joinV] at he ⊢
   split at he
   ·rename_i h1
    rw [ih h1]
    simp only
    split at he
    ·rename_i h2;rw [atV_ext h h2];exact he
    ·cases he
   ·cases he
 | _=>
   intro cs p he
   cases cs with
   | nil=>exact he
   | cons c r=>
     simp only [joinV] at he ⊢
     split at he
     ·rename_i h1;rw [atV_ext h h1];exact he
     ·cases he
theorem kr {ob':Objs} (h : ∀ {i b},ob i=some b→ob' i=some b) {t:Ty} {d:Dv} {p} (he:dvV ob t d=some p):dvV ob' t d=some p:=by
 cases d with
 | one a=>exact atV_ext h he
 | agg cs=>
   cases t <;> try exact he
   simp only [dvV] at he ⊢
   split at he
   ·rename_i h1;rw [joinV_ext h h1];exact he
   ·cases he
 | tup l=>exact he
 | tgg k l=>exact he
theorem args_ext {ob':Objs} (h : ∀ {i b},ob i=some b→ob' i=some b) : ∀ {ts:List Ty} {ds:List Dv} {p},args ob ts ds=some p→args ob' ts ds=some p
 | [],[],p,he=>he
 | [],_::_,p,he=>he
 | _::_,[],p,he=>by
   rename_i ts
   cases ts <;> exact he
 | [t],[d],p,he=>by
   simp only [args] at he ⊢
   split at he
   ·rename_i h1;rw [kr h h1];exact he
   ·cases he
 | [t],_::_::_,p,he=>he
 | t::t'::ts,d::ds,p,he=>by
   simp only [args] at he ⊢
   split at he
   ·rename_i h1
    rw [kr h h1]
    simp only
    split at he
    ·rename_i h2;rw [args_ext h h2];exact he
    ·cases he
   ·cases he
theorem YI {ev':Operand→Option Dv} (h : ∀ {x d},ev x=some d→ev' x=some d) : ∀ {l:List Operand} {p},evAll ev l=some p→evAll ev' l=some p
 | [],p,he=>he
 | x::l,p,he=>by
   simp only [evAll] at he ⊢
   split at he
   ·rename_i h1 h2
    rw [h h1,YI h h2];exact he
   ·cases he
theorem fillA_ext {ev':Operand→Option Dv} (h : ∀ {x d},ev x=some d→ev' x=some d) {tab fs} : ∀ {l:List (Nat×Operand)} {cs p},fillA tab fs ev l cs=some p→fillA tab fs ev' l cs=some p
 | [],cs,p,he=>he
 | (i,x)::l,cs,p,he=>by
   simp only [fillA] at he ⊢
   split at he
   ·rename_i off ft d h1 h2
    rw [h1,h h2]
    simp only
    split at he
    ·rename_i ds fi h3 h4
     cases hb:Nat.beq ds.length fi.ty.cells && Nat.ble (off+ds.length) cs.length with
     | true=>rw [hb] at he;exact fillA_ext h he
     | false=>rw [hb] at he;cases he
    ·cases he
   ·cases he
theorem ownNil_ext {fr:Bool} {dq:Nat→TypeId→Option TypeId} {ob':Objs} {idf:Nat→Nat} (h : ∀ j,ob (idf j)=ob' (idf j)) : ∀ {l:List (Nat×(TypeId×Ty))} {ds:List At},Yb fr dq ob' idf l ds=Yb fr dq ob idf l ds
 | [],ds=>rfl
 | (j,e,s)::r,ds=>by
   simp only [Yb,verK,verKD,h,ownNil_ext h]
theorem verK_up {ob':Objs} (h : ∀ {i b},ob i=some b→ob' i=some b) {i v:Nat} (he:verK false ob i=some v):verK false ob' i=some v:=by
 unfold verK at he ⊢
 cases q:ob i with
 | none=>rw [q] at he;cases he
 | some b=>rw [q] at he;rw [h q];exact he
theorem verKD_up {ob':Objs} (h : ∀ {i b},ob i=some b→ob' i=some b) {i v:Nat} (he:verKD false ob i=some v):verKD false ob' i=some v:=by
 unfold verKD at he ⊢
 cases q:ob i with
 | none=>rw [q] at he;cases he
 | some b=>rw [q] at he;rw [h q];exact he
theorem ownNil_up {dq:Nat→TypeId→Option TypeId} {ob':Objs} {idf:Nat→Nat} (h : ∀ {i b},ob i=some b→ob' i=some b) : ∀ {l:List (Nat×(TypeId×Ty))} {ds:List At} {p},Yb false dq ob idf l ds=some p→Yb false dq ob' idf l ds=some p
 | [],ds,p,he=>he
 | (j,e,s)::r,ds,p,he=>by
   simp only [Yb] at he ⊢
   split at he
   ·split at he
    ·split at he
     ·rename_i ver hv
      rw [verKD_up h hv]
      simp only
      cases ha:ds.all (fun x => !x.mentions (idf j)) with
      | false=>rw [ha] at he;cases he
      | true=>
        rw [ha] at he
        simp only [cond_true] at he ⊢
        split at he
        ·rename_i h2
         rw [ownNil_up h h2]
         exact he
        ·cases he
     ·cases he
    split at he
    ·rename_i ver hv
     rw [verK_up h hv]
     simp only
     cases ha:(ds.all (fun x => !x.mentions (idf j)) && !s.isMap) with
     | false=>rw [ha] at he;cases he
     | true=>
       rw [ha] at he
       simp only [cond_true] at he ⊢
       split at he
       ·rename_i h2
        rw [ownNil_up h h2]
        exact he
       ·cases he
    ·cases he
   ·exact ownNil_up h he
theorem fillS_ext {ev':Operand→Option Dv} {ob':Objs} (h : ∀ {x d},ev x=some d→ev' x=some d) (h' : ∀ {i b},ob i=some b→ob' i=some b) {tab fs} {s:Ty} : ∀ {l:List (Nat×Operand)} {y p},fillS ob tab fs ev s l y=some p→fillS ob' tab fs ev' s l y=some p
 | [],y,p,he=>he
 | (i,x)::l,y,p,he=>by
   simp only [fillS] at he ⊢
   split at he
   ·rename_i off ft d h1 h2
    rw [h1,h h2]
    simp only
    split at he
    ·rename_i fi h3
     split at he
     ·rename_i z u h4
      rw [kr h' h4]
      simp only
      split at he
      ·rename_i y' h5
       split at he
       ·rename_i h6
        rw [fillS_ext h h' h6];exact he
       ·cases he
      ·cases he
     ·cases he
    ·cases he
   ·cases he
theorem fillE_ext {ev':Operand→Option Dv} {ob':Objs} (h : ∀ {x d},ev x=some d→ev' x=some d) (h' : ∀ {i b},ob i=some b→ob' i=some b) {s:Ty} {m:Nat} : ∀ {l:List (Nat×Operand)} {y p},fillE ob ev s m l y=some p→fillE ob' ev' s m l y=some p
 | [],y,p,he=>he
 | (i,x)::l,y,p,he=>by
   simp only [fillE] at he ⊢
   split at he
   ·rename_i d h2
    rw [h h2]
    simp only
    split at he
    ·rename_i z u h4
     rw [kr h' h4]
     simp only
     cases hb:Nat.blt i m with
     | false=>rw [hb] at he;cases he
     | true=>
       rw [hb] at he
       simp only [cond_true] at he ⊢
       split at he
       ·rename_i h6
        rw [fillE_ext h h' h6];exact he
       ·cases he
    ·cases he
   ·cases he
theorem elemsA_ext {ev':Operand→Option Dv} {ob':Objs} (h : ∀ {x d},ev x=some d→ev' x=some d) (h' : ∀ {i b},ob i=some b→ob' i=some b) {s:Ty} : ∀ {l:List (Nat×Operand)} {i p},Ug ob ev s i l=some p→Ug ob' ev' s i l=some p
 | [],i,p,he=>he
 | (j,x)::l,i,p,he=>by
   simp only [Ug] at he ⊢
   cases hb:Nat.beq i j with
   | false=>rw [hb] at he;cases he
   | true=>
     rw [hb] at he
     simp only [cond_true] at he ⊢
     split at he
     ·rename_i h1
      rw [h h1]
      simp only
      split at he
      ·rename_i h2
       rw [kr h' h2]
       simp only
       split at he
       ·rename_i h3;rw [elemsA_ext h h' h3];exact he
       ·cases he
      ·cases he
     ·cases he
theorem ext_move {x:Operand} (ho:o.op = .move x) (he:effK G o dst ev ob k=some r):Fixed G o dst ev ob k r:=by
 unfold effK at he
 rw [ho] at he
 simp only at he
 split at he
 ·rename_i id ver hd
  cases hm:memN (coldId dst) G.muts with
  | false=>
    rw [hm] at he
    simp only [cond_false] at he
    exact ⟨_,he,fun h=>by intro τ k';unfold effK;rw [ho];simp only [h.e hd,hm,cond_false]⟩
  | true=>
    rw [hm] at he
    simp only [cond_true] at he
    split at he
    ·rename_i v fz e s xs hob
     cases hv:(Nat.beq v ver && !s.isMap) with
     | false=>rw [hv] at he;cases he
     | true=>
       rw [hv] at he
       simp only [cond_true] at he
       exact ⟨_,he,fun h=>by intro τ k';unfold effK;rw [ho];simp only [h.e hd,hm,cond_true,h.o hob,hv]⟩
    ·cases he
 ·rename_i d hn hd
  refine ⟨_,he,fun h => ?_⟩
  intro τ k';unfold effK;rw [ho]
  simp only [h.e hd]
 ·cases he
theorem ext_assign {x:Operand} (ho:o.op = .assign x) (he:effK G o dst ev ob k=some r):Fixed G o dst ev ob k r:=by
 unfold effK at he
 rw [ho] at he
 simp only at he
 cases hx:ev x with
 | none=>rw [hx] at he;cases he
 | some d=>
   rw [hx] at he
   split at he
   ·rename_i h0
    cases h0
    cases hm:keepNil G x dst with
    | true=>
      rw [hm] at he
      exact ⟨_,he,fun h=>by intro τ k';unfold effK;rw [ho];simp only [h.e hx,hm,cond_true]⟩
    | false=>
    rw [hm] at he
    simp only [cond_false] at he
    split at he
    ·rename_i ht
     split at he
     ·rename_i te hte
      split at he
      ·rename_i ver hv
       exact ⟨_,he,fun h=>by intro τ k';unfold effK;rw [ho];simp only [h.e hx,hm,cond_false,ht,hte,verD_ext h,hv]⟩
      ·cases he
     rename_i hte
     split at he
     ·rename_i ver hv
      exact ⟨_,he,fun h=>by intro τ k';unfold effK;rw [ho];simp only [h.e hx,hm,cond_false,ht,hte,verOf_ext h,hv]⟩
     ·cases he
    ·cases he
   ·rename_i d' hn h0
    cases h0
    refine ⟨_,he,fun h => ?_⟩
    intro τ k';unfold effK;rw [ho];simp only [h.e hx]
   ·cases he
theorem ext_pick {c x y:Operand} (ho:o.op = .pick c x y) (he:effK G o dst ev ob k=some r):Fixed G o dst ev ob k r:=by
 unfold effK at he
 rw [ho] at he
 simp only at he
 split at he
 ·rename_i b hb
  cases b with
  | true=>
    simp only [br] at he
    split at he
    ·rename_i d hd
     exact ⟨_,he,fun h=>by intro τ k';unfold effK;rw [ho];simp only [h.e hb,br,h.e hd]⟩
    ·cases he
  | false=>
    simp only [br] at he
    split at he
    ·rename_i d hd
     exact ⟨_,he,fun h=>by intro τ k';unfold effK;rw [ho];simp only [h.e hb,br,h.e hd]⟩
    ·cases he
 ·cases he
theorem ext_alloc {t:TypeId} (ho:o.op = .alloc t) (he:effK G o dst ev ob k=some r):Fixed G o dst ev ob k r:=by
 unfold effK at he
 rw [ho] at he
 simp only at he
 split at he
 ·rename_i ti ht
  cases hf:ti.ty.flat with
  | true=>
    rw [hf] at he
    simp only [cond_true] at he
    split at he
    ·rename_i hd
     split at he
     ·rename_i cs u hown
      cases hb:(u.all (fun q => !Nat.beq q.1 dst) && cs.all (fun x => !x.mentions dst)) with
      | false=>rw [hb] at he;cases he
      | true=>
        rw [hb] at he
        refine ⟨_,he,fun h => ?_⟩
        have hx:=ownNil_ext (fr:=true) (dq:=deepQ G) (ob:=ob) (idf:=fun j=>kl dst (j+1)) (fun j=>h.ds (j+1)) (l:=bif memN dst G.muts then UR G.tab ti else []) (ds:=VG (memN dst G.muts) ti.ty)
        intro τ k';unfold effK;rw [ho];simp only [ht,hf,cond_true,← h.d,hd,hx,hown,hb]
     ·cases he
    ·cases he
  | false=>
    rw [hf] at he
    simp only [cond_false] at he
    split at he
    ·rename_i ver hv
     split at he
     ·rename_i m s m' e'
      cases hb:Nat.blt 0 m && Nat.ble m 1048576 with
      | false=>rw [hb] at he;cases he
      | true=>
        rw [hb] at he
        exact ⟨_,he,fun h=>by intro τ k';unfold effK;rw [ho];simp only [ht,hf,cond_false,verOf,← h.d];unfold verOf at hv;rw [hv];simp only [hb,cond_true]⟩
     ·exact ⟨_,he,fun h=>by intro τ k';unfold effK;rw [ho];simp only [ht,hf,cond_false,verOf,← h.d];unfold verOf at hv;rw [hv]⟩
     ·cases he
    ·cases he
 ·cases he
theorem lenOf_ext {ob':Objs} (h : ∀ {i b},ob i=some b→ob' i=some b) {d:Dv} {p} (he:lenOf ob d=some p):lenOf ob' d=some p:=by
 cases d with
 | one a=>
   cases a <;> try exact he
   case val t d=>cases t <;> exact he
   case own id ver=>
    simp only [lenOf] at he ⊢
    split at he
    ·rename_i hob;rw [h hob];exact he
    ·cases he
   case win id ver lo m=>
    simp only [lenOf] at he ⊢
    split at he
    ·rename_i hob;rw [h hob];exact he
    ·cases he
   case down id ver=>
    simp only [lenOf] at he ⊢
    split at he
    ·rename_i hob;rw [h hob];exact he
    ·cases he
 | agg cs=>exact he
 | tup cs=>exact he
 | tgg k cs=>exact he
theorem ext_box {t:TypeId} {x:Operand} (ho:o.op = .box t x) (he:effK G o dst ev ob k=some r):Fixed G o dst ev ob k r:=by
 unfold effK at he
 rw [ho] at he
 simp only at he
 split at he
 ·rename_i ti d ht hx
  cases hl5:memN (8500000+dst) G.muts with
  | true=>
    rw [hl5] at he
    simp only [cond_true] at he
    split at he
    ·rename_i m hm
     exact ⟨_,he,fun h=>by intro τ k';unfold effK;rw [ho];simp only [ht,h.e hx,hl5,cond_true,lenOf_ext h.o hm]⟩
    ·cases he
  | false=>
  rw [hl5] at he
  simp only [cond_false] at he
  cases hl6:memN (8600000+dst) G.muts with
  | true=>
    rw [hl6] at he
    simp only [cond_true] at he
    split at he
    ·rename_i y hy
     exact ⟨_,he,fun h=>by intro τ k';unfold effK;rw [ho];simp only [ht,h.e hx,hl5,hl6,cond_true,cond_false,kr h.o hy]⟩
    ·cases he
  | false=>
  rw [hl6] at he
  simp only [cond_false] at he
  cases hf:ti.ty.flat with
  | true=>
    rw [hf] at he
    simp only [cond_true] at he
    split at he
    ·rename_i cs hc
     split at he
     ·rename_i hd
      cases hmu:memN dst G.muts with
      | true=>
        rw [hmu] at he
        simp only [cond_true] at he
        split at he
        ·rename_i cs' u hown
         cases hb:(Nat.beq cs.length ti.ty.cells && u.all (fun q => !Nat.beq q.1 dst) && cs'.all (fun x => !x.mentions dst)) with
         | false=>rw [hb] at he;cases he
         | true=>
           rw [hb] at he
           refine ⟨_,he,fun h => ?_⟩
           have hx0:=ownNil_ext (fr:=true) (dq:=deepQ G) (ob:=ob) (idf:=fun j=>kl dst (j+1)) (fun j=>h.ds (j+1)) (l:=UR G.tab ti) (ds:=cs)
           intro τ k';unfold effK;rw [ho];simp only [ht,h.e hx,hl5,hl6,cond_false,hf,hc,cond_true,← h.d,hd,hmu,hx0,hown,hb]
        ·cases he
      | false=>
      rw [hmu] at he
      simp only [cond_false] at he
      cases hb:Nat.beq cs.length ti.ty.cells with
      | true=>
        rw [hb] at he
        exact ⟨_,he,fun h=>by intro τ k';unfold effK;rw [ho];simp only [ht,h.e hx,hl5,hl6,cond_false,hf,hc,← h.d,hd,hmu,hb,cond_true,cond_false]⟩
      | false=>rw [hb] at he;cases he
     ·cases he
    ·cases he
  | false=>
    rw [hf] at he
    simp only [cond_false] at he
    cases hz:memN (8000000+dst) G.muts with
    | true=>
      rw [hz] at he
      simp only [cond_true] at he
      split at he
      ·rename_i y hy
       exact ⟨_,he,fun h=>by intro τ k';unfold effK;rw [ho];simp only [ht,h.e hx,hl5,hl6,cond_false,hf,cond_false,hz,cond_true,kr h.o hy]⟩
      ·cases he
    | false=>
    rw [hz] at he
    simp only [cond_false] at he
    split at he
    ·rename_i ver y u hv hy
     cases ha:u.all (fun q => !Nat.beq q.1 dst) with
     | false=>rw [ha] at he;cases he
     | true=>
       rw [ha] at he
       simp only [cond_true] at he
       split at he
       ·rename_i m s m' e' y' _
        cases hb:Nat.blt 0 m && Nat.ble m 1048576 with
        | false=>rw [hb] at he;cases he
        | true=>
          rw [hb] at he
          exact ⟨_,he,fun h=>by intro τ k';unfold effK;rw [ho];simp only [ht,h.e hx,hl5,hl6,cond_false,hf,cond_false,hz,verOf,← h.d,kr h.o hy];unfold verOf at hv;rw [hv];simp only [ha,hb,cond_true]⟩
       ·exact ⟨_,he,fun h=>by intro τ k';unfold effK;rw [ho];simp only [ht,h.e hx,hl5,hl6,cond_false,hf,cond_false,hz,verOf,← h.d,kr h.o hy];unfold verOf at hv;rw [hv];simp only [ha,cond_true]⟩
       ·cases he
    ·cases he
 ·cases he
theorem ext_field {t:TypeId} {x:Operand} {f:Nat} (ho:o.op = .field t x f) (he:effK G o dst ev ob k=some r):Fixed G o dst ev ob k r:=by
 unfold effK at he
 rw [ho] at he
 simp only at he
 split at he
 ·rename_i ty fs s y ht hx
  split at he
  ·rename_i off ft hf
   split at he
   ·rename_i fi hfi
    split at he
    ·rename_i z hz
     exact ⟨_,he,fun h=>by intro τ k';unfold effK;rw [ho];simp only [ht,h.e hx,hf,hfi,hz]⟩
    ·cases he
   ·cases he
  ·cases he
 ·cases he
theorem ext_makeInterface {t:TypeId} {x:Operand} (ho:o.op = .makeInterface t x) (he:effK G o dst ev ob k=some r):Fixed G o dst ev ob k r:=by
 unfold effK at he
 rw [ho] at he
 simp only at he
 split at he
 ·rename_i s fs d htab hx
  split at he
  ·rename_i y u hy
   exact ⟨_,he,fun h=>by intro τ k';unfold effK;rw [ho];simp only [htab,h.e hx,kr h.o hy]⟩
  ·cases he
 ·cases he
theorem ext_fieldAddr {t:TypeId} {x:Operand} {f:Nat} (ho:o.op = .fieldAddr t x f) (he:effK G o dst ev ob k=some r):Fixed G o dst ev ob k r:=by
 unfold effK at he
 rw [ho] at he
 simp only at he
 split at he
 ·rename_i ty fs p ht hx
  split at he
  ·rename_i off ft hf
   split at he
   ·rename_i fi hfi
    cases hz:Nat.beq fi.ty.cells 0 with
    | true=>rw [hz] at he;cases he
    | false=>
      rw [hz] at he
      simp only [cond_false] at he
      split at he
      ·rename_i id o'
       split at he
       ·rename_i cs hob
        exact ⟨_,he,fun h=>by intro τ k';unfold effK;rw [ho];simp only [ht,h.e hx,hf,hfi,hz,cond_false,h.o hob]⟩
       ·cases he
      ·rename_i id ver i sz o'
       split at he
       ·rename_i v fz e t' xs hob
        cases hb:Nat.beq v ver with
        | true=>
          rw [hb] at he
          exact ⟨_,he,fun h=>by intro τ k';unfold effK;rw [ho];simp only [ht,h.e hx,hf,hfi,hz,cond_false,h.o hob,hb,cond_true]⟩
        | false=>rw [hb] at he;cases he
       ·cases he
      ·rename_i id ver
       split at he
       ·rename_i v fz e s xs hob
        cases hb:Nat.beq v ver with
        | true=>
          rw [hb] at he
          simp only [cond_true] at he
          obtain ⟨y,hy,he⟩:=ju he
          exact ⟨_,he,fun h=>by intro τ k';unfold effK;rw [ho];simp only [ht,h.e hx,hf,hfi,hz,cond_false,h.o hob,hb,cond_true,hy,bnd]⟩
        | false=>rw [hb] at he;cases he
       ·cases he
      ·rename_i id ver i sz q m e j o'
       split at he
       ·rename_i v fz e' t' xs hob
        cases hb:Nat.beq v ver with
        | true=>
          rw [hb] at he
          exact ⟨_,he,fun h=>by intro τ k';unfold effK;rw [ho];simp only [ht,h.e hx,hf,hfi,hz,cond_false,h.o hob,hb,cond_true]⟩
        | false=>rw [hb] at he;cases he
       ·cases he
      ·rename_i id ver i o'
       split at he
       ·rename_i v fz e te t' xs hole hob
        cases hb:Nat.beq v ver with
        | true=>
          rw [hb] at he
          exact ⟨_,he,fun h=>by intro τ k';unfold effK;rw [ho];simp only [ht,h.e hx,hf,hfi,hz,cond_false,h.o hob,hb,cond_true]⟩
        | false=>rw [hb] at he;cases he
       ·cases he
      ·rename_i id ver i o1 s2 j o'
       split at he
       ·rename_i v fz e te t' xs hob
        cases hb:Nat.beq v ver with
        | true=>
          rw [hb] at he
          exact ⟨_,he,fun h=>by intro τ k';unfold effK;rw [ho];simp only [ht,h.e hx,hf,hfi,hz,cond_false,h.o hob,hb,cond_true]⟩
        | false=>rw [hb] at he;cases he
       ·cases he
      ·rename_i s d
       split at he
       ·rename_i y hy
        exact ⟨_,he,fun h=>by intro τ k';unfold effK;rw [ho];simp only [ht,h.e hx,hf,hfi,hz,cond_false,hy]⟩
       ·cases he
      ·cases he
   ·cases he
  ·cases he
 ·cases he
theorem ext_load {t:TypeId} {x:Operand} (ho:o.op = .load t x) (he:effK G o dst ev ob k=some r):Fixed G o dst ev ob k r:=by
 unfold effK at he
 rw [ho] at he
 simp only at he
 split at he
 ·rename_i ti p ht hx
  split at he
  ·rename_i id off
   split at he
   ·rename_i cs hob
    cases hst:ti.ty.isSt with
    | true=>
      rw [hst] at he
      simp only [cond_true] at he
      cases hb:Nat.ble (off+ti.ty.cells) cs.length with
      | true=>
        rw [hb] at he
        exact ⟨_,he,fun h=>by intro τ k';unfold effK;rw [ho];simp only [ht,h.e hx,h.o hob,hst,hb,cond_true]⟩
      | false=>rw [hb] at he;cases he
    | false=>
      rw [hst] at he
      simp only [cond_false] at he
      split at he
      ·rename_i a ha
       exact ⟨_,he,fun h=>by intro τ k';unfold effK;rw [ho];simp only [ht,h.e hx,h.o hob,hst,ha,cond_false]⟩
      ·cases he
   ·cases he
  ·rename_i id ver i sz off
   split at he
   ·rename_i v fz e s xs hob
    cases hb:Nat.beq v ver with
    | true=>
      rw [hb] at he
      simp only [cond_true] at he
      obtain ⟨y,hy,he⟩:=ju he
      split at he
      ·rename_i z hz
       exact ⟨_,he,fun h=>by intro τ k';unfold effK;rw [ho];simp only [ht,h.e hx,h.o hob,hb,cond_true,hy,bnd,hz]⟩
      ·cases he
    | false=>rw [hb] at he;cases he
   ·cases he
  ·rename_i id ver i sz q m e j off
   split at he
   ·rename_i v fz e' s xs hob
    cases hb:Nat.beq v ver with
    | true=>
      rw [hb] at he
      simp only [cond_true] at he
      obtain ⟨y,hy,he⟩:=ju he
      split at he
      ·rename_i zs hzs
       obtain ⟨y',hy',he⟩:=ju he
       split at he
       ·rename_i z hz
        exact ⟨_,he,fun h=>by intro τ k';unfold effK;rw [ho];simp only [ht,h.e hx,h.o hob,hb,cond_true,hy,bnd,hzs,hy',hz]⟩
       ·cases he
      ·cases he
    | false=>rw [hb] at he;cases he
   ·cases he
  ·rename_i id ver
   split at he
   ·rename_i v fz e' s xs hob
    cases hb:Nat.beq v ver with
    | true=>
      rw [hb] at he
      simp only [cond_true] at he
      split at he
      ·rename_i m s' m' e2 _
       split at he
       ·rename_i hs
        obtain ⟨y,hy,he⟩:=ju he
        exact ⟨_,he,fun h=>by intro τ k';unfold effK;rw [ho];simp only [ht,h.e hx,h.o hob,hb,cond_true,dif_pos hs,hy,bnd]⟩
       ·cases he
      ·rename_i ty kd hna _
       obtain ⟨y,hy,he⟩:=ju he
       split at he
       ·rename_i z hz
        refine ⟨_,he,fun h => ?_⟩
        intro τ k';unfold effK;rw [ho];simp only [ht,h.e hx,h.o hob,hb,cond_true,hy,bnd,hz]
       ·cases he
    | false=>rw [hb] at he;cases he
   ·cases he
  ·rename_i s d
   split at he
   ·rename_i z hz
    exact ⟨_,he,fun h=>by intro τ k';unfold effK;rw [ho];simp only [ht,h.e hx,hz]⟩
   ·cases he
  ·rename_i id ver i off
   split at he
   ·rename_i v e te s xs hole hob
    cases hb:Nat.beq v ver with
    | false=>rw [hb] at he;cases he
    | true=>
      rw [hb] at he
      simp only [cond_true] at he
      split at he
      ·rename_i s' e' by_
       cases hc:(Nat.beq e' te && !s'.isMap) with
       | false=>rw [hc] at he;cases he
       | true=>
         rw [hc] at he
         simp only [cond_true] at he
         cases hm:memN (31000000+dst) G.muts with
         | true=>
           rw [hm] at he
           simp only [cond_true] at he
           obtain ⟨y,hy,he⟩:=ju he
           split at he
           ·rename_i ys dv hys hdv
            exact ⟨_,he,fun h=>by intro τ k';unfold effK;rw [ho];simp only [ht,h.e hx,h.o hob,hb,hc,hm,cond_true,hy,bnd,hys,verOf_ext h,hdv]⟩
           ·cases he
         | false=>
           rw [hm] at he
           simp only [cond_false] at he
           obtain ⟨y,hy,he⟩:=ju he
           split at he
           ·rename_i ys hys
            exact ⟨_,he,fun h=>by intro τ k';unfold effK;rw [ho];simp only [ht,h.e hx,h.o hob,hb,hc,hm,cond_true,cond_false,hy,bnd,hys]⟩
           ·cases he
      ·rename_i ty kd hn
       cases hf:ty.free with
       | false=>rw [hf] at he;cases he
       | true=>
         rw [hf] at he
         simp only [cond_true] at he
         obtain ⟨y,hy,he⟩:=ju he
         split at he
         ·rename_i z hz
          exact ⟨_,he,fun h=>by intro τ k';unfold effK;rw [ho];simp only [ht,h.e hx,h.o hob,hb,hf,cond_true,hy,bnd,hz]⟩
         ·cases he
      ·cases he
   ·cases he
  ·rename_i id ver i off s' j o1
   split at he
   ·rename_i v e te s xs hob
    cases hb:Nat.beq v ver with
    | false=>rw [hb] at he;cases he
    | true=>
      rw [hb] at he
      simp only [cond_true] at he
      obtain ⟨y,hy,he⟩:=ju he
      split at he
      ·rename_i ys hys
       obtain ⟨y1,hy1,he⟩:=ju he
       split at he
       ·rename_i z hz
        exact ⟨_,he,fun h=>by intro τ k';unfold effK;rw [ho];simp only [ht,h.e hx,h.o hob,hb,cond_true,hy,bnd,hys,hy1,hz]⟩
       ·cases he
      ·cases he
   ·cases he
  ·cases he
 ·cases he
theorem ext_store {t:TypeId} {x y:Operand} (ho:o.op = .store t x y) (he:effK G o dst ev ob k=some r):Fixed G o dst ev ob k r:=by
 unfold effK at he
 rw [ho] at he
 simp only at he
 split at he
 ·rename_i ti p d ht hx hy
  split at he
  ·rename_i id off
   split at he
   ·rename_i cs ds0 hob hds
    split at he
    ·rename_i ds u hown
     cases hb:(Nat.beq ds.length ti.ty.cells && Nat.ble (off+ds.length) cs.length && u.all (fun q => !Nat.beq q.1 id) && ds.all (fun x => !x.isSelf)) with
     | true=>
       rw [hb] at he
       refine ⟨_,he,fun h => ?_⟩
       have hup:=ownNil_up h.o hown
       intro τ k';unfold effK;rw [ho];simp only [ht,h.e hx,h.e hy,h.o hob,hds,hup,hb,cond_true]
     | false=>rw [hb] at he;cases he
    ·cases he
   ·cases he
  ·rename_i id ver i sz off
   split at he
   ·rename_i z u hz
    split at he
    ·rename_i v e s xs hob
     cases hb:Nat.beq v ver && (u.all fun q => !Nat.beq q.1 id) with
     | true=>
       rw [hb] at he
       simp only [cond_true] at he
       obtain ⟨y0,hy0,he⟩:=ju he
       split at he
       ·rename_i y' hy'
        exact ⟨_,he,fun h=>by intro τ k';unfold effK;rw [ho];simp only [ht,h.e hx,h.e hy,kr h.o hz,h.o hob,hb,cond_true,hy0,bnd,hy']⟩
       ·cases he
     | false=>rw [hb] at he;cases he
    ·cases he
   ·cases he
  ·rename_i id ver i sz q m e' j off
   split at he
   ·rename_i z u hz
    split at he
    ·rename_i v e s xs hob
     cases hb:Nat.beq v ver && (u.all fun q => !Nat.beq q.1 id) with
     | true=>
       rw [hb] at he
       simp only [cond_true] at he
       obtain ⟨y0,hy0,he⟩:=ju he
       split at he
       ·rename_i zs hzs
        obtain ⟨y1,hy1,he⟩:=ju he
        split at he
        ·rename_i y2 hy2
         split at he
         ·rename_i y' hy'
          exact ⟨_,he,fun h=>by intro τ k';unfold effK;rw [ho];simp only [ht,h.e hx,h.e hy,kr h.o hz,h.o hob,hb,cond_true,hy0,bnd,hzs,hy1,hy2,hy']⟩
         ·cases he
        ·cases he
       ·cases he
     | false=>rw [hb] at he;cases he
    ·cases he
   ·cases he
  ·rename_i id ver
   split at he
   ·rename_i z u hz
    split at he
    ·rename_i v e s xs hob
     cases hb:Nat.beq v ver && (u.all fun q => !Nat.beq q.1 id) with
     | true=>
       rw [hb] at he
       simp only [cond_true] at he
       split at he
       ·rename_i m s' m' e2 zs _
        split at he
        ·rename_i hs
         obtain ⟨y0,hy0,he⟩:=ju he
         exact ⟨_,he,fun h=>by intro τ k';unfold effK;rw [ho];simp only [ht,h.e hx,h.e hy,kr h.o hz,h.o hob,hb,cond_true,dif_pos hs,hy0,bnd]⟩
        ·cases he
       ·rename_i ty kd z' hna
        obtain ⟨y0,hy0,he⟩:=ju he
        split at he
        ·rename_i y' hy'
         refine ⟨_,he,fun h => ?_⟩
         intro τ k';unfold effK;rw [ho];simp only [ht,h.e hx,h.e hy,kr h.o hz,h.o hob,hb,cond_true,hy0,bnd,hy']
        ·cases he
     | false=>rw [hb] at he;cases he
    ·cases he
   ·cases he
  ·rename_i id ver i off
   split at he
   ·rename_i v e te s xs hole hob
    cases hb:Nat.beq v ver with
    | false=>rw [hb] at he;cases he
    | true=>
      rw [hb] at he
      simp only [cond_true] at he
      split at he
      ·rename_i s' e' by_ oid v1
       split at he
       ·rename_i v2 te' s2 ys hob2
        cases hc:(decide (s2=s') && Nat.beq v2 v1 && Nat.beq te' te && Nat.beq e' te && !s'.isMap && !Nat.beq oid id) with
        | false=>rw [hc] at he;cases he
        | true=>
          rw [hc] at he
          simp only [cond_true] at he
          obtain ⟨_,hg,he⟩:=ju he
          obtain ⟨x1,hy1,he⟩:=ju he
          split at he
          ·rename_i x' hx'
           exact ⟨_,he,fun h=>by intro τ k';unfold effK;rw [ho];simp only [ht,h.e hx,h.e hy,h.o hob,h.o hob2,hb,hc,cond_true,hg,hy1,bnd,hx']⟩
          ·cases he
       ·cases he
      ·rename_i d ty kd hn
       split at he
       ·cases hf:ty.free with
        | false=>rw [hf] at he;cases he
        | true=>
          rw [hf] at he
          simp only [cond_true] at he
          split at he
          ·rename_i z hz
           obtain ⟨x1,hy1,he⟩:=ju he
           split at he
           ·rename_i x' hx'
            exact ⟨_,he,fun h=>by intro τ k';unfold effK;rw [ho];simp only [ht,h.e hx,h.e hy,h.o hob,hb,hf,cond_true,kr h.o hz,hy1,bnd,hx']⟩
           ·cases he
          ·cases he
       ·cases he
   ·cases he
  ·rename_i id ver i off s' j o1
   split at he
   ·rename_i z u hz
    split at he
    ·rename_i v e te s xs hob
     cases hb:(Nat.beq v ver && (u.all fun q => !Nat.beq q.1 id)) with
     | false=>rw [hb] at he;cases he
     | true=>
       rw [hb] at he
       simp only [cond_true] at he
       obtain ⟨y0,hy0,he⟩:=ju he
       split at he
       ·rename_i ys hys
        obtain ⟨y1,hy1,he⟩:=ju he
        split at he
        ·rename_i y' hy'
         split at he
         ·rename_i x' hx'
          exact ⟨_,he,fun h=>by intro τ k';unfold effK;rw [ho];simp only [ht,h.e hx,h.e hy,kr h.o hz,h.o hob,hb,cond_true,hy0,bnd,hys,hy1,hy',hx']⟩
         ·cases he
        ·cases he
       ·cases he
    ·cases he
   ·cases he
  ·cases he
 ·cases he
theorem binI_nat {ρ:Type} {op:BinOp} {j:IntKind} {x y:Int} {kk:Dv→Option ρ}:binI op j x y kk=bnd (binI op j x y some) kk:=by
 cases op <;> simp only [binI] <;> first | rfl | exact je fun _=>rfl
theorem binS_nat {ρ:Type} {op:BinOp} {x y:List UInt8} {kk:Dv→Option ρ}:binS op x y kk=bnd (binS op x y some) kk:=by
 cases op <;> simp only [binS] <;> first | rfl | exact je fun _=>rfl
theorem shI_nat {ρ:Type} {op:BinOp} {j:IntKind} {x y:Int} {kk:Dv→Option ρ}:shI op j x y kk=bnd (shI op j x y some) kk:=by
 cases op <;> simp only [shI] <;> first | rfl | exact je fun _=>rfl
theorem VI {ρ:Type} {ob':Objs} (h : ∀ {i b},ob i=some b→ob' i=some b) {d:Dv} {kk:(t:Ty)→List t.den→Option ρ} {r:ρ} (he:kP ob kk d=some r) :
 ∃ t xs,kk t xs=some r ∧ ∀ (τ:Type) (kk':(t:Ty)→List t.den→Option τ),kP ob' kk' d=kk' t xs:=by
 unfold kP at he
 split at he
 ·exact ⟨_,_,he,fun _ _=>rfl⟩
 ·split at he
  ·rename_i id ver _ v fz e t xs hob
   cases hb:(Nat.beq v ver && !t.isMap) with
   | true=>rw [hb] at he;exact ⟨_,_,he,fun _ _=>by simp only [kP,h hob,hb,cond_true]⟩
   | false=>rw [hb] at he;cases he
  ·cases he
 ·split at he
  ·rename_i id ver lo m _ v fz e t xs hob
   cases hb:(Nat.beq v ver && !t.isMap) with
   | true=>rw [hb] at he;exact ⟨_,_,he,fun _ _=>by simp only [kP,h hob,hb,cond_true]⟩
   | false=>rw [hb] at he;cases he
  ·cases he
 ·cases he
theorem kh {ev':Operand→Option Dv} (h : ∀ {x d},ev x=some d→ev' x=some d) {x:Option Operand} {d i:Int} (he : ∀ (τ:Type) (kk':Int→Option τ),optK ev x d kk'=kk' i) {τ:Type} {kk:Int→Option τ}:optK ev' x d kk=kk i:=by
 cases x with
 | none=>have:=he Int some;cases this;rfl
 | some y=>
   have h0:=he Int some
   unfold optK at h0
   simp only at h0
   split at h0
   ·rename_i hy;cases h0;simp only [optK,h hy]
   ·cases h0
theorem Uf {ob':Objs} (h : ∀ {i b},ob i=some b→ob' i=some b) {d:Dv} {t:Ty} {xs:List t.den} (he : ∀ (τ:Type) (kk':(t:Ty)→List t.den→Option τ),kP ob kk' d=kk' t xs) {τ:Type} {kk:(t:Ty)→List t.den→Option τ}:kP ob' kk d=kk t xs:=by
 have h0:=he ((t:Ty)×List t.den) fun t xs=>some ⟨t,xs⟩
 unfold kP at h0
 split at h0
 ·cases h0;rfl
 ·split at h0
  ·rename_i id ver _ v fz e t xs hob
   cases hb:(Nat.beq v ver && !t.isMap) with
   | true=>rw [hb] at h0;cases h0;simp only [kP,h hob,hb,cond_true]
   | false=>rw [hb] at h0;cases h0
  ·cases h0
 ·split at h0
  ·rename_i id ver lo m _ v fz e t xs hob
   cases hb:(Nat.beq v ver && !t.isMap) with
   | true=>rw [hb] at h0;cases h0;simp only [kP,h hob,hb,cond_true]
   | false=>rw [hb] at h0;cases h0
  ·cases h0
 ·cases h0
theorem JY {ρ:Type} {ev':Operand→Option Dv} (h : ∀ {x d},ev x=some d→ev' x=some d) {x:Option Operand} {d:Int} {kk:Int→Option ρ} {r:ρ} (he:optK ev x d kk=some r) :
 ∃ i,kk i=some r ∧ ∀ (τ:Type) (kk':Int→Option τ),optK ev' x d kk'=kk' i:=by
 unfold optK at he
 split at he
 ·exact ⟨_,he,fun _ _=>rfl⟩
 ·split at he
  ·rename_i hx;exact ⟨_,he,fun _ _=>by simp only [optK,h hx]⟩
  ·cases he
theorem ext_binOp {op:BinOp} {xt yt:TypeId} {x y:Operand} (ho:o.op = .binOp op xt x y yt) (he:effK G o dst ev ob k=some r):Fixed G o dst ev ob k r:=by
 unfold effK at he
 rw [ho] at he
 simp only at he
 split at he
 ·rename_i a b hx hy
  split at he
  ·rename_i j m l q
   cases op <;> simp only at he <;> first
    | (rw [shI_nat] at he
       obtain ⟨d,hd,he⟩:=ju he
       exact ⟨_,he,fun h=>by intro τ k';unfold effK;rw [ho];simp only [h.e hx,h.e hy];rw [shI_nat,hd];rfl⟩)
    | (cases hb:decide (j=l) with
       | false=>rw [hb] at he;cases he
       | true=>
         rw [hb] at he
         simp only [cond_true] at he
         rw [binI_nat] at he
         obtain ⟨d,hd,he⟩:=ju he
         exact ⟨_,he,fun h=>by intro τ k';unfold effK;rw [ho];simp only [h.e hx,h.e hy,hb,cond_true];rw [binI_nat,hd];rfl⟩)
  ·rw [binS_nat] at he
   obtain ⟨d,hd,he⟩:=ju he
   exact ⟨_,he,fun h=>by intro τ k';unfold effK;rw [ho];simp only [h.e hx,h.e hy];rw [binS_nat,hd];rfl⟩
  ·split at he
   ·rename_i ht
    split at he
    ·exact ⟨_,he,fun h=>by intro τ k';unfold effK;rw [ho];simp only [h.e hx,h.e hy,ht]⟩
    ·exact ⟨_,he,fun h=>by intro τ k';unfold effK;rw [ho];simp only [h.e hx,h.e hy,ht]⟩
    ·cases he
   ·cases he
  ·unfold nilK at he
   split at he
   ·rename_i ht
    split at he
    ·exact ⟨_,he,fun h=>by intro τ k';unfold effK;rw [ho];simp only [h.e hx,h.e hy,nilK,ht]⟩
    ·exact ⟨_,he,fun h=>by intro τ k';unfold effK;rw [ho];simp only [h.e hx,h.e hy,nilK,ht]⟩
    ·cases he
   ·cases he
  ·unfold nilK at he
   split at he
   ·rename_i ht
    split at he
    ·exact ⟨_,he,fun h=>by intro τ k';unfold effK;rw [ho];simp only [h.e hx,h.e hy,nilK,ht]⟩
    ·exact ⟨_,he,fun h=>by intro τ k';unfold effK;rw [ho];simp only [h.e hx,h.e hy,nilK,ht]⟩
    ·cases he
   ·cases he
  ·split at he
   ·rename_i ht
    split at he
    ·exact ⟨_,he,fun h=>by intro τ k';unfold effK;rw [ho];simp only [h.e hx,h.e hy,ht]⟩
    ·exact ⟨_,he,fun h=>by intro τ k';unfold effK;rw [ho];simp only [h.e hx,h.e hy,ht]⟩
    ·cases he
   ·cases he
  ·rename_i n1 n2 n3 n4 n5
   cases hm:memN xt G.eqs.l with
   | false=>rw [hm] at he;cases he
   | true=>
     rw [hm] at he
     simp only [cond_true] at he
     split at he
     ·rename_i s kk ht
      split at he
      ·rename_i x1 y1 q1 q2
       cases op <;> simp only at he <;> first
        | cases he
        | (refine ⟨_,he,fun h => ?_⟩
           intro τ k'
           unfold effK
           rw [ho]
           simp only [h.e hx,h.e hy,hm,cond_true,ht,kr h.o q1,kr h.o q2])
      ·cases he
     ·cases he
 ·cases he
theorem ext_unOp {op:UnOp} {xt:TypeId} {x:Operand} (ho:o.op = .unOp op xt x) (he:effK G o dst ev ob k=some r):Fixed G o dst ev ob k r:=by
 unfold effK at he
 rw [ho] at he
 simp only at he
 split at he
 ·rename_i b hx
  split at he
  ·exact ⟨_,he,fun h=>by intro τ k';unfold effK;rw [ho];simp only [h.e hx]⟩
  ·cases he
 ·rename_i j n hx
  split at he
  ·exact ⟨_,he,fun h=>by intro τ k';unfold effK;rw [ho];simp only [h.e hx]⟩
  ·exact ⟨_,he,fun h=>by intro τ k';unfold effK;rw [ho];simp only [h.e hx]⟩
  ·cases he
 ·cases he
theorem ext_convert {xt yt:TypeId} {x:Operand} (ho:o.op = .convert xt yt x) (he:effK G o dst ev ob k=some r):Fixed G o dst ev ob k r:=by
 unfold effK at he
 rw [ho] at he
 simp only at he
 split at he
 ·rename_i h1 h2 hx
  exact ⟨_,he,fun h=>by intro τ k';unfold effK;rw [ho];simp only [h1,h2,h.e hx]⟩
 ·rename_i h1 h2 hx
  exact ⟨_,he,fun h=>by intro τ k';unfold effK;rw [ho];simp only [h1,h2,h.e hx]⟩
 ·rename_i e by_ t2 d h1 h2 hx
  split at he
  ·rename_i h3
   split at he
   ·exact ⟨_,he,fun h=>by intro τ k';unfold effK;rw [ho];simp only [h1,h2,h.e hx,h3]⟩
   ·rename_i hn
    obtain ⟨t,xs,h4,h5⟩:=VI (ob':=ob) (fun h=>h) he
    split at h4
    ·refine ⟨_,h4,fun h => ?_⟩
     have q : ∀ {τ:Type} {kk:(t:Ty)→List t.den→Option τ},_=kk _ _:=@fun τ kk=>Uf h.o h5 (τ:=τ) (kk:=kk)
     intro τ k';unfold effK;rw [ho];simp only [h1,h2,h.e hx,h3]
     rw [q]
    ·cases h4
  ·cases he
 ·rename_i e b1 k2 id ver h1 h2 hx
  split at he
  ·rename_i k3 v e' s xs h4 hob
   cases hb:(Nat.beq xt yt && Nat.beq v ver && !s.isMap) with
   | false=>rw [hb] at he;cases he
   | true=>
     rw [hb] at he
     simp only [cond_true] at he
     obtain ⟨_,hy0,he⟩:=ju he
     exact ⟨_,he,fun h=>by intro τ k';unfold effK;rw [ho];simp only [h1,h2,h.e hx,h4,h.o hob,hb,cond_true,hy0,bnd]⟩
  ·cases he
 ·rename_i h1 h2 hx
  split at he
  ·rename_i h3
   obtain ⟨_,hy0,he⟩:=ju he
   cases hm:memN dst G.muts with
   | true=>
     rw [hm] at he
     simp only [cond_true] at he
     split at he
     ·rename_i ver hv
      exact ⟨_,he,fun h=>by intro τ k';unfold effK;rw [ho];simp only [h1,h2,h.e hx,h3,hy0,bnd,hm,cond_true,verOf,← h.d];unfold verOf at hv;rw [hv]⟩
     ·cases he
   | false=>
     rw [hm] at he
     simp only [cond_false] at he
     exact ⟨_,he,fun h=>by intro τ k';unfold effK;rw [ho];simp only [h1,h2,h.e hx,h3,hy0,bnd,hm,cond_false]⟩
  ·cases he
 ·cases he
theorem ext_makeMap {t:TypeId} {c:Option Operand} (ho:o.op = .makeMap t c) (he:effK G o dst ev ob k=some r):Fixed G o dst ev ob k r:=by
 unfold effK at he
 rw [ho] at he
 cases c with
 | some c=>cases he
 | none=>
   simp only at he
   split at he
   ·rename_i ht
    split at he
    ·rename_i ver hv
     exact ⟨_,he,fun h=>by intro τ k';unfold effK;rw [ho];simp only [ht,verOf,← h.d];unfold verOf at hv;rw [hv]⟩
    ·cases he
   ·cases he
theorem ext_lookup {t:TypeId} {x ix:Operand} {ok:Bool} (ho:o.op = .lookup t x ix ok) (he:effK G o dst ev ob k=some r):Fixed G o dst ev ob k r:=by
 unfold effK at he
 rw [ho] at he
 simp only at he
 split at he
 ·rename_i kt e j u id ver j' m h1 h2 h3
  split at he
  ·rename_i v fz e' s xs hob
   split at he
   ·rename_i hs
    subst hs
    cases hv:(Nat.beq v ver && decide (j'=j)) with
    | false=>rw [hv] at he;cases he
    | true=>
      rw [hv] at he
      cases ok with
      | true=>
        simp only [cond_true] at he
        exact ⟨_,he,fun h=>by intro τ k';unfold effK;rw [ho];simp only [h1,h.e h2,h.e h3,h.o hob,hv,cond_true,dite_true]⟩
      | false=>
        simp only [cond_true,cond_false] at he
        exact ⟨_,he,fun h=>by intro τ k';unfold effK;rw [ho];simp only [h1,h.e h2,h.e h3,h.o hob,hv,cond_true,cond_false,dite_true]⟩
   ·cases he
  ·cases he
 ·cases he
theorem ext_mapUpdate {t:TypeId} {x kx vx:Operand} (ho:o.op = .mapUpdate t x kx vx) (he:effK G o dst ev ob k=some r):Fixed G o dst ev ob k r:=by
 unfold effK at he
 rw [ho] at he
 simp only at he
 split at he
 ·rename_i kt e j u id ver j' m u' y h1 h2 h3 h4
  split at he
  ·rename_i v e' s xs hob
   split at he
   ·rename_i hs
    subst hs
    cases hv:(Nat.beq v ver && decide (j'=j) && decide (u'=u)) with
    | false=>rw [hv] at he;cases he
    | true=>
      rw [hv] at he
      simp only [cond_true] at he
      exact ⟨_,he,fun h=>by intro τ k';unfold effK;rw [ho];simp only [h1,h.e h2,h.e h3,h.e h4,h.o hob,hv,cond_true,dite_true]⟩
   ·cases he
  ·cases he
 ·cases he
theorem ext_build {t:TypeId} {ps:Array (Nat×Operand)} (ho:o.op = .build t ps) (he:effK G o dst ev ob k=some r):Fixed G o dst ev ob k r:=by
 unfold effK at he
 rw [ho] at he
 simp only at he
 split at he
 ·rename_i s fs ht
  cases hf:s.flat with
  | true=>
    rw [hf] at he
    simp only [cond_true] at he
    split at he
    ·rename_i cs hc
     exact ⟨_,he,fun h=>by intro τ k';unfold effK;rw [ho];simp only [ht,hf,cond_true,fillA_ext h.e hc]⟩
    ·cases he
  | false=>
    rw [hf] at he
    simp only [cond_false] at he
    split at he
    ·rename_i y u hc
     exact ⟨_,he,fun h=>by intro τ k';unfold effK;rw [ho];simp only [ht,hf,cond_false,fillS_ext h.e h.o hc]⟩
    ·cases he
 ·rename_i m s m' e ht
  split at he
  ·rename_i y u hc
   exact ⟨_,he,fun h=>by intro τ k';unfold effK;rw [ho];simp only [ht,fillE_ext h.e h.o hc]⟩
  ·cases he
 ·cases he
theorem ext_buildSlice {t:TypeId} {n:Nat} {ps:Array (Nat×Operand)} (ho:o.op = .buildSlice t n ps) (he:effK G o dst ev ob k=some r):Fixed G o dst ev ob k r:=by
 unfold effK at he
 rw [ho] at he
 simp only at he
 split at he
 ·rename_i s e by_ ht
  split at he
  ·rename_i te hte
   split at he
   ·rename_i x s1 hps
    split at he
    ·rename_i cs hcs
     simp only [Option.bind_eq_some_iff] at hcs
     obtain ⟨d,hd,hcs⟩:=hcs
     split at he
     ·rename_i y u ver hy hver
      cases hb:(Nat.beq n 1 && kj u && u.all (fun q => !Nat.beq q.1 dst) && Nat.ble s1.cells 65536) with
      | false=>rw [hb] at he;cases he
      | true=>
        rw [hb] at he
        exact ⟨_,he,fun h=>by intro τ k';unfold effK;rw [ho];simp only [ht,hte,hps,h.e hd,Option.bind_some,hcs,deepV_ext h.o hy,verD_ext h,hver,hb,cond_true]⟩
     ·cases he
    ·cases he
   ·cases he
  rename_i hte
  split at he
  ·rename_i ys u hc
   cases hb:Nat.beq ys.length n && Nat.ble (n*s.cells) 65536 with
   | true=>
     rw [hb] at he
     simp only [cond_true] at he
     split at he
     ·rename_i ver hv
      exact ⟨_,he,fun h=>by intro τ k';unfold effK;rw [ho];simp only [ht,hte,elemsA_ext h.e h.o hc,hb,cond_true,verOf_ext h,hv]⟩
     ·cases he
   | false=>rw [hb] at he;cases he
  ·cases he
 ·cases he
theorem ext_extract {x:Operand} {i:Nat} (ho:o.op = .extract x i) (he:effK G o dst ev ob k=some r):Fixed G o dst ev ob k r:=by
 unfold effK at he
 rw [ho] at he
 simp only at he
 split at he
 ·rename_i l hx
  split at he
  ·rename_i a ha
   exact ⟨_,he,fun h=>by intro τ k';unfold effK;rw [ho];simp only [h.e hx,ha]⟩
  ·cases he
 ·rename_i m l hx
  cases i with
  | zero=>exact ⟨_,he,fun h=>by intro τ k';unfold effK;rw [ho];simp only [h.e hx]⟩
  | succ i=>
    simp only at he
    split at he
    ·rename_i a ha
     exact ⟨_,he,fun h=>by intro τ k';unfold effK;rw [ho];simp only [h.e hx,ha]⟩
    ·cases he
 ·cases he
theorem ext_indexAddr {t:TypeId} {x ix:Operand} (ho:o.op = .indexAddr t x ix) (he:effK G o dst ev ob k=some r):Fixed G o dst ev ob k r:=by
 unfold effK at he
 rw [ho] at he
 simp only at he
 split at he
 ·rename_i s e by_ d k' i ht hx hi
  split at he
  ·rename_i s' xs
   cases hb:decide (s'=s) with
   | true=>
     rw [hb] at he
     simp only [cond_true] at he
     obtain ⟨y,hy,he⟩:=ju he
     exact ⟨_,he,fun h=>by intro τ k';unfold effK;rw [ho];simp only [ht,h.e hx,h.e hi,hb,cond_true,hy,bnd]⟩
   | false=>rw [hb] at he;cases he
  ·rename_i id ver
   split at he
   ·rename_i v fz e' s' xs hob
    cases hb:Nat.beq v ver && decide (s'=s) with
    | true=>
      rw [hb] at he
      simp only [cond_true] at he
      obtain ⟨y,hy,he⟩:=ju he
      exact ⟨_,he,fun h=>by intro τ k';unfold effK;rw [ho];simp only [ht,h.e hx,h.e hi,h.o hob,hb,cond_true,hy,bnd]⟩
    | false=>rw [hb] at he;cases he
   ·cases he
  ·rename_i id ver lo m
   split at he
   ·rename_i v fz e' s' xs hob
    cases hb:Nat.beq v ver && decide (s'=s) with
    | true=>
      rw [hb] at he
      simp only [cond_true] at he
      obtain ⟨y,hy,he⟩:=ju he
      exact ⟨_,he,fun h=>by intro τ k';unfold effK;rw [ho];simp only [ht,h.e hx,h.e hi,h.o hob,hb,cond_true,hy,bnd]⟩
    | false=>rw [hb] at he;cases he
   ·cases he
  ·rename_i id ver
   split at he
   ·rename_i v fz e' te s' xs hole hob
    cases hb:Nat.beq v ver && decide (s'=s) with
    | true=>
      rw [hb] at he
      simp only [cond_true] at he
      obtain ⟨y,hy,he⟩:=ju he
      exact ⟨_,he,fun h=>by intro τ k';unfold effK;rw [ho];simp only [ht,h.e hx,h.e hi,h.o hob,hb,cond_true,hy,bnd]⟩
    | false=>rw [hb] at he;cases he
   ·cases he
  ·rename_i id ver i0 off
   split at he
   ·rename_i v e' te s' xs hob
    cases hb:Nat.beq v ver && Nat.beq e te with
    | true=>
      rw [hb] at he
      simp only [cond_true] at he
      obtain ⟨y,hy,he⟩:=ju he
      split at he
      ·rename_i ys hys
       obtain ⟨y1,hy1,he⟩:=ju he
       exact ⟨_,he,fun h=>by intro τ k';unfold effK;rw [ho];simp only [ht,h.e hx,h.e hi,h.o hob,hb,cond_true,hy,hys,hy1,bnd]⟩
      ·cases he
    | false=>rw [hb] at he;cases he
   ·cases he
  ·cases he
 ·rename_i m s m' e p k' i ht hx hi
  split at he
  ·rename_i id ver
   split at he
   ·rename_i v fz e' s' xs hob
    cases hb:Nat.beq v ver && decide (s'=s) with
    | true=>
      rw [hb] at he
      simp only [cond_true] at he
      obtain ⟨y,hy,he⟩:=ju he
      obtain ⟨y1,hy1,he⟩:=ju he
      exact ⟨_,he,fun h=>by intro τ k';unfold effK;rw [ho];simp only [ht,h.e hx,h.e hi,h.o hob,hb,cond_true,hy,hy1,bnd]⟩
    | false=>
      rw [hb] at he
      simp only [cond_false] at he
      cases hw:Nat.beq v ver with
      | true=>
        rw [hw] at he
        simp only [cond_true] at he
        obtain ⟨y,hy,he⟩:=ju he
        obtain ⟨y1,hy1,he⟩:=ju he
        have hd:decide (s'=s)=false:=by rw [hw,Bool.true_and] at hb;exact hb
        exact ⟨_,he,fun h=>by intro τ k';unfold effK;rw [ho];simp only [ht,h.e hx,h.e hi,h.o hob,hw,hd,Bool.and_false,cond_true,cond_false,hy,hy1,bnd]⟩
      | false=>rw [hw] at he;cases he
   ·cases he
  ·rename_i id ver i0 sz off
   split at he
   ·rename_i v fz e' s' xs hob
    cases hb:Nat.beq v ver with
    | true=>
      rw [hb] at he
      simp only [cond_true] at he
      obtain ⟨y,hy,he⟩:=ju he
      exact ⟨_,he,fun h=>by intro τ k';unfold effK;rw [ho];simp only [ht,h.e hx,h.e hi,h.o hob,hb,cond_true,hy,bnd]⟩
    | false=>rw [hb] at he;cases he
   ·cases he
  ·rename_i n' s' xs
   cases hb:decide (s'=s) && Nat.beq n' m with
   | true=>
     rw [hb] at he
     simp only [cond_true] at he
     obtain ⟨y,hy,he⟩:=ju he
     exact ⟨_,he,fun h=>by intro τ k';unfold effK;rw [ho];simp only [ht,h.e hx,h.e hi,hb,cond_true,hy,bnd]⟩
   | false=>rw [hb] at he;cases he
  ·cases he
 ·cases he
theorem ext_index {t:TypeId} {x ix:Operand} (ho:o.op = .index t x ix) (he:effK G o dst ev ob k=some r):Fixed G o dst ev ob k r:=by
 unfold effK at he
 rw [ho] at he
 simp only at he
 split at he
 ·rename_i s k' i ht hx hi
  obtain ⟨y,hy,he⟩:=ju he
  exact ⟨_,he,fun h=>by intro τ k';unfold effK;rw [ho];simp only [ht,h.e hx,h.e hi,hy,bnd]⟩
 ·rename_i m s m' e n' s' xs k' i ht hx hi
  split at he
  ·rename_i ei hei
   cases hb:decide (s'=s) && Nat.beq n' m && decide (ei.ty=s) with
   | true=>
     rw [hb] at he
     simp only [cond_true] at he
     obtain ⟨y,hy,he⟩:=ju he
     exact ⟨_,he,fun h=>by intro τ k';unfold effK;rw [ho];simp only [ht,h.e hx,h.e hi,hei,hb,cond_true,hy,bnd]⟩
   | false=>rw [hb] at he;cases he
  ·cases he
 ·cases he
theorem ext_makeSlice {t:TypeId} {l c:Operand} (ho:o.op = .makeSlice t l c) (he:effK G o dst ev ob k=some r):Fixed G o dst ev ob k r:=by
 unfold effK at he
 rw [ho] at he
 simp only at he
 split at he
 ·rename_i s e by_ ht
  obtain ⟨n,he1,hn⟩:=JY (ev':=ev) (fun h=>h) he
  obtain ⟨m,he2,hm⟩:=JY (ev':=ev) (fun h=>h) he1
  obtain ⟨_,hy,he3⟩:=ju he2
  split at he3
  ·rename_i te hte
   split at he3
   ·rename_i ver hv
    cases hd:s.dpo with
    | false=>rw [hd] at he3;cases he3
    | true=>
      rw [hd] at he3
      refine ⟨_,he3,fun h => ?_⟩
      intro τ k';unfold effK;rw [ho];simp only [ht]
      rw [kh h.e hn,kh h.e hm,hy]
      simp only [bnd,hte,verD_ext h,hv,hd,cond_true]
   ·cases he3
  rename_i hte
  split at he3
  ·rename_i ver hv
   refine ⟨_,he3,fun h => ?_⟩
   intro τ k';unfold effK;rw [ho];simp only [ht]
   rw [kh h.e hn,kh h.e hm,hy]
   simp only [bnd,hte,verOf_ext h,hv]
  ·cases he3
 ·cases he
theorem ext_slice {t:TypeId} {x:Operand} {lo hi mx:Option Operand} (ho:o.op = .slice t x lo hi mx) (he:effK G o dst ev ob k=some r):Fixed G o dst ev ob k r:=by
 unfold effK at he
 rw [ho] at he
 simp only at he
 split at he
 ·rename_i k' s ht hx
  split at he
  ·obtain ⟨a,he,h1⟩:=JY (ev':=ev) (fun h=>h) he
   obtain ⟨b,he,h2⟩:=JY (ev':=ev) (fun h=>h) he
   obtain ⟨_,hy,he⟩:=ju he
   refine ⟨_,he,fun h => ?_⟩
   intro τ k';unfold effK;rw [ho];simp only [ht,h.e hx]
   rw [kh h.e h1,kh h.e h2,hy];rfl
  ·cases he
 ·rename_i s' e by_ s xs ht hx
  cases hb:decide (s=s') with
  | false=>rw [hb] at he;cases he
  | true=>
    rw [hb] at he
    simp only [cond_true] at he
    split at he
    ·obtain ⟨a,he,h1⟩:=JY (ev':=ev) (fun h=>h) he
     obtain ⟨b,he,h2⟩:=JY (ev':=ev) (fun h=>h) he
     obtain ⟨_,hy,he⟩:=ju he
     refine ⟨_,he,fun h => ?_⟩
     intro τ k';unfold effK;rw [ho];simp only [ht,h.e hx,hb,cond_true]
     rw [kh h.e h1,kh h.e h2,hy];rfl
    ·split at he
     ·cases hfl:memN (8700000+dst) G.muts with
      | true=>
        rw [hfl] at he
        simp only [cond_true] at he
        obtain ⟨c,he,h0⟩:=JY (ev':=ev) (fun h=>h) he
        obtain ⟨a,he,h1⟩:=JY (ev':=ev) (fun h=>h) he
        obtain ⟨b,he,h2⟩:=JY (ev':=ev) (fun h=>h) he
        obtain ⟨_,hy,he⟩:=ju he
        refine ⟨_,he,fun h => ?_⟩
        intro τ k';unfold effK;rw [ho];simp only [ht,h.e hx,hb,cond_true,hfl]
        rw [kh h.e h0,kh h.e h1,kh h.e h2,hy];rfl
      | false=>
        rw [hfl] at he
        simp only [cond_false] at he
        obtain ⟨c,he,h0⟩:=JY (ev':=ev) (fun h=>h) he
        obtain ⟨a,he,h1⟩:=JY (ev':=ev) (fun h=>h) he
        obtain ⟨b,he,h2⟩:=JY (ev':=ev) (fun h=>h) he
        obtain ⟨_,hy,he⟩:=ju he
        refine ⟨_,he,fun h => ?_⟩
        intro τ k';unfold effK;rw [ho];simp only [ht,h.e hx,hb,cond_true,hfl,cond_false]
        rw [kh h.e h0,kh h.e h1,kh h.e h2,hy];rfl
     ·cases he
 ·rename_i s' e by_ id ver ht hx
  split at he
  ·rename_i v e' s xs hob
   cases hb:Nat.beq v ver && decide (s=s') with
   | false=>rw [hb] at he;cases he
   | true=>
     rw [hb] at he
     simp only [cond_true] at he
     obtain ⟨b,he,h2⟩:=JY (ev':=ev) (fun h=>h) he
     obtain ⟨_,hy,he⟩:=ju he
     refine ⟨_,he,fun h => ?_⟩
     intro τ k';unfold effK;rw [ho];simp only [ht,h.e hx,h.o hob,hb,cond_true]
     rw [kh h.e h2,hy];rfl
  ·rename_i v fz e' s xs y hob
   cases hb:Nat.beq v ver && decide (s=s') with
   | false=>rw [hb] at he;cases he
   | true=>
     rw [hb] at he
     simp only [cond_true] at he
     obtain ⟨a,he,h1⟩:=JY (ev':=ev) (fun h=>h) he
     obtain ⟨b,he,h2⟩:=JY (ev':=ev) (fun h=>h) he
     obtain ⟨_,hy,he⟩:=ju he
     refine ⟨_,he,fun h => ?_⟩
     intro τ k';unfold effK;rw [ho];simp only [ht,h.e hx,h.o hob,hb,cond_true]
     rw [kh h.e h1,kh h.e h2,hy];rfl
  ·cases he
 ·rename_i m s' m' e id ver ht hx
  split at he
  ·rename_i v fz e' s xs hob
   cases hb:Nat.beq v ver && decide (s=s') with
   | false=>rw [hb] at he;cases he
   | true=>
     rw [hb] at he
     simp only [cond_true] at he
     obtain ⟨_,hy0,he⟩:=ju he
     obtain ⟨a,he,h1⟩:=JY (ev':=ev) (fun h=>h) he
     obtain ⟨b,he,h2⟩:=JY (ev':=ev) (fun h=>h) he
     obtain ⟨_,hy,he⟩:=ju he
     refine ⟨_,he,fun h => ?_⟩
     intro τ k';unfold effK;rw [ho];simp only [ht,h.e hx,h.o hob,hb,cond_true]
     rw [hy0]
     simp only [bnd]
     rw [kh h.e h1,kh h.e h2,hy]
  ·cases he
 ·rename_i m s' m' e n2 s xs ht hx
  split at he
  ·cases hb:decide (s=s') && Nat.beq n2 m && Nat.ble m 1048576 with
   | false=>rw [hb] at he;cases he
   | true=>
     rw [hb] at he
     simp only [cond_true] at he
     obtain ⟨a,he,h1⟩:=JY (ev':=ev) (fun h=>h) he
     obtain ⟨b,he,h2⟩:=JY (ev':=ev) (fun h=>h) he
     obtain ⟨_,hy,he⟩:=ju he
     refine ⟨_,he,fun h => ?_⟩
     intro τ k';unfold effK;rw [ho];simp only [ht,h.e hx,hb,cond_true]
     rw [kh h.e h1,kh h.e h2,hy];rfl
  ·cases he
 ·rename_i s' e by_ id ver lo0 n0 ht hx
  split at he
  ·rename_i v fz e' s xs hob
   cases hb:Nat.beq v ver && decide (s=s') with
   | false=>rw [hb] at he;cases he
   | true=>
     rw [hb] at he
     simp only [cond_true] at he
     obtain ⟨a,he,h1⟩:=JY (ev':=ev) (fun h=>h) he
     obtain ⟨b,he,h2⟩:=JY (ev':=ev) (fun h=>h) he
     obtain ⟨_,hy,he⟩:=ju he
     refine ⟨_,he,fun h => ?_⟩
     intro τ k';unfold effK;rw [ho];simp only [ht,h.e hx,h.o hob,hb,cond_true]
     rw [kh h.e h1,kh h.e h2,hy];rfl
  ·cases he
 ·cases he
theorem ext_len {c:Call} (ho:o.op = .call c) (hc:c.callee = .builtin .len) (he:effK G o dst ev ob k=some r):Fixed G o dst ev ob k r:=by
 unfold effK at he
 rw [ho] at he
 simp only [hc] at he
 split at he
 ·rename_i x t ha hat
  split at he
  ·rename_i s ht hx
   exact ⟨_,he,fun h=>by intro τ k';unfold effK;rw [ho];simp only [hc,ha,hat,ht,h.e hx]⟩
  ·rename_i ht hx
   exact ⟨_,he,fun h=>by intro τ k';unfold effK;rw [ho];simp only [hc,ha,hat,ht,h.e hx]⟩
  ·rename_i s e by_ id ver ht hx
   split at he
   ·rename_i v fz e1 te t1 xs hole hob
    cases hb:Nat.beq v ver with
    | false=>rw [hb] at he;cases he
    | true=>
      rw [hb] at he
      exact ⟨_,he,fun h=>by intro τ k';unfold effK;rw [ho];simp only [hc,ha,hat,ht,h.e hx,h.o hob,hb,cond_true]⟩
   ·cases he
  ·rename_i s e by_ id ver i0 off ht hx
   split at he
   ·rename_i v e1 te t1 xs hob
    cases hb:Nat.beq v ver with
    | false=>rw [hb] at he;cases he
    | true=>
      rw [hb] at he
      simp only [cond_true] at he
      obtain ⟨y,hy,he⟩:=ju he
      split at he
      ·rename_i ys hys
       exact ⟨_,he,fun h=>by intro τ k';unfold effK;rw [ho];simp only [hc,ha,hat,ht,h.e hx,h.o hob,hb,cond_true,hy,hys,bnd]⟩
      ·cases he
   ·cases he
  ·rename_i s e by_ d hn hn2 hn3 ht hx
   obtain ⟨t',xs,h4,h5⟩:=VI (ob':=ob) (fun h=>h) he
   refine ⟨_,h4,fun h => ?_⟩
   have q : ∀ {τ:Type} {kk:(t:Ty)→List t.den→Option τ},_=kk _ _:=@fun τ kk=>Uf h.o h5 (τ:=τ) (kk:=kk)
   intro τ k';unfold effK;rw [ho];simp only [hc,ha,hat,ht,h.e hx]
   rw [q]
  ·cases he
 ·cases he
theorem ext_min {c:Call} (ho:o.op = .call c) (hc:c.callee = .builtin .min) (he:effK G o dst ev ob k=some r):Fixed G o dst ev ob k r:=by
 unfold effK at he
 rw [ho] at he
 simp only [hc] at he
 split at he
 ·rename_i x y ha
  split at he
  ·rename_i h1 h2
   exact ⟨_,he,fun h=>by intro τ k';unfold effK;rw [ho];simp only [hc,ha,h.e h1,h.e h2]⟩
  ·cases he
 ·cases he
theorem ext_max {c:Call} (ho:o.op = .call c) (hc:c.callee = .builtin .max) (he:effK G o dst ev ob k=some r):Fixed G o dst ev ob k r:=by
 unfold effK at he
 rw [ho] at he
 simp only [hc] at he
 split at he
 ·rename_i x y ha
  split at he
  ·rename_i h1 h2
   exact ⟨_,he,fun h=>by intro τ k';unfold effK;rw [ho];simp only [hc,ha,h.e h1,h.e h2]⟩
  ·cases he
 ·cases he
theorem ext_append {c:Call} (ho:o.op = .call c) (hc:c.callee = .builtin .append) (he:effK G o dst ev ob k=some r):Fixed G o dst ev ob k r:=by
 unfold effK at he
 rw [ho] at he
 simp only [hc] at he
 split at he
 ·rename_i x y t t' ha hat
  cases hb:Nat.beq t t' with
  | false=>
    rw [hb] at he
    simp only [cond_false] at he
    split at he
    ·rename_i e by_ kd dx bs ht ht' hx hy
     cases hby:Nat.beq by_ 1 with
     | false=>rw [hby] at he;cases he
     | true=>
       rw [hby] at he
       simp only [cond_true] at he
       split at he
       ·split at he
        ·rename_i ver hv
         obtain ⟨_,hy0,he⟩:=ju he
         refine ⟨_,he,fun h => ?_⟩
         intro τ k';unfold effK;rw [ho];simp only [hc,ha,hat,hb,cond_false,ht,ht',h.e hx,h.e hy,hby,cond_true,verOf,← h.d]
         unfold verOf at hv
         rw [hv]
         simp only
         rw [hy0];rfl
        ·cases he
       ·rename_i id ver
        split at he
        ·rename_i v e' s' xs hob
         split at he
         ·rename_i hs
          subst hs
          cases hb2:Nat.beq v ver && Nat.beq e' e with
          | false=>rw [hb2] at he;cases he
          | true=>
            rw [hb2] at he
            simp only [cond_true] at he
            obtain ⟨_,hy0,he⟩:=ju he
            refine ⟨_,he,fun h => ?_⟩
            intro τ k';unfold effK;rw [ho];simp only [hc,ha,hat,hb,cond_false,ht,ht',h.e hx,h.e hy,hby,cond_true,h.o hob,dif_pos,hb2]
            rw [hy0];rfl
         ·cases he
        ·cases he
       ·cases he
    ·cases he
  | true=>
    rw [hb] at he
    simp only [cond_true] at he
    split at he
    ·rename_i s e by_ dx id2 ver2 ht hx hy
     split at he
     ·rename_i v2 e2 te2 s2 ys hob2
      split at he
      ·rename_i hs2
       cases hc2:(Nat.beq v2 ver2 && Nat.beq e2 e) with
       | false=>rw [hc2] at he;cases he
       | true=>
         rw [hc2] at he
         simp only [cond_true] at he
         split at he
         ·split at he
          ·rename_i ver hv
           cases hn:Nat.beq id2 dst with
           | true=>rw [hn] at he;cases he
           | false=>
             rw [hn] at he
             obtain ⟨_,hy0,he⟩:=ju he
             exact ⟨_,he,fun h=>by intro τ k';unfold effK;rw [ho];simp only [hc,ha,hat,hb,cond_true,ht,h.e hx,h.e hy,h.o hob2,dif_pos hs2,hc2,verD_ext h,hv,hn,Bool.not_false,hy0,bnd]⟩
          ·cases he
         ·rename_i id ver
          split at he
          ·rename_i v e' te s' xs hob
           split at he
           ·rename_i hs
            cases hv:(Nat.beq v ver && Nat.beq e' e && Nat.beq te te2 && !Nat.beq id2 id) with
            | false=>rw [hv] at he;cases he
            | true=>
              rw [hv] at he
              simp only [cond_true] at he
              obtain ⟨_,hy0,he⟩:=ju he
              exact ⟨_,he,fun h=>by intro τ k';unfold effK;rw [ho];simp only [hc,ha,hat,hb,cond_true,ht,h.e hx,h.e hy,h.o hob2,dif_pos hs2,hc2,h.o hob,dif_pos hs,hv,hy0,bnd]⟩
           ·cases he
          ·cases he
         ·cases he
      ·cases he
     ·cases he
    ·rename_i s e by_ dx dy hn2 ht hx hy
     split at he
     ·split at he
      ·rename_i ver hv
       obtain ⟨t1,ys,h4,h5⟩:=VI (ob':=ob) (fun h=>h) he
       split at h4
       ·rename_i hs
        obtain ⟨_,hy0,h4⟩:=ju h4
        refine ⟨_,h4,fun h => ?_⟩
        have q : ∀ {τ:Type} {kk:(t:Ty)→List t.den→Option τ},_=kk _ _:=@fun τ kk=>Uf h.o h5 (τ:=τ) (kk:=kk)
        intro τ k';unfold effK;rw [ho];simp only [hc,ha,hat,hb,cond_true,ht,h.e hx,h.e hy,verOf,← h.d]
        unfold verOf at hv
        rw [hv]
        simp only
        rw [q,dif_pos hs,hy0];rfl
       ·cases h4
      ·cases he
     ·rename_i id ver
      split at he
      ·rename_i v e' s' xs hob
       split at he
       ·rename_i hs
        subst hs
        cases hb2:Nat.beq v ver && Nat.beq e' e with
        | false=>rw [hb2] at he;cases he
        | true=>
          rw [hb2] at he
          simp only [cond_true] at he
          obtain ⟨t1,ys,h4,h5⟩:=VI (ob':=ob) (fun h=>h) he
          split at h4
          ·rename_i hs
           obtain ⟨_,hy0,h4⟩:=ju h4
           refine ⟨_,h4,fun h => ?_⟩
           have q : ∀ {τ:Type} {kk:(t:Ty)→List t.den→Option τ},_=kk _ _:=@fun τ kk=>Uf h.o h5 (τ:=τ) (kk:=kk)
           intro τ k';unfold effK;rw [ho];simp only [hc,ha,hat,hb,cond_true,ht,h.e hx,h.e hy,h.o hob,dif_pos,hb2]
           rw [q,dif_pos hs,hy0];rfl
          ·cases h4
       ·cases he
      ·cases he
     ·rename_i s' xs
      split at he
      ·rename_i hs0
       subst hs0
       split at he
       ·rename_i ver hv
        obtain ⟨t1,ys,h4,h5⟩:=VI (ob':=ob) (fun h=>h) he
        split at h4
        ·rename_i hs
         obtain ⟨_,hy0,h4⟩:=ju h4
         refine ⟨_,h4,fun h => ?_⟩
         have q : ∀ {τ:Type} {kk:(t:Ty)→List t.den→Option τ},_=kk _ _:=@fun τ kk=>Uf h.o h5 (τ:=τ) (kk:=kk)
         intro τ k';unfold effK;rw [ho];simp only [hc,ha,hat,hb,cond_true,ht,h.e hx,h.e hy,verOf,← h.d,dif_pos]
         unfold verOf at hv
         rw [hv]
         simp only
         rw [q,dif_pos hs,hy0];rfl
        ·cases h4
       ·cases he
      ·cases he
     ·cases he
    ·cases he
 ·cases he
theorem bindA_ext {ob':Objs} (h : ∀ {i b},ob i=some b→ob' i=some b) {σ:Ren} {s:SA} {a:At} {p} (he:bindA ob σ s a=some p):bindA ob' σ s a=some p:=by
 unfold bindA at he ⊢
 split at he
 ·split at he
  ·rename_i h1;rw [atV_ext h h1];exact he
  ·cases he
 ·exact he
 ·split at he
  ·rename_i hob;rw [h hob];exact he
  ·cases he
 ·split at he
  ·rename_i hob;rw [h hob];exact he
  ·cases he
 ·split at he
  ·rename_i hob;rw [h hob];exact he
  ·cases he
 ·split at he
  ·rename_i hob;rw [h hob];exact he
  ·cases he
 ·exact he
 ·split at he
  ·rename_i hob;rw [h hob];exact he
  ·cases he
 ·exact he
 ·split at he
  ·rename_i hob;rw [h hob];exact he
  ·cases he
 ·split at he
  ·rename_i hob;rw [h hob];exact he
  ·cases he
 ·split at he
  ·rename_i hob;rw [h hob];exact he
  ·cases he
 ·exact he
 ·exact he
 ·exact he
 ·split at he
  ·rename_i hob;rw [h hob];exact he
  ·cases he
 ·cases he
theorem VA {ob':Objs} (h : ∀ {i b},ob i=some b→ob' i=some b) : ∀ {s:List SA} {σ:Ren} {cs:List At} {p},bindL ob σ s cs=some p→bindL ob' σ s cs=some p
 | [],_,[],_,he=>he
 | [],_,_::_,_,he=>he
 | _::_,_,[],_,he=>he
 | s::r,σ,a::b,p,he=>by
   simp only [bindL] at he ⊢
   split at he
   ·rename_i h1
    rw [bindA_ext h h1]
    simp only
    split at he
    ·rename_i h2;rw [VA h h2];exact he
    ·cases he
   ·cases he
theorem bindD_ext {ob':Objs} (h : ∀ {i b},ob i=some b→ob' i=some b) {σ:Ren} {s:SD} {d:Dv} {p} (he:bindD ob σ s d=some p):bindD ob' σ s d=some p:=by
 cases s with
 | one sa=>
   change (match oneAt d with
    | some y=>bindA ob σ sa y
    | none=>bindV ob σ sa d)=_ at he
   change (match oneAt d with
    | some y=>bindA ob' σ sa y
    | none=>bindV ob' σ sa d)=_
   cases hx:oneAt d with
   | some y=>rw [hx] at he;exact bindA_ext h he
   | none=>
     rw [hx] at he
     cases sa with
     | val t=>
       obtain ⟨⟨y,u1⟩,hq,hb⟩:=Option.map_eq_some_iff.mp (show (dvV ob t d).map (fun p=>(((p.1,()):densU (SD.one (SA.val t)).tys),p.2,σ))=some p from he)
       exact Option.map_eq_some_iff.mpr ⟨(y,u1),kr h hq,hb⟩
     | _=>cases he
 | agg ss=>
   cases d with
   | agg cs=>exact VA h (p:=p) he
   | one y=>
     cases y with
     | val t y=>
       cases t with
       | st t=>
         change (bif t.flat then bindL ob σ ss (split t y) else none)=_ at he
         show (bif t.flat then bindL ob' σ ss (split t y) else none)=_
         cases hf:t.flat with
         | true=>rw [hf] at he;exact VA h (p:=p) he
         | false=>rw [hf] at he;cases he
       | _=>cases he
     | _=>cases he
   | tup cs=>cases he
   | tgg k cs=>cases he
 | tup ss=>cases d <;> cases he
theorem bindS_ext {ob':Objs} (h : ∀ {i b},ob i=some b→ob' i=some b) : ∀ {s:List (Nat×SD)} {σ:Ren} {ds:List Dv} {p},bindS ob σ s ds=some p→bindS ob' σ s ds=some p
 | [],_,[],_,he=>he
 | [],_,_::_,_,he=>he
 | _::_,_,[],_,he=>he
 | s::r,σ,a::b,p,he=>by
   simp only [bindS] at he ⊢
   split at he
   ·rename_i h1
    rw [bindD_ext h h1]
    simp only
    split at he
    ·rename_i h2;rw [bindS_ext h h2];exact he
    ·cases he
   ·cases he
theorem bindO_ext {ob':Objs} (h : ∀ {i b},ob i=some b→ob' i=some b) {σ:Ren} {i:Nat} {s:SO} {p} (he:bindO ob σ i s=some p):bindO ob' σ i s=some p:=by
 obtain ⟨q,hq⟩ : ∃ q,ob i=q:=⟨_,rfl⟩
 cases q with
 | none=>cases s <;> (simp only [bindO,hq] at he;cases he)
 | some b=>
   have hq':=h hq
   cases s with
   | box ss=>
     simp only [bindO,hq] at he
     simp only [bindO,hq']
     cases b with
     | box cs=>exact VA h he
     | _=>cases he
   | arr v f e t=>
     simp only [bindO,hq] at he
     simp only [bindO,hq']
     exact he
   | gone=>
     simp only [bindO,hq] at he
     simp only [bindO,hq']
     exact he
   | deep v e te t=>
     simp only [bindO,hq] at he
     simp only [bindO,hq']
     exact he
   | clo f sa sb=>
     simp only [bindO,hq] at he
     simp only [bindO,hq']
     cases b with
     | clo g x y=>
       simp only at he ⊢
       cases hb:Nat.beq f g with
       | false=>rw [hb] at he;cases he
       | true=>
         rw [hb] at he
         simp only [cond_true] at he ⊢
         split at he
         ·rename_i h1
          rw [VA h h1]
          simp only
          split at he
          ·rename_i h2;rw [VA h h2];exact he
          ·cases he
         ·cases he
     | _=>cases he
theorem bindP_ext {ob':Objs} (h : ∀ {i b},ob i=some b→ob' i=some b) : ∀ {s:List (Nat×SO)} {σ:Ren} {p},bindP ob σ s=some p→bindP ob' σ s=some p
 | [],_,_,he=>he
 | s::r,σ,p,he=>by
   simp only [bindP] at he ⊢
   split at he
   ·split at he
    ·rename_i h1
     rw [bindO_ext h h1]
     simp only
     split at he
     ·rename_i h2;rw [bindP_ext h h2];exact he
     ·cases he
    ·cases he
   ·cases he
theorem bindAll_ext {ob':Objs} (h : ∀ {i b},ob i=some b→ob' i=some b) {σ:Ren} {sh:Shape} {ds:List Dv} {p} (he:Ye ob σ sh ds=some p):Ye ob' σ sh ds=some p:=by
 unfold Ye at he ⊢
 split at he
 ·rename_i h1
  rw [bindS_ext h h1]
  simp only
  split at he
  ·rename_i h2;rw [bindP_ext h h2];exact he
  ·cases he
 ·cases he
theorem backN_ext {ob':Objs} (h : ∀ {i b},ob i=some b→ob' i=some b) (hd : ∀ j,ob (kl dst j)=ob' (kl dst j)) {σ:Ren} {j:Nat} {o:Ob} {p} (he:backN ob dst σ j o=some p):backN ob' dst σ j o=some p:=by
 cases o with
 | arr v0 fz e t xs=>
   simp only [backN] at he ⊢
   split at he
   ·split at he
    ·rename_i hob;rw [h hob];exact he
    ·cases he
   ·unfold verOf at he ⊢
    rw [← hd];exact he
 | deep v0 fz e te t xs hole=>
   simp only [backN] at he ⊢
   split at he
   ·split at he
    ·rename_i hob;rw [h hob];exact he
    ·cases he
   ·unfold verD at he ⊢
    rw [← hd];exact he
 | box cs=>
   simp only [backN] at he ⊢
   split at he
   ·exact he
   ·rw [← hd];exact he
 | gone=>
   simp only [backN] at he ⊢
   split at he
   ·exact he
   ·rw [← hd];exact he
 | clo f x y=>
   simp only [backN] at he ⊢
   split at he
   ·exact he
   ·rw [← hd];exact he
theorem backT_ext {ob':Objs} (h : ∀ {i b},ob i=some b→ob' i=some b) (hd : ∀ j,ob (kl dst j)=ob' (kl dst j)) {σ:Ren} : ∀ {l:List (Nat×Ob)} {p},backT ob dst σ l=some p→backT ob' dst σ l=some p
 | [],_,he=>he
 | (j,o)::r,p,he=>by
   simp only [backT] at he ⊢
   split at he
   ·rename_i h1 h2
    rw [backN_ext h hd h1,backT_ext h hd h2];exact he
   ·cases he
theorem backK_ext {ob':Objs} (h : ∀ {i b},ob i=some b→ob' i=some b) (hd : ∀ j,ob (kl dst j)=ob' (kl dst j)) {σ:Ren} {st:St} {p} (he:backK ob dst σ st=some p):backK ob' dst σ st=some p:=by
 unfold backK at he ⊢
 split at he
 ·rename_i h1;rw [backT_ext h hd h1];exact he
 ·cases he
theorem calleeOf_ext {ob':Objs} (h : ∀ {i b},ob i=some b→ob' i=some b) {d:Dv} {p} (he:Vu ob (some d)=some p):Vu ob' (some d)=some p:=by
 unfold Vu at he ⊢
 split at he
 ·rename_i hd;cases hd;exact he
 ·rename_i hd
  cases hd
  split at he
  ·rename_i hob;simp only [h hob];exact he
  ·cases he
 ·cases he
theorem ext_call {c:Call} {x:Operand} (ho:o.op = .call c) (hc:c.callee = .value x) (he:effK G o dst ev ob k=some r):Fixed G o dst ev ob k r:=by
 unfold effK at he
 rw [ho] at he
 simp only [hc] at he
 split at he
 ·rename_i f fs cs as hcal hds
  obtain ⟨d,hx⟩ : ∃ d,ev x=some d:=by
   cases hx:ev x with
   | none=>rw [hx] at hcal;cases hcal
   | some d=>exact ⟨d,rfl⟩
  rw [hx] at hcal
  split at he
  ·rename_i ce hf
   split at he
   ·rename_i xs u ha
    obtain ⟨y,hy,he⟩:=ju he
    exact ⟨_,he,fun h=>by intro τ k';unfold effK;rw [ho];simp only [hc,hf,h.e hx,calleeOf_ext h.o hcal,YI h.e hds,args_ext h.o ha,hy,bnd]⟩
   ·cases he
  ·rename_i hf
   unfold UQ at he
   split at he
   ·rename_i mc hmc
    cases hb:(Nat.beq mc.fn f && calmP mc.pre.objs) with
    | false=>rw [hb] at he;cases he
    | true=>
      rw [hb] at he
      simp only [cond_true] at he
      split at he
      ·rename_i x1 u σ hbi
       obtain ⟨y,hy,he⟩:=ju he
       split at he
       ·rename_i d v hk
        refine ⟨_,he,fun h => ?_⟩
        intro τ k'
        unfold effK
        rw [ho]
        simp only [hc,hf,h.e hx,calleeOf_ext h.o hcal,YI h.e hds]
        unfold UQ
        simp only [hmc,hb,cond_true,bindAll_ext h.o hbi,hy,bnd,backK_ext h.o h.ds hk]
       ·cases he
      ·cases he
   ·cases he
 ·cases he
theorem ext_makeFunc {fn:Fn} {first caps:Array Operand} (ho:o.op = .makeFunc fn first caps) (he:effK G o dst ev ob k=some r):Fixed G o dst ev ob k r:=by
 unfold effK at he
 rw [ho] at he
 cases fn with
 | func f=>
   simp only at he
   split at he
   ·rename_i fs cs h1 h2
    split at he
    ·rename_i a b h3 h4
     cases hn:(isNil a && isNil b) with
     | true=>
       rw [hn] at he
       exact ⟨_,he,fun h=>by intro τ k';unfold effK;rw [ho];simp only [YI h.e h1,YI h.e h2,h3,h4,hn,cond_true]⟩
     | false=>
       rw [hn] at he
       simp only [cond_false] at he
       split at he
       ·rename_i hno
        exact ⟨_,he,fun h=>by intro τ k';unfold effK;rw [ho];simp only [YI h.e h1,YI h.e h2,h3,h4,hn,cond_false,← h.d,hno]⟩
       ·cases he
    ·cases he
   ·cases he
 | _=>cases he
theorem ext_nilCheck {x:Operand} (ho:o.op = .nilCheck x) (he:effK G o dst ev ob k=some r):Fixed G o dst ev ob k r:=by
 unfold effK at he
 rw [ho] at he
 simp only at he
 split at he
 ·rename_i hx
  split at he
  ·rename_i hob
   exact ⟨_,he,fun h=>by intro τ k';unfold effK;rw [ho];simp only [h.e hx,h.o hob]⟩
  ·cases he
 ·rename_i hx
  exact ⟨_,he,fun h=>by intro τ k';unfold effK;rw [ho];simp only [h.e hx]⟩
 ·rename_i id ver hx
  split at he
  ·rename_i v fz e t xs hob
   cases hb:Nat.beq v ver with
   | true=>rw [hb] at he;exact ⟨_,he,fun h=>by intro τ k';unfold effK;rw [ho];simp only [h.e hx,h.o hob,hb,cond_true]⟩
   | false=>rw [hb] at he;cases he
  ·cases he
 ·rename_i id ver i sz off hx
  split at he
  ·rename_i v fz e t xs hob
   cases hb:Nat.beq v ver with
   | true=>rw [hb] at he;exact ⟨_,he,fun h=>by intro τ k';unfold effK;rw [ho];simp only [h.e hx,h.o hob,hb,cond_true]⟩
   | false=>rw [hb] at he;cases he
  ·cases he
 ·rename_i id ver i off hx
  split at he
  ·rename_i v fz e te t xs hole hob
   cases hb:Nat.beq v ver with
   | true=>rw [hb] at he;exact ⟨_,he,fun h=>by intro τ k';unfold effK;rw [ho];simp only [h.e hx,h.o hob,hb,cond_true]⟩
   | false=>rw [hb] at he;cases he
  ·cases he
 ·rename_i hx
  exact ⟨_,he,fun h=>by intro τ k';unfold effK;rw [ho];simp only [h.e hx]⟩
 ·rename_i hx
  split at he
  ·rename_i hob
   exact ⟨_,he,fun h=>by intro τ k';unfold effK;rw [ho];simp only [h.e hx,h.o hob]⟩
  ·cases he
 ·cases he
theorem effK_ext (he:effK G o dst ev ob k=some r):Fixed G o dst ev ob k r:=by
 cases h:o.op with
 | move x=>exact ext_move h he
 | assign x=>exact ext_assign h he
 | pick c x y=>exact ext_pick h he
 | alloc t=>exact ext_alloc h he
 | box t x=>exact ext_box h he
 | build t ps=>exact ext_build h he
 | buildSlice t m ps=>exact ext_buildSlice h he
 | load t x=>exact ext_load h he
 | store t x y=>exact ext_store h he
 | binOp op xt x y yt=>exact ext_binOp h he
 | unOp op xt x=>exact ext_unOp h he
 | convert xt yt x=>exact ext_convert h he
 | makeSlice t l c=>exact ext_makeSlice h he
 | slice t x lo hi mx=>exact ext_slice h he
 | fieldAddr t x f=>exact ext_fieldAddr h he
 | field t x f=>exact ext_field h he
 | indexAddr t x ix=>exact ext_indexAddr h he
 | index t x ix=>exact ext_index h he
 | extract x i=>exact ext_extract h he
 | call c=>
   cases hc:c.callee with
   | builtin b=>
     by_cases h1:b = .append
     ·subst h1;exact ext_append h hc he
     ·by_cases h2:b = .len
      ·subst h2;exact ext_len h hc he
      by_cases h3:b = .min
      ·subst h3;exact ext_min h hc he
      by_cases h4:b = .max
      ·subst h4;exact ext_max h hc he
      ·unfold effK at he
       rw [h] at he
       simp only [hc] at he
       cases b <;> first | exact absurd rfl h1 | exact absurd rfl h2 | exact absurd rfl h3 | exact absurd rfl h4 | cases he
   | invoke x m=>
     unfold effK at he
     rw [h] at he
     simp only [hc] at he
     cases he
   | value x=>exact ext_call h hc he
 | makeFunc fn first caps=>exact ext_makeFunc h he
 | nilCheck x=>exact ext_nilCheck h he
 | makeInterface t x=>exact ext_makeInterface h he
 | makeMap t c=>exact ext_makeMap h he
 | lookup t x ix ok=>exact ext_lookup h he
 | mapUpdate t m kx vx=>exact ext_mapUpdate h he
 | _=>
   unfold effK at he
   rw [h] at he
   simp only at he
   cases he
end
end Go.Ql
end

section
set_option linter.unusedSectionVars false
namespace Go.Ql
theorem ins_cons {α:Type} (t s:Nat) (v u:α) (r:List (Nat×α)):ins t v ((s,u)::r)=if t < s then (t,v)::(s,u)::r else if t=s then (t,v)::r else (s,u)::ins t v r:=by
 simp only [ins]
 by_cases h1:t < s
 ·rw [if_pos h1,show Nat.blt t s=true by rw [Nat.blt_eq];exact h1];rfl
 ·rw [if_neg h1,show Nat.blt t s=false by cases hb:Nat.blt t s with | false=>rfl | true=>rw [Nat.blt_eq] at hb;omega]
  by_cases h2:t=s
  ·rw [if_pos h2,beqN.2 h2];rfl
  ·rw [if_neg h2,Jb.2 h2];rfl
theorem ins_comm {α:Type} {s t:Nat} (x y:α) (h:s≠t) : ∀ l:List (Nat×α),ins s x (ins t y l)=ins t y (ins s x l):=by
 have n : ∀ (t:Nat) (v:α),ins t v []=[(t,v)]:=fun _ _=>rfl
 intro l
 induction l with
 | nil=>
   rcases Nat.lt_or_gt_of_ne h with h1 | h1 <;> simp (disch:=omega) only [n,ins_cons,if_pos,if_neg]
 | cons p l ih=>
   obtain ⟨u,z⟩:=p
   rcases Nat.lt_trichotomy s u with h1 | h1 | h1 <;> rcases Nat.lt_trichotomy t u with h2 | h2 | h2 <;> rcases Nat.lt_or_gt_of_ne h with h3 | h3 <;>
    first
     | omega
     | simp (disch:=omega) only [ins_cons,if_pos,if_neg,ih]
theorem Vs {S S':Nat→Bool} : ∀ {i:Nat} {trs:List Tr} {st:St},(∀ k,k < trs.length→S (i+k)=S' (i+k))→foldS S i trs st=foldS S' i trs st
 | _,[],_,_=>rfl
 | i,t::r,st,h=>by
   simp only [foldS]
   have h0:S i=S' i:=h 0 (by simp)
   rw [h0]
   exact Vs fun k hk=>by
    have:=h (k+1) (by simp;omega)
    rwa [show i+(k+1)=i+1+k by omega] at this
theorem foldS_none {S:Nat→Bool} : ∀ {i:Nat} {trs:List Tr} {st:St},(∀ k,k < trs.length→S (i+k)=false)→foldS S i trs st=st
 | _,[],_,_=>rfl
 | i,t::r,st,h=>by
   have h0:S i=false:=h 0 (by simp)
   simp only [foldS,h0,cond_false]
   exact foldS_none fun k hk=>by
    have:=h (k+1) (by simp;omega)
    rwa [show i+(k+1)=i+1+k by omega] at this
theorem lay_slot {t:Tr} {st st':St} {s:Nat} (h:look st.slots s=look st'.slots s):look (t.lay st).slots s=look (t.lay st').slots s:=by
 obtain ⟨dst,dv,u,nd⟩:=t
 cases dst with
 | none=>exact h
 | some d=>
   cases dv with
   | none=>exact h
   | some v=>simp only [Tr.lay];rw [Jl,Jl,h]
theorem lay_slot_ne {t:Tr} {st:St} {s:Nat} (h:t.dst≠some s):look (t.lay st).slots s=look st.slots s:=by
 obtain ⟨dst,dv,u,nd⟩:=t
 cases dst with
 | none=>rfl
 | some d=>
   cases dv with
   | none=>rfl
   | some v=>
     simp only [Tr.lay]
     rw [Jl,if_neg]
     intro hh;subst hh;exact h rfl
theorem insAll_look {s:Nat} : ∀ {u:Upd} {l l':List (Nat×Ob)},look l s=look l' s→look (JM u l) s=look (JM u l') s
 | [],_,_,h=>h
 | (id,ob)::r,l,l',h=>insAll_look (u:=r) (by rw [Jl,Jl,h])
theorem insAll_ne {s:Nat} : ∀ {u:Upd} {l:List (Nat×Ob)},(∀ p∈u,p.1≠s)→look (JM u l) s=look l s
 | [],_,_=>rfl
 | (id,ob)::r,l,h=>by
   show look (JM r (ins id ob l)) s=_
   rw [insAll_ne fun p hp=>h p (List.mem_cons_of_mem _ hp),Jl,if_neg (h (id,ob) (by simp))]
theorem lay_obj {t:Tr} {st st':St} {s:Nat} (h:look st.objs s=look st'.objs s):look (t.lay st).objs s=look (t.lay st').objs s:=insAll_look h
theorem lay_obj_ne {t:Tr} {st:St} {s:Nat} (h : ∀ p∈t.upd,p.1≠s):look (t.lay st).objs s=look st.objs s:=insAll_ne h
theorem foldS_slot {S S':Nat→Bool} {s:Nat} : ∀ {i:Nat} {trs:List Tr} {st st':St},look st.slots s=look st'.slots s →
 (∀ k t,trs[k]? = some t→t.dst=some s→S (i+k)=S' (i+k))→look (foldS S i trs st).slots s=look (foldS S' i trs st').slots s
 | _,[],_,_,h,_=>h
 | i,t::r,st,st',h,hk=>by
   simp only [foldS]
   refine foldS_slot ?_ (fun k t' h1 h2=>by
    have:=hk (k+1) t' (by simpa using h1) h2
    rwa [show i+(k+1)=i+1+k by omega] at this)
   by_cases hd:t.dst=some s
   ·have h0:S i=S' i:=hk 0 t rfl hd
    rw [h0]
    cases S' i with
    | true=>exact lay_slot h
    | false=>exact h
   ·have h1 : ∀ b (st:St),look (bif b then t.lay st else st).slots s=look st.slots s:=fun b st=>by
     cases b with
     | true=>exact lay_slot_ne hd
     | false=>rfl
    rw [h1,h1,h]
theorem foldS_obj {S S':Nat→Bool} {s:Nat} : ∀ {i:Nat} {trs:List Tr} {st st':St},look st.objs s=look st'.objs s →
 (∀ k t ob,trs[k]? = some t→(s,ob)∈t.upd→S (i+k)=S' (i+k))→look (foldS S i trs st).objs s=look (foldS S' i trs st').objs s
 | _,[],_,_,h,_=>h
 | i,t::r,st,st',h,hk=>by
   simp only [foldS]
   refine foldS_obj ?_ (fun k t' ob h1 h2=>by
    have:=hk (k+1) t' ob (by simpa using h1) h2
    rwa [show i+(k+1)=i+1+k by omega] at this)
   by_cases hd : ∃ ob,(s,ob)∈t.upd
   ·obtain ⟨ob,hd⟩:=hd
    have h0:S i=S' i:=hk 0 t ob rfl hd
    rw [h0]
    cases S' i with
    | true=>exact lay_obj h
    | false=>exact h
   ·have h1 : ∀ b (st:St),look (bif b then t.lay st else st).objs s=look st.objs s:=fun b st=>by
     cases b with
     | true=>exact lay_obj_ne fun p hp hh=>hd ⟨p.2,by rw [← hh];exact hp⟩
     | false=>rfl
    rw [h1,h1,h]
def Tr.apart (t u:Tr):Prop:=(∀ s,t.dst=some s→u.dst≠some s) ∧ ∀ p∈t.upd,∀ q∈u.upd,p.1≠q.1
theorem ins_insAll {a:Nat} {o:Ob} : ∀ {u:Upd} {l:List (Nat×Ob)},(∀ q∈u,a≠q.1)→ins a o (JM u l)=JM u (ins a o l)
 | [],_,_=>rfl
 | (id,ob)::r,l,h=>by
   show ins a o (JM r (ins id ob l))=JM r (ins id ob (ins a o l))
   rw [ins_insAll fun q hq=>h q (List.mem_cons_of_mem _ hq),ins_comm o ob (h (id,ob) (by simp))]
theorem insAll_comm : ∀ {u v:Upd} {l:List (Nat×Ob)},(∀ p∈u,∀ q∈v,p.1≠q.1)→JM u (JM v l)=JM v (JM u l)
 | [],_,_,_=>rfl
 | (id,ob)::r,v,l,h=>by
   show JM r (ins id ob (JM v l))=JM v (JM r (ins id ob l))
   rw [ins_insAll fun q hq=>h (id,ob) (by simp) q hq,insAll_comm fun p hp=>h p (List.mem_cons_of_mem _ hp)]
theorem lay_comm {t u:Tr} (h:t.apart u) (st:St):t.lay (u.lay st)=u.lay (t.lay st):=by
 obtain ⟨d,v,x,_⟩:=t
 obtain ⟨d',v',x',_⟩:=u
 simp only [Tr.lay,St.mk.injEq]
 constructor
 ·match d,v,d',v' with
  | none,_,_,_=>rfl
  | some _,none,_,_=>rfl
  | some _,some _,none,_=>rfl
  | some _,some _,some _,none=>rfl
  | some a,some _,some b,some _=>
    refine ins_comm _ _ ?_ _
    intro hh;subst hh;exact h.1 a rfl rfl
 ·exact insAll_comm h.2
theorem foldS_lay {S:Nat→Bool} {t:Tr} : ∀ {i:Nat} {trs:List Tr} {st:St},(∀ k u,trs[k]? = some u→S (i+k)=true→t.apart u) →
 foldS S i trs (t.lay st)=t.lay (foldS S i trs st)
 | _,[],_,_=>rfl
 | i,u::r,st,h=>by
   simp only [foldS]
   have h' : ∀ k u',r[k]? = some u'→S (i+1+k)=true→t.apart u':=fun k u' h1 h2=>h (k+1) u' (by simpa using h1) (by rwa [show i+(k+1)=i+1+k by omega])
   cases hs:S i with
   | true=>
     simp only [cond_true]
     rw [← lay_comm (h 0 u rfl hs)]
     exact foldS_lay h'
   | false=>exact foldS_lay h'
theorem foldS_more {S:Nat→Bool} {m:Nat} {t:Tr} : ∀ {i:Nat} {trs:List Tr} {st:St},S (i+m)=false→trs[m]? = some t →
 (∀ k u,trs[k]? = some u→m < k→S (i+k)=true→t.apart u)→foldS (fun k=>S k || decide (k=i+m)) i trs st=t.lay (foldS S i trs st)
 | i,[],st,_,h,_=>by simp at h
 | i,u::r,st,hs,h,ha=>by
   simp only [foldS]
   cases m with
   | zero=>
     simp only [List.getElem?_cons_zero,Option.some.injEq] at h
     subst h
     have hs:S i=false:=hs
     simp only [hs,Nat.add_zero,decide_true,Bool.or_true,cond_true,cond_false]
     rw [Vs (S':=S) (fun k _=>by
      have : ¬ (i+1+k=i):=by omega
      simp [this])]
     exact foldS_lay fun k u' h1 h2=>ha (k+1) u' (by simpa using h1) (by omega) (by rwa [show i+(k+1)=i+1+k by omega])
   | succ m=>
     have : ¬ (i=i+(m+1)):=by omega
     simp only [this,decide_false,Bool.or_false]
     have e:(fun k=>S k || decide (k=i+(m+1)))=fun k=>S k || decide (k=i+1+m):=by
      funext k;rw [show i+(m+1)=i+1+m by omega]
     rw [e]
     exact foldS_more (by rwa [show i+1+m=i+(m+1) by omega]) (by simpa using h) fun k u' h1 h2 h3=>ha (k+1) u' (by simpa using h1) (by omega) (by rwa [show i+(k+1)=i+1+k by omega])
theorem all_ins {α:Type} {p:Nat×α→Bool} {t:Nat} {v:α} : ∀ {l:List (Nat×α)},l.all p=true→p (t,v)=true→(ins t v l).all p=true
 | [],_,h=>by simp [ins,h]
 | (s,u)::r,hl,h=>by
   rw [List.all_cons,Bool.and_eq_true] at hl
   rw [ins_cons]
   split
   ·simp only [List.all_cons,h,hl.1,hl.2,Bool.and_self]
   ·split
    ·simp only [List.all_cons,h,hl.2,Bool.and_self]
    ·simp only [List.all_cons,hl.1,all_ins hl.2 h,Bool.and_self]
theorem YR {pO:Nat×Ob→Bool} : ∀ {u:Upd} {l:List (Nat×Ob)},l.all pO=true→(∀ q∈u,pO q=true)→(JM u l).all pO=true
 | [],_,h,_=>h
 | (id,ob)::r,l,h,hu=>YR (u:=r) (all_ins h (hu _ (by simp))) fun q hq=>hu q (List.mem_cons_of_mem _ hq)
theorem Vh {S:Nat→Bool} {pS:Nat×Dv→Bool} {pO:Nat×Ob→Bool} : ∀ {i:Nat} {trs:List Tr} {st:St},st.slots.all pS=true→st.objs.all pO=true →
 (∀ k t,trs[k]? = some t→S (i+k)=true→(∀ s d,t.dv=some d→pS (s,d)=true) ∧ ∀ q∈t.upd,pO q=true) →
 (foldS S i trs st).slots.all pS=true∧(foldS S i trs st).objs.all pO=true
 | _,[],_,h1,h2,_=>⟨h1,h2⟩
 | i,t::r,st,h1,h2,h=>by
   simp only [foldS]
   have h' : ∀ k t',r[k]? = some t'→S (i+1+k)=true→(∀ s d,t'.dv=some d→pS (s,d)=true) ∧ ∀ q∈t'.upd,pO q=true:=
    fun k u' h1 h2=>h (k+1) u' (by simpa using h1) (by rwa [show i+(k+1)=i+1+k by omega])
   cases hs:S i with
   | false=>exact Vh h1 h2 h'
   | true=>
     obtain ⟨q1,q2⟩:=h 0 t rfl hs
     refine Vh ?_ ?_ h'
     ·simp only [cond_true,Tr.lay]
      obtain ⟨dst,dv,u,nd⟩:=t
      cases dst with
      | none=>exact h1
      | some s=>
        cases dv with
        | none=>exact h1
        | some d=>exact all_ins h1 (q1 s d rfl)
     ·exact YR h2 q2
def VX (ops:List Oper) (h:Hint) (st:St) (o:Oper) (c:Bool):Prop:=
 ∃ j want g,o.guard=some (j,want)∧(ops[j]?).bind (·.dst)=some g∧memN g h.hideS=false∧((∃ b,look st.slots g=some (.one (.val .bool b))∧(b == want)=c)∨(look st.slots g=some (.tup [])∧c=false))
theorem altOf_ext [GInv] {G:Env} {o:Oper} {dst:Nat} {ev ev':Operand→Option Dv} {ob ob':Objs} {q:MAlt×List Dv} (h:ExtE ev ev' ob ob' dst) (he:altOf G o ev ob=some q):altOf G o ev' ob'=some q:=by
 unfold altOf at he ⊢
 split at he
 ·rename_i c ho
  split at he
  ·rename_i x hc
   split at he
   ·rename_i f fs cs as h1 h2
    obtain ⟨d,hx⟩ : ∃ d,ev x=some d:=by
     cases hx:ev x with
     | none=>rw [hx] at h1;cases h1
     | some d=>exact ⟨d,rfl⟩
    rw [hx] at h1
    simp only [hc,h.e hx,calleeOf_ext h.o h1,YI h.e h2]
    exact he
   ·cases he
  ·cases he
 ·cases he
def AltF (G:Env) (o:Oper) (h:Hint) (st:St) (ma:MAlt) (ds:List Dv) (x:densU ma.pre.tys) (u:Upd) (σ:Ren) (st2:St) (d:Dv) (v:Upd):Prop:=
 ∀ {ev' ob'},ExtE (evM st h.hideS) ev' (obM st h.hideO) ob' (o.dst.getD 0)→altOf G o ev' ob'=some (ma,ds)∧Ye ob' [] ma.pre ds=some (x,u,σ)∧backK ob' (o.dst.getD 0) σ st2=some (d,v)
def AltE (G:Env) (o:Oper) (h:Hint) (st:St) (e:Eff):Prop:=
 ∃ ma ds x u σ y d v,AltF G o h st ma ds x u σ (ma.post.inj y) d v∧ma.F x=some (.inl y)∧e=⟨d,u++v⟩
def PanE (G:Env) (o:Oper) (h:Hint) (st:St) (a:At) (u':Upd):Prop:=
 ∃ ma ds x u σ y v,AltF G o h st ma ds x u σ (ma.post2.inj y) (.one a) v∧ma.F x=some (.inr y)∧ma.pan=true∧u'=u++v
structure Ran (G:Env) (ops:List Oper) (o:Oper) (h:Hint) (st:St) (t:Tr) (e:Eff):Prop where
 guard:o.guard=none∨VX ops h st o true
 eff:(∀ {ev' ob'},ExtE (evM st h.hideS) ev' (obM st h.hideO) ob' (o.dst.getD 0) → ∀ (τ:Type) (k':Eff→Option τ),effK G o (o.dst.getD 0) ev' ob' k'=k' e)∨AltE G o h st e
 dv:t.dv=some e.dv
 upd:t.upd=e.upd
 need:t.need=VO st e.upd
 ok:okUpd h.wr e.upd=true
 may:(Jh st e.upd).isSome=true
 dst : ∀ s,o.dst=some s→Nat.blt s G.n=true
structure Skipped (G:Env) (ops:List Oper) (o:Oper) (h:Hint) (st:St) (t:Tr):Prop where
 guard:VX ops h st o false
 dv:t.dv=some (.tup [])
 upd:t.upd=[]
 dst : ∀ s,o.dst=some s→Nat.blt s G.n=true
def StepT (G:Env) (ops:List Oper) (o:Oper) (h:Hint) (st:St) (t:Tr):Prop:=
 t.dst=o.dst∧((∃ e,Ran G ops o h st t e)∨Skipped G ops o h st t)
structure PanT (G:Env) (ops:List Oper) (o:Oper) (h:Hint) (st:St) (a:At) (u:Upd):Prop where
 guard:o.guard=none∨VX ops h st o true
 pan:PanE G o h st a u
def StepsT (G:Env) (ops:List Oper):Nat→Option Pm→List (Oper×Hint)→St→List Tr→Option Pm→Prop
 | _,pm,[],_,trs,pm'=>trs=[]∧pm'=pm
 | i,pm,(o,h)::l,st,trs,pm' => ∃ t r,trs=t::r ∧
   ((hangs pm h=false∧StepT G ops o h st t∧StepsT G ops (i+1) pm l (t.lay st) r pm') ∨
    (hangs pm h=true∧t=idle o∧StepsT G ops (i+1) pm l st r pm') ∨
    (pm=none∧t=idle o ∧ ∃ a u,PanT G ops o h st a u∧StepsT G ops (i+1) (some (i,a,u)) l st r pm'))
theorem StepsT.stays {G:Env} {ops:List Oper} {q:Pm} : ∀ {l:List (Oper×Hint)} {i:Nat} {st:St} {trs:List Tr} {pm':Option Pm},StepsT G ops i (some q) l st trs pm'→pm'=some q
 | [],_,_,_,_,h=>h.2
 | (o,hh)::l,i,st,trs,pm',h=>by
   obtain ⟨t,r,rfl,h | h | h⟩:=h
   ·exact StepsT.stays h.2.2
   ·exact StepsT.stays h.2.2
   ·cases h.1
theorem idle_lay (o:Oper) (st:St):(idle o).lay st=st:=by
 unfold idle Tr.lay
 cases o.dst <;> rfl
def PlaceT (G:Env) (ops:List Oper) (m:Nat) (pm':Option Pm) (o:Oper) (h:Hint) (st:St) (t:Tr):Prop:=
 (StepT G ops o h st t ∧ ∀ q,pm'=some q→q.1≠m∧(q.1 < m→memN q.1 h.pre=false)) ∨
 (∃ q,pm'=some q∧q.1 < m∧memN q.1 h.pre=true∧t=idle o) ∨
 (∃ a u,pm'=some (m,a,u)∧t=idle o∧PanT G ops o h st a u)
theorem StepsT.later {G:Env} {ops:List Oper} : ∀ {l:List (Oper×Hint)} {i:Nat} {st:St} {trs:List Tr} {pm':Option Pm} {q:Pm},StepsT G ops i none l st trs pm'→pm'=some q→i≤q.1
 | [],_,_,_,_,_,h,hq=>by rw [h.2] at hq;cases hq
 | (o,hh)::l,i,st,trs,pm',q,h,hq=>by
   obtain ⟨t,r,rfl,h | h | ⟨_,_,a,u,_,h⟩⟩:=h
   ·have:=StepsT.later h.2.2 hq;omega
   ·cases h.1
   ·rw [StepsT.stays h] at hq
    cases hq
    exact Nat.le_refl _
theorem StepsT.at {G:Env} {ops:List Oper} : ∀ {l:List (Oper×Hint)} {i:Nat} {pm:Option Pm} {st:St} {trs:List Tr} {pm':Option Pm},(∀ q,pm=some q→q.1 < i)→StepsT G ops i pm l st trs pm' →
 trs.length=l.length ∧ ∀ m o h t,l[m]? = some (o,h)→trs[m]? = some t→PlaceT G ops (i+m) pm' o h (foldS (fun k=>decide (k < i+m)) i trs st) t
 | [],i,pm,st,trs,pm',hi,h=>by
   obtain ⟨rfl,_⟩:=h
   exact ⟨rfl,fun m o h t h1=>by simp at h1⟩
 | (o,hh)::l,i,pm,st,trs,pm',hi,h=>by
   obtain ⟨t,r,rfl,h⟩:=h
   have key : ∃ pm1,(∀ q,pm1=some q→q.1 < i+1)∧StepsT G ops (i+1) pm1 l (t.lay st) r pm'∧PlaceT G ops i pm' o hh st t:=by
    rcases h with ⟨h0,h1,h2⟩ | ⟨h0,h1,h2⟩ | ⟨h0,h1,a,u,h2,h3⟩
    ·refine ⟨pm,fun q hq=>by have:=hi q hq;omega,h2,.inl ⟨h1,fun q hq => ?_⟩⟩
     cases pm with
     | none=>
       have:=StepsT.later h2 hq
       exact ⟨by omega,fun h=>by omega⟩
     | some q0=>
       have h3:=StepsT.stays h2
       rw [h3] at hq
       cases hq
       have:=hi _ rfl
       exact ⟨by omega,fun _=>h0⟩
    ·cases pm with
     | none=>cases h0
     | some q0=>
       refine ⟨some q0,fun q hq=>by have:=hi q hq;omega,?_,.inr (.inl ⟨q0,StepsT.stays h2,hi q0 rfl,h0,h1⟩)⟩
       rw [h1,idle_lay];exact h2
    ·refine ⟨some (i,a,u),fun q hq=>by cases hq;exact Nat.lt_succ_self _,?_,.inr (.inr ⟨a,u,StepsT.stays h3,h1,h2⟩)⟩
     rw [h1,idle_lay];exact h3
   obtain ⟨pm1,k1,k2,k3⟩:=key
   obtain ⟨h3,h4⟩:=StepsT.at k1 k2
   refine ⟨by simp [h3],fun m o' hh' t' q1 q2 => ?_⟩
   cases m with
   | zero=>
     simp only [List.getElem?_cons_zero,Option.some.injEq,Prod.mk.injEq] at q1 q2
     obtain ⟨rfl,rfl⟩:=q1
     subst q2
     rw [foldS_none (fun k _=>by simp)]
     exact k3
   | succ m=>
     have:=h4 m o' hh' t' (by simpa using q1) (by simpa using q2)
     simp only [foldS]
     have h0:decide (i < i+(m+1))=true:=by simp
     rw [h0,show i+(m+1)=i+1+m by omega]
     exact this
theorem layObs_ins : ∀ {u:Upd} {st st1:St},Jh st u=some st1→st1=⟨st.slots,JM u st.objs⟩
 | [],st,st1,h=>by simp only [Jh,Option.some.injEq] at h;subst h;rfl
 | (id,ob)::r,st,st1,h=>by
   simp only [Jh] at h
   cases hm:mayOb st id ob with
   | false=>rw [hm] at h;cases h
   | true=>rw [hm] at h;exact layObs_ins (u:=r) h
theorem lay_of {n:Nat} {st:St} {t:Tr} {d:Dv} {u:Upd} (hd:t.dv=some d) (hu:t.upd=u) (may:(Jh st u).isSome=true)
 (hs : ∀ s,t.dst=some s→Nat.blt s n=true):lay n st t.dst d u=some (t.lay st):=by
 have h1:Jh st u=some ⟨st.slots,(t.lay st).objs⟩:=by
  obtain ⟨st1,h⟩:=Option.isSome_iff_exists.1 may
  rw [h,layObs_ins h,← hu];rfl
 unfold lay
 rw [h1]
 simp only
 cases hdst:t.dst with
 | none=>simp only [Tr.lay,hdst]
 | some s=>simp only [hs s hdst,cond_true,Tr.lay,hdst,hd]
theorem lay_may {n:Nat} {st st':St} {dst:Option Nat} {d:Dv} {u:Upd} (h:lay n st dst d u=some st') :
 (Jh st u).isSome=true ∧ ∀ s,dst=some s→Nat.blt s n=true:=by
 unfold lay at h
 split at h
 ·rename_i st1 h1
  constructor
  ·rw [h1];rfl
  ·rintro s rfl
   simp only at h
   cases hb:Nat.blt s n with
   | true=>rfl
   | false=>rw [hb] at h;cases h
 ·cases h
theorem partK_some {ρ:Type} {gs:List Nat} {dst:Option Nat} {d:Dv} {k:Dv→Option ρ} {r:ρ} (h:partK gs dst d k=some r):k d=some r:=by
 unfold partK at h
 split at h
 ·rename_i t
  cases hm:memN t gs with
  | false=>rw [hm] at h;exact h
  | true=>
    rw [hm] at h
    simp only [cond_true] at h
    split at h
    ·rename_i b
     cases b <;> exact h
    ·cases h
 ·exact h
theorem drawK_steps [GInv] {ρ:Type} {G:Env} {ops:List Oper} {gs:List Nat} {r:ρ} : ∀ {l:List (Oper×Hint)} {st:St} {tr:List Tr} {pm:Option Pm} {k:Option Pm→St→List Tr→Option ρ},drawK G ops gs l st tr pm k=some r →
 ∃ trs pm',StepsT G ops tr.length pm l st trs pm'∧k pm' (foldS (fun _=>true) 0 trs st) (tr++trs)=some r
 | [],st,tr,pm,k,h=>⟨[],pm,⟨rfl,rfl⟩,by
   have h:k pm st tr=some r:=h
   simpa [foldS] using h⟩
 | (o,hh)::l,st,tr,pm,k,h=>by
   have fold0 : ∀ (trs:List Tr) (i:Nat) (st:St),foldS (fun _=>true) i trs st=foldS (fun _=>true) 0 trs st:=by
    intro trs
    induction trs with
    | nil=>intro i st;rfl
    | cons t trs ih=>intro i st;simp only [foldS];rw [ih,ih 1]
   have go : ∀ (t:Tr) (pm1:Option Pm) (st':St),t.lay st=st'→drawK G ops gs l st' (tr++[t]) pm1 k=some r →
    ∃ trs pm',StepsT G ops (tr.length+1) pm1 l st' trs pm'∧k pm' (foldS (fun _=>true) 0 (t::trs) st) (tr++(t::trs))=some r:=by
    intro t pm1 st' h2 h3
    subst h2
    obtain ⟨trs,pm',q1,q2⟩:=drawK_steps h3
    rw [List.length_append] at q1
    refine ⟨trs,pm',q1,?_⟩
    simp only [foldS,cond_true]
    rw [fold0]
    simpa using q2
   have next:hangs pm hh=false → ∀ (t:Tr) (st':St),StepT G ops o hh st t→t.lay st=st'→drawK G ops gs l st' (tr++[t]) pm k=some r →
    ∃ trs pm',StepsT G ops tr.length pm ((o,hh)::l) st trs pm'∧k pm' (foldS (fun _=>true) 0 trs st) (tr++trs)=some r:=by
    intro h0 t st' h1 h2 h3
    obtain ⟨trs,pm',q1,q2⟩:=go t pm st' h2 h3
    subst h2
    exact ⟨t::trs,pm',⟨t,trs,rfl,.inl ⟨h0,h1,q1⟩⟩,q2⟩
   unfold drawK at h
   simp only at h
   cases h0:hangs pm hh with
   | true=>
     rw [h0] at h
     simp only [cond_true] at h
     obtain ⟨trs,pm',q1,q2⟩:=go (idle o) pm st (idle_lay o st) h
     exact ⟨idle o::trs,pm',⟨_,trs,rfl,.inr (.inl ⟨h0,rfl,q1⟩)⟩,q2⟩
   | false=>
     rw [h0] at h
     simp only [cond_false] at h
     have done:(o.guard=none∨VX ops hh st o true) → ∀ e:Eff,((∀ {ev' ob'},ExtE (evM st hh.hideS) ev' (obM st hh.hideO) ob' (o.dst.getD 0) → ∀ (τ:Type) (k':Eff→Option τ),effK G o (o.dst.getD 0) ev' ob' k'=k' e)∨AltE G o hh st e) →
      (bif okUpd hh.wr e.upd then partK gs o.dst e.dv fun d=>layK G.n st o.dst d e.upd fun st'=>drawK G ops gs l st' (tr++[⟨o.dst,some d,e.upd,VO st e.upd⟩]) pm k else none)=some r →
      ∃ trs pm',StepsT G ops tr.length pm ((o,hh)::l) st trs pm'∧k pm' (foldS (fun _=>true) 0 trs st) (tr++trs)=some r:=by
      intro hg e h2 h1
      cases hok:okUpd hh.wr e.upd with
      | false=>rw [hok] at h1;cases h1
      | true=>
        rw [hok] at h1
        simp only [cond_true] at h1
        have h3:=partK_some h1
        unfold layK at h3
        split at h3
        ·rename_i st' hl
         obtain ⟨m1,m2⟩:=lay_may hl
         have hl2:=lay_of (n:=G.n) (st:=st) (t:=⟨o.dst,some e.dv,e.upd,VO st e.upd⟩) rfl rfl m1 m2
         rw [hl] at hl2
         cases hl2
         exact next h0 _ _ ⟨rfl,.inl ⟨e,hg,h2,rfl,rfl,rfl,hok,m1,m2⟩⟩ rfl h3
        ·cases h3
     have run:(o.guard=none∨VX ops hh st o true)→(match altD? G pm o (evM st hh.hideS) (obM st hh.hideO) with
      | some (ma,ds)=>altD ma ds (o.dst.getD 0) (obM st hh.hideO) (fun e=>bif okUpd hh.wr e.upd then partK gs o.dst e.dv fun d=>layK G.n st o.dst d e.upd fun st'=>drawK G ops gs l st' (tr++[⟨o.dst,some d,e.upd,VO st e.upd⟩]) pm k else none) fun a u=>drawK G ops gs l st (tr++[idle o]) (some (tr.length,a,u)) k
      | none=>effK G o (o.dst.getD 0) (evM st hh.hideS) (obM st hh.hideO) fun e=>bif okUpd hh.wr e.upd then partK gs o.dst e.dv fun d=>layK G.n st o.dst d e.upd fun st'=>drawK G ops gs l st' (tr++[⟨o.dst,some d,e.upd,VO st e.upd⟩]) pm k else none)=some r →
        ∃ trs pm',StepsT G ops tr.length pm ((o,hh)::l) st trs pm'∧k pm' (foldS (fun _=>true) 0 trs st) (tr++trs)=some r:=by
      intro hg h
      split at h
      ·rename_i ma ds ha
       cases pm with
       | some q=>cases ha
       | none=>
         have ha:altOf G o (evM st hh.hideS) (obM st hh.hideO)=some (ma,ds):=ha
         unfold altD at h
         split at h
         ·rename_i x u σ hbi
          obtain ⟨y,hy,h⟩:=ju h
          cases y with
          | inl y=>
            simp only [sel] at h
            split at h
            ·rename_i d v hk
             exact done hg ⟨d,u++v⟩ (.inr ⟨ma,ds,x,u,σ,y,d,v,fun hx=>⟨altOf_ext hx ha,bindAll_ext hx.o hbi,backK_ext hx.o hx.ds hk⟩,hy,rfl⟩) h
            ·cases h
          | inr y=>
            simp only [sel] at h
            split at h
            ·rename_i a v hk
             cases hpn:ma.pan with
             | false=>rw [hpn] at h;cases h
             | true=>
               rw [hpn] at h
               simp only [cond_true] at h
               obtain ⟨trs,pm',q1,q2⟩:=go (idle o) (some (tr.length,a,u++v)) st (idle_lay o st) h
               exact ⟨idle o::trs,pm',⟨_,trs,rfl,.inr (.inr ⟨rfl,rfl,a,u++v,⟨hg,ma,ds,x,u,σ,y,v,fun hx=>⟨altOf_ext hx ha,bindAll_ext hx.o hbi,backK_ext hx.o hx.ds hk⟩,hy,hpn,rfl⟩,q1⟩)⟩,q2⟩
            ·cases h
         ·cases h
      ·obtain ⟨e,h1,h2⟩:=effK_ext h
       exact done hg e (.inl h2) h1
     split at h
     ·rename_i hg
      exact run (.inl hg) h
     ·rename_i j want hg
      split at h
      ·rename_i g hj
       cases hm:memN g hh.hideS with
       | true=>rw [hm] at h;cases h
       | false=>
         rw [hm] at h
         simp only [cond_false] at h
         have skip:VX ops hh st o false→(layK G.n st o.dst (.tup []) [] fun st'=>drawK G ops gs l st' (tr++[⟨o.dst,some (.tup []),[],[]⟩]) pm k)=some r →
          ∃ trs pm',StepsT G ops tr.length pm ((o,hh)::l) st trs pm'∧k pm' (foldS (fun _=>true) 0 trs st) (tr++trs)=some r:=by
          intro hgi hs
          unfold layK at hs
          split at hs
          ·rename_i st' hl
           obtain ⟨m1,m2⟩:=lay_may hl
           have hl2:=lay_of (n:=G.n) (st:=st) (t:=⟨o.dst,some (.tup []),[],[]⟩) rfl rfl m1 m2
           rw [hl] at hl2
           cases hl2
           exact next h0 _ _ ⟨rfl,.inr ⟨hgi,rfl,rfl,m2⟩⟩ rfl hs
          ·cases hs
         split at h
         ·rename_i b hb
          cases hbw:(b == want) with
          | true=>
            rw [hbw] at h
            exact run (.inr ⟨j,want,g,hg,hj,hm,.inl ⟨b,hb,hbw⟩⟩) h
          | false=>
            rw [hbw] at h
            simp only [br] at h
            exact skip ⟨j,want,g,hg,hj,hm,.inl ⟨b,hb,hbw⟩⟩ h
         ·rename_i hb
          exact skip ⟨j,want,g,hg,hj,hm,.inr ⟨hb,rfl⟩⟩ h
         ·cases h
      ·cases h
end Go.Ql
end
