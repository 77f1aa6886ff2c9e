/- Part of the lifter: regions and functions, for any program. -/
import Derived.Test.YtdocfkidnnalnaaGreatDoorLdB
import Derived.Orders
set_option linter.all false
section
namespace Go.Ql
section
variable [GInv] {P:Program} {G:Env} {n:Nat} {w0 w w':World} {Z0:Bs} {Z Z':Nat→Prop} {st st1:St} {a:Act} {nm:Names} {o:Oper} {dst:Nat} {ρ:Type} {r:ρ}
theorem keepT_step {l:List Oper} {o:Oper} {L:List Nat} {a0 a a':Act} (hL:∀t,memN t L=false→memN t (wrOps (o::l))=false) (h0:KeepT L a0 a) (h:KeepT o.dst.toList a a') :
 (∀t,memN t L=false→memN t (wrOps l)=false)∧KeepT L a0 a':=by
 have key:∀t,memN t L=false→memN t o.dst.toList=false∧memN t (wrOps l)=false:=by
  intro t ht
  have:=hL t ht
  unfold wrOps at this ⊢
  cases hd:o.dst with
  | none=>simp only [List.filterMap_cons,hd] at this;exact ⟨rfl,this⟩
  | some s=>
    simp only [List.filterMap_cons,hd,memN,Bool.or_eq_false_iff] at this
    exact ⟨by simp [memN,this.1],this.2⟩
 exact ⟨fun t ht=>(key t ht).2,fun t ht=>(h t (key t ht).1).trans (h0 t ht)⟩
theorem opsK_sound (hT:TabOk P G.tab) (hF:AllOk P G) {ops:Array Oper} {gs:List Nat} {k kp:St→Option ρ} {Q:Exit→Act→World→Prop} {L:List Nat} {a0:Act}
 (hk:∀st' a' w' nm',Rel G.n w0 Z0 st' a' w' nm'→k st'=some r→KeepT L a0 a'→Q .normal a' w')
 (hp:∀st' a' w' nm' v,Rel G.n w0 Z0 st' a' w' nm'→nm' payId=.func (.func 0) #[] #[v]→kp st'=some r→Q (.panic [{ v,recovered:=false }]) a' w') (rd:Option Nat) (m:Nat):∀(l:List Oper) {st:St} {a:Act} {w:World} {nm:Names},
 (∀t,memN t L=false→memN t (wrOps l)=false)→KeepT L a0 a →
 Rel G.n w0 Z0 st a w nm→opsK G ops.toList gs l st k kp=some r→wpListIn (Fr rd) m P ops Q l a w
 | [],_,_,_,_,_,h0,h,he=>hk _ _ _ _ h he h0
 | o::l,_,_,_,_,hL,h0,h,he=>by
   unfold opsK at he
   have:=stepK_sound (P:=P) (Q:=Q) (K:=wpListIn (Fr rd) m P ops Q l) hT hF h he (fun st' a' w' nm' h' hk' hkt=>opsK_sound hT hF hk hp rd m l (keepT_step hL h0 hkt).1 (keepT_step hL h0 hkt).2 h' hk') hp rd m
   unfold stepWp at this
   unfold wpListIn
   exact this
theorem YF {t:Nat} {l:List Nat}:memN t l=true↔t∈l:=by
 induction l with
 | nil=>simp [memN]
 | cons s r ih=>
   simp only [memN,Bool.or_eq_true,ih,zz,beqN]
   constructor
   ·rintro (h | h)
    ·exact .inl h.symm
    ·exact .inr h
   ·rintro (h | h)
    ·exact .inl h.symm
    ·exact .inr h
theorem look_normSlots (G:Env) (objs:List (Nat×Ob)) (t:Nat):∀(l:List (Nat×Dv)) {d:Dv},look (Vu G objs l) t=some d → ∃d0,look l t=some d0∧d=convDv G.muts objs d0
 | [],d,h=>by simp [Vu,look] at h
 | (s,d1)::l,d,h=>by
   simp only [Vu] at h
   cases hm:memN s G.keep with
   | true=>
     rw [hm] at h
     simp only [ze,look] at h ⊢
     cases hb:Nat.beq s t with
     | true=>rw [hb] at h;simp only [ze,z6] at h;exact ⟨d1,by simp,h.symm⟩
     | false=>rw [hb] at h;simp only [zf] at h ⊢;exact look_normSlots G objs t l h
   | false=>
     rw [hm] at h
     simp only [zf,look] at h ⊢
     obtain ⟨d0,h1,h2⟩:=look_normSlots G objs t l h
     cases hb:Nat.beq s t with
     | true=>
       have:=beqN.1 hb
       subst this
       exact absurd h (by
        have:∀l:List (Nat×Dv),look (Vu G objs l) s=none:=by
         intro l
         induction l with
         | nil=>rfl
         | cons p l ih=>
           obtain ⟨q,x⟩:=p
           simp only [Vu]
           cases hq:memN q G.keep with
           | false=>exact ih
           | true=>
             simp only [ze,look]
             have:Nat.beq q s=false:=by rw [JJ];rintro rfl;rw [hm] at hq;cases hq
             rw [this]
             exact ih
        rw [this];simp)
     | false=>simp only [zf];exact ⟨d0,h1,h2⟩
def VJ (G:Env) (objs:List (Nat×Ob)) (id:Nat):Ob→Option Ob
 | .box cs=>some (.box (cs.map (YH G.muts objs)))
 | .arr v fz e t xs=>bif fz || !memN id G.muts then (bif fz&&memN (20000000+id) G.muts then some .gone else none) else some (.arr (Uk id v) false e t xs)
 | .clo f x y=>some (.clo f (x.map (YH G.muts objs)) (y.map (YH G.muts objs)))
 | .gone=>some .gone
theorem kW (G:Env) (objs:List (Nat×Ob)) (id:Nat):∀(l:List (Nat×Ob)) {ob:Ob},look (kZ G objs l) id=some ob → ∃ob0,look l id=some ob0∧VJ G objs id ob0=some ob
 | [],d,h=>by simp [kZ,look] at h
 | (s,.box cs)::l,d,h=>by
   simp only [kZ,look] at h ⊢
   cases hb:Nat.beq s id with
   | true=>
     rw [hb] at h
     have:=beqN.1 hb
     subst this
     simp only [ze] at h
     exact ⟨.box cs,by simp,h⟩
   | false=>
     rw [hb] at h
     simp only [zf] at h ⊢
     exact kW G objs id l h
 | (s,.gone)::l,d,h=>by
   simp only [kZ,look] at h ⊢
   cases hb:Nat.beq s id with
   | true=>
     rw [hb] at h
     have:=beqN.1 hb
     subst this
     simp only [ze] at h
     exact ⟨.gone,by simp,h⟩
   | false=>
     rw [hb] at h
     simp only [zf] at h ⊢
     exact kW G objs id l h
 | (s,.clo f x y)::l,d,h=>by
   simp only [kZ,look] at h ⊢
   cases hb:Nat.beq s id with
   | true=>
     rw [hb] at h
     have:=beqN.1 hb
     subst this
     simp only [ze] at h
     exact ⟨.clo f x y,by simp,h⟩
   | false=>
     rw [hb] at h
     simp only [zf] at h ⊢
     exact kW G objs id l h
 | (s,.arr v fz e t xs)::l,d,h=>by
   simp only [kZ] at h
   cases hm:(fz || !memN s G.muts) with
   | true=>
     rw [hm] at h
     simp only [ze] at h
     cases hf:(fz&&memN (20000000+s) G.muts) with
     | true=>
       rw [hf] at h
       simp only [ze,look] at h ⊢
       cases hb:Nat.beq s id with
       | true=>
         rw [hb] at h
         have:=beqN.1 hb
         subst this
         simp only [ze] at h
         refine ⟨.arr v fz e t xs,by simp,?_⟩
         simp only [VJ,hm,hf,ze]
         exact h
       | false=>
         rw [hb] at h
         simp only [zf] at h ⊢
         exact kW G objs id l h
     | false=>
     rw [hf] at h
     simp only [zf,UM] at h
     by_cases hs:s=id
     ·simp [hs] at h
     ·rw [if_neg hs] at h
      simp only [look,JJ.2 hs,zf]
      exact kW G objs id l h
   | false=>
     rw [hm] at h
     simp only [zf,look] at h ⊢
     cases hb:Nat.beq s id with
     | true=>
       rw [hb] at h
       have:=beqN.1 hb
       subst this
       refine ⟨.arr v fz e t xs,by simp,?_⟩
       simp only [VJ,hm,zf]
       exact h
     | false=>
       rw [hb] at h
       simp only [zf] at h ⊢
       exact kW G objs id l h
theorem UA {α:Type} (f:Nat→Bool) (t:Nat):∀(l:List (Nat×α)) {d:α},look (onlyP f l) t=some d→look l t=some d
 | [],d,h=>by simp [onlyP,look] at h
 | (s,x)::l,d,h=>by
   simp only [onlyP] at h
   cases hm:f s with
   | true=>
     rw [hm] at h
     simp only [ze,look] at h ⊢
     cases hb:Nat.beq s t with
     | true=>rw [hb] at h;exact h
     | false=>rw [hb] at h;simp only [zf] at h ⊢;exact UA f t l h
   | false=>
     rw [hm] at h
     simp only [zf,look] at h ⊢
     cases hb:Nat.beq s t with
     | true=>
       have:=beqN.1 hb
       subst this
       have hno:∀l:List (Nat×α),look (onlyP f l) s=none:=by
        intro l
        induction l with
        | nil=>rfl
        | cons p l ih=>
          obtain ⟨q,y⟩:=p
          simp only [onlyP]
          cases hq:f q with
          | false=>exact ih
          | true=>
            simp only [ze,look]
            have:Nat.beq q s=false:=by rw [JJ];rintro rfl;rw [hm] at hq;cases hq
            rw [this]
            exact ih
       rw [hno] at h
       cases h
     | false=>simp only [zf];exact UA f t l h
theorem look_only {α β:Type} (dom:List (Nat×β)) (t:Nat) (l:List (Nat×α)) {d:α} (h:look (only dom l) t=some d):look l t=some d:=UA _ t l h
theorem kF {α β:Type} (dom:List (Nat×β)) (t:Nat) (l:List (Nat×α)) {d:α} (h:look (onlyO dom l) t=some d):look l t=some d:=UA _ t l h
theorem HM {objs objs':List (Nat×Ob)} (hsub:∀id ob,look objs' id=some ob→ob.mine=true → ∃ob',look objs id=some ob'∧ob'.mine=true) {b:Nat} (h:Zc w0 Z0 nm objs w b):Zc w0 Z0 nm objs' w b:=by
 refine ⟨h.1,h.2.1,?_⟩
 rintro ⟨id,ob,h1,h2,h3⟩
 obtain ⟨ob',h4,h5⟩:=hsub id ob h1 h2
 exact h.2.2 ⟨id,ob',h4,h5,h3⟩
theorem Rel.delC (h:Rel n w0 Z0 st a w nm) (G:Env) (t:Nat):Rel n w0 Z0 (Go.Ql.delC G t st) a w nm:=by
 unfold Go.Ql.delC
 cases memN (2000000000000+t) G.muts with
 | true=>exact h
 | false=>exact h.del t
theorem Rel.restrict (h:Rel n w0 Z0 st a w nm) (dom:St):Rel n w0 Z0 (Go.Ql.restrict dom st) a w nm:=by
 have hz:Kept w w (Zc w0 Z0 nm st.objs w) (Zc w0 Z0 nm (onlyO dom.objs st.objs) w):=fun b hb=>⟨HM (fun id ob h1 h2=>⟨ob,kF _ _ _ h1,h2⟩) hb,rfl⟩
 have hat:∀x,AtOk nm nm st.objs (onlyO dom.objs st.objs) x:=fun x id _=>⟨fun ver fz e t xs h1 _=>⟨rfl,fz,xs,kF _ _ _ h1,rfl⟩,fun cs h1=>⟨rfl,cs,kF _ _ _ h1⟩,fun f y z h1=>⟨rfl,f,y,z,kF _ _ _ h1⟩⟩
 refine ⟨h.defk hz,h.size,fun t d ht=>?_,fun id ob ho=>?_,fun id ob b ho hb=>h.new id ob b (kF _ _ _ ho) hb,fun id id' ob ob' b ho ho'=>h.inj id id' ob ob' b (kF _ _ _ ho) (kF _ _ _ ho'),h.same,fun id ob hg ho=>h.given id ob hg (kF _ _ _ ho),h.glob,h.calm⟩
 ·obtain ⟨v,h1,h2⟩:=h.slots t d (look_only _ _ _ ht)
  refine ⟨v,h1,kI hz.weak ?_ h2⟩
  cases d<;>simp only [DvOk]<;>first | exact hat _ | exact fun x _=>hat x
 ·refine Yf hz.weak rfl (fun _ _=>rfl) ?_ (h.objs id ob (kF _ _ _ ho))
  cases ob<;>simp only [ObOk]<;>first | trivial | exact fun x _=>hat x | exact ⟨fun x _=>hat x,fun x _=>hat x⟩
theorem Rel.forget (h:Rel n w0 Z0 st a w nm) (l:List Nat):Rel n w0 Z0 (Go.Ql.forget l st) a w nm:=by
 unfold Go.Ql.forget
 split
 ·exact h
 ·exact h.restrict _
theorem convAt_rd (h:Rel n w0 Z0 st a w nm) {muts:List Nat} {objs':List (Nat×Ob)}
 (hin:∀id ob,look objs' id=some ob→match ob with
  | .box _=>∃cs,look st.objs id=some (.box cs)
  | .arr v fz e t xs=>fz=false∧memN id muts=true ∧ ∃v',look st.objs id=some (.arr v' false e t xs)∧v=Uk id v'
  | .gone=>∃o,look st.objs id=some o∧o.mine=false
  | .clo f _ _=>∃p q,look st.objs id=some (.clo f p q)) {x:At} {v:Value} (hr:rdA w (Zc w0 Z0 nm st.objs w) nm st.objs x v) :
 rdA w (Zc w0 Z0 nm objs' w) nm objs' (YH muts st.objs x) v:=by
 have hz:Kept w w (Zc w0 Z0 nm st.objs w) (Zc w0 Z0 nm objs' w):=fun b hb=>⟨HM (fun id ob h1 h2=>by
  have:=hin id ob h1
  cases ob with
  | box cs=>obtain ⟨cs',h3⟩:=this;exact ⟨_,h3,rfl⟩
  | clo f p q=>obtain ⟨_,_,h3⟩:=this;exact ⟨_,h3,rfl⟩
  | gone=>cases h2
  | arr v fz e t xs=>obtain ⟨_,_,v',h3,_⟩:=this;exact ⟨_,h3,rfl⟩) hb,rfl⟩
 have gone:∀id v0 fz e t xs,look st.objs id=some (.arr v0 fz e t xs)→(fz || !memN id muts)=true → ∀g,blk (nm id)=some g→Zc w0 Z0 nm objs' w g:=by
  intro id v0 fz e t xs hl hm g hb
  have hn:=h.new id _ g hl hb
  refine ⟨hn.2,fun hlt=>.inr (hn.1.resolve_left (by omega)),?_⟩
  rintro ⟨id',ob,q1,q2,q3⟩
  have hq:=hin id' ob q1
  have hid:id'=id:=by
   cases ob with
   | box cs=>obtain ⟨cs',h4⟩:=hq;exact h.inj id' id _ _ g h4 hl q3 hb
   | clo f p q=>obtain ⟨_,_,h4⟩:=hq;exact h.inj id' id _ _ g h4 hl q3 hb
   | gone=>cases q2
   | arr v fz e t xs=>obtain ⟨_,_,v',h4,_⟩:=hq;exact h.inj id' id _ _ g h4 hl q3 hb
  subst hid
  cases ob with
  | box cs=>obtain ⟨cs',h4⟩:=hq;rw [hl] at h4;cases h4
  | clo f p q=>obtain ⟨_,_,h4⟩:=hq;rw [hl] at h4;cases h4
  | gone=>cases q2
  | arr v fz' e t xs=>
    obtain ⟨_,h5,v',h4,_⟩:=hq
    rw [hl] at h4
    cases h4
    rw [h5] at hm
    cases hm
 cases x with
 | val t d=>exact VM hz hr
 | nilS=>exact hr
 | ref id off=>
   refine ⟨hr.1,fun cs hl=>?_⟩
   obtain ⟨cs',h3⟩:=hin id _ hl
   exact hr.2 cs' h3
 | clo id=>
   refine ⟨hr.1,fun f p q hl=>?_⟩
   obtain ⟨p',q',h3⟩:=hin id _ hl
   exact hr.2 f p' q' h3
 | win id ver lo m=>
   simp only [YH]
   split
   ·rename_i v0 fz e t xs hl
    cases hv:Nat.beq v0 ver with
    | false=>exact hr.1
    | true=>
      have:=beqN.1 hv
      subst this
      simp only [ze]
      obtain ⟨hw,hi⟩:=hr.2 fz e t xs hl
      cases hm:(fz || !memN id muts) with
      | true=>
        simp only [ze]
        cases hmap:t.isMap with
        | true=>exact hr.1
        | false=>
        simp only [zf]
        obtain ⟨cells,h1,h2⟩:=(h.objs id _ hl).sl hmap
        refine ⟨_,rfl,?_⟩
        rcases win_rd h1 h2 hw hi with hh | ⟨b,g,c,cs,q1,q2,q3,q4,q5,q6⟩
        ·exact .inl hh
        ·exact .inr (.inl ⟨b,g,c,cs,q1,q2,q3,gone id _ _ _ _ _ hl hm b q4,kA (fun _ _=>ka hz t) q5,q6⟩)
      | false=>
        simp only [zf]
        refine ⟨hr.1,fun fz1 e1 t1 xs1 hl1=>?_⟩
        obtain ⟨_,_,v',h3,_⟩:=hin id _ hl1
        rw [hl] at h3
        cases h3
        exact ⟨hw,hi⟩
   ·exact hr.1
 | own id ver=>
   simp only [YH]
   split
   ·rename_i v0 fz e t xs hl
    cases hv:Nat.beq v0 ver with
    | false=>exact hr.1
    | true=>
      have:=beqN.1 hv
      subst this
      simp only [ze]
      have hvn:=hr.2 fz e t xs hl
      cases hm:(fz || !memN id muts) with
      | true=>
        simp only [ze]
        cases hmap:t.isMap with
        | true=>exact hr.1
        | false=>
        simp only [zf]
        rw [hvn]
        obtain ⟨cells,h1,h2⟩:=(h.objs id _ hl).sl hmap
        refine ⟨_,rfl,?_⟩
        rcases h1.2 with ⟨e1,e2⟩ | ⟨g,cap,cur,e1,e3,e4,e5,e6,e7⟩
        ·exact .inl ⟨e1,zg e2⟩
        ·refine .inr (.inl ⟨g,0,cap,cells,e1,e4,e5,?_,kA (fun _ _=>ka hz t) h2,fun j u hj=>?_⟩)
         ·have hb:blk (nm id)=some g:=by rw [e1];rfl
          have hn:=h.new id _ g hl hb
          exact gone id v0 fz e t xs hl hm g hb
         ·rw [zq,e3.cell]
          rw [←e7,List.getElem?_take] at hj
          split at hj
          ·simpa using hj
          ·cases hj
      | false=>
        simp only [zf]
        exact ⟨hr.1,fun _ _ _ _ _=>hvn⟩
   ·exact hr.1
 | aptr id ver=>
   simp only [YH]
   split
   ·rename_i v0 fz e t xs hl
    cases hv:Nat.beq v0 ver with
    | false=>exact hr.1
    | true=>
      have:=beqN.1 hv
      subst this
      simp only [ze]
      have hvn:=hr.2 fz e t xs hl
      cases hm:(fz || !memN id muts) with
      | true=>exact hr.1
      | false=>
        simp only [zf]
        exact ⟨hr.1,fun _ _ _ _ _=>hvn⟩
   ·exact hr.1
 | selfp id T=>
   refine ⟨hr.1,fun cs hl=>?_⟩
   obtain ⟨cs',h3⟩:=hin id _ hl
   exact hr.2 cs' h3
 | elem id ver i sz off=>exact hr.1
 | aelem=>exact hr.1
 | fptr t d=>
   obtain ⟨b,off,cs,h1,h2,h3,h4⟩:=hr
   exact ⟨b,off,cs,h1,(hz b h2).1,ka hz t h3,h4⟩
 | fn f=>exact hr
 | junk=>exact hr
theorem Ht {Z Z':Nat→Prop} {objs objs':List (Nat×Ob)} {g:At→At} (hg:∀x v,rdA w Z nm objs x v→rdA w Z' nm objs' (g x) v) {cs:List At} {vs:List Value} (h:rdAs w Z nm objs cs vs):rdAs w Z' nm objs' (cs.map g) vs:=by
 refine ⟨by rw [List.length_map];exact h.1,fun i x v q1 q2=>?_⟩
 rw [List.getElem?_map,Z4] at q1
 obtain ⟨y,h1,rfl⟩:=q1
 exact hg y v (h.2 i y v h1 q2)
theorem conv_self {muts:List Nat} {objs:List (Nat×Ob)} {id:Nat} {T:TypeId} {cs:List At} (h:At.selfp id T∈cs.map (YH muts objs)):At.selfp id T∈cs:=by
 obtain ⟨x,hx,e⟩:=List.mem_map.1 h
 have:x=At.selfp id T:=by
  cases x<;>simp only [YH] at e<;>first | exact e | (cases e;done) | (split at e<;>first | (cases e;done) | (rename_i v _ _ _ _ _;cases hb:Nat.beq v _<;>rw [hb] at e<;>simp only [ze,zf] at e<;>first | (cases e;done) | (split at e<;>cases e) | (cases hm:(_||_:Bool)<;>rw [hm] at e<;>simp only [ze,zf] at e<;>first | (cases e;done) | (rename_i t _ _;cases hq:Ty.isMap _<;>rw [hq] at e<;>cases e))))
 exact this▸hx
theorem Rel.norm (h:Rel n w0 Z0 st a w nm) (G:Env):Rel n w0 Z0 (Go.Ql.norm G st) a w nm:=by
 have hin:∀id ob,look (kZ G st.objs st.objs) id=some ob→match ob with
  | .box _=>∃cs,look st.objs id=some (.box cs)
  | .arr v fz e t xs=>fz=false∧memN id G.muts=true ∧ ∃v',look st.objs id=some (.arr v' false e t xs)∧v=Uk id v'
  | .gone=>∃o,look st.objs id=some o∧o.mine=false
  | .clo f _ _=>∃p q,look st.objs id=some (.clo f p q):=by
  intro id ob hl
  obtain ⟨ob0,h1,h2⟩:=kW G st.objs id st.objs hl
  cases ob0 with
  | box cs=>simp only [VJ,z6] at h2;subst h2;exact ⟨cs,h1⟩
  | clo f p q=>simp only [VJ,z6] at h2;subst h2;exact ⟨p,q,h1⟩
  | gone=>simp only [VJ,z6] at h2;subst h2;exact ⟨_,h1,rfl⟩
  | arr v fz e t xs=>
    simp only [VJ] at h2
    cases hm:(fz || !memN id G.muts) with
    | true=>
      rw [hm] at h2
      simp only [ze] at h2
      cases hf:(fz&&memN (20000000+id) G.muts) with
      | true=>
        rw [hf] at h2
        simp only [ze,z6] at h2
        subst h2
        rw [z7] at hf
        exact ⟨_,h1,by simp [Ob.mine,hf.1]⟩
      | false=>rw [hf] at h2;cases h2
    | false=>
      rw [hm] at h2
      simp only [zf,z6] at h2
      subst h2
      rw [Bool.or_eq_false_iff] at hm
      obtain ⟨rfl,hm2⟩:=hm
      exact ⟨rfl,by simpa using hm2,v,h1,rfl⟩
 have hz:Kept w w (Zc w0 Z0 nm st.objs w) (Zc w0 Z0 nm (kZ G st.objs st.objs) w):=fun b hb=>⟨HM (fun id ob h1 h2=>by
  have:=hin id ob h1
  cases ob with
  | box cs=>obtain ⟨cs',h3⟩:=this;exact ⟨_,h3,rfl⟩
  | clo f p q=>obtain ⟨_,_,h3⟩:=this;exact ⟨_,h3,rfl⟩
  | gone=>cases h2
  | arr v fz e t xs=>obtain ⟨_,_,v',h3,_⟩:=this;exact ⟨_,h3,rfl⟩) hb,rfl⟩
 have hconv:∀x v,rdA w (Zc w0 Z0 nm st.objs w) nm st.objs x v→rdA w (Zc w0 Z0 nm (kZ G st.objs st.objs) w) nm (kZ G st.objs st.objs) (YH G.muts st.objs x) v:=fun x v hr=>convAt_rd h hin hr
 refine ⟨h.defk hz,h.size,fun t d ht=>?_,fun id ob ho=>?_,fun id ob b ho hb=>?_,fun id id' ob ob' b ho ho' hb hb'=>?_,h.same,fun id ob hg ho hh=>?_,h.glob,h.calm⟩
 ·obtain ⟨d0,h1,rfl⟩:=look_normSlots G st.objs t st.slots ht
  obtain ⟨v,h2,h3⟩:=h.slots t d0 h1
  refine ⟨v,h2,?_⟩
  cases d0 with
  | one x=>exact hconv x v h3
  | agg cs=>obtain ⟨vs,e,h4,h5⟩:=h3;exact ⟨vs,e,Ht hconv h4,h5⟩
  | tup cs=>obtain ⟨vs,e,h4⟩:=h3;exact ⟨vs,e,Ht hconv h4⟩
 ·obtain ⟨ob0,h1,h2⟩:=kW G st.objs id st.objs ho
  have h3:=h.objs id ob0 h1
  cases ob0 with
  | box cs=>
    simp only [VJ,z6] at h2
    subst h2
    obtain ⟨b,vs,T,p1,p2,p3,p4⟩:=h3
    exact ⟨b,vs,T,p1,p2,Ht hconv p3,p4.1,fun T' hT=>p4.2 T' (conv_self hT)⟩
  | clo f p q=>
    simp only [VJ,z6] at h2
    subst h2
    obtain ⟨vx,vy,p1,p2,p3⟩:=h3
    exact ⟨vx,vy,p1,Ht hconv p2,Ht hconv p3⟩
  | gone=>
    simp only [VJ,z6] at h2
    subst h2
    trivial
  | arr v fz e t xs=>
    simp only [VJ] at h2
    cases hm:(fz || !memN id G.muts) with
    | true=>
      rw [hm] at h2
      simp only [ze] at h2
      cases hf:(fz&&memN (20000000+id) G.muts) with
      | true=>
        rw [hf] at h2
        simp only [ze,z6] at h2
        subst h2
        trivial
      | false=>rw [hf] at h2;cases h2
    | false=>
      rw [hm] at h2
      simp only [zf,z6] at h2
      subst h2
      exact VT (w':=w) hz.weak (fun _ _=>rfl) (show rdArr w _ (nm id) e t xs from h3)
 ·obtain ⟨ob0,h1,_⟩:=kW G st.objs id st.objs ho
  exact h.new id ob0 b h1 hb
 ·obtain ⟨ob0,h1,_⟩:=kW G st.objs id st.objs ho
  obtain ⟨ob1,h2,_⟩:=kW G st.objs id' st.objs ho'
  exact h.inj id id' ob0 ob1 b h1 h2 hb hb'
 ·have hq:=hin id ob ho
  cases ob with
  | box cs=>obtain ⟨cs',h4⟩:=hq;exact h.given id _ hg h4 trivial
  | clo f p q=>obtain ⟨_,_,h4⟩:=hq;exact h.given id _ hg h4 trivial
  | gone=>exact hh.elim
  | arr v fz e t xs=>
    obtain ⟨_,_,v',h4,h5⟩:=hq
    obtain ⟨h6,h7⟩:=hh
    refine h.given id _ hg h4 ⟨h6,?_⟩
    have:Nat.ble gFix id=true:=by rw [Nat.ble_eq];exact h6
    unfold Uk at h5
    rw [this] at h5
    simp only [ze] at h5
    omega
end
end Go.Ql
end

section
namespace Go.Ql
section
variable [GInv] {α β γ ρ τ:Type}
theorem jm {p:Option α} {f:α→Option ρ} {f':α→Option τ} {k:τ→Option ρ} (h:∀x,f x=bnd (f' x) k):bnd p f=bnd (bnd p f') k:=by
 cases p with
 | none=>rfl
 | some x=>exact h x
theorem jN {b:Bool} {x y:Option ρ} {x' y':Option τ} {k:τ→Option ρ} (h1:x=bnd x' k) (h2:y=bnd y' k):br b x y=bnd (br b x' y') k:=by
 cases b with
 | true=>exact h1
 | false=>exact h2
theorem Jw {r:α⊕β} {f:α→Option ρ} {g:β→Option ρ} {f':α→Option τ} {g':β→Option τ} {k:τ→Option ρ} (h1:∀x,f x=bnd (f' x) k) (h2:∀x,g x=bnd (g' x) k):sel r f g=bnd (sel r f' g') k:=by
 cases r with
 | inl x=>exact h1 x
 | inr x=>exact h2 x
theorem jd {k:τ→Option ρ} {t:τ}:k t=bnd (some t) k:=rfl
end
structure ExtE (ev ev':Operand→Option Dv) (ob ob':Objs) (dst:Nat):Prop where
 e:∀{x d},ev x=some d→ev' x=some d
 o:∀{i b},ob i=some b→ob' i=some b
 ds:∀j,ob (kY dst j)=ob' (kY dst j)
theorem ExtE.d {ev ev':Operand→Option Dv} {ob ob':Objs} {dst:Nat} (h:ExtE ev ev' ob ob' dst):ob dst=ob' dst:=h.ds 0
section
variable [GInv] {G:Env} {o:Oper} {dst:Nat} {ev:Operand→Option Dv} {ob:Objs} {ρ:Type} {k:Eff→Option ρ} {r:ρ}
def Fixed (G:Env) (o:Oper) (dst:Nat) (ev:Operand→Option Dv) (ob:Objs) (k:Eff→Option ρ) (r:ρ):Prop:=
 ∃e,k e=some r ∧ ∀{ev' ob'},ExtE ev ev' ob ob' dst → ∀(τ:Type) (k':Eff→Option τ),effK G o dst ev' ob' k'=k' e
theorem atV_ext {ob':Objs} (h:∀{i b},ob i=some b→ob' i=some b) {t:Ty} {a:At} {p} (he:atV ob t a=some p):atV ob' t a=some p:=by
 cases a<;>try exact he
 case own id ver=>
  simp only [atV] at he ⊢
  split at he
  ·rename_i hob;rw [h hob];exact he
  ·cases he
 case win id ver lo m=>
  simp only [atV] at he ⊢
  split at he
  ·rename_i hob;rw [h hob];exact he
  ·cases he
theorem joinV_ext {ob':Objs} (h:∀{i b},ob i=some b→ob' i=some b):∀{t:Ty} {cs:List At} {p},joinV ob t cs=some p→joinV ob' t cs=some p:=by
 intro t
 induction t with
 | st t ih=>intro cs p he;exact ih he
 | pair a b iha ihb=>
   intro cs p he
   simp only [joinV] at he ⊢
   split at he
   ·rename_i h1
    rw [iha h1]
    simp only
    split at he
    ·rename_i h2;rw [ihb h2];exact he
    ·cases he
   ·cases he
 | unit=>intro cs p he;exact he
 | ar m t ih=>intro cs p he;cases cs<;>cases he
 | node t ih=>
   intro cs p he
   simp only [joinV] at he ⊢
   split at he
   ·rename_i h1
    rw [ih h1]
    simp only
    split at he
    ·rename_i h2;rw [atV_ext h h2];exact he
    ·cases he
   ·cases he
 | _=>
   intro cs p he
   cases cs with
   | nil=>exact he
   | cons c r=>
     simp only [joinV] at he ⊢
     split at he
     ·rename_i h1;rw [atV_ext h h1];exact he
     ·cases he
theorem Yi {ob':Objs} (h:∀{i b},ob i=some b→ob' i=some b) {t:Ty} {d:Dv} {p} (he:dvV ob t d=some p):dvV ob' t d=some p:=by
 cases d with
 | one a=>exact atV_ext h he
 | agg cs=>
   cases t<;>try exact he
   simp only [dvV] at he ⊢
   split at he
   ·rename_i h1;rw [joinV_ext h h1];exact he
   ·cases he
 | tup l=>exact he
theorem args_ext {ob':Objs} (h:∀{i b},ob i=some b→ob' i=some b):∀{ts:List Ty} {ds:List Dv} {p},args ob ts ds=some p→args ob' ts ds=some p
 | [],[],p,he=>he
 | [],_::_,p,he=>he
 | _::_,[],p,he=>by
   rename_i ts
   cases ts<;>exact he
 | [t],[d],p,he=>by
   simp only [args] at he ⊢
   split at he
   ·rename_i h1;rw [Yi h h1];exact he
   ·cases he
 | [t],_::_::_,p,he=>he
 | t::t'::ts,d::ds,p,he=>by
   simp only [args] at he ⊢
   split at he
   ·rename_i h1
    rw [Yi h h1]
    simp only
    split at he
    ·rename_i h2;rw [args_ext h h2];exact he
    ·cases he
   ·cases he
theorem Vt {ev':Operand→Option Dv} (h:∀{x d},ev x=some d→ev' x=some d):∀{l:List Operand} {p},evAll ev l=some p→evAll ev' l=some p
 | [],p,he=>he
 | x::l,p,he=>by
   simp only [evAll] at he ⊢
   split at he
   ·rename_i h1 h2
    rw [h h1,Vt h h2];exact he
   ·cases he
theorem fillA_ext {ev':Operand→Option Dv} (h:∀{x d},ev x=some d→ev' x=some d) {tab fs}:∀{l:List (Nat×Operand)} {cs p},fillA tab fs ev l cs=some p→fillA tab fs ev' l cs=some p
 | [],cs,p,he=>he
 | (i,x)::l,cs,p,he=>by
   simp only [fillA] at he ⊢
   split at he
   ·rename_i off ft d h1 h2
    rw [h1,h h2]
    simp only
    split at he
    ·rename_i ds fi h3 h4
     cases hb:Nat.beq ds.length fi.ty.cells&&Nat.ble (off+ds.length) cs.length with
     | true=>rw [hb] at he;exact fillA_ext h he
     | false=>rw [hb] at he;cases he
    ·cases he
   ·cases he
theorem ownNil_ext {fr:Bool} {ob':Objs} {idf:Nat→Nat} (h:∀j,ob (idf j)=ob' (idf j)):∀{l:List (Nat×(TypeId×Ty))} {ds:List At},Vb fr ob' idf l ds=Vb fr ob idf l ds
 | [],ds=>rfl
 | (j,e,s)::r,ds=>by
   simp only [Vb,verK,h,ownNil_ext h]
theorem verK_up {ob':Objs} (h:∀{i b},ob i=some b→ob' i=some b) {i v:Nat} (he:verK false ob i=some v):verK false ob' i=some v:=by
 unfold verK at he ⊢
 cases q:ob i with
 | none=>rw [q] at he;cases he
 | some b=>rw [q] at he;rw [h q];exact he
theorem ownNil_up {ob':Objs} {idf:Nat→Nat} (h:∀{i b},ob i=some b→ob' i=some b):∀{l:List (Nat×(TypeId×Ty))} {ds:List At} {p},Vb false ob idf l ds=some p→Vb false ob' idf l ds=some p
 | [],ds,p,he=>he
 | (j,e,s)::r,ds,p,he=>by
   simp only [Vb] at he ⊢
   split at he
   ·split at he
    ·rename_i ver hv
     rw [verK_up h hv]
     simp only
     cases ha:(ds.all (fun x=>!x.mentions (idf j)) && !s.isMap) with
     | false=>rw [ha] at he;cases he
     | true=>
       rw [ha] at he
       simp only [ze] at he ⊢
       split at he
       ·rename_i h2
        rw [ownNil_up h h2]
        exact he
       ·cases he
    ·cases he
   ·exact ownNil_up h he
theorem fillS_ext {ev':Operand→Option Dv} {ob':Objs} (h:∀{x d},ev x=some d→ev' x=some d) (h':∀{i b},ob i=some b→ob' i=some b) {tab fs} {s:Ty}:∀{l:List (Nat×Operand)} {y p},fillS ob tab fs ev s l y=some p→fillS ob' tab fs ev' s l y=some p
 | [],y,p,he=>he
 | (i,x)::l,y,p,he=>by
   simp only [fillS] at he ⊢
   split at he
   ·rename_i off ft d h1 h2
    rw [h1,h h2]
    simp only
    split at he
    ·rename_i fi h3
     split at he
     ·rename_i z u h4
      rw [Yi h' h4]
      simp only
      split at he
      ·rename_i y' h5
       split at he
       ·rename_i h6
        rw [fillS_ext h h' h6];exact he
       ·cases he
      ·cases he
     ·cases he
    ·cases he
   ·cases he
theorem fillE_ext {ev':Operand→Option Dv} {ob':Objs} (h:∀{x d},ev x=some d→ev' x=some d) (h':∀{i b},ob i=some b→ob' i=some b) {s:Ty} {m:Nat}:∀{l:List (Nat×Operand)} {y p},fillE ob ev s m l y=some p→fillE ob' ev' s m l y=some p
 | [],y,p,he=>he
 | (i,x)::l,y,p,he=>by
   simp only [fillE] at he ⊢
   split at he
   ·rename_i d h2
    rw [h h2]
    simp only
    split at he
    ·rename_i z u h4
     rw [Yi h' h4]
     simp only
     cases hb:Nat.blt i m with
     | false=>rw [hb] at he;cases he
     | true=>
       rw [hb] at he
       simp only [ze] at he ⊢
       split at he
       ·rename_i h6
        rw [fillE_ext h h' h6];exact he
       ·cases he
    ·cases he
   ·cases he
theorem elemsA_ext {ev':Operand→Option Dv} {ob':Objs} (h:∀{x d},ev x=some d→ev' x=some d) (h':∀{i b},ob i=some b→ob' i=some b) {s:Ty}:∀{l:List (Nat×Operand)} {i p},UT ob ev s i l=some p→UT ob' ev' s i l=some p
 | [],i,p,he=>he
 | (j,x)::l,i,p,he=>by
   simp only [UT] at he ⊢
   cases hb:Nat.beq i j with
   | false=>rw [hb] at he;cases he
   | true=>
     rw [hb] at he
     simp only [ze] at he ⊢
     split at he
     ·rename_i h1
      rw [h h1]
      simp only
      split at he
      ·rename_i h2
       rw [Yi h' h2]
       simp only
       split at he
       ·rename_i h3;rw [elemsA_ext h h' h3];exact he
       ·cases he
      ·cases he
     ·cases he
theorem ext_move {x:Operand} (ho:o.op=.move x) (he:effK G o dst ev ob k=some r):Fixed G o dst ev ob k r:=by
 unfold effK at he
 rw [ho] at he
 simp only at he
 split at he
 ·rename_i id ver hd
  cases hm:memN (coldId dst) G.muts with
  | false=>
    rw [hm] at he
    simp only [zf] at he
    exact ⟨_,he,fun h=>by intro τ k';unfold effK;rw [ho];simp only [h.e hd,hm,zf]⟩
  | true=>
    rw [hm] at he
    simp only [ze] at he
    split at he
    ·rename_i v fz e s xs hob
     cases hv:(Nat.beq v ver && !s.isMap) with
     | false=>rw [hv] at he;cases he
     | true=>
       rw [hv] at he
       simp only [ze] at he
       exact ⟨_,he,fun h=>by intro τ k';unfold effK;rw [ho];simp only [h.e hd,hm,ze,h.o hob,hv]⟩
    ·cases he
 ·rename_i d hn hd
  refine ⟨_,he,fun h=>?_⟩
  intro τ k';unfold effK;rw [ho]
  simp only [h.e hd]
 ·cases he
theorem ext_assign {x:Operand} (ho:o.op=.assign x) (he:effK G o dst ev ob k=some r):Fixed G o dst ev ob k r:=by
 unfold effK at he
 rw [ho] at he
 simp only at he
 cases hx:ev x with
 | none=>rw [hx] at he;cases he
 | some d=>
   rw [hx] at he
   split at he
   ·rename_i h0
    cases h0
    cases hm:keepNil G x dst with
    | true=>
      rw [hm] at he
      exact ⟨_,he,fun h=>by intro τ k';unfold effK;rw [ho];simp only [h.e hx,hm,ze]⟩
    | false=>
    rw [hm] at he
    simp only [zf] at he
    split at he
    ·rename_i ht
     split at he
     ·rename_i ver hv
      exact ⟨_,he,fun h=>by intro τ k';unfold effK;rw [ho];simp only [h.e hx,hm,zf,ht,verOf,←h.d];unfold verOf at hv;rw [hv]⟩
     ·cases he
    ·cases he
   ·rename_i d' hn h0
    cases h0
    refine ⟨_,he,fun h=>?_⟩
    intro τ k';unfold effK;rw [ho];simp only [h.e hx]
   ·cases he
theorem ext_pick {c x y:Operand} (ho:o.op=.pick c x y) (he:effK G o dst ev ob k=some r):Fixed G o dst ev ob k r:=by
 unfold effK at he
 rw [ho] at he
 simp only at he
 split at he
 ·rename_i b hb
  cases b with
  | true=>
    simp only [br] at he
    split at he
    ·rename_i d hd
     exact ⟨_,he,fun h=>by intro τ k';unfold effK;rw [ho];simp only [h.e hb,br,h.e hd]⟩
    ·cases he
  | false=>
    simp only [br] at he
    split at he
    ·rename_i d hd
     exact ⟨_,he,fun h=>by intro τ k';unfold effK;rw [ho];simp only [h.e hb,br,h.e hd]⟩
    ·cases he
 ·cases he
theorem ext_alloc {t:TypeId} (ho:o.op=.alloc t) (he:effK G o dst ev ob k=some r):Fixed G o dst ev ob k r:=by
 unfold effK at he
 rw [ho] at he
 simp only at he
 split at he
 ·rename_i ti ht
  cases hf:ti.ty.flat with
  | true=>
    rw [hf] at he
    simp only [ze] at he
    split at he
    ·rename_i hd
     split at he
     ·rename_i cs u hown
      cases hb:(u.all (fun q=>!Nat.beq q.1 dst)&&cs.all (fun x=>!x.mentions dst)) with
      | false=>rw [hb] at he;cases he
      | true=>
        rw [hb] at he
        refine ⟨_,he,fun h=>?_⟩
        have hx:=ownNil_ext (fr:=true) (ob:=ob) (idf:=fun j=>kY dst (j+1)) (fun j=>h.ds (j+1)) (l:=bif memN dst G.muts then HQ G.tab ti else []) (ds:=Ut (memN dst G.muts) ti.ty)
        intro τ k';unfold effK;rw [ho];simp only [ht,hf,ze,←h.d,hd,hx,hown,hb]
     ·cases he
    ·cases he
  | false=>
    rw [hf] at he
    simp only [zf] at he
    split at he
    ·rename_i ver hv
     split at he
     ·rename_i m s m' e'
      cases hb:Nat.blt 0 m&&Nat.ble m 1048576 with
      | false=>rw [hb] at he;cases he
      | true=>
        rw [hb] at he
        exact ⟨_,he,fun h=>by intro τ k';unfold effK;rw [ho];simp only [ht,hf,zf,verOf,←h.d];unfold verOf at hv;rw [hv];simp only [hb,ze]⟩
     ·exact ⟨_,he,fun h=>by intro τ k';unfold effK;rw [ho];simp only [ht,hf,zf,verOf,←h.d];unfold verOf at hv;rw [hv]⟩
     ·cases he
    ·cases he
 ·cases he
theorem lenOf_ext {ob':Objs} (h:∀{i b},ob i=some b→ob' i=some b) {d:Dv} {p} (he:lenOf ob d=some p):lenOf ob' d=some p:=by
 cases d with
 | one a=>
   cases a<;>try exact he
   case val t d=>cases t<;>exact he
   case own id ver=>
    simp only [lenOf] at he ⊢
    split at he
    ·rename_i hob;rw [h hob];exact he
    ·cases he
   case win id ver lo m=>
    simp only [lenOf] at he ⊢
    split at he
    ·rename_i hob;rw [h hob];exact he
    ·cases he
 | agg cs=>exact he
 | tup cs=>exact he
theorem ext_box {t:TypeId} {x:Operand} (ho:o.op=.box t x) (he:effK G o dst ev ob k=some r):Fixed G o dst ev ob k r:=by
 unfold effK at he
 rw [ho] at he
 simp only at he
 split at he
 ·rename_i ti d ht hx
  cases hl5:memN (8500000+dst) G.muts with
  | true=>
    rw [hl5] at he
    simp only [ze] at he
    split at he
    ·rename_i m hm
     exact ⟨_,he,fun h=>by intro τ k';unfold effK;rw [ho];simp only [ht,h.e hx,hl5,ze,lenOf_ext h.o hm]⟩
    ·cases he
  | false=>
  rw [hl5] at he
  simp only [zf] at he
  cases hl6:memN (8600000+dst) G.muts with
  | true=>
    rw [hl6] at he
    simp only [ze] at he
    split at he
    ·rename_i y hy
     exact ⟨_,he,fun h=>by intro τ k';unfold effK;rw [ho];simp only [ht,h.e hx,hl5,hl6,ze,zf,Yi h.o hy]⟩
    ·cases he
  | false=>
  rw [hl6] at he
  simp only [zf] at he
  cases hf:ti.ty.flat with
  | true=>
    rw [hf] at he
    simp only [ze] at he
    split at he
    ·rename_i cs hc
     split at he
     ·rename_i hd
      cases hmu:memN dst G.muts with
      | true=>
        rw [hmu] at he
        simp only [ze] at he
        split at he
        ·rename_i cs' u hown
         cases hb:(Nat.beq cs.length ti.ty.cells&&u.all (fun q=>!Nat.beq q.1 dst)&&cs'.all (fun x=>!x.mentions dst)) with
         | false=>rw [hb] at he;cases he
         | true=>
           rw [hb] at he
           refine ⟨_,he,fun h=>?_⟩
           have hx0:=ownNil_ext (fr:=true) (ob:=ob) (idf:=fun j=>kY dst (j+1)) (fun j=>h.ds (j+1)) (l:=HQ G.tab ti) (ds:=cs)
           intro τ k';unfold effK;rw [ho];simp only [ht,h.e hx,hl5,hl6,zf,hf,hc,ze,←h.d,hd,hmu,hx0,hown,hb]
        ·cases he
      | false=>
      rw [hmu] at he
      simp only [zf] at he
      cases hb:Nat.beq cs.length ti.ty.cells with
      | true=>
        rw [hb] at he
        exact ⟨_,he,fun h=>by intro τ k';unfold effK;rw [ho];simp only [ht,h.e hx,hl5,hl6,zf,hf,hc,←h.d,hd,hmu,hb,ze,zf]⟩
      | false=>rw [hb] at he;cases he
     ·cases he
    ·cases he
  | false=>
    rw [hf] at he
    simp only [zf] at he
    cases hz:memN (8000000+dst) G.muts with
    | true=>
      rw [hz] at he
      simp only [ze] at he
      split at he
      ·rename_i y hy
       exact ⟨_,he,fun h=>by intro τ k';unfold effK;rw [ho];simp only [ht,h.e hx,hl5,hl6,zf,hf,zf,hz,ze,Yi h.o hy]⟩
      ·cases he
    | false=>
    rw [hz] at he
    simp only [zf] at he
    split at he
    ·rename_i ver y u hv hy
     cases ha:u.all (fun q=>!Nat.beq q.1 dst) with
     | false=>rw [ha] at he;cases he
     | true=>
       rw [ha] at he
       simp only [ze] at he
       split at he
       ·rename_i m s m' e' y' _
        cases hb:Nat.blt 0 m&&Nat.ble m 1048576 with
        | false=>rw [hb] at he;cases he
        | true=>
          rw [hb] at he
          exact ⟨_,he,fun h=>by intro τ k';unfold effK;rw [ho];simp only [ht,h.e hx,hl5,hl6,zf,hf,zf,hz,verOf,←h.d,Yi h.o hy];unfold verOf at hv;rw [hv];simp only [ha,hb,ze]⟩
       ·exact ⟨_,he,fun h=>by intro τ k';unfold effK;rw [ho];simp only [ht,h.e hx,hl5,hl6,zf,hf,zf,hz,verOf,←h.d,Yi h.o hy];unfold verOf at hv;rw [hv];simp only [ha,ze]⟩
       ·cases he
    ·cases he
 ·cases he
theorem ext_field {t:TypeId} {x:Operand} {f:Nat} (ho:o.op=.field t x f) (he:effK G o dst ev ob k=some r):Fixed G o dst ev ob k r:=by
 unfold effK at he
 rw [ho] at he
 simp only at he
 split at he
 ·rename_i ty fs s y ht hx
  split at he
  ·rename_i off ft hf
   split at he
   ·rename_i fi hfi
    split at he
    ·rename_i z hz
     exact ⟨_,he,fun h=>by intro τ k';unfold effK;rw [ho];simp only [ht,h.e hx,hf,hfi,hz]⟩
    ·cases he
   ·cases he
  ·cases he
 ·cases he
theorem ext_makeInterface {t:TypeId} {x:Operand} (ho:o.op=.makeInterface t x) (he:effK G o dst ev ob k=some r):Fixed G o dst ev ob k r:=by
 unfold effK at he
 rw [ho] at he
 simp only at he
 split at he
 ·rename_i s fs d htab hx
  split at he
  ·rename_i y u hy
   exact ⟨_,he,fun h=>by intro τ k';unfold effK;rw [ho];simp only [htab,h.e hx,Yi h.o hy]⟩
  ·cases he
 ·cases he
theorem ext_fieldAddr {t:TypeId} {x:Operand} {f:Nat} (ho:o.op=.fieldAddr t x f) (he:effK G o dst ev ob k=some r):Fixed G o dst ev ob k r:=by
 unfold effK at he
 rw [ho] at he
 simp only at he
 split at he
 ·rename_i ty fs p ht hx
  split at he
  ·rename_i off ft hf
   split at he
   ·rename_i fi hfi
    cases hz:Nat.beq fi.ty.cells 0 with
    | true=>rw [hz] at he;cases he
    | false=>
      rw [hz] at he
      simp only [zf] at he
      split at he
      ·rename_i id o'
       split at he
       ·rename_i cs hob
        exact ⟨_,he,fun h=>by intro τ k';unfold effK;rw [ho];simp only [ht,h.e hx,hf,hfi,hz,zf,h.o hob]⟩
       ·cases he
      ·rename_i id ver i sz o'
       split at he
       ·rename_i v fz e t' xs hob
        cases hb:Nat.beq v ver with
        | true=>
          rw [hb] at he
          exact ⟨_,he,fun h=>by intro τ k';unfold effK;rw [ho];simp only [ht,h.e hx,hf,hfi,hz,zf,h.o hob,hb,ze]⟩
        | false=>rw [hb] at he;cases he
       ·cases he
      ·rename_i id ver
       split at he
       ·rename_i v fz e s xs hob
        cases hb:Nat.beq v ver with
        | true=>
          rw [hb] at he
          simp only [ze] at he
          obtain ⟨y,hy,he⟩:=jQ he
          exact ⟨_,he,fun h=>by intro τ k';unfold effK;rw [ho];simp only [ht,h.e hx,hf,hfi,hz,zf,h.o hob,hb,ze,hy,bnd]⟩
        | false=>rw [hb] at he;cases he
       ·cases he
      ·rename_i id ver i sz q m e j o'
       split at he
       ·rename_i v fz e' t' xs hob
        cases hb:Nat.beq v ver with
        | true=>
          rw [hb] at he
          exact ⟨_,he,fun h=>by intro τ k';unfold effK;rw [ho];simp only [ht,h.e hx,hf,hfi,hz,zf,h.o hob,hb,ze]⟩
        | false=>rw [hb] at he;cases he
       ·cases he
      ·rename_i s d
       split at he
       ·rename_i y hy
        exact ⟨_,he,fun h=>by intro τ k';unfold effK;rw [ho];simp only [ht,h.e hx,hf,hfi,hz,zf,hy]⟩
       ·cases he
      ·cases he
   ·cases he
  ·cases he
 ·cases he
theorem ext_load {t:TypeId} {x:Operand} (ho:o.op=.load t x) (he:effK G o dst ev ob k=some r):Fixed G o dst ev ob k r:=by
 unfold effK at he
 rw [ho] at he
 simp only at he
 split at he
 ·rename_i ti p ht hx
  split at he
  ·rename_i id off
   split at he
   ·rename_i cs hob
    cases hst:ti.ty.isSt with
    | true=>
      rw [hst] at he
      simp only [ze] at he
      cases hb:Nat.ble (off+ti.ty.cells) cs.length with
      | true=>
        rw [hb] at he
        exact ⟨_,he,fun h=>by intro τ k';unfold effK;rw [ho];simp only [ht,h.e hx,h.o hob,hst,hb,ze]⟩
      | false=>rw [hb] at he;cases he
    | false=>
      rw [hst] at he
      simp only [zf] at he
      split at he
      ·rename_i a ha
       exact ⟨_,he,fun h=>by intro τ k';unfold effK;rw [ho];simp only [ht,h.e hx,h.o hob,hst,ha,zf]⟩
      ·cases he
   ·cases he
  ·rename_i id ver i sz off
   split at he
   ·rename_i v fz e s xs hob
    cases hb:Nat.beq v ver with
    | true=>
      rw [hb] at he
      simp only [ze] at he
      obtain ⟨y,hy,he⟩:=jQ he
      split at he
      ·rename_i z hz
       exact ⟨_,he,fun h=>by intro τ k';unfold effK;rw [ho];simp only [ht,h.e hx,h.o hob,hb,ze,hy,bnd,hz]⟩
      ·cases he
    | false=>rw [hb] at he;cases he
   ·cases he
  ·rename_i id ver i sz q m e j off
   split at he
   ·rename_i v fz e' s xs hob
    cases hb:Nat.beq v ver with
    | true=>
      rw [hb] at he
      simp only [ze] at he
      obtain ⟨y,hy,he⟩:=jQ he
      split at he
      ·rename_i zs hzs
       obtain ⟨y',hy',he⟩:=jQ he
       split at he
       ·rename_i z hz
        exact ⟨_,he,fun h=>by intro τ k';unfold effK;rw [ho];simp only [ht,h.e hx,h.o hob,hb,ze,hy,bnd,hzs,hy',hz]⟩
       ·cases he
      ·cases he
    | false=>rw [hb] at he;cases he
   ·cases he
  ·rename_i id ver
   split at he
   ·rename_i v fz e' s xs hob
    cases hb:Nat.beq v ver with
    | true=>
      rw [hb] at he
      simp only [ze] at he
      split at he
      ·rename_i m s' m' e2 _
       split at he
       ·rename_i hs
        obtain ⟨y,hy,he⟩:=jQ he
        exact ⟨_,he,fun h=>by intro τ k';unfold effK;rw [ho];simp only [ht,h.e hx,h.o hob,hb,ze,dif_pos hs,hy,bnd]⟩
       ·cases he
      ·rename_i ty kd hna _
       obtain ⟨y,hy,he⟩:=jQ he
       split at he
       ·rename_i z hz
        refine ⟨_,he,fun h=>?_⟩
        intro τ k';unfold effK;rw [ho];simp only [ht,h.e hx,h.o hob,hb,ze,hy,bnd,hz]
       ·cases he
    | false=>rw [hb] at he;cases he
   ·cases he
  ·rename_i s d
   split at he
   ·rename_i z hz
    exact ⟨_,he,fun h=>by intro τ k';unfold effK;rw [ho];simp only [ht,h.e hx,hz]⟩
   ·cases he
  ·cases he
 ·cases he
theorem ext_store {t:TypeId} {x y:Operand} (ho:o.op=.store t x y) (he:effK G o dst ev ob k=some r):Fixed G o dst ev ob k r:=by
 unfold effK at he
 rw [ho] at he
 simp only at he
 split at he
 ·rename_i ti p d ht hx hy
  split at he
  ·rename_i id off
   split at he
   ·rename_i cs ds0 hob hds
    split at he
    ·rename_i ds u hown
     cases hb:(Nat.beq ds.length ti.ty.cells&&Nat.ble (off+ds.length) cs.length&&u.all (fun q=>!Nat.beq q.1 id)&&ds.all (fun x=>!x.isSelf)) with
     | true=>
       rw [hb] at he
       refine ⟨_,he,fun h=>?_⟩
       have hup:=ownNil_up h.o hown
       intro τ k';unfold effK;rw [ho];simp only [ht,h.e hx,h.e hy,h.o hob,hds,hup,hb,ze]
     | false=>rw [hb] at he;cases he
    ·cases he
   ·cases he
  ·rename_i id ver i sz off
   split at he
   ·rename_i z u hz
    split at he
    ·rename_i v e s xs hob
     cases hb:Nat.beq v ver&&(u.all fun q=>!Nat.beq q.1 id) with
     | true=>
       rw [hb] at he
       simp only [ze] at he
       obtain ⟨y0,hy0,he⟩:=jQ he
       split at he
       ·rename_i y' hy'
        exact ⟨_,he,fun h=>by intro τ k';unfold effK;rw [ho];simp only [ht,h.e hx,h.e hy,Yi h.o hz,h.o hob,hb,ze,hy0,bnd,hy']⟩
       ·cases he
     | false=>rw [hb] at he;cases he
    ·cases he
   ·cases he
  ·rename_i id ver i sz q m e' j off
   split at he
   ·rename_i z u hz
    split at he
    ·rename_i v e s xs hob
     cases hb:Nat.beq v ver&&(u.all fun q=>!Nat.beq q.1 id) with
     | true=>
       rw [hb] at he
       simp only [ze] at he
       obtain ⟨y0,hy0,he⟩:=jQ he
       split at he
       ·rename_i zs hzs
        obtain ⟨y1,hy1,he⟩:=jQ he
        split at he
        ·rename_i y2 hy2
         split at he
         ·rename_i y' hy'
          exact ⟨_,he,fun h=>by intro τ k';unfold effK;rw [ho];simp only [ht,h.e hx,h.e hy,Yi h.o hz,h.o hob,hb,ze,hy0,bnd,hzs,hy1,hy2,hy']⟩
         ·cases he
        ·cases he
       ·cases he
     | false=>rw [hb] at he;cases he
    ·cases he
   ·cases he
  ·rename_i id ver
   split at he
   ·rename_i z u hz
    split at he
    ·rename_i v e s xs hob
     cases hb:Nat.beq v ver&&(u.all fun q=>!Nat.beq q.1 id) with
     | true=>
       rw [hb] at he
       simp only [ze] at he
       split at he
       ·rename_i m s' m' e2 zs _
        split at he
        ·rename_i hs
         obtain ⟨y0,hy0,he⟩:=jQ he
         exact ⟨_,he,fun h=>by intro τ k';unfold effK;rw [ho];simp only [ht,h.e hx,h.e hy,Yi h.o hz,h.o hob,hb,ze,dif_pos hs,hy0,bnd]⟩
        ·cases he
       ·rename_i ty kd z' hna
        obtain ⟨y0,hy0,he⟩:=jQ he
        split at he
        ·rename_i y' hy'
         refine ⟨_,he,fun h=>?_⟩
         intro τ k';unfold effK;rw [ho];simp only [ht,h.e hx,h.e hy,Yi h.o hz,h.o hob,hb,ze,hy0,bnd,hy']
        ·cases he
     | false=>rw [hb] at he;cases he
    ·cases he
   ·cases he
  ·cases he
 ·cases he
theorem binI_nat {ρ:Type} {op:BinOp} {j:IntKind} {x y:Int} {kk:Dv→Option ρ}:binI op j x y kk=bnd (binI op j x y some) kk:=by
 cases op<;>simp only [binI]<;>first | rfl | exact jm fun _=>rfl
theorem binS_nat {ρ:Type} {op:BinOp} {x y:Z6} {kk:Dv→Option ρ}:binS op x y kk=bnd (binS op x y some) kk:=by
 cases op<;>simp only [binS]<;>first | rfl | exact jm fun _=>rfl
theorem shI_nat {ρ:Type} {op:BinOp} {j:IntKind} {x y:Int} {kk:Dv→Option ρ}:shI op j x y kk=bnd (shI op j x y some) kk:=by
 cases op<;>simp only [shI]<;>first | rfl | exact jm fun _=>rfl
theorem Uv {ρ:Type} {ob':Objs} (h:∀{i b},ob i=some b→ob' i=some b) {d:Dv} {kk:(t:Ty)→List t.den→Option ρ} {r:ρ} (he:Yq ob kk d=some r) :
 ∃t xs,kk t xs=some r ∧ ∀(τ:Type) (kk':(t:Ty)→List t.den→Option τ),Yq ob' kk' d=kk' t xs:=by
 unfold Yq at he
 split at he
 ·exact ⟨_,_,he,fun _ _=>rfl⟩
 ·split at he
  ·rename_i id ver _ v fz e t xs hob
   cases hb:(Nat.beq v ver && !t.isMap) with
   | true=>rw [hb] at he;exact ⟨_,_,he,fun _ _=>by simp only [Yq,h hob,hb,ze]⟩
   | false=>rw [hb] at he;cases he
  ·cases he
 ·split at he
  ·rename_i id ver lo m _ v fz e t xs hob
   cases hb:(Nat.beq v ver && !t.isMap) with
   | true=>rw [hb] at he;exact ⟨_,_,he,fun _ _=>by simp only [Yq,h hob,hb,ze]⟩
   | false=>rw [hb] at he;cases he
  ·cases he
 ·cases he
theorem kX {ev':Operand→Option Dv} (h:∀{x d},ev x=some d→ev' x=some d) {x:Option Operand} {d i:Int} (he:∀(τ:Type) (kk':Int→Option τ),optK ev x d kk'=kk' i) {τ:Type} {kk:Int→Option τ}:optK ev' x d kk=kk i:=by
 cases x with
 | none=>have:=he Int some;cases this;rfl
 | some y=>
   have h0:=he Int some
   unfold optK at h0
   simp only at h0
   split at h0
   ·rename_i hy;cases h0;simp only [optK,h hy]
   ·cases h0
theorem UR {ob':Objs} (h:∀{i b},ob i=some b→ob' i=some b) {d:Dv} {t:Ty} {xs:List t.den} (he:∀(τ:Type) (kk':(t:Ty)→List t.den→Option τ),Yq ob kk' d=kk' t xs) {τ:Type} {kk:(t:Ty)→List t.den→Option τ}:Yq ob' kk d=kk t xs:=by
 have h0:=he ((t:Ty)×List t.den) fun t xs=>some ⟨t,xs⟩
 unfold Yq at h0
 split at h0
 ·cases h0;rfl
 ·split at h0
  ·rename_i id ver _ v fz e t xs hob
   cases hb:(Nat.beq v ver && !t.isMap) with
   | true=>rw [hb] at h0;cases h0;simp only [Yq,h hob,hb,ze]
   | false=>rw [hb] at h0;cases h0
  ·cases h0
 ·split at h0
  ·rename_i id ver lo m _ v fz e t xs hob
   cases hb:(Nat.beq v ver && !t.isMap) with
   | true=>rw [hb] at h0;cases h0;simp only [Yq,h hob,hb,ze]
   | false=>rw [hb] at h0;cases h0
  ·cases h0
 ·cases h0
theorem kO {ρ:Type} {ev':Operand→Option Dv} (h:∀{x d},ev x=some d→ev' x=some d) {x:Option Operand} {d:Int} {kk:Int→Option ρ} {r:ρ} (he:optK ev x d kk=some r) :
 ∃i,kk i=some r ∧ ∀(τ:Type) (kk':Int→Option τ),optK ev' x d kk'=kk' i:=by
 unfold optK at he
 split at he
 ·exact ⟨_,he,fun _ _=>rfl⟩
 ·split at he
  ·rename_i hx;exact ⟨_,he,fun _ _=>by simp only [optK,h hx]⟩
  ·cases he
theorem ext_binOp {op:BinOp} {xt yt:TypeId} {x y:Operand} (ho:o.op=.binOp op xt x y yt) (he:effK G o dst ev ob k=some r):Fixed G o dst ev ob k r:=by
 unfold effK at he
 rw [ho] at he
 simp only at he
 split at he
 ·rename_i a b hx hy
  split at he
  ·rename_i j m l q
   cases op<;>simp only at he<;>first
    | (rw [shI_nat] at he
       obtain ⟨d,hd,he⟩:=jQ he
       exact ⟨_,he,fun h=>by intro τ k';unfold effK;rw [ho];simp only [h.e hx,h.e hy];rw [shI_nat,hd];rfl⟩)
    | (cases hb:decide (j=l) with
       | false=>rw [hb] at he;cases he
       | true=>
         rw [hb] at he
         simp only [ze] at he
         rw [binI_nat] at he
         obtain ⟨d,hd,he⟩:=jQ he
         exact ⟨_,he,fun h=>by intro τ k';unfold effK;rw [ho];simp only [h.e hx,h.e hy,hb,ze];rw [binI_nat,hd];rfl⟩)
  ·rw [binS_nat] at he
   obtain ⟨d,hd,he⟩:=jQ he
   exact ⟨_,he,fun h=>by intro τ k';unfold effK;rw [ho];simp only [h.e hx,h.e hy];rw [binS_nat,hd];rfl⟩
  ·split at he
   ·rename_i ht
    split at he
    ·exact ⟨_,he,fun h=>by intro τ k';unfold effK;rw [ho];simp only [h.e hx,h.e hy,ht]⟩
    ·exact ⟨_,he,fun h=>by intro τ k';unfold effK;rw [ho];simp only [h.e hx,h.e hy,ht]⟩
    ·cases he
   ·cases he
  ·unfold nilK at he
   split at he
   ·rename_i ht
    split at he
    ·exact ⟨_,he,fun h=>by intro τ k';unfold effK;rw [ho];simp only [h.e hx,h.e hy,nilK,ht]⟩
    ·exact ⟨_,he,fun h=>by intro τ k';unfold effK;rw [ho];simp only [h.e hx,h.e hy,nilK,ht]⟩
    ·cases he
   ·cases he
  ·unfold nilK at he
   split at he
   ·rename_i ht
    split at he
    ·exact ⟨_,he,fun h=>by intro τ k';unfold effK;rw [ho];simp only [h.e hx,h.e hy,nilK,ht]⟩
    ·exact ⟨_,he,fun h=>by intro τ k';unfold effK;rw [ho];simp only [h.e hx,h.e hy,nilK,ht]⟩
    ·cases he
   ·cases he
  ·split at he
   ·rename_i ht
    split at he
    ·exact ⟨_,he,fun h=>by intro τ k';unfold effK;rw [ho];simp only [h.e hx,h.e hy,ht]⟩
    ·exact ⟨_,he,fun h=>by intro τ k';unfold effK;rw [ho];simp only [h.e hx,h.e hy,ht]⟩
    ·cases he
   ·cases he
  ·rename_i n1 n2 n3 n4 n5
   cases hm:memN xt G.eqs.l with
   | false=>rw [hm] at he;cases he
   | true=>
     rw [hm] at he
     simp only [ze] at he
     split at he
     ·rename_i s kk ht
      split at he
      ·rename_i x1 y1 q1 q2
       cases op<;>simp only at he<;>first
        | cases he
        | (refine ⟨_,he,fun h=>?_⟩
           intro τ k'
           unfold effK
           rw [ho]
           simp only [h.e hx,h.e hy,hm,ze,ht,Yi h.o q1,Yi h.o q2])
      ·cases he
     ·cases he
 ·cases he
theorem ext_unOp {op:UnOp} {xt:TypeId} {x:Operand} (ho:o.op=.unOp op xt x) (he:effK G o dst ev ob k=some r):Fixed G o dst ev ob k r:=by
 unfold effK at he
 rw [ho] at he
 simp only at he
 split at he
 ·rename_i b hx
  split at he
  ·exact ⟨_,he,fun h=>by intro τ k';unfold effK;rw [ho];simp only [h.e hx]⟩
  ·cases he
 ·rename_i j n hx
  split at he
  ·exact ⟨_,he,fun h=>by intro τ k';unfold effK;rw [ho];simp only [h.e hx]⟩
  ·exact ⟨_,he,fun h=>by intro τ k';unfold effK;rw [ho];simp only [h.e hx]⟩
  ·cases he
 ·cases he
theorem ext_convert {xt yt:TypeId} {x:Operand} (ho:o.op=.convert xt yt x) (he:effK G o dst ev ob k=some r):Fixed G o dst ev ob k r:=by
 unfold effK at he
 rw [ho] at he
 simp only at he
 split at he
 ·rename_i h1 h2 hx
  exact ⟨_,he,fun h=>by intro τ k';unfold effK;rw [ho];simp only [h1,h2,h.e hx]⟩
 ·rename_i h1 h2 hx
  exact ⟨_,he,fun h=>by intro τ k';unfold effK;rw [ho];simp only [h1,h2,h.e hx]⟩
 ·rename_i e by_ t2 d h1 h2 hx
  split at he
  ·rename_i h3
   split at he
   ·exact ⟨_,he,fun h=>by intro τ k';unfold effK;rw [ho];simp only [h1,h2,h.e hx,h3]⟩
   ·rename_i hn
    obtain ⟨t,xs,h4,h5⟩:=Uv (ob':=ob) (fun h=>h) he
    split at h4
    ·refine ⟨_,h4,fun h=>?_⟩
     have q:∀{τ:Type} {kk:(t:Ty)→List t.den→Option τ},_=kk _ _:=@fun τ kk=>UR h.o h5 (τ:=τ) (kk:=kk)
     intro τ k';unfold effK;rw [ho];simp only [h1,h2,h.e hx,h3]
     rw [q]
    ·cases h4
  ·cases he
 ·rename_i e b1 k2 id ver h1 h2 hx
  split at he
  ·rename_i k3 v e' s xs h4 hob
   cases hb:(Nat.beq xt yt&&Nat.beq v ver && !s.isMap) with
   | false=>rw [hb] at he;cases he
   | true=>
     rw [hb] at he
     simp only [ze] at he
     obtain ⟨_,hy0,he⟩:=jQ he
     exact ⟨_,he,fun h=>by intro τ k';unfold effK;rw [ho];simp only [h1,h2,h.e hx,h4,h.o hob,hb,ze,hy0,bnd]⟩
  ·cases he
 ·rename_i h1 h2 hx
  split at he
  ·rename_i h3
   obtain ⟨_,hy0,he⟩:=jQ he
   cases hm:memN dst G.muts with
   | true=>
     rw [hm] at he
     simp only [ze] at he
     split at he
     ·rename_i ver hv
      exact ⟨_,he,fun h=>by intro τ k';unfold effK;rw [ho];simp only [h1,h2,h.e hx,h3,hy0,bnd,hm,ze,verOf,←h.d];unfold verOf at hv;rw [hv]⟩
     ·cases he
   | false=>
     rw [hm] at he
     simp only [zf] at he
     exact ⟨_,he,fun h=>by intro τ k';unfold effK;rw [ho];simp only [h1,h2,h.e hx,h3,hy0,bnd,hm,zf]⟩
  ·cases he
 ·cases he
theorem ext_makeMap {t:TypeId} {c:Option Operand} (ho:o.op=.makeMap t c) (he:effK G o dst ev ob k=some r):Fixed G o dst ev ob k r:=by
 unfold effK at he
 rw [ho] at he
 cases c with
 | some c=>cases he
 | none=>
   simp only at he
   split at he
   ·rename_i ht
    split at he
    ·rename_i ver hv
     exact ⟨_,he,fun h=>by intro τ k';unfold effK;rw [ho];simp only [ht,verOf,←h.d];unfold verOf at hv;rw [hv]⟩
    ·cases he
   ·cases he
theorem ext_lookup {t:TypeId} {x ix:Operand} {ok:Bool} (ho:o.op=.lookup t x ix ok) (he:effK G o dst ev ob k=some r):Fixed G o dst ev ob k r:=by
 unfold effK at he
 rw [ho] at he
 simp only at he
 split at he
 ·rename_i kt e j u id ver j' m h1 h2 h3
  split at he
  ·rename_i v fz e' s xs hob
   split at he
   ·rename_i hs
    subst hs
    cases hv:(Nat.beq v ver&&decide (j'=j)) with
    | false=>rw [hv] at he;cases he
    | true=>
      rw [hv] at he
      cases ok with
      | true=>
        simp only [ze] at he
        exact ⟨_,he,fun h=>by intro τ k';unfold effK;rw [ho];simp only [h1,h.e h2,h.e h3,h.o hob,hv,ze,dite_true]⟩
      | false=>
        simp only [ze,zf] at he
        exact ⟨_,he,fun h=>by intro τ k';unfold effK;rw [ho];simp only [h1,h.e h2,h.e h3,h.o hob,hv,ze,zf,dite_true]⟩
   ·cases he
  ·cases he
 ·cases he
theorem ext_mapUpdate {t:TypeId} {x kx vx:Operand} (ho:o.op=.mapUpdate t x kx vx) (he:effK G o dst ev ob k=some r):Fixed G o dst ev ob k r:=by
 unfold effK at he
 rw [ho] at he
 simp only at he
 split at he
 ·rename_i kt e j u id ver j' m u' y h1 h2 h3 h4
  split at he
  ·rename_i v e' s xs hob
   split at he
   ·rename_i hs
    subst hs
    cases hv:(Nat.beq v ver&&decide (j'=j)&&decide (u'=u)) with
    | false=>rw [hv] at he;cases he
    | true=>
      rw [hv] at he
      simp only [ze] at he
      exact ⟨_,he,fun h=>by intro τ k';unfold effK;rw [ho];simp only [h1,h.e h2,h.e h3,h.e h4,h.o hob,hv,ze,dite_true]⟩
   ·cases he
  ·cases he
 ·cases he
theorem ext_build {t:TypeId} {ps:Array (Nat×Operand)} (ho:o.op=.build t ps) (he:effK G o dst ev ob k=some r):Fixed G o dst ev ob k r:=by
 unfold effK at he
 rw [ho] at he
 simp only at he
 split at he
 ·rename_i s fs ht
  cases hf:s.flat with
  | true=>
    rw [hf] at he
    simp only [ze] at he
    split at he
    ·rename_i cs hc
     exact ⟨_,he,fun h=>by intro τ k';unfold effK;rw [ho];simp only [ht,hf,ze,fillA_ext h.e hc]⟩
    ·cases he
  | false=>
    rw [hf] at he
    simp only [zf] at he
    split at he
    ·rename_i y u hc
     exact ⟨_,he,fun h=>by intro τ k';unfold effK;rw [ho];simp only [ht,hf,zf,fillS_ext h.e h.o hc]⟩
    ·cases he
 ·rename_i m s m' e ht
  split at he
  ·rename_i y u hc
   exact ⟨_,he,fun h=>by intro τ k';unfold effK;rw [ho];simp only [ht,fillE_ext h.e h.o hc]⟩
  ·cases he
 ·cases he
theorem ext_buildSlice {t:TypeId} {n:Nat} {ps:Array (Nat×Operand)} (ho:o.op=.buildSlice t n ps) (he:effK G o dst ev ob k=some r):Fixed G o dst ev ob k r:=by
 unfold effK at he
 rw [ho] at he
 simp only at he
 split at he
 ·rename_i s e by_ ht
  split at he
  ·rename_i ys u hc
   cases hb:Nat.beq ys.length n&&Nat.ble (n*s.cells) 65536 with
   | true=>
     rw [hb] at he
     simp only [ze] at he
     split at he
     ·rename_i ver hv
      exact ⟨_,he,fun h=>by intro τ k';unfold effK;rw [ho];simp only [ht,elemsA_ext h.e h.o hc,hb,ze,verOf,←h.d];unfold verOf at hv;rw [hv]⟩
     ·cases he
   | false=>rw [hb] at he;cases he
  ·cases he
 ·cases he
theorem ext_extract {x:Operand} {i:Nat} (ho:o.op=.extract x i) (he:effK G o dst ev ob k=some r):Fixed G o dst ev ob k r:=by
 unfold effK at he
 rw [ho] at he
 simp only at he
 split at he
 ·rename_i l hx
  split at he
  ·rename_i a ha
   exact ⟨_,he,fun h=>by intro τ k';unfold effK;rw [ho];simp only [h.e hx,ha]⟩
  ·cases he
 ·cases he
theorem ext_indexAddr {t:TypeId} {x ix:Operand} (ho:o.op=.indexAddr t x ix) (he:effK G o dst ev ob k=some r):Fixed G o dst ev ob k r:=by
 unfold effK at he
 rw [ho] at he
 simp only at he
 split at he
 ·rename_i s e by_ d k' i ht hx hi
  split at he
  ·rename_i s' xs
   cases hb:decide (s'=s) with
   | true=>
     rw [hb] at he
     simp only [ze] at he
     obtain ⟨y,hy,he⟩:=jQ he
     exact ⟨_,he,fun h=>by intro τ k';unfold effK;rw [ho];simp only [ht,h.e hx,h.e hi,hb,ze,hy,bnd]⟩
   | false=>rw [hb] at he;cases he
  ·rename_i id ver
   split at he
   ·rename_i v fz e' s' xs hob
    cases hb:Nat.beq v ver&&decide (s'=s) with
    | true=>
      rw [hb] at he
      simp only [ze] at he
      obtain ⟨y,hy,he⟩:=jQ he
      exact ⟨_,he,fun h=>by intro τ k';unfold effK;rw [ho];simp only [ht,h.e hx,h.e hi,h.o hob,hb,ze,hy,bnd]⟩
    | false=>rw [hb] at he;cases he
   ·cases he
  ·rename_i id ver lo m
   split at he
   ·rename_i v fz e' s' xs hob
    cases hb:Nat.beq v ver&&decide (s'=s) with
    | true=>
      rw [hb] at he
      simp only [ze] at he
      obtain ⟨y,hy,he⟩:=jQ he
      exact ⟨_,he,fun h=>by intro τ k';unfold effK;rw [ho];simp only [ht,h.e hx,h.e hi,h.o hob,hb,ze,hy,bnd]⟩
    | false=>rw [hb] at he;cases he
   ·cases he
  ·cases he
 ·rename_i m s m' e p k' i ht hx hi
  split at he
  ·rename_i id ver
   split at he
   ·rename_i v fz e' s' xs hob
    cases hb:Nat.beq v ver&&decide (s'=s) with
    | true=>
      rw [hb] at he
      simp only [ze] at he
      obtain ⟨y,hy,he⟩:=jQ he
      obtain ⟨y1,hy1,he⟩:=jQ he
      exact ⟨_,he,fun h=>by intro τ k';unfold effK;rw [ho];simp only [ht,h.e hx,h.e hi,h.o hob,hb,ze,hy,hy1,bnd]⟩
    | false=>
      rw [hb] at he
      simp only [zf] at he
      cases hw:Nat.beq v ver with
      | true=>
        rw [hw] at he
        simp only [ze] at he
        obtain ⟨y,hy,he⟩:=jQ he
        obtain ⟨y1,hy1,he⟩:=jQ he
        have hd:decide (s'=s)=false:=by rw [hw,Bool.true_and] at hb;exact hb
        exact ⟨_,he,fun h=>by intro τ k';unfold effK;rw [ho];simp only [ht,h.e hx,h.e hi,h.o hob,hw,hd,Bool.and_false,ze,zf,hy,hy1,bnd]⟩
      | false=>rw [hw] at he;cases he
   ·cases he
  ·rename_i id ver i0 sz off
   split at he
   ·rename_i v fz e' s' xs hob
    cases hb:Nat.beq v ver with
    | true=>
      rw [hb] at he
      simp only [ze] at he
      obtain ⟨y,hy,he⟩:=jQ he
      exact ⟨_,he,fun h=>by intro τ k';unfold effK;rw [ho];simp only [ht,h.e hx,h.e hi,h.o hob,hb,ze,hy,bnd]⟩
    | false=>rw [hb] at he;cases he
   ·cases he
  ·rename_i n' s' xs
   cases hb:decide (s'=s)&&Nat.beq n' m with
   | true=>
     rw [hb] at he
     simp only [ze] at he
     obtain ⟨y,hy,he⟩:=jQ he
     exact ⟨_,he,fun h=>by intro τ k';unfold effK;rw [ho];simp only [ht,h.e hx,h.e hi,hb,ze,hy,bnd]⟩
   | false=>rw [hb] at he;cases he
  ·cases he
 ·cases he
theorem ext_index {t:TypeId} {x ix:Operand} (ho:o.op=.index t x ix) (he:effK G o dst ev ob k=some r):Fixed G o dst ev ob k r:=by
 unfold effK at he
 rw [ho] at he
 simp only at he
 split at he
 ·rename_i s k' i ht hx hi
  obtain ⟨y,hy,he⟩:=jQ he
  exact ⟨_,he,fun h=>by intro τ k';unfold effK;rw [ho];simp only [ht,h.e hx,h.e hi,hy,bnd]⟩
 ·rename_i m s m' e n' s' xs k' i ht hx hi
  split at he
  ·rename_i ei hei
   cases hb:decide (s'=s)&&Nat.beq n' m&&decide (ei.ty=s) with
   | true=>
     rw [hb] at he
     simp only [ze] at he
     obtain ⟨y,hy,he⟩:=jQ he
     exact ⟨_,he,fun h=>by intro τ k';unfold effK;rw [ho];simp only [ht,h.e hx,h.e hi,hei,hb,ze,hy,bnd]⟩
   | false=>rw [hb] at he;cases he
  ·cases he
 ·cases he
theorem ext_makeSlice {t:TypeId} {l c:Operand} (ho:o.op=.makeSlice t l c) (he:effK G o dst ev ob k=some r):Fixed G o dst ev ob k r:=by
 unfold effK at he
 rw [ho] at he
 simp only at he
 split at he
 ·rename_i s e by_ ht
  obtain ⟨n,he1,hn⟩:=kO (ev':=ev) (fun h=>h) he
  obtain ⟨m,he2,hm⟩:=kO (ev':=ev) (fun h=>h) he1
  obtain ⟨_,hy,he3⟩:=jQ he2
  split at he3
  ·rename_i ver hv
   refine ⟨_,he3,fun h=>?_⟩
   intro τ k';unfold effK;rw [ho];simp only [ht]
   rw [kX h.e hn,kX h.e hm,hy]
   simp only [bnd,verOf,←h.d];unfold verOf at hv;rw [hv]
  ·cases he3
 ·cases he
theorem ext_slice {t:TypeId} {x:Operand} {lo hi mx:Option Operand} (ho:o.op=.slice t x lo hi mx) (he:effK G o dst ev ob k=some r):Fixed G o dst ev ob k r:=by
 unfold effK at he
 rw [ho] at he
 simp only at he
 split at he
 ·rename_i k' s ht hx
  split at he
  ·obtain ⟨a,he,h1⟩:=kO (ev':=ev) (fun h=>h) he
   obtain ⟨b,he,h2⟩:=kO (ev':=ev) (fun h=>h) he
   obtain ⟨_,hy,he⟩:=jQ he
   refine ⟨_,he,fun h=>?_⟩
   intro τ k';unfold effK;rw [ho];simp only [ht,h.e hx]
   rw [kX h.e h1,kX h.e h2,hy];rfl
  ·cases he
 ·rename_i s' e by_ s xs ht hx
  cases hb:decide (s=s') with
  | false=>rw [hb] at he;cases he
  | true=>
    rw [hb] at he
    simp only [ze] at he
    split at he
    ·obtain ⟨a,he,h1⟩:=kO (ev':=ev) (fun h=>h) he
     obtain ⟨b,he,h2⟩:=kO (ev':=ev) (fun h=>h) he
     obtain ⟨_,hy,he⟩:=jQ he
     refine ⟨_,he,fun h=>?_⟩
     intro τ k';unfold effK;rw [ho];simp only [ht,h.e hx,hb,ze]
     rw [kX h.e h1,kX h.e h2,hy];rfl
    ·split at he
     ·cases hfl:memN (8700000+dst) G.muts with
      | true=>
        rw [hfl] at he
        simp only [ze] at he
        obtain ⟨c,he,h0⟩:=kO (ev':=ev) (fun h=>h) he
        obtain ⟨a,he,h1⟩:=kO (ev':=ev) (fun h=>h) he
        obtain ⟨b,he,h2⟩:=kO (ev':=ev) (fun h=>h) he
        obtain ⟨_,hy,he⟩:=jQ he
        refine ⟨_,he,fun h=>?_⟩
        intro τ k';unfold effK;rw [ho];simp only [ht,h.e hx,hb,ze,hfl]
        rw [kX h.e h0,kX h.e h1,kX h.e h2,hy];rfl
      | false=>
        rw [hfl] at he
        simp only [zf] at he
        obtain ⟨c,he,h0⟩:=kO (ev':=ev) (fun h=>h) he
        obtain ⟨a,he,h1⟩:=kO (ev':=ev) (fun h=>h) he
        obtain ⟨b,he,h2⟩:=kO (ev':=ev) (fun h=>h) he
        obtain ⟨_,hy,he⟩:=jQ he
        refine ⟨_,he,fun h=>?_⟩
        intro τ k';unfold effK;rw [ho];simp only [ht,h.e hx,hb,ze,hfl,zf]
        rw [kX h.e h0,kX h.e h1,kX h.e h2,hy];rfl
     ·cases he
 ·rename_i s' e by_ id ver ht hx
  split at he
  ·rename_i v e' s xs hob
   cases hb:Nat.beq v ver&&decide (s=s') with
   | false=>rw [hb] at he;cases he
   | true=>
     rw [hb] at he
     simp only [ze] at he
     obtain ⟨b,he,h2⟩:=kO (ev':=ev) (fun h=>h) he
     obtain ⟨_,hy,he⟩:=jQ he
     refine ⟨_,he,fun h=>?_⟩
     intro τ k';unfold effK;rw [ho];simp only [ht,h.e hx,h.o hob,hb,ze]
     rw [kX h.e h2,hy];rfl
  ·rename_i v fz e' s xs y hob
   cases hb:Nat.beq v ver&&decide (s=s') with
   | false=>rw [hb] at he;cases he
   | true=>
     rw [hb] at he
     simp only [ze] at he
     obtain ⟨a,he,h1⟩:=kO (ev':=ev) (fun h=>h) he
     obtain ⟨b,he,h2⟩:=kO (ev':=ev) (fun h=>h) he
     obtain ⟨_,hy,he⟩:=jQ he
     refine ⟨_,he,fun h=>?_⟩
     intro τ k';unfold effK;rw [ho];simp only [ht,h.e hx,h.o hob,hb,ze]
     rw [kX h.e h1,kX h.e h2,hy];rfl
  ·cases he
 ·rename_i m s' m' e id ver ht hx
  split at he
  ·rename_i v fz e' s xs hob
   cases hb:Nat.beq v ver&&decide (s=s') with
   | false=>rw [hb] at he;cases he
   | true=>
     rw [hb] at he
     simp only [ze] at he
     obtain ⟨_,hy0,he⟩:=jQ he
     obtain ⟨a,he,h1⟩:=kO (ev':=ev) (fun h=>h) he
     obtain ⟨b,he,h2⟩:=kO (ev':=ev) (fun h=>h) he
     obtain ⟨_,hy,he⟩:=jQ he
     refine ⟨_,he,fun h=>?_⟩
     intro τ k';unfold effK;rw [ho];simp only [ht,h.e hx,h.o hob,hb,ze]
     rw [hy0]
     simp only [bnd]
     rw [kX h.e h1,kX h.e h2,hy]
  ·cases he
 ·rename_i m s' m' e n2 s xs ht hx
  split at he
  ·cases hb:decide (s=s')&&Nat.beq n2 m&&Nat.ble m 1048576 with
   | false=>rw [hb] at he;cases he
   | true=>
     rw [hb] at he
     simp only [ze] at he
     obtain ⟨a,he,h1⟩:=kO (ev':=ev) (fun h=>h) he
     obtain ⟨b,he,h2⟩:=kO (ev':=ev) (fun h=>h) he
     obtain ⟨_,hy,he⟩:=jQ he
     refine ⟨_,he,fun h=>?_⟩
     intro τ k';unfold effK;rw [ho];simp only [ht,h.e hx,hb,ze]
     rw [kX h.e h1,kX h.e h2,hy];rfl
  ·cases he
 ·rename_i s' e by_ id ver lo0 n0 ht hx
  split at he
  ·rename_i v fz e' s xs hob
   cases hb:Nat.beq v ver&&decide (s=s') with
   | false=>rw [hb] at he;cases he
   | true=>
     rw [hb] at he
     simp only [ze] at he
     obtain ⟨a,he,h1⟩:=kO (ev':=ev) (fun h=>h) he
     obtain ⟨b,he,h2⟩:=kO (ev':=ev) (fun h=>h) he
     obtain ⟨_,hy,he⟩:=jQ he
     refine ⟨_,he,fun h=>?_⟩
     intro τ k';unfold effK;rw [ho];simp only [ht,h.e hx,h.o hob,hb,ze]
     rw [kX h.e h1,kX h.e h2,hy];rfl
  ·cases he
 ·cases he
theorem ext_len {c:Call} (ho:o.op=.call c) (hc:c.callee=.builtin .len) (he:effK G o dst ev ob k=some r):Fixed G o dst ev ob k r:=by
 unfold effK at he
 rw [ho] at he
 simp only [hc] at he
 split at he
 ·rename_i x t ha hat
  split at he
  ·rename_i s ht hx
   exact ⟨_,he,fun h=>by intro τ k';unfold effK;rw [ho];simp only [hc,ha,hat,ht,h.e hx]⟩
  ·rename_i ht hx
   exact ⟨_,he,fun h=>by intro τ k';unfold effK;rw [ho];simp only [hc,ha,hat,ht,h.e hx]⟩
  ·rename_i s e by_ d hn ht hx
   obtain ⟨t',xs,h4,h5⟩:=Uv (ob':=ob) (fun h=>h) he
   refine ⟨_,h4,fun h=>?_⟩
   have q:∀{τ:Type} {kk:(t:Ty)→List t.den→Option τ},_=kk _ _:=@fun τ kk=>UR h.o h5 (τ:=τ) (kk:=kk)
   intro τ k';unfold effK;rw [ho];simp only [hc,ha,hat,ht,h.e hx]
   rw [q]
  ·cases he
 ·cases he
theorem ext_min {c:Call} (ho:o.op=.call c) (hc:c.callee=.builtin .min) (he:effK G o dst ev ob k=some r):Fixed G o dst ev ob k r:=by
 unfold effK at he
 rw [ho] at he
 simp only [hc] at he
 split at he
 ·rename_i x y ha
  split at he
  ·rename_i h1 h2
   exact ⟨_,he,fun h=>by intro τ k';unfold effK;rw [ho];simp only [hc,ha,h.e h1,h.e h2]⟩
  ·cases he
 ·cases he
theorem ext_max {c:Call} (ho:o.op=.call c) (hc:c.callee=.builtin .max) (he:effK G o dst ev ob k=some r):Fixed G o dst ev ob k r:=by
 unfold effK at he
 rw [ho] at he
 simp only [hc] at he
 split at he
 ·rename_i x y ha
  split at he
  ·rename_i h1 h2
   exact ⟨_,he,fun h=>by intro τ k';unfold effK;rw [ho];simp only [hc,ha,h.e h1,h.e h2]⟩
  ·cases he
 ·cases he
theorem ext_append {c:Call} (ho:o.op=.call c) (hc:c.callee=.builtin .append) (he:effK G o dst ev ob k=some r):Fixed G o dst ev ob k r:=by
 unfold effK at he
 rw [ho] at he
 simp only [hc] at he
 split at he
 ·rename_i x y t t' ha hat
  cases hb:Nat.beq t t' with
  | false=>
    rw [hb] at he
    simp only [zf] at he
    split at he
    ·rename_i e by_ kd dx bs ht ht' hx hy
     cases hby:Nat.beq by_ 1 with
     | false=>rw [hby] at he;cases he
     | true=>
       rw [hby] at he
       simp only [ze] at he
       split at he
       ·split at he
        ·rename_i ver hv
         obtain ⟨_,hy0,he⟩:=jQ he
         refine ⟨_,he,fun h=>?_⟩
         intro τ k';unfold effK;rw [ho];simp only [hc,ha,hat,hb,zf,ht,ht',h.e hx,h.e hy,hby,ze,verOf,←h.d]
         unfold verOf at hv
         rw [hv]
         simp only
         rw [hy0];rfl
        ·cases he
       ·rename_i id ver
        split at he
        ·rename_i v e' s' xs hob
         split at he
         ·rename_i hs
          subst hs
          cases hb2:Nat.beq v ver&&Nat.beq e' e with
          | false=>rw [hb2] at he;cases he
          | true=>
            rw [hb2] at he
            simp only [ze] at he
            obtain ⟨_,hy0,he⟩:=jQ he
            refine ⟨_,he,fun h=>?_⟩
            intro τ k';unfold effK;rw [ho];simp only [hc,ha,hat,hb,zf,ht,ht',h.e hx,h.e hy,hby,ze,h.o hob,dif_pos,hb2]
            rw [hy0];rfl
         ·cases he
        ·cases he
       ·cases he
    ·cases he
  | true=>
    rw [hb] at he
    simp only [ze] at he
    split at he
    ·rename_i s e by_ dx dy ht hx hy
     split at he
     ·split at he
      ·rename_i ver hv
       obtain ⟨t1,ys,h4,h5⟩:=Uv (ob':=ob) (fun h=>h) he
       split at h4
       ·rename_i hs
        obtain ⟨_,hy0,h4⟩:=jQ h4
        refine ⟨_,h4,fun h=>?_⟩
        have q:∀{τ:Type} {kk:(t:Ty)→List t.den→Option τ},_=kk _ _:=@fun τ kk=>UR h.o h5 (τ:=τ) (kk:=kk)
        intro τ k';unfold effK;rw [ho];simp only [hc,ha,hat,hb,ze,ht,h.e hx,h.e hy,verOf,←h.d]
        unfold verOf at hv
        rw [hv]
        simp only
        rw [q,dif_pos hs,hy0];rfl
       ·cases h4
      ·cases he
     ·rename_i id ver
      split at he
      ·rename_i v e' s' xs hob
       split at he
       ·rename_i hs
        subst hs
        cases hb2:Nat.beq v ver&&Nat.beq e' e with
        | false=>rw [hb2] at he;cases he
        | true=>
          rw [hb2] at he
          simp only [ze] at he
          obtain ⟨t1,ys,h4,h5⟩:=Uv (ob':=ob) (fun h=>h) he
          split at h4
          ·rename_i hs
           obtain ⟨_,hy0,h4⟩:=jQ h4
           refine ⟨_,h4,fun h=>?_⟩
           have q:∀{τ:Type} {kk:(t:Ty)→List t.den→Option τ},_=kk _ _:=@fun τ kk=>UR h.o h5 (τ:=τ) (kk:=kk)
           intro τ k';unfold effK;rw [ho];simp only [hc,ha,hat,hb,ze,ht,h.e hx,h.e hy,h.o hob,dif_pos,hb2]
           rw [q,dif_pos hs,hy0];rfl
          ·cases h4
       ·cases he
      ·cases he
     ·rename_i s' xs
      split at he
      ·rename_i hs0
       subst hs0
       split at he
       ·rename_i ver hv
        obtain ⟨t1,ys,h4,h5⟩:=Uv (ob':=ob) (fun h=>h) he
        split at h4
        ·rename_i hs
         obtain ⟨_,hy0,h4⟩:=jQ h4
         refine ⟨_,h4,fun h=>?_⟩
         have q:∀{τ:Type} {kk:(t:Ty)→List t.den→Option τ},_=kk _ _:=@fun τ kk=>UR h.o h5 (τ:=τ) (kk:=kk)
         intro τ k';unfold effK;rw [ho];simp only [hc,ha,hat,hb,ze,ht,h.e hx,h.e hy,verOf,←h.d,dif_pos]
         unfold verOf at hv
         rw [hv]
         simp only
         rw [q,dif_pos hs,hy0];rfl
        ·cases h4
       ·cases he
      ·cases he
     ·cases he
    ·cases he
 ·cases he
theorem bindA_ext {ob':Objs} (h:∀{i b},ob i=some b→ob' i=some b) {σ:Ren} {s:SA} {a:At} {p} (he:bindA ob σ s a=some p):bindA ob' σ s a=some p:=by
 unfold bindA at he ⊢
 split at he
 ·split at he
  ·rename_i h1;rw [atV_ext h h1];exact he
  ·cases he
 ·exact he
 ·split at he
  ·rename_i hob;rw [h hob];exact he
  ·cases he
 ·split at he
  ·rename_i hob;rw [h hob];exact he
  ·cases he
 ·split at he
  ·rename_i hob;rw [h hob];exact he
  ·cases he
 ·split at he
  ·rename_i hob;rw [h hob];exact he
  ·cases he
 ·exact he
 ·split at he
  ·rename_i hob;rw [h hob];exact he
  ·cases he
 ·exact he
 ·split at he
  ·rename_i hob;rw [h hob];exact he
  ·cases he
 ·split at he
  ·rename_i hob;rw [h hob];exact he
  ·cases he
 ·split at he
  ·rename_i hob;rw [h hob];exact he
  ·cases he
 ·exact he
 ·exact he
 ·exact he
 ·cases he
theorem Uf {ob':Objs} (h:∀{i b},ob i=some b→ob' i=some b):∀{s:List SA} {σ:Ren} {cs:List At} {p},bindL ob σ s cs=some p→bindL ob' σ s cs=some p
 | [],_,[],_,he=>he
 | [],_,_::_,_,he=>he
 | _::_,_,[],_,he=>he
 | s::r,σ,a::b,p,he=>by
   simp only [bindL] at he ⊢
   split at he
   ·rename_i h1
    rw [bindA_ext h h1]
    simp only
    split at he
    ·rename_i h2;rw [Uf h h2];exact he
    ·cases he
   ·cases he
theorem bindD_ext {ob':Objs} (h:∀{i b},ob i=some b→ob' i=some b) {σ:Ren} {s:SD} {d:Dv} {p} (he:bindD ob σ s d=some p):bindD ob' σ s d=some p:=by
 cases s with
 | one sa=>
   change (match oneAt d with
    | some y=>bindA ob σ sa y
    | none=>bindV ob σ sa d)=_ at he
   change (match oneAt d with
    | some y=>bindA ob' σ sa y
    | none=>bindV ob' σ sa d)=_
   cases hx:oneAt d with
   | some y=>rw [hx] at he;exact bindA_ext h he
   | none=>
     rw [hx] at he
     cases sa with
     | val t=>
       obtain ⟨⟨y,u1⟩,hq,hb⟩:=Option.map_eq_some_iff.mp (show (dvV ob t d).map (fun p=>(((p.1,()):densU (SD.one (SA.val t)).tys),p.2,σ))=some p from he)
       exact Option.map_eq_some_iff.mpr ⟨(y,u1),Yi h hq,hb⟩
     | _=>cases he
 | agg ss=>
   cases d with
   | agg cs=>exact Uf h (p:=p) he
   | one y=>
     cases y with
     | val t y=>
       cases t with
       | st t=>
         change (bif t.flat then bindL ob σ ss (split t y) else none)=_ at he
         show (bif t.flat then bindL ob' σ ss (split t y) else none)=_
         cases hf:t.flat with
         | true=>rw [hf] at he;exact Uf h (p:=p) he
         | false=>rw [hf] at he;cases he
       | _=>cases he
     | _=>cases he
   | tup cs=>cases he
 | tup ss=>cases d<;>cases he
theorem bindS_ext {ob':Objs} (h:∀{i b},ob i=some b→ob' i=some b):∀{s:List (Nat×SD)} {σ:Ren} {ds:List Dv} {p},bindS ob σ s ds=some p→bindS ob' σ s ds=some p
 | [],_,[],_,he=>he
 | [],_,_::_,_,he=>he
 | _::_,_,[],_,he=>he
 | s::r,σ,a::b,p,he=>by
   simp only [bindS] at he ⊢
   split at he
   ·rename_i h1
    rw [bindD_ext h h1]
    simp only
    split at he
    ·rename_i h2;rw [bindS_ext h h2];exact he
    ·cases he
   ·cases he
theorem bindO_ext {ob':Objs} (h:∀{i b},ob i=some b→ob' i=some b) {σ:Ren} {i:Nat} {s:SO} {p} (he:bindO ob σ i s=some p):bindO ob' σ i s=some p:=by
 obtain ⟨q,hq⟩:∃q,ob i=q:=⟨_,rfl⟩
 cases q with
 | none=>cases s<;>(simp only [bindO,hq] at he;cases he)
 | some b=>
   have hq':=h hq
   cases s with
   | box ss=>
     simp only [bindO,hq] at he
     simp only [bindO,hq']
     cases b with
     | box cs=>exact Uf h he
     | _=>cases he
   | arr v f e t=>
     simp only [bindO,hq] at he
     simp only [bindO,hq']
     exact he
   | gone=>
     simp only [bindO,hq] at he
     simp only [bindO,hq']
     exact he
   | clo f sa sb=>
     simp only [bindO,hq] at he
     simp only [bindO,hq']
     cases b with
     | clo g x y=>
       simp only at he ⊢
       cases hb:Nat.beq f g with
       | false=>rw [hb] at he;cases he
       | true=>
         rw [hb] at he
         simp only [ze] at he ⊢
         split at he
         ·rename_i h1
          rw [Uf h h1]
          simp only
          split at he
          ·rename_i h2;rw [Uf h h2];exact he
          ·cases he
         ·cases he
     | _=>cases he
theorem bindP_ext {ob':Objs} (h:∀{i b},ob i=some b→ob' i=some b):∀{s:List (Nat×SO)} {σ:Ren} {p},bindP ob σ s=some p→bindP ob' σ s=some p
 | [],_,_,he=>he
 | s::r,σ,p,he=>by
   simp only [bindP] at he ⊢
   split at he
   ·split at he
    ·rename_i h1
     rw [bindO_ext h h1]
     simp only
     split at he
     ·rename_i h2;rw [bindP_ext h h2];exact he
     ·cases he
    ·cases he
   ·cases he
theorem bindAll_ext {ob':Objs} (h:∀{i b},ob i=some b→ob' i=some b) {σ:Ren} {sh:Shape} {ds:List Dv} {p} (he:Yh ob σ sh ds=some p):Yh ob' σ sh ds=some p:=by
 unfold Yh at he ⊢
 split at he
 ·rename_i h1
  rw [bindS_ext h h1]
  simp only
  split at he
  ·rename_i h2;rw [bindP_ext h h2];exact he
  ·cases he
 ·cases he
theorem backN_ext {ob':Objs} (h:∀{i b},ob i=some b→ob' i=some b) (hd:∀j,ob (kY dst j)=ob' (kY dst j)) {σ:Ren} {j:Nat} {o:Ob} {p} (he:backN ob dst σ j o=some p):backN ob' dst σ j o=some p:=by
 cases o with
 | arr v0 fz e t xs=>
   simp only [backN] at he ⊢
   split at he
   ·split at he
    ·rename_i hob;rw [h hob];exact he
    ·cases he
   ·unfold verOf at he ⊢
    rw [←hd];exact he
 | box cs=>
   simp only [backN] at he ⊢
   split at he
   ·exact he
   ·rw [←hd];exact he
 | gone=>
   simp only [backN] at he ⊢
   split at he
   ·exact he
   ·rw [←hd];exact he
 | clo f x y=>
   simp only [backN] at he ⊢
   split at he
   ·exact he
   ·rw [←hd];exact he
theorem backT_ext {ob':Objs} (h:∀{i b},ob i=some b→ob' i=some b) (hd:∀j,ob (kY dst j)=ob' (kY dst j)) {σ:Ren}:∀{l:List (Nat×Ob)} {p},backT ob dst σ l=some p→backT ob' dst σ l=some p
 | [],_,he=>he
 | (j,o)::r,p,he=>by
   simp only [backT] at he ⊢
   split at he
   ·rename_i h1 h2
    rw [backN_ext h hd h1,backT_ext h hd h2];exact he
   ·cases he
theorem backK_ext {ob':Objs} (h:∀{i b},ob i=some b→ob' i=some b) (hd:∀j,ob (kY dst j)=ob' (kY dst j)) {σ:Ren} {st:St} {p} (he:backK ob dst σ st=some p):backK ob' dst σ st=some p:=by
 unfold backK at he ⊢
 split at he
 ·rename_i h1;rw [backT_ext h hd h1];exact he
 ·cases he
theorem calleeOf_ext {ob':Objs} (h:∀{i b},ob i=some b→ob' i=some b) {d:Dv} {p} (he:Ue ob (some d)=some p):Ue ob' (some d)=some p:=by
 unfold Ue at he ⊢
 split at he
 ·rename_i hd;cases hd;exact he
 ·rename_i hd
  cases hd
  split at he
  ·rename_i hob;simp only [h hob];exact he
  ·cases he
 ·cases he
theorem ext_call {c:Call} {x:Operand} (ho:o.op=.call c) (hc:c.callee=.value x) (he:effK G o dst ev ob k=some r):Fixed G o dst ev ob k r:=by
 unfold effK at he
 rw [ho] at he
 simp only [hc] at he
 split at he
 ·rename_i f fs cs as hcal hds
  obtain ⟨d,hx⟩:∃d,ev x=some d:=by
   cases hx:ev x with
   | none=>rw [hx] at hcal;cases hcal
   | some d=>exact ⟨d,rfl⟩
  rw [hx] at hcal
  split at he
  ·rename_i ce hf
   split at he
   ·rename_i xs u ha
    obtain ⟨y,hy,he⟩:=jQ he
    exact ⟨_,he,fun h=>by intro τ k';unfold effK;rw [ho];simp only [hc,hf,h.e hx,calleeOf_ext h.o hcal,Vt h.e hds,args_ext h.o ha,hy,bnd]⟩
   ·cases he
  ·rename_i hf
   unfold HP at he
   split at he
   ·rename_i mc hmc
    cases hb:(Nat.beq mc.fn f&&calmP mc.pre.objs) with
    | false=>rw [hb] at he;cases he
    | true=>
      rw [hb] at he
      simp only [ze] at he
      split at he
      ·rename_i x1 u σ hbi
       obtain ⟨y,hy,he⟩:=jQ he
       split at he
       ·rename_i d v hk
        refine ⟨_,he,fun h=>?_⟩
        intro τ k'
        unfold effK
        rw [ho]
        simp only [hc,hf,h.e hx,calleeOf_ext h.o hcal,Vt h.e hds]
        unfold HP
        simp only [hmc,hb,ze,bindAll_ext h.o hbi,hy,bnd,backK_ext h.o h.ds hk]
       ·cases he
      ·cases he
   ·cases he
 ·cases he
theorem ext_makeFunc {fn:Fn} {first caps:Array Operand} (ho:o.op=.makeFunc fn first caps) (he:effK G o dst ev ob k=some r):Fixed G o dst ev ob k r:=by
 unfold effK at he
 rw [ho] at he
 cases fn with
 | func f=>
   simp only at he
   split at he
   ·rename_i fs cs h1 h2
    split at he
    ·rename_i a b h3 h4
     cases hn:(isNil a&&isNil b) with
     | true=>
       rw [hn] at he
       exact ⟨_,he,fun h=>by intro τ k';unfold effK;rw [ho];simp only [Vt h.e h1,Vt h.e h2,h3,h4,hn,ze]⟩
     | false=>
       rw [hn] at he
       simp only [zf] at he
       split at he
       ·rename_i hno
        exact ⟨_,he,fun h=>by intro τ k';unfold effK;rw [ho];simp only [Vt h.e h1,Vt h.e h2,h3,h4,hn,zf,←h.d,hno]⟩
       ·cases he
    ·cases he
   ·cases he
 | _=>cases he
theorem ext_nilCheck {x:Operand} (ho:o.op=.nilCheck x) (he:effK G o dst ev ob k=some r):Fixed G o dst ev ob k r:=by
 unfold effK at he
 rw [ho] at he
 simp only at he
 split at he
 ·rename_i hx
  split at he
  ·rename_i hob
   exact ⟨_,he,fun h=>by intro τ k';unfold effK;rw [ho];simp only [h.e hx,h.o hob]⟩
  ·cases he
 ·rename_i hx
  exact ⟨_,he,fun h=>by intro τ k';unfold effK;rw [ho];simp only [h.e hx]⟩
 ·rename_i id ver hx
  split at he
  ·rename_i v fz e t xs hob
   cases hb:Nat.beq v ver with
   | true=>rw [hb] at he;exact ⟨_,he,fun h=>by intro τ k';unfold effK;rw [ho];simp only [h.e hx,h.o hob,hb,ze]⟩
   | false=>rw [hb] at he;cases he
  ·cases he
 ·rename_i id ver i sz off hx
  split at he
  ·rename_i v fz e t xs hob
   cases hb:Nat.beq v ver with
   | true=>rw [hb] at he;exact ⟨_,he,fun h=>by intro τ k';unfold effK;rw [ho];simp only [h.e hx,h.o hob,hb,ze]⟩
   | false=>rw [hb] at he;cases he
  ·cases he
 ·rename_i hx
  exact ⟨_,he,fun h=>by intro τ k';unfold effK;rw [ho];simp only [h.e hx]⟩
 ·rename_i hx
  split at he
  ·rename_i hob
   exact ⟨_,he,fun h=>by intro τ k';unfold effK;rw [ho];simp only [h.e hx,h.o hob]⟩
  ·cases he
 ·cases he
theorem effK_ext (he:effK G o dst ev ob k=some r):Fixed G o dst ev ob k r:=by
 cases h:o.op with
 | move x=>exact ext_move h he
 | assign x=>exact ext_assign h he
 | pick c x y=>exact ext_pick h he
 | alloc t=>exact ext_alloc h he
 | box t x=>exact ext_box h he
 | build t ps=>exact ext_build h he
 | buildSlice t m ps=>exact ext_buildSlice h he
 | load t x=>exact ext_load h he
 | store t x y=>exact ext_store h he
 | binOp op xt x y yt=>exact ext_binOp h he
 | unOp op xt x=>exact ext_unOp h he
 | convert xt yt x=>exact ext_convert h he
 | makeSlice t l c=>exact ext_makeSlice h he
 | slice t x lo hi mx=>exact ext_slice h he
 | fieldAddr t x f=>exact ext_fieldAddr h he
 | field t x f=>exact ext_field h he
 | indexAddr t x ix=>exact ext_indexAddr h he
 | index t x ix=>exact ext_index h he
 | extract x i=>exact ext_extract h he
 | call c=>
   cases hc:c.callee with
   | builtin b=>
     by_cases h1:b=.append
     ·subst h1;exact ext_append h hc he
     ·by_cases h2:b=.len
      ·subst h2;exact ext_len h hc he
      by_cases h3:b=.min
      ·subst h3;exact ext_min h hc he
      by_cases h4:b=.max
      ·subst h4;exact ext_max h hc he
      ·unfold effK at he
       rw [h] at he
       simp only [hc] at he
       cases b<;>first | exact absurd rfl h1 | exact absurd rfl h2 | exact absurd rfl h3 | exact absurd rfl h4 | cases he
   | invoke x m=>
     unfold effK at he
     rw [h] at he
     simp only [hc] at he
     cases he
   | value x=>exact ext_call h hc he
 | makeFunc fn first caps=>exact ext_makeFunc h he
 | nilCheck x=>exact ext_nilCheck h he
 | makeInterface t x=>exact ext_makeInterface h he
 | makeMap t c=>exact ext_makeMap h he
 | lookup t x ix ok=>exact ext_lookup h he
 | mapUpdate t m kx vx=>exact ext_mapUpdate h he
 | _=>
   unfold effK at he
   rw [h] at he
   simp only at he
   cases he
end
end Go.Ql
end

section
namespace Go.Ql
theorem ins_cons {α:Type} (t s:Nat) (v u:α) (r:List (Nat×α)):ins t v ((s,u)::r)=if t<s then (t,v)::(s,u)::r else if t=s then (t,v)::r else (s,u)::ins t v r:=by
 simp only [ins]
 by_cases h1:t<s
 ·rw [if_pos h1,show Nat.blt t s=true by rw [Nat.blt_eq];exact h1];rfl
 ·rw [if_neg h1,show Nat.blt t s=false by cases hb:Nat.blt t s with | false=>rfl | true=>rw [Nat.blt_eq] at hb;omega]
  by_cases h2:t=s
  ·rw [if_pos h2,beqN.2 h2];rfl
  ·rw [if_neg h2,JJ.2 h2];rfl
theorem ins_comm {α:Type} {s t:Nat} (x y:α) (h:s≠t):∀l:List (Nat×α),ins s x (ins t y l)=ins t y (ins s x l):=by
 have n:∀(t:Nat) (v:α),ins t v []=[(t,v)]:=fun _ _=>rfl
 intro l
 induction l with
 | nil=>
   rcases Nat.lt_or_gt_of_ne h with h1 | h1<;>simp (disch:=omega) only [n,ins_cons,if_pos,if_neg]
 | cons p l ih=>
   obtain ⟨u,z⟩:=p
   rcases Nat.lt_trichotomy s u with h1 | h1 | h1<;>rcases Nat.lt_trichotomy t u with h2 | h2 | h2<;>rcases Nat.lt_or_gt_of_ne h with h3 | h3 <;>
    first
     | omega
     | simp (disch:=omega) only [ins_cons,if_pos,if_neg,ih]
theorem VZ {S S':Nat→Bool}:∀{i:Nat} {trs:List Tr} {st:St},(∀k,k<trs.length→S (i+k)=S' (i+k))→foldS S i trs st=foldS S' i trs st
 | _,[],_,_=>rfl
 | i,t::r,st,h=>by
   simp only [foldS]
   have h0:S i=S' i:=h 0 (by simp)
   rw [h0]
   exact VZ fun k hk=>by
    have:=h (k+1) (by simp;omega)
    rwa [show i+(k+1)=i+1+k by omega] at this
theorem foldS_none {S:Nat→Bool}:∀{i:Nat} {trs:List Tr} {st:St},(∀k,k<trs.length→S (i+k)=false)→foldS S i trs st=st
 | _,[],_,_=>rfl
 | i,t::r,st,h=>by
   have h0:S i=false:=h 0 (by simp)
   simp only [foldS,h0,zf]
   exact foldS_none fun k hk=>by
    have:=h (k+1) (by simp;omega)
    rwa [show i+(k+1)=i+1+k by omega] at this
theorem lay_slot {t:Tr} {st st':St} {s:Nat} (h:look st.slots s=look st'.slots s):look (t.lay st).slots s=look (t.lay st').slots s:=by
 obtain ⟨dst,dv,u,nd⟩:=t
 cases dst with
 | none=>exact h
 | some d=>
   cases dv with
   | none=>exact h
   | some v=>simp only [Tr.lay];rw [Jm,Jm,h]
theorem lay_slot_ne {t:Tr} {st:St} {s:Nat} (h:t.dst≠some s):look (t.lay st).slots s=look st.slots s:=by
 obtain ⟨dst,dv,u,nd⟩:=t
 cases dst with
 | none=>rfl
 | some d=>
   cases dv with
   | none=>rfl
   | some v=>
     simp only [Tr.lay]
     rw [Jm,if_neg]
     intro hh;subst hh;exact h rfl
theorem insAll_look {s:Nat}:∀{u:Upd} {l l':List (Nat×Ob)},look l s=look l' s→look (kh u l) s=look (kh u l') s
 | [],_,_,h=>h
 | (id,ob)::r,l,l',h=>insAll_look (u:=r) (by rw [Jm,Jm,h])
theorem insAll_ne {s:Nat}:∀{u:Upd} {l:List (Nat×Ob)},(∀p∈u,p.1≠s)→look (kh u l) s=look l s
 | [],_,_=>rfl
 | (id,ob)::r,l,h=>by
   show look (kh r (ins id ob l)) s=_
   rw [insAll_ne fun p hp=>h p (zv _ hp),Jm,if_neg (h (id,ob) (by simp))]
theorem lay_obj {t:Tr} {st st':St} {s:Nat} (h:look st.objs s=look st'.objs s):look (t.lay st).objs s=look (t.lay st').objs s:=insAll_look h
theorem lay_obj_ne {t:Tr} {st:St} {s:Nat} (h:∀p∈t.upd,p.1≠s):look (t.lay st).objs s=look st.objs s:=insAll_ne h
theorem foldS_slot {S S':Nat→Bool} {s:Nat}:∀{i:Nat} {trs:List Tr} {st st':St},look st.slots s=look st'.slots s →
 (∀k t,trs[k]?=some t→t.dst=some s→S (i+k)=S' (i+k))→look (foldS S i trs st).slots s=look (foldS S' i trs st').slots s
 | _,[],_,_,h,_=>h
 | i,t::r,st,st',h,hk=>by
   simp only [foldS]
   refine foldS_slot ?_ (fun k t' h1 h2=>by
    have:=hk (k+1) t' (by simpa using h1) h2
    rwa [show i+(k+1)=i+1+k by omega] at this)
   by_cases hd:t.dst=some s
   ·have h0:S i=S' i:=hk 0 t rfl hd
    rw [h0]
    cases S' i with
    | true=>exact lay_slot h
    | false=>exact h
   ·have h1:∀b (st:St),look (bif b then t.lay st else st).slots s=look st.slots s:=fun b st=>by
     cases b with
     | true=>exact lay_slot_ne hd
     | false=>rfl
    rw [h1,h1,h]
theorem foldS_obj {S S':Nat→Bool} {s:Nat}:∀{i:Nat} {trs:List Tr} {st st':St},look st.objs s=look st'.objs s →
 (∀k t ob,trs[k]?=some t→(s,ob)∈t.upd→S (i+k)=S' (i+k))→look (foldS S i trs st).objs s=look (foldS S' i trs st').objs s
 | _,[],_,_,h,_=>h
 | i,t::r,st,st',h,hk=>by
   simp only [foldS]
   refine foldS_obj ?_ (fun k t' ob h1 h2=>by
    have:=hk (k+1) t' ob (by simpa using h1) h2
    rwa [show i+(k+1)=i+1+k by omega] at this)
   by_cases hd:∃ob,(s,ob)∈t.upd
   ·obtain ⟨ob,hd⟩:=hd
    have h0:S i=S' i:=hk 0 t ob rfl hd
    rw [h0]
    cases S' i with
    | true=>exact lay_obj h
    | false=>exact h
   ·have h1:∀b (st:St),look (bif b then t.lay st else st).objs s=look st.objs s:=fun b st=>by
     cases b with
     | true=>exact lay_obj_ne fun p hp hh=>hd ⟨p.2,by rw [←hh];exact hp⟩
     | false=>rfl
    rw [h1,h1,h]
def Tr.apart (t u:Tr):Prop:=(∀s,t.dst=some s→u.dst≠some s) ∧ ∀p∈t.upd,∀q∈u.upd,p.1≠q.1
theorem ins_insAll {a:Nat} {o:Ob}:∀{u:Upd} {l:List (Nat×Ob)},(∀q∈u,a≠q.1)→ins a o (kh u l)=kh u (ins a o l)
 | [],_,_=>rfl
 | (id,ob)::r,l,h=>by
   show ins a o (kh r (ins id ob l))=kh r (ins id ob (ins a o l))
   rw [ins_insAll fun q hq=>h q (zv _ hq),ins_comm o ob (h (id,ob) (by simp))]
theorem insAll_comm:∀{u v:Upd} {l:List (Nat×Ob)},(∀p∈u,∀q∈v,p.1≠q.1)→kh u (kh v l)=kh v (kh u l)
 | [],_,_,_=>rfl
 | (id,ob)::r,v,l,h=>by
   show kh r (ins id ob (kh v l))=kh v (kh r (ins id ob l))
   rw [ins_insAll fun q hq=>h (id,ob) (by simp) q hq,insAll_comm fun p hp=>h p (zv _ hp)]
theorem lay_comm {t u:Tr} (h:t.apart u) (st:St):t.lay (u.lay st)=u.lay (t.lay st):=by
 obtain ⟨d,v,x,_⟩:=t
 obtain ⟨d',v',x',_⟩:=u
 simp only [Tr.lay,St.mk.injEq]
 constructor
 ·match d,v,d',v' with
  | none,_,_,_=>rfl
  | some _,none,_,_=>rfl
  | some _,some _,none,_=>rfl
  | some _,some _,some _,none=>rfl
  | some a,some _,some b,some _=>
    refine ins_comm _ _ ?_ _
    intro hh;subst hh;exact h.1 a rfl rfl
 ·exact insAll_comm h.2
theorem foldS_lay {S:Nat→Bool} {t:Tr}:∀{i:Nat} {trs:List Tr} {st:St},(∀k u,trs[k]?=some u→S (i+k)=true→t.apart u) →
 foldS S i trs (t.lay st)=t.lay (foldS S i trs st)
 | _,[],_,_=>rfl
 | i,u::r,st,h=>by
   simp only [foldS]
   have h':∀k u',r[k]?=some u'→S (i+1+k)=true→t.apart u':=fun k u' h1 h2=>h (k+1) u' (by simpa using h1) (by rwa [show i+(k+1)=i+1+k by omega])
   cases hs:S i with
   | true=>
     simp only [ze]
     rw [←lay_comm (h 0 u rfl hs)]
     exact foldS_lay h'
   | false=>exact foldS_lay h'
theorem foldS_more {S:Nat→Bool} {m:Nat} {t:Tr}:∀{i:Nat} {trs:List Tr} {st:St},S (i+m)=false→trs[m]?=some t →
 (∀k u,trs[k]?=some u→m<k→S (i+k)=true→t.apart u)→foldS (fun k=>S k||decide (k=i+m)) i trs st=t.lay (foldS S i trs st)
 | i,[],st,_,h,_=>by simp at h
 | i,u::r,st,hs,h,ha=>by
   simp only [foldS]
   cases m with
   | zero=>
     simp only [List.getElem?_cons_zero,z6] at h
     subst h
     have hs:S i=false:=hs
     simp only [hs,Nat.add_zero,decide_true,Bool.or_true,ze,zf]
     rw [VZ (S':=S) (fun k _=>by
      have:¬(i+1+k=i):=by omega
      simp [this])]
     exact foldS_lay fun k u' h1 h2=>ha (k+1) u' (by simpa using h1) (by omega) (by rwa [show i+(k+1)=i+1+k by omega])
   | succ m=>
     have:¬(i=i+(m+1)):=by omega
     simp only [this,decide_false,Bool.or_false]
     have e:(fun k=>S k||decide (k=i+(m+1)))=fun k=>S k||decide (k=i+1+m):=by
      funext k;rw [show i+(m+1)=i+1+m by omega]
     rw [e]
     exact foldS_more (by rwa [show i+1+m=i+(m+1) by omega]) (by simpa using h) fun k u' h1 h2 h3=>ha (k+1) u' (by simpa using h1) (by omega) (by rwa [show i+(k+1)=i+1+k by omega])
theorem all_ins {α:Type} {p:Nat×α→Bool} {t:Nat} {v:α}:∀{l:List (Nat×α)},l.all p=true→p (t,v)=true→(ins t v l).all p=true
 | [],_,h=>by simp [ins,h]
 | (s,u)::r,hl,h=>by
   rw [List.all_cons,z7] at hl
   rw [ins_cons]
   split
   ·simp only [List.all_cons,h,hl.1,hl.2,Bool.and_self]
   ·split
    ·simp only [List.all_cons,h,hl.2,Bool.and_self]
    ·simp only [List.all_cons,hl.1,all_ins hl.2 h,Bool.and_self]
theorem Uy {pO:Nat×Ob→Bool}:∀{u:Upd} {l:List (Nat×Ob)},l.all pO=true→(∀q∈u,pO q=true)→(kh u l).all pO=true
 | [],_,h,_=>h
 | (id,ob)::r,l,h,hu=>Uy (u:=r) (all_ins h (hu _ (by simp))) fun q hq=>hu q (zv _ hq)
theorem UV {S:Nat→Bool} {pS:Nat×Dv→Bool} {pO:Nat×Ob→Bool}:∀{i:Nat} {trs:List Tr} {st:St},st.slots.all pS=true→st.objs.all pO=true →
 (∀k t,trs[k]?=some t→S (i+k)=true→(∀s d,t.dv=some d→pS (s,d)=true) ∧ ∀q∈t.upd,pO q=true) →
 (foldS S i trs st).slots.all pS=true∧(foldS S i trs st).objs.all pO=true
 | _,[],_,h1,h2,_=>⟨h1,h2⟩
 | i,t::r,st,h1,h2,h=>by
   simp only [foldS]
   have h':∀k t',r[k]?=some t'→S (i+1+k)=true→(∀s d,t'.dv=some d→pS (s,d)=true) ∧ ∀q∈t'.upd,pO q=true:=
    fun k u' h1 h2=>h (k+1) u' (by simpa using h1) (by rwa [show i+(k+1)=i+1+k by omega])
   cases hs:S i with
   | false=>exact UV h1 h2 h'
   | true=>
     obtain ⟨q1,q2⟩:=h 0 t rfl hs
     refine UV ?_ ?_ h'
     ·simp only [ze,Tr.lay]
      obtain ⟨dst,dv,u,nd⟩:=t
      cases dst with
      | none=>exact h1
      | some s=>
        cases dv with
        | none=>exact h1
        | some d=>exact all_ins h1 (q1 s d rfl)
     ·exact Uy h2 q2
def UL (ops:List Oper) (h:Hint) (st:St) (o:Oper) (c:Bool):Prop:=
 ∃j want g,o.guard=some (j,want)∧(ops[j]?).bind (·.dst)=some g∧memN g h.hideS=false∧((∃b,look st.slots g=some (.one (.val .bool b))∧(b==want)=c)∨(look st.slots g=some (.tup [])∧c=false))
theorem altOf_ext [GInv] {G:Env} {o:Oper} {dst:Nat} {ev ev':Operand→Option Dv} {ob ob':Objs} {q:MAlt×List Dv} (h:ExtE ev ev' ob ob' dst) (he:altOf G o ev ob=some q):altOf G o ev' ob'=some q:=by
 unfold altOf at he ⊢
 split at he
 ·rename_i c ho
  split at he
  ·rename_i x hc
   split at he
   ·rename_i f fs cs as h1 h2
    obtain ⟨d,hx⟩:∃d,ev x=some d:=by
     cases hx:ev x with
     | none=>rw [hx] at h1;cases h1
     | some d=>exact ⟨d,rfl⟩
    rw [hx] at h1
    simp only [hc,h.e hx,calleeOf_ext h.o h1,Vt h.e h2]
    exact he
   ·cases he
  ·cases he
 ·cases he
def AltF (G:Env) (o:Oper) (h:Hint) (st:St) (ma:MAlt) (ds:List Dv) (x:densU ma.pre.tys) (u:Upd) (σ:Ren) (st2:St) (d:Dv) (v:Upd):Prop:=
 ∀{ev' ob'},ExtE (evM st h.hideS) ev' (obM st h.hideO) ob' (o.dst.getD 0)→altOf G o ev' ob'=some (ma,ds)∧Yh ob' [] ma.pre ds=some (x,u,σ)∧backK ob' (o.dst.getD 0) σ st2=some (d,v)
def AltE (G:Env) (o:Oper) (h:Hint) (st:St) (e:Eff):Prop:=
 ∃ma ds x u σ y d v,AltF G o h st ma ds x u σ (ma.post.inj y) d v∧ma.F x=some (.inl y)∧e=⟨d,u++v⟩
def PanE (G:Env) (o:Oper) (h:Hint) (st:St) (a:At) (u':Upd):Prop:=
 ∃ma ds x u σ y v,AltF G o h st ma ds x u σ (ma.post2.inj y) (.one a) v∧ma.F x=some (.inr y)∧ma.pan=true∧u'=u++v
structure Ran (G:Env) (ops:List Oper) (o:Oper) (h:Hint) (st:St) (t:Tr) (e:Eff):Prop where
 guard:o.guard=none∨UL ops h st o true
 eff:(∀{ev' ob'},ExtE (evM st h.hideS) ev' (obM st h.hideO) ob' (o.dst.getD 0) → ∀(τ:Type) (k':Eff→Option τ),effK G o (o.dst.getD 0) ev' ob' k'=k' e)∨AltE G o h st e
 dv:t.dv=some e.dv
 upd:t.upd=e.upd
 need:t.need=UC st e.upd
 ok:okUpd h.wr e.upd=true
 may:(JE st e.upd).isSome=true
 dst:∀s,o.dst=some s→Nat.blt s G.n=true
structure Skipped (G:Env) (ops:List Oper) (o:Oper) (h:Hint) (st:St) (t:Tr):Prop where
 guard:UL ops h st o false
 dv:t.dv=some (.tup [])
 upd:t.upd=[]
 dst:∀s,o.dst=some s→Nat.blt s G.n=true
def StepT (G:Env) (ops:List Oper) (o:Oper) (h:Hint) (st:St) (t:Tr):Prop:=
 t.dst=o.dst∧((∃e,Ran G ops o h st t e)∨Skipped G ops o h st t)
structure PanT (G:Env) (ops:List Oper) (o:Oper) (h:Hint) (st:St) (a:At) (u:Upd):Prop where
 guard:o.guard=none∨UL ops h st o true
 pan:PanE G o h st a u
def StepsT (G:Env) (ops:List Oper):Nat→Option Pm→List (Oper×Hint)→St→List Tr→Option Pm→Prop
 | _,pm,[],_,trs,pm'=>trs=[]∧pm'=pm
 | i,pm,(o,h)::l,st,trs,pm'=>∃t r,trs=t::r ∧
   ((hangs pm h=false∧StepT G ops o h st t∧StepsT G ops (i+1) pm l (t.lay st) r pm') ∨
    (hangs pm h=true∧t=idle o∧StepsT G ops (i+1) pm l st r pm') ∨
    (pm=none∧t=idle o ∧ ∃a u,PanT G ops o h st a u∧StepsT G ops (i+1) (some (i,a,u)) l st r pm'))
theorem StepsT.stays {G:Env} {ops:List Oper} {q:Pm}:∀{l:List (Oper×Hint)} {i:Nat} {st:St} {trs:List Tr} {pm':Option Pm},StepsT G ops i (some q) l st trs pm'→pm'=some q
 | [],_,_,_,_,h=>h.2
 | (o,hh)::l,i,st,trs,pm',h=>by
   obtain ⟨t,r,rfl,h | h | h⟩:=h
   ·exact StepsT.stays h.2.2
   ·exact StepsT.stays h.2.2
   ·cases h.1
theorem idle_lay (o:Oper) (st:St):(idle o).lay st=st:=by
 unfold idle Tr.lay
 cases o.dst<;>rfl
def PlaceT (G:Env) (ops:List Oper) (m:Nat) (pm':Option Pm) (o:Oper) (h:Hint) (st:St) (t:Tr):Prop:=
 (StepT G ops o h st t ∧ ∀q,pm'=some q→q.1≠m∧(q.1<m→memN q.1 h.pre=false)) ∨
 (∃q,pm'=some q∧q.1<m∧memN q.1 h.pre=true∧t=idle o) ∨
 (∃a u,pm'=some (m,a,u)∧t=idle o∧PanT G ops o h st a u)
theorem StepsT.later {G:Env} {ops:List Oper}:∀{l:List (Oper×Hint)} {i:Nat} {st:St} {trs:List Tr} {pm':Option Pm} {q:Pm},StepsT G ops i none l st trs pm'→pm'=some q→i≤q.1
 | [],_,_,_,_,_,h,hq=>by rw [h.2] at hq;cases hq
 | (o,hh)::l,i,st,trs,pm',q,h,hq=>by
   obtain ⟨t,r,rfl,h | h | ⟨_,_,a,u,_,h⟩⟩:=h
   ·have:=StepsT.later h.2.2 hq;omega
   ·cases h.1
   ·rw [StepsT.stays h] at hq
    cases hq
    exact zt _
theorem StepsT.at {G:Env} {ops:List Oper}:∀{l:List (Oper×Hint)} {i:Nat} {pm:Option Pm} {st:St} {trs:List Tr} {pm':Option Pm},(∀q,pm=some q→q.1<i)→StepsT G ops i pm l st trs pm' →
 trs.length=l.length ∧ ∀m o h t,l[m]?=some (o,h)→trs[m]?=some t→PlaceT G ops (i+m) pm' o h (foldS (fun k=>decide (k<i+m)) i trs st) t
 | [],i,pm,st,trs,pm',hi,h=>by
   obtain ⟨rfl,_⟩:=h
   exact ⟨rfl,fun m o h t h1=>by simp at h1⟩
 | (o,hh)::l,i,pm,st,trs,pm',hi,h=>by
   obtain ⟨t,r,rfl,h⟩:=h
   have key:∃pm1,(∀q,pm1=some q→q.1<i+1)∧StepsT G ops (i+1) pm1 l (t.lay st) r pm'∧PlaceT G ops i pm' o hh st t:=by
    rcases h with ⟨h0,h1,h2⟩ | ⟨h0,h1,h2⟩ | ⟨h0,h1,a,u,h2,h3⟩
    ·refine ⟨pm,fun q hq=>by have:=hi q hq;omega,h2,.inl ⟨h1,fun q hq=>?_⟩⟩
     cases pm with
     | none=>
       have:=StepsT.later h2 hq
       exact ⟨by omega,fun h=>by omega⟩
     | some q0=>
       have h3:=StepsT.stays h2
       rw [h3] at hq
       cases hq
       have:=hi _ rfl
       exact ⟨by omega,fun _=>h0⟩
    ·cases pm with
     | none=>cases h0
     | some q0=>
       refine ⟨some q0,fun q hq=>by have:=hi q hq;omega,?_,.inr (.inl ⟨q0,StepsT.stays h2,hi q0 rfl,h0,h1⟩)⟩
       rw [h1,idle_lay];exact h2
    ·refine ⟨some (i,a,u),fun q hq=>by cases hq;exact Nat.lt_succ_self _,?_,.inr (.inr ⟨a,u,StepsT.stays h3,h1,h2⟩)⟩
     rw [h1,idle_lay];exact h3
   obtain ⟨pm1,k1,k2,k3⟩:=key
   obtain ⟨h3,h4⟩:=StepsT.at k1 k2
   refine ⟨by simp [h3],fun m o' hh' t' q1 q2=>?_⟩
   cases m with
   | zero=>
     simp only [List.getElem?_cons_zero,z6,zm] at q1 q2
     obtain ⟨rfl,rfl⟩:=q1
     subst q2
     rw [foldS_none (fun k _=>by simp)]
     exact k3
   | succ m=>
     have:=h4 m o' hh' t' (by simpa using q1) (by simpa using q2)
     simp only [foldS]
     have h0:decide (i<i+(m+1))=true:=by simp
     rw [h0,show i+(m+1)=i+1+m by omega]
     exact this
theorem layObs_ins:∀{u:Upd} {st st1:St},JE st u=some st1→st1=⟨st.slots,kh u st.objs⟩
 | [],st,st1,h=>by simp only [JE,z6] at h;subst h;rfl
 | (id,ob)::r,st,st1,h=>by
   simp only [JE] at h
   cases hm:mayOb st id ob with
   | false=>rw [hm] at h;cases h
   | true=>rw [hm] at h;exact layObs_ins (u:=r) h
theorem lay_of {n:Nat} {st:St} {t:Tr} {d:Dv} {u:Upd} (hd:t.dv=some d) (hu:t.upd=u) (may:(JE st u).isSome=true)
 (hs:∀s,t.dst=some s→Nat.blt s n=true):lay n st t.dst d u=some (t.lay st):=by
 have h1:JE st u=some ⟨st.slots,(t.lay st).objs⟩:=by
  obtain ⟨st1,h⟩:=Option.isSome_iff_exists.1 may
  rw [h,layObs_ins h,←hu];rfl
 unfold lay
 rw [h1]
 simp only
 cases hdst:t.dst with
 | none=>simp only [Tr.lay,hdst]
 | some s=>simp only [hs s hdst,ze,Tr.lay,hdst,hd]
theorem lay_may {n:Nat} {st st':St} {dst:Option Nat} {d:Dv} {u:Upd} (h:lay n st dst d u=some st') :
 (JE st u).isSome=true ∧ ∀s,dst=some s→Nat.blt s n=true:=by
 unfold lay at h
 split at h
 ·rename_i st1 h1
  constructor
  ·rw [h1];rfl
  ·rintro s rfl
   simp only at h
   cases hb:Nat.blt s n with
   | true=>rfl
   | false=>rw [hb] at h;cases h
 ·cases h
theorem partK_some {ρ:Type} {gs:List Nat} {dst:Option Nat} {d:Dv} {k:Dv→Option ρ} {r:ρ} (h:partK gs dst d k=some r):k d=some r:=by
 unfold partK at h
 split at h
 ·rename_i t
  cases hm:memN t gs with
  | false=>rw [hm] at h;exact h
  | true=>
    rw [hm] at h
    simp only [ze] at h
    split at h
    ·rename_i b
     cases b<;>exact h
    ·cases h
 ·exact h
theorem drawK_steps [GInv] {ρ:Type} {G:Env} {ops:List Oper} {gs:List Nat} {r:ρ}:∀{l:List (Oper×Hint)} {st:St} {tr:List Tr} {pm:Option Pm} {k:Option Pm→St→List Tr→Option ρ},drawK G ops gs l st tr pm k=some r →
 ∃trs pm',StepsT G ops tr.length pm l st trs pm'∧k pm' (foldS (fun _=>true) 0 trs st) (tr++trs)=some r
 | [],st,tr,pm,k,h=>⟨[],pm,⟨rfl,rfl⟩,by
   have h:k pm st tr=some r:=h
   simpa [foldS] using h⟩
 | (o,hh)::l,st,tr,pm,k,h=>by
   have fold0:∀(trs:List Tr) (i:Nat) (st:St),foldS (fun _=>true) i trs st=foldS (fun _=>true) 0 trs st:=by
    intro trs
    induction trs with
    | nil=>intro i st;rfl
    | cons t trs ih=>intro i st;simp only [foldS];rw [ih,ih 1]
   have go:∀(t:Tr) (pm1:Option Pm) (st':St),t.lay st=st'→drawK G ops gs l st' (tr++[t]) pm1 k=some r →
    ∃trs pm',StepsT G ops (tr.length+1) pm1 l st' trs pm'∧k pm' (foldS (fun _=>true) 0 (t::trs) st) (tr++(t::trs))=some r:=by
    intro t pm1 st' h2 h3
    subst h2
    obtain ⟨trs,pm',q1,q2⟩:=drawK_steps h3
    rw [z8] at q1
    refine ⟨trs,pm',q1,?_⟩
    simp only [foldS,ze]
    rw [fold0]
    simpa using q2
   have next:hangs pm hh=false → ∀(t:Tr) (st':St),StepT G ops o hh st t→t.lay st=st'→drawK G ops gs l st' (tr++[t]) pm k=some r →
    ∃trs pm',StepsT G ops tr.length pm ((o,hh)::l) st trs pm'∧k pm' (foldS (fun _=>true) 0 trs st) (tr++trs)=some r:=by
    intro h0 t st' h1 h2 h3
    obtain ⟨trs,pm',q1,q2⟩:=go t pm st' h2 h3
    subst h2
    exact ⟨t::trs,pm',⟨t,trs,rfl,.inl ⟨h0,h1,q1⟩⟩,q2⟩
   unfold drawK at h
   simp only at h
   cases h0:hangs pm hh with
   | true=>
     rw [h0] at h
     simp only [ze] at h
     obtain ⟨trs,pm',q1,q2⟩:=go (idle o) pm st (idle_lay o st) h
     exact ⟨idle o::trs,pm',⟨_,trs,rfl,.inr (.inl ⟨h0,rfl,q1⟩)⟩,q2⟩
   | false=>
     rw [h0] at h
     simp only [zf] at h
     have done:(o.guard=none∨UL ops hh st o true) → ∀e:Eff,((∀{ev' ob'},ExtE (evM st hh.hideS) ev' (obM st hh.hideO) ob' (o.dst.getD 0) → ∀(τ:Type) (k':Eff→Option τ),effK G o (o.dst.getD 0) ev' ob' k'=k' e)∨AltE G o hh st e) →
      (bif okUpd hh.wr e.upd then partK gs o.dst e.dv fun d=>layK G.n st o.dst d e.upd fun st'=>drawK G ops gs l st' (tr++[⟨o.dst,some d,e.upd,UC st e.upd⟩]) pm k else none)=some r →
      ∃trs pm',StepsT G ops tr.length pm ((o,hh)::l) st trs pm'∧k pm' (foldS (fun _=>true) 0 trs st) (tr++trs)=some r:=by
      intro hg e h2 h1
      cases hok:okUpd hh.wr e.upd with
      | false=>rw [hok] at h1;cases h1
      | true=>
        rw [hok] at h1
        simp only [ze] at h1
        have h3:=partK_some h1
        unfold layK at h3
        split at h3
        ·rename_i st' hl
         obtain ⟨m1,m2⟩:=lay_may hl
         have hl2:=lay_of (n:=G.n) (st:=st) (t:=⟨o.dst,some e.dv,e.upd,UC st e.upd⟩) rfl rfl m1 m2
         rw [hl] at hl2
         cases hl2
         exact next h0 _ _ ⟨rfl,.inl ⟨e,hg,h2,rfl,rfl,rfl,hok,m1,m2⟩⟩ rfl h3
        ·cases h3
     have run:(o.guard=none∨UL ops hh st o true)→(match altD? G pm o (evM st hh.hideS) (obM st hh.hideO) with
      | some (ma,ds)=>altD ma ds (o.dst.getD 0) (obM st hh.hideO) (fun e=>bif okUpd hh.wr e.upd then partK gs o.dst e.dv fun d=>layK G.n st o.dst d e.upd fun st'=>drawK G ops gs l st' (tr++[⟨o.dst,some d,e.upd,UC st e.upd⟩]) pm k else none) fun a u=>drawK G ops gs l st (tr++[idle o]) (some (tr.length,a,u)) k
      | none=>effK G o (o.dst.getD 0) (evM st hh.hideS) (obM st hh.hideO) fun e=>bif okUpd hh.wr e.upd then partK gs o.dst e.dv fun d=>layK G.n st o.dst d e.upd fun st'=>drawK G ops gs l st' (tr++[⟨o.dst,some d,e.upd,UC st e.upd⟩]) pm k else none)=some r →
        ∃trs pm',StepsT G ops tr.length pm ((o,hh)::l) st trs pm'∧k pm' (foldS (fun _=>true) 0 trs st) (tr++trs)=some r:=by
      intro hg h
      split at h
      ·rename_i ma ds ha
       cases pm with
       | some q=>cases ha
       | none=>
         have ha:altOf G o (evM st hh.hideS) (obM st hh.hideO)=some (ma,ds):=ha
         unfold altD at h
         split at h
         ·rename_i x u σ hbi
          obtain ⟨y,hy,h⟩:=jQ h
          cases y with
          | inl y=>
            simp only [sel] at h
            split at h
            ·rename_i d v hk
             exact done hg ⟨d,u++v⟩ (.inr ⟨ma,ds,x,u,σ,y,d,v,fun hx=>⟨altOf_ext hx ha,bindAll_ext hx.o hbi,backK_ext hx.o hx.ds hk⟩,hy,rfl⟩) h
            ·cases h
          | inr y=>
            simp only [sel] at h
            split at h
            ·rename_i a v hk
             cases hpn:ma.pan with
             | false=>rw [hpn] at h;cases h
             | true=>
               rw [hpn] at h
               simp only [ze] at h
               obtain ⟨trs,pm',q1,q2⟩:=go (idle o) (some (tr.length,a,u++v)) st (idle_lay o st) h
               exact ⟨idle o::trs,pm',⟨_,trs,rfl,.inr (.inr ⟨rfl,rfl,a,u++v,⟨hg,ma,ds,x,u,σ,y,v,fun hx=>⟨altOf_ext hx ha,bindAll_ext hx.o hbi,backK_ext hx.o hx.ds hk⟩,hy,hpn,rfl⟩,q1⟩)⟩,q2⟩
            ·cases h
         ·cases h
      ·obtain ⟨e,h1,h2⟩:=effK_ext h
       exact done hg e (.inl h2) h1
     split at h
     ·rename_i hg
      exact run (.inl hg) h
     ·rename_i j want hg
      split at h
      ·rename_i g hj
       cases hm:memN g hh.hideS with
       | true=>rw [hm] at h;cases h
       | false=>
         rw [hm] at h
         simp only [zf] at h
         have skip:UL ops hh st o false→(layK G.n st o.dst (.tup []) [] fun st'=>drawK G ops gs l st' (tr++[⟨o.dst,some (.tup []),[],[]⟩]) pm k)=some r →
          ∃trs pm',StepsT G ops tr.length pm ((o,hh)::l) st trs pm'∧k pm' (foldS (fun _=>true) 0 trs st) (tr++trs)=some r:=by
          intro hgi hs
          unfold layK at hs
          split at hs
          ·rename_i st' hl
           obtain ⟨m1,m2⟩:=lay_may hl
           have hl2:=lay_of (n:=G.n) (st:=st) (t:=⟨o.dst,some (.tup []),[],[]⟩) rfl rfl m1 m2
           rw [hl] at hl2
           cases hl2
           exact next h0 _ _ ⟨rfl,.inr ⟨hgi,rfl,rfl,m2⟩⟩ rfl hs
          ·cases hs
         split at h
         ·rename_i b hb
          cases hbw:(b==want) with
          | true=>
            rw [hbw] at h
            exact run (.inr ⟨j,want,g,hg,hj,hm,.inl ⟨b,hb,hbw⟩⟩) h
          | false=>
            rw [hbw] at h
            simp only [br] at h
            exact skip ⟨j,want,g,hg,hj,hm,.inl ⟨b,hb,hbw⟩⟩ h
         ·rename_i hb
          exact skip ⟨j,want,g,hg,hj,hm,.inr ⟨hb,rfl⟩⟩ h
         ·cases h
      ·cases h
end Go.Ql
end

section
namespace Go.Ql
variable [GInv]
def bindsB (e:Edge):Bool:=Region.binds .any e
def apartH (oi:Oper) (hi hj:Hint):Bool:=
 (match oi.dst with | some t=>memN t hj.hideS | none=>true)&&hi.wr.all fun id=>memN id hj.hideO
def freshNo (dst i:Nat):Bool:=Nat.blt i dst || !Nat.beq ((i-dst) % 1000) 0
def rowOk (hs:List Hint) (ops:List Oper) (j:Nat) (oj:Oper) (hj:Hint):Nat→List (Oper×Hint)→Bool
 | _,[]=>true
 | i,(oi,hi)::r=>(Nat.beq i j||((memN i hj.pre||memN j hi.pre||apartH oi hi hj)&&(match oi.dst,oj.dst with | some s,some t=>!Nat.beq s t | _,_=>true)))&&rowOk hs ops j oj hj (i+1) r
def oneOk (hs:List Hint) (ops:List Oper) (all:List (Oper×Hint)) (j:Nat) (oj:Oper) (hj:Hint):Bool:=
 oj.after.toList.all (fun e=>!bindsB e||Nat.blt e.on j) &&
 hj.pre.all (fun i=>Nat.blt i j&&oj.after.toList.any fun e=>bindsB e&&(Nat.beq e.on i||memN i (preOf hs e.on))) &&
 hj.hideO.all (fun i=>freshNo (oj.dst.getD 0) i)&&hj.wr.all (fun id=>!memN id hj.hideO)&&rowOk hs ops j oj hj 0 all
def colsOk (hs:List Hint) (ops:List Oper) (all:List (Oper×Hint)):Nat→List (Oper×Hint)→Bool
 | _,[]=>true
 | j,(oj,hj)::r=>oneOk hs ops all j oj hj&&colsOk hs ops all (j+1) r
def hintsOk (ops:List Oper) (hs:List Hint):Bool:=Nat.beq hs.length ops.length&&colsOk hs ops (ops.zip hs) 0 (ops.zip hs)
structure HOk (ops:List Oper) (hs:List Hint):Prop where
 len:hs.length=ops.length
 back:∀j o,ops[j]?=some o → ∀e∈o.after,Region.binds .any e=true→e.on<j
 pre:∀j i,i∈preOf hs j→i<j ∧ ∃o,ops[j]?=some o ∧ ∃e∈o.after,Region.binds .any e=true∧(e.on=i∨i∈preOf hs e.on)
 apart:∀(i j:Nat) (oi oj:Oper) (hi hj:Hint),ops[i]?=some oi→ops[j]?=some oj→hs[i]?=some hi→hs[j]?=some hj→i≠j →
  (i∈hj.pre∨j∈hi.pre∨((∀t,oi.dst=some t→memN t hj.hideS=true) ∧ ∀id,memN id hi.wr=true→memN id hj.hideO=true)) ∧ ∀t,oi.dst=some t→oj.dst≠some t
 selfD:∀(j:Nat) (o:Oper) (h:Hint),ops[j]?=some o→hs[j]?=some h → ∀i,memN (kY (o.dst.getD 0) i) h.hideO=false
 selfW:∀(j:Nat) (h:Hint),hs[j]?=some h → ∀id,memN id h.wr=true→memN id h.hideO=false
theorem rowOk_at {hs:List Hint} {ops:List Oper} {j:Nat} {oj:Oper} {hj:Hint}:∀{l:List (Oper×Hint)} {i0:Nat},rowOk hs ops j oj hj i0 l=true → ∀i oi hi,l[i]?=some (oi,hi)→i0+i≠j →
 (i0+i∈hj.pre∨j∈hi.pre∨apartH oi hi hj=true) ∧ ∀t,oi.dst=some t→oj.dst≠some t
 | [],i0,_,i,oi,hi,h,_=>by simp at h
 | (o,h)::l,i0,hr,i,oi,hi,hl,hne=>by
   simp only [rowOk,z7] at hr
   cases i with
   | zero=>
     simp only [List.getElem?_cons_zero,z6,zm] at hl
     obtain ⟨rfl,rfl⟩:=hl
     have h1:=hr.1
     have hb:Nat.beq i0 j=false:=JJ.2 hne
     rw [hb,Bool.false_or,z7,Bool.or_eq_true,Bool.or_eq_true] at h1
     refine ⟨?_,fun t ht hj'=>?_⟩
     ·rcases h1.1 with (h2 | h2) | h2
      ·exact .inl (YF.1 h2)
      ·exact .inr (.inl (YF.1 h2))
      ·exact .inr (.inr h2)
     ·have h2:=h1.2
      rw [ht,hj'] at h2
      simp only [beqN.2 rfl] at h2
      cases h2
   | succ i=>
     have:=rowOk_at hr.2 i oi hi (by simpa using hl) (by omega)
     rwa [show i0+(i+1)=i0+1+i by omega]
theorem colsOk_at {hs:List Hint} {ops:List Oper} {all:List (Oper×Hint)}:∀{l:List (Oper×Hint)} {j0:Nat},colsOk hs ops all j0 l=true → ∀j oj hj,l[j]?=some (oj,hj)→oneOk hs ops all (j0+j) oj hj=true
 | [],j0,_,j,oj,hj,h=>by simp at h
 | (o,h)::l,j0,hr,j,oj,hj,hl=>by
   simp only [colsOk,z7] at hr
   cases j with
   | zero=>
     simp only [List.getElem?_cons_zero,z6,zm] at hl
     obtain ⟨rfl,rfl⟩:=hl
     exact hr.1
   | succ j=>
     have:=colsOk_at hr.2 j oj hj (by simpa using hl)
     rwa [show j0+(j+1)=j0+1+j by omega]
theorem hintsOk_ok {ops:List Oper} {hs:List Hint} (h:hintsOk ops hs=true):HOk ops hs:=by
 simp only [hintsOk,z7] at h
 obtain ⟨h1,h2⟩:=h
 have hl:hs.length=ops.length:=beqN.1 h1
 have zip:∀j o h,ops[j]?=some o→hs[j]?=some h→(ops.zip hs)[j]?=some (o,h):=fun j o h q1 q2=>by
  rw [List.getElem?_zip_eq_some];exact ⟨q1,q2⟩
 have both:∀(j:Nat) (o:Oper),ops[j]?=some o → ∃h,hs[j]?=some h:=fun j o q=>by
  have:j<hs.length:=by rw [hl];exact (Z2.1 q).1
  exact ⟨_,Z3 this⟩
 have both':∀(j:Nat) (h:Hint),hs[j]?=some h → ∃o,ops[j]?=some o:=fun j o q=>by
  have:j<ops.length:=by rw [←hl];exact (Z2.1 q).1
  exact ⟨_,Z3 this⟩
 have one:∀j o h,ops[j]?=some o→hs[j]?=some h→oneOk hs ops (ops.zip hs) j o h=true:=fun j o h q1 q2=>by
  have:=colsOk_at h2 j o h (zip j o h q1 q2)
  rwa [zq] at this
 refine ⟨hl,fun j o q e he hb=>?_,fun j i hi=>?_,fun i j oi oj hi hj q1 q2 q3 q4 hne=>?_,fun j o h q1 q2=>?_,fun j h q id hid=>?_⟩
 ·obtain ⟨h,hh⟩:=both j o q
  have:=one j o h q hh
  simp only [oneOk,z7] at this
  have h3:=zu.1 this.1.1.1.1 e (Array.mem_toList_iff.2 he)
  rw [show bindsB e=true from hb] at h3
  simpa [Nat.blt_eq] using h3
 ·unfold preOf at hi
  split at hi
  ·rename_i h hh
   obtain ⟨o,q⟩:=both' j h hh
   have:=one j o h q hh
   simp only [oneOk,z7] at this
   have h3:=zu.1 this.1.1.1.2 i hi
   simp only [z7] at h3
   refine ⟨by simpa [Nat.blt_eq] using h3.1,o,q,?_⟩
   obtain ⟨e,he,hb⟩:=List.any_eq_true.1 h3.2
   simp only [z7,Bool.or_eq_true] at hb
   refine ⟨e,Array.mem_toList_iff.1 he,hb.1,?_⟩
   rcases hb.2 with h4 | h4
   ·exact .inl (beqN.1 h4)
   ·exact .inr (YF.1 h4)
  ·cases hi
 ·have:=one j oj hj q2 q4
  simp only [oneOk,z7] at this
  have h3:=rowOk_at this.2 i oi hi (zip i oi hi q1 q3) (by omega)
  rw [zq] at h3
  refine ⟨?_,h3.2⟩
  rcases h3.1 with h4 | h4 | h4
  ·exact .inl h4
  ·exact .inr (.inl h4)
  ·simp only [apartH,z7] at h4
   exact .inr (.inr ⟨fun t ht=>by rw [ht] at h4;exact h4.1,fun id hid=>zu.1 h4.2 id (YF.1 hid)⟩)
 ·have:=one j o h q1 q2
  simp only [oneOk,z7] at this
  intro i
  cases hm:memN (kY (o.dst.getD 0) i) h.hideO with
  | false=>rfl
  | true=>
    have hf:=zu.1 this.1.1.2 _ (YF.1 hm)
    unfold freshNo kY at hf
    simp only [Bool.or_eq_true,Nat.blt_eq,zx] at hf
    rcases hf with hf | hf
    ·omega
    ·exact absurd (by omega) (JJ.1 hf)
 ·obtain ⟨o,q'⟩:=both' j h q
  have:=one j o h q' q
  simp only [oneOk,z7] at this
  simpa using zu.1 this.1.2 id (YF.1 hid)
def Uu (ops:List Oper) (S:Nat→Bool):Prop:=∀j o,ops[j]?=some o→S j=true → ∀e∈o.after,Region.binds .any e=true→S e.on=true
theorem HOk.pre_in {ops:List Oper} {hs:List Hint} (h:HOk ops hs) {S:Nat→Bool} (hc:Uu ops S):∀(j i:Nat),S j=true→i∈preOf hs j→S i=true:=by
 intro j
 induction j using Nat.strongRecOn with
 | _ j ih=>
   intro i hj hi
   obtain ⟨_,o,ho,e,he,hb,h2⟩:=h.pre j i hi
   have h3:=hc j o ho hj e he hb
   rcases h2 with h2 | h2
   ·rw [←h2];exact h3
   ·exact ih e.on (h.back j o ho e he hb) i h3 h2
theorem evSt_const (st st':St) (v:Value):evSt st (.const v)=evSt st' (.const v):=by
 cases v<;>try rfl
 case pointer q=>cases q<;>rfl
 case map q=>cases q<;>rfl
 case slice a l c=>
  cases a
  ·cases l<;>cases c<;>rfl
  ·rfl
theorem partK_nil {ρ:Type} {dst:Option Nat} {d:Dv} {k:Dv→Option ρ}:partK [] dst d k=k d:=by
 unfold partK
 cases dst<;>rfl
theorem Vy {hs:List Hint} {j:Nat} {h:Hint} (q:hs[j]?=some h):preOf hs j=h.pre:=by unfold preOf;rw [q]
section
variable {P:Program} {G:Env} {n:Nat} {w0 w w':World} {Z0:Bs} {Z Z':Nat→Prop} {st st0:St} {a:Act} {nm:Names} {ops:List Oper} {hs:List Hint} {trs:List Tr}
structure Text (G:Env) (ops:List Oper) (hs:List Hint) (st0:St) (trs:List Tr) (live:Nat→Bool):Prop where
 hok:HOk ops hs
 len:trs.length=ops.length
 step:∀(m:Nat) (o:Oper) (h:Hint) (t:Tr),ops[m]?=some o→hs[m]?=some h→trs[m]?=some t→live m=true→StepT G ops o h (foldS (fun k=>decide (k<m)) 0 trs st0) t
 rest:∀(m:Nat) (o:Oper) (t:Tr),ops[m]?=some o→trs[m]?=some t→live m=false→t=idle o
 clean:∀(m:Nat) (t:Tr),trs[m]?=some t→cleanI hs st0 trs m t=true
theorem cleanFrom_at {hs:List Hint} {st0:St} {trs:List Tr}:∀{l:List Tr} {i:Nat},VI hs st0 trs i l=true → ∀m t,l[m]?=some t→cleanI hs st0 trs (i+m) t=true
 | [],i,_,m,t,h=>by simp at h
 | u::l,i,hc,m,t,h=>by
   simp only [VI,z7] at hc
   cases m with
   | zero=>simp only [List.getElem?_cons_zero,z6] at h;subst h;exact hc.1
   | succ m=>
     have:=cleanFrom_at hc.2 m t (by simpa using h)
     rwa [show i+(m+1)=i+1+m by omega]
theorem othersOk_at {hs:List Hint} {i:Nat} {p:Tr→Bool}:∀{l:List Tr} {j0:Nat},UN hs i p j0 l=true → ∀k t,l[k]?=some t→i≠j0+k→i∉preOf hs (j0+k)→p t=true
 | [],j0,_,k,t,h,_,_=>by simp at h
 | u::l,j0,ho,k,t,h,h1,h2=>by
   simp only [UN,z7] at ho
   cases k with
   | zero=>
     simp only [List.getElem?_cons_zero,z6] at h
     subst h
     have h3:=ho.1
     rw [show Nat.beq i j0=false from JJ.2 h1] at h3
     cases hm:memN i (preOf hs j0) with
     | true=>exact absurd (YF.1 hm) h2
     | false=>rw [hm] at h3;exact h3
   | succ k=>exact othersOk_at ho.2 k t (by simpa using h) (by omega) (by rwa [show j0+1+k=j0+(k+1) by omega])
def Ha (hs:List Hint):Option Pm→Nat→Bool
 | none,_=>true
 | some q,k=>!Nat.beq k q.1 && !memN q.1 (preOf hs k)
theorem Text.of {pm:Option Pm} (hok:HOk ops hs) (h:StepsT G ops 0 none (ops.zip hs) st0 trs pm) (hc:VI hs st0 trs 0 trs=true):Text G ops hs st0 trs (Ha hs pm):=by
 obtain ⟨h1,h2⟩:=StepsT.at (fun q hq=>by cases hq) h
 have hlen:trs.length=ops.length:=by rw [h1,List.length_zip,hok.len,Nat.min_self]
 refine ⟨hok,hlen,fun m o h t q1 q2 q3 hl=>?_,fun m o t q1 q3 hl=>?_,fun m t q=>?_⟩
 ·have:=h2 m o h t (by rw [List.getElem?_zip_eq_some];exact ⟨q1,q2⟩) q3
  rw [zq] at this
  rcases this with this | ⟨q,g1,g2,g3,_⟩ | ⟨a,u,g1,_⟩
  ·exact this.1
  ·subst g1
   simp only [Ha,Vy q2,g3,Bool.not_true,Bool.and_false] at hl
   cases hl
  ·subst g1
   simp only [Ha,beqN.2 rfl,Bool.not_true,Bool.false_and] at hl
   cases hl
 ·have hh:∃h,hs[m]?=some h:=⟨_,Z3 (by rw [hok.len];exact (Z2.1 q1).1)⟩
  obtain ⟨hi,q2⟩:=hh
  have:=h2 m o hi t (by rw [List.getElem?_zip_eq_some];exact ⟨q1,q2⟩) q3
  rw [zq] at this
  rcases this with this | ⟨q,g1,g2,g3,g4⟩ | ⟨a,u,g1,g4,_⟩
  ·cases pm with
   | none=>cases hl
   | some q=>
     obtain ⟨g1,g2⟩:=this.2 q rfl
     have e1:Nat.beq m q.1=false:=JJ.2 fun hh=>g1 hh.symm
     simp only [Ha,e1,Bool.not_false,Bool.true_and,Vy q2] at hl
     by_cases hlt:q.1<m
     ·rw [g2 hlt] at hl;cases hl
     ·have:memN q.1 hi.pre=true:=by simpa using hl
      have:=(hok.pre m q.1 (by rw [Vy q2];exact YF.1 this)).1
      omega
  ·exact g4
  ·exact g4
 ·have:=cleanFrom_at hc m t q
  rwa [zq] at this
theorem nilCmp_none {o:Oper} {dst:Nat} {ev:Operand→Option Dv} {ob:Objs} {ρ:Type} {k:Eff→Option ρ} {q:Bool×Bool} (h:Vq G.tab o ev ob=some q):effK G o dst ev ob k=none:=by
 unfold Vq at h
 split at h
 ·rename_i op xt x y yt ho
  split at h
  ·rename_i s e b d htab hd hy
   have hne:d ≠ .one .nilS:=by
    rintro rfl
    cases op<;>cases h
   unfold effK
   rw [ho]
   simp only [hd,hy,htab]
   split
   all_goals first
    | (cases memN xt G.eqs.l<;>rfl)
    | (rename_i h1 h2;cases h1;done)
    | (rename_i h1 h2;cases h2;done)
    | (rename_i h1 h2;cases h1;cases h2;done)
    | (rename_i h1;cases h1;done)
    | (exact absurd rfl hne)
    | (exfalso;simp_all;done)
  ·cases h
 ·cases h
theorem altOf_none {o:Oper} {ev:Operand→Option Dv} {ob:Objs} {ρ:Type} {k:Eff→Option ρ} {q:MAlt×List Dv} (h:altOf G o ev ob=some q):effK G o (o.dst.getD 0) ev ob k=none:=by
 unfold altOf at h
 split at h
 ·rename_i c ho
  split at h
  ·rename_i x hc
   split at h
   ·rename_i f fs cs as h1 h2
    split at h
    ·rename_i ma h3 h4 h5
     unfold effK
     rw [ho]
     simp only [hc,h1,h2,h3]
     unfold HP
     rw [h4]
    ·cases h
   ·cases h
  ·cases h
 ·cases h
noncomputable def runK {ρ:Type} (G:Env) (gs:List Nat) (o:Oper) (st:St) (k kp:St→Option ρ):Option ρ:=match Vq G.tab o (evSt st) (look st.objs) with
 | some (q,emp)=>
   br emp (bif memN (46000000+o.dst.getD 0) G.muts then none else both (partK gs o.dst (vB q) fun d=>layK G.n st o.dst d [] k) (partK gs o.dst (vB !q) fun d=>layK G.n st o.dst d [] k))
    (partK gs o.dst (vB !q) fun d=>layK G.n st o.dst d [] k)
 | none=>match o.op with
   | .panic x=>match evSt st x with
     | some (.one (.val (.ifc T s) y))=>(match thrown st (.val (.ifc T s) y) with
       | some s=>kp s
       | none=>none)
     | _=>none
   | _=>match altOf G o (evSt st) (look st.objs) with
     | some (ma,ds)=>altK G gs o st ma ds k kp
     | none=>effK G o (o.dst.getD 0) (evSt st) (look st.objs) fun e=>
       partK gs o.dst e.dv fun d=>layK G.n st o.dst d e.upd k
theorem stepK_eq {ρ:Type} {ops:List Oper} {gs:List Nat} {o:Oper} {st:St} {k kp:St→Option ρ}:stepK G ops gs o st k kp=(match o.guard with
 | none=>runK G gs o st k kp
 | some (j,want)=>match (ops[j]?).bind (·.dst) with
   | some g=>match look st.slots g with
     | some (.one (.val .bool b))=>br (b==want) (runK G gs o st k kp) (layK G.n st o.dst (.tup []) [] k)
     | some (.tup [])=>layK G.n st o.dst (.tup []) [] k
     | _=>none
   | none=>none):=rfl
theorem runK_eff {ρ:Type} {gs:List Nat} {o:Oper} {st:St} {k kp:St→Option ρ} {r:ρ} (run:(effK G o (o.dst.getD 0) (evSt st) (look st.objs) fun e=>partK gs o.dst e.dv fun d=>layK G.n st o.dst d e.upd k)=some r):runK G gs o st k kp=some r:=by
 have hnil:Vq G.tab o (evSt st) (look st.objs)=none:=by
  cases hn:Vq G.tab o (evSt st) (look st.objs) with
  | none=>rfl
  | some q=>rw [nilCmp_none hn] at run;cases run
 have halt:altOf G o (evSt st) (look st.objs)=none:=by
  cases hn:altOf G o (evSt st) (look st.objs) with
  | none=>rfl
  | some q=>rw [altOf_none hn] at run;cases run
 have hop:∀x,o.op ≠ .panic x:=by
  intro x ho
  unfold effK at run
  rw [ho] at run
  cases run
 unfold runK
 simp only [hnil,halt]
 cases ho2:o.op<;>first | exact absurd ho2 (hop _) | exact run
theorem runK_alt {ρ:Type} {gs:List Nat} {o:Oper} {st:St} {k kp:St→Option ρ} {ma:MAlt} {ds:List Dv} (h:altOf G o (evSt st) (look st.objs)=some (ma,ds)):runK G gs o st k kp=altK G gs o st ma ds k kp:=by
 obtain ⟨c,hc⟩:∃c,o.op=.call c:=by
  unfold altOf at h
  split at h
  ·rename_i c hc;exact ⟨c,hc⟩
  ·cases h
 have hnil:Vq G.tab o (evSt st) (look st.objs)=none:=by
  unfold Vq
  rw [hc]
 unfold runK
 rw [hnil]
 simp only [hc,h]
theorem Text.agree {live:Nat→Bool} (T:Text G ops hs st0 trs live) {S:Nat→Bool} (hc:Uu ops S) {m:Nat} {o:Oper} {h:Hint} (ho:ops[m]?=some o) (hh:hs[m]?=some h) (hm:S m=false)
 (hr:∀e∈o.after,Region.binds .any e=true→S e.on=true) {k:Nat} (hk:k∈preOf hs m∨m∈preOf hs k∨k=m):S k=decide (k<m):=by
 rcases hk with hk | hk | hk
 ·obtain ⟨h1,o',ho',e,he,hb,h2⟩:=T.hok.pre m k hk
  rw [ho] at ho';cases ho'
  have h3:=hr e he hb
  have:S k=true:=by
   rcases h2 with h2 | h2
   ·rw [←h2];exact h3
   ·exact T.hok.pre_in hc e.on k h3 h2
  rw [this];simp [h1]
 ·obtain ⟨h1,_⟩:=T.hok.pre k m hk
  have:S k=false:=by
   cases hs':S k with
   | false=>rfl
   | true=>rw [T.hok.pre_in hc k m hs' hk] at hm;cases hm
  rw [this];simp;omega
 ·subst hk;rw [hm];simp
theorem Text.sees {live:Nat→Bool} (T:Text G ops hs st0 trs live) {S:Nat→Bool} (hc:Uu ops S) {m:Nat} {o:Oper} {h:Hint} (ho:ops[m]?=some o) (hh:hs[m]?=some h) (hm:S m=false)
 (hr:∀e∈o.after,Region.binds .any e=true→S e.on=true) :
 (∀s,memN s h.hideS=false∨o.dst=some s→look (foldS S 0 trs st0).slots s=look (foldS (fun k=>decide (k<m)) 0 trs st0).slots s) ∧
 (∀id,memN id h.hideO=false→look (foldS S 0 trs st0).objs id=look (foldS (fun k=>decide (k<m)) 0 trs st0).objs id) ∧
 ExtE (evM (foldS (fun k=>decide (k<m)) 0 trs st0) h.hideS) (evSt (foldS S 0 trs st0)) (obM (foldS (fun k=>decide (k<m)) 0 trs st0) h.hideO) (look (foldS S 0 trs st0).objs) (o.dst.getD 0):=by
 have agree:=fun {k}=>T.agree (k:=k) hc ho hh hm hr
 have wrOf:∀(k:Nat) (u:Tr) (hk:Hint) (ok:Oper),trs[k]?=some u→hs[k]?=some hk→ops[k]?=some ok→u.dst=ok.dst ∧ ∀id ob,(id,ob)∈u.upd→memN id hk.wr=true:=by
  intro k u hk ok q1 q2 q3
  cases hlk:live k with
  | false=>rw [T.rest k ok u q3 q1 hlk];exact ⟨rfl,fun id ob hu=>by cases hu⟩
  | true=>
  obtain ⟨h1,h2⟩:=T.step k ok hk u q3 q2 q1 hlk
  refine ⟨h1,fun id ob hu=>?_⟩
  rcases h2 with ⟨e,hran⟩ | hsk
  ·have:=hran.ok
   rw [←hran.upd] at this
   unfold okUpd at this
   rw [z7,zu] at this
   exact this.1 _ hu
  ·rw [hsk.upd] at hu;cases hu
 have get:∀(k:Nat) (u:Tr),trs[k]?=some u → ∃(ok:Oper) (hk:Hint),ops[k]?=some ok∧hs[k]?=some hk:=by
  intro k u q
  have h1:k<ops.length:=by rw [←T.len];exact (Z2.1 q).1
  have h2:k<hs.length:=by rw [T.hok.len];exact h1
  exact ⟨_,_,Z3 h1,Z3 h2⟩
 have slot:∀s,memN s h.hideS=false∨o.dst=some s→look (foldS S 0 trs st0).slots s=look (foldS (fun k=>decide (k<m)) 0 trs st0).slots s:=by
  intro s hs'
  refine foldS_slot rfl (fun k u q1 q2=>?_)
  rw [zq]
  obtain ⟨ok,hk,q3,q4⟩:=get k u q1
  by_cases hkm:k=m
  ·exact agree (.inr (.inr hkm))
  ·obtain ⟨a1,a2⟩:=T.hok.apart k m ok o hk h q3 ho q4 hh hkm
   rw [(wrOf k u hk ok q1 q4 q3).1] at q2
   rcases a1 with a1 | a1 | a1
   ·exact agree (.inl (by rw [Vy hh];exact a1))
   ·exact agree (.inr (.inl (by rw [Vy q4];exact a1)))
   ·rcases hs' with hs' | hs'
    ·rw [a1.1 s q2] at hs';cases hs'
    ·exact absurd hs' (a2 s q2)
 have obj:∀id,memN id h.hideO=false→look (foldS S 0 trs st0).objs id=look (foldS (fun k=>decide (k<m)) 0 trs st0).objs id:=by
  intro s hs'
  refine foldS_obj rfl (fun k u ob q1 q2=>?_)
  rw [zq]
  obtain ⟨ok,hk,q3,q4⟩:=get k u q1
  by_cases hkm:k=m
  ·exact agree (.inr (.inr hkm))
  ·obtain ⟨a1,a2⟩:=T.hok.apart k m ok o hk h q3 ho q4 hh hkm
   rcases a1 with a1 | a1 | a1
   ·exact agree (.inl (by rw [Vy hh];exact a1))
   ·exact agree (.inr (.inl (by rw [Vy q4];exact a1)))
   ·rw [a1.2 s ((wrOf k u hk ok q1 q4 q3).2 s ob q2)] at hs';cases hs'
 refine ⟨slot,obj,fun {x d} hx=>?_,fun {i b} hb=>?_,?_⟩
 ·cases x with
  | tmp t'=>
    simp only [evM] at hx
    cases hmm:memN t' h.hideS with
    | true=>rw [hmm] at hx;cases hx
    | false=>rw [hmm] at hx;simp only [evSt];rw [slot t' (.inl hmm)];exact hx
  | const v=>rw [evSt_const _ (foldS (fun k=>decide (k<m)) 0 trs st0)];exact hx
  | _=>exact hx
 ·unfold obM at hb
  cases hmm:memN i h.hideO with
  | true=>rw [hmm] at hb;cases hb
  | false=>rw [hmm] at hb;rw [obj i hmm];exact hb
 ·intro i
  have:=T.hok.selfD m o h ho hh i
  unfold obM
  rw [this,obj _ this];rfl
theorem Text.step_at {live:Nat→Bool} (T:Text G ops hs st0 trs live) {S:Nat→Bool} (hc:Uu ops S) {m:Nat} {o:Oper} {h:Hint} {t:Tr} (ho:ops[m]?=some o) (hh:hs[m]?=some h) (ht:trs[m]?=some t) (hm:S m=false) (hlive:live m=true)
 (hr:∀e∈o.after,Region.binds .any e=true→S e.on=true) :
 stepK G ops [] o (foldS S 0 trs st0) some (fun _=>none)=some (foldS (fun k=>S k||decide (k=m)) 0 trs st0):=by
 obtain ⟨hd,hst⟩:=T.step m o h t ho hh ht hlive
 have wrOf:∀(k:Nat) (u:Tr) (hk:Hint) (ok:Oper),trs[k]?=some u→hs[k]?=some hk→ops[k]?=some ok→u.dst=ok.dst ∧ ∀id ob,(id,ob)∈u.upd→memN id hk.wr=true:=by
  intro k u hk ok q1 q2 q3
  cases hlk:live k with
  | false=>rw [T.rest k ok u q3 q1 hlk];exact ⟨rfl,fun id ob hu=>by cases hu⟩
  | true=>
  obtain ⟨h1,h2⟩:=T.step k ok hk u q3 q2 q1 hlk
  refine ⟨h1,fun id ob hu=>?_⟩
  rcases h2 with ⟨e,hran⟩ | hsk
  ·have:=hran.ok
   rw [←hran.upd] at this
   unfold okUpd at this
   rw [z7,zu] at this
   exact this.1 _ hu
  ·rw [hsk.upd] at hu;cases hu
 have get:∀(k:Nat) (u:Tr),trs[k]?=some u → ∃(ok:Oper) (hk:Hint),ops[k]?=some ok∧hs[k]?=some hk:=by
  intro k u q
  have h1:k<ops.length:=by rw [←T.len];exact (Z2.1 q).1
  have h2:k<hs.length:=by rw [T.hok.len];exact h1
  exact ⟨_,_,Z3 h1,Z3 h2⟩
 obtain ⟨slot,obj,hext⟩:=T.sees hc ho hh hm hr
 have more:foldS (fun k=>S k||decide (k=m)) 0 trs st0=t.lay (foldS S 0 trs st0):=by
  have:=foldS_more (S:=S) (m:=m) (t:=t) (i:=0) (trs:=trs) (st:=st0) (by rwa [zq]) ht (fun k u q1 hlt hsk=>by
   rw [zq] at hsk
   obtain ⟨ok,hk,q3,q4⟩:=get k u q1
   obtain ⟨a1,a2⟩:=T.hok.apart m k o ok h hk ho q3 hh q4 (by omega)
   refine ⟨fun s h1 h2=>?_,fun p hp q hq h12=>?_⟩
   ·rw [hd] at h1
    rw [(wrOf k u hk ok q1 q4 q3).1] at h2
    exact a2 s h1 h2
   ·have w1:=(wrOf m t h o ht hh ho).2 p.1 p.2 hp
    have w2:=(wrOf k u hk ok q1 q4 q3).2 p.1 q.2 (by rw [h12];exact hq)
    have w3:=T.hok.selfW k hk q4 p.1 w2
    rcases a1 with a1 | a1 | a1
    ·rw [T.hok.pre_in hc k m hsk (by rw [Vy q4];exact a1)] at hm;cases hm
    ·have:=(T.hok.pre m k (by rw [Vy hh];exact a1)).1;omega
    ·rw [a1.2 p.1 w1] at w3;cases w3)
  simpa using this
 rw [more]
 have guard:∀c,UL ops h (foldS (fun k=>decide (k<m)) 0 trs st0) o c → ∃j want g,o.guard=some (j,want)∧(ops[j]?).bind (·.dst)=some g∧((∃b,look (foldS S 0 trs st0).slots g=some (.one (.val .bool b))∧(b==want)=c)∨(look (foldS S 0 trs st0).slots g=some (.tup [])∧c=false)):=by
  rintro c ⟨j,want,g,g1,g2,g3,g4⟩
  refine ⟨j,want,g,g1,g2,?_⟩
  rw [slot g (.inl g3)]
  exact g4
 rcases hst with ⟨e,hran⟩ | hsk
 ·
  have others:∀p:Tr→Bool,UN hs m p 0 trs=true → ∀k u,trs[k]?=some u→S (0+k)=true→p u=true:=by
   intro p hp k u q1 q2
   rw [zq] at q2
   refine othersOk_at hp k u q1 ?_ ?_
   ·intro hh';rw [zq] at hh';subst hh';rw [hm] at q2;cases q2
   ·intro hh';rw [zq] at hh';rw [T.hok.pre_in hc k m q2 hh'] at hm;cases hm
  
  have may1:∀(ahead:Upd) id ob,memN id h.wr=true→(∀p∈ahead,p.1≠id)→clean1 hs st0 trs m ahead id ob (need1 (foldS (fun k=>decide (k<m)) 0 trs st0) id ob)=true →
   mayOb ⟨(foldS (fun k=>decide (k<m)) 0 trs st0).slots,kh ahead (foldS (fun k=>decide (k<m)) 0 trs st0).objs⟩ id ob=true →
   mayOb ⟨(foldS S 0 trs st0).slots,kh ahead (foldS S 0 trs st0).objs⟩ id ob=true:=by
   intro ahead id ob hw hne hcl h1
   have ho':=obj id (T.hok.selfW m h hh id hw)
   unfold mayOb at h1 ⊢
   simp only [insAll_ne hne] at h1 ⊢
   rw [ho']
   unfold need1 at hcl
   obtain ⟨x,hx⟩:∃x,look (foldS (fun k=>decide (k<m)) 0 trs st0).objs id=x:=⟨_,rfl⟩
   rw [hx] at h1 ⊢
   simp only [hx] at hcl
   clear hx
   cases x with
   | none=>
     simp only [clean1] at hcl
     unfold St.free at hcl ⊢
     rw [z7,z7,z7] at hcl
     obtain ⟨⟨⟨c1,c2⟩,c3⟩,c4⟩:=hcl
     have:=UV (S:=S) (i:=0) (trs:=trs) c1 c2 (fun k u q1 q2=>by
      have h3:=others _ c4 k u q1 q2
      simp only [Tr.noMention,z7] at h3
      refine ⟨fun s d hd=>?_,fun q hq=>?_⟩
      ·rw [hd] at h3;exact h3.1
      ·have h5:=zu.1 h3.2 q hq
       exact h5)
     have t2:=Uy this.2 (fun q hq=>zu.1 c3 q hq)
     simp only [z7] at h1 ⊢
     exact ⟨h1.1,this.1,t2⟩
   | some ob0=>
     cases ob0 with
     | box cs=>exact h1
     | clo f y z=>exact h1
     | gone=>exact h1
     | arr v fz ty s xs=>
       cases ob with
       | box cs=>exact h1
       | clo f y z=>exact h1
       | gone=>exact h1
       | arr v' fz' ty' s' xs'=>
         cases hv:Nat.beq v v' with
         | true=>simp only [hv,Bool.true_or]
         | false=>
           simp only [hv,zf,Bool.false_or] at hcl h1 ⊢
           simp only [clean1] at hcl
           unfold St.noVer at hcl ⊢
           rw [z7,z7,z7] at hcl
           obtain ⟨⟨⟨c1,c2⟩,c3⟩,c4⟩:=hcl
           have:=UV (S:=S) (i:=0) (trs:=trs) c1 c2 (fun k u q1 q2=>by
            have h3:=others _ c4 k u q1 q2
            simp only [Tr.noVer,z7] at h3
            refine ⟨fun s d hd=>?_,fun q hq=>?_⟩
            ·rw [hd] at h3;exact h3.1
            ·exact zu.1 h3.2 q hq)
           have t2:=Uy this.2 (fun q hq=>zu.1 c3 q hq)
           rw [z7] at h1 ⊢
           exact ⟨h1.1,by rw [z7];exact ⟨this.1,t2⟩⟩
  have mays:∀(u ahead:Upd),(u.all fun p=>memN p.1 h.wr)=true→Hl u=true→(∀p∈ahead,∀q∈u,p.1≠q.1) →
   cleanU hs st0 trs m ahead u (UC (foldS (fun k=>decide (k<m)) 0 trs st0) u)=true →
   (JE ⟨(foldS (fun k=>decide (k<m)) 0 trs st0).slots,kh ahead (foldS (fun k=>decide (k<m)) 0 trs st0).objs⟩ u).isSome=true →
   (JE ⟨(foldS S 0 trs st0).slots,kh ahead (foldS S 0 trs st0).objs⟩ u).isSome=true:=by
   intro u
   induction u with
   | nil=>intro _ _ _ _ _ _;rfl
   | cons p r ih=>
     obtain ⟨id,ob⟩:=p
     intro ahead a1 a2 a3 a4 a5
     rw [List.all_cons,z7] at a1
     simp only [Hl,z7,zu] at a2
     simp only [UC,cleanU,z7] at a4
     simp only [JE] at a5 ⊢
     cases hmo:mayOb ⟨(foldS (fun k=>decide (k<m)) 0 trs st0).slots,kh ahead (foldS (fun k=>decide (k<m)) 0 trs st0).objs⟩ id ob with
     | false=>rw [hmo] at a5;cases a5
     | true=>
       rw [hmo] at a5
       rw [may1 ahead id ob a1.1 (fun p hp=>a3 p hp (id,ob) (by simp)) a4.1 hmo]
       have e:∀l,ins id ob (kh ahead l)=kh (ahead++[(id,ob)]) l:=by
        intro l
        clear ih a1 a2 a3 a4 a5 hmo
        induction ahead generalizing l with
        | nil=>rfl
        | cons p r ih=>exact ih _
       simp only [ze,e] at a5 ⊢
       refine ih (ahead++[(id,ob)]) a1.2 a2.2 ?_ a4.2 a5
       intro p hp q hq
       rcases List.mem_append.1 hp with hp | hp
       ·exact a3 p hp q (zv _ hq)
       ·have:p=(id,ob):=by simpa using hp
        subst this
        have h9:=a2.1 q hq
        intro h10
        rw [←h10,beqN.2 rfl] at h9
        cases h9
  have may:(JE (foldS S 0 trs st0) e.upd).isSome=true:=by
   have hok:=hran.ok
   unfold okUpd at hok
   rw [z7] at hok
   have hcl:=T.clean m t ht
   unfold cleanI at hcl
   rw [hran.upd,hran.need] at hcl
   exact mays e.upd [] hok.1 hok.2 (fun p hp=>by cases hp) hcl hran.may
  have hl:=lay_of (n:=G.n) (st:=foldS S 0 trs st0) (t:=t) hran.dv hran.upd may (fun s hs'=>hran.dst s (by rw [←hd];exact hs'))
  have hl':lay G.n (foldS S 0 trs st0) o.dst e.dv e.upd=some (t.lay (foldS S 0 trs st0)):=by rw [←hd];exact hl
  have run:runK G [] o (foldS S 0 trs st0) some (fun _=>none)=some (t.lay (foldS S 0 trs st0)):=by
   rcases hran.eff with heff | ⟨ma,ds,x,u,σ,y,d,v,hF,hy,rfl⟩
   ·refine runK_eff ?_
    rw [heff hext,partK_nil]
    unfold layK
    rw [hl']
   ·obtain ⟨q1,q2,q3⟩:=hF hext
    rw [runK_alt q1]
    unfold altK
    simp only [q2,hy,bnd,sel,q3,partK_nil]
    unfold layK
    rw [hl']
  rw [stepK_eq]
  rcases hran.guard with hg | hg
  ·rw [hg]
   exact run
  ·obtain ⟨j,want,g,g1,g2,g3⟩:=guard true hg
   rcases g3 with ⟨b,g3,g4⟩ | ⟨_,g4⟩
   ·rw [g1]
    simp only [g2,g3,g4,br]
    exact run
   ·cases g4
 ·obtain ⟨j,want,g,g1,g2,g3⟩:=guard false hsk.guard
  have hl:=lay_of (n:=G.n) (st:=foldS S 0 trs st0) (t:=t) hsk.dv hsk.upd rfl (fun s hs'=>hsk.dst s (by rw [←hd];exact hs'))
  have hl':layK G.n (foldS S 0 trs st0) o.dst (.tup []) [] some=some (t.lay (foldS S 0 trs st0)):=by
   unfold layK
   rw [←hd,hl]
  unfold stepK
  rcases g3 with ⟨b,g3,g4⟩ | ⟨g3,_⟩
  ·simp only [g1,g2,g3,g4,br]
   exact hl'
  ·simp only [g1,g2,g3]
   exact hl'
def left (listed:Array Bool):Nat:=listed.toList.count false
theorem left_set {listed:Array Bool} {i:Nat} (hi:listed.getD i true=false):left (listed.setIfInBounds i true)+1=left listed:=by
 have hlt:i<listed.size:=by
  rcases Nat.lt_or_ge i listed.size with h | h
  ·exact h
  ·simp [Array.getElem?_eq_none h] at hi
 have hv:listed.toList[i]'(by simpa using hlt)=false:=by simpa [hlt] using hi
 unfold left
 rw [Array.toList_setIfInBounds,List.count_set (by simpa using hlt)]
 rw [hv]
 have:0<listed.toList.count false:=List.count_pos_iff.2 (hv▸List.getElem_mem _)
 have e1:(if (false==false)=true then 1 else 0)=1:=rfl
 have e2:(if (true==false)=true then 1 else 0)=0:=rfl
 rw [e1,e2]
 omega
theorem left_zero {listed:Array Bool} (h:left listed=0) {i:Nat} (hi:i<listed.size):listed.getD i false=true:=by
 have h1:=List.count_eq_zero.1 h
 have:listed[i]∈listed.toList:=by simp
 cases hb:listed[i] with
 | true=>simp [hi,hb]
 | false=>rw [hb] at this;exact absurd this h1
variable {ops':Array Oper} {Q:Exit→Act→World→Prop}
theorem ready_closed {listed:Array Bool} (hc:Uu ops'.toList fun i=>listed.getD i false) {i:Nat} (hi:i∈Region.ready .any ops' listed):Uu ops'.toList fun k=>(listed.setIfInBounds i true).getD k false:=by
 obtain ⟨h1,o,ho,h2⟩:=mem_ready.1 hi
 intro j oj hj hl e he hb
 by_cases hji:j=i
 ·subst hji
  have:oj=o:=by
   rw [Array.getElem?_toList] at hj
   exact Option.some.inj (hj.symm.trans ho)
  subst this
  exact getD_set_true (h2 e he hb)
 ·have:listed.getD j false=true:=by simpa only [getD_set_ne false (Ne.symm hji)] using hl
  exact getD_set_true (hc j oj hj this e he hb)
theorem all_of_ready {listed:Array Bool} (hok:HOk ops'.toList hs) (hsz:listed.size=ops'.size) (hr:Region.ready .any ops' listed=[]):∀i,i<ops'.size→listed.getD i false=true:=by
 intro i
 induction i using Nat.strongRecOn with
 | _ i ih=>
   intro hi
   cases hl:listed.getD i false with
   | true=>rfl
   | false=>
     have:i∈Region.ready .any ops' listed:=by
      refine mem_ready.2 ⟨?_,ops'[i],Array.getElem?_eq_getElem hi,fun e he hb=>?_⟩
      ·have h1:i<listed.size:=by omega
       simp [h1] at hl ⊢
       exact hl
      ·have h1:=hok.back i ops'[i] (by rw [Array.getElem?_toList];exact Array.getElem?_eq_getElem hi) e he hb
       exact ih e.on h1 (by omega)
     rw [hr] at this
     cases this
theorem wrOps_mem {l:List Oper} {i:Nat} {o:Oper} (h:l[i]?=some o) {t:Nat} (ht:memN t (wrOps l)=false):memN t o.dst.toList=false:=by
 cases hd:o.dst with
 | none=>rfl
 | some s=>
   cases hb:memN t [s] with
   | false=>exact hb
   | true=>
     have:memN t (wrOps l)=true:=by
      rw [YF] at hb ⊢
      have e:t=s:=by simpa using hb
      subst e
      exact List.mem_filterMap.2 ⟨o,List.mem_of_getElem? h,hd⟩
     rw [this] at ht;cases ht
theorem drawn_any (hT:TabOk P G.tab) (hF:AllOk P G) (rd:Option Nat) (m:Nat) (T:Text G ops'.toList hs st0 trs (Ha hs none))
 {a0:Act} (hq:∀a' w' nm',Rel G.n w0 Z0 (foldS (fun _=>true) 0 trs st0) a' w' nm'→KeepT (wrOps ops'.toList) a0 a'→Q .normal a' w'):∀(fuel:Nat) (listed:Array Bool) (a:Act) (w:World) (nm:Names),
 listed.size=ops'.size→left listed=fuel→Uu ops'.toList (fun i=>listed.getD i false)→Rel G.n w0 Z0 (foldS (fun i=>listed.getD i false) 0 trs st0) a w nm→KeepT (wrOps ops'.toList) a0 a →
 wpAnyIn (Fr rd) m P .any ops' Q fuel listed a w:=by
 have fin:∀(listed:Array Bool) (a:Act) (w:World) (nm:Names),(∀i,i<ops'.size→listed.getD i false=true)→Rel G.n w0 Z0 (foldS (fun i=>listed.getD i false) 0 trs st0) a w nm→KeepT (wrOps ops'.toList) a0 a→Q .normal a w:=by
  intro listed a w nm h1 h2 h3
  refine hq a w nm ?_ h3
  rwa [VZ (S':=fun _=>true) (fun k hk=>by
   rw [zq]
   exact h1 k (by rw [T.len] at hk;simpa using hk))] at h2
 intro fuel
 induction fuel with
 | zero=>
   intro listed a w nm hsz hf hc hrel hkt
   have hall:∀i,i<ops'.size→listed.getD i false=true:=fun i hi=>left_zero hf (by omega)
   refine ⟨?_,fin listed a w nm hall hrel hkt⟩
   cases hr:Region.ready .any ops' listed with
   | nil=>rfl
   | cons i l=>
     have hi:i∈Region.ready .any ops' listed:=by rw [hr];simp
     obtain ⟨h1,o,ho,_⟩:=mem_ready.1 hi
     have hlt:i<ops'.size:=(Array.getElem?_eq_some_iff.1 ho).1
     have h2:=hall i hlt
     have h3:i<listed.size:=by omega
     simp [h3] at h1 h2
     rw [h1] at h2;cases h2
 | succ fuel ih=>
   intro listed a w nm hsz hf hc hrel hkt
   refine ⟨fun hr=>fin listed a w nm (all_of_ready T.hok hsz hr) hrel hkt,fun i hi=>?_⟩
   obtain ⟨h1,o,ho,h2⟩:=mem_ready.1 hi
   have hlt:i<ops'.size:=(Array.getElem?_eq_some_iff.1 ho).1
   have ho':ops'.toList[i]?=some o:=by rw [Array.getElem?_toList];exact ho
   have hh:∃h,hs[i]?=some h:=⟨_,Z3 (by rw [T.hok.len];simpa using hlt)⟩
   have ht:∃t,trs[i]?=some t:=⟨_,Z3 (by rw [T.len];simpa using hlt)⟩
   obtain ⟨h,hh⟩:=hh
   obtain ⟨t,ht⟩:=ht
   have hm:listed.getD i false=false:=by
    have h3:i<listed.size:=by omega
    simp [h3] at h1 ⊢
    exact h1
   have hstep:=T.step_at (S:=fun i=>listed.getD i false) hc ho' hh ht hm rfl h2
   have:=stepK_sound (P:=P) (Q:=Q) (K:=wpAnyIn (Fr rd) m P .any ops' Q fuel (listed.setIfInBounds i true)) (gs:=[]) hT hF hrel hstep (fun st' a' w' nm' h' hk' hput=>by
    simp only [z6] at hk'
    subst hk'
    refine ih _ a' w' nm' (by simpa using hsz) ?_ (ready_closed hc hi) ?_ (hkt.trans fun t ht=>hput t (wrOps_mem ho' ht))
    ·have:=left_set h1
     omega
    ·rwa [VZ (S':=fun k=>listed.getD k false||decide (k=i)) (fun k hk=>by
      rw [zq]
      by_cases hki:k=i
      ·subst hki
       have h3:k<listed.size:=by omega
       simp [h3]
      ·rw [getD_set_ne false (Ne.symm hki)];simp [hki])]) (fun _ _ _ _ _ _ _ hk'=>by cases hk') rd m
   unfold wpOpIn
   rw [ho]
   exact this
theorem Rel.sub (h:Rel n w0 Z0 st a w nm) {st2:St} (hs:∀t d,look st2.slots t=some d→look st.slots t=some d) (ho:∀id ob,look st2.objs id=some ob→look st.objs id=some ob):Rel n w0 Z0 st2 a w nm:=by
 have hz:Kept w w (Zc w0 Z0 nm st.objs w) (Zc w0 Z0 nm st2.objs w):=fun b hb=>⟨HM (fun id ob h1 h2=>⟨ob,ho _ _ h1,h2⟩) hb,rfl⟩
 have hat:∀x,AtOk nm nm st.objs st2.objs x:=fun x id _=>⟨fun ver fz e t xs h1 _=>⟨rfl,fz,xs,ho _ _ h1,rfl⟩,fun cs h1=>⟨rfl,cs,ho _ _ h1⟩,fun f y z h1=>⟨rfl,f,y,z,ho _ _ h1⟩⟩
 refine ⟨h.defk hz,h.size,fun t d ht=>?_,fun id ob h1=>?_,fun id ob b h1 hb=>h.new id ob b (ho _ _ h1) hb,fun id id' ob ob' b h1 h2=>h.inj id id' ob ob' b (ho _ _ h1) (ho _ _ h2),h.same,fun id ob hg h1=>h.given id ob hg (ho _ _ h1),h.glob,h.calm⟩
 ·obtain ⟨v,h1,h2⟩:=h.slots t d (hs _ _ ht)
  refine ⟨v,h1,kI hz.weak ?_ h2⟩
  cases d<;>simp only [DvOk]<;>first | exact hat _ | exact fun x _=>hat x
 ·refine Yf hz.weak rfl (fun _ _=>rfl) ?_ (h.objs id ob (ho _ _ h1))
  cases ob<;>simp only [ObOk]<;>first | trivial | exact fun x _=>hat x | exact ⟨fun x _=>hat x,fun x _=>hat x⟩
theorem layObs_same {st0:St}:∀{u:Upd} {st:St},(∀p∈u,look st.objs p.1=look st0.objs p.1)→Hl u=true→(∀p∈u,sameOb (look st0.objs p.1) p.2=true)→JE st u=some ⟨st.slots,kh u st.objs⟩
 | [],st,_,_,_=>rfl
 | (id,ob)::r,st,h1,h2,h3=>by
   simp only [Hl,z7,zu] at h2
   have hm:mayOb st id ob=true:=by
    have q1:=h1 (id,ob) (by simp)
    have q2:=h3 (id,ob) (by simp)
    simp only at q1 q2
    unfold mayOb
    rw [q1]
    unfold sameOb at q2
    split at q2
    ·rename_i e;rw [e]
    ·rename_i e;rw [e];simp only [q2,Bool.true_or]
    ·rename_i e;rw [e]
    ·rename_i e;rw [e]
    ·cases q2
   simp only [JE,hm,ze]
   refine layObs_same (fun p hp=>?_) h2.2 fun p hp=>h3 p (zv _ hp)
   have:=h2.1 p hp
   rw [Jm,if_neg]
   ·exact h1 p (zv _ hp)
   ·intro hh
    rw [hh,beqN.2 rfl] at this
    cases this
theorem look_gone {α:Type} {id:Nat}:∀{l:List (Nat×α)},(l.all fun p=>!Nat.beq p.1 id)=true→look l id=none
 | [],_=>rfl
 | (s,u)::l,h=>by
   rw [List.all_cons,z7] at h
   simp only [look]
   have h1:Nat.beq s id=false:=by simpa using h.1
   rw [h1]
   exact look_gone h.2
theorem othersNew_at {pre:List Nat} {objs:List (Nat×Ob)}:∀{l:List Tr} {i:Nat},othersNew pre objs i l=true → ∀k t,l[k]?=some t→i+k∉pre → ∀p∈t.upd,look objs p.1=none
 | [],i,_,k,t,h,_=>by simp at h
 | u::l,i,ho,k,t,h,hn=>by
   simp only [othersNew,z7] at ho
   cases k with
   | zero=>
     simp only [List.getElem?_cons_zero,z6] at h
     subst h
     have h1:=ho.1
     have hn:memN i pre=false:=by
      cases hb:memN i pre with
      | false=>rfl
      | true=>exact absurd (YF.1 hb) hn
     rw [hn,Bool.false_or] at h1
     exact fun p hp=>by simpa using zu.1 h1 p hp
   | succ k=>exact othersNew_at ho.2 k t (by simpa using h) (by rwa [show i+1+k=i+(k+1) by omega])
def kept1 (ks:List Nat) (tr:List Tr) (s:Nat):Bool:=memN s ks&&tr.all fun t=>match t.dst with | some s'=>!Nat.beq s' s | none=>true
theorem keepSlots_cons {ks:List Nat} {tr:List Tr} {p:Nat×Dv} {r:List (Nat×Dv)}:Vi ks tr (p::r)=bif kept1 ks tr p.1 then p::Vi ks tr r else Vi ks tr r:=rfl
theorem keepSlots_none {ks:List Nat} {tr:List Tr} {s:Nat} (h:kept1 ks tr s=false):∀l:List (Nat×Dv),look (Vi ks tr l) s=none
 | []=>rfl
 | q::l=>by
   rw [keepSlots_cons]
   cases hq:kept1 ks tr q.1 with
   | false=>rw [zf];exact keepSlots_none h l
   | true=>
     rw [ze,look]
     cases hb:Nat.beq q.1 s with
     | false=>exact keepSlots_none h l
     | true=>rw [beqN.1 hb,h] at hq;cases hq
theorem keepSlots_look {ks:List Nat} {tr:List Tr} {s:Nat} {d:Dv}:∀{l:List (Nat×Dv)},look (Vi ks tr l) s=some d→look l s=some d ∧ ∀t∈tr,t.dst≠some s
 | [],h=>by simp [Vi,look] at h
 | p::r,h=>by
   cases hk:kept1 ks tr s with
   | false=>rw [keepSlots_none hk] at h;cases h
   | true=>
     refine ⟨?_,fun t ht he=>?_⟩
     ·rw [keepSlots_cons] at h
      rw [look]
      cases hb:Nat.beq p.1 s with
      | true=>
        rw [beqN.1 hb,hk,ze,look,hb,ze] at h
        rw [ze];exact h
      | false=>
        rw [zf]
        cases hc:kept1 ks tr p.1 with
        | true=>rw [hc,ze,look,hb,zf] at h;exact (keepSlots_look h).1
        | false=>rw [hc,zf] at h;exact (keepSlots_look h).1
     ·unfold kept1 at hk
      rw [z7] at hk
      have:=zu.1 hk.2 t ht
      rw [he] at this
      have h2:Nat.beq s s=true:=beqN.2 rfl
      simp [h2] at this
theorem panSt_of {ks:List Nat} {S:Nat→Bool} {m:Nat} {x:At} {u:Upd} (hpre:∀k∈preOf hs m,S k=true) (hok:panOk hs m st0 trs x u=true) :
 JE (foldS S 0 trs st0) u=some ⟨(foldS S 0 trs st0).slots,kh u (foldS S 0 trs st0).objs⟩ ∧
 thrown ⟨(foldS S 0 trs st0).slots,kh u (foldS S 0 trs st0).objs⟩ x=some ⟨(foldS S 0 trs st0).slots,ins payId (.clo 0 [] [x]) (kh u (foldS S 0 trs st0).objs)⟩ ∧
 (∀id ob,look (panSt ks hs m trs st0 x u).objs id=some ob→look (ins payId (.clo 0 [] [x]) (kh u (foldS S 0 trs st0).objs)) id=some ob) ∧
 ∀t d,look (panSt ks hs m trs st0 x u).slots t=some d→look (foldS S 0 trs st0).slots t=some d:=by
 unfold panOk at hok
 simp only [z7] at hok
 obtain ⟨⟨⟨⟨⟨q1,q2⟩,q6⟩,q3⟩,q4⟩,q5⟩:=hok
 have q4':∀p∈u,sameOb (look (preSt hs m trs st0).objs p.1) p.2=true∧Nat.beq p.1 payId=false∧p.2.mentions payId=false:=fun p hp=>by
  have:=zu.1 q4 p hp
  simp only [z7,zx] at this
  exact ⟨this.1.1,this.1.2,this.2⟩
 have old:∀{id ob},look (preSt hs m trs st0).objs id=some ob→look (foldS S 0 trs st0).objs id=look (preSt hs m trs st0).objs id:=fun {id ob} he=>by
  unfold preSt
  refine foldS_obj rfl fun k t ob' h1 h2=>?_
  rw [zq]
  by_cases hk:k∈preOf hs m
  ·rw [hpre k hk,YF.2 hk]
  ·have:=othersNew_at q6 k t h1 (by rwa [zq]) _ h2
   simp only at this
   rw [he] at this
   cases this
 have hu:∀p∈u,∃ob,look (preSt hs m trs st0).objs p.1=some ob:=fun p hp=>by
  cases he:look (preSt hs m trs st0).objs p.1 with
  | some ob=>exact ⟨ob,rfl⟩
  | none=>
    have:=(q4' p hp).1
    rw [he] at this
    cases this
 refine ⟨layObs_same (st0:=preSt hs m trs st0) (fun p hp=>?_) q3 fun p hp=>(q4' p hp).1,?_,fun id ob hl=>?_,fun t d hl=>?_⟩
 ·obtain ⟨ob,he⟩:=hu p hp
  exact old he
 ·unfold St.free at q1
  rw [z7] at q1
  obtain ⟨f1,f2⟩:=UV (S:=S) (i:=0) (trs:=trs) q1.1 q1.2 (fun k t h1 h2=>by
   have h3:=zu.1 q2 t (List.mem_of_getElem? h1)
   simp only [Tr.noMention,z7] at h3
   refine ⟨fun s d hd=>?_,fun q hq=>?_⟩
   ·rw [hd] at h3;exact h3.1
   ·exact zu.1 h3.2 q hq)
  have f3:=Uy f2 (u:=u) (fun p hp=>by
   obtain ⟨_,g1,g2⟩:=q4' p hp
   simp only [g1,g2,Bool.not_false,Bool.and_self])
  have hno:look (kh u (foldS S 0 trs st0).objs) payId=none:=look_gone (zu.2 fun p hp=>by
   have:=zu.1 f3 p hp
   rw [z7] at this
   exact this.1)
  unfold Go.Ql.thrown mayOb St.free
  simp only [hno]
  rw [f1,f3]
  have e1:Nat.blt payId gBox=true:=rfl
  rw [e1]
  simp only [Bool.and_self,Bool.true_and]
  rw [q5]
  rfl
 ·unfold panSt at hl
  simp only [Jm] at hl ⊢
  by_cases hp:payId=id
  ·rw [if_pos hp] at hl ⊢;exact hl
  ·rw [if_neg hp] at hl ⊢
   cases he:look (preSt hs m trs st0).objs id with
   | none=>
     rw [insAll_ne (fun p hp hh=>by
      obtain ⟨ob',h1⟩:=hu p hp
      rw [hh,he] at h1
      cases h1),he] at hl
     cases hl
   | some ob'=>
     rw [insAll_look (l':=(preSt hs m trs st0).objs) (old he)]
     exact hl
 ·obtain ⟨g1,g2⟩:=keepSlots_look hl
  rw [foldS_slot (S':=fun _=>false) (st':=st0) rfl (fun k t' h1 h2=>absurd h2 (g2 t' (List.mem_of_getElem? h1))),foldS_none (fun _ _=>rfl)]
  exact g1
theorem drawn_pan (hT:TabOk P G.tab) (hF:AllOk P G) (rd:Option Nat) (m:Nat) {q:Pm} (T:Text G ops'.toList hs st0 trs (Ha hs (some q)))
 {oq:Oper} {hq:Hint} (g1:ops'.toList[q.1]?=some oq) (g2:hs[q.1]?=some hq) (g3:PanT G ops'.toList oq hq (foldS (fun k=>decide (k<q.1)) 0 trs st0) q.2.1 q.2.2) (hok:panOk hs q.1 st0 trs q.2.1 q.2.2=true)
 {ks:List Nat} (hQ:∀a' w' nm' v,Rel G.n w0 Z0 (panSt ks hs q.1 trs st0 q.2.1 q.2.2) a' w' nm'→nm' payId=.func (.func 0) #[] #[v]→Q (.panic [{ v,recovered:=false }]) a' w'):∀(fuel:Nat) (listed:Array Bool) (a:Act) (w:World) (nm:Names),
 listed.size=ops'.size→left listed=fuel→Uu ops'.toList (fun i=>listed.getD i false)→listed.getD q.1 false=false→Rel G.n w0 Z0 (foldS (fun i=>listed.getD i false) 0 trs st0) a w nm →
 wpAnyIn (Fr rd) m P .any ops' Q fuel listed a w:=by
 have hqlt:q.1<ops'.size:=by
  have:=(Z2.1 g1).1
  simpa using this
 intro fuel
 induction fuel with
 | zero=>
   intro listed a w nm hsz hf hc hno hrel
   have:=left_zero hf (i:=q.1) (by omega)
   rw [hno] at this
   cases this
 | succ fuel ih=>
   intro listed a w nm hsz hf hc hno hrel
   refine ⟨fun hr=>?_,fun i hi=>?_⟩
   ·have:=all_of_ready T.hok hsz hr q.1 hqlt
    rw [hno] at this
    cases this
   obtain ⟨h1,o,ho,h2⟩:=mem_ready.1 hi
   have hlt:i<ops'.size:=(Array.getElem?_eq_some_iff.1 ho).1
   have ho':ops'.toList[i]?=some o:=by rw [Array.getElem?_toList];exact ho
   have hh:∃h,hs[i]?=some h:=⟨_,Z3 (by rw [T.hok.len];simpa using hlt)⟩
   have ht:∃t,trs[i]?=some t:=⟨_,Z3 (by rw [T.len];simpa using hlt)⟩
   obtain ⟨h,hh⟩:=hh
   obtain ⟨t,ht⟩:=ht
   have hm:listed.getD i false=false:=by
    have h3:i<listed.size:=by omega
    simp [h3] at h1 ⊢
    exact h1
   by_cases hiq:i=q.1
   ·subst hiq
    rw [g1] at ho';cases ho'
    rw [g2] at hh;cases hh
    obtain ⟨slot,obj,hext⟩:=T.sees (S:=fun i=>listed.getD i false) hc g1 g2 hm h2
    have hpre:∀k∈preOf hs q.1,(fun i=>listed.getD i false) k=true:=fun k hk=>by
     obtain ⟨_,o2,p1,e,p2,p3,p4⟩:=T.hok.pre q.1 k hk
     rw [g1] at p1;cases p1
     have p5:=h2 e p2 p3
     rcases p4 with p4 | p4
     ·rw [←p4];exact p5
     ·exact T.hok.pre_in hc e.on k p5 p4
    obtain ⟨l1,l2,l3,l4⟩:=panSt_of (ks:=ks) (S:=fun i=>listed.getD i false) hpre hok
    obtain ⟨hg,ma,ds,x,u,σ,y,v,hF2,hy,hpn,hu⟩:=g3
    obtain ⟨k1,k2,k3⟩:=hF2 hext
    have run:runK G [] oq (foldS (fun i=>listed.getD i false) 0 trs st0) (fun _=>none) some=some ⟨(foldS (fun i=>listed.getD i false) 0 trs st0).slots,ins payId (.clo 0 [] [q.2.1]) (kh q.2.2 (foldS (fun i=>listed.getD i false) 0 trs st0).objs)⟩:=by
     rw [runK_alt k1]
     unfold altK
     simp only [k2,hy,bnd,sel,k3,hpn,ze]
     rw [←hu,l1]
     simp only [l2]
    have hstep:stepK G ops'.toList [] oq (foldS (fun i=>listed.getD i false) 0 trs st0) (fun _=>none) some=some ⟨(foldS (fun i=>listed.getD i false) 0 trs st0).slots,ins payId (.clo 0 [] [q.2.1]) (kh q.2.2 (foldS (fun i=>listed.getD i false) 0 trs st0).objs)⟩:=by
     rw [stepK_eq]
     rcases hg with hg | ⟨j,want,g,e1,e2,e3,e4⟩
     ·rw [hg]
      exact run
     ·rw [e1]
      rcases e4 with ⟨b,e4,e5⟩ | ⟨_,e5⟩
      ·rw [←slot g (.inl e3)] at e4
       simp only [e2,e4,e5,br]
       exact run
      ·cases e5
    have:=stepK_sound (P:=P) (Q:=Q) (K:=wpAnyIn (Fr rd) m P .any ops' Q fuel (listed.setIfInBounds q.1 true)) (gs:=[]) hT hF hrel hstep (fun _ _ _ _ _ hk'=>by cases hk') (fun st' a' w' nm' v' h' hv hk'=>by
     simp only [z6] at hk'
     subst hk'
     exact hQ a' w' nm' v' (h'.sub l4 l3) hv) rd m
    unfold wpOpIn
    rw [ho]
    exact this
   ·have hlive:Ha hs (some q) i=true:=by
     have e1:Nat.beq i q.1=false:=JJ.2 hiq
     simp only [Ha,e1,Bool.not_false,Bool.true_and,zx]
     cases hb:memN q.1 (preOf hs i) with
     | false=>rfl
     | true=>
       obtain ⟨_,o2,p1,e,p2,p3,p4⟩:=T.hok.pre i q.1 (YF.1 hb)
       rw [ho'] at p1;cases p1
       have p5:=h2 e p2 p3
       rcases p4 with p4 | p4
       ·rw [p4,hno] at p5;cases p5
       ·rw [T.hok.pre_in hc e.on q.1 p5 p4] at hno;cases hno
    have hstep:=T.step_at (S:=fun i=>listed.getD i false) hc ho' hh ht hm hlive h2
    have:=stepK_sound (P:=P) (Q:=Q) (K:=wpAnyIn (Fr rd) m P .any ops' Q fuel (listed.setIfInBounds i true)) (gs:=[]) hT hF hrel hstep (fun st' a' w' nm' h' hk' _=>by
     simp only [z6] at hk'
     subst hk'
     refine ih _ a' w' nm' (by simpa using hsz) ?_ (ready_closed hc hi) ?_ ?_
     ·have:=left_set h1
      omega
     ·rw [getD_set_ne false hiq];exact hno
     ·rwa [VZ (S':=fun k=>listed.getD k false||decide (k=i)) (fun k hk=>by
       rw [zq]
       by_cases hki:k=i
       ·subst hki
        have h3:k<listed.size:=by omega
        simp [h3]
       ·rw [getD_set_ne false (Ne.symm hki)];simp [hki])]) (fun _ _ _ _ _ _ _ hk'=>by cases hk') rd m
    unfold wpOpIn
    rw [ho]
    exact this
theorem Same.drawn' (w:World) (n:Nat):Same w { w with drawn:=n }:=⟨rfl,rfl,rfl,zt _,fun _ _=>rfl⟩
theorem rep_false (m j:Nat):(Array.replicate m false).getD j false=false:=by
 rcases Nat.lt_or_ge j m with h | h
 ·simp [h]
 ·simp [h]
theorem StepsT.pan {q:Pm} {ops:List Oper} (h:StepsT G ops 0 none (ops.zip hs) st0 trs (some q)) (hok:HOk ops hs) :
 ∃o hi,ops[q.1]?=some o∧hs[q.1]?=some hi∧PanT G ops o hi (foldS (fun k=>decide (k<q.1)) 0 trs st0) q.2.1 q.2.2:=by
 obtain ⟨h1,h2⟩:=StepsT.at (fun q hq=>by cases hq) h
 have hlt:q.1<trs.length:=by
  have gen:∀{l:List (Oper×Hint)} {i:Nat} {st:St} {trs:List Tr},StepsT G ops i none l st trs (some q)→q.1<i+trs.length:=by
   intro l
   induction l with
   | nil=>intro i st trs h;cases h.2
   | cons p l ih=>
     intro i st trs h
     obtain ⟨t,r,rfl,h | h | ⟨_,_,a,u,_,h⟩⟩:=h
     ·have:=ih h.2.2;simp only [za];omega
     ·cases h.1
     ·have:=StepsT.stays h
      simp only [z6] at this
      rw [this]
      simp only [za];omega
  have:=gen h
  omega
 have hl1:q.1<ops.length:=by rw [h1,List.length_zip] at hlt;omega
 have hl2:q.1<hs.length:=by rw [hok.len];exact hl1
 have e1:ops[q.1]?=some ops[q.1]:=Z3 hl1
 have e2:hs[q.1]?=some hs[q.1]:=Z3 hl2
 have:=h2 q.1 _ _ trs[q.1] (by rw [List.getElem?_zip_eq_some];exact ⟨e1,e2⟩) (Z3 hlt)
 rw [zq] at this
 rcases this with this | ⟨q',g1,g2,_⟩ | ⟨a,u,g1,_,g3⟩
 ·exact absurd rfl (this.2 q rfl).1
 ·simp only [z6] at g1
  subst g1
  omega
 ·simp only [z6] at g1
  have ea:q.2.1=a:=by rw [g1]
  have eu:q.2.2=u:=by rw [g1]
  exact ⟨_,_,e1,e2,by rw [ea,eu];exact g3⟩
theorem drawn_sound {ks:List Nat} (hT:TabOk P G.tab) (hF:AllOk P G) (hm:P.follows .mixedOrders=true) {id:Nat} (hok:hintsOk ops'.toList hs=true) {ρ:Type} {gs:List Nat} {k kp:St→Option ρ} {r:ρ} {nm:Names}
 (h:Rel G.n w0 Z0 st0 a w nm) (he:drawK G ops'.toList gs (ops'.toList.zip hs) st0 [] none (fun pm st' tr=>bif VI hs st0 tr 0 tr then (match pm with
  | none=>k st'
  | some q=>bif panOk hs q.1 st0 tr q.2.1 q.2.2 then kp (panSt ks hs q.1 tr st0 q.2.1 q.2.2) else none) else none)=some r)
 (hk:∀st' a' w' nm',Rel G.n w0 Z0 st' a' w' nm'→k st'=some r→KeepT (wrOps ops'.toList) a a'→Q .normal a' w')
 (hp:∀st' a' w' nm' v,Rel G.n w0 Z0 st' a' w' nm'→nm' payId=.func (.func 0) #[] #[v]→kp st'=some r→Q (.panic [{ v,recovered:=false }]) a' w') (rd:Option Nat) (m:Nat):(Code.region id ops' true).wpIn (Fr rd) m P Q a w:=by
 obtain ⟨trs,pm,h1,h2⟩:=drawK_steps he
 rw [List.nil_append] at h2
 have h1:StepsT G ops'.toList 0 none (ops'.toList.zip hs) st0 trs pm:=h1
 cases hc:VI hs st0 trs 0 trs with
 | false=>rw [hc] at h2;cases h2
 | true=>
   rw [hc] at h2
   simp only [ze] at h2
   have hclosed:Uu ops'.toList fun i=>(Array.replicate ops'.size false).getD i false:=by
    intro j o _ hl
    simp only [rep_false] at hl
    cases hl
   have hrel0:∀k:Nat,Rel G.n w0 Z0 (foldS (fun i=>(Array.replicate ops'.size false).getD i false) 0 trs st0) a { w with drawn:=k } nm:=fun k=>by
    rw [foldS_none (fun k _=>rep_false _ _)]
    exact h.grow (Same.drawn' w _)
   cases pm with
   | none=>
     have T:=Text.of (hintsOk_ok hok) h1 hc
     refine wpIn_region_any hm (drawn_any hT hF rd m T (a0:=a) (fun a' w' nm' h' hkt=>hk _ a' w' nm' h' h2 hkt) _ _ _ _ nm (by simp) (by simp [left]) hclosed (hrel0 _) (KeepT.refl _ _))
   | some q=>
     simp only at h2
     cases hpo:panOk hs q.1 st0 trs q.2.1 q.2.2 with
     | false=>rw [hpo] at h2;cases h2
     | true=>
       rw [hpo] at h2
       have T:=Text.of (hintsOk_ok hok) h1 hc
       obtain ⟨o,hi,g1,g2,g3⟩:=StepsT.pan h1 (hintsOk_ok hok)
       refine wpIn_region_any hm (drawn_pan hT hF rd m T g1 g2 g3 hpo (fun a' w' nm' v h' hv=>hp _ a' w' nm' v h' hv h2) _ _ _ _ nm (by simp) (by simp [left]) hclosed (rep_false _ _) (hrel0 _))
end
end Go.Ql
end

section
namespace Go.Ql
theorem look_del_ins {α:Type} (k t:Nat) (v:α) (l:List (Nat×α)):look (del k (ins k v l)) t=look (del k l) t:=by
 rw [UM,UM,Jm]
 split<;>simp_all
section
variable [GInv] {P:Program} {G:Env} {n:Nat} {w0 w w' W:World} {Z0:Bs} {Z Z':Nat→Prop} {st st1 st2:St} {a a':Act} {nm nm':Names}
theorem Rel.slotsOf (h:Rel n w0 Z0 st a w nm) {sl:List (Nat×Dv)} (hs:∀t d,look sl t=some d→look st.slots t=some d):Rel n w0 Z0 ⟨sl,st.objs⟩ a w nm:=
 ⟨h.defers,h.size,fun t d ht=>h.slots t d (hs t d ht),h.objs,h.new,h.inj,h.same,h.given,h.glob,h.calm⟩
theorem calm_of {id:Nat} {ob:Ob}:∀{l:List (Nat×Ob)},calmO l=true→(id,ob)∈l→ob.mine=true∧(match ob with | .gone=>False | .arr _ _ _ t _=>t.isMap=false | _=>True)
 | p::r,hc,hm=>by
   obtain ⟨i,x⟩:=p
   rcases zz.1 hm with e | hm
   ·cases e
    cases ob with
    | box=>exact ⟨rfl,trivial⟩
    | arr v fz e t xs=>
      simp only [calmO,z7,zx] at hc
      exact ⟨by simp [Ob.mine,hc.1],hc.2.1⟩
    | clo=>exact ⟨rfl,trivial⟩
    | gone=>cases hc
   ·refine calm_of ?_ hm
    cases x with
    | box=>exact hc
    | arr v fz e t xs=>simp only [calmO,z7] at hc;exact hc.2.2
    | clo=>exact hc
    | gone=>cases hc
theorem US {objs:List (Nat×Ob)} {β:Type} (dom:List (Nat×β)) (x:At):AtOk nm nm objs (onlyO dom objs) x:=
 fun id _=>⟨fun ver fz e t xs h1 _=>⟨rfl,fz,xs,kF _ _ _ h1,rfl⟩,fun cs h1=>⟨rfl,cs,kF _ _ _ h1⟩,fun f y z h1=>⟨rfl,f,y,z,kF _ _ _ h1⟩⟩
theorem dvOk_only {objs:List (Nat×Ob)} {β:Type} (dom:List (Nat×β)) {d:Dv}:DvOk nm nm objs (onlyO dom objs) d:=by
 cases d<;>simp only [DvOk]<;>first | exact US dom _ | exact fun x _=>US dom x
theorem obOk_only {objs:List (Nat×Ob)} {β:Type} (dom:List (Nat×β)) {ob:Ob}:ObOk nm nm objs (onlyO dom objs) ob:=by
 cases ob with
 | box cs=>exact fun x _=>US dom x
 | arr=>trivial
 | clo f x y=>exact ⟨fun x _=>US dom x,fun x _=>US dom x⟩
 | gone=>trivial
theorem Rel.objsOf (h:Rel n w0 Z0 st a w nm) {β:Type} (dom:List (Nat×β)):Rel n w0 Z0 ⟨st.slots,onlyO dom st.objs⟩ a w nm:=by
 have hz:Kept w w (Zc w0 Z0 nm st.objs w) (Zc w0 Z0 nm (onlyO dom st.objs) w):=fun b hb=>⟨HM (fun id ob h1 h2=>⟨ob,kF _ _ _ h1,h2⟩) hb,rfl⟩
 refine ⟨h.defk hz,h.size,fun t d ht=>?_,fun id ob ho=>?_,fun id ob b ho hb=>h.new id ob b (kF _ _ _ ho) hb,fun id id' ob ob' b ho ho'=>h.inj id id' ob ob' b (kF _ _ _ ho) (kF _ _ _ ho'),h.same,fun id ob hg ho=>h.given id ob hg (kF _ _ _ ho),h.glob,h.calm⟩
 ·obtain ⟨v,h1,h2⟩:=h.slots t d ht
  exact ⟨v,h1,kI hz.weak (dvOk_only dom) h2⟩
 ·exact Yf hz.weak rfl (fun _ _=>rfl) (obOk_only dom) (h.objs id ob (kF _ _ _ ho))
theorem Rel.noObj (h:Rel n w0 Z0 st a w nm) (hc:calmO st.objs=true) {r:Nat} {o:Obj} (hr:w.heap[r]?=some o) (ho:o.isCells=false) {id:Nat} {ob:Ob} (hl:look st.objs id=some ob):blk (nm id)≠some r:=by
 intro hb
 have hro:=h.objs id ob hl
 have hm:=kV hl
 have:=(calm_of hc hm).2
 cases ob with
 | box cs=>
   obtain ⟨b',vs,T,h1,h2,_⟩:=hro
   rw [h1] at hb
   cases hb
   rw [h2] at hr;cases hr;cases ho
 | arr v fz e t xs=>
   obtain ⟨cells,h1,_⟩:=rdArr.sl (show rdArr w _ (nm id) e t xs from hro) this
   rcases h1.2 with ⟨e1,_⟩ | ⟨g,cap,cur,e1,⟨fz2,h2,_⟩,_⟩
   ·rw [e1] at hb;cases hb
   ·rw [e1] at hb;cases hb;rw [h2] at hr;cases hr;cases ho
 | clo f x y=>
   obtain ⟨vx,vy,h1,_⟩:=hro
   rw [h1] at hb;cases hb
 | gone=>exact this
theorem Rel.turn (h:Rel n w0 Z0 st a w nm) {r:Nat} {o o':Obj} (hr:w.heap[r]?=some o) (ho:o.isCells=false) (h0:w0.heap.size≤r) (hno:∀id ob,look st.objs id=some ob→ob ≠ .gone→blk (nm id)≠some r)
 (hd:∃l,a.defers=l++Z0.df∧Marks w0 (w.putObj r o') (Zc w0 Z0 nm st.objs (w.putObj r o')) l):Rel n w0 Z0 st a (w.putObj r o') nm:=by
 have hsz:(w.putObj r o').heap.size=w.heap.size:=by simp [World.putObj]
 have hbl:∀b,b≠r→(w.putObj r o').heap[b]?=w.heap[b]?:=fun b hb=>World.putObj_heap_other hb
 have hk:KeptW w (w.putObj r o') (Zc w0 Z0 nm st.objs w) (Zc w0 Z0 nm st.objs (w.putObj r o')):=by
  rintro b ⟨h1,h2,h3⟩
  refine ⟨⟨by rw [hsz];exact h1,h2,h3⟩,fun q u hu=>?_⟩
  by_cases hb:b=r
  ·subst hb
   obtain ⟨o2,e1,e2⟩:=cells_of_cell hu
   have e1:w.heap[b]?=some o2:=e1
   rw [hr] at e1;cases e1;rw [ho] at e2;cases e2
  ·exact HA (hbl b hb) q u hu
 refine ⟨hd,h.size,fun t d ht=>?_,fun id ob hl=>?_,fun id ob b hl hb=>?_,h.inj,⟨h.same.os,h.same.tape,h.same.output,by rw [hsz];exact h.same.size,fun b hb hm=>?_⟩,h.given,h.glob,h.calm⟩
 ·obtain ⟨v,h1,h2⟩:=h.slots t d ht
  exact ⟨v,h1,kI hk (DvOk.refl ..) h2⟩
 ·by_cases hg:ob=.gone
  ·subst hg
   trivial
  ·exact Yf hk rfl (fun b hb=>hbl b (fun e=>hno id ob hl hg (by rw [←e];exact hb))) (ObOk.refl _ _ _) (h.objs id ob hl)
 ·rw [hsz];exact h.new id ob b hl hb
 ·rw [hbl b (by omega)];exact h.same.block b hb hm
def VY (w0:World) (Z0:Bs) (nm:Names) (st:St) (w:World) (df:List Deferred):Bs:=⟨Zc w0 Z0 nm st.objs w,owned nm st.objs,Z0.nm,df,false⟩
theorem Rel.rebase (h:Rel n w0 Z0 st a w nm) (hc:calmO st.objs=true) {df:List Deferred} (hd:a'.defers=df) (ht:a'.tmps=a.tmps):Rel n w (VY w0 Z0 nm st w df) st a' w nm:=by
 have hzc:∀b,Zc w0 Z0 nm st.objs w b→Zc w (VY w0 Z0 nm st w df) nm st.objs w b:=fun b hb=>⟨hb.1,fun _=>.inl hb,hb.2.2⟩
 have hk:Kept w w (Zc w0 Z0 nm st.objs w) (Zc w (VY w0 Z0 nm st w df) nm st.objs w):=fun b hb=>⟨hzc b hb,rfl⟩
 refine ⟨⟨[],by rw [hd];rfl,Marks.nil _ _ _⟩,by rw [ht];exact h.size,fun t d hl=>?_,fun id ob hl=>Yf hk rfl (fun _ _=>rfl) (ObOk.refl _ _ _) (h.objs id ob hl),fun id ob b hl hb=>?_,h.inj,SameBut.refl _ w,h.given,⟨h.gnow,fun b hb=>?_⟩,fun hh=>(by cases hh)⟩
 ·obtain ⟨v,h1,h2⟩:=h.slots t d hl
  exact ⟨v,by rw [ht];exact h1,kI hk (DvOk.refl ..) h2⟩
 ·exact ⟨.inr ⟨id,ob,hl,(calm_of hc (kV hl)).1,hb⟩,(h.new id ob b hl hb).2⟩
 ·obtain ⟨id,ob,hl,_,hb⟩:=hb
  rcases (h.new id ob b hl hb).1 with h1 | h1
  ·exact Nat.le_trans (GInv.size h.glob.1) h1
  ·exact h.glob.2 b h1
theorem look_onlyP_true {α:Type} {f:Nat→Bool} {t:Nat}:∀{l:List (Nat×α)} {d:α},look (onlyP f l) t=some d→f t=true
 | [],_,h=>by cases h
 | (s,x)::r,d,h=>by
   simp only [onlyP] at h
   cases hb:f s with
   | true=>
     rw [hb] at h
     simp only [ze,look] at h
     cases hq:Nat.beq s t with
     | true=>rw [←beqN.1 hq];exact hb
     | false=>rw [hq] at h;exact look_onlyP_true h
   | false=>rw [hb] at h;exact look_onlyP_true h
theorem Rel.kept12 (h1:Rel n w0 Z0 st a w nm) {df:List Deferred} {a2:Act} (h2:Rel n w (VY w0 Z0 nm st w df) st2 a2 W nm'):Kept w W (Zc w0 Z0 nm st.objs w) (Zc w0 Z0 nm' st2.objs W):=by
 rintro b ⟨q1,q2,q3⟩
 refine ⟨⟨zw q1 h2.same.size,q2,?_⟩,h2.same.block b q1 q3⟩
 rintro ⟨id,ob,hl,hm,hb⟩
 rcases (h2.new id ob b hl hb).1 with h | h
 ·omega
 ·exact q3 h
theorem Rel.zc21 (h1:Rel n w0 Z0 st a w nm) {df:List Deferred} {objs:List (Nat×Ob)} {b:Nat} (h:Zc w (VY w0 Z0 nm st w df) nm' objs W b):Zc w0 Z0 nm' objs W b:=by
 refine ⟨h.1,fun hlt=>?_,h.2.2⟩
 rcases h.2.1 (zw hlt h1.same.size) with q | ⟨id,ob,hl,_,hb⟩
 ·exact q.2.1 hlt
 ·exact .inr ((h1.new id ob b hl hb).1.resolve_left (by omega))
theorem Rel.unbase (h1:Rel n w0 Z0 st a w nm) {df:List Deferred} {a2 aN:Act} (hcm:Z0.calm=true→aN.defers=Z0.df) (h2:Rel n w (VY w0 Z0 nm st w df) st2 a2 W nm') {sl:List (Nat×Dv)} (hn:aN.tmps.size=n)
 (hd:∃l,aN.defers=l++Z0.df∧Marks w0 W (Zc w0 Z0 nm' st2.objs W) l) (hsl:∀t d,look sl t=some d → ∃v,aN.tmps[t]?=some v∧rdD W (Zc w0 Z0 nm' st2.objs W) nm' st2.objs d v):Rel n w0 Z0 ⟨sl,st2.objs⟩ aN W nm':=by
 have hz:Kept W W (Zc w (VY w0 Z0 nm st w df) nm' st2.objs W) (Zc w0 Z0 nm' st2.objs W):=fun b hb=>⟨h1.zc21 hb,rfl⟩
 have hnw:∀b,(w.heap.size≤b∨owned nm st.objs b)→w0.heap.size≤b∨Z0.m b:=by
  rintro b (h | ⟨id,ob,hl,_,hb⟩)
  ·exact .inl (Nat.le_trans h1.same.size h)
  ·exact (h1.new id ob b hl hb).1
 refine ⟨hd,hn,hsl,fun id ob hl=>Yf hz rfl (fun _ _=>rfl) (ObOk.refl _ _ _) (h2.objs id ob hl),fun id ob b hl hb=>⟨hnw b (h2.new id ob b hl hb).1,(h2.new id ob b hl hb).2⟩,h2.inj,?_,h2.given,h1.glob,hcm⟩
 refine ⟨h2.same.os.trans h1.same.os,h2.same.tape.trans h1.same.tape,h2.same.output.trans h1.same.output,Nat.le_trans h1.same.size h2.same.size,fun b hb hm=>?_⟩
 rw [h2.same.block b (zw hb h1.same.size) ?_]
 ·exact h1.same.block b hb hm
 ·rintro ⟨id,ob,hl,_,hb'⟩
  rcases (h1.new id ob b hl hb').1 with h | h
  ·omega
  ·exact hm h
theorem leaves_marks {fn:Func} {R:Ending→World→Prop} {u:FrameMode} (hu:u ≠ .run) (hdf:Z0.df=[]) (fin:∀w2,Rel n w0 Z0 st { tmps:=a.tmps,defers:=[] } w2 nm→LeavesIn (Fr none) 0 P fn a.tmps R [] u w2) :
 ∀(ds:List Nat) (w:World),Rel n w0 Z0 st { tmps:=a.tmps,defers:=[] } w nm→ds.Nodup→(∀D:Nat,D∈ds→w0.heap.size≤D∧Zc w0 Z0 nm st.objs w D∧w.heap[D]?=some (Obj.deferred (some []))) →
  LeavesInM (Fr none) 0 P fn a.tmps R (ds.map (fun D=>({ target:=.collected D,args:=#[] }:Deferred))) u w
 | [],w,h,_,_=>fin w h
 | D::ds,w,h,hnd,hD=>by
   obtain ⟨e1,e2,e3⟩:=hD D (by simp)
   rw [List.nodup_cons] at hnd
   have hsz:(w.putObj D (.deferred none)).heap.size=w.heap.size:=by simp [World.putObj]
   have hno:∀id ob,look st.objs id=some ob→ob ≠ .gone→blk (nm id)≠some D:=by
    intro id ob hl hg hb
    by_cases hm:ob.mine=true
    ·exact e2.2.2 ⟨id,ob,hl,hm,hb⟩
    ·cases ob with
     | arr v fz e t xs=>
       rcases (show rdArr w _ (nm id) e t xs from h.objs id _ hl) with ⟨_,cells,h1,_⟩ | ⟨j,k,l,_,b',es,clock,h1,h2,_⟩
       ·rcases h1.2 with ⟨e1,_⟩ | ⟨g,cap,cur,e1,⟨fz2,h2,_⟩,_⟩
        ·rw [e1] at hb;cases hb
        ·rw [e1] at hb;cases hb;rw [h2] at e3;cases e3
       ·rw [h1] at hb;cases hb;rw [h2] at e3;cases e3
     | box=>exact hm rfl
     | clo=>exact hm rfl
     | gone=>exact hg rfl
   refine ⟨hu,.inl ⟨D,_,rfl,run_takeDeferred e3,leaves_marks hu hdf fin ds _ (h.turn e3 rfl e1 hno ⟨[],by rw [hdf];rfl,Marks.nil _ _ _⟩) hnd.2 fun D' hD'=>?_⟩⟩
   obtain ⟨f1,f2,f3⟩:=hD D' (by simp [hD'])
   refine ⟨f1,⟨by rw [hsz];exact f2.1,f2.2.1,f2.2.2⟩,?_⟩
   rw [World.putObj_heap_other (fun e=>hnd.1 (by rw [←e];exact hD'))]
   exact f3
theorem Rel.bare (h:Rel n w0 Z0 st a w nm) (hdf:Z0.df=[]):Rel n w0 Z0 st { tmps:=a.tmps,defers:=[] } w nm:=
 ⟨⟨[],by rw [hdf];rfl,Marks.nil _ _ _⟩,h.size,h.slots,h.objs,h.new,h.inj,h.same,h.given,h.glob,fun _=>hdf.symm⟩
theorem Rel.leaves {fn:Func} {R:Ending→World→Prop} {u:FrameMode} (h:Rel n w0 Z0 st a w nm) (hdf:Z0.df=[]) (hu:u ≠ .run)
 (fin:∀w2,Rel n w0 Z0 st { tmps:=a.tmps,defers:=[] } w2 nm→LeavesIn (Fr none) 0 P fn a.tmps R [] u w2):LeavesInM (Fr none) 0 P fn a.tmps R a.defers u w:=by
 obtain ⟨l,hl,ds,e1,e2,e3⟩:=h.defers
 rw [hl,hdf,List.append_nil,e1]
 exact leaves_marks hu hdf fin ds w (h.bare hdf) e2 e3
theorem assign_wp {asg:Code} {p t:Nat} (h:Hm asg=some (p,t)) {rd:Option Nat} {tmps:Array Value} {v:Value} (hp:p<tmps.size) {K:Act→World→Prop} {Q:Exit→Act→World→Prop}
 (hK:K { tmps:=(tmps.setIfInBounds p v).setIfInBounds t v,defers:=[] } W):asg.wpIn (Fr rd) 0 P (Exit.then K Q) { tmps:=tmps.setIfInBounds p v,defers:=[] } W:=by
 unfold Hm at h
 split at h
 ·rename_i id ops
  split at h
  ·rename_i t' p' ty pos aft hops
   cases h
   refine wpIn_region_list ?_
   rw [hops]
   unfold wpListIn
   simp only [Region.wanted,if_true]
   have hev:({ tmps:=tmps.setIfInBounds p v,defers:=[] }:Act).eval (.tmp p)=v:=by
    show (tmps.setIfInBounds p v).getD p undef=v
    simp [hp]
   refine oper_in (P:=P) ?_ (fun c hc=>by cases hc) rd 0
   unfold Oper.wp
   simp only [execOp,hev]
   exact hK
  ·cases h
 ·cases h
theorem range_law {a:Act} {w:World} {Q:Exit→Act→World→Prop} {g:Operand} {p t:Nat} {asg body:Code} (hasg:Hm asg=some (p,t)) (hp:p<a.tmps.size) {gf:Nat} {lb:Array Value} {k:IntKind} {xs:List Int} {Zk:Nat→Prop}
 (hZ:∀b,Zk b→b<w.heap.size) (hg:a.eval g=.func (.func gf) #[] lb) (eg:∀args w,(callFunc gf args).run P w=.ok (.enter gf args) w) (hseq:SeqAt P gf lb k xs (fun A B=>∀b,Zk b→B.heap[b]?=A.heap[b]?) w)
 (I:List Int→World→Prop) (h0:I [] w) (hI:∀pre A B,I pre A→Same A B→I pre B)
 (hT:∀pre A l o o',w.heap.size≤l→I pre A→A.heap[l]?=some o→o.isCells=false→I pre (A.putObj l o'))
 (hbody:∀l pre x W,I pre W→(∃r,xs=pre++x::r)→body.wpIn (Fr (some l)) 0 P (fun e _ W'=>e=.normal∧KeepsOthers W W'∧(∀b,Zk b→W'.heap[b]?=W.heap[b]?)∧I (pre++[x]) W')
  { tmps:=(a.tmps.setIfInBounds p (.int k x)).setIfInBounds t (.int k x),defers:=[] } W)
 (hdone:∀(D:Nat) W,w.heap.size≤D→I xs W→W.heap[D]?=some (Obj.deferred (some []))→Q .normal { a with defers:={ target:=.collected D,args:=#[] }::a.defers } W) :
 (Code.rangeFunc g #[p] asg body).wpIn (Fr none) 0 P Q a w:=by
 refine wpIn_rangeFunc fun fn hfn=>?_
 obtain ⟨rec,hrec⟩:∃rec:LoopState→Loop,rec=fun st=>{ state:=st,pending:=none,fn,tmps:=a.tmps,params:=#[p],assign:=asg,body,defers:=w.heap.size }:=⟨_,rfl⟩
 have hen:=run_enterLoop_outer (P:=P) (w:=w) fn a.tmps #[p] asg body
 have hready:(Obj.loop { state:=.ready,pending:=none,fn,tmps:=a.tmps,params:=#[p],assign:=asg,body,defers:=w.heap.size })=.loop (rec .ready):=by rw [hrec]
 rw [hready] at hen
 obtain ⟨W1,hW1⟩:∃W1,(w.alloc (.deferred (some []))).alloc (.loop (rec .ready))=W1:=⟨_,rfl⟩
 rw [hW1] at hen
 have s1:Same w W1:=by rw [←hW1];exact (Same.alloc w _).trans (Same.alloc _ _)
 have hsz:W1.heap.size=w.heap.size+2:=by rw [←hW1];simp
 have hL:W1.heap[w.heap.size+1]?=some (.loop (rec .ready)):=by
  rw [←hW1]
  have:=World.alloc_heap_new (w.alloc (.deferred (some []))) (.loop (rec .ready))
  rwa [World.size_alloc] at this
 have hD:W1.heap[w.heap.size]?=some (Obj.deferred (some [])):=by
  rw [←hW1,(Same.alloc (w.alloc (.deferred (some []))) _).block _ (by simp)]
  exact World.alloc_heap_new w _
 refine ⟨w.heap.size+1,[{ target:=.collected w.heap.size,args:=#[] }],W1,{ target:=.fn (.func gf) lb,args:=#[.func (.yield (w.heap.size+1)) #[] #[]] },W1,gf,#[.func (.yield (w.heap.size+1)) #[] #[]]++lb,W1,hen,?_,fun _ _=>trivial,?_,fun _=>?_,?_⟩
 ·simp only [resolve,hg]
  simp [go_sem]
 ·simp [invoke,go_sem,eg]
 ·rename_i hh;cases hh
 ·have hq:=hseq (w.heap.size+1) (fun pre W=>I pre W∧W.heap[w.heap.size+1]?=some (.loop (rec .ready))∧W.heap[w.heap.size]?=some (Obj.deferred (some []))) W1 s1
   (fun pre A B h hs=>⟨hI _ _ _ h.1 hs,(hs.block _ (Array.getElem?_eq_some_iff.1 h.2.1).1).trans h.2.1,(hs.block _ (Array.getElem?_eq_some_iff.1 h.2.2).1).trans h.2.2⟩) ?_ ⟨hI _ _ _ h0 s1,hL,hD⟩
  ·refine CallsIn.mono hq ?_
   rintro e W2 ⟨⟨v,rfl⟩,hi,hl,hd⟩
   refine ⟨none,_,(by have:=run_endLoop (P:=P) hl (by rw [hrec];simp);rw [hrec] at this;exact this),?_⟩
   refine hdone w.heap.size _ (zt _) (hT _ _ _ _ _ (by omega) hi hl rfl) ?_
   rw [World.putObj_heap_other (by omega)]
   exact hd
  ·rintro pre x W ⟨hi,hl,hd⟩ hr
   have hy:=run_yield (P:=P) (args:=#[.int k x]) hl (by rw [hrec];rfl)
   refine ⟨_,_,_,_,hy,?_⟩
   have hrb:(rec .ready).assign=asg∧(rec .ready).body=body∧(rec .ready).tmps=a.tmps∧(rec .ready).params=#[p]∧(rec .ready).fn=fn:=by rw [hrec];exact ⟨rfl,rfl,rfl,rfl,rfl⟩
   rw [hrb.1,hrb.2.1,hrb.2.2.1,hrb.2.2.2.1,hrb.2.2.2.2]
   refine roundIn_of_wpIn (F:=Fr none) hfn ?_
   have hfold:((#[p].zip #[Value.int k x]).foldl (fun tmps (x:Tmp×Value)=>tmps.setIfInBounds x.1 x.2) a.tmps)=a.tmps.setIfInBounds p (.int k x):=by
    rw [←Array.foldl_toList,Array.toList_zip];rfl
   show asg.wpIn (Fr (some (w.heap.size+1))) 0 P _ { tmps:=((#[p].zip #[Value.int k x]).foldl (fun tmps (x:Tmp×Value)=>tmps.setIfInBounds x.1 x.2) a.tmps),defers:=[] } W
   rw [hfold]
   refine assign_wp hasg hp ⟨_,run_beginRound hl (by rw [hrec]),?_⟩
   have hlt:=(Array.getElem?_eq_some_iff.1 hl).1
   refine wpIn_mono (hbody (w.heap.size+1) pre x _ (hT _ _ _ _ _ (by omega) hi hl rfl) hr) ?_
   rintro e a3 W3 ⟨rfl,k1,k2,k3⟩
   have hb3:W3.heap[w.heap.size+1]?=some (.loop { rec .ready with state:=.busy }):=k1.same _ _ (World.putObj_heap_same hlt) rfl
   have hd3:W3.heap[w.heap.size]?=some (Obj.deferred (some [])):=k1.same _ _ ((World.putObj_heap_other (by omega)).trans hd) rfl
   have hend:=run_endRound (P:=P) none hb3
   have hlt3:=(Array.getElem?_eq_some_iff.1 hb3).1
   refine ⟨_,_,hend,rfl,⟨hT _ _ _ _ _ (by omega) k3 hb3 rfl,?_,?_⟩,fun b hb=>?_⟩
   ·rw [World.putObj_heap_same hlt3,hrec]
    rfl
   ·rw [World.putObj_heap_other (by omega)];exact hd3
   ·have:=hZ b hb
    rw [World.putObj_heap_other (by omega),k2 b hb,World.putObj_heap_other (by omega)]
end
end Go.Ql
end
