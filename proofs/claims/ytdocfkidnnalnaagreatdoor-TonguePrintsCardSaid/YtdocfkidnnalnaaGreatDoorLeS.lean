/- Part of the lifter: regions and functions, for any program. -/
import Derived.Test.YtdocfkidnnalnaaGreatDoorLdS
import Derived.Orders
set_option linter.all false
section
namespace Go.Ql
section
variable [GInv] {P:Program} {G:Env} {n:Nat} {w0 w w':World} {Z0:Bs} {Z Z':Nat→Prop} {st st1:St} {a:Act} {nm:JY} {o:Oper} {dst:Nat} {ρ:Type} {r:ρ}
def sY {l:List Oper} {o:Oper} {L:List Nat} {a0 a a':Act} (hL:∀t,JK t L=false→JK t (bA (o::l))=false) (h0:KeepT L a0 a) (h:KeepT o.dst.toList a a') :
 (∀t,JK t L=false→JK t (bA l)=false)∧KeepT L a0 a':=by
 have key:∀t,JK t L=false→JK t o.dst.toList=false∧JK t (bA l)=false:=by
  intro t ht
  have:=hL t ht
  unfold bA at this ⊢
  cases hd:o.dst with
  | none=>simp only [List.filterMap_cons,hd] at this;exact ⟨rfl,this⟩
  | some s=>
    simp only [List.filterMap_cons,hd,JK,Bool.or_eq_false_iff] at this
    exact ⟨by simp [JK,this.1],this.2⟩
 exact ⟨fun t ht=>(key t ht).2,fun t ht=>(h t (key t ht).1).trans (h0 t ht)⟩
def tC (hT:Uv P G.tab) (hF:AllOk P G) {ops:Array Oper} {gs:List Nat} {k kp:St→Option ρ} {Q:Exit→Act→World→Prop} {L:List Nat} {a0:Act}
 (hk:∀st' a' w' nm',Rel G.n w0 Z0 st' a' w' nm'→k st'=some r→KeepT L a0 a'→Q .normal a' w')
 (hp:∀st' a' w' nm' v,Rel G.n w0 Z0 st' a' w' nm'→nm' Vu=.func (.func 0) #[] #[v]→kp st'=some r→Q (.panic [{ v,recovered:=false }]) a' w') (rd:Option Nat) (m:Nat):∀(l:List Oper) {st:St} {a:Act} {w:World} {nm:JY},
 (∀t,JK t L=false→JK t (bA l)=false)→KeepT L a0 a →
 Rel G.n w0 Z0 st a w nm→DE G ops.toList gs l st k kp=some r→wpListIn (Fr rd) m P ops Q l a w
 | [],_,_,_,_,_,h0,h,he=>hk _ _ _ _ h he h0
 | o::l,_,_,_,_,hL,h0,h,he=>by
   unfold DE at he
   have:=fD (P:=P) (Q:=Q) (K:=wpListIn (Fr rd) m P ops Q l) hT hF h he (fun st' a' w' nm' h' hk' hkt=>tC hT hF hk hp rd m l (sY hL h0 hkt).1 (sY hL h0 hkt).2 h' hk') hp rd m
   unfold AC at this
   unfold wpListIn
   exact this
def Hg {t:Nat} {l:List Nat}:JK t l=true↔t∈l:=by
 induction l with
 | nil=>simp [JK]
 | cons s r ih=>
   simp only [JK,Bool.or_eq_true,ih,Z5,Jx]
   constructor
   ·rintro (h | h)
    ·exact .inl h.symm
    ·exact .inr h
   ·rintro (h | h)
    ·exact .inl h.symm
    ·exact .inr h
def eG (G:Env) (sj:List (Nat×Ob)) (t:Nat):∀(l:List (Nat×Dv)) {d:Dv},look (NP G sj l) t=some d → ∃d0,look l t=some d0∧d=E4 G.muts sj d0
 | [],d,h=>by simp [NP,look] at h
 | (s,d1)::l,d,h=>by
   simp only [NP] at h
   cases hm:JK s G.keep with
   | true=>
     rw [hm] at h
     simp only [zj,look] at h ⊢
     cases hb:Nat.beq s t with
     | true=>rw [hb] at h;simp only [zj,zd] at h;exact ⟨d1,by simp,h.symm⟩
     | false=>rw [hb] at h;simp only [zk] at h ⊢;exact eG G sj t l h
   | false=>
     rw [hm] at h
     simp only [zk,look] at h ⊢
     obtain ⟨d0,h1,h2⟩:=eG G sj t l h
     cases hb:Nat.beq s t with
     | true=>
       have:=Jx.1 hb
       subst this
       exact absurd h (by
        have:∀l:List (Nat×Dv),look (NP G sj l) s=none:=by
         intro l
         induction l with
         | nil=>rfl
         | cons p l ih=>
           obtain ⟨q,x⟩:=p
           simp only [NP]
           cases hq:JK q G.keep with
           | false=>exact ih
           | true=>
             simp only [zj,look]
             have:Nat.beq q s=false:=by rw [Yi];rintro rfl;rw [hm] at hq;cases hq
             rw [this]
             exact ih
        rw [this];simp)
     | false=>simp only [zk];exact ⟨d0,h1,h2⟩
def bF (G:Env) (sj:List (Nat×Ob)) (id:Nat):Ob→Option Ob
 | .box cs=>some (.box (cs.map (Hk G.muts sj)))
 | .arr v fz e t xs=>bif fz || !JK id G.muts then (bif fz&&JK (20000000+id) G.muts then some .gone else none) else some (.arr (dB id v) false e t xs)
 | .clo f x y=>some (.clo f (x.map (Hk G.muts sj)) (y.map (Hk G.muts sj)))
 | .gone=>some .gone
def VX (G:Env) (sj:List (Nat×Ob)) (id:Nat):∀(l:List (Nat×Ob)) {ob:Ob},look (Um G sj l) id=some ob → ∃ob0,look l id=some ob0∧bF G sj id ob0=some ob
 | [],d,h=>by simp [Um,look] at h
 | (s,.box cs)::l,d,h=>by
   simp only [Um,look] at h ⊢
   cases hb:Nat.beq s id with
   | true=>
     rw [hb] at h
     have:=Jx.1 hb
     subst this
     simp only [zj] at h
     exact ⟨.box cs,by simp,h⟩
   | false=>
     rw [hb] at h
     simp only [zk] at h ⊢
     exact VX G sj id l h
 | (s,.gone)::l,d,h=>by
   simp only [Um,look] at h ⊢
   cases hb:Nat.beq s id with
   | true=>
     rw [hb] at h
     have:=Jx.1 hb
     subst this
     simp only [zj] at h
     exact ⟨.gone,by simp,h⟩
   | false=>
     rw [hb] at h
     simp only [zk] at h ⊢
     exact VX G sj id l h
 | (s,.clo f x y)::l,d,h=>by
   simp only [Um,look] at h ⊢
   cases hb:Nat.beq s id with
   | true=>
     rw [hb] at h
     have:=Jx.1 hb
     subst this
     simp only [zj] at h
     exact ⟨.clo f x y,by simp,h⟩
   | false=>
     rw [hb] at h
     simp only [zk] at h ⊢
     exact VX G sj id l h
 | (s,.arr v fz e t xs)::l,d,h=>by
   simp only [Um] at h
   cases hm:(fz || !JK s G.muts) with
   | true=>
     rw [hm] at h
     simp only [zj] at h
     cases hf:(fz&&JK (20000000+s) G.muts) with
     | true=>
       rw [hf] at h
       simp only [zj,look] at h ⊢
       cases hb:Nat.beq s id with
       | true=>
         rw [hb] at h
         have:=Jx.1 hb
         subst this
         simp only [zj] at h
         refine ⟨.arr v fz e t xs,by simp,?_⟩
         simp only [bF,hm,hf,zj]
         exact h
       | false=>
         rw [hb] at h
         simp only [zk] at h ⊢
         exact VX G sj id l h
     | false=>
     rw [hf] at h
     simp only [zk,y6] at h
     by_cases hs:s=id
     ·simp [hs] at h
     ·rw [if_neg hs] at h
      simp only [look,Yi.2 hs,zk]
      exact VX G sj id l h
   | false=>
     rw [hm] at h
     simp only [zk,look] at h ⊢
     cases hb:Nat.beq s id with
     | true=>
       rw [hb] at h
       have:=Jx.1 hb
       subst this
       refine ⟨.arr v fz e t xs,by simp,?_⟩
       simp only [bF,hm,zk]
       exact h
     | false=>
       rw [hb] at h
       simp only [zk] at h ⊢
       exact VX G sj id l h
def gH {α:Type} (f:Nat→Bool) (t:Nat):∀(l:List (Nat×α)) {d:α},look (eZ f l) t=some d→look l t=some d
 | [],d,h=>by simp [eZ,look] at h
 | (s,x)::l,d,h=>by
   simp only [eZ] at h
   cases hm:f s with
   | true=>
     rw [hm] at h
     simp only [zj,look] at h ⊢
     cases hb:Nat.beq s t with
     | true=>rw [hb] at h;exact h
     | false=>rw [hb] at h;simp only [zk] at h ⊢;exact gH f t l h
   | false=>
     rw [hm] at h
     simp only [zk,look] at h ⊢
     cases hb:Nat.beq s t with
     | true=>
       have:=Jx.1 hb
       subst this
       have hno:∀l:List (Nat×α),look (eZ f l) s=none:=by
        intro l
        induction l with
        | nil=>rfl
        | cons p l ih=>
          obtain ⟨q,y⟩:=p
          simp only [eZ]
          cases hq:f q with
          | false=>exact ih
          | true=>
            simp only [zj,look]
            have:Nat.beq q s=false:=by rw [Yi];rintro rfl;rw [hm] at hq;cases hq
            rw [this]
            exact ih
       rw [hno] at h
       cases h
     | false=>simp only [zk];exact gH f t l h
def F9 {α β:Type} (dom:List (Nat×β)) (t:Nat) (l:List (Nat×α)) {d:α} (h:look (only dom l) t=some d):look l t=some d:=gH _ t l h
def Hr {α β:Type} (dom:List (Nat×β)) (t:Nat) (l:List (Nat×α)) {d:α} (h:look (p8 dom l) t=some d):look l t=some d:=gH _ t l h
def sD {sj objs':List (Nat×Ob)} (hsub:∀id ob,look objs' id=some ob→ob.mine=true → ∃ob',look sj id=some ob'∧ob'.mine=true) {b:Nat} (h:Zc w0 Z0 nm sj w b):Zc w0 Z0 nm objs' w b:=by
 refine ⟨h.1,h.2.1,?_⟩
 rintro ⟨id,ob,h1,h2,h3⟩
 obtain ⟨ob',h4,h5⟩:=hsub id ob h1 h2
 exact h.2.2 ⟨id,ob',h4,h5,h3⟩
def Rel.delC (h:Rel n w0 Z0 st a w nm) (G:Env) (t:Nat):Rel n w0 Z0 (Go.Ql.delC G t st) a w nm:=by
 unfold Go.Ql.delC
 cases JK (2000000000000+t) G.muts with
 | true=>exact h
 | false=>exact h.del t
def Rel.restrict (h:Rel n w0 Z0 st a w nm) (dom:St):Rel n w0 Z0 (Go.Ql.restrict dom st) a w nm:=by
 have hz:Kept w w (Zc w0 Z0 nm st.sj w) (Zc w0 Z0 nm (p8 dom.sj st.sj) w):=fun b hb=>⟨sD (fun id ob h1 h2=>⟨ob,Hr _ _ _ h1,h2⟩) hb,rfl⟩
 have hat:∀x,AtOk nm nm st.sj (p8 dom.sj st.sj) x:=fun x id _=>⟨fun ver fz e t xs h1 _=>⟨rfl,fz,xs,Hr _ _ _ h1,rfl⟩,fun cs h1=>⟨rfl,cs,Hr _ _ _ h1⟩,fun f y z h1=>⟨rfl,f,y,z,Hr _ _ _ h1⟩⟩
 refine ⟨h.defk hz,h.size,fun t d ht=>?_,fun id ob ho=>?_,fun id ob b ho hb=>h.new id ob b (Hr _ _ _ ho) hb,fun id id' ob ob' b ho ho'=>h.inj id id' ob ob' b (Hr _ _ _ ho) (Hr _ _ _ ho'),h.same,fun id ob hg ho=>h.given id ob hg (Hr _ _ _ ho),h.glob,h.calm⟩
 ·obtain ⟨v,h1,h2⟩:=h.mj t d (F9 _ _ _ ht)
  refine ⟨v,h1,Uu hz.weak ?_ h2⟩
  cases d<;>simp only [DvOk]<;>first | exact hat _ | exact fun x _=>hat x
 ·refine Hh hz.weak rfl (fun _ _=>rfl) ?_ (h.sj id ob (Hr _ _ _ ho))
  cases ob<;>simp only [ObOk]<;>first | trivial | exact fun x _=>hat x | exact ⟨fun x _=>hat x,fun x _=>hat x⟩
def Rel.forget (h:Rel n w0 Z0 st a w nm) (l:List Nat):Rel n w0 Z0 (Go.Ql.forget l st) a w nm:=by
 unfold Go.Ql.forget
 split
 ·exact h
 ·exact h.restrict _
def E3 (h:Rel n w0 Z0 st a w nm) {muts:List Nat} {objs':List (Nat×Ob)}
 (hin:∀id ob,look objs' id=some ob→match ob with
  | .box _=>∃cs,look st.sj id=some (.box cs)
  | .arr v fz e t xs=>fz=false∧JK id muts=true ∧ ∃v',look st.sj id=some (.arr v' false e t xs)∧v=dB id v'
  | .gone=>∃o,look st.sj id=some o∧o.mine=false
  | .clo f _ _=>∃p q,look st.sj id=some (.clo f p q)) {x:At} {v:Value} (hr:UE w (Zc w0 Z0 nm st.sj w) nm st.sj x v) :
 UE w (Zc w0 Z0 nm objs' w) nm objs' (Hk muts st.sj x) v:=by
 have hz:Kept w w (Zc w0 Z0 nm st.sj w) (Zc w0 Z0 nm objs' w):=fun b hb=>⟨sD (fun id ob h1 h2=>by
  have:=hin id ob h1
  cases ob with
  | box cs=>obtain ⟨cs',h3⟩:=this;exact ⟨_,h3,rfl⟩
  | clo f p q=>obtain ⟨_,_,h3⟩:=this;exact ⟨_,h3,rfl⟩
  | gone=>cases h2
  | arr v fz e t xs=>obtain ⟨_,_,v',h3,_⟩:=this;exact ⟨_,h3,rfl⟩) hb,rfl⟩
 have gone:∀id v0 fz e t xs,look st.sj id=some (.arr v0 fz e t xs)→(fz || !JK id muts)=true → ∀g,kV (nm id)=some g→Zc w0 Z0 nm objs' w g:=by
  intro id v0 fz e t xs hl hm g hb
  have hn:=h.new id _ g hl hb
  refine ⟨hn.2,fun hlt=>.inr (hn.1.resolve_left (by omega)),?_⟩
  rintro ⟨id',ob,q1,q2,q3⟩
  have hq:=hin id' ob q1
  have hid:id'=id:=by
   cases ob with
   | box cs=>obtain ⟨cs',h4⟩:=hq;exact h.inj id' id _ _ g h4 hl q3 hb
   | clo f p q=>obtain ⟨_,_,h4⟩:=hq;exact h.inj id' id _ _ g h4 hl q3 hb
   | gone=>cases q2
   | arr v fz e t xs=>obtain ⟨_,_,v',h4,_⟩:=hq;exact h.inj id' id _ _ g h4 hl q3 hb
  subst hid
  cases ob with
  | box cs=>obtain ⟨cs',h4⟩:=hq;rw [hl] at h4;cases h4
  | clo f p q=>obtain ⟨_,_,h4⟩:=hq;rw [hl] at h4;cases h4
  | gone=>cases q2
  | arr v fz' e t xs=>
    obtain ⟨_,h5,v',h4,_⟩:=hq
    rw [hl] at h4
    cases h4
    rw [h5] at hm
    cases hm
 cases x with
 | val t d=>exact bJ hz hr
 | nilS=>exact hr
 | ref id off=>
   refine ⟨hr.1,fun cs hl=>?_⟩
   obtain ⟨cs',h3⟩:=hin id _ hl
   exact hr.2 cs' h3
 | clo id=>
   refine ⟨hr.1,fun f p q hl=>?_⟩
   obtain ⟨p',q',h3⟩:=hin id _ hl
   exact hr.2 f p' q' h3
 | win id ver lo m=>
   simp only [Hk]
   split
   ·rename_i v0 fz e t xs hl
    cases hv:Nat.beq v0 ver with
    | false=>exact hr.1
    | true=>
      have:=Jx.1 hv
      subst this
      simp only [zj]
      obtain ⟨hw,hi⟩:=hr.2 fz e t xs hl
      cases hm:(fz || !JK id muts) with
      | true=>
        simp only [zj]
        cases hmap:t.wj with
        | true=>exact hr.1
        | false=>
        simp only [zk]
        obtain ⟨cells,h1,h2⟩:=(h.sj id _ hl).sl hmap
        refine ⟨_,rfl,?_⟩
        rcases AI h1 h2 hw hi with hh | ⟨b,g,c,cs,q1,q2,q3,q4,q5,q6⟩
        ·exact .inl hh
        ·exact .inr (.inl ⟨b,g,c,cs,q1,q2,q3,gone id _ _ _ _ _ hl hm b q4,VF (fun _ _=>YJ hz t) q5,q6⟩)
      | false=>
        simp only [zk]
        refine ⟨hr.1,fun fz1 e1 t1 xs1 hl1=>?_⟩
        obtain ⟨_,_,v',h3,_⟩:=hin id _ hl1
        rw [hl] at h3
        cases h3
        exact ⟨hw,hi⟩
   ·exact hr.1
 | own id ver=>
   simp only [Hk]
   split
   ·rename_i v0 fz e t xs hl
    cases hv:Nat.beq v0 ver with
    | false=>exact hr.1
    | true=>
      have:=Jx.1 hv
      subst this
      simp only [zj]
      have hvn:=hr.2 fz e t xs hl
      cases hm:(fz || !JK id muts) with
      | true=>
        simp only [zj]
        cases hmap:t.wj with
        | true=>exact hr.1
        | false=>
        simp only [zk]
        rw [hvn]
        obtain ⟨cells,h1,h2⟩:=(h.sj id _ hl).sl hmap
        refine ⟨_,rfl,?_⟩
        rcases h1.2 with ⟨e1,e2⟩ | ⟨g,cap,cur,e1,e3,e4,e5,e6,e7⟩
        ·exact .inl ⟨e1,zl e2⟩
        ·refine .inr (.inl ⟨g,0,cap,cells,e1,e4,e5,?_,VF (fun _ _=>YJ hz t) h2,fun j u hj=>?_⟩)
         ·have hb:kV (nm id)=some g:=by rw [e1];rfl
          have hn:=h.new id _ g hl hb
          exact gone id v0 fz e t xs hl hm g hb
         ·rw [zv,e3.cell]
          rw [←e7,List.getElem?_take] at hj
          split at hj
          ·simpa using hj
          ·cases hj
      | false=>
        simp only [zk]
        exact ⟨hr.1,fun _ _ _ _ _=>hvn⟩
   ·exact hr.1
 | aptr id ver=>
   simp only [Hk]
   split
   ·rename_i v0 fz e t xs hl
    cases hv:Nat.beq v0 ver with
    | false=>exact hr.1
    | true=>
      have:=Jx.1 hv
      subst this
      simp only [zj]
      have hvn:=hr.2 fz e t xs hl
      cases hm:(fz || !JK id muts) with
      | true=>exact hr.1
      | false=>
        simp only [zk]
        exact ⟨hr.1,fun _ _ _ _ _=>hvn⟩
   ·exact hr.1
 | selfp id T=>
   refine ⟨hr.1,fun cs hl=>?_⟩
   obtain ⟨cs',h3⟩:=hin id _ hl
   exact hr.2 cs' h3
 | elem id ver i sz off=>exact hr.1
 | aelem=>exact hr.1
 | fptr t d=>
   obtain ⟨b,off,cs,h1,h2,h3,h4⟩:=hr
   exact ⟨b,off,cs,h1,(hz b h2).1,YJ hz t h3,h4⟩
 | fn f=>exact hr
 | junk=>exact hr
def hX {Z Z':Nat→Prop} {sj objs':List (Nat×Ob)} {g:At→At} (hg:∀x v,UE w Z nm sj x v→UE w Z' nm objs' (g x) v) {cs:List At} {vs:List Value} (h:Vx w Z nm sj cs vs):Vx w Z' nm objs' (cs.map g) vs:=by
 refine ⟨by rw [List.length_map];exact h.1,fun i x v q1 q2=>?_⟩
 rw [List.getElem?_map,Z8] at q1
 obtain ⟨y,h1,rfl⟩:=q1
 exact hg y v (h.2 i y v h1 q2)
def E5 {muts:List Nat} {sj:List (Nat×Ob)} {id:Nat} {T:TypeId} {cs:List At} (h:At.selfp id T∈cs.map (Hk muts sj)):At.selfp id T∈cs:=by
 obtain ⟨x,hx,e⟩:=List.mem_map.1 h
 have:x=At.selfp id T:=by
  cases x<;>simp only [Hk] at e<;>first | exact e | (cases e;done) | (split at e<;>first | (cases e;done) | (rename_i v _ _ _ _ _;cases hb:Nat.beq v _<;>rw [hb] at e<;>simp only [zj,zk] at e<;>first | (cases e;done) | (split at e<;>cases e) | (cases hm:(_||_:Bool)<;>rw [hm] at e<;>simp only [zj,zk] at e<;>first | (cases e;done) | (rename_i t _ _;cases hq:Ty.wj _<;>rw [hq] at e<;>cases e))))
 exact this▸hx
def Rel.norm (h:Rel n w0 Z0 st a w nm) (G:Env):Rel n w0 Z0 (Go.Ql.norm G st) a w nm:=by
 have hin:∀id ob,look (Um G st.sj st.sj) id=some ob→match ob with
  | .box _=>∃cs,look st.sj id=some (.box cs)
  | .arr v fz e t xs=>fz=false∧JK id G.muts=true ∧ ∃v',look st.sj id=some (.arr v' false e t xs)∧v=dB id v'
  | .gone=>∃o,look st.sj id=some o∧o.mine=false
  | .clo f _ _=>∃p q,look st.sj id=some (.clo f p q):=by
  intro id ob hl
  obtain ⟨ob0,h1,h2⟩:=VX G st.sj id st.sj hl
  cases ob0 with
  | box cs=>simp only [bF,zd] at h2;subst h2;exact ⟨cs,h1⟩
  | clo f p q=>simp only [bF,zd] at h2;subst h2;exact ⟨p,q,h1⟩
  | gone=>simp only [bF,zd] at h2;subst h2;exact ⟨_,h1,rfl⟩
  | arr v fz e t xs=>
    simp only [bF] at h2
    cases hm:(fz || !JK id G.muts) with
    | true=>
      rw [hm] at h2
      simp only [zj] at h2
      cases hf:(fz&&JK (20000000+id) G.muts) with
      | true=>
        rw [hf] at h2
        simp only [zj,zd] at h2
        subst h2
        rw [ze] at hf
        exact ⟨_,h1,by simp [Ob.mine,hf.1]⟩
      | false=>rw [hf] at h2;cases h2
    | false=>
      rw [hm] at h2
      simp only [zk,zd] at h2
      subst h2
      rw [Bool.or_eq_false_iff] at hm
      obtain ⟨rfl,hm2⟩:=hm
      exact ⟨rfl,by simpa using hm2,v,h1,rfl⟩
 have hz:Kept w w (Zc w0 Z0 nm st.sj w) (Zc w0 Z0 nm (Um G st.sj st.sj) w):=fun b hb=>⟨sD (fun id ob h1 h2=>by
  have:=hin id ob h1
  cases ob with
  | box cs=>obtain ⟨cs',h3⟩:=this;exact ⟨_,h3,rfl⟩
  | clo f p q=>obtain ⟨_,_,h3⟩:=this;exact ⟨_,h3,rfl⟩
  | gone=>cases h2
  | arr v fz e t xs=>obtain ⟨_,_,v',h3,_⟩:=this;exact ⟨_,h3,rfl⟩) hb,rfl⟩
 have hconv:∀x v,UE w (Zc w0 Z0 nm st.sj w) nm st.sj x v→UE w (Zc w0 Z0 nm (Um G st.sj st.sj) w) nm (Um G st.sj st.sj) (Hk G.muts st.sj x) v:=fun x v hr=>E3 h hin hr
 refine ⟨h.defk hz,h.size,fun t d ht=>?_,fun id ob ho=>?_,fun id ob b ho hb=>?_,fun id id' ob ob' b ho ho' hb hb'=>?_,h.same,fun id ob hg ho hh=>?_,h.glob,h.calm⟩
 ·obtain ⟨d0,h1,rfl⟩:=eG G st.sj t st.mj ht
  obtain ⟨v,h2,h3⟩:=h.mj t d0 h1
  refine ⟨v,h2,?_⟩
  cases d0 with
  | one x=>exact hconv x v h3
  | agg cs=>obtain ⟨vs,e,h4,h5⟩:=h3;exact ⟨vs,e,hX hconv h4,h5⟩
  | tup cs=>obtain ⟨vs,e,h4⟩:=h3;exact ⟨vs,e,hX hconv h4⟩
 ·obtain ⟨ob0,h1,h2⟩:=VX G st.sj id st.sj ho
  have h3:=h.sj id ob0 h1
  cases ob0 with
  | box cs=>
    simp only [bF,zd] at h2
    subst h2
    obtain ⟨b,vs,T,p1,p2,p3,p4⟩:=h3
    exact ⟨b,vs,T,p1,p2,hX hconv p3,p4.1,fun T' hT=>p4.2 T' (E5 hT)⟩
  | clo f p q=>
    simp only [bF,zd] at h2
    subst h2
    obtain ⟨vx,vy,p1,p2,p3⟩:=h3
    exact ⟨vx,vy,p1,hX hconv p2,hX hconv p3⟩
  | gone=>
    simp only [bF,zd] at h2
    subst h2
    trivial
  | arr v fz e t xs=>
    simp only [bF] at h2
    cases hm:(fz || !JK id G.muts) with
    | true=>
      rw [hm] at h2
      simp only [zj] at h2
      cases hf:(fz&&JK (20000000+id) G.muts) with
      | true=>
        rw [hf] at h2
        simp only [zj,zd] at h2
        subst h2
        trivial
      | false=>rw [hf] at h2;cases h2
    | false=>
      rw [hm] at h2
      simp only [zk,zd] at h2
      subst h2
      exact bU (w':=w) hz.weak (fun _ _=>rfl) (show rdArr w _ (nm id) e t xs from h3)
 ·obtain ⟨ob0,h1,_⟩:=VX G st.sj id st.sj ho
  exact h.new id ob0 b h1 hb
 ·obtain ⟨ob0,h1,_⟩:=VX G st.sj id st.sj ho
  obtain ⟨ob1,h2,_⟩:=VX G st.sj id' st.sj ho'
  exact h.inj id id' ob0 ob1 b h1 h2 hb hb'
 ·have hq:=hin id ob ho
  cases ob with
  | box cs=>obtain ⟨cs',h4⟩:=hq;exact h.given id _ hg h4 trivial
  | clo f p q=>obtain ⟨_,_,h4⟩:=hq;exact h.given id _ hg h4 trivial
  | gone=>exact hh.elim
  | arr v fz e t xs=>
    obtain ⟨_,_,v',h4,h5⟩:=hq
    obtain ⟨h6,h7⟩:=hh
    refine h.given id _ hg h4 ⟨h6,?_⟩
    have:Nat.ble lL id=true:=by rw [Nat.ble_eq];exact h6
    unfold dB at h5
    rw [this] at h5
    simp only [zj] at h5
    omega
end
end Go.Ql
end

section
namespace Go.Ql
section
variable [GInv] {α β γ ρ τ:Type}
def jb {p:Option α} {f:α→Option ρ} {f':α→Option τ} {k:τ→Option ρ} (h:∀x,f x=jc (f' x) k):jc p f=jc (jc p f') k:=by
 cases p with
 | none=>rfl
 | some x=>exact h x
def jt {b:Bool} {x y:Option ρ} {x' y':Option τ} {k:τ→Option ρ} (h1:x=jc x' k) (h2:y=jc y' k):br b x y=jc (br b x' y') k:=by
 cases b with
 | true=>exact h1
 | false=>exact h2
def kw {r:α⊕β} {f:α→Option ρ} {g:β→Option ρ} {f':α→Option τ} {g':β→Option τ} {k:τ→Option ρ} (h1:∀x,f x=jc (f' x) k) (h2:∀x,g x=jc (g' x) k):sel r f g=jc (sel r f' g') k:=by
 cases r with
 | inl x=>exact h1 x
 | inr x=>exact h2 x
def ja {k:τ→Option ρ} {t:τ}:k t=jc (some t) k:=rfl
end
structure ExtE (ev ev':Operand→Option Dv) (ob ob':Yo) (dst:Nat):Prop where
 e:∀{x d},ev x=some d→ev' x=some d
 o:∀{i b},ob i=some b→ob' i=some b
 ds:∀j,ob (Uc dst j)=ob' (Uc dst j)
def ExtE.d {ev ev':Operand→Option Dv} {ob ob':Yo} {dst:Nat} (h:ExtE ev ev' ob ob' dst):ob dst=ob' dst:=h.ds 0
section
variable [GInv] {G:Env} {o:Oper} {dst:Nat} {ev:Operand→Option Dv} {ob:Yo} {ρ:Type} {k:Eff→Option ρ} {r:ρ}
def Ur (G:Env) (o:Oper) (dst:Nat) (ev:Operand→Option Dv) (ob:Yo) (k:Eff→Option ρ) (r:ρ):Prop:=
 ∃e,k e=some r ∧ ∀{ev' ob'},ExtE ev ev' ob ob' dst → ∀(τ:Type) (k':Eff→Option τ),Jq G o dst ev' ob' k'=k' e
def pJ {ob':Yo} (h:∀{i b},ob i=some b→ob' i=some b) {t:Ty} {a:At} {p} (he:nQ ob t a=some p):nQ ob' t a=some p:=by
 cases a<;>try exact he
 case own id ver=>
  simp only [nQ] at he ⊢
  split at he
  ·rename_i hob;rw [h hob];exact he
  ·cases he
 case win id ver lo m=>
  simp only [nQ] at he ⊢
  split at he
  ·rename_i hob;rw [h hob];exact he
  ·cases he
def F0 {ob':Yo} (h:∀{i b},ob i=some b→ob' i=some b):∀{t:Ty} {cs:List At} {p},Nc ob t cs=some p→Nc ob' t cs=some p:=by
 intro t
 induction t with
 | st t ih=>intro cs p he;exact ih he
 | pair a b iha ihb=>
   intro cs p he
   simp only [Nc] at he ⊢
   split at he
   ·rename_i h1
    rw [iha h1]
    simp only
    split at he
    ·rename_i h2;rw [ihb h2];exact he
    ·cases he
   ·cases he
 | unit=>intro cs p he;exact he
 | ar m t ih=>intro cs p he;cases cs<;>cases he
 | node t ih=>
   intro cs p he
   simp only [Nc] at he ⊢
   split at he
   ·rename_i h1
    rw [ih h1]
    simp only
    split at he
    ·rename_i h2;rw [pJ h h2];exact he
    ·cases he
   ·cases he
 | _=>
   intro cs p he
   cases cs with
   | nil=>exact he
   | cons c r=>
     simp only [Nc] at he ⊢
     split at he
     ·rename_i h1;rw [pJ h h1];exact he
     ·cases he
def Hc {ob':Yo} (h:∀{i b},ob i=some b→ob' i=some b) {t:Ty} {d:Dv} {p} (he:bE ob t d=some p):bE ob' t d=some p:=by
 cases d with
 | one a=>exact pJ h he
 | agg cs=>
   cases t<;>try exact he
   simp only [bE] at he ⊢
   split at he
   ·rename_i h1;rw [F0 h h1];exact he
   ·cases he
 | tup l=>exact he
def xF {ob':Yo} (h:∀{i b},ob i=some b→ob' i=some b):∀{ts:List Ty} {ds:List Dv} {p},args ob ts ds=some p→args ob' ts ds=some p
 | [],[],p,he=>he
 | [],_::_,p,he=>he
 | _::_,[],p,he=>by
   rename_i ts
   cases ts<;>exact he
 | [t],[d],p,he=>by
   simp only [args] at he ⊢
   split at he
   ·rename_i h1;rw [Hc h h1];exact he
   ·cases he
 | [t],_::_::_,p,he=>he
 | t::t'::ts,d::ds,p,he=>by
   simp only [args] at he ⊢
   split at he
   ·rename_i h1
    rw [Hc h h1]
    simp only
    split at he
    ·rename_i h2;rw [xF h h2];exact he
    ·cases he
   ·cases he
def NO {ev':Operand→Option Dv} (h:∀{x d},ev x=some d→ev' x=some d):∀{l:List Operand} {p},NV ev l=some p→NV ev' l=some p
 | [],p,he=>he
 | x::l,p,he=>by
   simp only [NV] at he ⊢
   split at he
   ·rename_i h1 h2
    rw [h h1,NO h h2];exact he
   ·cases he
def vM {ev':Operand→Option Dv} (h:∀{x d},ev x=some d→ev' x=some d) {tab fs}:∀{l:List (Nat×Operand)} {cs p},iP tab fs ev l cs=some p→iP tab fs ev' l cs=some p
 | [],cs,p,he=>he
 | (i,x)::l,cs,p,he=>by
   simp only [iP] at he ⊢
   split at he
   ·rename_i off ft d h1 h2
    rw [h1,h h2]
    simp only
    split at he
    ·rename_i ds fi h3 h4
     cases hb:Nat.beq ds.length fi.ty.cells&&Nat.ble (off+ds.length) cs.length with
     | true=>rw [hb] at he;exact vM h he
     | false=>rw [hb] at he;cases he
    ·cases he
   ·cases he
def mY {fr:Bool} {ob':Yo} {idf:Nat→Nat} (h:∀j,ob (idf j)=ob' (idf j)):∀{l:List (Nat×(TypeId×Ty))} {ds:List At},HL fr ob' idf l ds=HL fr ob idf l ds
 | [],ds=>rfl
 | (j,e,s)::r,ds=>by
   simp only [HL,u7,h,mY h]
def PZ {ob':Yo} (h:∀{i b},ob i=some b→ob' i=some b) {i v:Nat} (he:u7 false ob i=some v):u7 false ob' i=some v:=by
 unfold u7 at he ⊢
 cases q:ob i with
 | none=>rw [q] at he;cases he
 | some b=>rw [q] at he;rw [h q];exact he
def oS {ob':Yo} {idf:Nat→Nat} (h:∀{i b},ob i=some b→ob' i=some b):∀{l:List (Nat×(TypeId×Ty))} {ds:List At} {p},HL false ob idf l ds=some p→HL false ob' idf l ds=some p
 | [],ds,p,he=>he
 | (j,e,s)::r,ds,p,he=>by
   simp only [HL] at he ⊢
   split at he
   ·split at he
    ·rename_i ver hv
     rw [PZ h hv]
     simp only
     cases ha:(ds.all (fun x=>!x.fj (idf j)) && !s.wj) with
     | false=>rw [ha] at he;cases he
     | true=>
       rw [ha] at he
       simp only [zj] at he ⊢
       split at he
       ·rename_i h2
        rw [oS h h2]
        exact he
       ·cases he
    ·cases he
   ·exact oS h he
def vO {ev':Operand→Option Dv} {ob':Yo} (h:∀{x d},ev x=some d→ev' x=some d) (h':∀{i b},ob i=some b→ob' i=some b) {tab fs} {s:Ty}:∀{l:List (Nat×Operand)} {y p},iR ob tab fs ev s l y=some p→iR ob' tab fs ev' s l y=some p
 | [],y,p,he=>he
 | (i,x)::l,y,p,he=>by
   simp only [iR] at he ⊢
   split at he
   ·rename_i off ft d h1 h2
    rw [h1,h h2]
    simp only
    split at he
    ·rename_i fi h3
     split at he
     ·rename_i z u h4
      rw [Hc h' h4]
      simp only
      split at he
      ·rename_i y' h5
       split at he
       ·rename_i h6
        rw [vO h h' h6];exact he
       ·cases he
      ·cases he
     ·cases he
    ·cases he
   ·cases he
def vN {ev':Operand→Option Dv} {ob':Yo} (h:∀{x d},ev x=some d→ev' x=some d) (h':∀{i b},ob i=some b→ob' i=some b) {s:Ty} {m:Nat}:∀{l:List (Nat×Operand)} {y p},iQ ob ev s m l y=some p→iQ ob' ev' s m l y=some p
 | [],y,p,he=>he
 | (i,x)::l,y,p,he=>by
   simp only [iQ] at he ⊢
   split at he
   ·rename_i d h2
    rw [h h2]
    simp only
    split at he
    ·rename_i z u h4
     rw [Hc h' h4]
     simp only
     cases hb:Nat.blt i m with
     | false=>rw [hb] at he;cases he
     | true=>
       rw [hb] at he
       simp only [zj] at he ⊢
       split at he
       ·rename_i h6
        rw [vN h h' h6];exact he
       ·cases he
    ·cases he
   ·cases he
def sT {ev':Operand→Option Dv} {ob':Yo} (h:∀{x d},ev x=some d→ev' x=some d) (h':∀{i b},ob i=some b→ob' i=some b) {s:Ty}:∀{l:List (Nat×Operand)} {i p},fG ob ev s i l=some p→fG ob' ev' s i l=some p
 | [],i,p,he=>he
 | (j,x)::l,i,p,he=>by
   simp only [fG] at he ⊢
   cases hb:Nat.beq i j with
   | false=>rw [hb] at he;cases he
   | true=>
     rw [hb] at he
     simp only [zj] at he ⊢
     split at he
     ·rename_i h1
      rw [h h1]
      simp only
      split at he
      ·rename_i h2
       rw [Hc h' h2]
       simp only
       split at he
       ·rename_i h3;rw [sT h h' h3];exact he
       ·cases he
      ·cases he
     ·cases he
def KE {x:Operand} (ho:o.op=.move x) (he:Jq G o dst ev ob k=some r):Ur G o dst ev ob k r:=by
 unfold Jq at he
 rw [ho] at he
 simp only at he
 split at he
 ·rename_i id ver hd
  cases hm:JK (xW dst) G.muts with
  | false=>
    rw [hm] at he
    simp only [zk] at he
    exact ⟨_,he,fun h=>by intro τ k';unfold Jq;rw [ho];simp only [h.e hd,hm,zk]⟩
  | true=>
    rw [hm] at he
    simp only [zj] at he
    split at he
    ·rename_i v fz e s xs hob
     cases hv:(Nat.beq v ver && !s.wj) with
     | false=>rw [hv] at he;cases he
     | true=>
       rw [hv] at he
       simp only [zj] at he
       exact ⟨_,he,fun h=>by intro τ k';unfold Jq;rw [ho];simp only [h.e hd,hm,zj,h.o hob,hv]⟩
    ·cases he
 ·rename_i d hn hd
  refine ⟨_,he,fun h=>?_⟩
  intro τ k';unfold Jq;rw [ho]
  simp only [h.e hd]
 ·cases he
def CW {x:Operand} (ho:o.op=.assign x) (he:Jq G o dst ev ob k=some r):Ur G o dst ev ob k r:=by
 unfold Jq at he
 rw [ho] at he
 simp only at he
 cases hx:ev x with
 | none=>rw [hx] at he;cases he
 | some d=>
   rw [hx] at he
   split at he
   ·rename_i h0
    cases h0
    cases hm:uL G x dst with
    | true=>
      rw [hm] at he
      exact ⟨_,he,fun h=>by intro τ k';unfold Jq;rw [ho];simp only [h.e hx,hm,zj]⟩
    | false=>
    rw [hm] at he
    simp only [zk] at he
    split at he
    ·rename_i ht
     split at he
     ·rename_i ver hv
      exact ⟨_,he,fun h=>by intro τ k';unfold Jq;rw [ho];simp only [h.e hx,hm,zk,ht,Va,←h.d];unfold Va at hv;rw [hv]⟩
     ·cases he
    ·cases he
   ·rename_i d' hn h0
    cases h0
    refine ⟨_,he,fun h=>?_⟩
    intro τ k';unfold Jq;rw [ho];simp only [h.e hx]
   ·cases he
def KF {c x y:Operand} (ho:o.op=.pick c x y) (he:Jq G o dst ev ob k=some r):Ur G o dst ev ob k r:=by
 unfold Jq at he
 rw [ho] at he
 simp only at he
 split at he
 ·rename_i b hb
  cases b with
  | true=>
    simp only [br] at he
    split at he
    ·rename_i d hd
     exact ⟨_,he,fun h=>by intro τ k';unfold Jq;rw [ho];simp only [h.e hb,br,h.e hd]⟩
    ·cases he
  | false=>
    simp only [br] at he
    split at he
    ·rename_i d hd
     exact ⟨_,he,fun h=>by intro τ k';unfold Jq;rw [ho];simp only [h.e hb,br,h.e hd]⟩
    ·cases he
 ·cases he
def FK {t:TypeId} (ho:o.op=.alloc t) (he:Jq G o dst ev ob k=some r):Ur G o dst ev ob k r:=by
 unfold Jq at he
 rw [ho] at he
 simp only at he
 split at he
 ·rename_i ti ht
  cases hf:ti.ty.flat with
  | true=>
    rw [hf] at he
    simp only [zj] at he
    split at he
    ·rename_i hd
     split at he
     ·rename_i cs u hown
      cases hb:(u.all (fun q=>!Nat.beq q.1 dst)&&cs.all (fun x=>!x.fj dst)) with
      | false=>rw [hb] at he;cases he
      | true=>
        rw [hb] at he
        refine ⟨_,he,fun h=>?_⟩
        have hx:=mY (fr:=true) (ob:=ob) (idf:=fun j=>Uc dst (j+1)) (fun j=>h.ds (j+1)) (l:=bif JK dst G.muts then oO G.tab ti else []) (ds:=dE (JK dst G.muts) ti.ty)
        intro τ k';unfold Jq;rw [ho];simp only [ht,hf,zj,←h.d,hd,hx,hown,hb]
     ·cases he
    ·cases he
  | false=>
    rw [hf] at he
    simp only [zk] at he
    split at he
    ·rename_i ver hv
     split at he
     ·rename_i m s m' e'
      cases hb:Nat.blt 0 m&&Nat.ble m 1048576 with
      | false=>rw [hb] at he;cases he
      | true=>
        rw [hb] at he
        exact ⟨_,he,fun h=>by intro τ k';unfold Jq;rw [ho];simp only [ht,hf,zk,Va,←h.d];unfold Va at hv;rw [hv];simp only [hb,zj]⟩
     ·exact ⟨_,he,fun h=>by intro τ k';unfold Jq;rw [ho];simp only [ht,hf,zk,Va,←h.d];unfold Va at hv;rw [hv]⟩
     ·cases he
    ·cases he
 ·cases he
def F4 {ob':Yo} (h:∀{i b},ob i=some b→ob' i=some b) {d:Dv} {p} (he:lenOf ob d=some p):lenOf ob' d=some p:=by
 cases d with
 | one a=>
   cases a<;>try exact he
   case val t d=>cases t<;>exact he
   case own id ver=>
    simp only [lenOf] at he ⊢
    split at he
    ·rename_i hob;rw [h hob];exact he
    ·cases he
   case win id ver lo m=>
    simp only [lenOf] at he ⊢
    split at he
    ·rename_i hob;rw [h hob];exact he
    ·cases he
 | agg cs=>exact he
 | tup cs=>exact he
def OY {t:TypeId} {x:Operand} (ho:o.op=.box t x) (he:Jq G o dst ev ob k=some r):Ur G o dst ev ob k r:=by
 unfold Jq at he
 rw [ho] at he
 simp only at he
 split at he
 ·rename_i ti d ht hx
  cases hl5:JK (8500000+dst) G.muts with
  | true=>
    rw [hl5] at he
    simp only [zj] at he
    split at he
    ·rename_i m hm
     exact ⟨_,he,fun h=>by intro τ k';unfold Jq;rw [ho];simp only [ht,h.e hx,hl5,zj,F4 h.o hm]⟩
    ·cases he
  | false=>
  rw [hl5] at he
  simp only [zk] at he
  cases hl6:JK (8600000+dst) G.muts with
  | true=>
    rw [hl6] at he
    simp only [zj] at he
    split at he
    ·rename_i y hy
     exact ⟨_,he,fun h=>by intro τ k';unfold Jq;rw [ho];simp only [ht,h.e hx,hl5,hl6,zj,zk,Hc h.o hy]⟩
    ·cases he
  | false=>
  rw [hl6] at he
  simp only [zk] at he
  cases hf:ti.ty.flat with
  | true=>
    rw [hf] at he
    simp only [zj] at he
    split at he
    ·rename_i cs hc
     split at he
     ·rename_i hd
      cases hmu:JK dst G.muts with
      | true=>
        rw [hmu] at he
        simp only [zj] at he
        split at he
        ·rename_i cs' u hown
         cases hb:(Nat.beq cs.length ti.ty.cells&&u.all (fun q=>!Nat.beq q.1 dst)&&cs'.all (fun x=>!x.fj dst)) with
         | false=>rw [hb] at he;cases he
         | true=>
           rw [hb] at he
           refine ⟨_,he,fun h=>?_⟩
           have hx0:=mY (fr:=true) (ob:=ob) (idf:=fun j=>Uc dst (j+1)) (fun j=>h.ds (j+1)) (l:=oO G.tab ti) (ds:=cs)
           intro τ k';unfold Jq;rw [ho];simp only [ht,h.e hx,hl5,hl6,zk,hf,hc,zj,←h.d,hd,hmu,hx0,hown,hb]
        ·cases he
      | false=>
      rw [hmu] at he
      simp only [zk] at he
      cases hb:Nat.beq cs.length ti.ty.cells with
      | true=>
        rw [hb] at he
        exact ⟨_,he,fun h=>by intro τ k';unfold Jq;rw [ho];simp only [ht,h.e hx,hl5,hl6,zk,hf,hc,←h.d,hd,hmu,hb,zj,zk]⟩
      | false=>rw [hb] at he;cases he
     ·cases he
    ·cases he
  | false=>
    rw [hf] at he
    simp only [zk] at he
    cases hz:JK (8000000+dst) G.muts with
    | true=>
      rw [hz] at he
      simp only [zj] at he
      split at he
      ·rename_i y hy
       exact ⟨_,he,fun h=>by intro τ k';unfold Jq;rw [ho];simp only [ht,h.e hx,hl5,hl6,zk,hf,zk,hz,zj,Hc h.o hy]⟩
      ·cases he
    | false=>
    rw [hz] at he
    simp only [zk] at he
    split at he
    ·rename_i ver y u hv hy
     cases ha:u.all (fun q=>!Nat.beq q.1 dst) with
     | false=>rw [ha] at he;cases he
     | true=>
       rw [ha] at he
       simp only [zj] at he
       split at he
       ·rename_i m s m' e' y' _
        cases hb:Nat.blt 0 m&&Nat.ble m 1048576 with
        | false=>rw [hb] at he;cases he
        | true=>
          rw [hb] at he
          exact ⟨_,he,fun h=>by intro τ k';unfold Jq;rw [ho];simp only [ht,h.e hx,hl5,hl6,zk,hf,zk,hz,Va,←h.d,Hc h.o hy];unfold Va at hv;rw [hv];simp only [ha,hb,zj]⟩
       ·exact ⟨_,he,fun h=>by intro τ k';unfold Jq;rw [ho];simp only [ht,h.e hx,hl5,hl6,zk,hf,zk,hz,Va,←h.d,Hc h.o hy];unfold Va at hv;rw [hv];simp only [ha,zj]⟩
       ·cases he
    ·cases he
 ·cases he
def FN {t:TypeId} {x:Operand} {f:Nat} (ho:o.op=.field t x f) (he:Jq G o dst ev ob k=some r):Ur G o dst ev ob k r:=by
 unfold Jq at he
 rw [ho] at he
 simp only at he
 split at he
 ·rename_i ty fs s y ht hx
  split at he
  ·rename_i off ft hf
   split at he
   ·rename_i fi hfi
    split at he
    ·rename_i z hz
     exact ⟨_,he,fun h=>by intro τ k';unfold Jq;rw [ho];simp only [ht,h.e hx,hf,hfi,hz]⟩
    ·cases he
   ·cases he
  ·cases he
 ·cases he
def qL {t:TypeId} {x:Operand} (ho:o.op=.makeInterface t x) (he:Jq G o dst ev ob k=some r):Ur G o dst ev ob k r:=by
 unfold Jq at he
 rw [ho] at he
 simp only at he
 split at he
 ·rename_i s fs d htab hx
  split at he
  ·rename_i y u hy
   exact ⟨_,he,fun h=>by intro τ k';unfold Jq;rw [ho];simp only [htab,h.e hx,Hc h.o hy]⟩
  ·cases he
 ·cases he
def wQ {t:TypeId} {x:Operand} {f:Nat} (ho:o.op=.fieldAddr t x f) (he:Jq G o dst ev ob k=some r):Ur G o dst ev ob k r:=by
 unfold Jq at he
 rw [ho] at he
 simp only at he
 split at he
 ·rename_i ty fs p ht hx
  split at he
  ·rename_i off ft hf
   split at he
   ·rename_i fi hfi
    cases hz:Nat.beq fi.ty.cells 0 with
    | true=>rw [hz] at he;cases he
    | false=>
      rw [hz] at he
      simp only [zk] at he
      split at he
      ·rename_i id o'
       split at he
       ·rename_i cs hob
        exact ⟨_,he,fun h=>by intro τ k';unfold Jq;rw [ho];simp only [ht,h.e hx,hf,hfi,hz,zk,h.o hob]⟩
       ·cases he
      ·rename_i id ver i sz o'
       split at he
       ·rename_i v fz e t' xs hob
        cases hb:Nat.beq v ver with
        | true=>
          rw [hb] at he
          exact ⟨_,he,fun h=>by intro τ k';unfold Jq;rw [ho];simp only [ht,h.e hx,hf,hfi,hz,zk,h.o hob,hb,zj]⟩
        | false=>rw [hb] at he;cases he
       ·cases he
      ·rename_i id ver
       split at he
       ·rename_i v fz e s xs hob
        cases hb:Nat.beq v ver with
        | true=>
          rw [hb] at he
          simp only [zj] at he
          obtain ⟨y,hy,he⟩:=ki he
          exact ⟨_,he,fun h=>by intro τ k';unfold Jq;rw [ho];simp only [ht,h.e hx,hf,hfi,hz,zk,h.o hob,hb,zj,hy,jc]⟩
        | false=>rw [hb] at he;cases he
       ·cases he
      ·rename_i id ver i sz q m e j o'
       split at he
       ·rename_i v fz e' t' xs hob
        cases hb:Nat.beq v ver with
        | true=>
          rw [hb] at he
          exact ⟨_,he,fun h=>by intro τ k';unfold Jq;rw [ho];simp only [ht,h.e hx,hf,hfi,hz,zk,h.o hob,hb,zj]⟩
        | false=>rw [hb] at he;cases he
       ·cases he
      ·rename_i s d
       split at he
       ·rename_i y hy
        exact ⟨_,he,fun h=>by intro τ k';unfold Jq;rw [ho];simp only [ht,h.e hx,hf,hfi,hz,zk,hy]⟩
       ·cases he
      ·cases he
   ·cases he
  ·cases he
 ·cases he
def KD {t:TypeId} {x:Operand} (ho:o.op=.load t x) (he:Jq G o dst ev ob k=some r):Ur G o dst ev ob k r:=by
 unfold Jq at he
 rw [ho] at he
 simp only at he
 split at he
 ·rename_i ti p ht hx
  split at he
  ·rename_i id off
   split at he
   ·rename_i cs hob
    cases hst:ti.ty.isSt with
    | true=>
      rw [hst] at he
      simp only [zj] at he
      cases hb:Nat.ble (off+ti.ty.cells) cs.length with
      | true=>
        rw [hb] at he
        exact ⟨_,he,fun h=>by intro τ k';unfold Jq;rw [ho];simp only [ht,h.e hx,h.o hob,hst,hb,zj]⟩
      | false=>rw [hb] at he;cases he
    | false=>
      rw [hst] at he
      simp only [zk] at he
      split at he
      ·rename_i a ha
       exact ⟨_,he,fun h=>by intro τ k';unfold Jq;rw [ho];simp only [ht,h.e hx,h.o hob,hst,ha,zk]⟩
      ·cases he
   ·cases he
  ·rename_i id ver i sz off
   split at he
   ·rename_i v fz e s xs hob
    cases hb:Nat.beq v ver with
    | true=>
      rw [hb] at he
      simp only [zj] at he
      obtain ⟨y,hy,he⟩:=ki he
      split at he
      ·rename_i z hz
       exact ⟨_,he,fun h=>by intro τ k';unfold Jq;rw [ho];simp only [ht,h.e hx,h.o hob,hb,zj,hy,jc,hz]⟩
      ·cases he
    | false=>rw [hb] at he;cases he
   ·cases he
  ·rename_i s d
   split at he
   ·rename_i z hz
    exact ⟨_,he,fun h=>by intro τ k';unfold Jq;rw [ho];simp only [ht,h.e hx,hz]⟩
   ·cases he
  ·cases he
 ·cases he
def FQ {t:TypeId} {x y:Operand} (ho:o.op=.store t x y) (he:Jq G o dst ev ob k=some r):Ur G o dst ev ob k r:=by
 unfold Jq at he
 rw [ho] at he
 simp only at he
 split at he
 ·rename_i ti p d ht hx hy
  split at he
  ·rename_i id off
   split at he
   ·rename_i cs ds0 hob hds
    split at he
    ·rename_i ds u hown
     cases hb:(Nat.beq ds.length ti.ty.cells&&Nat.ble (off+ds.length) cs.length&&u.all (fun q=>!Nat.beq q.1 id)&&ds.all (fun x=>!x.isSelf)) with
     | true=>
       rw [hb] at he
       refine ⟨_,he,fun h=>?_⟩
       have hup:=oS h.o hown
       intro τ k';unfold Jq;rw [ho];simp only [ht,h.e hx,h.e hy,h.o hob,hds,hup,hb,zj]
     | false=>rw [hb] at he;cases he
    ·cases he
   ·cases he
  ·rename_i id ver i sz off
   split at he
   ·rename_i z u hz
    split at he
    ·rename_i v e s xs hob
     cases hb:Nat.beq v ver&&(u.all fun q=>!Nat.beq q.1 id) with
     | true=>
       rw [hb] at he
       simp only [zj] at he
       obtain ⟨y0,hy0,he⟩:=ki he
       split at he
       ·rename_i y' hy'
        exact ⟨_,he,fun h=>by intro τ k';unfold Jq;rw [ho];simp only [ht,h.e hx,h.e hy,Hc h.o hz,h.o hob,hb,zj,hy0,jc,hy']⟩
       ·cases he
     | false=>rw [hb] at he;cases he
    ·cases he
   ·cases he
  ·cases he
 ·cases he
def xL {ρ:Type} {op:BinOp} {j:IntKind} {x y:Int} {kk:Dv→Option ρ}:rL op j x y kk=jc (rL op j x y some) kk:=by
 cases op<;>simp only [rL]<;>first | rfl | exact jb fun _=>rfl
def xM {ρ:Type} {op:BinOp} {x y:Za} {kk:Dv→Option ρ}:uD op x y kk=jc (uD op x y some) kk:=by
 cases op<;>simp only [uD]<;>first | rfl | exact jb fun _=>rfl
def BW {ρ:Type} {op:BinOp} {j:IntKind} {x y:Int} {kk:Dv→Option ρ}:z7 op j x y kk=jc (z7 op j x y some) kk:=by
 cases op<;>simp only [z7]<;>first | rfl | exact jb fun _=>rfl
def dG {ρ:Type} {ob':Yo} (h:∀{i b},ob i=some b→ob' i=some b) {d:Dv} {kk:(t:Ty)→List t.den→Option ρ} {r:ρ} (he:UT ob kk d=some r) :
 ∃t xs,kk t xs=some r ∧ ∀(τ:Type) (kk':(t:Ty)→List t.den→Option τ),UT ob' kk' d=kk' t xs:=by
 unfold UT at he
 split at he
 ·exact ⟨_,_,he,fun _ _=>rfl⟩
 ·split at he
  ·rename_i id ver _ v fz e t xs hob
   cases hb:(Nat.beq v ver && !t.wj) with
   | true=>rw [hb] at he;exact ⟨_,_,he,fun _ _=>by simp only [UT,h hob,hb,zj]⟩
   | false=>rw [hb] at he;cases he
  ·cases he
 ·split at he
  ·rename_i id ver lo m _ v fz e t xs hob
   cases hb:(Nat.beq v ver && !t.wj) with
   | true=>rw [hb] at he;exact ⟨_,_,he,fun _ _=>by simp only [UT,h hob,hb,zj]⟩
   | false=>rw [hb] at he;cases he
  ·cases he
 ·cases he
def ND {ev':Operand→Option Dv} (h:∀{x d},ev x=some d→ev' x=some d) {x:Option Operand} {d i:Int} (he:∀(τ:Type) (kk':Int→Option τ),Nq ev x d kk'=kk' i) {τ:Type} {kk:Int→Option τ}:Nq ev' x d kk=kk i:=by
 cases x with
 | none=>have:=he Int some;cases this;rfl
 | some y=>
   have h0:=he Int some
   unfold Nq at h0
   simp only at h0
   split at h0
   ·rename_i hy;cases h0;simp only [Nq,h hy]
   ·cases h0
def fF {ob':Yo} (h:∀{i b},ob i=some b→ob' i=some b) {d:Dv} {t:Ty} {xs:List t.den} (he:∀(τ:Type) (kk':(t:Ty)→List t.den→Option τ),UT ob kk' d=kk' t xs) {τ:Type} {kk:(t:Ty)→List t.den→Option τ}:UT ob' kk d=kk t xs:=by
 have h0:=he ((t:Ty)×List t.den) fun t xs=>some ⟨t,xs⟩
 unfold UT at h0
 split at h0
 ·cases h0;rfl
 ·split at h0
  ·rename_i id ver _ v fz e t xs hob
   cases hb:(Nat.beq v ver && !t.wj) with
   | true=>rw [hb] at h0;cases h0;simp only [UT,h hob,hb,zj]
   | false=>rw [hb] at h0;cases h0
  ·cases h0
 ·split at h0
  ·rename_i id ver lo m _ v fz e t xs hob
   cases hb:(Nat.beq v ver && !t.wj) with
   | true=>rw [hb] at h0;cases h0;simp only [UT,h hob,hb,zj]
   | false=>rw [hb] at h0;cases h0
  ·cases h0
 ·cases h0
def HK {ρ:Type} {ev':Operand→Option Dv} (h:∀{x d},ev x=some d→ev' x=some d) {x:Option Operand} {d:Int} {kk:Int→Option ρ} {r:ρ} (he:Nq ev x d kk=some r) :
 ∃i,kk i=some r ∧ ∀(τ:Type) (kk':Int→Option τ),Nq ev' x d kk'=kk' i:=by
 unfold Nq at he
 split at he
 ·exact ⟨_,he,fun _ _=>rfl⟩
 ·split at he
  ·rename_i hx;exact ⟨_,he,fun _ _=>by simp only [Nq,h hx]⟩
  ·cases he
def FL {op:BinOp} {xt yt:TypeId} {x y:Operand} (ho:o.op=.binOp op xt x y yt) (he:Jq G o dst ev ob k=some r):Ur G o dst ev ob k r:=by
 unfold Jq at he
 rw [ho] at he
 simp only at he
 split at he
 ·rename_i a b hx hy
  split at he
  ·rename_i j m l q
   cases op<;>simp only at he<;>first
    | (rw [BW] at he
       obtain ⟨d,hd,he⟩:=ki he
       exact ⟨_,he,fun h=>by intro τ k';unfold Jq;rw [ho];simp only [h.e hx,h.e hy];rw [BW,hd];rfl⟩)
    | (cases hb:decide (j=l) with
       | false=>rw [hb] at he;cases he
       | true=>
         rw [hb] at he
         simp only [zj] at he
         rw [xL] at he
         obtain ⟨d,hd,he⟩:=ki he
         exact ⟨_,he,fun h=>by intro τ k';unfold Jq;rw [ho];simp only [h.e hx,h.e hy,hb,zj];rw [xL,hd];rfl⟩)
  ·rw [xM] at he
   obtain ⟨d,hd,he⟩:=ki he
   exact ⟨_,he,fun h=>by intro τ k';unfold Jq;rw [ho];simp only [h.e hx,h.e hy];rw [xM,hd];rfl⟩
  ·split at he
   ·rename_i ht
    split at he
    ·exact ⟨_,he,fun h=>by intro τ k';unfold Jq;rw [ho];simp only [h.e hx,h.e hy,ht]⟩
    ·exact ⟨_,he,fun h=>by intro τ k';unfold Jq;rw [ho];simp only [h.e hx,h.e hy,ht]⟩
    ·cases he
   ·cases he
  ·unfold lP at he
   split at he
   ·rename_i ht
    split at he
    ·exact ⟨_,he,fun h=>by intro τ k';unfold Jq;rw [ho];simp only [h.e hx,h.e hy,lP,ht]⟩
    ·exact ⟨_,he,fun h=>by intro τ k';unfold Jq;rw [ho];simp only [h.e hx,h.e hy,lP,ht]⟩
    ·cases he
   ·cases he
  ·unfold lP at he
   split at he
   ·rename_i ht
    split at he
    ·exact ⟨_,he,fun h=>by intro τ k';unfold Jq;rw [ho];simp only [h.e hx,h.e hy,lP,ht]⟩
    ·exact ⟨_,he,fun h=>by intro τ k';unfold Jq;rw [ho];simp only [h.e hx,h.e hy,lP,ht]⟩
    ·cases he
   ·cases he
  ·split at he
   ·rename_i ht
    split at he
    ·exact ⟨_,he,fun h=>by intro τ k';unfold Jq;rw [ho];simp only [h.e hx,h.e hy,ht]⟩
    ·exact ⟨_,he,fun h=>by intro τ k';unfold Jq;rw [ho];simp only [h.e hx,h.e hy,ht]⟩
    ·cases he
   ·cases he
  ·rename_i n1 n2 n3 n4 n5
   cases hm:JK xt G.eqs.l with
   | false=>rw [hm] at he;cases he
   | true=>
     rw [hm] at he
     simp only [zj] at he
     split at he
     ·rename_i s kk ht
      split at he
      ·rename_i x1 y1 q1 q2
       cases op<;>simp only at he<;>first
        | cases he
        | (refine ⟨_,he,fun h=>?_⟩
           intro τ k'
           unfold Jq
           rw [ho]
           simp only [h.e hx,h.e hy,hm,zj,ht,Hc h.o q1,Hc h.o q2])
      ·cases he
     ·cases he
 ·cases he
def KG {op:UnOp} {xt:TypeId} {x:Operand} (ho:o.op=.unOp op xt x) (he:Jq G o dst ev ob k=some r):Ur G o dst ev ob k r:=by
 unfold Jq at he
 rw [ho] at he
 simp only at he
 split at he
 ·rename_i b hx
  split at he
  ·exact ⟨_,he,fun h=>by intro τ k';unfold Jq;rw [ho];simp only [h.e hx]⟩
  ·cases he
 ·rename_i j n hx
  split at he
  ·exact ⟨_,he,fun h=>by intro τ k';unfold Jq;rw [ho];simp only [h.e hx]⟩
  ·exact ⟨_,he,fun h=>by intro τ k';unfold Jq;rw [ho];simp only [h.e hx]⟩
  ·cases he
 ·cases he
def AR {xt yt:TypeId} {x:Operand} (ho:o.op=.convert xt yt x) (he:Jq G o dst ev ob k=some r):Ur G o dst ev ob k r:=by
 unfold Jq at he
 rw [ho] at he
 simp only at he
 split at he
 ·rename_i h1 h2 hx
  exact ⟨_,he,fun h=>by intro τ k';unfold Jq;rw [ho];simp only [h1,h2,h.e hx]⟩
 ·rename_i h1 h2 hx
  exact ⟨_,he,fun h=>by intro τ k';unfold Jq;rw [ho];simp only [h1,h2,h.e hx]⟩
 ·rename_i e by_ t2 d h1 h2 hx
  split at he
  ·rename_i h3
   split at he
   ·exact ⟨_,he,fun h=>by intro τ k';unfold Jq;rw [ho];simp only [h1,h2,h.e hx,h3]⟩
   ·rename_i hn
    obtain ⟨t,xs,h4,h5⟩:=dG (ob':=ob) (fun h=>h) he
    split at h4
    ·refine ⟨_,h4,fun h=>?_⟩
     have q:∀{τ:Type} {kk:(t:Ty)→List t.den→Option τ},_=kk _ _:=@fun τ kk=>fF h.o h5 (τ:=τ) (kk:=kk)
     intro τ k';unfold Jq;rw [ho];simp only [h1,h2,h.e hx,h3]
     rw [q]
    ·cases h4
  ·cases he
 ·cases he
def FM {t:TypeId} {ps:Array (Nat×Operand)} (ho:o.op=.build t ps) (he:Jq G o dst ev ob k=some r):Ur G o dst ev ob k r:=by
 unfold Jq at he
 rw [ho] at he
 simp only at he
 split at he
 ·rename_i s fs ht
  cases hf:s.flat with
  | true=>
    rw [hf] at he
    simp only [zj] at he
    split at he
    ·rename_i cs hc
     exact ⟨_,he,fun h=>by intro τ k';unfold Jq;rw [ho];simp only [ht,hf,zj,vM h.e hc]⟩
    ·cases he
  | false=>
    rw [hf] at he
    simp only [zk] at he
    split at he
    ·rename_i y u hc
     exact ⟨_,he,fun h=>by intro τ k';unfold Jq;rw [ho];simp only [ht,hf,zk,vO h.e h.o hc]⟩
    ·cases he
 ·rename_i m s m' e ht
  split at he
  ·rename_i y u hc
   exact ⟨_,he,fun h=>by intro τ k';unfold Jq;rw [ho];simp only [ht,vN h.e h.o hc]⟩
  ·cases he
 ·cases he
def uF {t:TypeId} {n:Nat} {ps:Array (Nat×Operand)} (ho:o.op=.buildSlice t n ps) (he:Jq G o dst ev ob k=some r):Ur G o dst ev ob k r:=by
 unfold Jq at he
 rw [ho] at he
 simp only at he
 split at he
 ·rename_i s e by_ ht
  split at he
  ·rename_i ys u hc
   cases hb:Nat.beq ys.length n&&Nat.ble (n*s.cells) 65536 with
   | true=>
     rw [hb] at he
     simp only [zj] at he
     split at he
     ·rename_i ver hv
      exact ⟨_,he,fun h=>by intro τ k';unfold Jq;rw [ho];simp only [ht,sT h.e h.o hc,hb,zj,Va,←h.d];unfold Va at hv;rw [hv]⟩
     ·cases he
   | false=>rw [hb] at he;cases he
  ·cases he
 ·cases he
def AS {x:Operand} {i:Nat} (ho:o.op=.extract x i) (he:Jq G o dst ev ob k=some r):Ur G o dst ev ob k r:=by
 unfold Jq at he
 rw [ho] at he
 simp only at he
 split at he
 ·rename_i l hx
  split at he
  ·rename_i a ha
   exact ⟨_,he,fun h=>by intro τ k';unfold Jq;rw [ho];simp only [h.e hx,ha]⟩
  ·cases he
 ·cases he
def wR {t:TypeId} {x ix:Operand} (ho:o.op=.indexAddr t x ix) (he:Jq G o dst ev ob k=some r):Ur G o dst ev ob k r:=by
 unfold Jq at he
 rw [ho] at he
 simp only at he
 split at he
 ·rename_i s e by_ d k' i ht hx hi
  split at he
  ·rename_i s' xs
   cases hb:decide (s'=s) with
   | true=>
     rw [hb] at he
     simp only [zj] at he
     obtain ⟨y,hy,he⟩:=ki he
     exact ⟨_,he,fun h=>by intro τ k';unfold Jq;rw [ho];simp only [ht,h.e hx,h.e hi,hb,zj,hy,jc]⟩
   | false=>rw [hb] at he;cases he
  ·rename_i id ver
   split at he
   ·rename_i v fz e' s' xs hob
    cases hb:Nat.beq v ver&&decide (s'=s) with
    | true=>
      rw [hb] at he
      simp only [zj] at he
      obtain ⟨y,hy,he⟩:=ki he
      exact ⟨_,he,fun h=>by intro τ k';unfold Jq;rw [ho];simp only [ht,h.e hx,h.e hi,h.o hob,hb,zj,hy,jc]⟩
    | false=>rw [hb] at he;cases he
   ·cases he
  ·cases he
 ·cases he
def FO {t:TypeId} {x ix:Operand} (ho:o.op=.index t x ix) (he:Jq G o dst ev ob k=some r):Ur G o dst ev ob k r:=by
 unfold Jq at he
 rw [ho] at he
 simp only at he
 split at he
 ·rename_i s k' i ht hx hi
  obtain ⟨y,hy,he⟩:=ki he
  exact ⟨_,he,fun h=>by intro τ k';unfold Jq;rw [ho];simp only [ht,h.e hx,h.e hi,hy,jc]⟩
 ·rename_i m s m' e n' s' xs k' i ht hx hi
  split at he
  ·rename_i ei hei
   cases hb:decide (s'=s)&&Nat.beq n' m&&decide (ei.ty=s) with
   | true=>
     rw [hb] at he
     simp only [zj] at he
     obtain ⟨y,hy,he⟩:=ki he
     exact ⟨_,he,fun h=>by intro τ k';unfold Jq;rw [ho];simp only [ht,h.e hx,h.e hi,hei,hb,zj,hy,jc]⟩
   | false=>rw [hb] at he;cases he
  ·cases he
 ·cases he
def FP {t:TypeId} {x:Operand} {lo hi mx:Option Operand} (ho:o.op=.slice t x lo hi mx) (he:Jq G o dst ev ob k=some r):Ur G o dst ev ob k r:=by
 unfold Jq at he
 rw [ho] at he
 simp only at he
 split at he
 ·rename_i k' s ht hx
  split at he
  ·obtain ⟨a,he,h1⟩:=HK (ev':=ev) (fun h=>h) he
   obtain ⟨b,he,h2⟩:=HK (ev':=ev) (fun h=>h) he
   obtain ⟨_,hy,he⟩:=ki he
   refine ⟨_,he,fun h=>?_⟩
   intro τ k';unfold Jq;rw [ho];simp only [ht,h.e hx]
   rw [ND h.e h1,ND h.e h2,hy];rfl
  ·cases he
 ·rename_i s' e by_ s xs ht hx
  cases hb:decide (s=s') with
  | false=>rw [hb] at he;cases he
  | true=>
    rw [hb] at he
    simp only [zj] at he
    split at he
    ·obtain ⟨a,he,h1⟩:=HK (ev':=ev) (fun h=>h) he
     obtain ⟨b,he,h2⟩:=HK (ev':=ev) (fun h=>h) he
     obtain ⟨_,hy,he⟩:=ki he
     refine ⟨_,he,fun h=>?_⟩
     intro τ k';unfold Jq;rw [ho];simp only [ht,h.e hx,hb,zj]
     rw [ND h.e h1,ND h.e h2,hy];rfl
    ·split at he
     ·cases hfl:JK (8700000+dst) G.muts with
      | true=>
        rw [hfl] at he
        simp only [zj] at he
        obtain ⟨c,he,h0⟩:=HK (ev':=ev) (fun h=>h) he
        obtain ⟨a,he,h1⟩:=HK (ev':=ev) (fun h=>h) he
        obtain ⟨b,he,h2⟩:=HK (ev':=ev) (fun h=>h) he
        obtain ⟨_,hy,he⟩:=ki he
        refine ⟨_,he,fun h=>?_⟩
        intro τ k';unfold Jq;rw [ho];simp only [ht,h.e hx,hb,zj,hfl]
        rw [ND h.e h0,ND h.e h1,ND h.e h2,hy];rfl
      | false=>
        rw [hfl] at he
        simp only [zk] at he
        obtain ⟨c,he,h0⟩:=HK (ev':=ev) (fun h=>h) he
        obtain ⟨a,he,h1⟩:=HK (ev':=ev) (fun h=>h) he
        obtain ⟨b,he,h2⟩:=HK (ev':=ev) (fun h=>h) he
        obtain ⟨_,hy,he⟩:=ki he
        refine ⟨_,he,fun h=>?_⟩
        intro τ k';unfold Jq;rw [ho];simp only [ht,h.e hx,hb,zj,hfl,zk]
        rw [ND h.e h0,ND h.e h1,ND h.e h2,hy];rfl
     ·cases he
 ·rename_i s' e by_ id ver ht hx
  split at he
  ·rename_i v e' s xs hob
   cases hb:Nat.beq v ver&&decide (s=s') with
   | false=>rw [hb] at he;cases he
   | true=>
     rw [hb] at he
     simp only [zj] at he
     obtain ⟨b,he,h2⟩:=HK (ev':=ev) (fun h=>h) he
     obtain ⟨_,hy,he⟩:=ki he
     refine ⟨_,he,fun h=>?_⟩
     intro τ k';unfold Jq;rw [ho];simp only [ht,h.e hx,h.o hob,hb,zj]
     rw [ND h.e h2,hy];rfl
  ·cases he
 ·cases he
def OZ {c:Call} (ho:o.op=.call c) (hc:c.callee=.builtin .len) (he:Jq G o dst ev ob k=some r):Ur G o dst ev ob k r:=by
 unfold Jq at he
 rw [ho] at he
 simp only [hc] at he
 split at he
 ·rename_i x t ha hat
  split at he
  ·rename_i s ht hx
   exact ⟨_,he,fun h=>by intro τ k';unfold Jq;rw [ho];simp only [hc,ha,hat,ht,h.e hx]⟩
  ·rename_i ht hx
   exact ⟨_,he,fun h=>by intro τ k';unfold Jq;rw [ho];simp only [hc,ha,hat,ht,h.e hx]⟩
  ·rename_i s e by_ d hn ht hx
   obtain ⟨t',xs,h4,h5⟩:=dG (ob':=ob) (fun h=>h) he
   refine ⟨_,h4,fun h=>?_⟩
   have q:∀{τ:Type} {kk:(t:Ty)→List t.den→Option τ},_=kk _ _:=@fun τ kk=>fF h.o h5 (τ:=τ) (kk:=kk)
   intro τ k';unfold Jq;rw [ho];simp only [hc,ha,hat,ht,h.e hx]
   rw [q]
  ·cases he
 ·cases he
def O1 {c:Call} (ho:o.op=.call c) (hc:c.callee=.builtin .min) (he:Jq G o dst ev ob k=some r):Ur G o dst ev ob k r:=by
 unfold Jq at he
 rw [ho] at he
 simp only [hc] at he
 split at he
 ·rename_i x y ha
  split at he
  ·rename_i h1 h2
   exact ⟨_,he,fun h=>by intro τ k';unfold Jq;rw [ho];simp only [hc,ha,h.e h1,h.e h2]⟩
  ·cases he
 ·cases he
def O0 {c:Call} (ho:o.op=.call c) (hc:c.callee=.builtin .max) (he:Jq G o dst ev ob k=some r):Ur G o dst ev ob k r:=by
 unfold Jq at he
 rw [ho] at he
 simp only [hc] at he
 split at he
 ·rename_i x y ha
  split at he
  ·rename_i h1 h2
   exact ⟨_,he,fun h=>by intro τ k';unfold Jq;rw [ho];simp only [hc,ha,h.e h1,h.e h2]⟩
  ·cases he
 ·cases he
def CV {c:Call} (ho:o.op=.call c) (hc:c.callee=.builtin .append) (he:Jq G o dst ev ob k=some r):Ur G o dst ev ob k r:=by
 unfold Jq at he
 rw [ho] at he
 simp only [hc] at he
 split at he
 ·rename_i x y t t' ha hat
  cases hb:Nat.beq t t' with
  | false=>
    rw [hb] at he
    simp only [zk] at he
    split at he
    ·rename_i e by_ kd dx bs ht ht' hx hy
     cases hby:Nat.beq by_ 1 with
     | false=>rw [hby] at he;cases he
     | true=>
       rw [hby] at he
       simp only [zj] at he
       split at he
       ·split at he
        ·rename_i ver hv
         obtain ⟨_,hy0,he⟩:=ki he
         refine ⟨_,he,fun h=>?_⟩
         intro τ k';unfold Jq;rw [ho];simp only [hc,ha,hat,hb,zk,ht,ht',h.e hx,h.e hy,hby,zj,Va,←h.d]
         unfold Va at hv
         rw [hv]
         simp only
         rw [hy0];rfl
        ·cases he
       ·rename_i id ver
        split at he
        ·rename_i v e' s' xs hob
         split at he
         ·rename_i hs
          subst hs
          cases hb2:Nat.beq v ver&&Nat.beq e' e with
          | false=>rw [hb2] at he;cases he
          | true=>
            rw [hb2] at he
            simp only [zj] at he
            obtain ⟨_,hy0,he⟩:=ki he
            refine ⟨_,he,fun h=>?_⟩
            intro τ k';unfold Jq;rw [ho];simp only [hc,ha,hat,hb,zk,ht,ht',h.e hx,h.e hy,hby,zj,h.o hob,dif_pos,hb2]
            rw [hy0];rfl
         ·cases he
        ·cases he
       ·cases he
    ·cases he
  | true=>
    rw [hb] at he
    simp only [zj] at he
    split at he
    ·rename_i s e by_ dx dy ht hx hy
     split at he
     ·split at he
      ·rename_i ver hv
       obtain ⟨t1,ys,h4,h5⟩:=dG (ob':=ob) (fun h=>h) he
       split at h4
       ·rename_i hs
        obtain ⟨_,hy0,h4⟩:=ki h4
        refine ⟨_,h4,fun h=>?_⟩
        have q:∀{τ:Type} {kk:(t:Ty)→List t.den→Option τ},_=kk _ _:=@fun τ kk=>fF h.o h5 (τ:=τ) (kk:=kk)
        intro τ k';unfold Jq;rw [ho];simp only [hc,ha,hat,hb,zj,ht,h.e hx,h.e hy,Va,←h.d]
        unfold Va at hv
        rw [hv]
        simp only
        rw [q,dif_pos hs,hy0];rfl
       ·cases h4
      ·cases he
     ·rename_i id ver
      split at he
      ·rename_i v e' s' xs hob
       split at he
       ·rename_i hs
        subst hs
        cases hb2:Nat.beq v ver&&Nat.beq e' e with
        | false=>rw [hb2] at he;cases he
        | true=>
          rw [hb2] at he
          simp only [zj] at he
          obtain ⟨t1,ys,h4,h5⟩:=dG (ob':=ob) (fun h=>h) he
          split at h4
          ·rename_i hs
           obtain ⟨_,hy0,h4⟩:=ki h4
           refine ⟨_,h4,fun h=>?_⟩
           have q:∀{τ:Type} {kk:(t:Ty)→List t.den→Option τ},_=kk _ _:=@fun τ kk=>fF h.o h5 (τ:=τ) (kk:=kk)
           intro τ k';unfold Jq;rw [ho];simp only [hc,ha,hat,hb,zj,ht,h.e hx,h.e hy,h.o hob,dif_pos,hb2]
           rw [q,dif_pos hs,hy0];rfl
          ·cases h4
       ·cases he
      ·cases he
     ·rename_i s' xs
      split at he
      ·rename_i hs0
       subst hs0
       split at he
       ·rename_i ver hv
        obtain ⟨t1,ys,h4,h5⟩:=dG (ob':=ob) (fun h=>h) he
        split at h4
        ·rename_i hs
         obtain ⟨_,hy0,h4⟩:=ki h4
         refine ⟨_,h4,fun h=>?_⟩
         have q:∀{τ:Type} {kk:(t:Ty)→List t.den→Option τ},_=kk _ _:=@fun τ kk=>fF h.o h5 (τ:=τ) (kk:=kk)
         intro τ k';unfold Jq;rw [ho];simp only [hc,ha,hat,hb,zj,ht,h.e hx,h.e hy,Va,←h.d,dif_pos]
         unfold Va at hv
         rw [hv]
         simp only
         rw [q,dif_pos hs,hy0];rfl
        ·cases h4
       ·cases he
      ·cases he
     ·cases he
    ·cases he
 ·cases he
def vF {ob':Yo} (h:∀{i b},ob i=some b→ob' i=some b) {σ:Ren} {s:SA} {a:At} {p} (he:aW ob σ s a=some p):aW ob' σ s a=some p:=by
 unfold aW at he ⊢
 split at he
 ·split at he
  ·rename_i h1;rw [pJ h h1];exact he
  ·cases he
 ·exact he
 ·split at he
  ·rename_i hob;rw [h hob];exact he
  ·cases he
 ·split at he
  ·rename_i hob;rw [h hob];exact he
  ·cases he
 ·split at he
  ·rename_i hob;rw [h hob];exact he
  ·cases he
 ·split at he
  ·rename_i hob;rw [h hob];exact he
  ·cases he
 ·exact he
 ·split at he
  ·rename_i hob;rw [h hob];exact he
  ·cases he
 ·exact he
 ·split at he
  ·rename_i hob;rw [h hob];exact he
  ·cases he
 ·split at he
  ·rename_i hob;rw [h hob];exact he
  ·cases he
 ·split at he
  ·rename_i hob;rw [h hob];exact he
  ·cases he
 ·exact he
 ·exact he
 ·exact he
 ·cases he
def cY {ob':Yo} (h:∀{i b},ob i=some b→ob' i=some b):∀{s:List SA} {σ:Ren} {cs:List At} {p},UX ob σ s cs=some p→UX ob' σ s cs=some p
 | [],_,[],_,he=>he
 | [],_,_::_,_,he=>he
 | _::_,_,[],_,he=>he
 | s::r,σ,a::b,p,he=>by
   simp only [UX] at he ⊢
   split at he
   ·rename_i h1
    rw [vF h h1]
    simp only
    split at he
    ·rename_i h2;rw [cY h h2];exact he
    ·cases he
   ·cases he
def ER {ob':Yo} (h:∀{i b},ob i=some b→ob' i=some b) {σ:Ren} {s:SD} {d:Dv} {p} (he:wV ob σ s d=some p):wV ob' σ s d=some p:=by
 cases s with
 | one sa=>
   change (match mV d with
    | some y=>aW ob σ sa y
    | none=>wW ob σ sa d)=_ at he
   change (match mV d with
    | some y=>aW ob' σ sa y
    | none=>wW ob' σ sa d)=_
   cases hx:mV d with
   | some y=>rw [hx] at he;exact vF h he
   | none=>
     rw [hx] at he
     cases sa with
     | val t=>
       obtain ⟨⟨y,u1⟩,hq,hb⟩:=Option.map_eq_some_iff.mp (show (bE ob t d).map (fun p=>(((p.1,()):jq (SD.one (SA.val t)).tys),p.2,σ))=some p from he)
       exact Option.map_eq_some_iff.mpr ⟨(y,u1),Hc h hq,hb⟩
     | _=>cases he
 | agg ss=>
   cases d with
   | agg cs=>exact cY h (p:=p) he
   | one y=>
     cases y with
     | val t y=>
       cases t with
       | st t=>
         change (bif t.flat then UX ob σ ss (split t y) else none)=_ at he
         show (bif t.flat then UX ob' σ ss (split t y) else none)=_
         cases hf:t.flat with
         | true=>rw [hf] at he;exact cY h (p:=p) he
         | false=>rw [hf] at he;cases he
       | _=>cases he
     | _=>cases he
   | tup cs=>cases he
 | tup ss=>cases d<;>cases he
def vH {ob':Yo} (h:∀{i b},ob i=some b→ob' i=some b):∀{s:List (Nat×SD)} {σ:Ren} {ds:List Dv} {p},eW ob σ s ds=some p→eW ob' σ s ds=some p
 | [],_,[],_,he=>he
 | [],_,_::_,_,he=>he
 | _::_,_,[],_,he=>he
 | s::r,σ,a::b,p,he=>by
   simp only [eW] at he ⊢
   split at he
   ·rename_i h1
    rw [ER h h1]
    simp only
    split at he
    ·rename_i h2;rw [vH h h2];exact he
    ·cases he
   ·cases he
def ET {ob':Yo} (h:∀{i b},ob i=some b→ob' i=some b) {σ:Ren} {i:Nat} {s:SO} {p} (he:HZ ob σ i s=some p):HZ ob' σ i s=some p:=by
 obtain ⟨q,hq⟩:∃q,ob i=q:=⟨_,rfl⟩
 cases q with
 | none=>cases s<;>(simp only [HZ,hq] at he;cases he)
 | some b=>
   have hq':=h hq
   cases s with
   | box ss=>
     simp only [HZ,hq] at he
     simp only [HZ,hq']
     cases b with
     | box cs=>exact cY h he
     | _=>cases he
   | arr v f e t=>
     simp only [HZ,hq] at he
     simp only [HZ,hq']
     exact he
   | gone=>
     simp only [HZ,hq] at he
     simp only [HZ,hq']
     exact he
   | clo f sa sb=>
     simp only [HZ,hq] at he
     simp only [HZ,hq']
     cases b with
     | clo g x y=>
       simp only at he ⊢
       cases hb:Nat.beq f g with
       | false=>rw [hb] at he;cases he
       | true=>
         rw [hb] at he
         simp only [zj] at he ⊢
         split at he
         ·rename_i h1
          rw [cY h h1]
          simp only
          split at he
          ·rename_i h2;rw [cY h h2];exact he
          ·cases he
         ·cases he
     | _=>cases he
def vG {ob':Yo} (h:∀{i b},ob i=some b→ob' i=some b):∀{s:List (Nat×SO)} {σ:Ren} {p},iM ob σ s=some p→iM ob' σ s=some p
 | [],_,_,he=>he
 | s::r,σ,p,he=>by
   simp only [iM] at he ⊢
   split at he
   ·split at he
    ·rename_i h1
     rw [ET h h1]
     simp only
     split at he
     ·rename_i h2;rw [vG h h2];exact he
     ·cases he
    ·cases he
   ·cases he
def lK {ob':Yo} (h:∀{i b},ob i=some b→ob' i=some b) {σ:Ren} {sh:Sj} {ds:List Dv} {p} (he:UH ob σ sh ds=some p):UH ob' σ sh ds=some p:=by
 unfold UH at he ⊢
 split at he
 ·rename_i h1
  rw [vH h h1]
  simp only
  split at he
  ·rename_i h2;rw [vG h h2];exact he
  ·cases he
 ·cases he
def EP {ob':Yo} (h:∀{i b},ob i=some b→ob' i=some b) (hd:∀j,ob (Uc dst j)=ob' (Uc dst j)) {σ:Ren} {j:Nat} {o:Ob} {p} (he:US ob dst σ j o=some p):US ob' dst σ j o=some p:=by
 cases o with
 | arr v0 fz e t xs=>
   simp only [US] at he ⊢
   split at he
   ·split at he
    ·rename_i hob;rw [h hob];exact he
    ·cases he
   ·unfold Va at he ⊢
    rw [←hd];exact he
 | box cs=>
   simp only [US] at he ⊢
   split at he
   ·exact he
   ·rw [←hd];exact he
 | gone=>
   simp only [US] at he ⊢
   split at he
   ·exact he
   ·rw [←hd];exact he
 | clo f x y=>
   simp only [US] at he ⊢
   split at he
   ·exact he
   ·rw [←hd];exact he
def vE {ob':Yo} (h:∀{i b},ob i=some b→ob' i=some b) (hd:∀j,ob (Uc dst j)=ob' (Uc dst j)) {σ:Ren}:∀{l:List (Nat×Ob)} {p},eV ob dst σ l=some p→eV ob' dst σ l=some p
 | [],_,he=>he
 | (j,o)::r,p,he=>by
   simp only [eV] at he ⊢
   split at he
   ·rename_i h1 h2
    rw [EP h hd h1,vE h hd h2];exact he
   ·cases he
def nZ {ob':Yo} (h:∀{i b},ob i=some b→ob' i=some b) (hd:∀j,ob (Uc dst j)=ob' (Uc dst j)) {σ:Ren} {st:St} {p} (he:aV ob dst σ st=some p):aV ob' dst σ st=some p:=by
 unfold aV at he ⊢
 split at he
 ·rename_i h1;rw [vE h hd h1];exact he
 ·cases he
def gX {ob':Yo} (h:∀{i b},ob i=some b→ob' i=some b) {d:Dv} {p} (he:cS ob (some d)=some p):cS ob' (some d)=some p:=by
 unfold cS at he ⊢
 split at he
 ·rename_i hd;cases hd;exact he
 ·rename_i hd
  cases hd
  split at he
  ·rename_i hob;simp only [h hob];exact he
  ·cases he
 ·cases he
def KC {c:Call} {x:Operand} (ho:o.op=.call c) (hc:c.callee=.value x) (he:Jq G o dst ev ob k=some r):Ur G o dst ev ob k r:=by
 unfold Jq at he
 rw [ho] at he
 simp only [hc] at he
 split at he
 ·rename_i f fs cs as hcal hds
  obtain ⟨d,hx⟩:∃d,ev x=some d:=by
   cases hx:ev x with
   | none=>rw [hx] at hcal;cases hcal
   | some d=>exact ⟨d,rfl⟩
  rw [hx] at hcal
  split at he
  ·rename_i ce hf
   split at he
   ·rename_i xs u ha
    obtain ⟨y,hy,he⟩:=ki he
    exact ⟨_,he,fun h=>by intro τ k';unfold Jq;rw [ho];simp only [hc,hf,h.e hx,gX h.o hcal,NO h.e hds,xF h.o ha,hy,jc]⟩
   ·cases he
  ·rename_i hf
   unfold oM at he
   split at he
   ·rename_i mc hmc
    cases hb:(Nat.beq mc.fn f&&cN mc.pre.sj) with
    | false=>rw [hb] at he;cases he
    | true=>
      rw [hb] at he
      simp only [zj] at he
      split at he
      ·rename_i x1 u σ hbi
       obtain ⟨y,hy,he⟩:=ki he
       split at he
       ·rename_i d v hk
        refine ⟨_,he,fun h=>?_⟩
        intro τ k'
        unfold Jq
        rw [ho]
        simp only [hc,hf,h.e hx,gX h.o hcal,NO h.e hds]
        unfold oM
        simp only [hmc,hb,zj,lK h.o hbi,hy,jc,nZ h.o h.ds hk]
       ·cases he
      ·cases he
   ·cases he
 ·cases he
def yE {fn:Fn} {first caps:Array Operand} (ho:o.op=.makeFunc fn first caps) (he:Jq G o dst ev ob k=some r):Ur G o dst ev ob k r:=by
 unfold Jq at he
 rw [ho] at he
 cases fn with
 | func f=>
   simp only at he
   split at he
   ·rename_i fs cs h1 h2
    split at he
    ·rename_i a b h3 h4
     cases hn:(pW a&&pW b) with
     | true=>
       rw [hn] at he
       exact ⟨_,he,fun h=>by intro τ k';unfold Jq;rw [ho];simp only [NO h.e h1,NO h.e h2,h3,h4,hn,zj]⟩
     | false=>
       rw [hn] at he
       simp only [zk] at he
       split at he
       ·rename_i hno
        exact ⟨_,he,fun h=>by intro τ k';unfold Jq;rw [ho];simp only [NO h.e h1,NO h.e h2,h3,h4,hn,zk,←h.d,hno]⟩
       ·cases he
    ·cases he
   ·cases he
 | _=>cases he
def yF {x:Operand} (ho:o.op=.nilCheck x) (he:Jq G o dst ev ob k=some r):Ur G o dst ev ob k r:=by
 unfold Jq at he
 rw [ho] at he
 simp only at he
 split at he
 ·rename_i hx
  split at he
  ·rename_i hob
   exact ⟨_,he,fun h=>by intro τ k';unfold Jq;rw [ho];simp only [h.e hx,h.o hob]⟩
  ·cases he
 ·rename_i hx
  exact ⟨_,he,fun h=>by intro τ k';unfold Jq;rw [ho];simp only [h.e hx]⟩
 ·rename_i id ver hx
  split at he
  ·rename_i v fz e t xs hob
   cases hb:Nat.beq v ver with
   | true=>rw [hb] at he;exact ⟨_,he,fun h=>by intro τ k';unfold Jq;rw [ho];simp only [h.e hx,h.o hob,hb,zj]⟩
   | false=>rw [hb] at he;cases he
  ·cases he
 ·rename_i id ver i sz off hx
  split at he
  ·rename_i v fz e t xs hob
   cases hb:Nat.beq v ver with
   | true=>rw [hb] at he;exact ⟨_,he,fun h=>by intro τ k';unfold Jq;rw [ho];simp only [h.e hx,h.o hob,hb,zj]⟩
   | false=>rw [hb] at he;cases he
  ·cases he
 ·rename_i hx
  exact ⟨_,he,fun h=>by intro τ k';unfold Jq;rw [ho];simp only [h.e hx]⟩
 ·rename_i hx
  split at he
  ·rename_i hob
   exact ⟨_,he,fun h=>by intro τ k';unfold Jq;rw [ho];simp only [h.e hx,h.o hob]⟩
  ·cases he
 ·cases he
def I4 (he:Jq G o dst ev ob k=some r):Ur G o dst ev ob k r:=by
 cases h:o.op with
 | move x=>exact KE h he
 | assign x=>exact CW h he
 | pick c x y=>exact KF h he
 | alloc t=>exact FK h he
 | box t x=>exact OY h he
 | build t ps=>exact FM h he
 | buildSlice t m ps=>exact uF h he
 | load t x=>exact KD h he
 | store t x y=>exact FQ h he
 | binOp op xt x y yt=>exact FL h he
 | unOp op xt x=>exact KG h he
 | convert xt yt x=>exact AR h he
 | slice t x lo hi mx=>exact FP h he
 | fieldAddr t x f=>exact wQ h he
 | field t x f=>exact FN h he
 | indexAddr t x ix=>exact wR h he
 | index t x ix=>exact FO h he
 | extract x i=>exact AS h he
 | call c=>
   cases hc:c.callee with
   | builtin b=>
     by_cases h1:b=.append
     ·subst h1;exact CV h hc he
     ·by_cases h2:b=.len
      ·subst h2;exact OZ h hc he
      by_cases h3:b=.min
      ·subst h3;exact O1 h hc he
      by_cases h4:b=.max
      ·subst h4;exact O0 h hc he
      ·unfold Jq at he
       rw [h] at he
       simp only [hc] at he
       cases b<;>first | exact absurd rfl h1 | exact absurd rfl h2 | exact absurd rfl h3 | exact absurd rfl h4 | cases he
   | invoke x m=>
     unfold Jq at he
     rw [h] at he
     simp only [hc] at he
     cases he
   | value x=>exact KC h hc he
 | makeFunc fn first caps=>exact yE h he
 | nilCheck x=>exact yF h he
 | makeInterface t x=>exact qL h he
 | _=>
   unfold Jq at he
   rw [h] at he
   simp only at he
   cases he
end
end Go.Ql
end

section
namespace Go.Ql
def rP {α:Type} (t s:Nat) (v u:α) (r:List (Nat×α)):YE t v ((s,u)::r)=if t<s then (t,v)::(s,u)::r else if t=s then (t,v)::r else (s,u)::YE t v r:=by
 simp only [YE]
 by_cases h1:t<s
 ·rw [if_pos h1,show Nat.blt t s=true by rw [Nat.blt_eq];exact h1];rfl
 ·rw [if_neg h1,show Nat.blt t s=false by cases hb:Nat.blt t s with | false=>rfl | true=>rw [Nat.blt_eq] at hb;omega]
  by_cases h2:t=s
  ·rw [if_pos h2,Jx.2 h2];rfl
  ·rw [if_neg h2,Yi.2 h2];rfl
def yQ {α:Type} {s t:Nat} (x y:α) (h:s≠t):∀l:List (Nat×α),YE s x (YE t y l)=YE t y (YE s x l):=by
 have n:∀(t:Nat) (v:α),YE t v []=[(t,v)]:=fun _ _=>rfl
 intro l
 induction l with
 | nil=>
   rcases Nat.lt_or_gt_of_ne h with h1 | h1<;>simp (disch:=omega) only [n,rP,if_pos,if_neg]
 | cons p l ih=>
   obtain ⟨u,z⟩:=p
   rcases Nat.lt_trichotomy s u with h1 | h1 | h1<;>rcases Nat.lt_trichotomy t u with h2 | h2 | h2<;>rcases Nat.lt_or_gt_of_ne h with h3 | h3 <;>
    first
     | omega
     | simp (disch:=omega) only [rP,if_pos,if_neg,ih]
def cF {S S':Nat→Bool}:∀{i:Nat} {trs:List Tr} {st:St},(∀k,k<trs.length→S (i+k)=S' (i+k))→JX S i trs st=JX S' i trs st
 | _,[],_,_=>rfl
 | i,t::r,st,h=>by
   simp only [JX]
   have h0:S i=S' i:=h 0 (by simp)
   rw [h0]
   exact cF fun k hk=>by
    have:=h (k+1) (by simp;omega)
    rwa [show i+(k+1)=i+1+k by omega] at this
def gE {S:Nat→Bool}:∀{i:Nat} {trs:List Tr} {st:St},(∀k,k<trs.length→S (i+k)=false)→JX S i trs st=st
 | _,[],_,_=>rfl
 | i,t::r,st,h=>by
   have h0:S i=false:=h 0 (by simp)
   simp only [JX,h0,zk]
   exact gE fun k hk=>by
    have:=h (k+1) (by simp;omega)
    rwa [show i+(k+1)=i+1+k by omega] at this
def KT {t:Tr} {st st':St} {s:Nat} (h:look st.mj s=look st'.mj s):look (t.lay st).mj s=look (t.lay st').mj s:=by
 obtain ⟨dst,dv,u,nd⟩:=t
 cases dst with
 | none=>exact h
 | some d=>
   cases dv with
   | none=>exact h
   | some v=>simp only [Tr.lay];rw [ke,ke,h]
def AU {t:Tr} {st:St} {s:Nat} (h:t.dst≠some s):look (t.lay st).mj s=look st.mj s:=by
 obtain ⟨dst,dv,u,nd⟩:=t
 cases dst with
 | none=>rfl
 | some d=>
   cases dv with
   | none=>rfl
   | some v=>
     simp only [Tr.lay]
     rw [ke,if_neg]
     intro hh;subst hh;exact h rfl
def lN {s:Nat}:∀{u:kY} {l l':List (Nat×Ob)},look l s=look l' s→look (YR u l) s=look (YR u l') s
 | [],_,_,h=>h
 | (id,ob)::r,l,l',h=>lN (u:=r) (by rw [ke,ke,h])
def iU {s:Nat}:∀{u:kY} {l:List (Nat×Ob)},(∀p∈u,p.1≠s)→look (YR u l) s=look l s
 | [],_,_=>rfl
 | (id,ob)::r,l,h=>by
   show look (YR r (YE id ob l)) s=_
   rw [iU fun p hp=>h p (zz _ hp),ke,if_neg (h (id,ob) (by simp))]
def O9 {t:Tr} {st st':St} {s:Nat} (h:look st.sj s=look st'.sj s):look (t.lay st).sj s=look (t.lay st').sj s:=lN h
def C8 {t:Tr} {st:St} {s:Nat} (h:∀p∈t.upd,p.1≠s):look (t.lay st).sj s=look st.sj s:=iU h
def mL {S S':Nat→Bool} {s:Nat}:∀{i:Nat} {trs:List Tr} {st st':St},look st.mj s=look st'.mj s →
 (∀k t,trs[k]?=some t→t.dst=some s→S (i+k)=S' (i+k))→look (JX S i trs st).mj s=look (JX S' i trs st').mj s
 | _,[],_,_,h,_=>h
 | i,t::r,st,st',h,hk=>by
   simp only [JX]
   refine mL ?_ (fun k t' h1 h2=>by
    have:=hk (k+1) t' (by simpa using h1) h2
    rwa [show i+(k+1)=i+1+k by omega] at this)
   by_cases hd:t.dst=some s
   ·have h0:S i=S' i:=hk 0 t rfl hd
    rw [h0]
    cases S' i with
    | true=>exact KT h
    | false=>exact h
   ·have h1:∀b (st:St),look (bif b then t.lay st else st).mj s=look st.mj s:=fun b st=>by
     cases b with
     | true=>exact AU hd
     | false=>rfl
    rw [h1,h1,h]
def oC {S S':Nat→Bool} {s:Nat}:∀{i:Nat} {trs:List Tr} {st st':St},look st.sj s=look st'.sj s →
 (∀k t ob,trs[k]?=some t→(s,ob)∈t.upd→S (i+k)=S' (i+k))→look (JX S i trs st).sj s=look (JX S' i trs st').sj s
 | _,[],_,_,h,_=>h
 | i,t::r,st,st',h,hk=>by
   simp only [JX]
   refine oC ?_ (fun k t' ob h1 h2=>by
    have:=hk (k+1) t' ob (by simpa using h1) h2
    rwa [show i+(k+1)=i+1+k by omega] at this)
   by_cases hd:∃ob,(s,ob)∈t.upd
   ·obtain ⟨ob,hd⟩:=hd
    have h0:S i=S' i:=hk 0 t ob rfl hd
    rw [h0]
    cases S' i with
    | true=>exact O9 h
    | false=>exact h
   ·have h1:∀b (st:St),look (bif b then t.lay st else st).sj s=look st.sj s:=fun b st=>by
     cases b with
     | true=>exact C8 fun p hp hh=>hd ⟨p.2,by rw [←hh];exact hp⟩
     | false=>rfl
    rw [h1,h1,h]
def Tr.apart (t u:Tr):Prop:=(∀s,t.dst=some s→u.dst≠some s) ∧ ∀p∈t.upd,∀q∈u.upd,p.1≠q.1
def sW {a:Nat} {o:Ob}:∀{u:kY} {l:List (Nat×Ob)},(∀q∈u,a≠q.1)→YE a o (YR u l)=YR u (YE a o l)
 | [],_,_=>rfl
 | (id,ob)::r,l,h=>by
   show YE a o (YR r (YE id ob l))=YR r (YE id ob (YE a o l))
   rw [sW fun q hq=>h q (zz _ hq),yQ o ob (h (id,ob) (by simp))]
def qV:∀{u v:kY} {l:List (Nat×Ob)},(∀p∈u,∀q∈v,p.1≠q.1)→YR u (YR v l)=YR v (YR u l)
 | [],_,_,_=>rfl
 | (id,ob)::r,v,l,h=>by
   show YR r (YE id ob (YR v l))=YR v (YR r (YE id ob l))
   rw [sW fun q hq=>h (id,ob) (by simp) q hq,qV fun p hp=>h p (zz _ hp)]
def KS {t u:Tr} (h:t.apart u) (st:St):t.lay (u.lay st)=u.lay (t.lay st):=by
 obtain ⟨d,v,x,_⟩:=t
 obtain ⟨d',v',x',_⟩:=u
 simp only [Tr.lay,St.mk.injEq]
 constructor
 ·match d,v,d',v' with
  | none,_,_,_=>rfl
  | some _,none,_,_=>rfl
  | some _,some _,none,_=>rfl
  | some _,some _,some _,none=>rfl
  | some a,some _,some b,some _=>
    refine yQ _ _ ?_ _
    intro hh;subst hh;exact h.1 a rfl rfl
 ·exact qV h.2
def oB {S:Nat→Bool} {t:Tr}:∀{i:Nat} {trs:List Tr} {st:St},(∀k u,trs[k]?=some u→S (i+k)=true→t.apart u) →
 JX S i trs (t.lay st)=t.lay (JX S i trs st)
 | _,[],_,_=>rfl
 | i,u::r,st,h=>by
   simp only [JX]
   have h':∀k u',r[k]?=some u'→S (i+1+k)=true→t.apart u':=fun k u' h1 h2=>h (k+1) u' (by simpa using h1) (by rwa [show i+(k+1)=i+1+k by omega])
   cases hs:S i with
   | true=>
     simp only [zj]
     rw [←KS (h 0 u rfl hs)]
     exact oB h'
   | false=>exact oB h'
def sU {S:Nat→Bool} {m:Nat} {t:Tr}:∀{i:Nat} {trs:List Tr} {st:St},S (i+m)=false→trs[m]?=some t →
 (∀k u,trs[k]?=some u→m<k→S (i+k)=true→t.apart u)→JX (fun k=>S k||decide (k=i+m)) i trs st=t.lay (JX S i trs st)
 | i,[],st,_,h,_=>by simp at h
 | i,u::r,st,hs,h,ha=>by
   simp only [JX]
   cases m with
   | zero=>
     simp only [List.getElem?_cons_zero,zd] at h
     subst h
     have hs:S i=false:=hs
     simp only [hs,Nat.add_zero,decide_true,Bool.or_true,zj,zk]
     rw [cF (S':=S) (fun k _=>by
      have:¬(i+1+k=i):=by omega
      simp [this])]
     exact oB fun k u' h1 h2=>ha (k+1) u' (by simpa using h1) (by omega) (by rwa [show i+(k+1)=i+1+k by omega])
   | succ m=>
     have:¬(i=i+(m+1)):=by omega
     simp only [this,decide_false,Bool.or_false]
     have e:(fun k=>S k||decide (k=i+(m+1)))=fun k=>S k||decide (k=i+1+m):=by
      funext k;rw [show i+(m+1)=i+1+m by omega]
     rw [e]
     exact sU (by rwa [show i+1+m=i+(m+1) by omega]) (by simpa using h) fun k u' h1 h2 h3=>ha (k+1) u' (by simpa using h1) (by omega) (by rwa [show i+(k+1)=i+1+k by omega])
def tY {α:Type} {p:Nat×α→Bool} {t:Nat} {v:α}:∀{l:List (Nat×α)},l.all p=true→p (t,v)=true→(YE t v l).all p=true
 | [],_,h=>by simp [YE,h]
 | (s,u)::r,hl,h=>by
   rw [List.all_cons,ze] at hl
   rw [rP]
   split
   ·simp only [List.all_cons,h,hl.1,hl.2,Bool.and_self]
   ·split
    ·simp only [List.all_cons,h,hl.2,Bool.and_self]
    ·simp only [List.all_cons,hl.1,tY hl.2 h,Bool.and_self]
def dK {pO:Nat×Ob→Bool}:∀{u:kY} {l:List (Nat×Ob)},l.all pO=true→(∀q∈u,pO q=true)→(YR u l).all pO=true
 | [],_,h,_=>h
 | (id,ob)::r,l,h,hu=>dK (u:=r) (tY h (hu _ (by simp))) fun q hq=>hu q (zz _ hq)
def fH {S:Nat→Bool} {pS:Nat×Dv→Bool} {pO:Nat×Ob→Bool}:∀{i:Nat} {trs:List Tr} {st:St},st.mj.all pS=true→st.sj.all pO=true →
 (∀k t,trs[k]?=some t→S (i+k)=true→(∀s d,t.dv=some d→pS (s,d)=true) ∧ ∀q∈t.upd,pO q=true) →
 (JX S i trs st).mj.all pS=true∧(JX S i trs st).sj.all pO=true
 | _,[],_,h1,h2,_=>⟨h1,h2⟩
 | i,t::r,st,h1,h2,h=>by
   simp only [JX]
   have h':∀k t',r[k]?=some t'→S (i+1+k)=true→(∀s d,t'.dv=some d→pS (s,d)=true) ∧ ∀q∈t'.upd,pO q=true:=
    fun k u' h1 h2=>h (k+1) u' (by simpa using h1) (by rwa [show i+(k+1)=i+1+k by omega])
   cases hs:S i with
   | false=>exact fH h1 h2 h'
   | true=>
     obtain ⟨q1,q2⟩:=h 0 t rfl hs
     refine fH ?_ ?_ h'
     ·simp only [zj,Tr.lay]
      obtain ⟨dst,dv,u,nd⟩:=t
      cases dst with
      | none=>exact h1
      | some s=>
        cases dv with
        | none=>exact h1
        | some d=>exact tY h1 (q1 s d rfl)
     ·exact dK h2 q2
def eC (ops:List Oper) (h:Hint) (st:St) (o:Oper) (c:Bool):Prop:=
 ∃j want g,o.guard=some (j,want)∧(ops[j]?).bind (·.dst)=some g∧JK g h.hideS=false∧((∃b,look st.mj g=some (.one (.val .bool b))∧(b==want)=c)∨(look st.mj g=some (.tup [])∧c=false))
def vA [GInv] {G:Env} {o:Oper} {dst:Nat} {ev ev':Operand→Option Dv} {ob ob':Yo} {q:MAlt×List Dv} (h:ExtE ev ev' ob ob' dst) (he:Hm G o ev ob=some q):Hm G o ev' ob'=some q:=by
 unfold Hm at he ⊢
 split at he
 ·rename_i c ho
  split at he
  ·rename_i x hc
   split at he
   ·rename_i f fs cs as h1 h2
    obtain ⟨d,hx⟩:∃d,ev x=some d:=by
     cases hx:ev x with
     | none=>rw [hx] at h1;cases h1
     | some d=>exact ⟨d,rfl⟩
    rw [hx] at h1
    simp only [hc,h.e hx,gX h.o h1,NO h.e h2]
    exact he
   ·cases he
  ·cases he
 ·cases he
def P7 (G:Env) (o:Oper) (h:Hint) (st:St) (ma:MAlt) (ds:List Dv) (x:jq ma.pre.tys) (u:kY) (σ:Ren) (st2:St) (d:Dv) (v:kY):Prop:=
 ∀{ev' ob'},ExtE (qT st h.hideS) ev' (l9 st h.hideO) ob' (o.dst.getD 0)→Hm G o ev' ob'=some (ma,ds)∧UH ob' [] ma.pre ds=some (x,u,σ)∧aV ob' (o.dst.getD 0) σ st2=some (d,v)
def P6 (G:Env) (o:Oper) (h:Hint) (st:St) (e:Eff):Prop:=
 ∃ma ds x u σ y d v,P7 G o h st ma ds x u σ (ma.post.inj y) d v∧ma.F x=some (.inl y)∧e=⟨d,u++v⟩
def PanE (G:Env) (o:Oper) (h:Hint) (st:St) (a:At) (u':kY):Prop:=
 ∃ma ds x u σ y v,P7 G o h st ma ds x u σ (ma.post2.inj y) (.one a) v∧ma.F x=some (.inr y)∧ma.pan=true∧u'=u++v
structure Ran (G:Env) (ops:List Oper) (o:Oper) (h:Hint) (st:St) (t:Tr) (e:Eff):Prop where
 guard:o.guard=none∨eC ops h st o true
 eff:(∀{ev' ob'},ExtE (qT st h.hideS) ev' (l9 st h.hideO) ob' (o.dst.getD 0) → ∀(τ:Type) (k':Eff→Option τ),Jq G o (o.dst.getD 0) ev' ob' k'=k' e)∨P6 G o h st e
 dv:t.dv=some e.dv
 upd:t.upd=e.upd
 need:t.need=dN st e.upd
 ok:gI h.wr e.upd=true
 may:(kO st e.upd).isSome=true
 dst:∀s,o.dst=some s→Nat.blt s G.n=true
structure Skipped (G:Env) (ops:List Oper) (o:Oper) (h:Hint) (st:St) (t:Tr):Prop where
 guard:eC ops h st o false
 dv:t.dv=some (.tup [])
 upd:t.upd=[]
 dst:∀s,o.dst=some s→Nat.blt s G.n=true
def wT (G:Env) (ops:List Oper) (o:Oper) (h:Hint) (st:St) (t:Tr):Prop:=
 t.dst=o.dst∧((∃e,Ran G ops o h st t e)∨Skipped G ops o h st t)
structure PanT (G:Env) (ops:List Oper) (o:Oper) (h:Hint) (st:St) (a:At) (u:kY):Prop where
 guard:o.guard=none∨eC ops h st o true
 pan:PanE G o h st a u
def StepsT (G:Env) (ops:List Oper):Nat→Option Pm→List (Oper×Hint)→St→List Tr→Option Pm→Prop
 | _,pm,[],_,trs,pm'=>trs=[]∧pm'=pm
 | i,pm,(o,h)::l,st,trs,pm'=>∃t r,trs=t::r ∧
   ((pQ pm h=false∧wT G ops o h st t∧StepsT G ops (i+1) pm l (t.lay st) r pm') ∨
    (pQ pm h=true∧t=dJ o∧StepsT G ops (i+1) pm l st r pm') ∨
    (pm=none∧t=dJ o ∧ ∃a u,PanT G ops o h st a u∧StepsT G ops (i+1) (some (i,a,u)) l st r pm'))
def StepsT.stays {G:Env} {ops:List Oper} {q:Pm}:∀{l:List (Oper×Hint)} {i:Nat} {st:St} {trs:List Tr} {pm':Option Pm},StepsT G ops i (some q) l st trs pm'→pm'=some q
 | [],_,_,_,_,h=>h.2
 | (o,hh)::l,i,st,trs,pm',h=>by
   obtain ⟨t,r,rfl,h | h | h⟩:=h
   ·exact StepsT.stays h.2.2
   ·exact StepsT.stays h.2.2
   ·cases h.1
def mO (o:Oper) (st:St):(dJ o).lay st=st:=by
 unfold dJ Tr.lay
 cases o.dst<;>rfl
def EK (G:Env) (ops:List Oper) (m:Nat) (pm':Option Pm) (o:Oper) (h:Hint) (st:St) (t:Tr):Prop:=
 (wT G ops o h st t ∧ ∀q,pm'=some q→q.1≠m∧(q.1<m→JK q.1 h.pre=false)) ∨
 (∃q,pm'=some q∧q.1<m∧JK q.1 h.pre=true∧t=dJ o) ∨
 (∃a u,pm'=some (m,a,u)∧t=dJ o∧PanT G ops o h st a u)
def StepsT.later {G:Env} {ops:List Oper}:∀{l:List (Oper×Hint)} {i:Nat} {st:St} {trs:List Tr} {pm':Option Pm} {q:Pm},StepsT G ops i none l st trs pm'→pm'=some q→i≤q.1
 | [],_,_,_,_,_,h,hq=>by rw [h.2] at hq;cases hq
 | (o,hh)::l,i,st,trs,pm',q,h,hq=>by
   obtain ⟨t,r,rfl,h | h | ⟨_,_,a,u,_,h⟩⟩:=h
   ·have:=StepsT.later h.2.2 hq;omega
   ·cases h.1
   ·rw [StepsT.stays h] at hq
    cases hq
    exact zx _
def StepsT.at {G:Env} {ops:List Oper}:∀{l:List (Oper×Hint)} {i:Nat} {pm:Option Pm} {st:St} {trs:List Tr} {pm':Option Pm},(∀q,pm=some q→q.1<i)→StepsT G ops i pm l st trs pm' →
 trs.length=l.length ∧ ∀m o h t,l[m]?=some (o,h)→trs[m]?=some t→EK G ops (i+m) pm' o h (JX (fun k=>decide (k<i+m)) i trs st) t
 | [],i,pm,st,trs,pm',hi,h=>by
   obtain ⟨rfl,_⟩:=h
   exact ⟨rfl,fun m o h t h1=>by simp at h1⟩
 | (o,hh)::l,i,pm,st,trs,pm',hi,h=>by
   obtain ⟨t,r,rfl,h⟩:=h
   have key:∃pm1,(∀q,pm1=some q→q.1<i+1)∧StepsT G ops (i+1) pm1 l (t.lay st) r pm'∧EK G ops i pm' o hh st t:=by
    rcases h with ⟨h0,h1,h2⟩ | ⟨h0,h1,h2⟩ | ⟨h0,h1,a,u,h2,h3⟩
    ·refine ⟨pm,fun q hq=>by have:=hi q hq;omega,h2,.inl ⟨h1,fun q hq=>?_⟩⟩
     cases pm with
     | none=>
       have:=StepsT.later h2 hq
       exact ⟨by omega,fun h=>by omega⟩
     | some q0=>
       have h3:=StepsT.stays h2
       rw [h3] at hq
       cases hq
       have:=hi _ rfl
       exact ⟨by omega,fun _=>h0⟩
    ·cases pm with
     | none=>cases h0
     | some q0=>
       refine ⟨some q0,fun q hq=>by have:=hi q hq;omega,?_,.inr (.inl ⟨q0,StepsT.stays h2,hi q0 rfl,h0,h1⟩)⟩
       rw [h1,mO];exact h2
    ·refine ⟨some (i,a,u),fun q hq=>by cases hq;exact Nat.lt_succ_self _,?_,.inr (.inr ⟨a,u,StepsT.stays h3,h1,h2⟩)⟩
     rw [h1,mO];exact h3
   obtain ⟨pm1,k1,k2,k3⟩:=key
   obtain ⟨h3,h4⟩:=StepsT.at k1 k2
   refine ⟨by simp [h3],fun m o' hh' t' q1 q2=>?_⟩
   cases m with
   | zero=>
     simp only [List.getElem?_cons_zero,zd,zr] at q1 q2
     obtain ⟨rfl,rfl⟩:=q1
     subst q2
     rw [gE (fun k _=>by simp)]
     exact k3
   | succ m=>
     have:=h4 m o' hh' t' (by simpa using q1) (by simpa using q2)
     simp only [JX]
     have h0:decide (i<i+(m+1))=true:=by simp
     rw [h0,show i+(m+1)=i+1+m by omega]
     exact this
def s7:∀{u:kY} {st st1:St},kO st u=some st1→st1=⟨st.mj,YR u st.sj⟩
 | [],st,st1,h=>by simp only [kO,zd] at h;subst h;rfl
 | (id,ob)::r,st,st1,h=>by
   simp only [kO] at h
   cases hm:YZ st id ob with
   | false=>rw [hm] at h;cases h
   | true=>rw [hm] at h;exact s7 (u:=r) h
def s8 {n:Nat} {st:St} {t:Tr} {d:Dv} {u:kY} (hd:t.dv=some d) (hu:t.upd=u) (may:(kO st u).isSome=true)
 (hs:∀s,t.dst=some s→Nat.blt s n=true):lay n st t.dst d u=some (t.lay st):=by
 have h1:kO st u=some ⟨st.mj,(t.lay st).sj⟩:=by
  obtain ⟨st1,h⟩:=Option.isSome_iff_exists.1 may
  rw [h,s7 h,←hu];rfl
 unfold lay
 rw [h1]
 simp only
 cases hdst:t.dst with
 | none=>simp only [Tr.lay,hdst]
 | some s=>simp only [hs s hdst,zj,Tr.lay,hdst,hd]
def BI {n:Nat} {st st':St} {dst:Option Nat} {d:Dv} {u:kY} (h:lay n st dst d u=some st') :
 (kO st u).isSome=true ∧ ∀s,dst=some s→Nat.blt s n=true:=by
 unfold lay at h
 split at h
 ·rename_i st1 h1
  constructor
  ·rw [h1];rfl
  ·rintro s rfl
   simp only at h
   cases hb:Nat.blt s n with
   | true=>rfl
   | false=>rw [hb] at h;cases h
 ·cases h
def DH {ρ:Type} {gs:List Nat} {dst:Option Nat} {d:Dv} {k:Dv→Option ρ} {r:ρ} (h:VZ gs dst d k=some r):k d=some r:=by
 unfold VZ at h
 split at h
 ·rename_i t
  cases hm:JK t gs with
  | false=>rw [hm] at h;exact h
  | true=>
    rw [hm] at h
    simp only [zj] at h
    split at h
    ·rename_i b
     cases b<;>exact h
    ·cases h
 ·exact h
def qS [GInv] {ρ:Type} {G:Env} {ops:List Oper} {gs:List Nat} {r:ρ}:∀{l:List (Oper×Hint)} {st:St} {tr:List Tr} {pm:Option Pm} {k:Option Pm→St→List Tr→Option ρ},Nt G ops gs l st tr pm k=some r →
 ∃trs pm',StepsT G ops tr.length pm l st trs pm'∧k pm' (JX (fun _=>true) 0 trs st) (tr++trs)=some r
 | [],st,tr,pm,k,h=>⟨[],pm,⟨rfl,rfl⟩,by
   have h:k pm st tr=some r:=h
   simpa [JX] using h⟩
 | (o,hh)::l,st,tr,pm,k,h=>by
   have fold0:∀(trs:List Tr) (i:Nat) (st:St),JX (fun _=>true) i trs st=JX (fun _=>true) 0 trs st:=by
    intro trs
    induction trs with
    | nil=>intro i st;rfl
    | cons t trs ih=>intro i st;simp only [JX];rw [ih,ih 1]
   have go:∀(t:Tr) (pm1:Option Pm) (st':St),t.lay st=st'→Nt G ops gs l st' (tr++[t]) pm1 k=some r →
    ∃trs pm',StepsT G ops (tr.length+1) pm1 l st' trs pm'∧k pm' (JX (fun _=>true) 0 (t::trs) st) (tr++(t::trs))=some r:=by
    intro t pm1 st' h2 h3
    subst h2
    obtain ⟨trs,pm',q1,q2⟩:=qS h3
    rw [zf] at q1
    refine ⟨trs,pm',q1,?_⟩
    simp only [JX,zj]
    rw [fold0]
    simpa using q2
   have next:pQ pm hh=false → ∀(t:Tr) (st':St),wT G ops o hh st t→t.lay st=st'→Nt G ops gs l st' (tr++[t]) pm k=some r →
    ∃trs pm',StepsT G ops tr.length pm ((o,hh)::l) st trs pm'∧k pm' (JX (fun _=>true) 0 trs st) (tr++trs)=some r:=by
    intro h0 t st' h1 h2 h3
    obtain ⟨trs,pm',q1,q2⟩:=go t pm st' h2 h3
    subst h2
    exact ⟨t::trs,pm',⟨t,trs,rfl,.inl ⟨h0,h1,q1⟩⟩,q2⟩
   unfold Nt at h
   simp only at h
   cases h0:pQ pm hh with
   | true=>
     rw [h0] at h
     simp only [zj] at h
     obtain ⟨trs,pm',q1,q2⟩:=go (dJ o) pm st (mO o st) h
     exact ⟨dJ o::trs,pm',⟨_,trs,rfl,.inr (.inl ⟨h0,rfl,q1⟩)⟩,q2⟩
   | false=>
     rw [h0] at h
     simp only [zk] at h
     have done:(o.guard=none∨eC ops hh st o true) → ∀e:Eff,((∀{ev' ob'},ExtE (qT st hh.hideS) ev' (l9 st hh.hideO) ob' (o.dst.getD 0) → ∀(τ:Type) (k':Eff→Option τ),Jq G o (o.dst.getD 0) ev' ob' k'=k' e)∨P6 G o hh st e) →
      (bif gI hh.wr e.upd then VZ gs o.dst e.dv fun d=>VL G.n st o.dst d e.upd fun st'=>Nt G ops gs l st' (tr++[⟨o.dst,some d,e.upd,dN st e.upd⟩]) pm k else none)=some r →
      ∃trs pm',StepsT G ops tr.length pm ((o,hh)::l) st trs pm'∧k pm' (JX (fun _=>true) 0 trs st) (tr++trs)=some r:=by
      intro hg e h2 h1
      cases hok:gI hh.wr e.upd with
      | false=>rw [hok] at h1;cases h1
      | true=>
        rw [hok] at h1
        simp only [zj] at h1
        have h3:=DH h1
        unfold VL at h3
        split at h3
        ·rename_i st' hl
         obtain ⟨m1,m2⟩:=BI hl
         have hl2:=s8 (n:=G.n) (st:=st) (t:=⟨o.dst,some e.dv,e.upd,dN st e.upd⟩) rfl rfl m1 m2
         rw [hl] at hl2
         cases hl2
         exact next h0 _ _ ⟨rfl,.inl ⟨e,hg,h2,rfl,rfl,rfl,hok,m1,m2⟩⟩ rfl h3
        ·cases h3
     have run:(o.guard=none∨eC ops hh st o true)→(match altD? G pm o (qT st hh.hideS) (l9 st hh.hideO) with
      | some (ma,ds)=>tZ ma ds (o.dst.getD 0) (l9 st hh.hideO) (fun e=>bif gI hh.wr e.upd then VZ gs o.dst e.dv fun d=>VL G.n st o.dst d e.upd fun st'=>Nt G ops gs l st' (tr++[⟨o.dst,some d,e.upd,dN st e.upd⟩]) pm k else none) fun a u=>Nt G ops gs l st (tr++[dJ o]) (some (tr.length,a,u)) k
      | none=>Jq G o (o.dst.getD 0) (qT st hh.hideS) (l9 st hh.hideO) fun e=>bif gI hh.wr e.upd then VZ gs o.dst e.dv fun d=>VL G.n st o.dst d e.upd fun st'=>Nt G ops gs l st' (tr++[⟨o.dst,some d,e.upd,dN st e.upd⟩]) pm k else none)=some r →
        ∃trs pm',StepsT G ops tr.length pm ((o,hh)::l) st trs pm'∧k pm' (JX (fun _=>true) 0 trs st) (tr++trs)=some r:=by
      intro hg h
      split at h
      ·rename_i ma ds ha
       cases pm with
       | some q=>cases ha
       | none=>
         have ha:Hm G o (qT st hh.hideS) (l9 st hh.hideO)=some (ma,ds):=ha
         unfold tZ at h
         split at h
         ·rename_i x u σ hbi
          obtain ⟨y,hy,h⟩:=ki h
          cases y with
          | inl y=>
            simp only [sel] at h
            split at h
            ·rename_i d v hk
             exact done hg ⟨d,u++v⟩ (.inr ⟨ma,ds,x,u,σ,y,d,v,fun hx=>⟨vA hx ha,lK hx.o hbi,nZ hx.o hx.ds hk⟩,hy,rfl⟩) h
            ·cases h
          | inr y=>
            simp only [sel] at h
            split at h
            ·rename_i a v hk
             cases hpn:ma.pan with
             | false=>rw [hpn] at h;cases h
             | true=>
               rw [hpn] at h
               simp only [zj] at h
               obtain ⟨trs,pm',q1,q2⟩:=go (dJ o) (some (tr.length,a,u++v)) st (mO o st) h
               exact ⟨dJ o::trs,pm',⟨_,trs,rfl,.inr (.inr ⟨rfl,rfl,a,u++v,⟨hg,ma,ds,x,u,σ,y,v,fun hx=>⟨vA hx ha,lK hx.o hbi,nZ hx.o hx.ds hk⟩,hy,hpn,rfl⟩,q1⟩)⟩,q2⟩
            ·cases h
         ·cases h
      ·obtain ⟨e,h1,h2⟩:=I4 h
       exact done hg e (.inl h2) h1
     split at h
     ·rename_i hg
      exact run (.inl hg) h
     ·rename_i j want hg
      split at h
      ·rename_i g hj
       cases hm:JK g hh.hideS with
       | true=>rw [hm] at h;cases h
       | false=>
         rw [hm] at h
         simp only [zk] at h
         have skip:eC ops hh st o false→(VL G.n st o.dst (.tup []) [] fun st'=>Nt G ops gs l st' (tr++[⟨o.dst,some (.tup []),[],[]⟩]) pm k)=some r →
          ∃trs pm',StepsT G ops tr.length pm ((o,hh)::l) st trs pm'∧k pm' (JX (fun _=>true) 0 trs st) (tr++trs)=some r:=by
          intro hgi hs
          unfold VL at hs
          split at hs
          ·rename_i st' hl
           obtain ⟨m1,m2⟩:=BI hl
           have hl2:=s8 (n:=G.n) (st:=st) (t:=⟨o.dst,some (.tup []),[],[]⟩) rfl rfl m1 m2
           rw [hl] at hl2
           cases hl2
           exact next h0 _ _ ⟨rfl,.inr ⟨hgi,rfl,rfl,m2⟩⟩ rfl hs
          ·cases hs
         split at h
         ·rename_i b hb
          cases hbw:(b==want) with
          | true=>
            rw [hbw] at h
            exact run (.inr ⟨j,want,g,hg,hj,hm,.inl ⟨b,hb,hbw⟩⟩) h
          | false=>
            rw [hbw] at h
            simp only [br] at h
            exact skip ⟨j,want,g,hg,hj,hm,.inl ⟨b,hb,hbw⟩⟩ h
         ·rename_i hb
          exact skip ⟨j,want,g,hg,hj,hm,.inr ⟨hb,rfl⟩⟩ h
         ·cases h
      ·cases h
end Go.Ql
end

section
namespace Go.Ql
variable [GInv]
def xR (e:Edge):Bool:=Region.binds .any e
def xD (oi:Oper) (hi hj:Hint):Bool:=
 (match oi.dst with | some t=>JK t hj.hideS | none=>true)&&hi.wr.all fun id=>JK id hj.hideO
def BF (dst i:Nat):Bool:=Nat.blt i dst || !Nat.beq ((i-dst) % 1000) 0
def xA (hs:List Hint) (ops:List Oper) (j:Nat) (oj:Oper) (hj:Hint):Nat→List (Oper×Hint)→Bool
 | _,[]=>true
 | i,(oi,hi)::r=>(Nat.beq i j||((JK i hj.pre||JK j hi.pre||xD oi hi hj)&&(match oi.dst,oj.dst with | some s,some t=>!Nat.beq s t | _,_=>true)))&&xA hs ops j oj hj (i+1) r
def iZ (hs:List Hint) (ops:List Oper) (all:List (Oper×Hint)) (j:Nat) (oj:Oper) (hj:Hint):Bool:=
 oj.after.toList.all (fun e=>!xR e||Nat.blt e.on j) &&
 hj.pre.all (fun i=>Nat.blt i j&&oj.after.toList.any fun e=>xR e&&(Nat.beq e.on i||JK i (Hs hs e.on))) &&
 hj.hideO.all (fun i=>BF (oj.dst.getD 0) i)&&hj.wr.all (fun id=>!JK id hj.hideO)&&xA hs ops j oj hj 0 all
def sR (hs:List Hint) (ops:List Oper) (all:List (Oper×Hint)):Nat→List (Oper×Hint)→Bool
 | _,[]=>true
 | j,(oj,hj)::r=>iZ hs ops all j oj hj&&sR hs ops all (j+1) r
def pR (ops:List Oper) (hs:List Hint):Bool:=Nat.beq hs.length ops.length&&sR hs ops (ops.zip hs) 0 (ops.zip hs)
structure HOk (ops:List Oper) (hs:List Hint):Prop where
 len:hs.length=ops.length
 back:∀j o,ops[j]?=some o → ∀e∈o.after,Region.binds .any e=true→e.on<j
 pre:∀j i,i∈Hs hs j→i<j ∧ ∃o,ops[j]?=some o ∧ ∃e∈o.after,Region.binds .any e=true∧(e.on=i∨i∈Hs hs e.on)
 apart:∀(i j:Nat) (oi oj:Oper) (hi hj:Hint),ops[i]?=some oi→ops[j]?=some oj→hs[i]?=some hi→hs[j]?=some hj→i≠j →
  (i∈hj.pre∨j∈hi.pre∨((∀t,oi.dst=some t→JK t hj.hideS=true) ∧ ∀id,JK id hi.wr=true→JK id hj.hideO=true)) ∧ ∀t,oi.dst=some t→oj.dst≠some t
 selfD:∀(j:Nat) (o:Oper) (h:Hint),ops[j]?=some o→hs[j]?=some h → ∀i,JK (Uc (o.dst.getD 0) i) h.hideO=false
 selfW:∀(j:Nat) (h:Hint),hs[j]?=some h → ∀id,JK id h.wr=true→JK id h.hideO=false
def zS {hs:List Hint} {ops:List Oper} {j:Nat} {oj:Oper} {hj:Hint}:∀{l:List (Oper×Hint)} {i0:Nat},xA hs ops j oj hj i0 l=true → ∀i oi hi,l[i]?=some (oi,hi)→i0+i≠j →
 (i0+i∈hj.pre∨j∈hi.pre∨xD oi hi hj=true) ∧ ∀t,oi.dst=some t→oj.dst≠some t
 | [],i0,_,i,oi,hi,h,_=>by simp at h
 | (o,h)::l,i0,hr,i,oi,hi,hl,hne=>by
   simp only [xA,ze] at hr
   cases i with
   | zero=>
     simp only [List.getElem?_cons_zero,zd,zr] at hl
     obtain ⟨rfl,rfl⟩:=hl
     have h1:=hr.1
     have hb:Nat.beq i0 j=false:=Yi.2 hne
     rw [hb,Bool.false_or,ze,Bool.or_eq_true,Bool.or_eq_true] at h1
     refine ⟨?_,fun t ht hj'=>?_⟩
     ·rcases h1.1 with (h2 | h2) | h2
      ·exact .inl (Hg.1 h2)
      ·exact .inr (.inl (Hg.1 h2))
      ·exact .inr (.inr h2)
     ·have h2:=h1.2
      rw [ht,hj'] at h2
      simp only [Jx.2 rfl] at h2
      cases h2
   | succ i=>
     have:=zS hr.2 i oi hi (by simpa using hl) (by omega)
     rwa [show i0+(i+1)=i0+1+i by omega]
def vJ {hs:List Hint} {ops:List Oper} {all:List (Oper×Hint)}:∀{l:List (Oper×Hint)} {j0:Nat},sR hs ops all j0 l=true → ∀j oj hj,l[j]?=some (oj,hj)→iZ hs ops all (j0+j) oj hj=true
 | [],j0,_,j,oj,hj,h=>by simp at h
 | (o,h)::l,j0,hr,j,oj,hj,hl=>by
   simp only [sR,ze] at hr
   cases j with
   | zero=>
     simp only [List.getElem?_cons_zero,zd,zr] at hl
     obtain ⟨rfl,rfl⟩:=hl
     exact hr.1
   | succ j=>
     have:=vJ hr.2 j oj hj (by simpa using hl)
     rwa [show j0+(j+1)=j0+1+j by omega]
def mN {ops:List Oper} {hs:List Hint} (h:pR ops hs=true):HOk ops hs:=by
 simp only [pR,ze] at h
 obtain ⟨h1,h2⟩:=h
 have hl:hs.length=ops.length:=Jx.1 h1
 have zip:∀j o h,ops[j]?=some o→hs[j]?=some h→(ops.zip hs)[j]?=some (o,h):=fun j o h q1 q2=>by
  rw [List.getElem?_zip_eq_some];exact ⟨q1,q2⟩
 have both:∀(j:Nat) (o:Oper),ops[j]?=some o → ∃h,hs[j]?=some h:=fun j o q=>by
  have:j<hs.length:=by rw [hl];exact (Z6.1 q).1
  exact ⟨_,Z7 this⟩
 have both':∀(j:Nat) (h:Hint),hs[j]?=some h → ∃o,ops[j]?=some o:=fun j o q=>by
  have:j<ops.length:=by rw [←hl];exact (Z6.1 q).1
  exact ⟨_,Z7 this⟩
 have one:∀j o h,ops[j]?=some o→hs[j]?=some h→iZ hs ops (ops.zip hs) j o h=true:=fun j o h q1 q2=>by
  have:=vJ h2 j o h (zip j o h q1 q2)
  rwa [zv] at this
 refine ⟨hl,fun j o q e he hb=>?_,fun j i hi=>?_,fun i j oi oj hi hj q1 q2 q3 q4 hne=>?_,fun j o h q1 q2=>?_,fun j h q id hid=>?_⟩
 ·obtain ⟨h,hh⟩:=both j o q
  have:=one j o h q hh
  simp only [iZ,ze] at this
  have h3:=zy.1 this.1.1.1.1 e (Array.mem_toList_iff.2 he)
  rw [show xR e=true from hb] at h3
  simpa [Nat.blt_eq] using h3
 ·unfold Hs at hi
  split at hi
  ·rename_i h hh
   obtain ⟨o,q⟩:=both' j h hh
   have:=one j o h q hh
   simp only [iZ,ze] at this
   have h3:=zy.1 this.1.1.1.2 i hi
   simp only [ze] at h3
   refine ⟨by simpa [Nat.blt_eq] using h3.1,o,q,?_⟩
   obtain ⟨e,he,hb⟩:=List.any_eq_true.1 h3.2
   simp only [ze,Bool.or_eq_true] at hb
   refine ⟨e,Array.mem_toList_iff.1 he,hb.1,?_⟩
   rcases hb.2 with h4 | h4
   ·exact .inl (Jx.1 h4)
   ·exact .inr (Hg.1 h4)
  ·cases hi
 ·have:=one j oj hj q2 q4
  simp only [iZ,ze] at this
  have h3:=zS this.2 i oi hi (zip i oi hi q1 q3) (by omega)
  rw [zv] at h3
  refine ⟨?_,h3.2⟩
  rcases h3.1 with h4 | h4 | h4
  ·exact .inl h4
  ·exact .inr (.inl h4)
  ·simp only [xD,ze] at h4
   exact .inr (.inr ⟨fun t ht=>by rw [ht] at h4;exact h4.1,fun id hid=>zy.1 h4.2 id (Hg.1 hid)⟩)
 ·have:=one j o h q1 q2
  simp only [iZ,ze] at this
  intro i
  cases hm:JK (Uc (o.dst.getD 0) i) h.hideO with
  | false=>rfl
  | true=>
    have hf:=zy.1 this.1.1.2 _ (Hg.1 hm)
    unfold BF Uc at hf
    simp only [Bool.or_eq_true,Nat.blt_eq,Z3] at hf
    rcases hf with hf | hf
    ·omega
    ·exact absurd (by omega) (Yi.1 hf)
 ·obtain ⟨o,q'⟩:=both' j h q
  have:=one j o h q' q
  simp only [iZ,ze] at this
  simpa using zy.1 this.1.2 id (Hg.1 hid)
def dF (ops:List Oper) (S:Nat→Bool):Prop:=∀j o,ops[j]?=some o→S j=true → ∀e∈o.after,Region.binds .any e=true→S e.on=true
def HOk.pre_in {ops:List Oper} {hs:List Hint} (h:HOk ops hs) {S:Nat→Bool} (hc:dF ops S):∀(j i:Nat),S j=true→i∈Hs hs j→S i=true:=by
 intro j
 induction j using Nat.strongRecOn with
 | _ j ih=>
   intro i hj hi
   obtain ⟨_,o,ho,e,he,hb,h2⟩:=h.pre j i hi
   have h3:=hc j o ho hj e he hb
   rcases h2 with h2 | h2
   ·rw [←h2];exact h3
   ·exact ih e.on (h.back j o ho e he hb) i h3 h2
def CU (st st':St) (v:Value):kS st (.const v)=kS st' (.const v):=by
 cases v<;>try rfl
 case pointer q=>cases q<;>rfl
 case map q=>cases q<;>rfl
 case slice a l c=>
  cases a
  ·cases l<;>cases c<;>rfl
  ·rfl
def wA {ρ:Type} {dst:Option Nat} {d:Dv} {k:Dv→Option ρ}:VZ [] dst d k=k d:=by
 unfold VZ
 cases dst<;>rfl
def aC {hs:List Hint} {j:Nat} {h:Hint} (q:hs[j]?=some h):Hs hs j=h.pre:=by unfold Hs;rw [q]
section
variable {P:Program} {G:Env} {n:Nat} {w0 w w':World} {Z0:Bs} {Z Z':Nat→Prop} {st st0:St} {a:Act} {nm:JY} {ops:List Oper} {hs:List Hint} {trs:List Tr}
structure Text (G:Env) (ops:List Oper) (hs:List Hint) (st0:St) (trs:List Tr) (live:Nat→Bool):Prop where
 hok:HOk ops hs
 len:trs.length=ops.length
 step:∀(m:Nat) (o:Oper) (h:Hint) (t:Tr),ops[m]?=some o→hs[m]?=some h→trs[m]?=some t→live m=true→wT G ops o h (JX (fun k=>decide (k<m)) 0 trs st0) t
 rest:∀(m:Nat) (o:Oper) (t:Tr),ops[m]?=some o→trs[m]?=some t→live m=false→t=dJ o
 clean:∀(m:Nat) (t:Tr),trs[m]?=some t→sP hs st0 trs m t=true
def n7 {hs:List Hint} {st0:St} {trs:List Tr}:∀{l:List Tr} {i:Nat},bD hs st0 trs i l=true → ∀m t,l[m]?=some t→sP hs st0 trs (i+m) t=true
 | [],i,_,m,t,h=>by simp at h
 | u::l,i,hc,m,t,h=>by
   simp only [bD,ze] at hc
   cases m with
   | zero=>simp only [List.getElem?_cons_zero,zd] at h;subst h;exact hc.1
   | succ m=>
     have:=n7 hc.2 m t (by simpa using h)
     rwa [show i+(m+1)=i+1+m by omega]
def qX {hs:List Hint} {i:Nat} {p:Tr→Bool}:∀{l:List Tr} {j0:Nat},eI hs i p j0 l=true → ∀k t,l[k]?=some t→i≠j0+k→i∉Hs hs (j0+k)→p t=true
 | [],j0,_,k,t,h,_,_=>by simp at h
 | u::l,j0,ho,k,t,h,h1,h2=>by
   simp only [eI,ze] at ho
   cases k with
   | zero=>
     simp only [List.getElem?_cons_zero,zd] at h
     subst h
     have h3:=ho.1
     rw [show Nat.beq i j0=false from Yi.2 h1] at h3
     cases hm:JK i (Hs hs j0) with
     | true=>exact absurd (Hg.1 hm) h2
     | false=>rw [hm] at h3;exact h3
   | succ k=>exact qX ho.2 k t (by simpa using h) (by omega) (by rwa [show j0+1+k=j0+(k+1) by omega])
def fJ (hs:List Hint):Option Pm→Nat→Bool
 | none,_=>true
 | some q,k=>!Nat.beq k q.1 && !JK q.1 (Hs hs k)
def Text.of {pm:Option Pm} (hok:HOk ops hs) (h:StepsT G ops 0 none (ops.zip hs) st0 trs pm) (hc:bD hs st0 trs 0 trs=true):Text G ops hs st0 trs (fJ hs pm):=by
 obtain ⟨h1,h2⟩:=StepsT.at (fun q hq=>by cases hq) h
 have hlen:trs.length=ops.length:=by rw [h1,List.length_zip,hok.len,Nat.min_self]
 refine ⟨hok,hlen,fun m o h t q1 q2 q3 hl=>?_,fun m o t q1 q3 hl=>?_,fun m t q=>?_⟩
 ·have:=h2 m o h t (by rw [List.getElem?_zip_eq_some];exact ⟨q1,q2⟩) q3
  rw [zv] at this
  rcases this with this | ⟨q,g1,g2,g3,_⟩ | ⟨a,u,g1,_⟩
  ·exact this.1
  ·subst g1
   simp only [fJ,aC q2,g3,Bool.not_true,Bool.and_false] at hl
   cases hl
  ·subst g1
   simp only [fJ,Jx.2 rfl,Bool.not_true,Bool.false_and] at hl
   cases hl
 ·have hh:∃h,hs[m]?=some h:=⟨_,Z7 (by rw [hok.len];exact (Z6.1 q1).1)⟩
  obtain ⟨hi,q2⟩:=hh
  have:=h2 m o hi t (by rw [List.getElem?_zip_eq_some];exact ⟨q1,q2⟩) q3
  rw [zv] at this
  rcases this with this | ⟨q,g1,g2,g3,g4⟩ | ⟨a,u,g1,g4,_⟩
  ·cases pm with
   | none=>cases hl
   | some q=>
     obtain ⟨g1,g2⟩:=this.2 q rfl
     have e1:Nat.beq m q.1=false:=Yi.2 fun hh=>g1 hh.symm
     simp only [fJ,e1,Bool.not_false,Bool.true_and,aC q2] at hl
     by_cases hlt:q.1<m
     ·rw [g2 hlt] at hl;cases hl
     ·have:JK q.1 hi.pre=true:=by simpa using hl
      have:=(hok.pre m q.1 (by rw [aC q2];exact Hg.1 this)).1
      omega
  ·exact g4
  ·exact g4
 ·have:=n7 hc m t q
  rwa [zv] at this
def AV {o:Oper} {dst:Nat} {ev:Operand→Option Dv} {ob:Yo} {ρ:Type} {k:Eff→Option ρ} {q:Bool×Bool} (h:NC G.tab o ev ob=some q):Jq G o dst ev ob k=none:=by
 unfold NC at h
 split at h
 ·rename_i op xt x y yt ho
  split at h
  ·rename_i s e b d htab hd hy
   have hne:d ≠ .one .nilS:=by
    rintro rfl
    cases op<;>cases h
   unfold Jq
   rw [ho]
   simp only [hd,hy,htab]
   split
   all_goals first
    | (cases JK xt G.eqs.l<;>rfl)
    | (rename_i h1 h2;cases h1;done)
    | (rename_i h1 h2;cases h2;done)
    | (rename_i h1 h2;cases h1;cases h2;done)
    | (rename_i h1;cases h1;done)
    | (exact absurd rfl hne)
    | (exfalso;simp_all;done)
  ·cases h
 ·cases h
def B8 {o:Oper} {ev:Operand→Option Dv} {ob:Yo} {ρ:Type} {k:Eff→Option ρ} {q:MAlt×List Dv} (h:Hm G o ev ob=some q):Jq G o (o.dst.getD 0) ev ob k=none:=by
 unfold Hm at h
 split at h
 ·rename_i c ho
  split at h
  ·rename_i x hc
   split at h
   ·rename_i f fs cs as h1 h2
    split at h
    ·rename_i ma h3 h4 h5
     unfold Jq
     rw [ho]
     simp only [hc,h1,h2,h3]
     unfold oM
     rw [h4]
    ·cases h
   ·cases h
  ·cases h
 ·cases h
noncomputable def pC {ρ:Type} (G:Env) (gs:List Nat) (o:Oper) (st:St) (k kp:St→Option ρ):Option ρ:=match NC G.tab o (kS st) (look st.sj) with
 | some (q,emp)=>
   br emp (bif JK (46000000+o.dst.getD 0) G.muts then none else both (VZ gs o.dst (vB q) fun d=>VL G.n st o.dst d [] k) (VZ gs o.dst (vB !q) fun d=>VL G.n st o.dst d [] k))
    (VZ gs o.dst (vB !q) fun d=>VL G.n st o.dst d [] k)
 | none=>match o.op with
   | .panic x=>match kS st x with
     | some (.one (.val (.ifc T s) y))=>(match thrown st (.val (.ifc T s) y) with
       | some s=>kp s
       | none=>none)
     | _=>none
   | _=>match Hm G o (kS st) (look st.sj) with
     | some (ma,ds)=>nX G gs o st ma ds k kp
     | none=>Jq G o (o.dst.getD 0) (kS st) (look st.sj) fun e=>
       VZ gs o.dst e.dv fun d=>VL G.n st o.dst d e.upd k
def AA {ρ:Type} {ops:List Oper} {gs:List Nat} {o:Oper} {st:St} {k kp:St→Option ρ}:nF G ops gs o st k kp=(match o.guard with
 | none=>pC G gs o st k kp
 | some (j,want)=>match (ops[j]?).bind (·.dst) with
   | some g=>match look st.mj g with
     | some (.one (.val .bool b))=>br (b==want) (pC G gs o st k kp) (VL G.n st o.dst (.tup []) [] k)
     | some (.tup [])=>VL G.n st o.dst (.tup []) [] k
     | _=>none
   | none=>none):=rfl
def LK {ρ:Type} {gs:List Nat} {o:Oper} {st:St} {k kp:St→Option ρ} {r:ρ} (run:(Jq G o (o.dst.getD 0) (kS st) (look st.sj) fun e=>VZ gs o.dst e.dv fun d=>VL G.n st o.dst d e.upd k)=some r):pC G gs o st k kp=some r:=by
 have hnil:NC G.tab o (kS st) (look st.sj)=none:=by
  cases hn:NC G.tab o (kS st) (look st.sj) with
  | none=>rfl
  | some q=>rw [AV hn] at run;cases run
 have halt:Hm G o (kS st) (look st.sj)=none:=by
  cases hn:Hm G o (kS st) (look st.sj) with
  | none=>rfl
  | some q=>rw [B8 hn] at run;cases run
 have hop:∀x,o.op ≠ .panic x:=by
  intro x ho
  unfold Jq at run
  rw [ho] at run
  cases run
 unfold pC
 simp only [hnil,halt]
 cases ho2:o.op<;>first | exact absurd ho2 (hop _) | exact run
def zY {ρ:Type} {gs:List Nat} {o:Oper} {st:St} {k kp:St→Option ρ} {ma:MAlt} {ds:List Dv} (h:Hm G o (kS st) (look st.sj)=some (ma,ds)):pC G gs o st k kp=nX G gs o st ma ds k kp:=by
 obtain ⟨c,hc⟩:∃c,o.op=.call c:=by
  unfold Hm at h
  split at h
  ·rename_i c hc;exact ⟨c,hc⟩
  ·cases h
 have hnil:NC G.tab o (kS st) (look st.sj)=none:=by
  unfold NC
  rw [hc]
 unfold pC
 rw [hnil]
 simp only [hc,h]
def Text.agree {live:Nat→Bool} (T:Text G ops hs st0 trs live) {S:Nat→Bool} (hc:dF ops S) {m:Nat} {o:Oper} {h:Hint} (ho:ops[m]?=some o) (hh:hs[m]?=some h) (hm:S m=false)
 (hr:∀e∈o.after,Region.binds .any e=true→S e.on=true) {k:Nat} (hk:k∈Hs hs m∨m∈Hs hs k∨k=m):S k=decide (k<m):=by
 rcases hk with hk | hk | hk
 ·obtain ⟨h1,o',ho',e,he,hb,h2⟩:=T.hok.pre m k hk
  rw [ho] at ho';cases ho'
  have h3:=hr e he hb
  have:S k=true:=by
   rcases h2 with h2 | h2
   ·rw [←h2];exact h3
   ·exact T.hok.pre_in hc e.on k h3 h2
  rw [this];simp [h1]
 ·obtain ⟨h1,_⟩:=T.hok.pre k m hk
  have:S k=false:=by
   cases hs':S k with
   | false=>rfl
   | true=>rw [T.hok.pre_in hc k m hs' hk] at hm;cases hm
  rw [this];simp;omega
 ·subst hk;rw [hm];simp
def Text.sees {live:Nat→Bool} (T:Text G ops hs st0 trs live) {S:Nat→Bool} (hc:dF ops S) {m:Nat} {o:Oper} {h:Hint} (ho:ops[m]?=some o) (hh:hs[m]?=some h) (hm:S m=false)
 (hr:∀e∈o.after,Region.binds .any e=true→S e.on=true) :
 (∀s,JK s h.hideS=false∨o.dst=some s→look (JX S 0 trs st0).mj s=look (JX (fun k=>decide (k<m)) 0 trs st0).mj s) ∧
 (∀id,JK id h.hideO=false→look (JX S 0 trs st0).sj id=look (JX (fun k=>decide (k<m)) 0 trs st0).sj id) ∧
 ExtE (qT (JX (fun k=>decide (k<m)) 0 trs st0) h.hideS) (kS (JX S 0 trs st0)) (l9 (JX (fun k=>decide (k<m)) 0 trs st0) h.hideO) (look (JX S 0 trs st0).sj) (o.dst.getD 0):=by
 have agree:=fun {k}=>T.agree (k:=k) hc ho hh hm hr
 have nO:∀(k:Nat) (u:Tr) (hk:Hint) (ok:Oper),trs[k]?=some u→hs[k]?=some hk→ops[k]?=some ok→u.dst=ok.dst ∧ ∀id ob,(id,ob)∈u.upd→JK id hk.wr=true:=by
  intro k u hk ok q1 q2 q3
  cases hlk:live k with
  | false=>rw [T.rest k ok u q3 q1 hlk];exact ⟨rfl,fun id ob hu=>by cases hu⟩
  | true=>
  obtain ⟨h1,h2⟩:=T.step k ok hk u q3 q2 q1 hlk
  refine ⟨h1,fun id ob hu=>?_⟩
  rcases h2 with ⟨e,hran⟩ | hsk
  ·have:=hran.ok
   rw [←hran.upd] at this
   unfold gI at this
   rw [ze,zy] at this
   exact this.1 _ hu
  ·rw [hsk.upd] at hu;cases hu
 have get:∀(k:Nat) (u:Tr),trs[k]?=some u → ∃(ok:Oper) (hk:Hint),ops[k]?=some ok∧hs[k]?=some hk:=by
  intro k u q
  have h1:k<ops.length:=by rw [←T.len];exact (Z6.1 q).1
  have h2:k<hs.length:=by rw [T.hok.len];exact h1
  exact ⟨_,_,Z7 h1,Z7 h2⟩
 have slot:∀s,JK s h.hideS=false∨o.dst=some s→look (JX S 0 trs st0).mj s=look (JX (fun k=>decide (k<m)) 0 trs st0).mj s:=by
  intro s hs'
  refine mL rfl (fun k u q1 q2=>?_)
  rw [zv]
  obtain ⟨ok,hk,q3,q4⟩:=get k u q1
  by_cases hkm:k=m
  ·exact agree (.inr (.inr hkm))
  ·obtain ⟨a1,a2⟩:=T.hok.apart k m ok o hk h q3 ho q4 hh hkm
   rw [(nO k u hk ok q1 q4 q3).1] at q2
   rcases a1 with a1 | a1 | a1
   ·exact agree (.inl (by rw [aC hh];exact a1))
   ·exact agree (.inr (.inl (by rw [aC q4];exact a1)))
   ·rcases hs' with hs' | hs'
    ·rw [a1.1 s q2] at hs';cases hs'
    ·exact absurd hs' (a2 s q2)
 have obj:∀id,JK id h.hideO=false→look (JX S 0 trs st0).sj id=look (JX (fun k=>decide (k<m)) 0 trs st0).sj id:=by
  intro s hs'
  refine oC rfl (fun k u ob q1 q2=>?_)
  rw [zv]
  obtain ⟨ok,hk,q3,q4⟩:=get k u q1
  by_cases hkm:k=m
  ·exact agree (.inr (.inr hkm))
  ·obtain ⟨a1,a2⟩:=T.hok.apart k m ok o hk h q3 ho q4 hh hkm
   rcases a1 with a1 | a1 | a1
   ·exact agree (.inl (by rw [aC hh];exact a1))
   ·exact agree (.inr (.inl (by rw [aC q4];exact a1)))
   ·rw [a1.2 s ((nO k u hk ok q1 q4 q3).2 s ob q2)] at hs';cases hs'
 refine ⟨slot,obj,fun {x d} hx=>?_,fun {i b} hb=>?_,?_⟩
 ·cases x with
  | tmp t'=>
    simp only [qT] at hx
    cases hmm:JK t' h.hideS with
    | true=>rw [hmm] at hx;cases hx
    | false=>rw [hmm] at hx;simp only [kS];rw [slot t' (.inl hmm)];exact hx
  | const v=>rw [CU _ (JX (fun k=>decide (k<m)) 0 trs st0)];exact hx
  | _=>exact hx
 ·unfold l9 at hb
  cases hmm:JK i h.hideO with
  | true=>rw [hmm] at hb;cases hb
  | false=>rw [hmm] at hb;rw [obj i hmm];exact hb
 ·intro i
  have:=T.hok.selfD m o h ho hh i
  unfold l9
  rw [this,obj _ this];rfl
def Text.step_at {live:Nat→Bool} (T:Text G ops hs st0 trs live) {S:Nat→Bool} (hc:dF ops S) {m:Nat} {o:Oper} {h:Hint} {t:Tr} (ho:ops[m]?=some o) (hh:hs[m]?=some h) (ht:trs[m]?=some t) (hm:S m=false) (hlive:live m=true)
 (hr:∀e∈o.after,Region.binds .any e=true→S e.on=true) :
 nF G ops [] o (JX S 0 trs st0) some (fun _=>none)=some (JX (fun k=>S k||decide (k=m)) 0 trs st0):=by
 obtain ⟨hd,hst⟩:=T.step m o h t ho hh ht hlive
 have nO:∀(k:Nat) (u:Tr) (hk:Hint) (ok:Oper),trs[k]?=some u→hs[k]?=some hk→ops[k]?=some ok→u.dst=ok.dst ∧ ∀id ob,(id,ob)∈u.upd→JK id hk.wr=true:=by
  intro k u hk ok q1 q2 q3
  cases hlk:live k with
  | false=>rw [T.rest k ok u q3 q1 hlk];exact ⟨rfl,fun id ob hu=>by cases hu⟩
  | true=>
  obtain ⟨h1,h2⟩:=T.step k ok hk u q3 q2 q1 hlk
  refine ⟨h1,fun id ob hu=>?_⟩
  rcases h2 with ⟨e,hran⟩ | hsk
  ·have:=hran.ok
   rw [←hran.upd] at this
   unfold gI at this
   rw [ze,zy] at this
   exact this.1 _ hu
  ·rw [hsk.upd] at hu;cases hu
 have get:∀(k:Nat) (u:Tr),trs[k]?=some u → ∃(ok:Oper) (hk:Hint),ops[k]?=some ok∧hs[k]?=some hk:=by
  intro k u q
  have h1:k<ops.length:=by rw [←T.len];exact (Z6.1 q).1
  have h2:k<hs.length:=by rw [T.hok.len];exact h1
  exact ⟨_,_,Z7 h1,Z7 h2⟩
 obtain ⟨slot,obj,hext⟩:=T.sees hc ho hh hm hr
 have more:JX (fun k=>S k||decide (k=m)) 0 trs st0=t.lay (JX S 0 trs st0):=by
  have:=sU (S:=S) (m:=m) (t:=t) (i:=0) (trs:=trs) (st:=st0) (by rwa [zv]) ht (fun k u q1 hlt hsk=>by
   rw [zv] at hsk
   obtain ⟨ok,hk,q3,q4⟩:=get k u q1
   obtain ⟨a1,a2⟩:=T.hok.apart m k o ok h hk ho q3 hh q4 (by omega)
   refine ⟨fun s h1 h2=>?_,fun p hp q hq h12=>?_⟩
   ·rw [hd] at h1
    rw [(nO k u hk ok q1 q4 q3).1] at h2
    exact a2 s h1 h2
   ·have w1:=(nO m t h o ht hh ho).2 p.1 p.2 hp
    have w2:=(nO k u hk ok q1 q4 q3).2 p.1 q.2 (by rw [h12];exact hq)
    have w3:=T.hok.selfW k hk q4 p.1 w2
    rcases a1 with a1 | a1 | a1
    ·rw [T.hok.pre_in hc k m hsk (by rw [aC q4];exact a1)] at hm;cases hm
    ·have:=(T.hok.pre m k (by rw [aC hh];exact a1)).1;omega
    ·rw [a1.2 p.1 w1] at w3;cases w3)
  simpa using this
 rw [more]
 have guard:∀c,eC ops h (JX (fun k=>decide (k<m)) 0 trs st0) o c → ∃j want g,o.guard=some (j,want)∧(ops[j]?).bind (·.dst)=some g∧((∃b,look (JX S 0 trs st0).mj g=some (.one (.val .bool b))∧(b==want)=c)∨(look (JX S 0 trs st0).mj g=some (.tup [])∧c=false)):=by
  rintro c ⟨j,want,g,g1,g2,g3,g4⟩
  refine ⟨j,want,g,g1,g2,?_⟩
  rw [slot g (.inl g3)]
  exact g4
 rcases hst with ⟨e,hran⟩ | hsk
 ·
  have others:∀p:Tr→Bool,eI hs m p 0 trs=true → ∀k u,trs[k]?=some u→S (0+k)=true→p u=true:=by
   intro p hp k u q1 q2
   rw [zv] at q2
   refine qX hp k u q1 ?_ ?_
   ·intro hh';rw [zv] at hh';subst hh';rw [hm] at q2;cases q2
   ·intro hh';rw [zv] at hh';rw [T.hok.pre_in hc k m q2 hh'] at hm;cases hm
  
  have may1:∀(ahead:kY) id ob,JK id h.wr=true→(∀p∈ahead,p.1≠id)→sO hs st0 trs m ahead id ob (DB (JX (fun k=>decide (k<m)) 0 trs st0) id ob)=true →
   YZ ⟨(JX (fun k=>decide (k<m)) 0 trs st0).mj,YR ahead (JX (fun k=>decide (k<m)) 0 trs st0).sj⟩ id ob=true →
   YZ ⟨(JX S 0 trs st0).mj,YR ahead (JX S 0 trs st0).sj⟩ id ob=true:=by
   intro ahead id ob hw hne hcl h1
   have ho':=obj id (T.hok.selfW m h hh id hw)
   unfold YZ at h1 ⊢
   simp only [iU hne] at h1 ⊢
   rw [ho']
   unfold DB at hcl
   obtain ⟨x,hx⟩:∃x,look (JX (fun k=>decide (k<m)) 0 trs st0).sj id=x:=⟨_,rfl⟩
   rw [hx] at h1 ⊢
   simp only [hx] at hcl
   clear hx
   cases x with
   | none=>
     simp only [sO] at hcl
     unfold St.free at hcl ⊢
     rw [ze,ze,ze] at hcl
     obtain ⟨⟨⟨c1,c2⟩,c3⟩,c4⟩:=hcl
     have:=fH (S:=S) (i:=0) (trs:=trs) c1 c2 (fun k u q1 q2=>by
      have h3:=others _ c4 k u q1 q2
      simp only [Tr.noMention,ze] at h3
      refine ⟨fun s d hd=>?_,fun q hq=>?_⟩
      ·rw [hd] at h3;exact h3.1
      ·have h5:=zy.1 h3.2 q hq
       exact h5)
     have t2:=dK this.2 (fun q hq=>zy.1 c3 q hq)
     simp only [ze] at h1 ⊢
     exact ⟨h1.1,this.1,t2⟩
   | some ob0=>
     cases ob0 with
     | box cs=>exact h1
     | clo f y z=>exact h1
     | gone=>exact h1
     | arr v fz ty s xs=>
       cases ob with
       | box cs=>exact h1
       | clo f y z=>exact h1
       | gone=>exact h1
       | arr v' fz' ty' s' xs'=>
         cases hv:Nat.beq v v' with
         | true=>simp only [hv,Bool.true_or]
         | false=>
           simp only [hv,zk,Bool.false_or] at hcl h1 ⊢
           simp only [sO] at hcl
           unfold St.noVer at hcl ⊢
           rw [ze,ze,ze] at hcl
           obtain ⟨⟨⟨c1,c2⟩,c3⟩,c4⟩:=hcl
           have:=fH (S:=S) (i:=0) (trs:=trs) c1 c2 (fun k u q1 q2=>by
            have h3:=others _ c4 k u q1 q2
            simp only [Tr.noVer,ze] at h3
            refine ⟨fun s d hd=>?_,fun q hq=>?_⟩
            ·rw [hd] at h3;exact h3.1
            ·exact zy.1 h3.2 q hq)
           have t2:=dK this.2 (fun q hq=>zy.1 c3 q hq)
           rw [ze] at h1 ⊢
           exact ⟨h1.1,by rw [ze];exact ⟨this.1,t2⟩⟩
  have mays:∀(u ahead:kY),(u.all fun p=>JK p.1 h.wr)=true→gS u=true→(∀p∈ahead,∀q∈u,p.1≠q.1) →
   sQ hs st0 trs m ahead u (dN (JX (fun k=>decide (k<m)) 0 trs st0) u)=true →
   (kO ⟨(JX (fun k=>decide (k<m)) 0 trs st0).mj,YR ahead (JX (fun k=>decide (k<m)) 0 trs st0).sj⟩ u).isSome=true →
   (kO ⟨(JX S 0 trs st0).mj,YR ahead (JX S 0 trs st0).sj⟩ u).isSome=true:=by
   intro u
   induction u with
   | nil=>intro _ _ _ _ _ _;rfl
   | cons p r ih=>
     obtain ⟨id,ob⟩:=p
     intro ahead a1 a2 a3 a4 a5
     rw [List.all_cons,ze] at a1
     simp only [gS,ze,zy] at a2
     simp only [dN,sQ,ze] at a4
     simp only [kO] at a5 ⊢
     cases hmo:YZ ⟨(JX (fun k=>decide (k<m)) 0 trs st0).mj,YR ahead (JX (fun k=>decide (k<m)) 0 trs st0).sj⟩ id ob with
     | false=>rw [hmo] at a5;cases a5
     | true=>
       rw [hmo] at a5
       rw [may1 ahead id ob a1.1 (fun p hp=>a3 p hp (id,ob) (by simp)) a4.1 hmo]
       have e:∀l,YE id ob (YR ahead l)=YR (ahead++[(id,ob)]) l:=by
        intro l
        clear ih a1 a2 a3 a4 a5 hmo
        induction ahead generalizing l with
        | nil=>rfl
        | cons p r ih=>exact ih _
       simp only [zj,e] at a5 ⊢
       refine ih (ahead++[(id,ob)]) a1.2 a2.2 ?_ a4.2 a5
       intro p hp q hq
       rcases List.mem_append.1 hp with hp | hp
       ·exact a3 p hp q (zz _ hq)
       ·have:p=(id,ob):=by simpa using hp
        subst this
        have h9:=a2.1 q hq
        intro h10
        rw [←h10,Jx.2 rfl] at h9
        cases h9
  have may:(kO (JX S 0 trs st0) e.upd).isSome=true:=by
   have hok:=hran.ok
   unfold gI at hok
   rw [ze] at hok
   have hcl:=T.clean m t ht
   unfold sP at hcl
   rw [hran.upd,hran.need] at hcl
   exact mays e.upd [] hok.1 hok.2 (fun p hp=>by cases hp) hcl hran.may
  have hl:=s8 (n:=G.n) (st:=JX S 0 trs st0) (t:=t) hran.dv hran.upd may (fun s hs'=>hran.dst s (by rw [←hd];exact hs'))
  have hl':lay G.n (JX S 0 trs st0) o.dst e.dv e.upd=some (t.lay (JX S 0 trs st0)):=by rw [←hd];exact hl
  have run:pC G [] o (JX S 0 trs st0) some (fun _=>none)=some (t.lay (JX S 0 trs st0)):=by
   rcases hran.eff with heff | ⟨ma,ds,x,u,σ,y,d,v,hF,hy,rfl⟩
   ·refine LK ?_
    rw [heff hext,wA]
    unfold VL
    rw [hl']
   ·obtain ⟨q1,q2,q3⟩:=hF hext
    rw [zY q1]
    unfold nX
    simp only [q2,hy,jc,sel,q3,wA]
    unfold VL
    rw [hl']
  rw [AA]
  rcases hran.guard with hg | hg
  ·rw [hg]
   exact run
  ·obtain ⟨j,want,g,g1,g2,g3⟩:=guard true hg
   rcases g3 with ⟨b,g3,g4⟩ | ⟨_,g4⟩
   ·rw [g1]
    simp only [g2,g3,g4,br]
    exact run
   ·cases g4
 ·obtain ⟨j,want,g,g1,g2,g3⟩:=guard false hsk.guard
  have hl:=s8 (n:=G.n) (st:=JX S 0 trs st0) (t:=t) hsk.dv hsk.upd rfl (fun s hs'=>hsk.dst s (by rw [←hd];exact hs'))
  have hl':VL G.n (JX S 0 trs st0) o.dst (.tup []) [] some=some (t.lay (JX S 0 trs st0)):=by
   unfold VL
   rw [←hd,hl]
  unfold nF
  rcases g3 with ⟨b,g3,g4⟩ | ⟨g3,_⟩
  ·simp only [g1,g2,g3,g4,br]
   exact hl'
  ·simp only [g1,g2,g3]
   exact hl'
def left (listed:Array Bool):Nat:=listed.toList.count false
def yY {listed:Array Bool} {i:Nat} (hi:listed.getD i true=false):left (listed.setIfInBounds i true)+1=left listed:=by
 have hlt:i<listed.size:=by
  rcases Nat.lt_or_ge i listed.size with h | h
  ·exact h
  ·simp [Array.getElem?_eq_none h] at hi
 have hv:listed.toList[i]'(by simpa using hlt)=false:=by simpa [hlt] using hi
 unfold left
 rw [Array.toList_setIfInBounds,List.count_set (by simpa using hlt)]
 rw [hv]
 have:0<listed.toList.count false:=List.count_pos_iff.2 (hv▸List.getElem_mem _)
 have e1:(if (false==false)=true then 1 else 0)=1:=rfl
 have e2:(if (true==false)=true then 1 else 0)=0:=rfl
 rw [e1,e2]
 omega
def vU {listed:Array Bool} (h:left listed=0) {i:Nat} (hi:i<listed.size):listed.getD i false=true:=by
 have h1:=List.count_eq_zero.1 h
 have:listed[i]∈listed.toList:=by simp
 cases hb:listed[i] with
 | true=>simp [hi,hb]
 | false=>rw [hb] at this;exact absurd this h1
variable {ops':Array Oper} {Q:Exit→Act→World→Prop}
def oZ {listed:Array Bool} (hc:dF ops'.toList fun i=>listed.getD i false) {i:Nat} (hi:i∈Region.ready .any ops' listed):dF ops'.toList fun k=>(listed.setIfInBounds i true).getD k false:=by
 obtain ⟨h1,o,ho,h2⟩:=mem_ready.1 hi
 intro j oj hj hl e he hb
 by_cases hji:j=i
 ·subst hji
  have:oj=o:=by
   rw [Array.getElem?_toList] at hj
   exact Option.some.inj (hj.symm.trans ho)
  subst this
  exact getD_set_true (h2 e he hb)
 ·have:listed.getD j false=true:=by simpa only [getD_set_ne false (Ne.symm hji)] using hl
  exact getD_set_true (hc j oj hj this e he hb)
def nW {listed:Array Bool} (hok:HOk ops'.toList hs) (hsz:listed.size=ops'.size) (hr:Region.ready .any ops' listed=[]):∀i,i<ops'.size→listed.getD i false=true:=by
 intro i
 induction i using Nat.strongRecOn with
 | _ i ih=>
   intro hi
   cases hl:listed.getD i false with
   | true=>rfl
   | false=>
     have:i∈Region.ready .any ops' listed:=by
      refine mem_ready.2 ⟨?_,ops'[i],Array.getElem?_eq_getElem hi,fun e he hb=>?_⟩
      ·have h1:i<listed.size:=by omega
       simp [h1] at hl ⊢
       exact hl
      ·have h1:=hok.back i ops'[i] (by rw [Array.getElem?_toList];exact Array.getElem?_eq_getElem hi) e he hb
       exact ih e.on h1 (by omega)
     rw [hr] at this
     cases this
def IC {l:List Oper} {i:Nat} {o:Oper} (h:l[i]?=some o) {t:Nat} (ht:JK t (bA l)=false):JK t o.dst.toList=false:=by
 cases hd:o.dst with
 | none=>rfl
 | some s=>
   cases hb:JK t [s] with
   | false=>exact hb
   | true=>
     have:JK t (bA l)=true:=by
      rw [Hg] at hb ⊢
      have e:t=s:=by simpa using hb
      subst e
      exact List.mem_filterMap.2 ⟨o,List.mem_of_getElem? h,hd⟩
     rw [this] at ht;cases ht
def E9 (hT:Uv P G.tab) (hF:AllOk P G) (rd:Option Nat) (m:Nat) (T:Text G ops'.toList hs st0 trs (fJ hs none))
 {a0:Act} (hq:∀a' w' nm',Rel G.n w0 Z0 (JX (fun _=>true) 0 trs st0) a' w' nm'→KeepT (bA ops'.toList) a0 a'→Q .normal a' w'):∀(fuel:Nat) (listed:Array Bool) (a:Act) (w:World) (nm:JY),
 listed.size=ops'.size→left listed=fuel→dF ops'.toList (fun i=>listed.getD i false)→Rel G.n w0 Z0 (JX (fun i=>listed.getD i false) 0 trs st0) a w nm→KeepT (bA ops'.toList) a0 a →
 wpAnyIn (Fr rd) m P .any ops' Q fuel listed a w:=by
 have fin:∀(listed:Array Bool) (a:Act) (w:World) (nm:JY),(∀i,i<ops'.size→listed.getD i false=true)→Rel G.n w0 Z0 (JX (fun i=>listed.getD i false) 0 trs st0) a w nm→KeepT (bA ops'.toList) a0 a→Q .normal a w:=by
  intro listed a w nm h1 h2 h3
  refine hq a w nm ?_ h3
  rwa [cF (S':=fun _=>true) (fun k hk=>by
   rw [zv]
   exact h1 k (by rw [T.len] at hk;simpa using hk))] at h2
 intro fuel
 induction fuel with
 | zero=>
   intro listed a w nm hsz hf hc hrel hkt
   have hall:∀i,i<ops'.size→listed.getD i false=true:=fun i hi=>vU hf (by omega)
   refine ⟨?_,fin listed a w nm hall hrel hkt⟩
   cases hr:Region.ready .any ops' listed with
   | nil=>rfl
   | cons i l=>
     have hi:i∈Region.ready .any ops' listed:=by rw [hr];simp
     obtain ⟨h1,o,ho,_⟩:=mem_ready.1 hi
     have hlt:i<ops'.size:=(Array.getElem?_eq_some_iff.1 ho).1
     have h2:=hall i hlt
     have h3:i<listed.size:=by omega
     simp [h3] at h1 h2
     rw [h1] at h2;cases h2
 | succ fuel ih=>
   intro listed a w nm hsz hf hc hrel hkt
   refine ⟨fun hr=>fin listed a w nm (nW T.hok hsz hr) hrel hkt,fun i hi=>?_⟩
   obtain ⟨h1,o,ho,h2⟩:=mem_ready.1 hi
   have hlt:i<ops'.size:=(Array.getElem?_eq_some_iff.1 ho).1
   have ho':ops'.toList[i]?=some o:=by rw [Array.getElem?_toList];exact ho
   have hh:∃h,hs[i]?=some h:=⟨_,Z7 (by rw [T.hok.len];simpa using hlt)⟩
   have ht:∃t,trs[i]?=some t:=⟨_,Z7 (by rw [T.len];simpa using hlt)⟩
   obtain ⟨h,hh⟩:=hh
   obtain ⟨t,ht⟩:=ht
   have hm:listed.getD i false=false:=by
    have h3:i<listed.size:=by omega
    simp [h3] at h1 ⊢
    exact h1
   have hstep:=T.step_at (S:=fun i=>listed.getD i false) hc ho' hh ht hm rfl h2
   have:=fD (P:=P) (Q:=Q) (K:=wpAnyIn (Fr rd) m P .any ops' Q fuel (listed.setIfInBounds i true)) (gs:=[]) hT hF hrel hstep (fun st' a' w' nm' h' hk' hput=>by
    simp only [zd] at hk'
    subst hk'
    refine ih _ a' w' nm' (by simpa using hsz) ?_ (oZ hc hi) ?_ (hkt.trans fun t ht=>hput t (IC ho' ht))
    ·have:=yY h1
     omega
    ·rwa [cF (S':=fun k=>listed.getD k false||decide (k=i)) (fun k hk=>by
      rw [zv]
      by_cases hki:k=i
      ·subst hki
       have h3:k<listed.size:=by omega
       simp [h3]
      ·rw [getD_set_ne false (Ne.symm hki)];simp [hki])]) (fun _ _ _ _ _ _ _ hk'=>by cases hk') rd m
   unfold wpOpIn
   rw [ho]
   exact this
def Rel.sub (h:Rel n w0 Z0 st a w nm) {st2:St} (hs:∀t d,look st2.mj t=some d→look st.mj t=some d) (ho:∀id ob,look st2.sj id=some ob→look st.sj id=some ob):Rel n w0 Z0 st2 a w nm:=by
 have hz:Kept w w (Zc w0 Z0 nm st.sj w) (Zc w0 Z0 nm st2.sj w):=fun b hb=>⟨sD (fun id ob h1 h2=>⟨ob,ho _ _ h1,h2⟩) hb,rfl⟩
 have hat:∀x,AtOk nm nm st.sj st2.sj x:=fun x id _=>⟨fun ver fz e t xs h1 _=>⟨rfl,fz,xs,ho _ _ h1,rfl⟩,fun cs h1=>⟨rfl,cs,ho _ _ h1⟩,fun f y z h1=>⟨rfl,f,y,z,ho _ _ h1⟩⟩
 refine ⟨h.defk hz,h.size,fun t d ht=>?_,fun id ob h1=>?_,fun id ob b h1 hb=>h.new id ob b (ho _ _ h1) hb,fun id id' ob ob' b h1 h2=>h.inj id id' ob ob' b (ho _ _ h1) (ho _ _ h2),h.same,fun id ob hg h1=>h.given id ob hg (ho _ _ h1),h.glob,h.calm⟩
 ·obtain ⟨v,h1,h2⟩:=h.mj t d (hs _ _ ht)
  refine ⟨v,h1,Uu hz.weak ?_ h2⟩
  cases d<;>simp only [DvOk]<;>first | exact hat _ | exact fun x _=>hat x
 ·refine Hh hz.weak rfl (fun _ _=>rfl) ?_ (h.sj id ob (ho _ _ h1))
  cases ob<;>simp only [ObOk]<;>first | trivial | exact fun x _=>hat x | exact ⟨fun x _=>hat x,fun x _=>hat x⟩
def qW {st0:St}:∀{u:kY} {st:St},(∀p∈u,look st.sj p.1=look st0.sj p.1)→gS u=true→(∀p∈u,tP (look st0.sj p.1) p.2=true)→kO st u=some ⟨st.mj,YR u st.sj⟩
 | [],st,_,_,_=>rfl
 | (id,ob)::r,st,h1,h2,h3=>by
   simp only [gS,ze,zy] at h2
   have hm:YZ st id ob=true:=by
    have q1:=h1 (id,ob) (by simp)
    have q2:=h3 (id,ob) (by simp)
    simp only at q1 q2
    unfold YZ
    rw [q1]
    unfold tP at q2
    split at q2
    ·rename_i e;rw [e]
    ·rename_i e;rw [e];simp only [q2,Bool.true_or]
    ·rename_i e;rw [e]
    ·rename_i e;rw [e]
    ·cases q2
   simp only [kO,hm,zj]
   refine qW (fun p hp=>?_) h2.2 fun p hp=>h3 p (zz _ hp)
   have:=h2.1 p hp
   rw [ke,if_neg]
   ·exact h1 p (zz _ hp)
   ·intro hh
    rw [hh,Jx.2 rfl] at this
    cases this
def vV {α:Type} {id:Nat}:∀{l:List (Nat×α)},(l.all fun p=>!Nat.beq p.1 id)=true→look l id=none
 | [],_=>rfl
 | (s,u)::l,h=>by
   rw [List.all_cons,ze] at h
   simp only [look]
   have h1:Nat.beq s id=false:=by simpa using h.1
   rw [h1]
   exact vV h.2
def oR {pre:List Nat} {sj:List (Nat×Ob)}:∀{l:List Tr} {i:Nat},i6 pre sj i l=true → ∀k t,l[k]?=some t→i+k∉pre → ∀p∈t.upd,look sj p.1=none
 | [],i,_,k,t,h,_=>by simp at h
 | u::l,i,ho,k,t,h,hn=>by
   simp only [i6,ze] at ho
   cases k with
   | zero=>
     simp only [List.getElem?_cons_zero,zd] at h
     subst h
     have h1:=ho.1
     have hn:JK i pre=false:=by
      cases hb:JK i pre with
      | false=>rfl
      | true=>exact absurd (Hg.1 hb) hn
     rw [hn,Bool.false_or] at h1
     exact fun p hp=>by simpa using zy.1 h1 p hp
   | succ k=>exact oR ho.2 k t (by simpa using h) (by rwa [show i+1+k=i+(k+1) by omega])
def pX (ks:List Nat) (tr:List Tr) (s:Nat):Bool:=JK s ks&&tr.all fun t=>match t.dst with | some s'=>!Nat.beq s' s | none=>true
def l6 {ks:List Nat} {tr:List Tr} {p:Nat×Dv} {r:List (Nat×Dv)}:Nf ks tr (p::r)=bif pX ks tr p.1 then p::Nf ks tr r else Nf ks tr r:=rfl
def eF {ks:List Nat} {tr:List Tr} {s:Nat} (h:pX ks tr s=false):∀l:List (Nat×Dv),look (Nf ks tr l) s=none
 | []=>rfl
 | q::l=>by
   rw [l6]
   cases hq:pX ks tr q.1 with
   | false=>rw [zk];exact eF h l
   | true=>
     rw [zj,look]
     cases hb:Nat.beq q.1 s with
     | false=>exact eF h l
     | true=>rw [Jx.1 hb,h] at hq;cases hq
def eE {ks:List Nat} {tr:List Tr} {s:Nat} {d:Dv}:∀{l:List (Nat×Dv)},look (Nf ks tr l) s=some d→look l s=some d ∧ ∀t∈tr,t.dst≠some s
 | [],h=>by simp [Nf,look] at h
 | p::r,h=>by
   cases hk:pX ks tr s with
   | false=>rw [eF hk] at h;cases h
   | true=>
     refine ⟨?_,fun t ht he=>?_⟩
     ·rw [l6] at h
      rw [look]
      cases hb:Nat.beq p.1 s with
      | true=>
        rw [Jx.1 hb,hk,zj,look,hb,zj] at h
        rw [zj];exact h
      | false=>
        rw [zk]
        cases hc:pX ks tr p.1 with
        | true=>rw [hc,zj,look,hb,zk] at h;exact (eE h).1
        | false=>rw [hc,zk] at h;exact (eE h).1
     ·unfold pX at hk
      rw [ze] at hk
      have:=zy.1 hk.2 t ht
      rw [he] at this
      have h2:Nat.beq s s=true:=Jx.2 rfl
      simp [h2] at this
def K3 {ks:List Nat} {S:Nat→Bool} {m:Nat} {x:At} {u:kY} (hpre:∀k∈Hs hs m,S k=true) (hok:p9 hs m st0 trs x u=true) :
 kO (JX S 0 trs st0) u=some ⟨(JX S 0 trs st0).mj,YR u (JX S 0 trs st0).sj⟩ ∧
 thrown ⟨(JX S 0 trs st0).mj,YR u (JX S 0 trs st0).sj⟩ x=some ⟨(JX S 0 trs st0).mj,YE Vu (.clo 0 [] [x]) (YR u (JX S 0 trs st0).sj)⟩ ∧
 (∀id ob,look (qA ks hs m trs st0 x u).sj id=some ob→look (YE Vu (.clo 0 [] [x]) (YR u (JX S 0 trs st0).sj)) id=some ob) ∧
 ∀t d,look (qA ks hs m trs st0 x u).mj t=some d→look (JX S 0 trs st0).mj t=some d:=by
 unfold p9 at hok
 simp only [ze] at hok
 obtain ⟨⟨⟨⟨⟨q1,q2⟩,q6⟩,q3⟩,q4⟩,q5⟩:=hok
 have q4':∀p∈u,tP (look (cP hs m trs st0).sj p.1) p.2=true∧Nat.beq p.1 Vu=false∧p.2.fj Vu=false:=fun p hp=>by
  have:=zy.1 q4 p hp
  simp only [ze,Z3] at this
  exact ⟨this.1.1,this.1.2,this.2⟩
 have old:∀{id ob},look (cP hs m trs st0).sj id=some ob→look (JX S 0 trs st0).sj id=look (cP hs m trs st0).sj id:=fun {id ob} he=>by
  unfold cP
  refine oC rfl fun k t ob' h1 h2=>?_
  rw [zv]
  by_cases hk:k∈Hs hs m
  ·rw [hpre k hk,Hg.2 hk]
  ·have:=oR q6 k t h1 (by rwa [zv]) _ h2
   simp only at this
   rw [he] at this
   cases this
 have hu:∀p∈u,∃ob,look (cP hs m trs st0).sj p.1=some ob:=fun p hp=>by
  cases he:look (cP hs m trs st0).sj p.1 with
  | some ob=>exact ⟨ob,rfl⟩
  | none=>
    have:=(q4' p hp).1
    rw [he] at this
    cases this
 refine ⟨qW (st0:=cP hs m trs st0) (fun p hp=>?_) q3 fun p hp=>(q4' p hp).1,?_,fun id ob hl=>?_,fun t d hl=>?_⟩
 ·obtain ⟨ob,he⟩:=hu p hp
  exact old he
 ·unfold St.free at q1
  rw [ze] at q1
  obtain ⟨f1,f2⟩:=fH (S:=S) (i:=0) (trs:=trs) q1.1 q1.2 (fun k t h1 h2=>by
   have h3:=zy.1 q2 t (List.mem_of_getElem? h1)
   simp only [Tr.noMention,ze] at h3
   refine ⟨fun s d hd=>?_,fun q hq=>?_⟩
   ·rw [hd] at h3;exact h3.1
   ·exact zy.1 h3.2 q hq)
  have f3:=dK f2 (u:=u) (fun p hp=>by
   obtain ⟨_,g1,g2⟩:=q4' p hp
   simp only [g1,g2,Bool.not_false,Bool.and_self])
  have hno:look (YR u (JX S 0 trs st0).sj) Vu=none:=vV (zy.2 fun p hp=>by
   have:=zy.1 f3 p hp
   rw [ze] at this
   exact this.1)
  unfold Go.Ql.thrown YZ St.free
  simp only [hno]
  rw [f1,f3]
  have e1:Nat.blt Vu eB=true:=rfl
  rw [e1]
  simp only [Bool.and_self,Bool.true_and]
  rw [q5]
  rfl
 ·unfold qA at hl
  simp only [ke] at hl ⊢
  by_cases hp:Vu=id
  ·rw [if_pos hp] at hl ⊢;exact hl
  ·rw [if_neg hp] at hl ⊢
   cases he:look (cP hs m trs st0).sj id with
   | none=>
     rw [iU (fun p hp hh=>by
      obtain ⟨ob',h1⟩:=hu p hp
      rw [hh,he] at h1
      cases h1),he] at hl
     cases hl
   | some ob'=>
     rw [lN (l':=(cP hs m trs st0).sj) (old he)]
     exact hl
 ·obtain ⟨g1,g2⟩:=eE hl
  rw [mL (S':=fun _=>false) (st':=st0) rfl (fun k t' h1 h2=>absurd h2 (g2 t' (List.mem_of_getElem? h1))),gE (fun _ _=>rfl)]
  exact g1
def FA (hT:Uv P G.tab) (hF:AllOk P G) (rd:Option Nat) (m:Nat) {q:Pm} (T:Text G ops'.toList hs st0 trs (fJ hs (some q)))
 {oq:Oper} {hq:Hint} (g1:ops'.toList[q.1]?=some oq) (g2:hs[q.1]?=some hq) (g3:PanT G ops'.toList oq hq (JX (fun k=>decide (k<q.1)) 0 trs st0) q.2.1 q.2.2) (hok:p9 hs q.1 st0 trs q.2.1 q.2.2=true)
 {ks:List Nat} (hQ:∀a' w' nm' v,Rel G.n w0 Z0 (qA ks hs q.1 trs st0 q.2.1 q.2.2) a' w' nm'→nm' Vu=.func (.func 0) #[] #[v]→Q (.panic [{ v,recovered:=false }]) a' w'):∀(fuel:Nat) (listed:Array Bool) (a:Act) (w:World) (nm:JY),
 listed.size=ops'.size→left listed=fuel→dF ops'.toList (fun i=>listed.getD i false)→listed.getD q.1 false=false→Rel G.n w0 Z0 (JX (fun i=>listed.getD i false) 0 trs st0) a w nm →
 wpAnyIn (Fr rd) m P .any ops' Q fuel listed a w:=by
 have hqlt:q.1<ops'.size:=by
  have:=(Z6.1 g1).1
  simpa using this
 intro fuel
 induction fuel with
 | zero=>
   intro listed a w nm hsz hf hc hno hrel
   have:=vU hf (i:=q.1) (by omega)
   rw [hno] at this
   cases this
 | succ fuel ih=>
   intro listed a w nm hsz hf hc hno hrel
   refine ⟨fun hr=>?_,fun i hi=>?_⟩
   ·have:=nW T.hok hsz hr q.1 hqlt
    rw [hno] at this
    cases this
   obtain ⟨h1,o,ho,h2⟩:=mem_ready.1 hi
   have hlt:i<ops'.size:=(Array.getElem?_eq_some_iff.1 ho).1
   have ho':ops'.toList[i]?=some o:=by rw [Array.getElem?_toList];exact ho
   have hh:∃h,hs[i]?=some h:=⟨_,Z7 (by rw [T.hok.len];simpa using hlt)⟩
   have ht:∃t,trs[i]?=some t:=⟨_,Z7 (by rw [T.len];simpa using hlt)⟩
   obtain ⟨h,hh⟩:=hh
   obtain ⟨t,ht⟩:=ht
   have hm:listed.getD i false=false:=by
    have h3:i<listed.size:=by omega
    simp [h3] at h1 ⊢
    exact h1
   by_cases hiq:i=q.1
   ·subst hiq
    rw [g1] at ho';cases ho'
    rw [g2] at hh;cases hh
    obtain ⟨slot,obj,hext⟩:=T.sees (S:=fun i=>listed.getD i false) hc g1 g2 hm h2
    have hpre:∀k∈Hs hs q.1,(fun i=>listed.getD i false) k=true:=fun k hk=>by
     obtain ⟨_,o2,p1,e,p2,p3,p4⟩:=T.hok.pre q.1 k hk
     rw [g1] at p1;cases p1
     have p5:=h2 e p2 p3
     rcases p4 with p4 | p4
     ·rw [←p4];exact p5
     ·exact T.hok.pre_in hc e.on k p5 p4
    obtain ⟨l1,l2,l3,l4⟩:=K3 (ks:=ks) (S:=fun i=>listed.getD i false) hpre hok
    obtain ⟨hg,ma,ds,x,u,σ,y,v,hF2,hy,hpn,hu⟩:=g3
    obtain ⟨k1,k2,k3⟩:=hF2 hext
    have run:pC G [] oq (JX (fun i=>listed.getD i false) 0 trs st0) (fun _=>none) some=some ⟨(JX (fun i=>listed.getD i false) 0 trs st0).mj,YE Vu (.clo 0 [] [q.2.1]) (YR q.2.2 (JX (fun i=>listed.getD i false) 0 trs st0).sj)⟩:=by
     rw [zY k1]
     unfold nX
     simp only [k2,hy,jc,sel,k3,hpn,zj]
     rw [←hu,l1]
     simp only [l2]
    have hstep:nF G ops'.toList [] oq (JX (fun i=>listed.getD i false) 0 trs st0) (fun _=>none) some=some ⟨(JX (fun i=>listed.getD i false) 0 trs st0).mj,YE Vu (.clo 0 [] [q.2.1]) (YR q.2.2 (JX (fun i=>listed.getD i false) 0 trs st0).sj)⟩:=by
     rw [AA]
     rcases hg with hg | ⟨j,want,g,e1,e2,e3,e4⟩
     ·rw [hg]
      exact run
     ·rw [e1]
      rcases e4 with ⟨b,e4,e5⟩ | ⟨_,e5⟩
      ·rw [←slot g (.inl e3)] at e4
       simp only [e2,e4,e5,br]
       exact run
      ·cases e5
    have:=fD (P:=P) (Q:=Q) (K:=wpAnyIn (Fr rd) m P .any ops' Q fuel (listed.setIfInBounds q.1 true)) (gs:=[]) hT hF hrel hstep (fun _ _ _ _ _ hk'=>by cases hk') (fun st' a' w' nm' v' h' hv hk'=>by
     simp only [zd] at hk'
     subst hk'
     exact hQ a' w' nm' v' (h'.sub l4 l3) hv) rd m
    unfold wpOpIn
    rw [ho]
    exact this
   ·have hlive:fJ hs (some q) i=true:=by
     have e1:Nat.beq i q.1=false:=Yi.2 hiq
     simp only [fJ,e1,Bool.not_false,Bool.true_and,Z3]
     cases hb:JK q.1 (Hs hs i) with
     | false=>rfl
     | true=>
       obtain ⟨_,o2,p1,e,p2,p3,p4⟩:=T.hok.pre i q.1 (Hg.1 hb)
       rw [ho'] at p1;cases p1
       have p5:=h2 e p2 p3
       rcases p4 with p4 | p4
       ·rw [p4,hno] at p5;cases p5
       ·rw [T.hok.pre_in hc e.on q.1 p5 p4] at hno;cases hno
    have hstep:=T.step_at (S:=fun i=>listed.getD i false) hc ho' hh ht hm hlive h2
    have:=fD (P:=P) (Q:=Q) (K:=wpAnyIn (Fr rd) m P .any ops' Q fuel (listed.setIfInBounds i true)) (gs:=[]) hT hF hrel hstep (fun st' a' w' nm' h' hk' _=>by
     simp only [zd] at hk'
     subst hk'
     refine ih _ a' w' nm' (by simpa using hsz) ?_ (oZ hc hi) ?_ ?_
     ·have:=yY h1
      omega
     ·rw [getD_set_ne false hiq];exact hno
     ·rwa [cF (S':=fun k=>listed.getD k false||decide (k=i)) (fun k hk=>by
       rw [zv]
       by_cases hki:k=i
       ·subst hki
        have h3:k<listed.size:=by omega
        simp [h3]
       ·rw [getD_set_ne false (Ne.symm hki)];simp [hki])]) (fun _ _ _ _ _ _ _ hk'=>by cases hk') rd m
    unfold wpOpIn
    rw [ho]
    exact this
def Same.drawn' (w:World) (n:Nat):Same w { w with drawn:=n }:=⟨rfl,rfl,rfl,zx _,fun _ _=>rfl⟩
def o7 (m j:Nat):(Array.replicate m false).getD j false=false:=by
 rcases Nat.lt_or_ge j m with h | h
 ·simp [h]
 ·simp [h]
def StepsT.pan {q:Pm} {ops:List Oper} (h:StepsT G ops 0 none (ops.zip hs) st0 trs (some q)) (hok:HOk ops hs) :
 ∃o hi,ops[q.1]?=some o∧hs[q.1]?=some hi∧PanT G ops o hi (JX (fun k=>decide (k<q.1)) 0 trs st0) q.2.1 q.2.2:=by
 obtain ⟨h1,h2⟩:=StepsT.at (fun q hq=>by cases hq) h
 have hlt:q.1<trs.length:=by
  have gen:∀{l:List (Oper×Hint)} {i:Nat} {st:St} {trs:List Tr},StepsT G ops i none l st trs (some q)→q.1<i+trs.length:=by
   intro l
   induction l with
   | nil=>intro i st trs h;cases h.2
   | cons p l ih=>
     intro i st trs h
     obtain ⟨t,r,rfl,h | h | ⟨_,_,a,u,_,h⟩⟩:=h
     ·have:=ih h.2.2;simp only [zg];omega
     ·cases h.1
     ·have:=StepsT.stays h
      simp only [zd] at this
      rw [this]
      simp only [zg];omega
  have:=gen h
  omega
 have hl1:q.1<ops.length:=by rw [h1,List.length_zip] at hlt;omega
 have hl2:q.1<hs.length:=by rw [hok.len];exact hl1
 have e1:ops[q.1]?=some ops[q.1]:=Z7 hl1
 have e2:hs[q.1]?=some hs[q.1]:=Z7 hl2
 have:=h2 q.1 _ _ trs[q.1] (by rw [List.getElem?_zip_eq_some];exact ⟨e1,e2⟩) (Z7 hlt)
 rw [zv] at this
 rcases this with this | ⟨q',g1,g2,_⟩ | ⟨a,u,g1,_,g3⟩
 ·exact absurd rfl (this.2 q rfl).1
 ·simp only [zd] at g1
  subst g1
  omega
 ·simp only [zd] at g1
  have ea:q.2.1=a:=by rw [g1]
  have eu:q.2.2=u:=by rw [g1]
  exact ⟨_,_,e1,e2,by rw [ea,eu];exact g3⟩
def AO {ks:List Nat} (hT:Uv P G.tab) (hF:AllOk P G) (hm:P.follows .mixedOrders=true) {id:Nat} (hok:pR ops'.toList hs=true) {ρ:Type} {gs:List Nat} {k kp:St→Option ρ} {r:ρ} {nm:JY}
 (h:Rel G.n w0 Z0 st0 a w nm) (he:Nt G ops'.toList gs (ops'.toList.zip hs) st0 [] none (fun pm st' tr=>bif bD hs st0 tr 0 tr then (match pm with
  | none=>k st'
  | some q=>bif p9 hs q.1 st0 tr q.2.1 q.2.2 then kp (qA ks hs q.1 tr st0 q.2.1 q.2.2) else none) else none)=some r)
 (hk:∀st' a' w' nm',Rel G.n w0 Z0 st' a' w' nm'→k st'=some r→KeepT (bA ops'.toList) a a'→Q .normal a' w')
 (hp:∀st' a' w' nm' v,Rel G.n w0 Z0 st' a' w' nm'→nm' Vu=.func (.func 0) #[] #[v]→kp st'=some r→Q (.panic [{ v,recovered:=false }]) a' w') (rd:Option Nat) (m:Nat):(Code.region id ops' true).wpIn (Fr rd) m P Q a w:=by
 obtain ⟨trs,pm,h1,h2⟩:=qS he
 rw [List.nil_append] at h2
 have h1:StepsT G ops'.toList 0 none (ops'.toList.zip hs) st0 trs pm:=h1
 cases hc:bD hs st0 trs 0 trs with
 | false=>rw [hc] at h2;cases h2
 | true=>
   rw [hc] at h2
   simp only [zj] at h2
   have hclosed:dF ops'.toList fun i=>(Array.replicate ops'.size false).getD i false:=by
    intro j o _ hl
    simp only [o7] at hl
    cases hl
   have hrel0:∀k:Nat,Rel G.n w0 Z0 (JX (fun i=>(Array.replicate ops'.size false).getD i false) 0 trs st0) a { w with drawn:=k } nm:=fun k=>by
    rw [gE (fun k _=>o7 _ _)]
    exact h.grow (Same.drawn' w _)
   cases pm with
   | none=>
     have T:=Text.of (mN hok) h1 hc
     refine wpIn_region_any hm (E9 hT hF rd m T (a0:=a) (fun a' w' nm' h' hkt=>hk _ a' w' nm' h' h2 hkt) _ _ _ _ nm (by simp) (by simp [left]) hclosed (hrel0 _) (KeepT.refl _ _))
   | some q=>
     simp only at h2
     cases hpo:p9 hs q.1 st0 trs q.2.1 q.2.2 with
     | false=>rw [hpo] at h2;cases h2
     | true=>
       rw [hpo] at h2
       have T:=Text.of (mN hok) h1 hc
       obtain ⟨o,hi,g1,g2,g3⟩:=StepsT.pan h1 (mN hok)
       refine wpIn_region_any hm (FA hT hF rd m T g1 g2 g3 hpo (fun a' w' nm' v h' hv=>hp _ a' w' nm' v h' hv h2) _ _ _ _ nm (by simp) (by simp [left]) hclosed (o7 _ _) (hrel0 _))
end
end Go.Ql
end

section
namespace Go.Ql
section
variable [GInv] {P:Program} {G:Env} {n:Nat} {w0 w w' W:World} {Z0:Bs} {Z Z':Nat→Prop} {st st1 st2:St} {a a':Act} {nm nm':JY}
def Rel.turn (h:Rel n w0 Z0 st a w nm) {r:Nat} {o o':Obj} (hr:w.heap[r]?=some o) (ho:o.isCells=false) (h0:w0.heap.size≤r) (hno:∀id ob,look st.sj id=some ob→ob ≠ .gone→kV (nm id)≠some r)
 (hd:∃l,a.defers=l++Z0.df∧Marks w0 (w.putObj r o') (Zc w0 Z0 nm st.sj (w.putObj r o')) l):Rel n w0 Z0 st a (w.putObj r o') nm:=by
 have hsz:(w.putObj r o').heap.size=w.heap.size:=by simp [World.putObj]
 have hbl:∀b,b≠r→(w.putObj r o').heap[b]?=w.heap[b]?:=fun b hb=>World.putObj_heap_other hb
 have hk:KeptW w (w.putObj r o') (Zc w0 Z0 nm st.sj w) (Zc w0 Z0 nm st.sj (w.putObj r o')):=by
  rintro b ⟨h1,h2,h3⟩
  refine ⟨⟨by rw [hsz];exact h1,h2,h3⟩,fun q u hu=>?_⟩
  by_cases hb:b=r
  ·subst hb
   obtain ⟨o2,e1,e2⟩:=cells_of_cell hu
   have e1:w.heap[b]?=some o2:=e1
   rw [hr] at e1;cases e1;rw [ho] at e2;cases e2
  ·exact n6 (hbl b hb) q u hu
 refine ⟨hd,h.size,fun t d ht=>?_,fun id ob hl=>?_,fun id ob b hl hb=>?_,h.inj,⟨h.same.os,h.same.tape,h.same.output,by rw [hsz];exact h.same.size,fun b hb hm=>?_⟩,h.given,h.glob,h.calm⟩
 ·obtain ⟨v,h1,h2⟩:=h.mj t d ht
  exact ⟨v,h1,Uu hk (DvOk.refl ..) h2⟩
 ·by_cases hg:ob=.gone
  ·subst hg
   trivial
  ·exact Hh hk rfl (fun b hb=>hbl b (fun e=>hno id ob hl hg (by rw [←e];exact hb))) (ObOk.refl _ _ _) (h.sj id ob hl)
 ·rw [hsz];exact h.new id ob b hl hb
 ·rw [hbl b (by omega)];exact h.same.block b hb hm
def oL {fn:Func} {R:Ending→World→Prop} {u:FrameMode} (hu:u ≠ .run) (hdf:Z0.df=[]) (fin:∀w2,Rel n w0 Z0 st { tmps:=a.tmps,defers:=[] } w2 nm→LeavesIn (Fr none) 0 P fn a.tmps R [] u w2) :
 ∀(ds:List Nat) (w:World),Rel n w0 Z0 st { tmps:=a.tmps,defers:=[] } w nm→ds.Nodup→(∀D:Nat,D∈ds→w0.heap.size≤D∧Zc w0 Z0 nm st.sj w D∧w.heap[D]?=some (Obj.deferred (some []))) →
  LeavesInM (Fr none) 0 P fn a.tmps R (ds.map (fun D=>({ target:=.collected D,args:=#[] }:Deferred))) u w
 | [],w,h,_,_=>fin w h
 | D::ds,w,h,hnd,hD=>by
   obtain ⟨e1,e2,e3⟩:=hD D (by simp)
   rw [List.nodup_cons] at hnd
   have hsz:(w.putObj D (.deferred none)).heap.size=w.heap.size:=by simp [World.putObj]
   have hno:∀id ob,look st.sj id=some ob→ob ≠ .gone→kV (nm id)≠some D:=by
    intro id ob hl hg hb
    by_cases hm:ob.mine=true
    ·exact e2.2.2 ⟨id,ob,hl,hm,hb⟩
    ·cases ob with
     | arr v fz e t xs=>
       rcases (show rdArr w _ (nm id) e t xs from h.sj id _ hl) with ⟨_,cells,h1,_⟩ | ⟨j,k,l,_,b',es,clock,h1,h2,_⟩
       ·rcases h1.2 with ⟨e1,_⟩ | ⟨g,cap,cur,e1,⟨fz2,h2,_⟩,_⟩
        ·rw [e1] at hb;cases hb
        ·rw [e1] at hb;cases hb;rw [h2] at e3;cases e3
       ·rw [h1] at hb;cases hb;rw [h2] at e3;cases e3
     | box=>exact hm rfl
     | clo=>exact hm rfl
     | gone=>exact hg rfl
   refine ⟨hu,.inl ⟨D,_,rfl,run_takeDeferred e3,oL hu hdf fin ds _ (h.turn e3 rfl e1 hno ⟨[],by rw [hdf];rfl,Marks.nil _ _ _⟩) hnd.2 fun D' hD'=>?_⟩⟩
   obtain ⟨f1,f2,f3⟩:=hD D' (by simp [hD'])
   refine ⟨f1,⟨by rw [hsz];exact f2.1,f2.2.1,f2.2.2⟩,?_⟩
   rw [World.putObj_heap_other (fun e=>hnd.1 (by rw [←e];exact hD'))]
   exact f3
def Rel.bare (h:Rel n w0 Z0 st a w nm) (hdf:Z0.df=[]):Rel n w0 Z0 st { tmps:=a.tmps,defers:=[] } w nm:=
 ⟨⟨[],by rw [hdf];rfl,Marks.nil _ _ _⟩,h.size,h.mj,h.sj,h.new,h.inj,h.same,h.given,h.glob,fun _=>hdf.symm⟩
def Rel.leaves {fn:Func} {R:Ending→World→Prop} {u:FrameMode} (h:Rel n w0 Z0 st a w nm) (hdf:Z0.df=[]) (hu:u ≠ .run)
 (fin:∀w2,Rel n w0 Z0 st { tmps:=a.tmps,defers:=[] } w2 nm→LeavesIn (Fr none) 0 P fn a.tmps R [] u w2):LeavesInM (Fr none) 0 P fn a.tmps R a.defers u w:=by
 obtain ⟨l,hl,ds,e1,e2,e3⟩:=h.defers
 rw [hl,hdf,List.append_nil,e1]
 exact oL hu hdf fin ds w (h.bare hdf) e2 e3
end
end Go.Ql
end
