/- Plain laws of images, and of circuits made anew, of all arguments. -/
import Derived.Test.YtjlbeiadpdgchaaPc
import Derived.Test.YtjlbeiadpdgchaaPd
import Derived.Test.YtjlbeiadpdgchaaGa
import Derived.Test.YtjlbeiadpdgchaaWc
set_option linter.all false
section
set_option linter.unusedSectionVars false
set_option linter.unusedVariables false
set_option maxHeartbeats 1000000
namespace Go.Ql
abbrev L3:=List (Int×Int×Bool)
def s0T:L3:=[(0,1,false),(0,2,true)]
def b0T:L3:=[(1,0,false),(2,0,false)]
def s1T:L3:=[(1,0,false),(0,2,true)]
def b1T:L3:=[(0,1,false),(2,0,false)]
def s2T:L3:=[(3,0,false),(0,3,true)]
def b2T:L3:=[(0,1,false),(2,0,false)]
def cT:Cir:=(2,0,[(3,0,[],0,0,[]),(2,0,[0],1,0,[])])
theorem begT:W.jw 2 2=some (2,s0T,b0T,()):=by
 unfold W.jw
 exact jj (YH (n:=3) (r:=((2:Int),s0T,b0T)) (by kernel_rfl)) rfl
theorem holdsT (o:GOp) (h:o.2.2.2.2.2=[]) (bits:List Int):W.jI o bits=some true:=by
 unfold W.jI
 rw [h]
 exact jj (YH (n:=1) (r:=.inr (0:Int)) (by kernel_rfl)) rfl
theorem gate1T:W.jp (3,0,[],0,0,[]) 2 s0T b0T=some (s1T,b1T,2,()):=by
 unfold W.jp
 exact jj (YH (n:=3) (r:=((2:Int),s1T,b1T)) (by kernel_rfl)) rfl
theorem gate2T:W.jp (2,0,[0],1,0,[]) 2 s1T b1T=some (s2T,b2T,2,()):=by
 unfold W.jp
 exact jj (YH (n:=3) (r:=((2:Int),s2T,b2T)) (by kernel_rfl)) rfl
theorem redT:W.jg s2T 2=some s2T:=by
 unfold W.jg
 refine jj (x:=()) (by kernel_rfl) ?_
 have c0:W.jg.c220528 0 0 2 s2T some=some (1,2,s2T):=by
  unfold W.jg.c220528
  refine jj (YH (n:=3) (r:=((0:Int),(2:Int),(0:Int))) (by kernel_rfl)) ?_
  rw [jq (by kernel_rfl)]
  refine jj (x:=s2T) (by kernel_rfl) ?_
  exact jj (YH (n:=3) (r:=((2:Int),(2:Int),(0:Int),s2T)) (by kernel_rfl)) (by kernel_rfl)
 have c1:W.jg.c220528 1 1 2 s2T some=some (1,2,s2T):=by
  unfold W.jg.c220528
  refine jj (YH (n:=3) (r:=((2:Int),(2:Int),(1:Int))) (by kernel_rfl)) ?_
  rw [jN (by kernel_rfl)]
 have c2:W.jg.c220528 1 2 2 s2T some=some (2,2,s2T):=by
  unfold W.jg.c220528
  refine jj (YH (n:=3) (r:=((1:Int),(2:Int),(2:Int))) (by kernel_rfl)) ?_
  rw [jq (by kernel_rfl)]
  refine jj (x:=s2T) (by kernel_rfl) ?_
  exact jj (YH (n:=3) (r:=((2:Int),(2:Int),(2:Int),s2T)) (by kernel_rfl)) (by kernel_rfl)
 have c3:W.jg.c220528 2 3 2 s2T some=some (2,2,s2T):=by
  unfold W.jg.c220528
  refine jj (YH (n:=3) (r:=((2:Int),(2:Int),(3:Int))) (by kernel_rfl)) ?_
  rw [jN (by kernel_rfl)]
 have e:iter (fun s:Int×Int×Int×L3↦W.jg.c100004 (Prod.fst s) (IntKind.i64.wrap ((2:Int)*2)) (Prod.fst (Prod.snd s)) (Prod.fst (Prod.snd (Prod.snd s))) (Prod.snd (Prod.snd (Prod.snd s))) some) ((0:Int),(0:Int),(2:Int),s2T)=some (2,4,2,s2T):=by
  refine Yk (s':=(1,1,2,s2T)) ?_ (Yk (s':=(1,2,2,s2T)) ?_ (Yk (s':=(2,3,2,s2T)) ?_ (Yk (s':=(2,4,2,s2T)) ?_ (Yx ?_))))
  ·unfold W.jg.c100004
   rw [jN (by kernel_rfl)]
   exact jj c0 (by kernel_rfl)
  ·unfold W.jg.c100004
   rw [jN (by kernel_rfl)]
   exact jj c1 (by kernel_rfl)
  ·unfold W.jg.c100004
   rw [jN (by kernel_rfl)]
   exact jj c2 (by kernel_rfl)
  ·unfold W.jg.c100004
   rw [jN (by kernel_rfl)]
   exact jj c3 (by kernel_rfl)
  ·unfold W.jg.c100004
   rw [jq (by kernel_rfl)]
 exact jj e rfl
def t1T:Tx:=[43,88,88]
def t2T:Tx:=[45,90,90]
theorem textsT:W.jr (3,0,false) 2=some t1T∧W.jr (0,3,true) 2=some t2T:=
 ⟨text_pe (n:=2) (by decide) (p:=⟨3,0,false⟩) ⟨by decide,by decide⟩,text_pe (n:=2) (by decide) (p:=⟨0,3,true⟩) ⟨by decide,by decide⟩⟩
theorem runT:W.ji cT 2 []=some ([t1T,t2T],[],0,0,0):=by
 have hw:WCir cT:=⟨by decide,fun o ho=>by
  rcases List.mem_cons.1 ho with rfl | ho
  ·exact ⟨by decide,by decide⟩
  ·rcases List.mem_cons.1 ho with rfl | ho
   ·exact ⟨by decide,by decide⟩
   ·cases ho⟩
 unfold W.ji
 refine jj ((Uv cT hw).trans (congrArg some (show chk cT=(0,0) by decide))) ?_
 rw [jq (by kernel_rfl)]
 refine jj (x:=false) (by kernel_rfl) ?_
 rw [jq (by kernel_rfl)]
 refine jj ((stranger_ok cT (by decide)).trans (congrArg some (show kq 0 cT.2.2=(0,0) by decide))) ?_
 rw [jq (by kernel_rfl)]
 refine jj (show W.ji.c10 2 2 0 some=some (2,s0T,b0T) from jj begT (by kernel_rfl)) ?_
 refine jj (x:=.inr ((0:Int),(2:Int),(2:Int),([]:List Int),s2T,b2T)) (Yk (s':=((0:Int),(1:Int),(2:Int),([]:List Int),s1T,b1T)) ?_ (Yk (s':=((0:Int),(2:Int),(2:Int),([]:List Int),s2T,b2T)) ?_ (Yx ?_))) ?_
 ·unfold W.ji.c100012
  rw [jN (by kernel_rfl)]
  refine jj (x:=.inl ((0:Int),(2:Int),([]:List Int),s1T,b1T)) ?_ (by kernel_rfl)
  unfold W.ji.c253291
  refine jj (x:=((3:Int),(0:Int),[],(0:Int),(0:Int),[])) (by kernel_rfl) (jj (holdsT (3,0,[],0,0,[]) rfl []) ?_)
  rw [jq (by kernel_rfl),jN (by kernel_rfl)]
  exact jj gate1T (by kernel_rfl)
 ·unfold W.ji.c100012
  rw [jN (by kernel_rfl)]
  refine jj (x:=.inl ((0:Int),(2:Int),([]:List Int),s2T,b2T)) ?_ (by kernel_rfl)
  unfold W.ji.c253291
  refine jj (x:=((2:Int),(0:Int),[0],(1:Int),(0:Int),[])) (by kernel_rfl) (jj (holdsT (2,0,[0],1,0,[]) rfl []) ?_)
  rw [jq (by kernel_rfl),jN (by kernel_rfl)]
  exact jj gate2T (by kernel_rfl)
 ·unfold W.ji.c100012
  rw [jq (by kernel_rfl)]
 ·rw [JZ]
  refine jj (show W.ji.c29 2 s2T some=some (s2T,2) from jj redT (by kernel_rfl)) ?_
  refine jj (x:=((2:Int),[t1T,t2T])) (Yk (s':=((1:Int),[t1T])) ?_ (Yk (s':=((2:Int),[t1T,t2T])) ?_ (Yx ?_))) rfl
  ·unfold W.ji.c100030
   rw [jN (by kernel_rfl)]
   refine jj (x:=((3:Int),(0:Int),false)) (by kernel_rfl) ?_
   exact jj (x:=[t1T]) (jj textsT.1 (by kernel_rfl)) (by kernel_rfl)
  ·unfold W.ji.c100030
   rw [jN (by kernel_rfl)]
   refine jj (x:=((0:Int),(3:Int),true)) (by kernel_rfl) ?_
   exact jj (x:=[t1T,t2T]) (jj textsT.2 (by kernel_rfl)) (by kernel_rfl)
  ·unfold W.ji.c100030
   rw [jq (by kernel_rfl)]
theorem begunT:W.Jb=some true:=by
 unfold W.Jb
 refine jj runT ?_
 have h:W.Jb.c2 [t1T,t2T] 0 some=some true:=by
  unfold W.Jb.c2
  rw [jN (by kernel_rfl)]
  exact jj (sameTexts_self [t1T,t2T] (by decide)) rfl
 exact jj h rfl
end Go.Ql
end

section
set_option linter.unusedSectionVars false
set_option linter.unusedVariables false
set_option maxHeartbeats 2000000
namespace Go.Ql
def nrm (a:K):K:=K.mul a (K.conj a)
theorem nrm_zero:nrm K.zero=K.zero:=K.zero_mul _
end Go.Ql
end

section
set_option linter.unusedSectionVars false
set_option linter.unusedVariables false
set_option maxHeartbeats 2000000
namespace Go.Ql
def k8 (a0 a1 a2 a3 a4 a5 a6 a7:Int):K:=⟨(a0:Rat),(a1:Rat),(a2:Rat),(a3:Rat),(a4:Rat),(a5:Rat),(a6:Rat),(a7:Rat)⟩
end Go.Ql
end

section
set_option linter.unusedSectionVars false
set_option linter.unusedVariables false
set_option maxHeartbeats 1000000
namespace Go.Ql
def lK (q:Nat) (a:Lt) (v:KV):KV:=
 if a.1=true then (if a.2=true then pK [] 4 (xK [] (q:Int) (pK [(q:Int)] 8 v)) else xK [] (q:Int) v) else (if a.2=true then pK [(q:Int)] 8 v else v)
theorem xK_nil (q:Int) (v:KV) (y:Nat):xK [] q v y=v (fl q y):=rfl
theorem pK_nil (k:Int) (v:KV) (y:Nat):pK [] k v y=turnZ (v y) k:=rfl
theorem pK_one (q k:Int) (v:KV) (y:Nat):pK [q] k v y=turnZ (v y) (k*bi (y.testBit q.toNat)):=by
 show (if onesB [q] y=true then turnZ (v y) k else v y)=_
 rw [ones1,turn_if]
theorem letter_pau {q:Nat} (hq:q < 12) {p:Pau} (hb:Bare p q) (a:Lt) (v:KV):lK q a (pauK p v)=pauK ⟨tg p.x q a.1,tg p.z q a.2,p.m⟩ v:=by
 have hfl : ∀ y,phP p (fl (q:Int) y)=phP p y:=fun y=>by
  rw [ph_fl p (q:=(q:Int)) hq y,Int.toNat_natCast,hb.1,hb.2]
  simp [eP,bi]
 have hr:=fun y=>ph_at (p:=p) (r:=⟨tg p.x q a.1,tg p.z q a.2,p.m⟩) hq (fun j hj=>tg_ne (Ne.symm hj)) (fun j hj=>tg_ne (Ne.symm hj)) y
 simp only [tg_at,hb.1,hb.2,Bool.false_bne] at hr
 have hxx : ∀ y,y ^^^ tg p.x q a.1=if a.1=true then fl (q:Int) y ^^^ p.x else y ^^^ p.x:=fun y=>xor_tg
 obtain ⟨a,b⟩:=a
 funext y
 unfold pauK
 rw [hr y]
 show lK q (a,b) (fun y=>turnZ (v (y ^^^ p.x)) (phP p y)) y=turnZ (v (y ^^^ tg p.x q a)) _
 rw [hxx]
 cases a <;> cases b
 ·show turnZ (v (y ^^^ p.x)) (phP p y)=_
  rw [if_neg (by decide)]
  apply km
  simp [eP,bi]
 ·show pK [(q:Int)] 8 (fun y=>turnZ (v (y ^^^ p.x)) (phP p y)) y=_
  rw [if_neg (by decide),pK_one,kF]
  apply km
  simp only [Int.toNat_natCast,eP,bi]
  cases y.testBit q <;> simp <;> omega
 ·show xK [] (q:Int) (fun y=>turnZ (v (y ^^^ p.x)) (phP p y)) y=_
  rw [if_pos rfl,xK_nil,hfl]
  apply km
  simp [eP,bi]
 ·show pK [] 4 (xK [] (q:Int) (pK [(q:Int)] 8 (fun y=>turnZ (v (y ^^^ p.x)) (phP p y)))) y=_
  rw [if_pos rfl,pK_nil,xK_nil,pK_one,kF,kF,hfl,fl_bit']
  apply km
  simp only [Int.toNat_natCast,eP,bi,decide_true]
  cases y.testBit q <;> simp <;> omega
theorem pau_none (v:KV):pauK ⟨0,0,false⟩ v=v:=by
 funext y
 unfold pauK phP
 rw [Ug fun j _=>by simp [eP,bi],Nat.xor_zero]
 simp [bi,Yr]
theorem pau_minus (p:Pau) (v:KV):pK [] 8 (pauK ⟨p.x,p.z,false⟩ v)=pauK ⟨p.x,p.z,true⟩ v:=by
 funext y
 rw [pK_nil]
 unfold pauK phP
 rw [kF]
 apply km
 simp only [bi]
 simp
 omega
theorem pu_take {w:Wd} {k:Nat} (hk:k < w.length):pu (w.take (k+1)) false=⟨tg (pu (w.take k) false).x k (w.getD k (false,false)).1,tg (pu (w.take k) false).z k (w.getD k (false,false)).2,false⟩:=by
 refine Pau.ext' (fun j => ?_) (fun j => ?_) rfl
 ·show (pu (w.take (k+1)) false).x.testBit j=(tg _ k _).testBit j
  rw [Uq,pu_x,pu_x]
  simp only [List.getD,List.getElem?_take]
  by_cases h:j < k
  ·rw [if_pos (by omega),if_pos h,decide_eq_false (by omega)];simp
  ·rw [if_neg h]
   by_cases e:k=j
   ·subst e;rw [if_pos (by omega),decide_eq_true rfl];simp
   ·rw [if_neg (by omega),decide_eq_false e];simp
 ·show (pu (w.take (k+1)) false).z.testBit j=(tg _ k _).testBit j
  rw [Uq,pu_z,pu_z]
  simp only [List.getD,List.getElem?_take]
  by_cases h:j < k
  ·rw [if_pos (by omega),if_pos h,decide_eq_false (by omega)];simp
  ·rw [if_neg h]
   by_cases e:k=j
   ·subst e;rw [if_pos (by omega),decide_eq_true rfl];simp
   ·rw [if_neg (by omega),decide_eq_false e];simp
theorem UU {n q:Nat} (h:q < n) (k a:Int) (ha:0≤a):Ok1 (k,a,[],(q:Int),0,[]) n:=
 ⟨by show (0:Int)≤(q:Int)∧(q:Int) < n;omega,ha,fun _ h=>(by cases h),by show 0 < 2 ^ 62;decide,by simp⟩
abbrev AList:=List NumT
theorem on_walk {n:Nat} (hn:1≤n∧n≤12) {w:Wd} (hw:w.length=n) (m:Bool) {l:AList} {v:KV} {t:Nat} (hv:Amps l (2 ^ n) v t) (ht:t≤8000) :
 ∃ r t',t'≤t+40∧W.jG (m,txt w) l=some r∧Amps r (2 ^ n) (pauK (pu w m) v) t':=by
 have h12:2 ^ n≤4096:=p12 hn.2
 unfold W.jG
 obtain ⟨x,h1,h2⟩:=JJ (f:=fun s:AList×Int↦W.jG.c100003 (Prod.fst s) (Prod.snd s) (txt w) some) n
  (fun k s => ∃ r t',s=(r,(k:Int))∧t'≤t+3*k∧Amps r (2 ^ n) (pauK (pu (w.take k) false) v) t') (fun x => ∃ r t',x=(r,(n:Int))∧t'≤t+3*n∧Amps r (2 ^ n) (pauK (pu w false) v) t')
  (by
   rintro k s hk ⟨r,t',rfl,ht',hr⟩
   left
   have hkw:k < w.length:=by omega
   have hB:Bare (pu (w.take k) false) k:=(pu_fit (by rw [List.length_take];omega) false).bare k (Nat.le_refl _)
   have hL:=letter_pau (q:=k) (by omega) hB (w.getD k (false,false)) v
   have hT:=pu_take hkw
   have hm:(pu (w.take k) false).m=false:=rfl
   rw [hm] at hL
   rw [← hT] at hL
   have hidx:idx (txt w) (k:Int)=some (enc (w.getD k (false,false))):=by
    rw [Yd (by rw [YQ];exact hkw)]
    simp [txt,List.getD,List.getElem?_eq_getElem hkw]
   have hc : ∃ r',W.jG.c220501 r (k:Int) (txt w) some=some r' ∧ ∃ t2,t2≤t+3*(k+1)∧Amps r' (2 ^ n) (pauK (pu (w.take (k+1)) false) v) t2:=by
    unfold W.jG.c220501
    rw [hidx,je,← hL]
    generalize hv':pauK (pu (w.take k) false) v=v' at hr
    generalize w.getD k (false,false)=a
    obtain ⟨a,b⟩:=a
    cases a <;> cases b
    ·rw [jq (by rfl),jq (by rfl),jq (by rfl)]
     exact ⟨r,rfl,t',by omega,hr⟩
    ·rw [jq (by rfl),jN (by rfl)]
     obtain ⟨r1,e1,e2⟩:=Vj hr (UU (q:=k) hk 4 8 (by decide)) (by omega) (by omega)
     rw [VM _ _ _ _ _ _ (by decide)] at e2
     exact ⟨r1,jj e1 rfl,t'+1,by omega,e2⟩
    ·rw [jN (by rfl)]
     obtain ⟨r1,e1,e2⟩:=Vj hr (UU (q:=k) hk 2 0 (by decide)) (by omega) (by omega)
     rw [UJ] at e2
     exact ⟨r1,jj e1 rfl,t'+1,by omega,e2⟩
    ·rw [jq (by rfl),jq (by rfl),jN (by rfl)]
     obtain ⟨r1,e1,e2⟩:=Vj hr (UU (q:=k) hk 4 8 (by decide)) (by omega) (by omega)
     obtain ⟨r2,f1,f2⟩:=Vj e2 (UU (q:=k) hk 2 0 (by decide)) (by omega) (by omega)
     obtain ⟨r3,g1,g2⟩:=Vj f2 (UU (q:=0) (by omega) 1 4 (by decide)) (by omega) (by omega)
     rw [VJ _ _ _ _ _ (by decide),UJ,VM _ _ _ _ _ _ (by decide)] at g2
     exact ⟨r3,jj e1 (jj f1 (jj g1 rfl)),t'+1+1+1,by omega,g2⟩
   obtain ⟨r',c1,t2,c2,c3⟩:=hc
   refine ⟨(r',((k+1:Nat):Int)),?_,r',t2,rfl,c2,c3⟩
   unfold W.jG.c100003
   rw [jY (by rw [YQ];omega)]
   refine jj c1 ?_
   rw [js (by omega)]
   rfl)
  (by
   rintro s ⟨r,t',rfl,ht',hr⟩
   refine ⟨(r,(n:Int)),?_,r,t',rfl,ht',by rw [List.take_of_length_le (by omega)] at hr;exact hr⟩
   unfold W.jG.c100003
   rw [jP (by rw [YQ];omega)])
  (s:=(l,(0:Int))) ⟨l,t,rfl,by omega,by
   have:pu (w.take 0) false=⟨0,0,false⟩:=by rw [List.take_zero];rfl
   rw [this,pau_none];exact hv⟩
 obtain ⟨r,t',rfl,ht',hr⟩:=h2
 have hlen:=hv.len
 cases m with
 | false=>exact ⟨r,t',by omega,jj (Vc (by omega)) (jj h1 rfl),hr⟩
 | true=>
   obtain ⟨r1,e1,e2⟩:=Vj hr (UU (q:=0) (by omega) 1 8 (by decide)) (by omega) (by omega)
   rw [VJ _ _ _ _ _ (by decide)] at e2
   have:pK [] 8 (pauK (pu w false) v)=pauK (pu w true) v:=pau_minus (pu w false) v
   rw [this] at e2
   refine ⟨r1,t'+1,by omega,jj (Vc (by omega)) (jj h1 ?_),e2⟩
   exact jj (show W.jG.c257349 r true some=some r1 by unfold W.jG.c257349;rw [jN rfl];exact jj e1 rfl) rfl
theorem texts_walk {n:Nat} (hn:n≤12) {l:AList} {v:KV} {t:Nat} (hv:Amps l (2 ^ n) v t) (ht:t≤9000) :
 ∃ T,W.JO l=some T∧T.length=2 ^ n ∧ ∀ x,x < 2 ^ n→KTxt (v x) (T.getD x []):=by
 have h12:2 ^ n≤4096:=p12 hn
 have hlen:=hv.len
 unfold W.JO
 obtain ⟨x,h1,T,rfl,h2,h3⟩:=JJ (f:=fun s:Int×List Tx↦W.JO.c100003 l (Prod.fst s) (Prod.snd s) some) (2 ^ n)
  (fun k s => ∃ T,s=((k:Int),T)∧T.length=k ∧ ∀ x,x < k→KTxt (v x) (T.getD x [])) (fun x => ∃ T,x=(((2 ^ n:Nat):Int),T)∧T.length=2 ^ n ∧ ∀ x,x < 2 ^ n→KTxt (v x) (T.getD x []))
  (by
   rintro k s hk ⟨T,rfl,e1,e2⟩
   left
   obtain ⟨u,u1,u2⟩:=rtext_ok (hv.at_ k hk) (by omega) (by omega)
   refine ⟨(((k+1:Nat):Int),T++[u]),?_,T++[u],rfl,by simp [e1],fun x hx => ?_⟩
   ·unfold W.JO.c100003
    rw [jY (by omega),idxN (by omega),je]
    refine jj u1 ?_
    refine jj (Vc (n:=T.length+1) (k:=16) (by omega)) ?_
    rw [js (by omega)]
    rfl
   ·by_cases hxk:x < k
    ·rw [List.getD,List.getElem?_append_left (by omega)]
     exact e2 x hxk
    ·have:x=k:=by omega
     subst this
     rw [List.getD,List.getElem?_append_right (by omega),e1,Nat.sub_self]
     exact u2)
  (by
   rintro s ⟨T,rfl,e1,e2⟩
   refine ⟨(((2 ^ n:Nat):Int),T),?_,T,rfl,e1,e2⟩
   unfold W.JO.c100003
   rw [jP (by rw [hlen];omega)])
  (s:=((0:Int),[])) ⟨[],rfl,rfl,fun x hx=>absurd hx (Nat.not_lt_zero _)⟩
 exact ⟨T,jj h1 rfl,h2,h3⟩
theorem texts_one {n:Nat} {v:KV} {T U:List Tx} (h1:T.length=2 ^ n) (h2 : ∀ x,x < 2 ^ n→KTxt (v x) (T.getD x [])) (k1:U.length=2 ^ n) (k2 : ∀ x,x < 2 ^ n→KTxt (v x) (U.getD x [])):T=U:=by
 apply List.ext_getElem (by omega)
 intro x a b
 have e1:=h2 x (by omega)
 have e2:=k2 x (by omega)
 rw [getD_of a] at e1
 rw [getD_of b] at e2
 exact e1.one e2
end Go.Ql
end

section
set_option linter.unusedSectionVars false
set_option linter.unusedVariables false
set_option maxHeartbeats 1000000
namespace Go.Ql
theorem ok1_sto {n:Nat} (hn:n≤12) {o:GOp} (h:StO n o):Ok1 o n:=by
 refine ⟨h.q,h.k.1,fun c hc=>by have:=h.ctl c hc;omega,?_,fun hm=>(h.ctl _ hm).2 rfl⟩
 have:o.2.2.1.length≤1:=by
  rcases h.form with h | h | h | h | h
  ·exact h.2
  ·rw [h.2];exact Nat.zero_le _
  ·rw [h.2.1];exact Nat.zero_le _
  ·rw [h.2.1];exact Nat.le_refl _
  ·rw [h.2];exact Nat.zero_le _
 exact Nat.lt_of_le_of_lt this (by decide)
theorem txP_isP (n:Nat) (q:Pau):isP (txP n q) n=true∧sgn (txP n q)=q.m∧(txP n q).drop 1=txt (wdP n q):=by
 have h:=txt_ok (wdP n q)
 refine ⟨?_,?_,rfl⟩
 ·unfold isP txP
  simp only [List.length_cons,YQ,UZ,decide_true,List.getD_cons_zero,List.drop_succ_cons,List.drop_zero,h,Bool.true_and,Bool.and_true]
  cases q.m <;> rfl
 ·unfold sgn txP
  rw [List.getD_cons_zero]
  cases q.m <;> rfl
end Go.Ql
end

section
namespace Go.Ql
end Go.Ql
end

section
set_option linter.unusedSectionVars false
set_option linter.unusedVariables false
set_option maxHeartbeats 1000000
namespace Go.Ql
def agA (n q:Nat) (p:Pau):List GOp:=clr q n p++[opH q]
def agB (n q:Nat) (p r:Pau):List GOp:=agA n q p++agA n q (gPs (agA n q p) r)
def agC (n q:Nat) (p r:Pau):List GOp:=agB n q p r++mend (gPs (agB n q p r) p).m (opZ q)
def agOps (n q:Nat) (p r:Pau):List GOp:=agC n q p r++mend (gPs (agC n q p r) r).m (opX q)
def again (n:Nat):Nat→Nat→(Nat→Pau)→(Nat→Pau)→List GOp
 | _,0,_,_=>[]
 | q,k+1,f,g=>agOps n q (f q) (g q)++again n (q+1) k (fun j=>gPs (agOps n q (f q) (g q)) (f j)) (fun j=>gPs (agOps n q (f q) (g q)) (g j))
end Go.Ql
end

section
set_option linter.unusedSectionVars false
set_option linter.unusedVariables false
set_option maxHeartbeats 1000000
namespace Go.Ql
end Go.Ql
end

section
set_option linter.unusedSectionVars false
set_option linter.unusedVariables false
set_option maxHeartbeats 1000000
namespace Go.Ql
theorem dig_ne {l:List UInt8} (h:YR l) {c:UInt8} (hc:c∈l):c≠44∧c≠45∧c≠47:=by
 have:=h c hc
 refine ⟨?_,?_,?_⟩ <;> rintro rfl <;> revert this <;> decide
theorem Txt.inj {a b:Int} {l:List UInt8} (h:Txt a l) (k:Txt b l):a=b:=by
 have zero : ∀ {b:Int},b≠0→(∃ D,IsDec D (b.natAbs:Int)∧[48]=(if b < 0 then [45] else [])++D)→False:=by
  rintro b hb ⟨D,h1,h2⟩
  by_cases hn:b < 0
  ·rw [if_pos hn] at h2
   exact absurd (List.cons.inj h2).1 (by decide)
  ·rw [if_neg hn,List.nil_append] at h2
   rw [← h2] at h1
   exact h1.2.2.1 rfl
 rcases h with ⟨h1,h2⟩ | ⟨h1,D,h2,h3⟩ <;> rcases k with ⟨k1,k2⟩ | ⟨k1,E,k2,k3⟩
 ·rw [h1,k1]
 ·exact (zero k1 ⟨E,k2,h2.symm.trans k3⟩).elim
 ·exact (zero h1 ⟨D,h2,k2.symm.trans h3⟩).elim
 ·rw [h3] at k3
  have hd : ∀ {D:List UInt8} {v:Int},IsDec D v → ∀ E,D≠45::E:=by
   intro D v h E e
   have:=dig_ne h.1 (c:=45) (by rw [e];exact List.mem_cons_self ..)
   exact this.2.1 rfl
  by_cases ha:a < 0 <;> by_cases hb:b < 0
  ·rw [if_pos ha,if_pos hb] at k3
   have e:=(List.cons.inj k3).2
   have e:D=E:=e
   have h5:=h2.2.2.2
   have k5:=k2.2.2.2
   rw [e] at h5
   omega
  ·rw [if_pos ha,if_neg hb] at k3
   exact (hd k2 D k3.symm).elim
  ·rw [if_neg ha,if_pos hb] at k3
   exact (hd h2 E k3).elim
  ·rw [if_neg ha,if_neg hb] at k3
   have e:D=E:=k3
   have h5:=h2.2.2.2
   have k5:=k2.2.2.2
   rw [e] at h5
   omega
theorem itoa_one {a b:Int} (h:Go.Lib.itoa a=Go.Lib.itoa b):a=b:=(He a).inj (h ▸ He b)
theorem VA (a:Int) : ∀ c∈Go.Lib.itoa a,c≠44∧c≠47:=by
 intro c hc
 rcases He a with ⟨_,h⟩ | ⟨_,D,h,e⟩
 ·rw [h] at hc
  rw [List.mem_singleton.1 hc];decide
 ·rw [e] at hc
  rcases List.mem_append.1 hc with hc | hc
  ·split at hc
   ·rw [List.mem_singleton.1 hc];decide
   ·cases hc
  ·have:=dig_ne h.1 hc
   exact ⟨this.1,this.2.2⟩
theorem part_last {s:UInt8} : ∀ {A A' B B':List UInt8},(∀ c∈B,c≠s)→(∀ c∈B',c≠s)→A++s::B=A'++s::B'→A=A'∧B=B'
 | [],[],B,B',_,_,h=>⟨rfl,(List.cons.inj h).2⟩
 | [],a::A',B,B',hB,_,h=>by
   have h:=(List.cons.inj h).2
   exact absurd rfl (hB s (by rw [h];simp))
 | a::A,[],B,B',_,hB,h=>by
   have h:=(List.cons.inj h).2
   exact absurd rfl (hB s (by rw [← h];simp))
 | a::A,a'::A',B,B',h1,h2,h=>by
   obtain ⟨e1,e2⟩:=List.cons.inj h
   obtain ⟨f1,f2⟩:=part_last h1 h2 e2
   exact ⟨by rw [e1,f1],f2⟩
theorem body_sep (v:Nat→Int) : ∀ n,∀ c∈bodyT v n,c≠47
 | 0,c,hc=>(VA _ c hc).2
 | n+1,c,hc=>by
   rw [bodyT] at hc
   rcases List.mem_append.1 hc with hc | hc
   ·exact body_sep v n c hc
   ·rcases List.mem_cons.1 hc with rfl | hc
    ·decide
    ·exact (VA _ c hc).2
theorem body_one {v w:Nat→Int} : ∀ {n m:Nat},bodyT v n=bodyT w m→n=m ∧ ∀ i,i≤n→v i=w i
 | 0,0,h=>⟨rfl,fun i hi=>by rw [Nat.le_zero.1 hi];exact itoa_one h⟩
 | 0,m+1,h=>by
   have:(44:UInt8)∈bodyT v 0:=by rw [h,bodyT];simp
   exact absurd rfl ((VA _ _ this).1)
 | n+1,0,h=>by
   have:(44:UInt8)∈bodyT w 0:=by rw [← h,bodyT];simp
   exact absurd rfl ((VA _ _ this).1)
 | n+1,m+1,h=>by
   rw [bodyT,bodyT] at h
   obtain ⟨h1,h2⟩:=part_last (fun c hc=>(VA _ c hc).1) (fun c hc=>(VA _ c hc).1) h
   obtain ⟨e,h3⟩:=body_one h1
   subst e
   refine ⟨rfl,fun i hi => ?_⟩
   by_cases hin:i=n+1
   ·subst hin;exact itoa_one h2
   ·exact h3 i (by omega)
theorem last_zero (v:Nat→Int) : ∀ (n i:Nat),kU v n < i→i < n→v i=0
 | 0,i,_,h=>absurd h (Nat.not_lt_zero _)
 | n+1,i,h1,h2=>by
   rw [kU] at h1
   by_cases hv:v n≠0
   ·rw [if_pos hv] at h1;omega
   ·rw [if_neg hv] at h1
    by_cases e:i=n
    ·subst e;exact Classical.not_not.1 hv
    ·exact last_zero v n i h1 (by omega)
theorem ntext_one {v w:Nat→Int} {e f:Nat} (h:ntext v e=ntext w f):e=f ∧ ∀ i,i < 8→v i=w i:=by
 unfold ntext at h
 have hb:e=f∧bodyT v (kU v 8)=bodyT w (kU w 8):=by
  by_cases he:e=0 <;> by_cases hf:f=0
  ·rw [if_pos he,if_pos hf,List.append_nil,List.append_nil] at h
   exact ⟨by omega,h⟩
  ·rw [if_pos he,if_neg hf,List.append_nil] at h
   have:(47:UInt8)∈bodyT v (kU v 8):=by rw [h];simp
   exact absurd rfl (body_sep _ _ _ this)
  ·rw [if_neg he,if_pos hf,List.append_nil] at h
   have:(47:UInt8)∈bodyT w (kU w 8):=by rw [← h];simp
   exact absurd rfl (body_sep _ _ _ this)
  ·rw [if_neg he,if_neg hf] at h
   obtain ⟨h1,h2⟩:=part_last (fun c hc=>(VA _ c hc).2) (fun c hc=>(VA _ c hc).2) h
   have:=itoa_one h2
   exact ⟨by omega,h1⟩
 obtain ⟨e1,e2⟩:=body_one hb.2
 refine ⟨hb.1,fun i hi => ?_⟩
 by_cases hl:i≤kU v 8
 ·exact e2 i hl
 ·rw [last_zero v 8 i (by omega) hi,last_zero w 8 i (by omega) hi]
theorem KTxt.inj {k k':K} {l:List UInt8} (h:KTxt k l) (g:KTxt k' l):k=k':=by
 obtain ⟨v,e,_,h2,rfl⟩:=h
 obtain ⟨w,f,_,g2,g3⟩:=g
 obtain ⟨rfl,h3⟩:=ntext_one g3
 rw [← h2,← g2]
 unfold kv
 simp only [h3 0 (by decide),h3 1 (by decide),h3 2 (by decide),h3 3 (by decide),h3 4 (by decide),h3 5 (by decide),h3 6 (by decide),h3 7 (by decide)]
end Go.Ql
end

section
set_option linter.unusedSectionVars false
set_option linter.unusedVariables false
set_option maxHeartbeats 1000000
namespace Go.Ql
theorem pw_u64 {q:Nat} (hq:q < 12):IntKind.u64.wrap ((1:Int)*(2:Int) ^ Min.min (Int.toNat (q:Int)) (64:Nat))=((2 ^ q:Nat):Int):=by
 rw [Int.toNat_natCast,Nat.min_eq_left (by omega)]
 have hp:2 ^ q < 2 ^ 12:=Nat.pow_lt_pow_right (by decide) hq
 have h:((1:Int)*(2:Int) ^ q)=((2 ^ q:Nat):Int):=by simp
 rw [h]
 generalize 2 ^ q=y at hp
 rw [VX (by omega)]
theorem pZ_sm {q:Nat} (hq:q < 12):Sm (pZ q):=⟨by show 0 < 4096;decide,(pZ_fit (n:=12) hq).2⟩
end Go.Ql
end

section
set_option linter.unusedSectionVars false
set_option linter.unusedVariables false
set_option maxHeartbeats 1000000
namespace Go.Ql
theorem turnZ_16 (a:K) {k:Int} (h:k % 16=0):turnZ a k=a:=by
 rw [km a (l:=0) (by omega),Yr]
theorem pK_back (l:List Int) (v:KV) (k:Int):pK l ((16 - k) % 16) (pK l k v)=v:=by
 rw [← pK_add]
 funext x
 unfold pK
 rw [turnZ_16 _ (by omega)]
 split <;> rfl
theorem xK_back {l:List Int} {q:Int} (hl:Nn l) (hq:0≤q) (h:q∉l) (v:KV):xK l q (xK l q v)=v:=by
 funext x
 unfold xK
 rw [ones_other hl hq h,fl_fl]
 cases onesB l x <;> rfl
theorem gate_back {n:Nat} {o:GOp} (h:StO n o) (v:KV):gateK (invO o) (gateK o v)=v:=by
 obtain ⟨k,K1,l,q,b,on⟩:=o
 obtain ⟨hq,hc,hk,hf⟩:=h
 simp only at hq hc hk hf
 have hl:Nn l:=fun c hcl=>(hc c hcl).1.1
 have hnl:q∉l:=fun hm=>(hc q hm).2 rfl
 have hk2:0≤(16 - K1) % 16:=by omega
 show gateK (k,(16 - K1) % 16,l,q,b,on) _=v
 rcases hf with ⟨rfl,h1⟩ | ⟨rfl,rfl⟩ | ⟨rfl,rfl,h2⟩ | ⟨rfl,h1,h2⟩ | ⟨rfl,rfl⟩
 ·rw [UJ,UJ];exact xK_back hl hq.1 hnl v
 ·rw [gate_h1,gate_h1];exact hK_hK q v
 ·rw [VM _ _ _ _ _ _ hk2,VM _ _ _ _ _ _ hk.1];exact pK_back _ v K1
 ·rw [VM _ _ _ _ _ _ hk2,VM _ _ _ _ _ _ hk.1];exact pK_back _ v K1
 ·rw [VJ _ _ _ _ _ hk2,VJ _ _ _ _ _ hk.1];exact pK_back _ v K1
theorem gate_lin (o:GOp) (k:Int) (v:KV):gateK o (fun y=>turnZ (v y) k)=fun y=>turnZ (gateK o v y) k:=by
 funext y
 have tk : ∀ (a:K) (m:Nat),K.turn (turnZ a k) m=turnZ (K.turn a m) k:=fun a m=>by
  unfold turnZ
  rw [K.turn_turn,K.turn_turn,Nat.add_comm]
 have tn : ∀ a:K,K.neg (turnZ a k)=turnZ (K.neg a) k:=fun a=>tk a 8
 unfold gateK
 simp only [tk,← Ur,tn,← Hx]
 split
 ·rfl
 ·split
  ·rfl
  ·split
   ·split <;> rfl
   ·split
    ·rfl
    ·split <;> rw [← Hx]
end Go.Ql
end

section
set_option linter.unusedSectionVars false
set_option linter.unusedVariables false
set_option maxHeartbeats 1000000
namespace Go.Ql
theorem Vf (f g:Nat→Int) : ∀ k,sumI (fun j=>f j+g j) k=sumI f k+sumI g k
 | 0=>rfl
 | k+1=>by simp only [sumI];rw [Vf f g k];omega
theorem VF (c:Int) (f:Nat→Int) : ∀ k,sumI (fun j=>c*f j) k=c*sumI f k
 | 0=>by simp [sumI]
 | k+1=>by simp only [sumI];rw [VF c f k,Int.mul_add]
theorem sumI_mod {f:Nat→Int} {m:Int} (hm:0 < m) (h : ∀ j,f j % m=0) : ∀ k,sumI f k % m=0
 | 0=>by simp [sumI]
 | k+1=>by
   rw [sumI]
   exact Int.emod_eq_zero_of_dvd (Int.dvd_add (Int.dvd_of_emod_eq_zero (sumI_mod hm h k)) (Int.dvd_of_emod_eq_zero (h k)))
theorem sumI_par (s:Nat→Bool) : ∀ k,(sumI (fun j=>bi (s j)) k - bi (parB s k)) % 2=0
 | 0=>rfl
 | k+1=>by
   have h:=sumI_par s k
   simp only [sumI,parB]
   generalize sumI (fun j=>bi (s j)) k=u at h ⊢
   generalize parB s k=w at h ⊢
   cases w <;> cases s k <;> simp [bi] at h ⊢ <;> omega
theorem parB_ext {f:Nat→Bool} {n:Nat} (h : ∀ j,n≤j→f j=false) : ∀ {k},n≤k→parB f k=parB f n
 | 0,hk=>by rw [Nat.le_zero.1 hk]
 | k+1,hk=>by
   by_cases e:n=k+1
   ·rw [e]
   ·rw [parB,parB_ext h (by omega),h k (by omega),Bool.bne_false]
theorem UX {n k:Nat} {p r:Pau} (hp:Fit n p) (hk:n≤k):sym k p r=sym n p r:=
 parB_ext (fun j hj=>by
  have:=hp.bare j hj
  rw [this.1,this.2];rfl) hk
def kB (a b c d:Bool):Int:=bi (a && b)+bi (c && d)+2*bi (b && c) - bi ((a != c) && (b != d))
def kP (p r:Pau):Int:=sumI (fun j=>kB (p.x.testBit j) (p.z.testBit j) (r.x.testBit j) (r.z.testBit j)) 12
def mulP (p r:Pau):Pau:=⟨p.x ^^^ r.x,p.z ^^^ r.z,(p.m != r.m) != decide (kP p r % 4=2)⟩
def ph0 (x z y:Nat):Int:=sumI (fun j=>eP (x.testBit j) (z.testBit j) (y.testBit j)) 12
theorem ph_mul (p r:Pau) (y:Nat):(phP r (y ^^^ p.x)+phP p y - (8*bi p.m+8*bi r.m+4*kP p r+ph0 (p.x ^^^ r.x) (p.z ^^^ r.z) y)) % 16=0:=by
 have h : ∀ j,(eP (r.x.testBit j) (r.z.testBit j) ((y ^^^ p.x).testBit j)+eP (p.x.testBit j) (p.z.testBit j) (y.testBit j)+(-4*kB (p.x.testBit j) (p.z.testBit j) (r.x.testBit j) (r.z.testBit j)+(-1)*eP ((p.x ^^^ r.x).testBit j) ((p.z ^^^ r.z).testBit j) (y.testBit j))) % 16=0:=by
  intro j
  rw [Nat.testBit_xor,Nat.testBit_xor,Nat.testBit_xor]
  generalize p.x.testBit j=a
  generalize p.z.testBit j=b
  generalize r.x.testBit j=c
  generalize r.z.testBit j=d
  generalize y.testBit j=e
  cases a <;> cases b <;> cases c <;> cases d <;> cases e <;> rfl
 have h2:=sumI_mod (m:=16) (by decide) h 12
 rw [Vf,Vf,Vf,VF,VF] at h2
 unfold phP kP ph0
 omega
theorem kP_par (p r:Pau):(kP p r - bi (sym 12 p r)) % 2=0:=by
 have h : ∀ j,(kB (p.x.testBit j) (p.z.testBit j) (r.x.testBit j) (r.z.testBit j)+(-1)*bi ((p.x.testBit j && r.z.testBit j) != (p.z.testBit j && r.x.testBit j))) % 2=0:=by
  intro j
  generalize p.x.testBit j=a
  generalize p.z.testBit j=b
  generalize r.x.testBit j=c
  generalize r.z.testBit j=d
  cases a <;> cases b <;> cases c <;> cases d <;> rfl
 have h2:=sumI_mod (m:=2) (by decide) h 12
 rw [Vf,VF] at h2
 have h3:=sumI_par (fun j=>(p.x.testBit j && r.z.testBit j) != (p.z.testBit j && r.x.testBit j)) 12
 unfold kP sym
 omega
theorem kP_swap (p r:Pau):(kP p r - kP r p - 2*bi (sym 12 p r)) % 4=0:=by
 have h : ∀ j,(kB (p.x.testBit j) (p.z.testBit j) (r.x.testBit j) (r.z.testBit j)+((-1)*kB (r.x.testBit j) (r.z.testBit j) (p.x.testBit j) (p.z.testBit j)+(-2)*bi ((p.x.testBit j && r.z.testBit j) != (p.z.testBit j && r.x.testBit j)))) % 4=0:=by
  intro j
  generalize p.x.testBit j=a
  generalize p.z.testBit j=b
  generalize r.x.testBit j=c
  generalize r.z.testBit j=d
  cases a <;> cases b <;> cases c <;> cases d <;> rfl
 have h2:=sumI_mod (m:=4) (by decide) h 12
 rw [Vf,Vf,VF,VF] at h2
 have h3:=sumI_par (fun j=>(p.x.testBit j && r.z.testBit j) != (p.z.testBit j && r.x.testBit j)) 12
 unfold kP sym
 omega
theorem pau_pau (p r:Pau) (v:KV) (y:Nat):pauK p (pauK r v) y=turnZ (v (y ^^^ (p.x ^^^ r.x))) (8*bi p.m+8*bi r.m+4*kP p r+ph0 (p.x ^^^ r.x) (p.z ^^^ r.z) y):=by
 unfold pauK
 rw [kF,Nat.xor_assoc]
 exact km _ (ph_mul p r y)
theorem mul_pau {p r:Pau} (h:sym 12 p r=false) (v:KV):pauK (mulP p r) v=pauK p (pauK r v):=by
 funext y
 rw [pau_pau]
 show turnZ (v (y ^^^ (p.x ^^^ r.x))) (8*bi ((p.m != r.m) != decide (kP p r % 4=2))+ph0 (p.x ^^^ r.x) (p.z ^^^ r.z) y)=_
 apply km
 have h2:=kP_par p r
 rw [h] at h2
 have h3:kP p r % 4=0∨kP p r % 4=2:=by simp [bi] at h2;omega
 rcases h3 with h3 | h3
 ·rw [decide_eq_false (by omega)]
  cases p.m <;> cases r.m <;> simp [bi] <;> omega
 ·rw [decide_eq_true h3]
  cases p.m <;> cases r.m <;> simp [bi] <;> omega
theorem swap_pau (p r:Pau) (v:KV) (y:Nat):pauK p (pauK r v) y=turnZ (pauK r (pauK p v) y) (8*bi (sym 12 p r)):=by
 rw [pau_pau,pau_pau,kF,Nat.xor_comm r.x,Nat.xor_comm r.z]
 apply km
 have:=kP_swap p r
 omega
theorem sym_mul (n:Nat) (p r w:Pau):sym n (mulP p r) w=(sym n p w != sym n r w):=by
 unfold sym mulP
 induction n with
 | zero=>rfl
 | succ k ih=>
   simp only [parB] at ih ⊢
   rw [ih,Nat.testBit_xor,Nat.testBit_xor]
   generalize parB _ k=u
   generalize parB _ k=u'
   generalize p.x.testBit k=a
   generalize p.z.testBit k=b
   generalize r.x.testBit k=c
   generalize r.z.testBit k=d
   generalize w.x.testBit k=e
   generalize w.z.testBit k=f
   cases u <;> cases u' <;> cases a <;> cases b <;> cases c <;> cases d <;> cases e <;> cases f <;> rfl
theorem sym_self (n:Nat) (p:Pau):sym n p p=false:=YU fun j _=>by cases p.x.testBit j <;> cases p.z.testBit j <;> rfl
theorem sym_nil {n:Nat} {p:Pau} (hx:p.x=0) (hz:p.z=0) (r:Pau):sym n p r=false:=YU fun j _=>by rw [hx,hz,Nat.zero_testBit];rfl
theorem sym_xz {n:Nat} {p q:Pau} (hx:p.x=q.x) (hz:p.z=q.z) (r:Pau):sym n p r=sym n q r:=by unfold sym;rw [hx,hz]
theorem mul_fit {n:Nat} {p r:Pau} (hp:Fit n p) (hr:Fit n r):Fit n (mulP p r):=⟨Nat.xor_lt_two_pow hp.1 hr.1,Nat.xor_lt_two_pow hp.2 hr.2⟩
def Fx (p:Pau) (v:KV):Prop:=pauK p v=v
def SomeK (v:KV):Prop:=∃ y,v y≠K.zero
theorem Fx.mul {p r:Pau} {v:KV} (hp:Fx p v) (hr:Fx r v) (h:sym 12 p r=false):Fx (mulP p r) v:=by
 unfold Fx
 rw [mul_pau h,hr,hp]
theorem Fx.comm {p r:Pau} {v:KV} (hp:Fx p v) (hr:Fx r v) (hv:SomeK v):sym 12 p r=false:=by
 obtain ⟨y,hy⟩:=hv
 have h:=swap_pau p r v y
 rw [hr,hp,hr] at h
 cases e:sym 12 p r with
 | false=>rfl
 | true=>
   rw [e] at h
   exact absurd (VC h) hy
theorem pau_triv (m:Bool) (v:KV):pauK ⟨0,0,m⟩ v=fun y=>turnZ (v y) (8*bi m):=by
 funext y
 unfold pauK phP
 rw [Ug fun j _=>by simp [eP,bi],Nat.xor_zero]
 simp
theorem Fx.triv {p:Pau} {v:KV} (hp:Fx p v) (hx:p.x=0) (hz:p.z=0) (hv:SomeK v):p.m=false:=by
 obtain ⟨y,hy⟩:=hv
 obtain ⟨x,z,m⟩:=p
 simp only at hx hz
 subst hx hz
 cases m with
 | false=>rfl
 | true=>
   have h:=congrFun hp y
   rw [pau_triv] at h
   exact absurd (VC h.symm) hy
theorem Fx.same {p r:Pau} {v:KV} (hp:Fx p v) (hr:Fx r v) (hx:p.x=r.x) (hz:p.z=r.z) (hv:SomeK v):p=r:=by
 have h1:sym 12 p r=false:=by rw [sym_xz hx hz];exact sym_self 12 r
 have h2:=(hp.mul hr h1).triv (by show p.x ^^^ r.x=0;rw [hx,Nat.xor_self]) (by show p.z ^^^ r.z=0;rw [hz,Nat.xor_self]) hv
 obtain ⟨y,hy⟩:=hv
 have e:=congrFun (hp.trans hr.symm) y
 have hv2 : ∀ q:Pau,pauK ⟨q.x,q.z,true⟩ v y=turnZ (pauK ⟨q.x,q.z,false⟩ v y) 8:=fun q=>by
  unfold pauK
  rw [kF]
  apply km
  show (8*bi true+_ - (8*bi false+_+8)) % 16=0
  simp [bi]
  omega
 obtain ⟨a,b,m⟩:=p
 obtain ⟨c,d,m'⟩:=r
 simp only at hx hz
 subst hx hz
 have e1:=congrFun hp y
 have e2:=congrFun hr y
 cases m <;> cases m'
 ·rfl
 ·have:=hv2 ⟨a,b,true⟩
  rw [show pauK ⟨a,b,true⟩ v y=v y from e2,show pauK ⟨a,b,false⟩ v y=v y from e1] at this
  exact absurd (VC this) hy
 ·have:=hv2 ⟨a,b,true⟩
  rw [show pauK ⟨a,b,true⟩ v y=v y from e1,show pauK ⟨a,b,false⟩ v y=v y from e2] at this
  exact absurd (VC this) hy
 ·rfl
end Go.Ql
end

section
set_option linter.unusedSectionVars false
set_option linter.unusedVariables false
set_option maxHeartbeats 1000000
namespace Go.Ql
structure Tab (n:Nat) (f g:Nat→Pau) (v:KV):Prop where
 fF : ∀ i,i < n→Fit n (f i)
 gF : ∀ i,i < n→Fit n (g i)
 ff : ∀ i j,i < n→j < n→sym n (f i) (f j)=false
 fg : ∀ i j,i < n→j < n→sym n (f i) (g j)=decide (i=j)
 only : ∀ w,Fit n w→(∀ i,i < n→sym n w (f i)=false∧sym n w (g i)=false)→w.x=0∧w.z=0
 fix : ∀ i,i < n→Fx (f i) v
 some:SomeK v
 far : ∀ y,2 ^ n≤y→v y=K.zero
theorem zero_of {n x:Nat} (hx:x < 2 ^ n) (h : ∀ j,j < n→x.testBit j=false):x=0:=by
 apply Nat.eq_of_testBit_eq
 intro j
 rw [Nat.zero_testBit]
 by_cases hj:j < n
 ·exact h j hj
 ·exact Nat.testBit_lt_two_pow (Nat.lt_of_lt_of_le hx (Nat.pow_le_pow_right (by decide) (by omega)))
theorem ph_Zm {q:Nat} (hq:q < 12) (m:Bool) (y:Nat):phP ⟨0,2 ^ q,m⟩ y=8*bi m+8*bi (y.testBit q):=by
 have h:=ph_Z hq y
 unfold phP pZ at h
 unfold phP
 simp only [bi] at h ⊢
 simp only [Bool.toNat_false] at h
 omega
theorem pau_Zm {q:Nat} (hq:q < 12) (m:Bool) (v:KV) (y:Nat):pauK ⟨0,2 ^ q,m⟩ v y=turnZ (v y) (8*bi m+8*bi (y.testBit q)):=by
 unfold pauK
 rw [ph_Zm hq,Nat.xor_zero]
theorem Tab.begin {n:Nat} (hn:n≤12) {x:Nat} (hx:x < 2 ^ n):Tab n (fun q=>⟨0,2 ^ q,x.testBit q⟩) pX (baK x) where
 fF:=fun i hi=>⟨Nat.two_pow_pos n,Nat.pow_lt_pow_right (by decide) hi⟩
 gF:=fun i hi=>⟨Nat.pow_lt_pow_right (by decide) hi,Nat.two_pow_pos n⟩
 ff:=fun i j hi hj=>by rw [sym_Zl hi];exact Nat.zero_testBit _
 fg:=fun i j hi hj=>by
  rw [sym_Zl hi]
  show (2 ^ j).testBit i=_
  rw [Hy]
  by_cases e:i=j
  ·rw [decide_eq_true e,decide_eq_true e.symm]
  ·rw [decide_eq_false e,decide_eq_false (Ne.symm e)]
 only:=fun w hw h=>⟨zero_of hw.1 fun j hj=>by
  have:=(h j hj).1
  rw [JE,sym_Zl hj] at this
  exact this,zero_of hw.2 fun j hj=>by
  have:=(h j hj).2
  rw [JE] at this
  exact (sym_Xl hj false w).symm.trans this⟩
 fix:=fun i hi=>by
  funext y
  rw [pau_Zm (by omega)]
  unfold baK
  by_cases e:y=x
  ·rw [if_pos e,e]
   rw [turnZ_16]
   cases x.testBit i <;> rfl
  ·rw [if_neg e,Yv]
 some:=⟨x,by
  unfold baK
  rw [if_pos rfl]
  intro h
  exact absurd (congrArg K.c0 h) (by decide)⟩
 far:=baK_far hx
theorem inv_inv {n:Nat} {o:GOp} (h:StO n o):invO (invO o)=o:=by
 obtain ⟨k,K1,r⟩:=o
 have:=h.k
 simp only at this
 show (k,(16 - (16 - K1) % 16) % 16,r)=(k,K1,r)
 congr 2
 omega
theorem gate_nil (o:GOp):gateK o (fun _=>K.zero)=fun _=>K.zero:=by
 have h:=gate_lin o 8 (fun _=>K.zero)
 simp only [Yv] at h
 funext y
 exact VC (congrFun h y)
theorem gP_nil {o:GOp} {w:Pau} (hx:w.x=0) (hz:w.z=0):gP o w=w:=by
 have hb : ∀ j,Bare w j:=fun j=>⟨by rw [hx];exact Nat.zero_testBit _,by rw [hz];exact Nat.zero_testBit _⟩
 exact gP_none (hb _) fun c _=>hb _
theorem gP_fit {n:Nat} {o:GOp} (h:StO n o) {p:Pau} (hp:Fit n p):Fit n (gP o p):=gPs_fit (l:=[o]) (fun r hr=>by rw [List.mem_singleton.1 hr];exact h) hp
theorem Tab.gate {n:Nat} (hn:n≤12) {f g:Nat→Pau} {v:KV} (t:Tab n f g v) {o:GOp} (h:StO n o):Tab n (fun i=>gP o (f i)) (fun i=>gP o (g i)) (gateK o v) where
 fF:=fun i hi=>gP_fit h (t.fF i hi)
 gF:=fun i hi=>gP_fit h (t.gF i hi)
 ff:=fun i j hi hj=>by rw [sym_gP h];exact t.ff i j hi hj
 fg:=fun i j hi hj=>by rw [sym_gP h];exact t.fg i j hi hj
 only:=fun w hw hall=>by
  have e:gP o (gP (invO o) w)=w:=by
   have:=gP_inv (inv_StO h) w
   rw [inv_inv h] at this
   exact this
  have h0:=t.only (gP (invO o) w) (gP_fit (inv_StO h) hw) fun i hi=>by
   have h1:=hall i hi
   rw [← e,sym_gP h,sym_gP h] at h1
   exact h1
  have:w=gP (invO o) w:=by
   conv=>lhs;rw [← e]
   exact gP_nil h0.1 h0.2
  rw [this]
  exact h0
 fix:=fun i hi=>by
  show pauK (gP o (f i)) (gateK o v)=gateK o v
  rw [← gate_pau hn h,t.fix i hi]
 some:=by
  apply Classical.byContradiction
  intro hno
  have hz:gateK o v=fun _=>K.zero:=funext fun y=>Classical.byContradiction fun e=>hno ⟨y,e⟩
  have h1:=gate_back h v
  rw [hz,gate_nil] at h1
  obtain ⟨y,hy⟩:=t.some
  exact hy (congrFun h1 y).symm
 far:=gate_far h t.far
def outB (q:Nat) (b:Bool) (v:KV):KV:=fun y=>if y.testBit q=b then v y else K.zero
theorem out_pau {p:Pau} {q:Nat} (h:p.x.testBit q=false) (b:Bool) (v:KV):pauK p (outB q b v)=outB q b (pauK p v):=by
 funext y
 unfold pauK outB
 rw [Nat.testBit_xor,h,Bool.xor_false]
 split
 ·rfl
 ·exact Yv _
theorem sym_pZ {n q:Nat} (hq:q < n) (p:Pau):sym n p (pZ q)=p.x.testBit q:=by rw [JE];exact sym_Zl hq false p
def mixP (a b:Pau):Pau:=⟨a.x ^^^ b.x,a.z ^^^ b.z,false⟩
theorem UE (n:Nat) (p r w:Pau):sym n (mixP p r) w=(sym n p w != sym n r w):=(sym_xz (q:=mulP p r) rfl rfl w).trans (sym_mul n p r w)
theorem mix_fit {n:Nat} {p r:Pau} (hp:Fit n p) (hr:Fit n r):Fit n (mixP p r):=⟨Nat.xor_lt_two_pow hp.1 hr.1,Nat.xor_lt_two_pow hp.2 hr.2⟩
def mF (n a q:Nat) (b:Bool) (f:Nat→Pau) (i:Nat):Pau:=if i=a then ⟨0,2 ^ q,b⟩ else if sym n (f i) (pZ q)=true then mulP (f i) (f a) else f i
def mG (n a q:Nat) (f g:Nat→Pau) (i:Nat):Pau:=if i=a then f a else if sym n (g i) (pZ q)=true then mixP (g i) (f a) else g i
theorem Hv {n a q i:Nat} {b:Bool} {f:Nat→Pau} (hi:i≠a) (w:Pau):sym n (mF n a q b f i) w=(sym n (f i) w != (sym n (f i) (pZ q) && sym n (f a) w)):=by
 unfold mF
 rw [if_neg hi]
 cases h:sym n (f i) (pZ q) with
 | false=>rw [if_neg (by decide)];simp
 | true=>rw [if_pos rfl,sym_mul];simp
theorem sym_mG {n a q i:Nat} {f g:Nat→Pau} (hi:i≠a) (w:Pau):sym n (mG n a q f g i) w=(sym n (g i) w != (sym n (g i) (pZ q) && sym n (f a) w)):=by
 unfold mG
 rw [if_neg hi]
 cases h:sym n (g i) (pZ q) with
 | false=>rw [if_neg (by decide)];simp
 | true=>rw [if_pos rfl,UE];simp
theorem UY {n a q:Nat} (hq:q < n) {b:Bool} {f:Nat→Pau} (w:Pau):sym n (mF n a q b f a) w=sym n (pZ q) w:=by
 unfold mF
 rw [if_pos rfl]
 exact sym_xz rfl rfl w
theorem Tab.measure {n:Nat} (hn:n≤12) {f g:Nat→Pau} {v:KV} (t:Tab n f g v) {a q:Nat} (ha:a < n) (hq:q < n) (hm:sym n (f a) (pZ q)=true) (b:Bool) :
 Tab n (mF n a q b f) (mG n a q f g) (outB q b v) where
 fF:=fun i hi=>by
  unfold mF
  split
  ·exact ⟨Nat.two_pow_pos n,Nat.pow_lt_pow_right (by decide) hq⟩
  ·split
   ·exact mul_fit (t.fF i hi) (t.fF a ha)
   ·exact t.fF i hi
 gF:=fun i hi=>by
  unfold mG
  split
  ·exact t.fF a ha
  ·split
   ·exact mix_fit (t.gF i hi) (t.fF a ha)
   ·exact t.gF i hi
 ff:=fun i j hi hj=>by
  by_cases e1:i=a
  ·subst e1
   rw [UY hq]
   by_cases e2:j=i
   ·subst e2;rw [JE,UY hq];exact sym_self _ _
   ·rw [JE,Hv e2,hm]
    cases sym n (f j) (pZ q) <;> rfl
  ·rw [Hv e1]
   by_cases e2:j=a
   ·subst e2
    rw [JE n (f i) (mF n j q b f j),JE n (f j) (mF n j q b f j),UY hq,UY hq,JE n (pZ q) (f i),JE n (pZ q) (f j),hm]
    cases sym n (f i) (pZ q) <;> rfl
   ·rw [JE n (f i) (mF n a q b f j),JE n (f a) (mF n a q b f j),Hv e2,Hv e2,t.ff j i hj hi,t.ff a i ha hi,t.ff j a hj ha,t.ff a a ha ha]
    simp
 fg:=fun i j hi hj=>by
  by_cases e1:i=a
  ·subst e1
   rw [UY hq]
   by_cases e2:j=i
   ·subst e2
    unfold mG
    rw [if_pos rfl,JE,hm,decide_eq_true rfl]
   ·rw [JE,sym_mG e2,hm,decide_eq_false (Ne.symm e2)]
    cases sym n (g j) (pZ q) <;> rfl
  ·rw [Hv e1]
   by_cases e2:j=a
   ·subst e2
    unfold mG
    rw [if_pos rfl,t.ff i j hi hj,t.ff j j hj hj,decide_eq_false e1]
    simp
   ·rw [JE n (f i) (mG n a q f g j),JE n (f a) (mG n a q f g j),sym_mG e2,sym_mG e2,JE n (g j) (f i),JE n (g j) (f a),t.fg i j hi hj,t.fg a j ha hj,t.ff a i ha hi,t.ff a a ha ha,decide_eq_false (Ne.symm e2)]
    (simp)
 only:=fun w hw hall=>by
  have hz:sym n w (pZ q)=false:=by
   have:=(hall a ha).1
   rw [JE,UY hq,JE] at this
   exact this
  have hold:sym n w (f a)=false:=by
   have:=(hall a ha).2
   unfold mG at this
   rw [if_pos rfl] at this
   exact this
  have hf : ∀ i,i < n→sym n w (f i)=false:=fun i hi=>by
   by_cases e:i=a
   ·rw [e];exact hold
   ·have:=(hall i hi).1
    rw [JE,Hv e,JE n (f a) w,hold,JE n (f i) w] at this
    simpa using this
  have hg : ∀ i,i < n→i≠a→sym n w (g i)=false:=fun i hi e=>by
   have:=(hall i hi).2
   rw [JE,sym_mG e,JE n (f a) w,hold,JE n (g i) w] at this
   simpa using this
  cases hga:sym n w (g a) with
  | false=>
    refine t.only w hw fun i hi=>⟨hf i hi,?_⟩
    by_cases e:i=a
    ·rw [e];exact hga
    ·exact hg i hi e
  | true=>
    have h0:=t.only (mixP w (f a)) (mix_fit hw (t.fF a ha)) fun i hi=>⟨by rw [UE,hf i hi,t.ff a i ha hi];rfl,by
     rw [UE,t.fg a i ha hi]
     by_cases e:a=i
     ·rw [← e,hga,decide_eq_true rfl];rfl
     ·rw [hg i hi (Ne.symm e),decide_eq_false e];rfl⟩
    have hx:sym n (mixP w (f a)) (pZ q)=false:=sym_nil h0.1 h0.2 _
    rw [UE,hz,hm] at hx
    cases hx
 fix:=fun i hi=>by
  unfold mF
  by_cases e:i=a
  ·rw [if_pos e]
   funext y
   rw [pau_Zm (by omega)]
   unfold outB
   split
   ·rename_i h
    rw [h,turnZ_16]
    cases b <;> rfl
   ·exact Yv _
  ·rw [if_neg e]
   cases hs:sym n (f i) (pZ q) with
   | false=>
     rw [if_neg (by decide)]
     rw [sym_pZ hq] at hs
     show pauK _ _=_
     rw [out_pau hs,t.fix i hi]
   | true=>
     rw [if_pos rfl]
     have hc:sym 12 (f i) (f a)=false:=by rw [UX (t.fF i hi) hn];exact t.ff i a hi ha
     have hx:(mulP (f i) (f a)).x.testBit q=false:=by
      rw [sym_pZ hq] at hs hm
      show ((f i).x ^^^ (f a).x).testBit q=false
      rw [Nat.testBit_xor,hs,hm]
      rfl
     show pauK _ _=_
     rw [out_pau hx,(t.fix i hi).mul (t.fix a ha) hc]
 some:=by
  apply Classical.byContradiction
  intro hno
  have hz : ∀ y,y.testBit q=b→v y=K.zero:=fun y hy=>Classical.byContradiction fun e=>hno ⟨y,by unfold outB;rw [if_pos hy];exact e⟩
  obtain ⟨y,hy⟩:=t.some
  apply hy
  have h1:=congrFun (t.fix a ha) y
  unfold pauK at h1
  rw [← h1]
  by_cases e:y.testBit q=b
  ·exact absurd (hz y e) hy
  ·rw [hz (y ^^^ (f a).x) (by
    rw [sym_pZ hq] at hm
    rw [Nat.testBit_xor,hm]
    cases hyq:y.testBit q <;> cases b <;> simp [hyq] at e ⊢),Yv]
 far:=fun y hy=>by
  unfold outB
  rw [t.far y hy]
  split <;> rfl
def prodP (f:Nat→Pau) (T:Nat→Bool):Nat→Pau
 | 0=>⟨0,0,false⟩
 | k+1=>if T k=true then mulP (prodP f T k) (f k) else prodP f T k
theorem sym_prod (n:Nat) (f:Nat→Pau) (T:Nat→Bool) (w:Pau) : ∀ k,sym n (prodP f T k) w=parB (fun i=>T i && sym n (f i) w) k
 | 0=>sym_nil rfl rfl w
 | k+1=>by
   have h:=sym_prod n f T w k
   rw [prodP,parB,← h]
   cases e:T k with
   | false=>rw [if_neg (by decide)];simp
   | true=>rw [if_pos rfl,sym_mul];simp
theorem prod_fit {n:Nat} {f:Nat→Pau} {T:Nat→Bool} : ∀ {k},(∀ i,i < k→Fit n (f i))→Fit n (prodP f T k)
 | 0,_=>⟨Nat.two_pow_pos n,Nat.two_pow_pos n⟩
 | k+1,h=>by
   have h1:=prod_fit (T:=T) fun i hi=>h i (Nat.lt_succ_of_lt hi)
   rw [prodP]
   split
   ·exact mul_fit h1 (h k (Nat.lt_succ_self k))
   ·exact h1
theorem Tab.prod {n:Nat} (hn:n≤12) {f g:Nat→Pau} {v:KV} (t:Tab n f g v) (T:Nat→Bool) : ∀ {k},k≤n→Fx (prodP f T k) v
 | 0,_=>by
   show pauK _ _=_
   funext y
   rw [prodP,pau_triv]
   exact turnZ_16 _ rfl
 | k+1,hk=>by
   have h1:=t.prod hn T (k:=k) (by omega)
   rw [prodP]
   split
   ·refine h1.mul (t.fix k (by omega)) ?_
    rw [UX (prod_fit fun i hi=>t.fF i (by omega)) hn,sym_prod]
    exact YU fun i hi=>by rw [t.ff i k (by omega) (by omega),Bool.and_false]
   ·exact h1
theorem parB_pick (T:Nat→Bool) {j n:Nat} (hj:j < n):parB (fun i=>T i && decide (i=j)) n=T j:=by
 rw [parB_one hj fun i hi=>by rw [decide_eq_false hi,Bool.and_false],decide_eq_true rfl,Bool.and_true]
theorem xor_nil {a b:Nat} (h:a ^^^ b=0):a=b:=by
 apply Nat.eq_of_testBit_eq
 intro j
 have e:=congrArg (fun x=>x.testBit j) h
 simp only [Nat.testBit_xor,Nat.zero_testBit] at e
 cases h1:a.testBit j <;> cases h2:b.testBit j <;> simp [h1,h2] at e ⊢
theorem Tab.span {n:Nat} {f g:Nat→Pau} {v:KV} (t:Tab n f g v) {w:Pau} (hw:Fit n w) (h : ∀ i,i < n→sym n w (f i)=false) :
 w.x=(prodP f (fun i=>sym n w (g i)) n).x∧w.z=(prodP f (fun i=>sym n w (g i)) n).z:=by
 have hp:Fit n (prodP f (fun i=>sym n w (g i)) n):=prod_fit t.fF
 have h0:=t.only (mixP w (prodP f (fun i=>sym n w (g i)) n)) (mix_fit hw hp) fun i hi=>⟨by
  rw [UE,h i hi,sym_prod,YU fun j hj=>by rw [t.ff j i hj hi,Bool.and_false]];rfl,by
  rw [UE,sym_prod,Vo (g:=fun j=>sym n w (g j) && decide (j=i)) fun j hj=>by rw [t.fg j i hj hi],parB_pick _ hi]
  cases sym n w (g i) <;> rfl⟩
 have hx:w.x ^^^ (prodP f (fun i=>sym n w (g i)) n).x=0:=h0.1
 have hz:w.z ^^^ (prodP f (fun i=>sym n w (g i)) n).z=0:=h0.2
 exact ⟨xor_nil hx,xor_nil hz⟩
theorem Tab.given {n:Nat} (hn:n≤12) {f g:Nat→Pau} {v:KV} (t:Tab n f g v) {q:Nat} (hq:q < n) (h : ∀ i,i < n→sym n (f i) (pZ q)=false) (b:Bool) :
 ((prodP f (fun i=>sym n (g i) (pZ q)) n).m=b→outB q b v=v)∧((prodP f (fun i=>sym n (g i) (pZ q)) n).m≠b→outB q b v=fun _=>K.zero):=by
 have hZ:Fit n (pZ q):=pZ_fit hq
 obtain ⟨hx,hz⟩:=t.span hZ fun i hi=>by rw [JE];exact h i hi
 have hT:(fun i=>sym n (pZ q) (g i))=fun i=>sym n (g i) (pZ q):=funext fun i=>JE _ _ _
 rw [hT] at hx hz
 have hfx:=t.prod hn (fun i=>sym n (g i) (pZ q)) (Nat.le_refl n)
 generalize prodP f (fun i=>sym n (g i) (pZ q)) n=s at *
 obtain ⟨x,z,m⟩:=s
 simp only at hx hz ⊢
 have hx':0=x:=hx
 have hz':2 ^ q=z:=hz
 subst hx' hz'
 have hv : ∀ y,y.testBit q≠m→v y=K.zero:=fun y hy=>by
  have e:=congrFun hfx y
  rw [pau_Zm (by omega)] at e
  have e8:turnZ (v y) 8=v y:=by
   refine Eq.trans (km _ ?_) e
   cases m <;> cases hq:y.testBit q <;> simp [hq,bi] at hy ⊢
  exact VC e8.symm
 constructor
 ·rintro rfl
  funext y
  unfold outB
  split
  ·rfl
  ·rename_i hy;exact (hv y hy).symm
 ·intro hne
  funext y
  unfold outB
  split
  ·rename_i hy;exact hv y (by rw [hy];exact Ne.symm hne)
  ·rfl
end Go.Ql
end

section
set_option linter.unusedSectionVars false
set_option linter.unusedVariables false
set_option maxHeartbeats 1000000
namespace Go.Ql
def TabE (n:Nat) (f:Nat→Pau) (v:KV):Prop:=∃ g,Tab n f g v
def updF {α:Type} (f:Nat→α) (i:Nat) (p:α):Nat→α:=fun j=>if j=i then p else f j
theorem Yb {α:Type} (f:Nat→α) (i:Nat) (p:α):updF f i p i=p:=if_pos rfl
theorem kT {α:Type} (f:Nat→α) {i j:Nat} (p:α) (h:j≠i):updF f i p j=f j:=if_neg h
theorem Tab.row {n:Nat} (hn:n≤12) {f g:Nat→Pau} {v:KV} (t:Tab n f g v) {i d:Nat} (hi:i < n) (hd:d < n) (hid:i≠d) :
 Tab n (updF f i (mulP (f i) (f d))) (updF g d (mixP (g d) (g i))) v:=by
 have sF : ∀ j w,sym n (updF f i (mulP (f i) (f d)) j) w=(sym n (f j) w != (decide (j=i) && sym n (f d) w)):=fun j w=>by
  by_cases e:j=i
  ·subst e;rw [Yb,sym_mul,decide_eq_true rfl,Bool.true_and]
  ·rw [kT _ _ e,decide_eq_false e];simp
 have sG : ∀ j w,sym n (updF g d (mixP (g d) (g i)) j) w=(sym n (g j) w != (decide (j=d) && sym n (g i) w)):=fun j w=>by
  by_cases e:j=d
  ·subst e;rw [Yb,UE,decide_eq_true rfl,Bool.true_and]
  ·rw [kT _ _ e,decide_eq_false e];simp
 refine ⟨fun j hj => ?_,fun j hj => ?_,fun j k hj hk => ?_,fun j k hj hk => ?_,fun w hw h => ?_,fun j hj => ?_,t.some,t.far⟩
 ·by_cases e:j=i
  ·subst e;rw [Yb];exact mul_fit (t.fF j hj) (t.fF d hd)
  ·rw [kT _ _ e];exact t.fF j hj
 ·by_cases e:j=d
  ·subst e;rw [Yb];exact mix_fit (t.gF j hj) (t.gF i hi)
  ·rw [kT _ _ e];exact t.gF j hj
 ·rw [sF,JE n (f j),JE n (f d),sF,sF,t.ff k j hk hj,t.ff d j hd hj,t.ff k d hk hd,t.ff d d hd hd]
  simp
 ·rw [sF,JE n (f j),JE n (f d),sG,sG,JE n (g k) (f j),JE n (g i) (f j),JE n (g k) (f d),JE n (g i) (f d),t.fg j k hj hk,t.fg j i hj hi,t.fg d k hd hk,t.fg d i hd hi]
  rw [decide_eq_false (Ne.symm hid)]
  by_cases e1:j=k
  ·subst e1
   rw [decide_eq_true rfl]
   by_cases e2:j=i
   ·subst e2
    rw [decide_eq_true rfl,decide_eq_false (Ne.symm hid),decide_eq_false hid];rfl
   ·rw [decide_eq_false e2];simp
  ·rw [decide_eq_false e1]
   by_cases e2:j=i
   ·subst e2
    rw [decide_eq_true rfl]
    by_cases e3:k=d
    ·subst e3;rw [decide_eq_true rfl];rfl
    ·rw [decide_eq_false e3,decide_eq_false (Ne.symm e3)];rfl
   ·rw [decide_eq_false e2];simp
 ·have hf : ∀ j,j < n→(sym n w (f j) != (decide (j=i) && sym n w (f d)))=false:=fun j hj=>by
   have:=(h j hj).1
   rw [JE,sF,JE n (f j),JE n (f d)] at this
   exact this
  have hg : ∀ j,j < n→(sym n w (g j) != (decide (j=d) && sym n w (g i)))=false:=fun j hj=>by
   have:=(h j hj).2
   rw [JE,sG,JE n (g j),JE n (g i)] at this
   exact this
  have h1:=hf d hd
  rw [decide_eq_false (Ne.symm hid),Bool.false_and,Bool.bne_false] at h1
  have h2:=hg i hi
  rw [decide_eq_false hid,Bool.false_and,Bool.bne_false] at h2
  refine t.only w hw fun j hj=>⟨?_,?_⟩
  ·have:=hf j hj;rw [h1,Bool.and_false,Bool.bne_false] at this;exact this
  ·have:=hg j hj;rw [h2,Bool.and_false,Bool.bne_false] at this;exact this
 ·by_cases e:j=i
  ·subst e
   rw [Yb]
   exact (t.fix j hj).mul (t.fix d hd) (by rw [UX (t.fF j hj) hn];exact t.ff j d hj hd)
  ·rw [kT _ _ e];exact t.fix j hj
def tr (a d i:Nat):Nat:=if i=a then d else if i=d then a else i
theorem tr_lt {n a d i:Nat} (ha:a < n) (hd:d < n) (hi:i < n):tr a d i < n:=by unfold tr;split;exact hd;split;exact ha;exact hi
theorem tr_tr (a d i:Nat):tr a d (tr a d i)=i:=by
 unfold tr
 by_cases h1:i=a
 ·rw [if_pos h1]
  by_cases h2:d=a
  ·rw [if_pos h2,h1,h2]
  ·rw [if_neg h2,if_pos rfl,h1]
 ·rw [if_neg h1]
  by_cases h2:i=d
  ·rw [if_pos h2,if_pos rfl,h2]
  ·rw [if_neg h2,if_neg h1,if_neg h2]
theorem Tab.swap {n:Nat} {f g:Nat→Pau} {v:KV} (t:Tab n f g v) {a d:Nat} (ha:a < n) (hd:d < n):Tab n (fun i=>f (tr a d i)) (fun i=>g (tr a d i)) v where
 fF:=fun i hi=>t.fF _ (tr_lt ha hd hi)
 gF:=fun i hi=>t.gF _ (tr_lt ha hd hi)
 ff:=fun i j hi hj=>t.ff _ _ (tr_lt ha hd hi) (tr_lt ha hd hj)
 fg:=fun i j hi hj=>by
  rw [t.fg _ _ (tr_lt ha hd hi) (tr_lt ha hd hj)]
  by_cases e:i=j
  ·rw [e,decide_eq_true rfl,decide_eq_true rfl]
  ·rw [decide_eq_false e,decide_eq_false fun h=>e (by rw [← tr_tr a d i,h,tr_tr])]
 only:=fun w hw h=>t.only w hw fun i hi=>by
  have:=h (tr a d i) (tr_lt ha hd hi)
  rw [tr_tr] at this
  exact this
 fix:=fun i hi=>t.fix _ (tr_lt ha hd hi)
 some:=t.some
 far:=t.far
def hasP (n c:Nat) (p:Pau):Bool:=if c < n then p.x.testBit c else p.z.testBit (c - n)
theorem has_mul (n c:Nat) (p r:Pau):hasP n c (mulP p r)=(hasP n c p != hasP n c r):=by
 unfold hasP mulP
 simp only
 rw [Nat.testBit_xor,Nat.testBit_xor]
 split
 ·cases p.x.testBit c <;> cases r.x.testBit c <;> rfl
 ·cases p.z.testBit (c - n) <;> cases r.z.testBit (c - n) <;> rfl
theorem has_xz {n c:Nat} {p r:Pau} (hx:p.x=r.x) (hz:p.z=r.z):hasP n c p=hasP n c r:=by unfold hasP;rw [hx,hz]
theorem has_nil (n c:Nat) (m:Bool):hasP n c ⟨0,0,m⟩=false:=by
 unfold hasP
 split <;> exact Nat.zero_testBit _
theorem has_prod (n c:Nat) (f:Nat→Pau) (T:Nat→Bool) : ∀ k,hasP n c (prodP f T k)=parB (fun i=>T i && hasP n c (f i)) k
 | 0=>has_nil n c false
 | k+1=>by
   have h:=has_prod n c f T k
   rw [prodP,parB,← h]
   cases e:T k with
   | false=>rw [if_neg (by decide)];simp
   | true=>rw [if_pos rfl,has_mul];simp
def elF (n d c k:Nat) (f:Nat→Pau) (i:Nat):Pau:=if i < k∧i≠d∧hasP n c (f i)=true then mulP (f i) (f d) else f i
theorem elF_zero (n d c:Nat) (f:Nat→Pau):elF n d c 0 f=f:=funext fun i=>if_neg fun h=>absurd h.1 (Nat.not_lt_zero _)
theorem elF_d (n d c k:Nat) (f:Nat→Pau):elF n d c k f d=f d:=if_neg fun h=>h.2.1 rfl
theorem Hz {n d c k i:Nat} (f:Nat→Pau) (h:k≤i):elF n d c k f i=f i:=if_neg fun e=>absurd e.1 (by omega)
theorem elF_succ (n d c k:Nat) (f:Nat→Pau):elF n d c (k+1) f=if k≠d∧hasP n c (f k)=true then updF (elF n d c k f) k (mulP (elF n d c k f k) (elF n d c k f d)) else elF n d c k f:=by
 rw [elF_d,Hz f (Nat.le_refl k)]
 funext i
 by_cases e:i=k
 ·subst e
  by_cases h:i≠d∧hasP n c (f i)=true
  ·rw [if_pos h,Yb];exact if_pos ⟨Nat.lt_succ_self i,h⟩
  ·rw [if_neg h,Hz f (Nat.le_refl i)];exact if_neg fun x=>h x.2
 ·have h1:elF n d c (k+1) f i=elF n d c k f i:=by
   unfold elF
   by_cases h:i < k∧i≠d∧hasP n c (f i)=true
   ·rw [if_pos h,if_pos ⟨by omega,h.2⟩]
   ·rw [if_neg h,if_neg fun x=>h ⟨by omega,x.2⟩]
  rw [h1]
  split
  ·rw [kT _ _ e]
  ·rfl
theorem TabE.el {n:Nat} (hn:n≤12) {f:Nat→Pau} {v:KV} (t:TabE n f v) {d:Nat} (hd:d < n) (c:Nat) : ∀ {k},k≤n→TabE n (elF n d c k f) v
 | 0,_=>by rw [elF_zero];exact t
 | k+1,hk=>by
   obtain ⟨g,h⟩:=t.el hn hd c (k:=k) (by omega)
   rw [elF_succ]
   split
   ·rename_i e
    exact ⟨_,h.row hn (by omega) hd e.1⟩
   ·exact ⟨g,h⟩
structure Red (n col d:Nat) (f:Nat→Pau) (c:Nat→Nat):Prop where
 dn:d≤n
 lt : ∀ j,j < d→c j < col
 up : ∀ j k,j < k→k < d→c j < c k
 piv : ∀ i j,i < n→j < d→hasP n (c j) (f i)=decide (i=j)
 low : ∀ i,i < n→d≤i → ∀ k,k < col→hasP n k (f i)=false
 lead : ∀ i,i < d → ∀ k,k < c i→hasP n k (f i)=false
theorem Red.zero (n:Nat) (f:Nat→Pau) (c:Nat→Nat):Red n 0 0 f c:=⟨Nat.zero_le n,fun j h=>absurd h (Nat.not_lt_zero _),fun j k _ h=>absurd h (Nat.not_lt_zero _),fun i j _ h=>absurd h (Nat.not_lt_zero _),fun i _ _ k h=>absurd h (Nat.not_lt_zero _),fun i h=>absurd h (Nat.not_lt_zero _)⟩
theorem Red.none {n col d:Nat} {f:Nat→Pau} {c:Nat→Nat} (r:Red n col d f c) (h : ∀ i,d≤i→i < n→hasP n col (f i)=false):Red n (col+1) d f c:=
 ⟨r.dn,fun j hj=>Nat.lt_succ_of_lt (r.lt j hj),r.up,r.piv,fun i hi hd k hk=>by
  by_cases e:k=col
  ·rw [e];exact h i hd hi
  ·exact r.low i hi hd k (by omega),r.lead⟩
theorem Red.some {n col d:Nat} {f:Nat→Pau} {c:Nat→Nat} (r:Red n col d f c) {a:Nat} (hda:d≤a) (ha:a < n) (hh:hasP n col (f a)=true) :
 Red n (col+1) (d+1) (elF n d col n fun i=>f (tr d a i)) (updF c d col):=by
 have hF : ∀ i,i < n→i≠d → ∀ k,k < col→hasP n k (elF n d col n (fun i=>f (tr d a i)) i)=hasP n k (f (tr d a i)):=fun i hi hid k hk=>by
  unfold elF
  split
  ·rw [has_mul]
   have:hasP n k (f (tr d a d))=false:=by
    unfold tr;rw [if_pos rfl];exact r.low a ha hda k hk
   simp only
   rw [this,Bool.bne_false]
  ·rfl
 have hD:elF n d col n (fun i=>f (tr d a i)) d=f a:=by
  rw [elF_d];unfold tr;rw [if_pos rfl]
 have htr : ∀ i,i < d→tr d a i=i:=fun i hi=>by unfold tr;rw [if_neg (by omega),if_neg (by omega)]
 have hge : ∀ i,d≤i→d≤tr d a i:=fun i hi=>by unfold tr;split;exact hda;split;exact Nat.le_refl d;exact hi
 have hcol : ∀ i,i < n→hasP n col (elF n d col n (fun i=>f (tr d a i)) i)=decide (i=d):=fun i hi=>by
  by_cases e:i=d
  ·subst e;rw [hD,hh,decide_eq_true rfl]
  ·rw [decide_eq_false e]
   have:f (tr d a d)=f a:=by unfold tr;rw [if_pos rfl]
   unfold elF
   cases hc:hasP n col (f (tr d a i)) with
   | true=>
     rw [if_pos ⟨hi,e,rfl⟩,has_mul]
     show (hasP n col (f (tr d a i)) != hasP n col (f (tr d a d)))=false
     rw [this,hc,hh];rfl
   | false=>rw [if_neg fun x=>absurd x.2.2 (by decide)];exact hc
 refine ⟨Nat.lt_of_le_of_lt hda ha,fun j hj => ?_,fun j k hjk hk => ?_,fun i j hi hj => ?_,fun i hi hd k hk => ?_,fun i hi k hk => ?_⟩
 ·by_cases e:j=d
  ·subst e;rw [Yb];omega
  ·rw [kT _ _ e];have:=r.lt j (by omega);omega
 ·rw [kT _ _ (show j≠d by omega)]
  by_cases e:k=d
  ·subst e;rw [Yb];exact r.lt j hjk
  ·rw [kT _ _ e];exact r.up j k hjk (by omega)
 ·by_cases e:j=d
  ·subst e;rw [Yb];exact hcol i hi
  ·rw [kT _ _ e]
   have hjd:j < d:=by omega
   have hjc:=r.lt j hjd
   by_cases e2:i=d
   ·subst e2
    rw [hD,r.low a ha hda _ hjc,decide_eq_false (by omega)]
   ·rw [hF i hi e2 _ hjc]
    by_cases e3:i < d
    ·rw [htr i e3];exact r.piv i j hi hjd
    ·rw [r.low _ (tr_lt (by omega) ha hi) (hge i (by omega)) _ hjc,decide_eq_false (by omega)]
 ·by_cases e:k=col
  ·subst e;rw [hcol i hi,decide_eq_false (by omega)]
  ·rw [hF i hi (by omega) k (by omega)]
   exact r.low _ (tr_lt (by omega) ha hi) (hge i (by omega)) k (by omega)
 ·by_cases e:i=d
  ·subst e
   rw [Yb] at hk
   rw [hD]
   exact r.low a ha hda k hk
  ·rw [kT _ _ e] at hk
   have hid:i < d:=by omega
   have:=r.lt i hid
   have:=r.dn
   rw [hF i (by omega) e k (by omega),htr i hid]
   exact r.lead i hid k hk
theorem Red.done {n d:Nat} {f:Nat→Pau} {c:Nat→Nat} {v:KV} (r:Red n (2*n) d f c) (t:TabE n f v):d=n:=by
 obtain ⟨g,t⟩:=t
 apply Classical.byContradiction
 intro hne
 have hd:d < n:=by have:=r.dn;omega
 have hb:=r.low d hd (Nat.le_refl d)
 have hx:(f d).x=0:=zero_of (t.fF d hd).1 fun j hj=>by
  have:=hb j (by omega)
  unfold hasP at this
  rw [if_pos hj] at this
  exact this
 have hz:(f d).z=0:=zero_of (t.fF d hd).2 fun j hj=>by
  have:=hb (j+n) (by omega)
  unfold hasP at this
  rw [if_neg (by omega),Nat.add_sub_cancel] at this
  exact this
 have:=t.fg d d hd hd
 rw [sym_nil hx hz,decide_eq_true rfl] at this
 cases this
theorem prod_congr {f:Nat→Pau} {T U:Nat→Bool} : ∀ {k},(∀ i,i < k→T i=U i)→prodP f T k=prodP f U k
 | 0,_=>rfl
 | k+1,h=>by rw [prodP,prodP,prod_congr fun i hi=>h i (Nat.lt_succ_of_lt hi),h k (Nat.lt_succ_self k)]
theorem Red.prod {n:Nat} (hn:n≤12) {f:Nat→Pau} {c:Nat→Nat} {v:KV} (r:Red n (2*n) n f c) (t:TabE n f v) {p:Pau} (hp:Fit n p) (hx:Fx p v):p=prodP f (fun j=>hasP n (c j) p) n:=by
 obtain ⟨g,t⟩:=t
 obtain ⟨h1,h2⟩:=t.span hp fun i hi=>by rw [← UX hp hn];exact hx.comm (t.fix i hi) t.some
 have e:prodP f (fun i=>sym n p (g i)) n=prodP f (fun j=>hasP n (c j) p) n:=prod_congr fun j hj=>by
  rw [has_xz h1 h2,has_prod,Vo (g:=fun i=>sym n p (g i) && decide (i=j)) fun i hi=>by rw [r.piv i j hi hj],parB_pick _ hj]
 rw [e] at h1 h2
 exact hx.same (t.prod hn _ (Nat.le_refl n)) h1 h2 t.some
theorem Red.same {n:Nat} (hn:n≤12) {f:Nat→Pau} {c:Nat→Nat} {v:KV} (r:Red n (2*n) n f c) (t:TabE n f v) {p q:Pau} (hp:Fit n p) (hq:Fit n q) (hx:Fx p v) (hy:Fx q v) (h : ∀ j,j < n→hasP n (c j) p=hasP n (c j) q):p=q:=by
 rw [r.prod hn t hp hx,r.prod hn t hq hy]
 exact prod_congr h
theorem Red.first {n:Nat} (hn:n≤12) {f:Nat→Pau} {c:Nat→Nat} {v:KV} (r:Red n (2*n) n f c) (t:TabE n f v) {p:Pau} (hp:Fit n p) (hx:Fx p v) {k:Nat} (hk:hasP n k p=true) (hl : ∀ j,j < k→hasP n j p=false) :
 ∃ j,j < n∧k=c j∧(∀ i,i < j→hasP n (c i) p=false)∧hasP n (c j) p=true:=by
 have e:=r.prod hn t hp hx
 have hex : ∃ j,j < n∧hasP n (c j) p=true:=by
  apply Classical.byContradiction
  intro hno
  rw [e,has_prod,YU fun j hj=>by
   cases h:hasP n (c j) p with
   | false=>rfl
   | true=>exact absurd ⟨j,hj,h⟩ hno] at hk
  cases hk
 obtain ⟨j,hj,hmin⟩ : ∃ j,(j < n∧hasP n (c j) p=true) ∧ ∀ i,i < j → ¬ (i < n∧hasP n (c i) p=true):=by
  obtain ⟨j0,h0⟩:=hex
  induction j0 using Nat.strongRecOn with
  | ind j0 ih=>
    by_cases h : ∃ i,i < j0∧(i < n∧hasP n (c i) p=true)
    ·obtain ⟨i,h1,h2⟩:=h
     exact ih i h1 h2
    ·exact ⟨j0,h0,fun i hi hc=>h ⟨i,hi,hc⟩⟩
 have hlow : ∀ i,i < j→hasP n (c i) p=false:=fun i hi=>by
  cases h:hasP n (c i) p with
  | false=>rfl
  | true=>exact absurd ⟨by omega,h⟩ (hmin i hi)
 refine ⟨j,hj.1,?_,hlow,hj.2⟩
 have hge : ∀ m,m < c j→hasP n m p=false:=fun m hm=>by
  rw [e,has_prod]
  refine YU fun i hi => ?_
  by_cases h1:i < j
  ·rw [hlow i h1,Bool.false_and]
  ·rw [r.lead i hi m (by
    by_cases h2:i=j
    ·rw [h2];exact hm
    ·have:=r.up j i (by omega) hi
     omega),Bool.and_false]
 apply Nat.le_antisymm
 ·apply Nat.le_of_not_lt
  intro h
  rw [hl _ h] at hj
  exact absurd hj.2 (by decide)
 ·apply Nat.le_of_not_lt
  intro h
  rw [hge _ h] at hk
  exact absurd hk (by decide)
end Go.Ql
end

section
set_option linter.unusedSectionVars false
set_option linter.unusedVariables false
set_option maxHeartbeats 1000000
namespace Go.Ql
abbrev L3p:=List (Int×Int×Bool)
def lst (n:Nat) (f:Nat→Pau):L3p:=(List.range n).map fun i=>pe (f i)
theorem kR (n:Nat) (f:Nat→Pau):(lst n f).length=n:=by simp [lst]
theorem kM {n i:Nat} (f:Nat→Pau) (h:i < n):idx (lst n f) (i:Int)=some (pe (f i)):=by
 rw [Yd (by rw [kR];exact h)]
 simp [lst]
theorem kZ {n i:Nat} (f:Nat→Pau) (h:i < n):inR (List.length (lst n f)) (i:Int)=some ():=by
 rw [kR]
 exact Jf (by simp only [Bool.and_eq_true,decide_eq_true_eq];omega)
theorem lst_set {n i:Nat} (f:Nat→Pau) (p:Pau) (h:i < n):(lst n f).set i (pe p)=lst n (updF f i p):=by
 apply List.ext_getElem
 ·rw [List.length_set,kR,kR]
 ·intro j h1 h2
  simp only [lst,List.getElem_set,List.getElem_map,List.getElem_range]
  by_cases e:i=j
  ·subst e;rw [if_pos rfl,Yb]
  ·rw [if_neg e,kT _ _ (Ne.symm e)]
theorem Vk {n:Nat} {f g:Nat→Pau} (h : ∀ i,i < n→f i=g i):lst n f=lst n g:=by
 unfold lst
 apply List.map_congr_left
 intro i hi
 rw [h i (List.mem_range.1 hi)]
theorem lst_succ (n:Nat) (f:Nat→Pau):lst (n+1) f=lst n f++[pe (f n)]:=by
 unfold lst
 rw [List.range_succ,List.map_append]
 rfl
theorem ones_cnt : ∀ x y:Fin 64,W.JA ((x.val*64+y.val:Nat):Int)=some (sumI (fun j=>bi ((x.val*64+y.val).testBit j)) 12):=by decide +kernel
def cnt (x:Nat):Int:=sumI (fun j=>bi (x.testBit j)) 12
theorem UV {x:Nat} (h:x < 4096):W.JA (x:Int)=some (cnt x):=by
 have:=ones_cnt ⟨x / 64,by omega⟩ ⟨x % 64,by omega⟩
 simp only [show x / 64*64+x % 64=x by omega] at this
 exact this
theorem sumI_bnd {f:Nat→Int} {a b:Int} (h : ∀ j,a≤f j∧f j≤b) : ∀ k:Nat,(k:Int)*a≤sumI f k∧sumI f k≤(k:Int)*b
 | 0=>by simp [sumI]
 | k+1=>by
   have h1:=sumI_bnd h k
   have h2:=h k
   rw [sumI,Int.natCast_succ,Int.add_mul,Int.add_mul,Int.one_mul,Int.one_mul]
   omega
theorem bi_01 (b:Bool):0≤bi b∧bi b≤1:=by cases b <;> simp [bi]
theorem UQ (x:Nat):0≤cnt x∧cnt x≤12:=by
 have:=sumI_bnd (fun j=>bi_01 (x.testBit j)) 12
 unfold cnt
 omega
theorem and3_all : ∀ k:Fin 128,ibits .and .i64 ((k.val:Int) - 64) 3=((k.val:Int) - 64) % 4:=by decide +kernel
theorem and3 {k:Int} (h : -64≤k∧k < 64):ibits .and .i64 k 3=k % 4:=by
 have:=and3_all ⟨(k+64).toNat,by omega⟩
 simp only [show (((k+64).toNat:Nat):Int) - 64=k by omega] at this
 exact this
theorem and1_all : ∀ k:Fin 64,ibits .and .i64 (k.val:Int) 1=(k.val:Int) % 2:=by decide +kernel
theorem and1 {k:Int} (h:0≤k∧k < 64):ibits .and .i64 k 1=k % 2:=by
 have:=and1_all ⟨k.toNat,by omega⟩
 simp only [show ((k.toNat:Nat):Int)=k by omega] at this
 exact this
theorem Hn {a b:Nat} (h:a < 4096):a &&& b < 4096:=Nat.lt_of_le_of_lt Nat.and_le_left h
theorem kP_cnt (p r:Pau):kP p r=cnt (p.x &&& p.z)+cnt (r.x &&& r.z)+2*cnt (p.z &&& r.x) - cnt ((p.x ^^^ r.x) &&& (p.z ^^^ r.z)):=by
 unfold kP cnt
 rw [sumI_congr (g:=fun j=>bi ((p.x &&& p.z).testBit j)+(bi ((r.x &&& r.z).testBit j)+(2*bi ((p.z &&& r.x).testBit j)+(-1)*bi (((p.x ^^^ r.x) &&& (p.z ^^^ r.z)).testBit j)))) fun j _=>by
  unfold kB
  simp only [Nat.testBit_and,Nat.testBit_xor]
  generalize p.x.testBit j=a
  generalize p.z.testBit j=b
  generalize r.x.testBit j=c
  generalize r.z.testBit j=d
  cases a <;> cases b <;> cases c <;> cases d <;> rfl]
 rw [Vf,Vf,Vf,VF,VF]
 omega
theorem Sm_mul {p r:Pau} (hp:Sm p) (hr:Sm r):Sm (mulP p r):=⟨Nat.xor_lt_two_pow (n:=12) hp.1 hr.1,Nat.xor_lt_two_pow (n:=12) hp.2 hr.2⟩
theorem ptimes_ok {p r:Pau} (hp:Sm p) (hr:Sm r):W.jJ (pe p) (pe r)=some (pe (mulP p r)):=by
 have hm:=Sm_mul hp hr
 obtain ⟨p1,p2⟩:=hp
 obtain ⟨r1,r2⟩:=hr
 have m1:p.x ^^^ r.x < 4096:=hm.1
 have m2:p.z ^^^ r.z < 4096:=hm.2
 have c1:=UQ (p.x &&& p.z)
 have c2:=UQ (r.x &&& r.z)
 have c3:=UQ (p.z &&& r.x)
 have c4:=UQ ((p.x ^^^ r.x) &&& (p.z ^^^ r.z))
 unfold W.jJ W.jJ.c1 pe
 simp only
 rw [UK (by omega) (by omega),UK (by omega) (by omega),UK (by omega) (by omega),Hr (by omega) (by omega),Hr (by omega) (by omega),UK (by omega) (by omega),UV (Hn p1),UV (Hn r1),UV (Hn p2),UV (Hn m1)]
 simp only [je]
 rw [js (x:=(2:Int)*_) (by omega),js (x:=cnt (p.x &&& p.z)+_) (by omega),js (x:=cnt (p.x &&& p.z)+cnt (r.x &&& r.z)+_) (by omega),js (by omega),and3 (by omega),← kP_cnt]
 unfold mulP
 simp only
 congr 3
theorem parB_bne (f g:Nat→Bool) : ∀ k,parB (fun j=>f j != g j) k=(parB f k != parB g k)
 | 0=>rfl
 | k+1=>by
   rw [parB,parB,parB,parB_bne f g k]
   cases parB f k <;> cases parB g k <;> cases f k <;> cases g k <;> rfl
theorem cnt_par (x:Nat):cnt x % 2=bi (parB (fun j=>x.testBit j) 12):=by
 have h:=sumI_par (fun j=>x.testBit j) 12
 have h2:=bi_01 (parB (fun j=>x.testBit j) 12)
 unfold cnt
 omega
theorem pmeets_ok {p r:Pau} (hp:Sm p) (hr:Sm r):W.jH (pe p) (pe r)=some (sym 12 p r):=by
 obtain ⟨p1,p2⟩:=hp
 obtain ⟨r1,r2⟩:=hr
 have c1:=UQ (p.x &&& r.z)
 have c2:=UQ (p.z &&& r.x)
 unfold W.jH W.jH.c1 pe
 simp only
 rw [UK (by omega) (by omega),UK (by omega) (by omega),UV (Hn p1),UV (Hn p2)]
 simp only [je]
 rw [and1 (by omega),and1 (by omega),cnt_par,cnt_par]
 unfold sym
 rw [show (fun j=>((p.x.testBit j && r.z.testBit j) != (p.z.testBit j && r.x.testBit j)))=fun j=>((p.x &&& r.z).testBit j != (p.z &&& r.x).testBit j) from funext fun j=>by rw [Nat.testBit_and,Nat.testBit_and],parB_bne]
 generalize parB _ 12=a
 generalize parB _ 12=b
 cases a <;> cases b <;> rfl
theorem mixed_ok {p r:Pau} (hp:Sm p) (hr:Sm r):W.JT (pe p) (pe r)=some (pe (mixP p r)):=by
 obtain ⟨p1,p2⟩:=hp
 obtain ⟨r1,r2⟩:=hr
 unfold W.JT pe
 simp only
 rw [Hr (by omega) (by omega),Hr (by omega) (by omega)]
 rfl
theorem bit_in {x q:Nat} (hx:x < 4096) (hq:q < 12):ibits .and .i64 (Int.fdiv (x:Int) ((2:Int) ^ Min.min (Int.toNat (q:Int)) 64)) 1=((x.testBit q).toNat:Int):=by
 rw [Int.toNat_natCast,Nat.min_eq_left (by omega),show ((2:Int) ^ q)=((2 ^ q:Nat):Int) by simp,Int.fdiv_eq_ediv_of_nonneg _ (Int.natCast_nonneg _),← Int.natCast_ediv]
 have h:=and3_all
 have hlt:x / 2 ^ q < 4096:=Nat.lt_of_le_of_lt (Nat.div_le_self _ _) hx
 have e:(x.testBit q)=decide ((x / 2 ^ q) % 2=1):=by rw [Nat.testBit_eq_decide_div_mod_eq]
 rw [e]
 generalize x / 2 ^ q=y at hlt
 show IntKind.i64.wrap (((BitVec.ofInt 64 (y:Int) &&& BitVec.ofInt 64 ((1:Nat):Int)).toNat:Nat):Int)=_
 simp only [Vw,BitVec.toNat_and,BitVec.toNat_ofNat]
 rw [Nat.mod_eq_of_lt (by omega),show (1:Nat) % 2 ^ 64=1 by decide,Nat.and_one_is_mod]
 rw [js (by omega)]
 have:y % 2=0∨y % 2=1:=by omega
 rcases this with h | h <;> rw [h] <;> rfl
theorem begin_ok {n:Nat} (hn:n≤12) {x:Nat} (hx:x < 4096):W.jw (n:Int) (x:Int)=some ((n:Int),lst n (fun q=>⟨0,2 ^ q,x.testBit q⟩),lst n pX,()):=by
 unfold W.jw
 refine jj (kW n (fun k=>((k:Int),lst k (fun q=>⟨0,2 ^ q,x.testBit q⟩),lst k pX)) ((n:Int),lst n (fun q=>⟨0,2 ^ q,x.testBit q⟩),lst n pX) (fun k hk => ?_) ?_ rfl) rfl
 ·unfold W.jw.c100003 W.jw.c5 W.jw.c6
  rw [jY (by simp only;omega)]
  simp only [ge0,je]
  refine jj (jj (Vc (n:=(lst k (fun q=>⟨0,2 ^ q,x.testBit q⟩)).length+1) (k:=24) (by rw [kR];omega)) rfl) ?_
  refine jj (jj (Vc (n:=(lst k pX).length+1) (k:=24) (by rw [kR];omega)) rfl) ?_
  rw [js (by omega),pw_u64 (by omega),bit_in hx (by omega),eq_one,lst_succ,lst_succ]
  rfl
 ·unfold W.jw.c100003
  rw [jP (by simp)]
theorem tgate_ok {n m:Nat} (hm:m≤12) (hnm:n≤12) {f g:Nat→Pau} {o:GOp} (h:StO m o) (hf : ∀ i,i < n→Sm (f i)) (hg : ∀ i,i < n→Sm (g i)) :
 W.jp o (n:Int) (lst n f) (lst n g)=some (lst n (fun i=>gP o (f i)),lst n (fun i=>gP o (g i)),(n:Int),()):=by
 have up : ∀ (e:Nat→Pau) (i:Nat),updF (fun j=>if j < i then gP o (e j) else e j) i (gP o (e i))=fun j=>if j < i+1 then gP o (e j) else e j:=fun e i=>by
  funext j
  by_cases h1:j=i
  ·subst h1;rw [Yb,if_pos (Nat.lt_succ_self j)]
  ·rw [kT _ _ h1]
   by_cases h2:j < i
   ·rw [if_pos h2,if_pos (by omega)]
   ·rw [if_neg h2,if_neg (by omega)]
 unfold W.jp
 refine jj (kW n (fun k=>((k:Int),lst n (fun j=>if j < k then gP o (f j) else f j),lst n (fun j=>if j < k then gP o (g j) else g j))) ((n:Int),lst n (fun i=>gP o (f i)),lst n (fun i=>gP o (g i))) (fun i hi => ?_) ?_ ?_) rfl
 ·unfold W.jp.c100002 W.jp.c4 W.jp.c5
  rw [jY (by simp only;omega)]
  have one : ∀ (e:Nat→Pau),Sm (e i)→(bnd (inR (List.length (lst n (fun j=>if j < i then gP o (e j) else e j))) (i:Int)) fun y=>bnd (idx (lst n (fun j=>if j < i then gP o (e j) else e j)) (i:Int)) fun y_1=>bnd (W.kh (y_1,o,())) fun y_2=>bnd (inR (List.length (lst n (fun j=>if j < i then gP o (e j) else e j))) (i:Int)) fun y_3=>bnd (idx (lst n (fun j=>if j < i then gP o (e j) else e j)) (i:Int)) fun y_4=>some (List.set (lst n (fun j=>if j < i then gP o (e j) else e j)) (Int.toNat (i:Int)) (Prod.fst y_2)))=some (lst n (fun j=>if j < i+1 then gP o (e j) else e j)):=fun e he=>by
   rw [kZ _ hi,je,kM _ hi,je]
   simp only [Nat.lt_irrefl,if_false]
   refine jj (gate_ok1 hm h he) (jj rfl (jj rfl ?_))
   simp only [Int.toNat_natCast]
   rw [lst_set _ _ hi,up]
  refine jj (one f (hf i hi)) (jj (one g (hg i hi)) ?_)
  rw [js (by simp only;omega)]
  rfl
 ·unfold W.jp.c100002
  rw [jP (by simp)]
  rw [Vk (f:=fun j=>if j < n then gP o (f j) else f j) (g:=fun i=>gP o (f i)) fun i hi=>if_pos hi,Vk (f:=fun j=>if j < n then gP o (g j) else g j) (g:=fun i=>gP o (g i)) fun i hi=>if_pos hi]
 ·rw [Vk (f:=fun j=>if j < 0 then gP o (f j) else f j) (g:=f) fun i _=>if_neg (Nat.not_lt_zero _),Vk (f:=fun j=>if j < 0 then gP o (g j) else g j) (g:=g) fun i _=>if_neg (Nat.not_lt_zero _)]
  rfl
end Go.Ql
end

section
set_option linter.unusedSectionVars false
set_option linter.unusedVariables false
set_option maxHeartbeats 1000000
namespace Go.Ql
def parF (h e:Nat→Pau) (i:Nat):Nat→Pau:=fun j=>if j < i then h j else e j
theorem parF_zero (h e:Nat→Pau):parF h e 0=e:=funext fun j=>if_neg (Nat.not_lt_zero _)
theorem parF_at (h e:Nat→Pau) (i:Nat):parF h e i i=e i:=if_neg (Nat.lt_irrefl _)
theorem parF_up (h e:Nat→Pau) (i:Nat):updF (parF h e i) i (h i)=parF h e (i+1):=by
 funext j
 unfold parF
 by_cases h1:j=i
 ·subst h1;rw [Yb,if_pos (Nat.lt_succ_self j)]
 ·rw [kT _ _ h1]
  by_cases h2:j < i
  ·rw [if_pos h2,if_pos (by omega)]
  ·rw [if_neg h2,if_neg (by omega)]
theorem parF_stay {h e:Nat→Pau} {i:Nat} (hh:h i=e i):parF h e (i+1)=parF h e i:=by
 funext j
 unfold parF
 by_cases h1:j=i
 ·subst h1;rw [if_pos (Nat.lt_succ_self j),if_neg (Nat.lt_irrefl j),hh]
 ·by_cases h2:j < i
  ·rw [if_pos h2,if_pos (by omega)]
  ·rw [if_neg h2,if_neg (by omega)]
theorem lst_parF (h e:Nat→Pau) (n:Nat):lst n (parF h e n)=lst n h:=Vk fun i hi=>if_pos hi
theorem VR {n i:Nat} (f:Nat→Pau) (p:Pau) (h:i < n):(lst n f).set (Int.toNat (i:Int)) (pe p)=lst n (updF f i p):=by
 rw [Int.toNat_natCast];exact lst_set f p h
theorem index_ok {n:Nat} (hn:n≤12) {f:Nat→Pau} (hf : ∀ i,i < n→Sm (f i)) {z:Pau} (hz:Sm z) :
 (∃ a,a < n∧sym 12 (f a) z=true∧W.jk (0:Int) (↑(List.length (lst n f)):Int) (z.x:Int) (z.z:Int) z.m (lst n f)=some ((a:Int),(z.x:Int),(z.z:Int),z.m,lst n f,())) ∨
 ((∀ i,i < n→sym 12 (f i) z=false)∧W.jk (0:Int) (↑(List.length (lst n f)):Int) (z.x:Int) (z.z:Int) z.m (lst n f)=some ((-1:Int),(z.x:Int),(z.z:Int),z.m,lst n f,())):=by
 have hl:=kR n f
 have hpart:List.length (part (0:Int) (↑(List.length (lst n f)):Int) (lst n f))=n:=by
  unfold part
  rw [List.length_take,List.length_drop,hl]
  simp
 obtain ⟨x,h1,h2⟩:=JJ (f:=fun s:Int×Int×Int×Bool↦W.jk.c100002 (0:Int) (↑(List.length (lst n f)):Int) (↑(List.length (part (0:Int) (↑(List.length (lst n f)):Int) (lst n f))):Int) (Prod.fst s) (Prod.fst (Prod.snd s)) (Prod.fst (Prod.snd (Prod.snd s))) (Prod.snd (Prod.snd (Prod.snd s))) (lst n f) some) n
  (fun i s=>s=((i:Int),(z.x:Int),(z.z:Int),z.m) ∧ ∀ k,k < i→sym 12 (f k) z=false)
  (fun x=>(∃ a,a < n∧sym 12 (f a) z=true∧x = .inl ((a:Int),(a:Int),(z.x:Int),(z.z:Int),z.m))∨((∀ i,i < n→sym 12 (f i) z=false)∧x = .inr ((n:Int),(z.x:Int),(z.z:Int),z.m)))
  (by
   rintro i s hi ⟨rfl,hall⟩
   have hm:W.Jg (pe (f i)) (z.x:Int) (z.z:Int) z.m=some (sym 12 (f i) z,(z.x:Int),(z.z:Int),z.m,()):=by
    unfold W.Jg
    exact jj (pmeets_ok (hf i hi) hz) rfl
   have hc : ∀ r,(if sym 12 (f i) z=true then some (.inr (.inl ((i:Int),(i:Int),(z.x:Int),(z.z:Int),z.m))) else some (.inl (((i+1:Nat):Int),(z.x:Int),(z.z:Int),z.m)))=r→W.jk.c100002 (0:Int) (↑(List.length (lst n f)):Int) (↑(List.length (part (0:Int) (↑(List.length (lst n f)):Int) (lst n f))):Int) (i:Int) (z.x:Int) (z.z:Int) z.m (lst n f) some=r:=by
    rintro r rfl
    unfold W.jk.c100002
    rw [hpart,jY (by omega),Jf (by simp only [Bool.and_eq_true,decide_eq_true_eq];rw [hl];exact ⟨Int.natCast_nonneg _,by omega⟩),je,Int.zero_add,kM f hi,je]
    refine jj hm ?_
    cases sym 12 (f i) z with
    | true=>rw [jN (by rfl)];rfl
    | false=>
      rw [jq (by rfl),js (by omega)]
      rfl
   cases e:sym 12 (f i) z with
   | true=>exact .inr ⟨_,hc _ (by rw [e];rfl),.inl ⟨i,hi,e,rfl⟩⟩
   | false=>
     refine .inl ⟨_,hc _ (by rw [e];rfl),rfl,fun k hk => ?_⟩
     by_cases h:k=i
     ·rw [h];exact e
     ·exact hall k (by omega))
  (by
   rintro s ⟨rfl,hall⟩
   refine ⟨.inr ((n:Int),(z.x:Int),(z.z:Int),z.m),?_,.inr ⟨hall,rfl⟩⟩
   unfold W.jk.c100002
   rw [hpart,jP (by simp)])
  (s:=((0:Int),(z.x:Int),(z.z:Int),z.m)) ⟨rfl,fun k hk=>absurd hk (Nat.not_lt_zero _)⟩
 rcases h2 with ⟨a,ha,hs,rfl⟩ | ⟨hall,rfl⟩
 ·left
  refine ⟨a,ha,hs,?_⟩
  unfold W.jk
  refine jj h1 ?_
  rw [JS]
 ·right
  refine ⟨hall,?_⟩
  unfold W.jk
  refine jj h1 ?_
  rw [JZ]
def mF0 (a q:Nat) (f:Nat→Pau) (i:Nat):Pau:=if i≠a∧sym 12 (f i) (pZ q)=true then mulP (f i) (f a) else f i
def mG0 (a q:Nat) (f g:Nat→Pau) (i:Nat):Pau:=if i≠a∧sym 12 (g i) (pZ q)=true then mixP (g i) (f a) else g i
theorem ne_nat (i a:Nat):((i:Int) != (a:Int))=decide (i≠a):=by
 by_cases h:i=a
 ·subst h;rw [decide_eq_false (by simp)];simp
 ·rw [decide_eq_true h];simp;omega
theorem msum_ok {n q:Nat} (hn:n≤12) (hq:q < 12) {f g:Nat→Pau} (hf : ∀ i,i < n→Sm (f i)) (hg : ∀ i,i < n→Sm (g i)) :
 iter (fun s:Int×Int×Int×Bool↦W.jb.c100006 (↑(List.length (lst n g)):Int) (Prod.fst s) ((pZ q).x:Int) ((pZ q).z:Int) (pZ q).m (Prod.fst (Prod.snd s)) (Prod.fst (Prod.snd (Prod.snd s))) (Prod.snd (Prod.snd (Prod.snd s))) (lst n f) (lst n g) some) ((0:Int),(0:Int),(0:Int),false)=some ((n:Int),pe (prodP f (fun i=>sym 12 (g i) (pZ q)) n)):=by
 have hs : ∀ k,k≤n→Sm (prodP f (fun i=>sym 12 (g i) (pZ q)) k):=by
  intro k
  induction k with
  | zero=>intro _;exact ⟨by show 0 < 4096;decide,by show 0 < 4096;decide⟩
  | succ k ih=>
    intro hk
    rw [prodP]
    split
    ·exact Sm_mul (ih (by omega)) (hf k (by omega))
    ·exact ih (by omega)
 have hZ:Sm (pZ q):=pZ_sm hq
 refine kW n (fun k=>((k:Int),pe (prodP f (fun i=>sym 12 (g i) (pZ q)) k))) _ (fun i hi => ?_) ?_ rfl
 ·unfold W.jb.c100006
  rw [kR,jY (by simp only;omega)]
  have hc:W.jb.c228680 (i:Int) ((pZ q).x:Int) ((pZ q).z:Int) (pZ q).m (pe (prodP f (fun i=>sym 12 (g i) (pZ q)) i)).1 (pe (prodP f (fun i=>sym 12 (g i) (pZ q)) i)).2.1 (pe (prodP f (fun i=>sym 12 (g i) (pZ q)) i)).2.2 (lst n f) (lst n g) some=some (pe (prodP f (fun i=>sym 12 (g i) (pZ q)) (i+1))):=by
   unfold W.jb.c228680
   rw [kZ _ hi,je,kM _ hi,je]
   refine jj (pmeets_ok (hg i hi) hZ) ?_
   rw [prodP]
   cases e:sym 12 (g i) (pZ q) with
   | true=>
     rw [jN rfl,if_pos rfl]
     have hc9:W.jb.c9 (i:Int) (pe (prodP f (fun i=>sym 12 (g i) (pZ q)) i)).1 (pe (prodP f (fun i=>sym 12 (g i) (pZ q)) i)).2.1 (pe (prodP f (fun i=>sym 12 (g i) (pZ q)) i)).2.2 (lst n f) some=some (pe (mulP (prodP f (fun i=>sym 12 (g i) (pZ q)) i) (f i))):=by
      unfold W.jb.c9
      rw [kZ _ hi,je,kM _ hi,je]
      exact jj (ptimes_ok (hs i (by omega)) (hf i hi)) rfl
     exact jj hc9 rfl
   | false=>rw [jq rfl,if_neg (by decide)]
  refine jj hc ?_
  rw [js (by simp only;omega)]
  rfl
 ·unfold W.jb.c100006
  rw [kR,jP (by simp)]
theorem mloop_ok {n q a:Nat} (hn:n≤12) (hq:q < 12) (ha:a < n) {f g:Nat→Pau} (hf : ∀ i,i < n→Sm (f i)) (hg : ∀ i,i < n→Sm (g i)) :
 iter (fun s:Int×L3p×L3p↦W.jb.c100014 (a:Int) (n:Int) (Prod.fst s) ((pZ q).x:Int) ((pZ q).z:Int) (pZ q).m (pe (f a)).1 (pe (f a)).2.1 (pe (f a)).2.2 (Prod.fst (Prod.snd s)) (Prod.snd (Prod.snd s)) some) ((0:Int),lst n f,lst n g)=some ((n:Int),lst n (mF0 a q f),lst n (mG0 a q f g)):=by
 have hZ:Sm (pZ q):=pZ_sm hq
 refine kW n (fun k=>((k:Int),lst n (parF (mF0 a q f) f k),lst n (parF (mG0 a q f g) g k))) _ (fun i hi => ?_) ?_ (by rw [parF_zero,parF_zero];rfl)
 ·unfold W.jb.c100014
  rw [jY (by simp only;omega)]
  have hF:W.jb.c265541 (a:Int) (i:Int) ((pZ q).x:Int) ((pZ q).z:Int) (pZ q).m (pe (f a)).1 (pe (f a)).2.1 (pe (f a)).2.2 (lst n (parF (mF0 a q f) f i)) some=some (lst n (parF (mF0 a q f) f (i+1))):=by
   have h16:W.jb.c16 (a:Int) (i:Int) ((pZ q).x:Int) ((pZ q).z:Int) (pZ q).m (lst n (parF (mF0 a q f) f i)) some=some (decide (i≠a) && sym 12 (f i) (pZ q)):=by
    unfold W.jb.c16
    rw [ne_nat]
    by_cases e:i=a
    ·rw [jq (decide_eq_false (by simp [e])),decide_eq_false (by simp [e])];rfl
    ·rw [jN (decide_eq_true e),decide_eq_true e,kZ _ hi,je,kM _ hi,je,parF_at]
     exact jj (pmeets_ok (hf i hi) hZ) rfl
   unfold W.jb.c265541
   refine jj h16 ?_
   by_cases e:i≠a∧sym 12 (f i) (pZ q)=true
   ·rw [jN (by rw [decide_eq_true e.1,e.2];rfl)]
    have h17:W.jb.c17 (i:Int) (pe (f a)).1 (pe (f a)).2.1 (pe (f a)).2.2 (lst n (parF (mF0 a q f) f i)) some=some (lst n (parF (mF0 a q f) f (i+1))):=by
     unfold W.jb.c17
     rw [kZ _ hi,je,kM _ hi,je,parF_at]
     refine jj (ptimes_ok (hf i hi) (hf a ha)) (jj rfl (jj rfl ?_))
     rw [VR _ _ hi,← parF_up]
     unfold mF0
     rw [if_pos e]
    exact jj h17 rfl
   ·rw [jq (by
     by_cases h1:i=a
     ·rw [decide_eq_false (by simp [h1])];rfl
     ·cases h2:sym 12 (f i) (pZ q) with
      | false=>rw [Bool.and_false]
      | true=>exact absurd ⟨h1,h2⟩ e),parF_stay (by unfold mF0;rw [if_neg e])]
  have hG : ∀ (S:L3p),(bnd (W.jb.c18 (a:Int) (i:Int) ((pZ q).x:Int) ((pZ q).z:Int) (pZ q).m (lst n (parF (mG0 a q f g) g i)) some) fun y_1=>br y_1 (bnd (W.jb.c19 (i:Int) (pe (f a)).1 (pe (f a)).2.1 (pe (f a)).2.2 (lst n (parF (mG0 a q f g) g i)) some) fun y_2=>some (S,y_2)) (some (S,lst n (parF (mG0 a q f g) g i))))=some (S,lst n (parF (mG0 a q f g) g (i+1))):=by
   intro S
   have h18:W.jb.c18 (a:Int) (i:Int) ((pZ q).x:Int) ((pZ q).z:Int) (pZ q).m (lst n (parF (mG0 a q f g) g i)) some=some (decide (i≠a) && sym 12 (g i) (pZ q)):=by
    unfold W.jb.c18
    rw [ne_nat]
    by_cases e:i=a
    ·rw [jq (decide_eq_false (by simp [e])),decide_eq_false (by simp [e])];rfl
    ·rw [jN (decide_eq_true e),decide_eq_true e,kZ _ hi,je,kM _ hi,je,parF_at]
     exact jj (pmeets_ok (hg i hi) hZ) rfl
   refine jj h18 ?_
   by_cases e:i≠a∧sym 12 (g i) (pZ q)=true
   ·rw [jN (by rw [decide_eq_true e.1,e.2];rfl)]
    have h19:W.jb.c19 (i:Int) (pe (f a)).1 (pe (f a)).2.1 (pe (f a)).2.2 (lst n (parF (mG0 a q f g) g i)) some=some (lst n (parF (mG0 a q f g) g (i+1))):=by
     unfold W.jb.c19
     rw [kZ _ hi,je,kM _ hi,je,parF_at]
     refine jj (mixed_ok (hg i hi) (hf a ha)) (jj rfl (jj rfl ?_))
     rw [VR _ _ hi,← parF_up]
     unfold mG0
     rw [if_pos e]
    exact jj h19 rfl
   ·rw [jq (by
     by_cases h1:i=a
     ·rw [decide_eq_false (by simp [h1])];rfl
     ·cases h2:sym 12 (g i) (pZ q) with
      | false=>rw [Bool.and_false]
      | true=>exact absurd ⟨h1,h2⟩ e),parF_stay (by unfold mG0;rw [if_neg e])]
  refine jj (show W.jb.c261454 (a:Int) (i:Int) ((pZ q).x:Int) ((pZ q).z:Int) (pZ q).m (pe (f a)).1 (pe (f a)).2.1 (pe (f a)).2.2 (lst n (parF (mF0 a q f) f i)) (lst n (parF (mG0 a q f g) g i)) some=some (lst n (parF (mF0 a q f) f (i+1)),lst n (parF (mG0 a q f g) g (i+1))) from jj hF (hG _)) ?_
  rw [js (by simp only;omega)]
  rfl
 ·unfold W.jb.c100014
  rw [jP (by simp),lst_parF,lst_parF]
theorem measure_ok {n q:Nat} (hn:n≤12) (hq:q < n) {f g:Nat→Pau} {v:KV} (t:Tab n f g v) (b:Bool) :
 (∃ f' g',W.jb (q:Int) (bi b) (n:Int) (lst n f) (lst n g)=some (true,lst n f',lst n g',(n:Int),())∧Tab n f' g' (outB q b v)) ∨
 (W.jb (q:Int) (bi b) (n:Int) (lst n f) (lst n g)=some (false,lst n f,lst n g,(n:Int),())∧outB q b v=fun _=>K.zero):=by
 have hq12:q < 12:=by omega
 have hf : ∀ i,i < n→Sm (f i):=fun i hi=>(t.fF i hi).sm hn
 have hg : ∀ i,i < n→Sm (g i):=fun i hi=>(t.gF i hi).sm hn
 have hZ:Sm (pZ q):=pZ_sm hq12
 have ef : ∀ i,i < n→sym 12 (f i) (pZ q)=sym n (f i) (pZ q):=fun i hi=>UX (t.fF i hi) hn
 have eg : ∀ i,i < n→sym 12 (g i) (pZ q)=sym n (g i) (pZ q):=fun i hi=>UX (t.gF i hi) hn
 have eb:(bi b == (1:Int))=b:=by cases b <;> rfl
 rcases index_ok hn hf hZ with ⟨a,ha,hs,hidx⟩ | ⟨hall,hidx⟩
 ·left
  refine ⟨mF n a q b f,mG n a q f g,?_,t.measure hn ha hq (by rw [← ef a ha];exact hs) b⟩
  unfold W.jb
  rw [ge0,je,pw_u64 hq12]
  refine jj hidx ?_
  rw [jP (by simp only;omega)]
  simp only
  rw [kZ _ ha,je,kM _ ha,je]
  refine jj (mloop_ok hn hq12 ha hf hg) ?_
  have h21:W.jb.c21 (a:Int) (lst n (mG0 a q f g)) some=some ():=by
   unfold W.jb.c21
   rw [kZ _ ha,je,kM _ ha,je]
  have h23:W.jb.c23 (a:Int) (lst n (mF0 a q f)) some=some ():=by
   unfold W.jb.c23
   rw [kZ _ ha,je,kM _ ha,je]
  refine jj h21 (jj h23 ?_)
  simp only
  rw [eb]
  have e1:=VR (n:=n) (mF0 a q f) ⟨0,2 ^ q,b⟩ ha
  have e2:=VR (n:=n) (mG0 a q f g) (f a) ha
  have c1:lst n (updF (mF0 a q f) a ⟨0,2 ^ q,b⟩)=lst n (mF n a q b f):=Vk fun i hi=>by
   unfold mF
   by_cases e:i=a
   ·subst e;rw [Yb,if_pos rfl]
   ·rw [kT _ _ e,if_neg e]
    unfold mF0
    rw [← ef i hi]
    by_cases h:sym 12 (f i) (pZ q)=true
    ·rw [if_pos ⟨e,h⟩,if_pos h]
    ·rw [if_neg fun x=>h x.2,if_neg h]
  have c2:lst n (updF (mG0 a q f g) a (f a))=lst n (mG n a q f g):=Vk fun i hi=>by
   unfold mG
   by_cases e:i=a
   ·subst e;rw [Yb,if_pos rfl]
   ·rw [kT _ _ e,if_neg e]
    unfold mG0
    rw [← eg i hi]
    by_cases h:sym 12 (g i) (pZ q)=true
    ·rw [if_pos ⟨e,h⟩,if_pos h]
    ·rw [if_neg fun x=>h x.2,if_neg h]
  rw [c1] at e1
  rw [c2] at e2
  rw [← e1,← e2]
  rfl
 ·obtain ⟨k1,k2⟩:=t.given hn hq (fun i hi=>by rw [← ef i hi];exact hall i hi) b
  have hT:prodP f (fun i=>sym n (g i) (pZ q)) n=prodP f (fun i=>sym 12 (g i) (pZ q)) n:=prod_congr fun i hi=>(eg i hi).symm
  rw [hT] at k1 k2
  have hrun:W.jb (q:Int) (bi b) (n:Int) (lst n f) (lst n g)=some ((prodP f (fun i=>sym 12 (g i) (pZ q)) n).m == b,lst n f,lst n g,(n:Int),()):=by
   unfold W.jb
   rw [ge0,je,pw_u64 hq12]
   refine jj hidx ?_
   rw [jY (by simp only;omega)]
   refine jj (msum_ok hn hq12 hf hg) ?_
   rw [eb]
   rfl
  by_cases h:(prodP f (fun i=>sym 12 (g i) (pZ q)) n).m=b
  ·left
   refine ⟨f,g,?_,by rw [k1 h];exact t⟩
   rw [hrun,h]
   simp
  ·right
   refine ⟨?_,k2 h⟩
   rw [hrun,beq_false_of_ne h]
end Go.Ql
end

section
set_option linter.unusedSectionVars false
set_option linter.unusedVariables false
set_option maxHeartbeats 1000000
namespace Go.Ql
theorem TabE.sm {n:Nat} (hn:n≤12) {f:Nat→Pau} {v:KV} (t:TabE n f v) : ∀ i,i < n→Sm (f i):=by
 obtain ⟨g,t⟩:=t
 exact fun i hi=>(t.fF i hi).sm hn
theorem has_ok {n c:Nat} (hn:n≤12) (hc:c < 2*n) {p:Pau} (hp:Sm p):W.Jv (pe p) (c:Int) (n:Int)=some (hasP n c p,(c:Int),(n:Int),()):=by
 unfold W.Jv hasP
 by_cases h:c < n
 ·rw [jY (by omega),ge0,je,if_pos h]
  show some (ibits .and .u64 (Int.fdiv (p.x:Int) ((2:Int) ^ Min.min (Int.toNat (c:Int)) 64)) 1 == 1,_)=_
  rw [kY hp.1 (by omega),eq_one]
 ·rw [jP (by omega),js (by omega),show ((c:Int) - (n:Int))=((c - n:Nat):Int) by omega,ge0,je,if_neg h]
  show some (ibits .and .u64 (Int.fdiv (p.z:Int) ((2:Int) ^ Min.min (Int.toNat ((c - n:Nat):Int)) 64)) 1 == 1,_)=_
  rw [kY hp.2 (by omega),eq_one]
theorem find_ok {n c d:Nat} (hn:n≤12) (hc:c < 2*n) (hd:d≤n) {f:Nat→Pau} (hf : ∀ i,i < n→Sm (f i)) :
 ∃ a,d≤a∧a≤n∧(∀ i,d≤i→i < a→hasP n c (f i)=false)∧(a < n→hasP n c (f a)=true) ∧
  iter (fun s:Int×Int×Int↦W.jg.c100008 (Prod.fst s) (Prod.fst (Prod.snd s)) (Prod.snd (Prod.snd s)) (lst n f) some) ((d:Int),(n:Int),(c:Int))=some ((a:Int),(n:Int),(c:Int)):=by
 obtain ⟨x,h1,a,q1,q2,q3,q4,rfl⟩:=JJ (f:=fun s:Int×Int×Int↦W.jg.c100008 (Prod.fst s) (Prod.fst (Prod.snd s)) (Prod.snd (Prod.snd s)) (lst n f) some) (n - d)
  (fun k s=>s=(((d+k:Nat):Int),(n:Int),(c:Int)) ∧ ∀ i,d≤i→i < d+k→hasP n c (f i)=false)
  (fun x => ∃ a,d≤a∧a≤n∧(∀ i,d≤i→i < a→hasP n c (f i)=false)∧(a < n→hasP n c (f a)=true)∧x=((a:Int),(n:Int),(c:Int)))
  (by
   rintro k s hk ⟨rfl,hall⟩
   have h8:W.jg.c8 ((d+k:Nat):Int) (n:Int) (c:Int) (lst n f) some=some (!hasP n c (f (d+k)),(n:Int),(c:Int)):=by
    unfold W.jg.c8
    rw [jY (by rw [kR];omega),kZ _ (by omega),je,kM _ (by omega),je]
    exact jj (has_ok hn hc (hf _ (by omega))) rfl
   cases e:hasP n c (f (d+k)) with
   | true=>
     right
     refine ⟨(((d+k:Nat):Int),(n:Int),(c:Int)),?_,d+k,by omega,by omega,hall,fun _=>e,rfl⟩
     unfold W.jg.c100008
     rw [e] at h8
     refine jj h8 ?_
     rw [jq (by rfl)]
   | false=>
     left
     refine ⟨(((d+(k+1):Nat):Int),(n:Int),(c:Int)),?_,rfl,fun i hi hik => ?_⟩
     ·unfold W.jg.c100008
      rw [e] at h8
      refine jj h8 ?_
      rw [jN (by rfl),js (by simp only;omega)]
      rfl
     ·by_cases h:i=d+k
      ·rw [h];exact e
      ·exact hall i hi (by omega))
  (by
   rintro s ⟨rfl,hall⟩
   refine ⟨((n:Int),(n:Int),(c:Int)),?_,n,hd,Nat.le_refl n,fun i hi hik=>hall i hi (by omega),fun h=>absurd h (Nat.lt_irrefl n),rfl⟩
   unfold W.jg.c100008 W.jg.c8
   rw [jP (by rw [kR];omega),je,jq rfl]
   rw [show d+(n - d)=n by omega])
  (s:=((d:Int),(n:Int),(c:Int))) ⟨rfl,fun i h1 h2=>by omega⟩
 exact ⟨a,q1,q2,q3,q4,h1⟩
theorem swap_ok {n a d:Nat} (ha:a < n) (hd:d < n) (f:Nat→Pau):W.jg.c11 (d:Int) (a:Int) (lst n f) some=some (lst n fun i=>f (tr d a i)):=by
 unfold W.jg.c11
 rw [kZ _ ha,je,kM _ ha,je,kZ _ hd,je,kM _ hd,je,je,je,VR _ _ hd,kZ _ ha,je,kM _ ha,je,VR _ _ ha]
 congr 1
 apply Vk
 intro i hi
 unfold tr
 by_cases h1:i=a
 ·subst h1
  rw [Yb]
  by_cases h2:i=d
  ·rw [if_pos h2,h2]
  ·rw [if_neg h2,if_pos rfl]
 ·rw [kT _ _ h1]
  by_cases h2:i=d
  ·subst h2;rw [Yb,if_pos rfl]
  ·rw [kT _ _ h2,if_neg h2,if_neg h1]
theorem elim_ok {n c d:Nat} (hn:n≤12) (hc:c < 2*n) (hd:d < n) {f:Nat→Pau} (hf : ∀ i,i < n→Sm (f i)) :
 iter (fun s:Int×Int×Int×L3p↦W.jg.c100013 (d:Int) (↑(List.length (lst n f)):Int) (Prod.fst s) (Prod.fst (Prod.snd s)) (Prod.fst (Prod.snd (Prod.snd s))) (Prod.snd (Prod.snd (Prod.snd s))) some) ((0:Int),(n:Int),(c:Int),lst n f)=some ((n:Int),(n:Int),(c:Int),lst n (elF n d c n f)):=by
 refine kW n (fun k=>((k:Int),(n:Int),(c:Int),lst n (elF n d c k f))) _ (fun i hi => ?_) ?_ (by rw [elF_zero];rfl)
 ·unfold W.jg.c100013
  rw [kR,jY (by simp only;omega)]
  have h15:W.jg.c15 (d:Int) (i:Int) (n:Int) (c:Int) (lst n (elF n d c i f)) some=some (decide (i≠d) && hasP n c (f i),(n:Int),(c:Int)):=by
   unfold W.jg.c15
   rw [ne_nat]
   by_cases e:i=d
   ·rw [jq (decide_eq_false (by simp [e])),decide_eq_false (by simp [e])];rfl
   ·rw [jN (decide_eq_true e),decide_eq_true e,kZ _ hi,je,kM _ hi,je,Hz f (Nat.le_refl i)]
    exact jj (has_ok hn hc (hf i hi)) rfl
  have hcc:W.jg.c257352 (d:Int) (i:Int) (n:Int) (c:Int) (lst n (elF n d c i f)) some=some ((n:Int),(c:Int),lst n (elF n d c (i+1) f)):=by
   unfold W.jg.c257352
   refine jj h15 ?_
   by_cases e:i≠d∧hasP n c (f i)=true
   ·rw [jN (by show (decide (i≠d) && hasP n c (f i))=true;rw [decide_eq_true e.1,e.2];rfl)]
    have h16:W.jg.c16 (d:Int) (i:Int) (lst n (elF n d c i f)) some=some (lst n (elF n d c (i+1) f)):=by
     unfold W.jg.c16
     rw [kZ _ hi,je,kM _ hi,je,kZ _ hd,je,kM _ hd,je,Hz f (Nat.le_refl i),elF_d]
     refine jj (ptimes_ok (hf i hi) (hf d hd)) (jj rfl (jj rfl ?_))
     rw [VR _ _ hi,elF_succ,if_pos e,Hz f (Nat.le_refl i),elF_d]
    exact jj h16 rfl
   ·rw [jq (by
     show (decide (i≠d) && hasP n c (f i))=false
     by_cases h1:i=d
     ·rw [decide_eq_false (by simp [h1])];rfl
     ·cases h2:hasP n c (f i) with
      | false=>rw [Bool.and_false]
      | true=>exact absurd ⟨h1,h2⟩ e),elF_succ,if_neg e]
  refine jj hcc ?_
  rw [js (by simp only;omega)]
  rfl
 ·unfold W.jg.c100013
  rw [kR,jP (by simp)]
theorem reduced_ok {n:Nat} (hn:n≤12) {f:Nat→Pau} {v:KV} (t:TabE n f v) :
 ∃ f' c,W.jg (lst n f) (n:Int)=some (lst n f')∧TabE n f' v∧Red n (2*n) n f' c:=by
 have hw:IntKind.i64.wrap ((2:Int)*(n:Int))=((2*n:Nat):Int):=by rw [js (by omega)];simp
 obtain ⟨x,h1,d,f',c,rfl,h2,h3⟩:=JJ (f:=fun s:Int×Int×Int×L3p↦W.jg.c100004 (Prod.fst s) (IntKind.i64.wrap ((2:Int)*(n:Int))) (Prod.fst (Prod.snd s)) (Prod.fst (Prod.snd (Prod.snd s))) (Prod.snd (Prod.snd (Prod.snd s))) some) (2*n)
  (fun col s => ∃ (d:Nat) (f':Nat→Pau) (c:Nat→Nat),s=((d:Int),(col:Int),(n:Int),lst n f')∧TabE n f' v∧Red n col d f' c)
  (fun x => ∃ (d:Nat) (f':Nat→Pau) (c:Nat→Nat),x=((d:Int),((2*n:Nat):Int),(n:Int),lst n f')∧TabE n f' v∧Red n (2*n) d f' c)
  (by
   rintro col s hcol ⟨d,f',c,rfl,h2,h3⟩
   left
   have hf:=h2.sm hn
   obtain ⟨a,q1,q2,q3,q4,q5⟩:=find_ok hn hcol h3.dn hf
   by_cases ha:a=n
   ·subst ha
    refine ⟨((d:Int),((col+1:Nat):Int),(a:Int),lst a f'),?_,d,f',c,rfl,h2,h3.none fun i hi hia=>q3 i hi hia⟩
    unfold W.jg.c100004
    rw [hw,jY (by simp only;omega)]
    have hc:W.jg.c220528 (d:Int) (col:Int) (a:Int) (lst a f') some=some ((d:Int),(a:Int),lst a f'):=by
     unfold W.jg.c220528
     refine jj q5 ?_
     rw [jN (by rw [kR];simp)]
    refine jj hc ?_
    rw [js (by simp only;omega)]
    rfl
   ·have han:a < n:=by omega
    have hdn:d < n:=by omega
    have hsw:TabE n (fun i=>f' (tr d a i)) v:=by
     obtain ⟨g,tg⟩:=h2
     exact ⟨_,tg.swap hdn han⟩
    refine ⟨(((d+1:Nat):Int),((col+1:Nat):Int),(n:Int),lst n (elF n d col n fun i=>f' (tr d a i))),?_,d+1,_,_,rfl,hsw.el hn hdn col (Nat.le_refl n),h3.some q1 han (q4 han)⟩
    unfold W.jg.c100004
    rw [hw,jY (by simp only;omega)]
    have hc:W.jg.c220528 (d:Int) (col:Int) (n:Int) (lst n f') some=some (((d+1:Nat):Int),(n:Int),lst n (elF n d col n fun i=>f' (tr d a i))):=by
     unfold W.jg.c220528
     refine jj q5 ?_
     rw [jq (by rw [kR];simp;omega)]
     refine jj (swap_ok han hdn f') (jj (elim_ok hn hcol hdn (hsw.sm hn)) ?_)
     rw [js (by omega)]
     rfl
    refine jj hc ?_
    rw [js (by simp only;omega)]
    rfl)
  (by
   rintro s ⟨d,f',c,rfl,h2,h3⟩
   refine ⟨((d:Int),((2*n:Nat):Int),(n:Int),lst n f'),?_,d,f',c,rfl,h2,h3⟩
   unfold W.jg.c100004
   rw [hw,jP (by simp)])
  (s:=((0:Int),(0:Int),(n:Int),lst n f)) ⟨0,f,fun _=>0,rfl,t,Red.zero n f _⟩
 have hd:=h3.done h2
 subst hd
 refine ⟨f',c,?_,h2,h3⟩
 unfold W.jg
 refine jj (Vc (n:=0+(lst d f).length) (k:=24) (by rw [kR];omega)) (jj h1 rfl)
end Go.Ql
end

section
set_option linter.unusedSectionVars false
set_option linter.unusedVariables false
set_option maxHeartbeats 1000000
namespace Go.Ql
theorem sto5 {n:Nat} {b:Int} {o:GOp} (h:GoodOp o (n:Int) b) (h5:o.1 < 5) (hn:nrmO o=true):StO n o:=by
 have h6:=(ctlBad_zero.1 h.ctls).1
 have hk1:=h.kind
 have hk0:=h.k
 have hk:o.1=1∨o.1=2∨o.1=3∨o.1=4:=by omega
 refine ⟨h.q,fun c hc=>⟨⟨(h6 c hc).1,(h6 c hc).2.1⟩,(h6 c hc).2.2.1⟩,h.k,?_⟩
 unfold nrmO at hn
 rcases hk with hk | hk | hk | hk
 ·refine .inr (.inr (.inr (.inr ⟨hk,?_⟩)))
  rcases h.ctl with e | e
  ·exact e
  ·omega
 ·rw [if_pos hk] at hn
  exact .inl ⟨hk,by have:=of_decide_eq_true hn;omega⟩
 ·rw [if_neg (by omega),if_pos hk] at hn
  refine .inr (.inl ⟨hk,List.eq_nil_of_length_eq_zero (of_decide_eq_true hn)⟩)
 ·rw [if_neg (by omega),if_neg (by omega),if_pos hk] at hn
  rw [Int.tmod_eq_emod_of_nonneg hk0.1,Int.tmod_eq_emod_of_nonneg hk0.1] at hn
  simp only [Bool.or_eq_true,Bool.and_eq_true,decide_eq_true_eq] at hn
  rcases hn with ⟨a,b⟩ | ⟨a,b⟩
  ·exact .inr (.inr (.inl ⟨hk,List.eq_nil_of_length_eq_zero a,b⟩))
  ·exact .inr (.inr (.inr (.inl ⟨hk,a,b⟩)))
theorem okp_of {n bn:Nat} (hn:n≤12) {o:GOp} (h:GoodOp o (n:Int) (bn:Int)) (hr:nrmO o=true):OkP o n bn:=by
 have h6:=(ctlBad_zero.1 h.ctls).1
 have h24:=h.ifs
 refine ⟨⟨h.q,h.k.1,fun q hq=>by have:=h6 q hq;omega,?_,fun hm=>(h6 _ hm).2.2.1 rfl⟩,by omega,fun c hc => ?_,fun h5 => ?_⟩
 ·by_cases h5:o.1 < 5
  ·exact (ok1_sto hn (sto5 h h5 hr)).len
  ·rcases h.ctl with e | e
   ·rw [e];decide
   ·omega
 ·have hcond:=h.cond
  unfold ifBad at hcond
  have : ¬ (c=0∨(bn:Int) < c∨c < -(bn:Int)):=fun hh=>hcond ⟨c,hc,hh⟩
  omega
 ·rcases h.bit with hb | hb
  ·exact hb.2
  ·exact absurd h5 hb.1
def B01 (bits:List Int):Prop:=∀ j,bits.getD j 0=0∨bits.getD j 0=1
theorem B01.zero (n:Nat):B01 (List.replicate n 0):=fun j=>by
 left
 rw [List.getD,List.getElem?_replicate]
 split <;> rfl
theorem B01.set {bits:List Int} (h:B01 bits) (i:Nat) {b:Int} (hb:b=0∨b=1):B01 (bits.set i b):=fun j=>by
 rw [List.getD,List.getElem?_set]
 by_cases e:i=j
 ·rw [if_pos e]
  split
  ·exact hb
  ·exact .inl rfl
 ·rw [if_neg e];exact h j
theorem holds_ok {o:GOp} {bits:List Int} (hn:o.2.2.2.2.2.length < 2 ^ 62) (hb:bits.length < 2 ^ 62) (hc : ∀ c∈o.2.2.2.2.2,c≠0∧c≤bits.length ∧ -c≤bits.length) (h01:B01 bits):W.jI o bits=some (condK bits o):=by
 obtain ⟨o0,o1,o2,o3,o4,l⟩:=o
 simp only at *
 obtain ⟨y,h1,h2⟩:=JJ (f:=fun s:Int↦W.jI.c100002 bits l (↑(List.length l):Int) s some) l.length
  (fun i s=>s=(i:Int) ∧ ∀ j,j < i→((decide (l.getD j 0≤0) || bits.getD (l.getD j 0 - 1).toNat 0 == 1) && (decide (0≤l.getD j 0) || bits.getD (-l.getD j 0 - 1).toNat 0 == 0))=true)
  (fun y=>(∃ i,y = .inl i∧condK bits (o0,o1,o2,o3,o4,l)=false)∨(∃ i,y = .inr i∧condK bits (o0,o1,o2,o3,o4,l)=true))
  (by
   rintro i s hi ⟨rfl,h2⟩
   have hm:l.getD i 0∈l:=by
    have e:l.getD i 0=l[i]:=by simp [hi]
    rw [e];exact List.getElem_mem hi
   obtain ⟨c0,c1,c2⟩:=hc _ hm
   have hbad:((decide (l.getD i 0≤0) || bits.getD (l.getD i 0 - 1).toNat 0 == 1) && (decide (0≤l.getD i 0) || bits.getD (-l.getD i 0 - 1).toNat 0 == 0))=false→condK bits (o0,o1,o2,o3,o4,l)=false:=fun hf=>by
    rw [← Bool.not_eq_true]
    intro ht
    unfold condK at ht
    rw [List.all_eq_true] at ht
    have:=ht _ hm
    rw [hf] at this
    cases this
   have hgo:((decide (l.getD i 0≤0) || bits.getD (l.getD i 0 - 1).toNat 0 == 1) && (decide (0≤l.getD i 0) || bits.getD (-l.getD i 0 - 1).toNat 0 == 0))=true → ∀ j,j < i+1→((decide (l.getD j 0≤0) || bits.getD (l.getD j 0 - 1).toNat 0 == 1) && (decide (0≤l.getD j 0) || bits.getD (-l.getD j 0 - 1).toNat 0 == 0))=true:=fun ht j hj=>by
    by_cases e:j=i
    ·rw [e];exact ht
    ·exact h2 j (by omega)
   simp only [W.jI.c100002,W.jI.c4]
   rw [jY (by omega),kA i rfl hi,je]
   generalize l.getD i 0=c at *
   by_cases hp:c > 0
   ·rw [jY hp,js (by omega),kA (c - 1).toNat (by omega) (by omega),je]
    have e2:decide (0≤c)=true:=decide_eq_true (by omega)
    have e1:decide (c≤0)=false:=decide_eq_false (by omega)
    rw [e1,e2] at hbad hgo
    rcases h01 (c - 1).toNat with hv | hv
    ·rw [jN (by rw [hv];rfl),je,jN rfl]
     exact .inr ⟨_,rfl,.inl ⟨_,rfl,hbad (by rw [hv];rfl)⟩⟩
    ·rw [jq (by rw [hv];rfl),jP (by omega),je,jq rfl,js (by omega)]
     exact .inl ⟨_,rfl,by omega,hgo (by rw [hv];rfl)⟩
   ·rw [jP hp,jY (by omega),js (x:=0 - c) (by omega),js (by omega),Int.zero_sub,kA (-c - 1).toNat (by omega) (by omega),je]
    have e2:decide (0≤c)=false:=decide_eq_false (by omega)
    have e1:decide (c≤0)=true:=decide_eq_true (by omega)
    rw [e1,e2] at hbad hgo
    rcases h01 (-c - 1).toNat with hv | hv
    ·rw [je,jq (by rw [hv];rfl),js (by omega)]
     exact .inl ⟨_,rfl,by omega,hgo (by rw [hv];rfl)⟩
    ·rw [je,jN (by rw [hv];rfl)]
     exact .inr ⟨_,rfl,.inl ⟨_,rfl,hbad (by rw [hv];rfl)⟩⟩)
  (by
   rintro s ⟨rfl,h2⟩
   refine ⟨.inr (l.length:Int),?_,.inr ⟨_,rfl,?_⟩⟩
   ·simp only [W.jI.c100002]
    rw [jP (by omega)]
   ·unfold condK
    rw [List.all_eq_true]
    intro c hc
    obtain ⟨j,hj,rfl⟩:=List.mem_iff_getElem.1 hc
    have:=h2 j hj
    rw [show l.getD j 0=l[j] by simp [hj]] at this
    exact this)
  (s:=(0:Int)) ⟨rfl,fun j hj=>absurd hj (Nat.not_lt_zero _)⟩
 unfold W.jI
 refine jj h1 ?_
 rcases h2 with ⟨i,rfl,e⟩ | ⟨i,rfl,e⟩
 ·rw [JS,e]
 ·rw [JZ,e]
open Classical in
noncomputable def stabK (tape:List Int):Nat→List GOp→SK→(Int×Nat)⊕SK
 | _,[],s => .inr s
 | i,o::l,s=>
   if condK s.2.1 o=false then stabK tape (i+1) l s
   else if o.1 < 5 then stabK tape (i+1) l (gateK o s.1,s.2.1,s.2.2)
   else if s.2.2=tape.length then .inl (19,i)
   else if tape.getD s.2.2 0≠0∧tape.getD s.2.2 0≠1 then .inl (20,i)
   else if outK o.2.2.2.1 (tape.getD s.2.2 0) s.1=(fun _=>K.zero) then .inl (20,i)
   else stabK tape (i+1) l (meetK o (tape.getD s.2.2 0) s)
abbrev TS:=Int×Int×Int×List Int×L3p×L3p
theorem run_loop {n bn:Nat} {ops:List GOp} {tape:List Int} (hn:n≤12) (hbn:bn < 2 ^ 40) (hl:ops.length≤8000) (ht:tape.length < 2 ^ 62) (hops : ∀ o∈ops,OkP o n bn) (hsto : ∀ o∈ops,o.1 < 5→StO n o)
 {f g:Nat→Pau} {v:KV} (t:Tab n f g v) :
 ∃ y,iter (fun s:TS↦W.ji.c100012 tape (Prod.fst s) ops (↑(List.length ops):Int) (Prod.fst (Prod.snd s)) (Prod.fst (Prod.snd (Prod.snd s))) (Prod.fst (Prod.snd (Prod.snd (Prod.snd s)))) (Prod.fst (Prod.snd (Prod.snd (Prod.snd (Prod.snd s))))) (Prod.snd (Prod.snd (Prod.snd (Prod.snd (Prod.snd s))))) some) ((0:Int),(0:Int),(n:Int),List.replicate bn 0,lst n f,lst n g)=some y ∧
  ((∃ u x,y = .inl u∧stabK tape 0 ops (v,List.replicate bn 0,0) = .inl x∧u.1=[]∧u.2.1=[]∧u.2.2.1=0∧u.2.2.2.2.2.1=x.1∧u.2.2.2.2.2.2.1=(x.2:Int)) ∨
   (∃ (s:SK) (f' g':Nat→Pau),y = .inr ((s.2.2:Int),(ops.length:Int),(n:Int),s.2.1,lst n f',lst n g')∧stabK tape 0 ops (v,List.replicate bn 0,0) = .inr s∧Tab n f' g' s.1)):=by
 obtain ⟨R,hR⟩ : ∃ R,stabK tape 0 ops (v,List.replicate bn 0,0)=R:=⟨_,rfl⟩
 rw [hR]
 refine JJ (f:=fun s:TS↦W.ji.c100012 tape (Prod.fst s) ops (↑(List.length ops):Int) (Prod.fst (Prod.snd s)) (Prod.fst (Prod.snd (Prod.snd s))) (Prod.fst (Prod.snd (Prod.snd (Prod.snd s)))) (Prod.fst (Prod.snd (Prod.snd (Prod.snd (Prod.snd s))))) (Prod.snd (Prod.snd (Prod.snd (Prod.snd (Prod.snd s))))) some) ops.length
  (fun i s => ∃ (v:KV) (bits:List Int) (used:Nat) (f g:Nat→Pau),s=((used:Int),(i:Int),(n:Int),bits,lst n f,lst n g)∧Tab n f g v∧bits.length=bn∧B01 bits∧used≤tape.length∧stabK tape i (ops.drop i) (v,bits,used)=R) _ ?_ ?_ (s:=((0:Int),(0:Int),(n:Int),List.replicate bn 0,lst n f,lst n g)) ⟨v,List.replicate bn 0,0,f,g,rfl,t,by simp,B01.zero bn,Nat.zero_le _,hR⟩
 ·rintro i s hi ⟨v,bits,used,f,g,rfl,t,p5,p01,p6,p7⟩
  have hm:ops[i]∈ops:=List.getElem_mem hi
  have hd:ops.drop i=ops[i]::ops.drop (i+1):=List.drop_eq_getElem_cons hi
  rw [hd] at p7
  simp only [stabK] at p7
  obtain ⟨o,ho⟩ : ∃ o,ops[i]=o:=⟨_,rfl⟩
  rw [ho] at hm p7
  have hk:=hops o hm
  have hidx:idx ops (i:Int)=some o:=by rw [Yd hi,ho]
  have hcond:=holds_ok (o:=o) (bits:=bits) hk.ifs (by rw [p5];omega) (by rw [p5];exact hk.cond) p01
  have hf : ∀ i,i < n→Sm (f i):=fun i hi=>(t.fF i hi).sm hn
  have hg : ∀ i,i < n→Sm (g i):=fun i hi=>(t.gF i hi).sm hn
  have hw:IntKind.i64.wrap ((i:Int)+1)=((i+1:Nat):Int):=by rw [js (by omega)];omega
  unfold W.ji.c100012
  rw [jY (by simp only;omega)]
  by_cases hc:condK bits o=false
  ·rw [if_pos hc] at p7
   refine .inl ⟨((used:Int),((i+1:Nat):Int),(n:Int),bits,lst n f,lst n g),?_,v,bits,used,f,g,rfl,t,p5,p01,p6,p7⟩
   refine jj (x:=.inl ((used:Int),(n:Int),bits,lst n f,lst n g)) ?_ (by rw [JS,hw])
   unfold W.ji.c253291
   rw [hidx,je]
   refine jj hcond ?_
   rw [hc,jN (by rfl)]
  ·rw [if_neg hc] at p7
   have hc':condK bits o=true:=by simpa using hc
   by_cases h5:o.1 < 5
   ·rw [if_pos h5] at p7
    have hst:=hsto o hm h5
    refine .inl ⟨((used:Int),((i+1:Nat):Int),(n:Int),bits,lst n (fun i=>gP o (f i)),lst n (fun i=>gP o (g i))),?_,_,bits,used,_,_,rfl,t.gate hn hst,p5,p01,p6,p7⟩
    refine jj (x:=.inl ((used:Int),(n:Int),bits,lst n (fun i=>gP o (f i)),lst n (fun i=>gP o (g i)))) ?_ (by rw [JS,hw])
    unfold W.ji.c253291
    rw [hidx,je]
    refine jj hcond ?_
    rw [hc',jq (by rfl),jY h5]
    exact jj (tgate_ok hn hn hst hf hg) rfl
   ·rw [if_neg h5] at p7
    have hkind : ¬ o.1 < 5:=h5
    have hq:=hk.gate.q
    obtain ⟨q,hqn⟩ : ∃ q:Nat,o.2.2.2.1=(q:Int):=⟨o.2.2.2.1.toNat,by omega⟩
    have hqlt:q < n:=by omega
    by_cases hu:used=tape.length
    ·rw [if_pos hu] at p7
     refine .inr ⟨.inl ([],[],(0:Int),(used:Int),(i:Int),(19:Int),(i:Int),(n:Int),bits,lst n f,lst n g),?_,.inl ⟨_,_,rfl,p7.symm,rfl,rfl,rfl,rfl,rfl⟩⟩
     refine jj (x:=.inr ([],[],(0:Int),(19:Int),(i:Int),(n:Int),lst n f,lst n g)) ?_ (by rw [JZ])
     unfold W.ji.c253291
     rw [hidx,je]
     refine jj hcond ?_
     rw [hc',jq (by rfl),jP h5,jN (by simp [hu])]
     rfl
    ·rw [if_neg hu] at p7
     obtain ⟨b,hb⟩ : ∃ b,tape.getD used 0=b:=⟨_,rfl⟩
     have hti:idx tape (used:Int)=some b:=by rw [kA used rfl (by omega),hb]
     rw [hb] at p7
     by_cases hbad:b≠0∧b≠1
     ·rw [if_pos hbad] at p7
      refine .inr ⟨.inl ([],[],(0:Int),(used:Int),(i:Int),(20:Int),(i:Int),(n:Int),bits,lst n f,lst n g),?_,.inl ⟨_,_,rfl,p7.symm,rfl,rfl,rfl,rfl,rfl⟩⟩
      refine jj (x:=.inr ([],[],(0:Int),(20:Int),(i:Int),(n:Int),lst n f,lst n g)) ?_ (by rw [JZ])
      unfold W.ji.c253291
      rw [hidx,je]
      refine jj hcond ?_
      rw [hc',jq (by rfl),jP h5,jq (beq_false_of_ne (by omega)),hti,je]
      have h20:W.ji.c20 b o.2.2.2.1 (n:Int) (lst n f) (lst n g) some=some (true,(n:Int),lst n f,lst n g):=by
       unfold W.ji.c20
       rw [jN (by simpa using hbad.1),jN (by simpa using hbad.2)]
      refine jj h20 ?_
      rw [jN (by rfl)]
      rfl
     ·rw [if_neg hbad] at p7
      have hb01:b=0∨b=1:=by omega
      obtain ⟨B,hB⟩ : ∃ B:Bool,b=bi B:=by
       rcases hb01 with e | e
       ·exact ⟨false,e⟩
       ·exact ⟨true,e⟩
      have hout:outK o.2.2.2.1 b v=outB q B v:=by
       funext y
       unfold outK outB
       rw [bt_eq,hqn,Int.toNat_natCast,hB]
       cases B <;> rfl
      have h20 : ∀ ok S T,W.jb (q:Int) (bi B) (n:Int) (lst n f) (lst n g)=some (ok,S,T,(n:Int),())→W.ji.c20 b o.2.2.2.1 (n:Int) (lst n f) (lst n g) some=some (!ok,(n:Int),S,T):=fun ok S T he=>by
       unfold W.ji.c20
       rw [hqn,hB]
       cases B with
       | false=>rw [jq (by rfl)];exact jj he rfl
       | true=>rw [jN (by rfl),jq (by rfl)];exact jj he rfl
      rcases measure_ok hn hqlt t B with ⟨f',g',e1,e2⟩ | ⟨e1,e2⟩
      ·have hne : ¬ outK o.2.2.2.1 b v=(fun _=>K.zero):=fun hz=>by
        obtain ⟨y,hy⟩:=e2.some
        rw [← hout,hz] at hy
        exact hy rfl
       rw [if_neg hne] at p7
       unfold meetK at p7
       simp only at p7
       rw [hout] at p7
       have h20':=h20 _ _ _ e1
       have hf' : ∀ i,i < n→Sm (f' i):=fun i hi=>(e2.fF i hi).sm hn
       have hg' : ∀ i,i < n→Sm (g' i):=fun i hi=>(e2.gF i hi).sm hn
       have hwu:IntKind.i64.wrap ((used:Int)+(1:Int))=((used+1:Nat):Int):=by rw [js (by omega)];omega
       by_cases hm5:o.1=5
       ·have hbit:=hk.bit hm5
        rw [if_neg (fun h=>h.1 hm5),if_pos hm5] at p7
        refine .inl ⟨(((used+1:Nat):Int),((i+1:Nat):Int),(n:Int),bits.set o.2.2.2.2.1.toNat b,lst n f',lst n g'),?_,_,_,used+1,f',g',rfl,e2,by rw [List.length_set];exact p5,p01.set _ hb01,by omega,p7⟩
        refine jj (x:=.inl (((used+1:Nat):Int),(n:Int),bits.set o.2.2.2.2.1.toNat b,lst n f',lst n g')) ?_ (by rw [JS,hw])
        unfold W.ji.c253291
        rw [hidx,je]
        refine jj hcond ?_
        rw [hc',jq (by rfl),jP h5,jq (beq_false_of_ne (by omega)),hti,je]
        refine jj h20' ?_
        rw [jq (by rfl),jN (by simpa using hm5),HA hbit.1 (by rw [p5];exact hbit.2),je,kA o.2.2.2.2.1.toNat (by omega) (by rw [p5];omega),je,hwu]
       ·rw [if_neg hm5] at p7
        by_cases hb1:b=1
        ·rw [if_pos ⟨hm5,hb1⟩,← UJ [] 0 o.2.2.2.1 0 []] at p7
         have hX:StO n (2,0,[],o.2.2.2.1,0,[]):=by rw [hqn];exact StO_X hqlt
         refine .inl ⟨(((used+1:Nat):Int),((i+1:Nat):Int),(n:Int),bits,lst n (fun i=>gP (2,0,[],o.2.2.2.1,0,[]) (f' i)),lst n (fun i=>gP (2,0,[],o.2.2.2.1,0,[]) (g' i))),?_,_,bits,used+1,_,_,rfl,e2.gate hn hX,p5,p01,by omega,p7⟩
         refine jj (x:=.inl (((used+1:Nat):Int),(n:Int),bits,lst n (fun i=>gP (2,0,[],o.2.2.2.1,0,[]) (f' i)),lst n (fun i=>gP (2,0,[],o.2.2.2.1,0,[]) (g' i)))) ?_ (by rw [JS,hw])
         unfold W.ji.c253291
         rw [hidx,je]
         refine jj hcond ?_
         rw [hc',jq (by rfl),jP h5,jq (beq_false_of_ne (by omega)),hti,je]
         refine jj h20' ?_
         rw [jq (by rfl),jq (by simpa using hm5),jN (by simpa using hb1)]
         refine jj (tgate_ok hn hn hX hf' hg') ?_
         rw [hwu]
        ·rw [if_neg (fun h=>hb1 h.2)] at p7
         refine .inl ⟨(((used+1:Nat):Int),((i+1:Nat):Int),(n:Int),bits,lst n f',lst n g'),?_,_,bits,used+1,f',g',rfl,e2,p5,p01,by omega,p7⟩
         refine jj (x:=.inl (((used+1:Nat):Int),(n:Int),bits,lst n f',lst n g')) ?_ (by rw [JS,hw])
         unfold W.ji.c253291
         rw [hidx,je]
         refine jj hcond ?_
         rw [hc',jq (by rfl),jP h5,jq (beq_false_of_ne (by omega)),hti,je]
         refine jj h20' ?_
         rw [jq (by rfl),jq (by simpa using hm5),jq (by simpa using hb1),hwu]
      ·rw [if_pos (hout.trans e2)] at p7
       refine .inr ⟨.inl ([],[],(0:Int),(used:Int),(i:Int),(20:Int),(i:Int),(n:Int),bits,lst n f,lst n g),?_,.inl ⟨_,_,rfl,p7.symm,rfl,rfl,rfl,rfl,rfl⟩⟩
       refine jj (x:=.inr ([],[],(0:Int),(20:Int),(i:Int),(n:Int),lst n f,lst n g)) ?_ (by rw [JZ])
       unfold W.ji.c253291
       rw [hidx,je]
       refine jj hcond ?_
       rw [hc',jq (by rfl),jP h5,jq (beq_false_of_ne (by omega)),hti,je]
       refine jj (h20 _ _ _ e1) ?_
       rw [jN (by rfl)]
       rfl
 ·rintro s ⟨v,bits,used,f,g,rfl,t,p5,p01,p6,p7⟩
  rw [List.drop_length] at p7
  refine ⟨.inr ((used:Int),(ops.length:Int),(n:Int),bits,lst n f,lst n g),?_,.inr ⟨(v,bits,used),f,g,rfl,p7.symm,t⟩⟩
  unfold W.ji.c100012
  rw [jP (by simp)]
end Go.Ql
end

section
set_option linter.unusedSectionVars false
set_option linter.unusedVariables false
set_option maxHeartbeats 1000000
namespace Go.Ql
theorem sq_ge (a:Rat):0≤a*a:=by
 rcases Rat.le_total (a:=0) (b:=a) with h | h
 ·exact Rat.mul_nonneg h h
 ·have:0 ≤ -a:=by grind
  have:=Rat.mul_nonneg this this
  grind
theorem UO {a:Rat} (h:a*a=0):a=0:=by
 rcases Rat.mul_eq_zero.1 h with h | h <;> exact h
theorem nrm_c0 (a:K):(nrm a).c0=a.c0*a.c0+a.c1*a.c1+a.c2*a.c2+a.c3*a.c3+a.c4*a.c4+a.c5*a.c5+a.c6*a.c6+a.c7*a.c7:=by
 simp only [nrm,K.mul,K.conj];grind
theorem nrm_ge (a:K):0≤(nrm a).c0:=by
 rw [nrm_c0]
 have h0:=sq_ge a.c0;have h1:=sq_ge a.c1;have h2:=sq_ge a.c2;have h3:=sq_ge a.c3
 have h4:=sq_ge a.c4;have h5:=sq_ge a.c5;have h6:=sq_ge a.c6;have h7:=sq_ge a.c7
 grind
theorem nrm_nil {a:K} (h:(nrm a).c0=0):a=K.zero:=by
 rw [nrm_c0] at h
 have h0:=sq_ge a.c0;have h1:=sq_ge a.c1;have h2:=sq_ge a.c2;have h3:=sq_ge a.c3
 have h4:=sq_ge a.c4;have h5:=sq_ge a.c5;have h6:=sq_ge a.c6;have h7:=sq_ge a.c7
 exact K.eq_of (UO (by grind)) (UO (by grind)) (UO (by grind)) (UO (by grind)) (UO (by grind)) (UO (by grind)) (UO (by grind)) (UO (by grind))
def sN (v:KV):Nat→K
 | 0=>K.zero
 | k+1=>K.add (sN v k) (nrm (v k))
theorem sN_ge (v:KV) : ∀ k,0≤(sN v k).c0
 | 0=>by show (0:Rat)≤0;decide
 | k+1=>by
   have h1:=sN_ge v k
   have h2:=nrm_ge (v k)
   show 0≤(sN v k).c0+(nrm (v k)).c0
   grind
theorem sN_nil (v:KV) : ∀ {k},(sN v k).c0=0 → ∀ y,y < k→v y=K.zero
 | 0,_,y,hy=>absurd hy (Nat.not_lt_zero _)
 | k+1,h,y,hy=>by
   have h1:=sN_ge v k
   have h2:=nrm_ge (v k)
   have h3:(sN v k).c0+(nrm (v k)).c0=0:=h
   by_cases e:y=k
   ·rw [e];exact nrm_nil (by grind)
   ·exact sN_nil v (k:=k) (by grind) y (by omega)
theorem sN_zero {v:KV} : ∀ {k},(∀ y,y < k→v y=K.zero)→sN v k=K.zero
 | 0,_=>rfl
 | k+1,h=>by
   rw [sN,sN_zero fun y hy=>h y (Nat.lt_succ_of_lt hy),h k (Nat.lt_succ_self k),nrm_zero]
   exact K.add_zero _
abbrev Nm:=List Dg×Int
theorem norm_walk {n:Nat} (hn:n≤8) {l:AList} {v:KV} {t:Nat} (hv:Amps l (2 ^ n) v t) (ht:t≤4500) :
 ∃ a L E,W.Js l=some a∧Num 10000 a (sN v (2 ^ n)) L E:=by
 have h8:2 ^ n≤256:=Nat.le_trans (Nat.pow_le_pow_right (by decide) hn) (by decide)
 have hlen:=hv.len
 obtain ⟨x,h1,a,rfl,h2⟩:=JJ (f:=fun s:Int×List Nm↦W.Js.c100003 l (Prod.fst s) (Prod.snd s) some) (2 ^ n)
  (fun k s => ∃ a,s=((k:Int),[a])∧Num 10000 a (sN v k) (6*t+10+k) (2*t)∧FitsK (sN v k) (6*t+10+k) (2*t))
  (fun x => ∃ a,x=(((2 ^ n:Nat):Int),[a])∧Num 10000 a (sN v (2 ^ n)) (6*t+10+2 ^ n) (2*t))
  (by
   rintro k s hk ⟨a,rfl,e1,e2⟩
   left
   have hat:=hv.at_ k hk
   have hidx:idx l (k:Int)=some (l.getD k z0):=idxN (by omega)
   obtain ⟨z,z1,z2⟩:=rzero_num hat
   have key : ∃ b,W.Js.c220486 l (k:Int) [a] some=some [b]∧Num 10000 b (sN v (k+1)) (6*t+10+(k+1)) (2*t)∧FitsK (sN v (k+1)) (6*t+10+(k+1)) (2*t):=by
    unfold W.Js.c220486
    rw [hidx,je,z1,je]
    cases z with
    | true=>
      rw [jq (by rfl)]
      have e0:sN v (k+1)=sN v k:=by rw [sN,z2.1 rfl,nrm_zero];exact K.add_zero _
      have f2:FitsK (sN v k) (6*t+10+(k+1)) (2*t):=e2.mono (by omega)
      exact ⟨a,rfl,by rw [e0];exact e1.fit f2,by rw [e0];exact f2⟩
    | false=>
      rw [jN (by rfl)]
      obtain ⟨r,r1,r2⟩:=rnorm_ok hat (by omega) (by omega)
      have rf:FitsK (nrm (v k)) (6*t+10) (2*t):=by
       have:=r2.fits
       rw [show t+t=2*t by omega] at this
       exact this.mono (by omega)
      have r3:=r2.fit rf
      obtain ⟨b,b1,b2⟩:=Hs e1 r3 (by omega) (by omega)
      have bf:FitsK (sN v (k+1)) (6*t+10+(k+1)) (2*t):=e2.add (rf.mono (by omega))
      refine ⟨b,?_,b2.fit bf,bf⟩
      have h6:W.Js.c6 l (k:Int) [a] some=some [b]:=by
       unfold W.Js.c6
       rw [show idx [a] (0:Int)=some a from rfl,je,hidx,je,r1,je,b1,je,je]
       rfl
      exact jj h6 rfl
   obtain ⟨b,b1,b2,b3⟩:=key
   refine ⟨(((k+1:Nat):Int),[b]),?_,b,rfl,b2,b3⟩
   unfold W.Js.c100003
   rw [jY (by simp only;omega)]
   refine jj b1 ?_
   rw [js (by simp only;omega)]
   rfl)
  (by
   rintro s ⟨a,rfl,e1,e2⟩
   refine ⟨(((2 ^ n:Nat):Int),[a]),?_,a,rfl,e1⟩
   unfold W.Js.c100003
   rw [jP (by rw [hlen];simp)])
  (s:=((0:Int),[(List.replicate 8 (false,[]),(0:Int))])) ⟨_,rfl,num_zero' _ _,FitsK.zero _ _⟩
 refine ⟨a,_,_,?_,h2⟩
 unfold W.Js
 exact jj h1 rfl
theorem far_out {n:Nat} {v:KV} (h : ∀ y,2 ^ n≤y→v y=K.zero) (q b:Int) : ∀ y,2 ^ n≤y→outK q b v y=K.zero:=fun y hy=>by
 unfold outK
 rw [h y hy]
 split <;> rfl
theorem zero_all {n:Nat} {v:KV} (h : ∀ y,2 ^ n≤y→v y=K.zero):v=(fun _=>K.zero)↔sN v (2 ^ n)=K.zero:=by
 constructor
 ·intro e;rw [e];exact sN_zero fun _ _=>rfl
 ·intro e
  have:=sN_nil v (by rw [e];rfl)
  funext y
  by_cases hy:y < 2 ^ n
  ·exact this y hy
  ·exact h y (by omega)
abbrev RS:=List Nm×Int×Int×List Int
theorem stab_loop {n bn:Nat} {ops:List GOp} {tape:List Int} (hn:n≤8) (hbn:bn < 2 ^ 40) (hl:ops.length≤4100) (ht:tape.length < 2 ^ 62) (hops : ∀ o∈ops,OkP o n bn) (hsto : ∀ o∈ops,o.1 < 5→StO n o)
 {l0:AList} {v0:KV} (hv0:Amps l0 (2 ^ n) v0 0) (hf0 : ∀ y,2 ^ n≤y→v0 y=K.zero) :
 ∃ y,iter (fun s:RS↦W.jo.c100013 tape (Prod.fst s) (Prod.fst (Prod.snd s)) (Prod.fst (Prod.snd (Prod.snd s))) ops (Prod.snd (Prod.snd (Prod.snd s))) some) (l0,(0:Int),(0:Int),List.replicate bn 0)=some y ∧
  ((∃ u x,y = .inl u∧stabK tape 0 ops (v0,List.replicate bn 0,0) = .inl x∧u.2.2.2.1=x.1∧u.2.2.2.2.1=(x.2:Int)) ∨
   (∃ (s:SK) (l:AList),y = .inr (l,(s.2.2:Int),(ops.length:Int),s.2.1)∧stabK tape 0 ops (v0,List.replicate bn 0,0) = .inr s∧Amps l (2 ^ n) s.1 ops.length)):=by
 have hN:2 ^ n≤256:=Nat.le_trans (Nat.pow_le_pow_right (by decide) hn) (by decide)
 obtain ⟨R,hR⟩ : ∃ R,stabK tape 0 ops (v0,List.replicate bn 0,0)=R:=⟨_,rfl⟩
 rw [hR]
 refine JJ (f:=fun s:RS↦W.jo.c100013 tape (Prod.fst s) (Prod.fst (Prod.snd s)) (Prod.fst (Prod.snd (Prod.snd s))) ops (Prod.snd (Prod.snd (Prod.snd s))) some) ops.length
  (fun i s => ∃ (v:KV) (l:AList) (bits:List Int) (used:Nat),s=(l,(used:Int),(i:Int),bits)∧Amps l (2 ^ n) v i∧(∀ y,2 ^ n≤y→v y=K.zero)∧bits.length=bn∧used≤tape.length∧stabK tape i (ops.drop i) (v,bits,used)=R) _ ?_ ?_ (s:=(l0,(0:Int),(0:Int),List.replicate bn 0)) ⟨v0,l0,List.replicate bn 0,0,rfl,hv0,hf0,by simp,Nat.zero_le _,hR⟩
 ·rintro i s hi ⟨v,l,bits,used,rfl,p4,far,p5,p6,p7⟩
  have hm:ops[i]∈ops:=List.getElem_mem hi
  have hd:ops.drop i=ops[i]::ops.drop (i+1):=List.drop_eq_getElem_cons hi
  rw [hd] at p7
  simp only [stabK] at p7
  obtain ⟨o,ho⟩ : ∃ o,ops[i]=o:=⟨_,rfl⟩
  rw [ho] at hm p7
  have hk:=hops o hm
  have hidx:idx ops (i:Int)=some o:=by rw [Yd hi,ho]
  have hcond:=cond_ok (o:=o) (bits:=bits) hk.ifs (by rw [p5];omega) (by rw [p5];exact hk.cond)
  have hw:IntKind.i64.wrap ((i:Int)+1)=((i+1:Nat):Int):=by rw [js (by omega)];omega
  unfold W.jo.c100013
  rw [jY (by simp only;omega)]
  by_cases hc:condK bits o=false
  ·rw [if_pos hc] at p7
   refine .inl ⟨(l,(used:Int),((i+1:Nat):Int),bits),?_,v,l,bits,used,rfl,p4.up,far,p5,p6,p7⟩
   refine jj (x:=.inl (l,(used:Int),bits)) ?_ (by rw [JS,hw])
   unfold W.jo.c261496
   rw [hidx,je]
   refine jj hcond ?_
   rw [hc,jN (by rfl)]
  ·rw [if_neg hc] at p7
   have hc':condK bits o=true:=by simpa using hc
   by_cases h5:o.1 < 5
   ·rw [if_pos h5] at p7
    obtain ⟨r,r1,r2⟩:=Vj p4 hk.gate (by omega) (by omega)
    refine .inl ⟨(r,(used:Int),((i+1:Nat):Int),bits),?_,_,r,bits,used,rfl,r2,gate_far (hsto o hm h5) far,p5,p6,p7⟩
    refine jj (x:=.inl (r,(used:Int),bits)) ?_ (by rw [JS,hw])
    unfold W.jo.c261496
    rw [hidx,je]
    refine jj hcond ?_
    rw [hc',jq (by rfl),jY h5]
    exact jj r1 rfl
   ·rw [if_neg h5] at p7
    have hq:=hk.gate.q
    by_cases hu:used=tape.length
    ·rw [if_pos hu] at p7
     refine .inr ⟨.inl (l,(used:Int),(i:Int),(19:Int),(i:Int),bits),?_,.inl ⟨_,_,rfl,p7.symm,rfl,rfl⟩⟩
     refine jj (x:=.inr (l,(19:Int),(i:Int))) ?_ (by rw [JZ])
     unfold W.jo.c261496
     rw [hidx,je]
     refine jj hcond ?_
     rw [hc',jq (by rfl),jP h5,jN (by simp [hu])]
     rfl
    ·rw [if_neg hu] at p7
     obtain ⟨b,hb⟩ : ∃ b,tape.getD used 0=b:=⟨_,rfl⟩
     have hti:idx tape (used:Int)=some b:=by rw [kA used rfl (by omega),hb]
     rw [hb] at p7
     by_cases hbad:b≠0∧b≠1
     ·rw [if_pos hbad] at p7
      refine .inr ⟨.inl (l,(used:Int),(i:Int),(20:Int),(i:Int),bits),?_,.inl ⟨_,_,rfl,p7.symm,rfl,rfl⟩⟩
      refine jj (x:=.inr (l,(20:Int),(i:Int))) ?_ (by rw [JZ])
      unfold W.jo.c261496
      rw [hidx,je]
      refine jj hcond ?_
      rw [hc',jq (by rfl),jP h5,jq (beq_false_of_ne (by simp only;omega)),hti,je]
      have h22:W.jo.c22 b some=some true:=by
       unfold W.jo.c22
       rw [jN (by simpa using hbad.1)]
       exact congrArg some (by simpa using hbad.2)
      refine jj h22 ?_
      rw [jN (by rfl)]
      rfl
     ·rw [if_neg hbad] at p7
      have hb01:b=0∨b=1:=by omega
      have h22:W.jo.c22 b some=some false:=by
       unfold W.jo.c22
       rcases hb01 with rfl | rfl <;> rfl
      obtain ⟨r,r1,r2⟩:=outcome_walk (q:=o.2.2.2.1) p4 (by omega) (by omega) hb01
      obtain ⟨a,La,Ea,a1,a2⟩:=norm_walk hn r2 (by omega)
      obtain ⟨z,z1,z2⟩:=rzero_num a2
      have hfar:=far_out far o.2.2.2.1 b
      have hwu:IntKind.i64.wrap ((used:Int)+(1:Int))=((used+1:Nat):Int):=by rw [js (by omega)];omega
      cases z with
      | true=>
        rw [if_pos ((zero_all hfar).2 (z2.1 rfl))] at p7
        refine .inr ⟨.inl (r,(used:Int),(i:Int),(20:Int),(i:Int),bits),?_,.inl ⟨_,_,rfl,p7.symm,rfl,rfl⟩⟩
        refine jj (x:=.inr (r,(20:Int),(i:Int))) ?_ (by rw [JZ])
        unfold W.jo.c261496
        rw [hidx,je]
        refine jj hcond ?_
        rw [hc',jq (by rfl),jP h5,jq (beq_false_of_ne (by simp only;omega)),hti,je]
        refine jj h22 ?_
        rw [jq (by rfl)]
        refine jj r1 (jj a1 (jj z1 ?_))
        rw [jN (by rfl)]
        rfl
      | false=>
        rw [if_neg fun e=>absurd (z2.2 ((zero_all hfar).1 e)) (by decide)] at p7
        unfold meetK at p7
        simp only at p7
        by_cases hm5:o.1=5
        ·have hbit:=hk.bit hm5
         rw [if_neg (fun h=>h.1 hm5),if_pos hm5] at p7
         refine .inl ⟨(r,((used+1:Nat):Int),((i+1:Nat):Int),bits.set o.2.2.2.2.1.toNat b),?_,_,r,_,used+1,rfl,r2.up,hfar,by rw [List.length_set];exact p5,by omega,p7⟩
         refine jj (x:=.inl (r,((used+1:Nat):Int),bits.set o.2.2.2.2.1.toNat b)) ?_ (by rw [JS,hw])
         unfold W.jo.c261496
         rw [hidx,je]
         refine jj hcond ?_
         rw [hc',jq (by rfl),jP h5,jq (beq_false_of_ne (by simp only;omega)),hti,je]
         refine jj h22 ?_
         rw [jq (by rfl)]
         refine jj r1 (jj a1 (jj z1 ?_))
         rw [jq (by rfl),jN (by simpa using hm5),HA hbit.1 (by rw [p5];exact hbit.2),je,kA o.2.2.2.2.1.toNat (by omega) (by rw [p5];omega),je,hwu]
        ·rw [if_neg hm5] at p7
         by_cases hb1:b=1
         ·rw [if_pos ⟨hm5,hb1⟩,← UJ [] 0 o.2.2.2.1 0 []] at p7
          obtain ⟨s,s1,s2⟩:=Vj r2 (ok1_x hk.gate) (by omega) (by omega)
          have hX:StO n (2,0,[],o.2.2.2.1,0,[]):=by
           obtain ⟨q,hqn⟩ : ∃ q:Nat,o.2.2.2.1=(q:Int):=⟨o.2.2.2.1.toNat,by omega⟩
           rw [hqn];exact StO_X (by omega)
          refine .inl ⟨(s,((used+1:Nat):Int),((i+1:Nat):Int),bits),?_,_,s,bits,used+1,rfl,s2,gate_far hX hfar,p5,by omega,p7⟩
          refine jj (x:=.inl (s,((used+1:Nat):Int),bits)) ?_ (by rw [JS,hw])
          unfold W.jo.c261496
          rw [hidx,je]
          refine jj hcond ?_
          rw [hc',jq (by rfl),jP h5,jq (beq_false_of_ne (by simp only;omega)),hti,je]
          refine jj h22 ?_
          rw [jq (by rfl)]
          refine jj r1 (jj a1 (jj z1 ?_))
          rw [jq (by rfl),jq (by simpa using hm5),jN (by simpa using hb1)]
          refine jj s1 ?_
          rw [hwu]
         ·rw [if_neg (fun h=>hb1 h.2)] at p7
          refine .inl ⟨(r,((used+1:Nat):Int),((i+1:Nat):Int),bits),?_,_,r,bits,used+1,rfl,r2.up,hfar,p5,by omega,p7⟩
          refine jj (x:=.inl (r,((used+1:Nat):Int),bits)) ?_ (by rw [JS,hw])
          unfold W.jo.c261496
          rw [hidx,je]
          refine jj hcond ?_
          rw [hc',jq (by rfl),jP h5,jq (beq_false_of_ne (by simp only;omega)),hti,je]
          refine jj h22 ?_
          rw [jq (by rfl)]
          refine jj r1 (jj a1 (jj z1 ?_))
          rw [jq (by rfl),jq (by simpa using hm5),jq (by simpa using hb1),hwu]
 ·rintro s ⟨v,l,bits,used,rfl,p4,far,p5,p6,p7⟩
  rw [List.drop_length] at p7
  refine ⟨.inr (l,(used:Int),(ops.length:Int),bits),?_,.inr ⟨(v,bits,used),l,rfl,p7.symm,p4⟩⟩
  unfold W.jo.c100013
  rw [jP (by simp)]
end Go.Ql
end

section
set_option linter.unusedSectionVars false
set_option linter.unusedVariables false
set_option maxHeartbeats 1000000
namespace Go.Ql
theorem sameState_ok {n:Nat} (hn:n≤12) {a b:AList} {u v:KV} {s t:Nat} (ha:Amps a (2 ^ n) u s) (hb:Amps b (2 ^ n) v t) (hs:s≤5000) (ht:t≤5000) :
 ∃ e,W.jW a b=some e∧(e=true ↔ ∀ x,x < 2 ^ n→u x=v x):=by
 have h12:=p12 hn
 have la:=ha.len
 have lb:=hb.len
 obtain ⟨y,h1,h2⟩:=JJ (f:=fun s:Int↦W.jW.c100002 a b s some) (2 ^ n)
  (fun i s=>s=(i:Int) ∧ ∀ x,x < i→u x=v x) (fun y=>(∃ i,y = .inl i ∧ ¬ ∀ x,x < 2 ^ n→u x=v x)∨(∃ i,y = .inr i ∧ ∀ x,x < 2 ^ n→u x=v x))
  (by
   rintro i s hi ⟨rfl,hall⟩
   obtain ⟨e,e1,e2⟩:=rsame_ok (ha.at_ i hi) (hb.at_ i hi) (by omega) (by omega)
   have h4:W.jW.c4 a b (i:Int) some=some (!e):=by
    unfold W.jW.c4
    rw [idxN (by omega),je,idxN (by omega),je]
    exact jj e1 rfl
   unfold W.jW.c100002
   rw [jY (by rw [la];omega)]
   cases e with
   | true=>
     refine .inl ⟨((i+1:Nat):Int),?_,rfl,fun x hx => ?_⟩
     ·refine jj h4 ?_
      rw [jq (by rfl),js (by omega)]
      rfl
     ·by_cases h:x=i
      ·rw [h];exact e2.1 rfl
      ·exact hall x (by omega)
   | false=>
     refine .inr ⟨.inl (i:Int),?_,.inl ⟨_,rfl,fun h=>absurd (e2.2 (h i hi)) (by decide)⟩⟩
     refine jj h4 ?_
     rw [jN (by rfl)])
  (by
   rintro s ⟨rfl,hall⟩
   refine ⟨.inr ((2 ^ n:Nat):Int),?_,.inr ⟨_,rfl,hall⟩⟩
   unfold W.jW.c100002
   rw [jP (by rw [la];simp)])
  (s:=(0:Int)) ⟨rfl,fun x hx=>absurd hx (Nat.not_lt_zero _)⟩
 unfold W.jW
 rcases h2 with ⟨i,rfl,h2⟩ | ⟨i,rfl,h2⟩
 ·exact ⟨false,jj h1 (by rw [JS]),(fun h=>absurd h (by decide)),fun h=>absurd h h2⟩
 ·exact ⟨true,jj h1 (by rw [JZ]),fun _=>h2,fun _=>rfl⟩
theorem txt_idx {w:Wd} {q:Nat} (h:q < w.length):idx (txt w) (q:Int)=some (enc (w.getD q (false,false))):=by
 rw [Yd (by rw [YQ];exact h)]
 simp [txt,List.getD,List.getElem?_eq_getElem h]
theorem column_ok {n:Nat} (hn:n≤12) {w:Wd} (hw:w.length=n) (m:Bool) {c:Nat} (hc:c < 2*n):W.jC (m,txt w) (c:Int)=some (hasP n c (pu w m)):=by
 unfold W.jC hasP
 by_cases h:c < n
 ·rw [jY (by rw [YQ];omega),if_pos h,pu_x]
  have:W.jC.c3 (c:Int) (txt w) some=some (w.getD c (false,false)).1:=by
   unfold W.jC.c3
   rw [txt_idx (by omega),je]
   generalize w.getD c (false,false)=a
   obtain ⟨a,b⟩:=a
   cases a <;> cases b <;> rfl
  exact jj this rfl
 ·rw [jP (by rw [YQ];omega),if_neg h,pu_z]
  have:W.jC.c4 (c:Int) (↑(List.length (txt w)):Int) (txt w) some=some (w.getD (c - n) (false,false)).2:=by
   unfold W.jC.c4
   rw [YQ,hw,js (by omega),show (c:Int) - (n:Int)=((c - n:Nat):Int) by omega,txt_idx (by omega),je]
   generalize w.getD (c - n) (false,false)=a
   obtain ⟨a,b⟩:=a
   cases a <;> cases b <;> rfl
  exact jj this rfl
def Lead (n:Nat) (p:Pau) (k:Nat):Prop:=k < 2*n∧hasP n k p=true ∧ ∀ j,j < k→hasP n j p=false
theorem Lead.one {n:Nat} {p:Pau} {j k:Nat} (h:Lead n p j) (g:Lead n p k):j=k:=by
 apply Nat.le_antisymm
 ·apply Nat.le_of_not_lt
  intro hl
  have:=h.2.2 k hl
  rw [g.2.1] at this
  cases this
 ·apply Nat.le_of_not_lt
  intro hl
  have:=g.2.2 j hl
  rw [h.2.1] at this
  cases this
theorem leading_ok {n:Nat} (hn:n≤12) {w:Wd} (hw:w.length=n) (m:Bool) :
 (W.jT (m,txt w)=some (-1) ∧ ∀ k,¬ Lead n (pu w m) k) ∨ ∃ k:Nat,W.jT (m,txt w)=some (k:Int)∧Lead n (pu w m) k:=by
 have hw2:IntKind.i64.wrap ((2:Int)*(↑(List.length (txt w)):Int))=((2*n:Nat):Int):=by rw [YQ,hw,js (by omega)];simp
 obtain ⟨y,h1,h2⟩:=JJ (f:=fun s:Int↦W.jT.c100002 s m (txt w) some) (2*n)
  (fun i s=>s=(i:Int) ∧ ∀ j,j < i→hasP n j (pu w m)=false) (fun y=>(∃ k:Nat,y = .inl ((k:Int),(k:Int))∧Lead n (pu w m) k)∨(∃ i,y = .inr i ∧ ∀ j,j < 2*n→hasP n j (pu w m)=false))
  (by
   rintro i s hi ⟨rfl,hall⟩
   have hc:=column_ok hn hw m hi
   unfold W.jT.c100002
   rw [hw2,jY (by omega),hc,je]
   cases e:hasP n i (pu w m) with
   | true=>
     refine .inr ⟨_,jN rfl,.inl ⟨i,rfl,hi,e,hall⟩⟩
   | false=>
     refine .inl ⟨((i+1:Nat):Int),?_,rfl,fun j hj => ?_⟩
     ·rw [jq rfl,js (by omega)]
      rfl
     ·by_cases h:j=i
      ·rw [h];exact e
      ·exact hall j (by omega))
  (by
   rintro s ⟨rfl,hall⟩
   refine ⟨.inr ((2*n:Nat):Int),?_,.inr ⟨_,rfl,hall⟩⟩
   unfold W.jT.c100002
   rw [hw2,jP (by simp)])
  (s:=(0:Int)) ⟨rfl,fun j hj=>absurd hj (Nat.not_lt_zero _)⟩
 unfold W.jT
 rcases h2 with ⟨k,rfl,h2⟩ | ⟨i,rfl,h2⟩
 ·exact .inr ⟨k,jj h1 (by rw [JS]),h2⟩
 ·refine .inl ⟨jj h1 (by rw [JZ]),fun k hk => ?_⟩
  have:=h2 k hk.1
  rw [hk.2.1] at this
  cases this
theorem pautext_ok {w:Wd} (hw:w.length≤12) (m:Bool):W.kc (m,txt w)=some ((if m=true then 45 else 43)::txt w):=by
 unfold W.kc
 cases m with
 | true=>
   rw [jN (by rfl),Jf (decide_eq_true (by rw [YQ];show 1+w.length≤9223372036854775807;omega)),je]
   rfl
 | false=>
   rw [jq (by rfl),Jf (decide_eq_true (by rw [YQ];show 1+w.length≤9223372036854775807;omega)),je]
   rfl
def letN (i:Nat):Lt:=(i == 1 || i == 2,i == 2 || i == 3)
def word:Nat→Nat→Wd
 | 0,_=>[]
 | n+1,k=>letN (k % 4)::word n (k / 4)
theorem word_len : ∀ n k,(word n k).length=n
 | 0,_=>rfl
 | n+1,k=>by rw [word,List.length_cons,word_len]
theorem word_at : ∀ {n k q:Nat},q < n→(word n k).getD q (false,false)=letN (k / 4 ^ q % 4)
 | 0,_,q,h=>absurd h (Nat.not_lt_zero _)
 | n+1,k,0,_=>by simp [word]
 | n+1,k,q+1,h=>by
   rw [word,List.getD_cons_succ,word_at (by omega),Nat.div_div_eq_div_mul,Nat.pow_succ,Nat.mul_comm]
theorem letN_inj : ∀ a b:Fin 4,letN a.val=letN b.val→a=b:=by decide
theorem letN_all : ∀ a:Lt,∃ i:Fin 4,letN i.val=a:=by
 rintro ⟨a,b⟩
 cases a <;> cases b
 ·exact ⟨0,rfl⟩
 ·exact ⟨3,rfl⟩
 ·exact ⟨1,rfl⟩
 ·exact ⟨2,rfl⟩
theorem word_inj : ∀ {n j k:Nat},j < 4 ^ n→k < 4 ^ n→word n j=word n k→j=k
 | 0,j,k,hj,hk,_=>by omega
 | n+1,j,k,hj,hk,h=>by
   rw [word,word] at h
   obtain ⟨h1,h2⟩:=List.cons.inj h
   rw [Nat.pow_succ] at hj hk
   have e1:=word_inj (n:=n) (by omega) (by omega) h2
   have e2:=letN_inj ⟨j % 4,by omega⟩ ⟨k % 4,by omega⟩ h1
   have e3:j % 4=k % 4:=congrArg Fin.val e2
   omega
theorem word_all : ∀ (w:Wd),∃ k,k < 4 ^ w.length∧word w.length k=w
 | []=>⟨0,by simp,rfl⟩
 | a::w=>by
   obtain ⟨k,h1,h2⟩:=word_all w
   obtain ⟨i,hi⟩:=letN_all a
   refine ⟨i.val+4*k,?_,?_⟩
   ·rw [List.length_cons,Nat.pow_succ];have:=i.isLt;omega
   ·rw [List.length_cons,word,show (i.val+4*k) % 4=i.val by have:=i.isLt;omega,show (i.val+4*k) / 4=k by have:=i.isLt;omega,h2,hi]
abbrev PW:=Bool×Wd
def cand (n e:Nat):PW:=(e % 2 == 1,word n (e / 2))
theorem cand_inj {n a b:Nat} (ha:a < 2*4 ^ n) (hb:b < 2*4 ^ n) (h:cand n a=cand n b):a=b:=by
 obtain ⟨h1,h2⟩:=Prod.mk.inj h
 have e:=word_inj (by omega) (by omega) h2
 have:a % 2=b % 2:=by
  have x:=Nat.mod_two_eq_zero_or_one a
  have y:=Nat.mod_two_eq_zero_or_one b
  rcases x with x | x <;> rcases y with y | y <;> simp [x,y] at h1 ⊢
 omega
noncomputable def fixB (n:Nat) (v:KV) (a:PW):Bool:=@decide (∀ x,x < 2 ^ n→pauK (pu a.2 a.1) v x=v x) (Classical.propDecidable _)
theorem fixB_iff (n:Nat) (v:KV) (a:PW):fixB n v a=true ↔ ∀ x,x < 2 ^ n→pauK (pu a.2 a.1) v x=v x:=by
 unfold fixB
 exact @decide_eq_true_iff _ (Classical.propDecidable _)
noncomputable def fixL (n:Nat) (v:KV) (E:Nat):List PW:=((List.range E).filter fun e=>fixB n v (cand n e)).map (cand n)
theorem fixL_succ (n:Nat) (v:KV) (E:Nat) {b:Bool} (hb:b=true ↔ ∀ x,x < 2 ^ n→pauK (pu (cand n E).2 (cand n E).1) v x=v x):fixL n v (E+1)=fixL n v E++(if b=true then [cand n E] else []):=by
 unfold fixL
 rw [List.range_succ,List.filter_append,List.map_append]
 congr 1
 by_cases h:fixB n v (cand n E)=true
 ·rw [if_pos (hb.2 ((fixB_iff n v _).1 h)),List.filter_cons_of_pos (p:=fun e=>fixB n v (cand n e)) (a:=E) h]
  rfl
 ·rw [if_neg (fun e=>h ((fixB_iff n v _).2 (hb.1 e))),List.filter_cons_of_neg (p:=fun e=>fixB n v (cand n e)) (a:=E) h]
  rfl
theorem fix_all {n:Nat} {p:Pau} {v:KV} (hp:Fit n p) (far : ∀ y,2 ^ n≤y→v y=K.zero):(∀ x,x < 2 ^ n→pauK p v x=v x)↔Fx p v:=by
 constructor
 ·intro h
  funext y
  by_cases hy:y < 2 ^ n
  ·exact h y hy
  ·unfold pauK
   rw [far y (by omega),far (y ^^^ p.x) (by
    apply Nat.le_of_not_lt
    intro hl
    have:=Nat.xor_lt_two_pow hl hp.1
    rw [Nat.xor_assoc,Nat.xor_self,Nat.xor_zero] at this
    exact hy this),Yv]
 ·intro h x _
  exact congrFun h x
theorem fixL_mem {n:Nat} {v:KV} (far : ∀ y,2 ^ n≤y→v y=K.zero) {a:PW} (h:a∈fixL n v (2*4 ^ n)):a.2.length=n∧Fit n (pu a.2 a.1)∧Fx (pu a.2 a.1) v:=by
 unfold fixL at h
 obtain ⟨e,h1,rfl⟩:=List.mem_map.1 h
 obtain ⟨h2,h3⟩:=List.mem_filter.1 h1
 have hl:(cand n e).2.length=n:=word_len _ _
 have hf:Fit n (pu (cand n e).2 (cand n e).1):=pu_fit hl _
 exact ⟨hl,hf,(fix_all hf far).1 ((fixB_iff n v _).1 h3)⟩
theorem fixL_has {n:Nat} {v:KV} (far : ∀ y,2 ^ n≤y→v y=K.zero) {p:Pau} (hp:Fit n p) (hx:Fx p v):(p.m,wdP n p)∈fixL n v (2*4 ^ n):=by
 unfold fixL
 obtain ⟨k,h1,h2⟩:=word_all (wdP n p)
 rw [UZ] at h1 h2
 have hc:cand n (2*k+p.m.toNat)=(p.m,wdP n p):=by
  unfold cand
  rw [show (2*k+p.m.toNat) / 2=k by cases p.m <;> simp <;> omega,h2]
  congr 1
  cases p.m
  ·rw [show (2*k+Bool.toNat false) % 2=0 by show (2*k+0) % 2=0;omega];rfl
  ·rw [show (2*k+Bool.toNat true) % 2=1 by show (2*k+1) % 2=1;omega];rfl
 refine List.mem_map.2 ⟨2*k+p.m.toNat,List.mem_filter.2 ⟨List.mem_range.2 (by cases p.m <;> simp <;> omega),?_⟩,hc⟩
 rw [hc]
 refine (fixB_iff n v _).2 ?_
 simp only
 rw [pu_wdP hp]
 exact (fix_all hp far).2 hx
theorem fixL_nodup (n:Nat) (v:KV):(fixL n v (2*4 ^ n)).Nodup:=by
 unfold fixL List.Nodup
 rw [List.pairwise_map]
 refine List.Pairwise.imp_of_mem (R:=fun a b=>a < b) ?_ (List.pairwise_lt_range.filter _)
 intro a b ha hb hlt e
 have h1:=List.mem_range.1 (List.mem_filter.1 ha).1
 have h2:=List.mem_range.1 (List.mem_filter.1 hb).1
 have:=cand_inj h1 h2 e
 omega
theorem fixL_len (n:Nat) (v:KV) (E:Nat):(fixL n v E).length≤E:=by
 unfold fixL
 rw [List.length_map]
 exact Nat.le_trans (List.length_filter_le _ _) (by simp)
end Go.Ql
end

section
set_option linter.unusedSectionVars false
set_option linter.unusedVariables false
set_option maxHeartbeats 1000000
namespace Go.Ql
theorem and3n_all : ∀ k:Fin 512,ibits .and .i64 (k.val:Int) 3=((k.val % 4:Nat):Int):=by decide +kernel
theorem dig_ok {k q:Nat} (hk:k < 256) (hq:q < 12):ibits .and .i64 (Int.fdiv (k:Int) ((2:Int) ^ Min.min (Int.toNat (IntKind.i64.wrap ((2:Int)*(q:Int)))) 64)) 3=((k / 4 ^ q % 4:Nat):Int):=by
 rw [js (by omega),show (2:Int)*(q:Int)=((2*q:Nat):Int) by simp,Int.toNat_natCast,Nat.min_eq_left (by omega),show ((2:Int) ^ (2*q))=((2 ^ (2*q):Nat):Int) by simp,Int.fdiv_eq_ediv_of_nonneg _ (Int.natCast_nonneg _),← Int.natCast_ediv,Nat.pow_mul]
 have hlt:k / (2 ^ 2) ^ q < 512:=Nat.lt_of_le_of_lt (Nat.div_le_self _ _) (by omega)
 exact and3n_all ⟨_,hlt⟩
def abc:Tx:=[73,88,89,90]
theorem abc_at : ∀ i:Fin 4,List.drop i.val (List.take (i.val+1) abc)=[enc (letN i.val)]:=by decide
theorem word_walk {n k:Nat} (hn:n≤4) (hk:k < 4 ^ n) :
 iter (fun s:Tx×Int↦W.jf.c100007 (n:Int) (k:Int) (Prod.fst s) (Prod.snd s) some) (Array.toList (ByteArray.data (ByteArray.mk #[])),(0:Int))=some (txt (word n k),(n:Int)):=by
 have h256:4 ^ n≤256:=Nat.le_trans (Nat.pow_le_pow_right (by decide) hn) (by decide)
 have hwl:=word_len n k
 refine kW n (fun q=>(txt ((word n k).take q),(q:Int))) _ (fun q hq => ?_) ?_ rfl
 ·unfold W.jf.c100007
  have hd:=dig_ok (k:=k) (q:=q) (by omega) (by omega)
  have h4:k / 4 ^ q % 4 < 4:=Nat.mod_lt _ (by decide)
  have hat:=word_at (k:=k) hq
  have habc:=abc_at ⟨k / 4 ^ q % 4,h4⟩
  rw [jY (by simp only;omega)]
  simp only
  rw [hd]
  generalize k / 4 ^ q % 4=i at h4 hat habc
  have hw1:IntKind.i64.wrap ((i:Int)+1)=((i+1:Nat):Int):=by rw [js (by omega)];omega
  have hw2:IntKind.i64.wrap ((2:Int)*(q:Int))=((2*q:Nat):Int):=by rw [js (by omega)];simp
  have hdr:List.drop (Int.toNat (i:Int)) (List.take (Int.toNat ((i+1:Nat):Int)) (Array.toList (ByteArray.data (ByteArray.mk #[(73:UInt8),(88:UInt8),(89:UInt8),(90:UInt8)]))))=[enc (letN i)]:=by
   rw [Int.toNat_natCast,Int.toNat_natCast]
   exact habc
  rw [hw1,hw2,hdr]
  refine jj (Jf (decide_eq_true (by omega))) (jj (Jf ?_) (jj (Jf (decide_eq_true ?_)) ?_))
  ·simp only [Bool.and_eq_true,decide_eq_true_eq]
   refine ⟨⟨by omega,by omega⟩,?_⟩
   show ((i+1:Nat):Int)≤4
   omega
  ·rw [YQ,List.length_take]
   show _+1≤_
   omega
  ·rw [js (by omega),List.take_succ_eq_append_getElem (by omega)]
   have:(word n k)[q]'(by omega)=letN i:=by
    rw [← hat,List.getD,List.getElem?_eq_getElem (by omega)]
    rfl
   rw [this]
   simp [txt]
 ·unfold W.jf.c100007
  rw [jP (by simp),List.take_of_length_le (by omega)]
def ptx (a:PW):Bool×Tx:=(a.1,txt a.2)
theorem UB (A:List PW):(A.map ptx).length=A.length:=List.length_map ..
theorem ptx_idx {A:List PW} {i:Nat} (h:i < A.length):idx (A.map ptx) (i:Int)=some (ptx A[i]):=by
 rw [Yd (by rw [UB];exact h)]
 simp
theorem ptx_inR {A:List PW} {i:Nat} (h:i < A.length):inR (List.length (A.map ptx)) (i:Int)=some ():=by
 rw [UB]
 exact Jf (by simp only [Bool.and_eq_true,decide_eq_true_eq];omega)
theorem try_walk {n:Nat} (hn:1≤n∧n≤4) {l:AList} {v:KV} {t:Nat} (hv:Amps l (2 ^ n) v t) (ht:t≤4500) {k:Nat} (hk:k < 4 ^ n) {s:Nat} (hs:s < 2) {E:Nat} (hE:E=2*k+s) :
 W.jf.c257352 l (txt (word n k)) (s:Int) ((fixL n v E).map ptx) some=some ((fixL n v (E+1)).map ptx):=by
 have h256:4 ^ n≤256:=Nat.le_trans (Nat.pow_le_pow_right (by decide) hn.2) (by decide)
 have hc:cand n E=((s:Int) == 1,word n k):=by
  unfold cand
  rw [show E / 2=k by omega]
  congr 1
  have:s=0∨s=1:=by omega
  rcases this with rfl | rfl
  ·rw [show E % 2=0 by omega];rfl
  ·rw [show E % 2=1 by omega];rfl
 obtain ⟨r,t',h1,h2,h3⟩:=on_walk ⟨hn.1,by omega⟩ (word_len n k) ((s:Int) == 1) hv (by omega)
 obtain ⟨e,e1,e2⟩:=sameState_ok (by omega) h3 hv (by omega) (by omega)
 have hb:e=true ↔ ∀ x,x < 2 ^ n→pauK (pu (cand n E).2 (cand n E).1) v x=v x:=by rw [hc];exact e2
 rw [fixL_succ n v E hb]
 have hlen:=fixL_len n v E
 unfold W.jf.c257352
 refine jj h2 (jj e1 ?_)
 cases e with
 | true=>
   rw [jN (by rfl),if_pos rfl]
   refine jj (Vc (n:=((fixL n v E).map ptx).length+1) (k:=24) (by rw [UB];omega)) ?_
   rw [List.map_append,hc]
   rfl
 | false=>rw [jq (by rfl),if_neg (by decide),List.append_nil]
theorem all_walk {n:Nat} (hn:1≤n∧n≤4) {l:AList} {v:KV} {t:Nat} (hv:Amps l (2 ^ n) v t) (ht:t≤4500) :
 iter (fun s:Int×List (Bool×Tx)↦W.jf.c100003 l (n:Int) (Prod.fst s) (Prod.snd s) some) ((0:Int),[])=some (((4 ^ n:Nat):Int),(fixL n v (2*4 ^ n)).map ptx):=by
 have h256:4 ^ n≤256:=Nat.le_trans (Nat.pow_le_pow_right (by decide) hn.2) (by decide)
 have hw2:IntKind.i64.wrap ((2:Int)*(n:Int))=((2*n:Nat):Int):=by rw [js (by omega)];simp
 have hp:IntKind.i64.wrap ((1:Int)*(2:Int) ^ Min.min (Int.toNat ((2*n:Nat):Int)) (64:Nat))=((4 ^ n:Nat):Int):=by
  have:=pow63 (q:=((2*n:Nat):Int)) (by omega)
  rw [this,Int.toNat_natCast,Nat.pow_mul]
 refine kW (4 ^ n) (fun k=>((k:Int),(fixL n v (2*k)).map ptx)) _ (fun k hk => ?_) ?_ rfl
 ·unfold W.jf.c100003
  rw [hw2,Jf (decide_eq_true (by omega)),je,hp,jY (by simp only;omega)]
  refine jj (word_walk hn.2 hk) ?_
  have h2:iter (fun s:Int×List (Bool×Tx)↦W.jf.c100012 l (txt (word n k)) (Prod.fst s) (Prod.snd s) some) ((0:Int),(fixL n v (2*k)).map ptx)=some ((2:Int),(fixL n v (2*k+2)).map ptx):=by
   refine kW 2 (fun s=>((s:Int),(fixL n v (2*k+s)).map ptx)) _ (fun s hs => ?_) ?_ rfl
   ·unfold W.jf.c100012
    rw [jY (by simp only;omega)]
    refine jj (try_walk hn hv ht hk hs rfl) ?_
    rw [js (by simp only;omega)]
    rfl
   ·unfold W.jf.c100012
    rw [jP (by simp)]
    rfl
  refine jj h2 ?_
  rw [js (by simp only;omega)]
  rfl
 ·unfold W.jf.c100003
  rw [hw2,Jf (decide_eq_true (by omega)),je,hp,jP (by simp)]
def pauA (a:PW):Pau:=pu a.2 a.1
theorem bool_idx {T:List Bool} {d:Nat} (h:d < T.length):idx T (d:Int)=some (T.getD d false):=by
 rw [Yd h]
 simp [List.getD,h]
theorem pivot_walk {n:Nat} (hn:n≤4) {A:List PW} (hA : ∀ a∈A,a.2.length=n) (hl:A.length≤512) :
 ∃ T:List Bool,iter (fun s:Int×List Bool↦W.jf.c100019 (Prod.fst s) (A.map ptx) (Prod.snd s) some) ((0:Int),List.replicate (2*n) false)=some ((A.length:Int),T)∧T.length=2*n ∧
  ∀ d,d < 2*n→(T.getD d false=true ↔ ∃ a∈A,Lead n (pauA a) d):=by
 obtain ⟨x,h1,T,rfl,h2,h3⟩:=JJ (f:=fun s:Int×List Bool↦W.jf.c100019 (Prod.fst s) (A.map ptx) (Prod.snd s) some) A.length
  (fun i s => ∃ T:List Bool,s=((i:Int),T)∧T.length=2*n ∧ ∀ d,d < 2*n→(T.getD d false=true ↔ ∃ j:Nat,∃ h:j < A.length,j < i∧Lead n (pauA A[j]) d))
  (fun x => ∃ T:List Bool,x=((A.length:Int),T)∧T.length=2*n ∧ ∀ d,d < 2*n→(T.getD d false=true ↔ ∃ a∈A,Lead n (pauA a) d))
  (by
   rintro i s hi ⟨T,rfl,h2,h3⟩
   left
   have hm:A[i].2.length=n:=hA _ (List.getElem_mem hi)
   have key : ∃ T':List Bool,W.jf.c286024 (i:Int) (A.map ptx) T some=some T'∧T'.length=2*n ∧ ∀ d,d < 2*n→(T'.getD d false=true ↔ ∃ j:Nat,∃ h:j < A.length,j < i+1∧Lead n (pauA A[j]) d):=by
    unfold W.jf.c286024
    rw [ptx_inR hi,je,ptx_idx hi,je]
    rcases leading_ok (by omega) hm A[i].1 with ⟨e1,e2⟩ | ⟨k,e1,e2⟩
    ·refine ⟨T,jj e1 (by rw [jP (by decide)]),h2,fun d hd => ?_⟩
     rw [h3 d hd]
     constructor
     ·rintro ⟨j,h,hj,hL⟩;exact ⟨j,h,by omega,hL⟩
     ·rintro ⟨j,h,hj,hL⟩
      by_cases e:j=i
      ·subst e;exact absurd hL (e2 d)
      ·exact ⟨j,h,by omega,hL⟩
    ·refine ⟨T.set k true,jj e1 ?_,by rw [List.length_set];exact h2,fun d hd => ?_⟩
     ·rw [jY (by omega)]
      have hk:k < T.length:=by rw [h2];exact e2.1
      rw [show inR (List.length T) (k:Int)=some () from Jf (by simp only [Bool.and_eq_true,decide_eq_true_eq];omega),je,bool_idx hk,je,Int.toNat_natCast]
     ·have hk:=e2.1
      rw [List.getD,List.getElem?_set]
      by_cases e:k=d
      ·subst e
       rw [if_pos rfl,if_pos (by omega)]
       exact ⟨fun _=>⟨i,hi,by omega,e2⟩,fun _=>rfl⟩
      ·rw [if_neg e]
       have:=h3 d hd
       rw [List.getD] at this
       rw [this]
       constructor
       ·rintro ⟨j,h,hj,hL⟩;exact ⟨j,h,by omega,hL⟩
       ·rintro ⟨j,h,hj,hL⟩
        by_cases e3:j=i
        ·subst e3;exact absurd (e2.one hL) e
        ·exact ⟨j,h,by omega,hL⟩
   obtain ⟨T',k1,k2,k3⟩:=key
   refine ⟨(((i+1:Nat):Int),T'),?_,T',rfl,k2,k3⟩
   unfold W.jf.c100019
   rw [jY (by rw [UB];simp only;omega)]
   refine jj k1 ?_
   rw [js (by simp only;omega)]
   rfl)
  (by
   rintro s ⟨T,rfl,h2,h3⟩
   refine ⟨((A.length:Int),T),?_,T,rfl,h2,fun d hd => ?_⟩
   ·unfold W.jf.c100019
    rw [jP (by rw [UB];simp)]
   ·rw [h3 d hd]
    constructor
    ·rintro ⟨j,h,_,hL⟩;exact ⟨_,List.getElem_mem h,hL⟩
    ·rintro ⟨a,ha,hL⟩
     obtain ⟨j,hj,rfl⟩:=List.mem_iff_getElem.1 ha
     exact ⟨j,hj,hj,hL⟩)
  (s:=((0:Int),List.replicate (2*n) false)) ⟨_,rfl,by simp,fun d hd=>by
   constructor
   ·intro h
    rw [List.getD,List.getElem?_replicate,if_pos hd] at h
    cases h
   ·rintro ⟨j,_,hj,_⟩;omega⟩
 exact ⟨T,h1,h2,h3⟩
def FitsC (n:Nat) (T:List Bool) (c:Nat) (p:Pau) (hi:Nat):Prop:=Lead n p c ∧ ∀ d,c < d→d < hi→T.getD d false=true→hasP n d p=false
theorem fits_walk {n:Nat} (hn:n≤4) {A:List PW} (hA : ∀ a∈A,a.2.length=n) {T:List Bool} (hT:T.length=2*n) {i c:Nat} (hi:i < A.length) (hc:c < 2*n) (hl:A.length≤512) (out:List Tx) (ho:out.length≤1000) :
 ∃ b:Bool,W.jf.c326999 (n:Int) (c:Int) (i:Int) (A.map ptx) out T some=some (out++(if b=true then [(if A[i].1=true then 45 else 43)::txt A[i].2] else []))∧(b=true↔FitsC n T c (pauA A[i]) (2*n)):=by
 have hm:A[i].2.length=n:=hA _ (List.getElem_mem hi)
 have hw2:IntKind.i64.wrap ((2:Int)*(n:Int))=((2*n:Nat):Int):=by rw [js (by omega)];simp
 have hwc:IntKind.i64.wrap ((c:Int)+(1:Int))=((c+1:Nat):Int):=by rw [js (by omega)];omega
 obtain ⟨y,hy,hlead⟩ : ∃ y:Int,W.jT (ptx A[i])=some y∧((y == (c:Int))=true↔Lead n (pauA A[i]) c):=by
  rcases leading_ok (by omega) hm A[i].1 with ⟨e1,e2⟩ | ⟨k,e1,e2⟩
  ·exact ⟨_,e1,fun h=>absurd (beq_iff_eq.1 h) (by omega),fun h=>absurd h (e2 c)⟩
  ·refine ⟨_,e1,fun h => ?_,fun h => ?_⟩
   ·have:=beq_iff_eq.1 h
    rw [show c=k by omega];exact e2
   ·rw [e2.one h];simp
 obtain ⟨x,h1,b,d,rfl,h2⟩:=JJ (f:=fun s:Bool×Int↦W.jf.c100033 (n:Int) (i:Int) (Prod.fst s) (Prod.snd s) (A.map ptx) T some) (2*n - (c+1))
  (fun k s => ∃ b:Bool,s=(b,((c+1+k:Nat):Int))∧(b=true↔FitsC n T c (pauA A[i]) (c+1+k)))
  (fun x => ∃ (b:Bool) (d:Int),x=(b,d)∧(b=true↔FitsC n T c (pauA A[i]) (2*n)))
  (by
   rintro k s hk ⟨b,rfl,hb⟩
   left
   have hd:c+1+k < T.length:=by omega
   have hcol:=column_ok (n:=n) (by omega) hm A[i].1 (c:=c+1+k) (by omega)
   have h35:W.jf.c35 (i:Int) b ((c+1+k:Nat):Int) (A.map ptx) T some=some (b && !(T.getD (c+1+k) false && hasP n (c+1+k) (pauA A[i]))):=by
    unfold W.jf.c35
    cases b with
    | false=>rw [jq rfl];rfl
    | true=>
      rw [jN rfl,show inR (List.length T) ((c+1+k:Nat):Int)=some () from Jf (by simp only [Bool.and_eq_true,decide_eq_true_eq];omega),je,bool_idx hd,je]
      cases T.getD (c+1+k) false with
      | false=>rw [jq rfl];rfl
      | true=>
        rw [jN rfl,ptx_inR hi,je,ptx_idx hi,je]
        exact jj hcol rfl
   refine ⟨(b && !(T.getD (c+1+k) false && hasP n (c+1+k) (pauA A[i])),((c+1+(k+1):Nat):Int)),?_,_,rfl,?_⟩
   ·unfold W.jf.c100033
    rw [hw2,jY (by simp only;omega)]
    refine jj h35 ?_
    rw [js (by simp only;omega)]
    rfl
   ·rw [Bool.and_eq_true,hb]
    constructor
    ·rintro ⟨⟨g1,g2⟩,g3⟩
     refine ⟨g1,fun d hd1 hd2 hd3 => ?_⟩
     by_cases e:d=c+1+k
     ·subst e
      rw [hd3] at g3
      simpa using g3
     ·exact g2 d hd1 (by omega) hd3
    ·rintro ⟨g1,g2⟩
     refine ⟨⟨g1,fun d hd1 hd2 hd3=>g2 d hd1 (by omega) hd3⟩,?_⟩
     cases e:T.getD (c+1+k) false with
     | false=>rfl
     | true=>rw [g2 _ (by omega) (by omega) e];rfl)
  (by
   rintro s ⟨b,rfl,hb⟩
   rw [show c+1+(2*n - (c+1))=2*n by omega] at hb ⊢
   refine ⟨(b,((2*n:Nat):Int)),?_,b,_,rfl,hb⟩
   unfold W.jf.c100033
   rw [hw2,jP (by simp)])
  (s:=(y == (c:Int),((c+1:Nat):Int))) ⟨_,rfl,by
   rw [hlead]
   exact ⟨fun h=>⟨h,fun d h1 h2=>by omega⟩,fun h=>h.1⟩⟩
 refine ⟨b,?_,h2⟩
 unfold W.jf.c326999
 rw [ptx_inR hi,je,ptx_idx hi,je]
 refine jj hy ?_
 rw [hwc]
 refine jj h1 ?_
 cases b with
 | true=>
   rw [jN (by rfl),if_pos rfl,je,je]
   refine jj (pautext_ok (by omega) A[i].1) ?_
   exact jj (Vc (n:=out.length+1) (k:=16) (by omega)) rfl
 | false=>rw [jq (by rfl),if_neg (by decide),List.append_nil]
end Go.Ql
end

section
set_option linter.unusedSectionVars false
set_option linter.unusedVariables false
set_option maxHeartbeats 1000000
namespace Go.Ql
def stTx (n:Nat) (f:Nat→Pau) (k:Nat):List Tx:=(List.range k).map fun i=>txP n (f i)
theorem stTx_succ (n:Nat) (f:Nat→Pau) (k:Nat):stTx n f (k+1)=stTx n f k++[txP n (f k)]:=by
 unfold stTx
 rw [List.range_succ,List.map_append]
 rfl
theorem VE (n:Nat) (f:Nat→Pau) (k:Nat):(stTx n f k).length=k:=by simp [stTx]
theorem Red.lead_at {n:Nat} {f:Nat→Pau} {c:Nat→Nat} (r:Red n (2*n) n f c) {j:Nat} (hj:j < n):Lead n (f j) (c j):=
 ⟨r.lt j hj,by rw [r.piv j j hj hj];exact decide_eq_true rfl,r.lead j hj⟩
theorem Red.inj {n:Nat} {f:Nat→Pau} {c:Nat→Nat} (r:Red n (2*n) n f c) {i j:Nat} (hi:i < n) (hj:j < n) (h:c i=c j):i=j:=by
 rcases Nat.lt_trichotomy i j with h1 | h1 | h1
 ·have:=r.up i j h1 hj;omega
 ·exact h1
 ·have:=r.up j i h1 hi;omega
theorem pauA_of {n:Nat} {p:Pau} (hp:Fit n p):pauA (p.m,wdP n p)=p:=pu_wdP hp
theorem pauA_eq {n:Nat} {a:PW} (ha:a.2.length=n):a=((pauA a).m,wdP n (pauA a)):=by
 obtain ⟨m,w⟩:=a
 show (m,w)=(m,wdP n (pu w m))
 rw [wdP_pu ha]
section
variable {n:Nat} {v:KV} {f:Nat→Pau} {c:Nat→Nat} {T:List Bool}
theorem stab_pivot (hn:n≤12) (r:Red n (2*n) n f c) (t:TabE n f v) (far : ∀ y,2 ^ n≤y→v y=K.zero)
 (hT : ∀ d,d < 2*n→(T.getD d false=true ↔ ∃ a∈fixL n v (2*4 ^ n),Lead n (pauA a) d)) {d:Nat} (hd:d < 2*n):T.getD d false=true ↔ ∃ j,j < n∧c j=d:=by
 rw [hT d hd]
 constructor
 ·rintro ⟨a,ha,hL⟩
  obtain ⟨h1,h2,h3⟩:=fixL_mem far ha
  obtain ⟨j,hj,e,_⟩:=r.first hn t h2 h3 hL.2.1 hL.2.2
  exact ⟨j,hj,e.symm⟩
 ·rintro ⟨j,hj,rfl⟩
  have hf:Fit n (f j):=by obtain ⟨g,tg⟩:=t;exact tg.fF j hj
  have hx:Fx (f j) v:=by obtain ⟨g,tg⟩:=t;exact tg.fix j hj
  exact ⟨_,fixL_has far hf hx,by rw [pauA_of hf];exact r.lead_at hj⟩
theorem stab_fits (hn:n≤12) (r:Red n (2*n) n f c) (t:TabE n f v) (far : ∀ y,2 ^ n≤y→v y=K.zero)
 (hT : ∀ d,d < 2*n→(T.getD d false=true ↔ ∃ a∈fixL n v (2*4 ^ n),Lead n (pauA a) d)) {j:Nat} (hj:j < n) {a:PW} (ha:a∈fixL n v (2*4 ^ n)) :
 FitsC n T (c j) (pauA a) (2*n)↔a=((f j).m,wdP n (f j)):=by
 obtain ⟨h1,h2,h3⟩:=fixL_mem far ha
 have hf:Fit n (f j):=by obtain ⟨g,tg⟩:=t;exact tg.fF j hj
 have hx:Fx (f j) v:=by obtain ⟨g,tg⟩:=t;exact tg.fix j hj
 constructor
 ·rintro ⟨k1,k2⟩
  have e:pauA a=f j:=r.same hn t h2 hf h3 hx fun i hi=>by
   rw [r.piv j i hj hi]
   rcases Nat.lt_trichotomy i j with h | h | h
   ·rw [k1.2.2 _ (r.up i j h hj),decide_eq_false (by omega)]
   ·rw [h,k1.2.1,decide_eq_true rfl]
   ·rw [k2 _ (r.up j i h hi) (r.lt i hi) ((stab_pivot hn r t far hT (r.lt i hi)).2 ⟨i,hi,rfl⟩),decide_eq_false (by omega)]
  rw [← e]
  exact pauA_eq h1
 ·intro e
  have:pauA a=f j:=by rw [e];exact pauA_of hf
  rw [this]
  refine ⟨r.lead_at hj,fun d hd1 hd2 hd3 => ?_⟩
  obtain ⟨i,hi,rfl⟩:=(stab_pivot hn r t far hT hd2).1 hd3
  rw [r.piv j i hj hi]
  exact decide_eq_false fun h=>by subst h;exact absurd hd1 (Nat.lt_irrefl _)
theorem col_walk (hn:n≤4) (r:Red n (2*n) n f c) (t:TabE n f v) (far : ∀ y,2 ^ n≤y→v y=K.zero) (hTl:T.length=2*n)
 (hT : ∀ d,d < 2*n→(T.getD d false=true ↔ ∃ a∈fixL n v (2*4 ^ n),Lead n (pauA a) d)) {j:Nat} (hj:j < n) (out:List Tx) (ho:out.length≤900) :
 ∃ i,iter (fun s:Int×List Tx↦W.jf.c100029 (n:Int) (c j:Int) (Prod.fst s) ((fixL n v (2*4 ^ n)).map ptx) (Prod.snd s) T some) ((0:Int),out)=some (i,out++[txP n (f j)]):=by
 have h256:4 ^ n≤256:=Nat.le_trans (Nat.pow_le_pow_right (by decide) hn) (by decide)
 have hlen:=fixL_len n v (2*4 ^ n)
 have hnod:=fixL_nodup n v
 have hmem : ∀ a∈fixL n v (2*4 ^ n),a.2.length=n:=fun a ha=>(fixL_mem far ha).1
 have hfit:=fun a (ha:a∈fixL n v (2*4 ^ n))=>stab_fits (by omega) r t far hT hj ha
 have hf:Fit n (f j):=by obtain ⟨g,tg⟩:=t;exact tg.fF j hj
 have hx:Fx (f j) v:=by obtain ⟨g,tg⟩:=t;exact tg.fix j hj
 have hin:=fixL_has far hf hx
 have hpiv:T.getD (c j) false=true:=(stab_pivot (by omega) r t far hT (r.lt j hj)).2 ⟨j,hj,rfl⟩
 have hcj:=r.lt j hj
 generalize fixL n v (2*4 ^ n)=A at *
 generalize hxe:((f j).m,wdP n (f j))=x at *
 have htx : ∀ a:PW,a=x→(if a.1=true then (45:UInt8) else 43)::txt a.2=txP n (f j):=fun a e=>by rw [e,← hxe];rfl
 obtain ⟨y,h1,i,rfl⟩:=JJ (f:=fun s:Int×List Tx↦W.jf.c100029 (n:Int) (c j:Int) (Prod.fst s) (A.map ptx) (Prod.snd s) T some) A.length
  (fun i s=>(s=((i:Int),out)∧x∉A.take i)∨(s=((i:Int),out++[txP n (f j)])∧x∈A.take i)) (fun y => ∃ i,y=(i,out++[txP n (f j)]))
  (by
   intro i s hi hs
   left
   have h29:W.jf.c29 (c j:Int) (i:Int) (A.map ptx) T some=some true:=by
    unfold W.jf.c29
    rw [jY (by rw [UB];omega),show inR (List.length T) (c j:Int)=some () from Jf (by simp only [Bool.and_eq_true,decide_eq_true_eq];omega),je,bool_idx (by omega),je,hpiv]
   have hai:A[i]∈A:=List.getElem_mem hi
   have hnot:A[i]∉A.take i:=by
    intro hmem
    obtain ⟨k,hk,e⟩:=List.mem_iff_getElem.1 hmem
    have hk2:k < i:=by rw [List.length_take] at hk;omega
    rw [List.getElem_take] at e
    exact (List.pairwise_iff_getElem.1 hnod k i (by omega) hi hk2) e
   have go : ∀ o:List Tx,o.length≤1000 → ∃ b:Bool,W.jf.c100029 (n:Int) (c j:Int) (i:Int) (A.map ptx) o T some=some (.inl (((i+1:Nat):Int),o++(if b=true then [(if A[i].1=true then 45 else 43)::txt A[i].2] else [])))∧(b=true↔A[i]=x):=fun o ho=>by
    obtain ⟨b,b1,b2⟩:=fits_walk hn hmem hTl hi hcj (by omega) o ho
    refine ⟨b,?_,b2.trans (hfit _ hai)⟩
    unfold W.jf.c100029
    refine jj h29 ?_
    rw [jN rfl]
    refine jj b1 ?_
    rw [js (by omega)]
    rfl
   rcases hs with ⟨rfl,hno⟩ | ⟨rfl,hyes⟩
   ·obtain ⟨b,b1,b2⟩:=go out (by omega)
    refine ⟨_,b1,?_⟩
    rw [List.take_succ_eq_append_getElem hi]
    cases b with
    | true=>
      right
      refine ⟨?_,List.mem_append_right _ (by rw [b2.1 rfl];exact List.mem_singleton.2 rfl)⟩
      rw [if_pos rfl,htx _ (b2.1 rfl)]
    | false=>
      left
      refine ⟨by rw [if_neg (by decide),List.append_nil],fun h => ?_⟩
      rcases List.mem_append.1 h with h | h
      ·exact hno h
      ·exact absurd (b2.2 (List.mem_singleton.1 h).symm) (by decide)
   ·obtain ⟨b,b1,b2⟩:=go (out++[txP n (f j)]) (by rw [List.length_append];show _+1≤_;omega)
    have hb:b=false:=by
     cases b with
     | false=>rfl
     | true=>exact absurd (by rw [b2.1 rfl];exact hyes) hnot
    subst hb
    refine ⟨_,b1,.inr ⟨by rw [if_neg (by decide),List.append_nil],?_⟩⟩
    rw [List.take_succ_eq_append_getElem hi]
    exact List.mem_append_left _ hyes)
  (by
   intro s hs
   rw [List.take_length] at hs
   have h29:W.jf.c29 (c j:Int) (A.length:Int) (A.map ptx) T some=some false:=by
    unfold W.jf.c29
    rw [jP (by rw [UB];omega)]
   rcases hs with ⟨rfl,hno⟩ | ⟨rfl,hyes⟩
   ·exact absurd hin hno
   ·refine ⟨((A.length:Int),out++[txP n (f j)]),?_,_,rfl⟩
    unfold W.jf.c100029
    refine jj h29 ?_
    rw [jq rfl])
  (s:=((0:Int),out)) (.inl ⟨rfl,by simp⟩)
 exact ⟨i,h1⟩
end
theorem stabilizers_ok {n:Nat} (hn:1≤n∧n≤4) {l:AList} {v:KV} {k:Nat} (hv:Amps l (2 ^ n) v k) (hk:k≤4500) {f:Nat→Pau} {c:Nat→Nat} (r:Red n (2*n) n f c) (t:TabE n f v) :
 W.jf l (n:Int)=some (stTx n f n):=by
 have far : ∀ y,2 ^ n≤y→v y=K.zero:=by obtain ⟨g,tg⟩:=t;exact tg.far
 have h256:4 ^ n≤256:=Nat.le_trans (Nat.pow_le_pow_right (by decide) hn.2) (by decide)
 have hw2:IntKind.i64.wrap ((2:Int)*(n:Int))=((2*n:Nat):Int):=by rw [js (by omega)];simp
 obtain ⟨T,p1,p2,p3⟩:=pivot_walk hn.2 (A:=fixL n v (2*4 ^ n)) (fun a ha=>(fixL_mem far ha).1) (by have:=fixL_len n v (2*4 ^ n);omega)
 obtain ⟨x,h1,hx⟩:=JJ (f:=fun s:Int×List Tx↦W.jf.c100026 (n:Int) (Prod.fst s) ((fixL n v (2*4 ^ n)).map ptx) (Prod.snd s) T some) (2*n)
  (fun col s => ∃ J,J≤n∧(∀ j,j < n→(c j < col↔j < J))∧s=((col:Int),stTx n f J)) (fun x=>x=(((2*n:Nat):Int),stTx n f n))
  (by
   rintro col s hcol ⟨J,hJ,hJc,rfl⟩
   left
   unfold W.jf.c100026
   rw [hw2,jY (by simp only;omega)]
   by_cases hex : ∃ j,j < n∧c j=col
   ·obtain ⟨j,hj,hcj⟩:=hex
    have hjJ:j=J:=by
     apply Classical.byContradiction
     intro hne
     have h1 : ¬ j < J:=fun h=>by have:=(hJc j hj).2 h;omega
     have h2:J < j:=by omega
     have h3:=r.up J j h2 hj
     have:=(hJc J (by omega)).1 (by omega)
     omega
    subst hjJ
    obtain ⟨i,hi⟩:=col_walk hn.2 r t far p2 p3 hj (stTx n f j) (by rw [VE];omega)
    refine ⟨(((col+1:Nat):Int),stTx n f (j+1)),?_,j+1,by omega,fun i hi => ?_,rfl⟩
    ·rw [← hcj]
     refine jj hi ?_
     rw [js (by simp only;omega),stTx_succ]
     rfl
    ·have h5:=hJc i hi
     constructor
     ·intro h
      by_cases e:c i=col
      ·have:=r.inj hi hj (e.trans hcj.symm);omega
      ·have:=h5.1 (by omega);omega
     ·intro h
      by_cases e:i=j
      ·rw [e];omega
      ·have:=h5.2 (by omega);omega
   ·have hT:T.getD col false=false:=by
     cases e:T.getD col false with
     | false=>rfl
     | true=>exact absurd ((stab_pivot (by omega) r t far p3 hcol).1 e) hex
    refine ⟨(((col+1:Nat):Int),stTx n f J),?_,J,hJ,fun i hi => ?_,rfl⟩
    ·have h29:W.jf.c29 (col:Int) (0:Int) ((fixL n v (2*4 ^ n)).map ptx) T some=some false:=by
      unfold W.jf.c29
      by_cases h:(0:Int) < (↑(List.length ((fixL n v (2*4 ^ n)).map ptx)):Int)
      ·rw [jY h,show inR (List.length T) (col:Int)=some () from Jf (by simp only [Bool.and_eq_true,decide_eq_true_eq];omega),je,bool_idx (by omega),je,hT]
      ·rw [jP h]
     have hin:iter (fun s:Int×List Tx↦W.jf.c100029 (n:Int) (col:Int) (Prod.fst s) ((fixL n v (2*4 ^ n)).map ptx) (Prod.snd s) T some) ((0:Int),stTx n f J)=some ((0:Int),stTx n f J):=by
      refine Yx ?_
      unfold W.jf.c100029
      refine jj h29 ?_
      rw [jq rfl]
     refine jj hin ?_
     rw [js (by simp only;omega)]
     rfl
    ·have h5:=hJc i hi
     constructor
     ·intro h
      refine h5.1 ?_
      have:c i≠col:=fun e=>hex ⟨i,hi,e⟩
      omega
     ·intro h;have:=h5.2 h;omega)
  (by
   rintro s ⟨J,hJ,hJc,rfl⟩
   have:J=n:=by
    apply Classical.byContradiction
    intro hne
    have:=(hJc J (by omega)).1 (r.lt J (by omega))
    omega
   subst this
   refine ⟨_,?_,rfl⟩
   unfold W.jf.c100026
   rw [hw2,jP (by simp)])
  (s:=((0:Int),[])) ⟨0,Nat.zero_le n,fun j hj=>by omega,rfl⟩
 unfold W.jf
 refine jj (all_walk hn hv hk) ?_
 rw [hw2]
 refine jj (Jf ?_) ?_
 ·simp only [Bool.and_eq_true,decide_eq_true_eq]
  omega
 ·rw [Int.toNat_natCast]
  refine jj p1 (jj h1 ?_)
  rw [hx]
end Go.Ql
end

section
set_option linter.unusedSectionVars false
set_option linter.unusedVariables false
set_option maxHeartbeats 1000000
namespace Go.Ql
theorem ops_of {n bn:Nat} (hn:n≤12) {ops:List GOp} (hg : ∀ o∈ops,GoodOp o (n:Int) (bn:Int)) (hs:(kq 0 ops).1=0) :
 (∀ o∈ops,OkP o n bn)∧(∀ o∈ops,o.1 < 5→StO n o):=by
 have h:=(strange_zero hs).1
 exact ⟨fun o ho=>okp_of hn (hg o ho) (h o ho),fun o ho h5=>sto5 (hg o ho) h5 (h o ho)⟩
theorem c5_out {n:Nat} (hn:n≤12) {i:Int} (h:i < 0∨((2 ^ n:Nat):Int)≤i):W.ji.c5 i (n:Int) some=some true∧W.jo.c4 i (n:Int) some=some true:=by
 have hp:IntKind.i64.wrap ((1:Int)*(2:Int) ^ Min.min (Int.toNat (n:Int)) (64:Nat))=((2 ^ n:Nat):Int):=by
  have:=pow63 (q:=(n:Int)) (by omega)
  rw [this,Int.toNat_natCast]
 constructor
 ·unfold W.ji.c5
  by_cases h1:i < 0
  ·rw [jY h1]
  ·rw [jP h1,ge0,je,hp,decide_eq_true (by omega)]
 ·unfold W.jo.c4
  by_cases h1:i < 0
  ·rw [jY h1]
  ·rw [jP h1,ge0,je,hp,decide_eq_true (by omega)]
theorem c5_in {n x:Nat} (hn:n≤12) (h:x < 2 ^ n):W.ji.c5 (x:Int) (n:Int) some=some false∧W.jo.c4 (x:Int) (n:Int) some=some false:=by
 have hp:IntKind.i64.wrap ((1:Int)*(2:Int) ^ Min.min (Int.toNat (n:Int)) (64:Nat))=((2 ^ n:Nat):Int):=by
  have:=pow63 (q:=(n:Int)) (by omega)
  rw [this,Int.toNat_natCast]
 constructor
 ·unfold W.ji.c5
  rw [jP (by omega),ge0,je,hp,decide_eq_false (by omega)]
 ·unfold W.jo.c4
  rw [jP (by omega),ge0,je,hp,decide_eq_false (by omega)]
theorem run_chk {c:Cir} (hc:WCir c) (h:(chk c).1≠0) (i:Int) (tape:List Int):W.ji c i tape=some ([],[],(0:Int),(chk c).1,(chk c).2)∧W.jo c i tape=some ([],[],(0:Int),(chk c).1,(chk c).2):=by
 constructor
 ·unfold W.ji
  refine jj (Uv c hc) ?_
  rw [jN (by simp [h])]
  rfl
 ·unfold W.jo
  refine jj (Ud c hc) ?_
  rw [jN (by simp [h])]
  rfl
section
variable {n bn:Nat} {ops:List GOp} {tape:List Int}
theorem run_out (hn:n≤12) (hw:WCir ((n:Int),(bn:Int),ops)) (hk:chk ((n:Int),(bn:Int),ops)=(0,0)) {i:Int} (h:i < 0∨((2 ^ n:Nat):Int)≤i) :
 W.ji ((n:Int),(bn:Int),ops) i tape=some ([],[],(0:Int),(18:Int),(0:Int))∧W.jo ((n:Int),(bn:Int),ops) i tape=some ([],[],(0:Int),(18:Int),(0:Int)):=by
 obtain ⟨h1,h2⟩:=c5_out hn h
 constructor
 ·unfold W.ji
  refine jj ((Uv _ hw).trans (congrArg some hk)) ?_
  rw [jq (by rfl)]
  refine jj h1 ?_
  rw [jN (by rfl)]
  rfl
 ·unfold W.jo
  refine jj ((Ud _ hw).trans (congrArg some hk)) ?_
  rw [jq (by rfl)]
  refine jj h2 ?_
  rw [jN (by rfl)]
  rfl
theorem run_strange (hn:n≤12) (hw:WCir ((n:Int),(bn:Int),ops)) (hk:chk ((n:Int),(bn:Int),ops)=(0,0)) {x:Nat} (hx:x < 2 ^ n) (hs:(kq 0 ops).1≠0) :
 W.ji ((n:Int),(bn:Int),ops) (x:Int) tape=some ([],[],(0:Int),(kq 0 ops).1,(kq 0 ops).2)∧W.jo ((n:Int),(bn:Int),ops) (x:Int) tape=some ([],[],(0:Int),(kq 0 ops).1,(kq 0 ops).2):=by
 obtain ⟨h1,h2⟩:=c5_in hn hx
 constructor
 ·unfold W.ji
  refine jj ((Uv _ hw).trans (congrArg some hk)) ?_
  rw [jq (by rfl)]
  refine jj h1 ?_
  rw [jq (by rfl)]
  refine jj (stranger_ok _ hw.1) ?_
  rw [jN (by simp [hs])]
  rfl
 ·unfold W.jo
  refine jj ((Ud _ hw).trans (congrArg some hk)) ?_
  rw [jq (by rfl)]
  refine jj h2 ?_
  rw [jq (by rfl)]
  refine jj (rfault_normal _ hw.1) ?_
  rw [jN (by simp [hs])]
  rfl
theorem texts_loop {f:Nat→Pau} (hn:n≤12) (hf : ∀ i,i < n→Fit n (f i)) :
 iter (fun s:Int×List Tx↦W.ji.c100030 (lst n f) (↑(List.length (lst n f)):Int) (Prod.fst s) (Prod.snd s) (n:Int) some) ((0:Int),[])=some ((n:Int),stTx n f n):=by
 refine kW n (fun k=>((k:Int),stTx n f k)) _ (fun k hk => ?_) ?_ rfl
 ·unfold W.ji.c100030
  rw [kR,jY (by simp only;omega),kM _ hk,je]
  have h32:W.ji.c32 (stTx n f k) (pe (f k)).1 (pe (f k)).2.1 (pe (f k)).2.2 (n:Int) some=some (stTx n f (k+1)):=by
   unfold W.ji.c32
   refine jj (text_pe hn (hf k hk)) ?_
   refine jj (Vc (n:=(stTx n f k).length+1) (k:=16) (by rw [VE];omega)) ?_
   rw [stTx_succ]
  refine jj h32 ?_
  rw [js (by simp only;omega)]
  rfl
 ·unfold W.ji.c100030
  rw [kR,jP (by simp)]
theorem run_prog (hn:n≤12) (hbn:bn≤12) (hw:WCir ((n:Int),(bn:Int),ops)) (hk:chk ((n:Int),(bn:Int),ops)=(0,0)) (hl:ops.length≤4100) (ht:tape.length < 2 ^ 62) {x:Nat} (hx:x < 2 ^ n) (hs:kq 0 ops=(0,0))
 (hops : ∀ o∈ops,OkP o n bn) (hsto : ∀ o∈ops,o.1 < 5→StO n o) :
 (∃ y,stabK tape 0 ops (baK x,List.replicate bn 0,0) = .inl y∧W.ji ((n:Int),(bn:Int),ops) (x:Int) tape=some ([],[],(0:Int),y.1,(y.2:Int))) ∨
 (∃ (s:SK) (f:Nat→Pau) (c:Nat→Nat),stabK tape 0 ops (baK x,List.replicate bn 0,0) = .inr s∧TabE n f s.1∧Red n (2*n) n f c∧W.ji ((n:Int),(bn:Int),ops) (x:Int) tape=some (stTx n f n,s.2.1,(s.2.2:Int),(0:Int),(0:Int))):=by
 obtain ⟨h1,-⟩:=c5_in hn hx
 have h12:=p12 hn
 obtain ⟨y,y1,y2⟩:=run_loop (tape:=tape) hn (Nat.lt_of_le_of_lt hbn (by decide)) (by omega) ht hops hsto (Tab.begin hn hx)
 have h10:W.ji.c10 (x:Int) (n:Int) (bn:Int) some=some ((n:Int),lst n (fun q=>⟨0,2 ^ q,x.testBit q⟩),lst n pX):=by
  unfold W.ji.c10
  refine jj (begin_ok hn (by omega)) (jj (Jf ?_) rfl)
  simp only [Bool.and_eq_true,decide_eq_true_eq]
  omega
 rcases y2 with ⟨u,z,rfl,e1,e2,e3,e4,e5,e6⟩ | ⟨s,f',g',rfl,e1,e2⟩
 ·refine .inl ⟨z,e1,?_⟩
  unfold W.ji
  refine jj ((Uv _ hw).trans (congrArg some hk)) ?_
  rw [jq (by rfl)]
  refine jj h1 ?_
  rw [jq (by rfl)]
  refine jj ((stranger_ok _ hw.1).trans (congrArg some hs)) ?_
  rw [jq (by rfl)]
  refine jj h10 (jj y1 ?_)
  rw [JS,e2,e3,e4,e5,e6]
 ·obtain ⟨f,c,r1,r2,r3⟩:=reduced_ok hn ⟨g',e2⟩
  refine .inr ⟨s,f,c,e1,r2,r3,?_⟩
  unfold W.ji
  refine jj ((Uv _ hw).trans (congrArg some hk)) ?_
  rw [jq (by rfl)]
  refine jj h1 ?_
  rw [jq (by rfl)]
  refine jj ((stranger_ok _ hw.1).trans (congrArg some hs)) ?_
  rw [jq (by rfl)]
  refine jj h10 (jj y1 ?_)
  rw [JZ]
  have h29:W.ji.c29 (n:Int) (lst n f') some=some (lst n f,(↑(List.length (lst n f)):Int)):=jj r1 rfl
  refine jj h29 ?_
  refine jj (texts_loop hn (by obtain ⟨g,tg⟩:=r2;exact tg.fF)) rfl
theorem stab_prog (hn:n≤8) (hbn:bn≤12) (hw:WCir ((n:Int),(bn:Int),ops)) (hk:chk ((n:Int),(bn:Int),ops)=(0,0)) (hl:ops.length≤4100) (ht:tape.length < 2 ^ 62) {x:Nat} (hx:x < 2 ^ n) (hs:kq 0 ops=(0,0))
 (hops : ∀ o∈ops,OkP o n bn) (hsto : ∀ o∈ops,o.1 < 5→StO n o) :
 (∃ y l,stabK tape 0 ops (baK x,List.replicate bn 0,0) = .inl y∧W.jo ((n:Int),(bn:Int),ops) (x:Int) tape=some (l,[],(0:Int),y.1,(y.2:Int))) ∨
 (∃ (s:SK) (l:AList),stabK tape 0 ops (baK x,List.replicate bn 0,0) = .inr s∧Amps l (2 ^ n) s.1 ops.length∧W.jo ((n:Int),(bn:Int),ops) (x:Int) tape=some (l,s.2.1,(s.2.2:Int),(0:Int),(0:Int))):=by
 obtain ⟨-,h2⟩:=c5_in (n:=n) (by omega) hx
 obtain ⟨l0,b1,b2⟩:=basis_walk (n:=n) (by omega) hx
 obtain ⟨y,y1,y2⟩:=stab_loop (tape:=tape) hn (Nat.lt_of_le_of_lt hbn (by decide)) hl ht hops hsto b2 (baK_far hx)
 have hok:okIf (decide ((0:Int)≤(bn:Int)) && decide ((bn:Int)≤(bn:Int)) && decide ((bn:Int)*(↑(8:Nat):Int)≤(140737488355328:Int)) && decide ((bn:Int)≤(140737488355328:Int)))=some ():=Jf (by
  simp only [Bool.and_eq_true,decide_eq_true_eq]
  omega)
 rcases y2 with ⟨u,z,rfl,e1,e2,e3⟩ | ⟨s,l,rfl,e1,e2⟩
 ·refine .inl ⟨z,[],e1,?_⟩
  unfold W.jo
  refine jj ((Ud _ hw).trans (congrArg some hk)) ?_
  rw [jq (by rfl)]
  refine jj h2 ?_
  rw [jq (by rfl)]
  refine jj ((rfault_normal _ hw.1).trans (congrArg some hs)) ?_
  rw [jq (by rfl)]
  refine jj b1 (jj hok (jj y1 ?_))
  rw [JS,e2,e3]
 ·refine .inr ⟨s,l,e1,e2,?_⟩
  unfold W.jo
  refine jj ((Ud _ hw).trans (congrArg some hk)) ?_
  rw [jq (by rfl)]
  refine jj h2 ?_
  rw [jq (by rfl)]
  refine jj ((rfault_normal _ hw.1).trans (congrArg some hs)) ?_
  rw [jq (by rfl)]
  refine jj b1 (jj hok (jj y1 ?_))
  rw [JZ]
  rfl
end
theorem stTx_idx {n i:Nat} (f:Nat→Pau) (h:i < n):idx (stTx n f n) (i:Int)=some (txP n (f i)):=by
 rw [Yd (by rw [VE];exact h)]
 simp [stTx]
theorem each_walk {n:Nat} (hn:1≤n∧n≤8) {l:AList} {v:KV} {t:Nat} (hv:Amps l (2 ^ n) v t) (ht:t≤4200) {f:Nat→Pau} (hT:TabE n f v) :
 ∃ i,iter (fun s:Int↦W.jh.c100016 (stTx n f n) l s (n:Int) some) (0:Int)=some (.inr i):=by
 obtain ⟨g,tg⟩:=hT
 have h12:=p12 (n:=n) (by omega)
 obtain ⟨y,h1,i,rfl⟩:=JJ (f:=fun s:Int↦W.jh.c100016 (stTx n f n) l s (n:Int) some) n
  (fun i s=>s=(i:Int)) (fun y => ∃ i,y = .inr i)
  (by
   rintro i s hi rfl
   left
   have hf:=tg.fF i hi
   obtain ⟨q1,q2,q3⟩:=txP_isP n (f i)
   have hip:=ispauli_ok (txP n (f i)) (n:Int) (by rw [(isP_len q1).1];omega) (by omega)
   rw [show (decide (1≤(n:Int)) && isP (txP n (f i)) (n:Int).toNat)=true by rw [Int.toNat_natCast,q1,Bool.and_true];exact decide_eq_true (by omega),if_pos rfl,q2,q3] at hip
   have h18:W.jh.c18 (stTx n f n) (i:Int) (n:Int) some=some (true,(f i).m,txt (wdP n (f i))):=by
    unfold W.jh.c18
    rw [stTx_idx f hi,je]
    exact jj hip rfl
   obtain ⟨r,t',e1,e2,e3⟩:=on_walk ⟨hn.1,by omega⟩ (UZ n (f i)) (f i).m hv (by omega)
   rw [pu_wdP hf,show pauK (f i) v=v from tg.fix i hi] at e3
   obtain ⟨U,f1,f2,f3⟩:=texts_walk (n:=n) (by omega) e3 (by omega)
   obtain ⟨V,g1,g2,g3⟩:=texts_walk (n:=n) (by omega) hv (by omega)
   have hUV:U=V:=texts_one f2 f3 g2 g3
   subst hUV
   have h19:W.jh.c19 l true (f i).m (txt (wdP n (f i))) some=some false:=by
    unfold W.jh.c19
    rw [jq (by rfl)]
    exact jj e2 (jj f1 (jj g1 (jj (sameTexts_self U (by omega)) rfl)))
   refine ⟨((i+1:Nat):Int),?_,rfl⟩
   unfold W.jh.c100016
   rw [VE,jY (by omega)]
   refine jj h18 (jj h19 ?_)
   rw [jq rfl,js (by omega)]
   rfl)
  (by
   rintro s rfl
   refine ⟨.inr (n:Int),?_,_,rfl⟩
   unfold W.jh.c100016
   rw [VE,jP (by simp)])
  (s:=(0:Int)) rfl
 exact ⟨i,h1⟩
theorem c10_ok {bits:List Int} (hb:bits.length≤1000) (used:Int) (g:Int×Int):W.jh.c10 bits used bits used g.1 g.2 g.1 g.2 some=some false:=by
 unfold W.jh.c10
 rw [jq (by rw [eqT_pair];simp)]
 refine jj (ksameInts_ok bits bits (by omega)) ?_
 rw [jq (by simp)]
 simp
theorem runs_law (c:Cir) (hc:WCir c) (i:Int) (tape:List Int) (ht:tape.length≤17592186043904):W.jh c i tape=some true:=by
 have hcp:=copyCircuit_ok c hc
 have hck:=Ud c hc
 have hok:okIf (decide (((0:Nat)+List.length tape)*(8:Nat)≤(140737488355328:Nat)) && decide ((0:Nat)+List.length tape≤(140737488355328:Nat)))=some ():=Vc (by omega)
 have h4:W.jh.c4 tape tape c.1 c.2.1 c.2.2 c.1 c.2.1 c.2.2 some=some false:=by
  unfold W.jh.c4
  refine jj begunT ?_
  rw [jq (by rfl)]
  refine jj (sameCircuit_ok c c hc) ?_
  rw [jq (by simp)]
  refine jj (ksameInts_ok tape tape ht) ?_
  simp
 have fail : ∀ (g:Int×Int) (l:AList),g.1≠0→W.ji c i tape=some ([],[],(0:Int),g.1,g.2)→W.jo c i tape=some (l,[],(0:Int),g.1,g.2)∨(chk c).1=0∧c.1 > 8→W.jh c i tape=some true:=by
  intro g l hg hr hs
  unfold W.jh
  refine jj hcp (jj hok (jj hr (jj h4 ?_)))
  rw [jq (by rfl)]
  refine jj hck ?_
  by_cases h7:(chk c).1=0∧c.1 > 8
  ·have e7:W.jh.c7 c.1 (chk c).1 some=some true:=by
    unfold W.jh.c7
    rw [jN (by simp [h7.1]),decide_eq_true h7.2]
   refine jj e7 ?_
   rw [jN rfl]
   have e8:W.jh.c8 [] c.1 g.1 some=some true:=by
    unfold W.jh.c8
    rw [jN (by simp [hg])]
   exact jj e8 rfl
  ·have hs2:W.jo c i tape=some (l,[],(0:Int),g.1,g.2):=by
    rcases hs with hs | hs
    ·exact hs
    ·exact absurd hs h7
   have e7:W.jh.c7 c.1 (chk c).1 some=some false:=by
    unfold W.jh.c7
    by_cases h:(chk c).1=0
    ·rw [jN (by simp [h]),decide_eq_false fun h8=>h7 ⟨h,h8⟩]
    ·rw [jq (by simp [h])]
   refine jj e7 ?_
   rw [jq rfl]
   refine jj hs2 (jj (c10_ok (bits:=[]) (by simp) 0 g) ?_)
   rw [jq rfl,jN (by simp [hg])]
   rfl
 by_cases hk:(chk c).1=0
 ·obtain ⟨hgood,hk2⟩:=good_of hk
  obtain ⟨c1,b,ops⟩:=c
  have hb:=hgood.b
  have hq:=hgood.q
  have hl:=hgood.n
  have hgo : ∀ o∈ops,GoodOp o c1 b:=fun o ho=>goodOp_of (hgood.ops o ho)
  simp only at hb hq hl
  obtain ⟨n,rfl⟩ : ∃ n:Nat,c1=(n:Int):=⟨c1.toNat,by omega⟩
  obtain ⟨bn,rfl⟩ : ∃ bn:Nat,b=(bn:Int):=⟨b.toNat,by omega⟩
  have hn:1≤n∧n≤12:=by omega
  have hbn:bn≤12:=by omega
  by_cases hin:i < 0∨((2 ^ n:Nat):Int)≤i
  ·obtain ⟨r1,r2⟩:=run_out (tape:=tape) hn.2 hc hk2 hin
   exact fail (18,0) [] (by decide) r1 (.inl r2)
  ·obtain ⟨x,rfl⟩ : ∃ x:Nat,i=(x:Int):=⟨i.toNat,by omega⟩
   have hx:x < 2 ^ n:=by omega
   by_cases hs:(kq 0 ops).1=0
   ·have hs2:=(strange_zero hs).2
    obtain ⟨hops,hsto⟩:=ops_of hn.2 hgo hs
    have ht2:tape.length < 2 ^ 62:=Nat.lt_of_le_of_lt ht (by decide)
    have hf19 : ∀ (l:List GOp) (k:Nat) (s:SK) (y:Int×Nat),stabK tape k l s = .inl y→y.1≠0:=by
     intro l
     induction l with
     | nil=>intro k s y h;cases h
     | cons o l ih=>
       intro k s y h
       unfold stabK at h
       split at h
       ·exact ih _ _ _ h
       ·split at h
        ·exact ih _ _ _ h
        ·split at h
         ·cases h;show (19:Int)≠0;decide
         ·split at h
          ·cases h;show (20:Int)≠0;decide
          ·split at h
           ·cases h;show (20:Int)≠0;decide
           ·exact ih _ _ _ h
    rcases run_prog (tape:=tape) hn.2 hbn hc hk2 (by omega) ht2 hx hs2 hops hsto with ⟨y,e1,e2⟩ | ⟨s,f,cc,e1,e2,e3,e4⟩
    ·by_cases h8:(n:Int) > 8
     ·exact fail (y.1,(y.2:Int)) [] (hf19 _ _ _ _ e1) e2 (.inr ⟨hk,h8⟩)
     ·rcases stab_prog (tape:=tape) (by omega) hbn hc hk2 (by omega) ht2 hx hs2 hops hsto with ⟨y',l,d1,d2⟩ | ⟨s',l,d1,d2,d3⟩
      ·rw [e1] at d1
       cases d1
       exact fail (y.1,(y.2:Int)) l (hf19 _ _ _ _ e1) e2 (.inl d2)
      ·rw [e1] at d1;cases d1
    ·unfold W.jh
     refine jj hcp (jj hok (jj e4 (jj h4 ?_)))
     rw [jq (by rfl)]
     refine jj (hck.trans (congrArg some hk2)) ?_
     by_cases h8:(n:Int) > 8
     ·have e7:W.jh.c7 (n:Int) 0 some=some true:=by
       unfold W.jh.c7
       rw [jN (by rfl),decide_eq_true h8]
      refine jj e7 ?_
      rw [jN rfl]
      have ec8:W.jh.c8 (stTx n f n) (n:Int) 0 some=some true:=by
       unfold W.jh.c8
       rw [jq (by rfl),VE]
       simp
      exact jj ec8 rfl
     ·have e7:W.jh.c7 (n:Int) 0 some=some false:=by
       unfold W.jh.c7
       rw [jN (by rfl),decide_eq_false h8]
      refine jj e7 ?_
      rw [jq rfl]
      rcases stab_prog (tape:=tape) (by omega) hbn hc hk2 (by omega) ht2 hx hs2 hops hsto with ⟨y',l,d1,d2⟩ | ⟨s',l,d1,d2,d3⟩
      ·rw [e1] at d1;cases d1
      ·rw [e1] at d1
       cases d1
       refine jj d3 ?_
       have hbl:s.2.1.length≤1000:=by
        have inv : ∀ (l:List GOp) (k:Nat) (s s':SK),stabK tape k l s = .inr s'→s'.2.1.length=s.2.1.length:=by
         intro l
         induction l with
         | nil=>intro k s s' h;cases h;rfl
         | cons o l ih=>
           intro k s s' h
           unfold stabK at h
           split at h
           ·have:=ih _ _ _ h;exact this
           ·split at h
            ·have:=ih _ _ _ h;exact this
            ·split at h
             ·cases h
             ·split at h
              ·cases h
              ·split at h
               ·cases h
               ·rw [ih _ _ _ h]
                unfold meetK
                simp only
                split
                ·rw [List.length_set]
                ·rfl
        rw [inv _ _ _ _ e1]
        simp
        omega
       refine jj (c10_ok hbl (s.2.2:Int) (0,0)) ?_
       rw [jq rfl,jq (by rfl)]
       by_cases h4n:(n:Int) > 4
       ·rw [jY h4n]
        obtain ⟨k,hk9⟩:=each_walk (n:=n) ⟨hn.1,by omega⟩ d2 (by omega) e2
        refine jj hk9 ?_
        rw [JZ,VE]
        simp
       ·rw [jP h4n]
        refine jj (stabilizers_ok ⟨hn.1,by omega⟩ d2 (by omega) e3 e2) ?_
        refine jj (sameTexts_self _ (by rw [VE];omega)) rfl
   ·obtain ⟨r1,r2⟩:=run_strange (tape:=tape) hn.2 hc hk2 hx hs
    exact fail (kq 0 ops) [] hs r1 (.inl r2)
 ·obtain ⟨r1,r2⟩:=run_chk hc hk i tape
  exact fail (chk c) [] hk r1 (.inl r2)
end Go.Ql
end

section
namespace Go.Ql
theorem runs_wf : ∀ x:dens [cirTy,.int .i64,.sl (.int .i64)],WfL [cirTy,.int .i64,.sl (.int .i64)] x→W.jh.ce.F x=some true:=by
 intro x h
 obtain ⟨h3,_⟩:=h.2.2
 rw [int_bytes] at h3
 have h3:x.2.2.length*8≤140737488351232:=h3
 exact runs_law x.1 (wcir_of h.1) x.2.1 x.2.2 (by omega)
end Go.Ql
end
