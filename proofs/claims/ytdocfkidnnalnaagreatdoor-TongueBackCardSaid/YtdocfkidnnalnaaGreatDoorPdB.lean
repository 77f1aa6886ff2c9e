/- Plain laws: what is written is read again. -/
import Derived.Test.YtdocfkidnnalnaaGreatDoorPcB
import Derived.Test.YtdocfkidnnalnaaGreatDoorPaB
import Derived.Test.YtdocfkidnnalnaaGreatDoorWdB
set_option linter.all false
section
namespace Go.Ql
abbrev KW:=Int×Z6
def stp (ts:List Tk):List KW:=ts.map fun t=>(t.1,t.2.1)
def hk (l:List KW):KW:=l.headD (0,[])
theorem HT (ts:List Tk):((hdT ts).1,(hdT ts).2.1)=hk (stp ts):=by cases ts<;>rfl
theorem stp_tl (ts:List Tk):stp ts.tail=(stp ts).tail:=by cases ts<;>rfl
theorem hd_of {ts:List Tk} {k:Int} {w:Z6} {r:List KW} (h:stp ts=(k,w)::r):(hdT ts).1=k∧(hdT ts).2.1=w∧stp ts.tail=r:=by
 have h1:=HT ts
 rw [h] at h1
 have h1:((hdT ts).1,(hdT ts).2.1)=(k,w):=h1
 injection h1 with h1 h2
 exact ⟨h1,h2,by rw [stp_tl,h];rfl⟩
theorem kP {ts:List Tk} {w:Z6} {r:List KW} (h:stp ts=(2,w)::r):seesT w ts=true:=by
 have:=hd_of h
 unfold seesT
 rw [this.1,this.2.1];simp
def seesK (w:Z6) (l:List KW):Bool:=decide ((hk l).1=2)&&(hk l).2==w
theorem JD {ts:List Tk} {l:List KW} (h:stp ts=l) (w:Z6):seesT w ts=seesK w l:=by
 have h1:=HT ts
 rw [h] at h1
 unfold seesT seesK
 rw [←h1]
def Pc {α:Type} (r:Rd α) (Q:α→List Tk→Prop):Prop:=match r with
 | .ok a us=>Q a us
 | .err _=>False
 | .out=>True
theorem Pc.bind {α β:Type} {r:Rd α} {Q:α→List Tk→Prop} {g:α→List Tk→Rd β} {Q':β→List Tk→Prop} (h:Pc r Q) (hg:∀a us,Q a us→Pc (g a us) Q'):Pc (r.bind g) Q':=by
 cases r with
 | ok a us=>exact hg a us h
 | err e=>exact h.elim
 | out=>trivial
theorem Pc.pos {α:Type} {c:Prop} [Decidable c] {r s:Rd α} {Q:α→List Tk→Prop} (hc:c) (h:Pc r Q):Pc (if c then r else s) Q:=by rw [if_pos hc];exact h
theorem Pc.neg {α:Type} {c:Prop} [Decidable c] {r s:Rd α} {Q:α→List Tk→Prop} (hc:¬c) (h:Pc s Q):Pc (if c then r else s) Q:=by rw [if_neg hc];exact h
theorem ki {w:Z6} {ts:List Tk} {r:List KW} (h:stp ts=(2,w)::r):Pc (wantT w ts) (fun _ us=>stp us=r):=by
 unfold wantT
 exact Pc.pos (kP h) (hd_of h).2.2
theorem Vf {w:Z6} {ts:List Tk} {r:List KW} (h:stp ts=(1,w)::r):Pc (wordT ts) (fun t us=>t.2.1=w∧stp us=r):=by
 unfold wordT
 exact Pc.pos (hd_of h).1 (hd_of h).2
def YEx.zp:YEx→YEx
 | .num _ v=>.num 0 v
 | .name _ w=>.name 0 w
 | .size _ w=>.size 0 w
 | .neg _ a=>.neg 0 a.zp
 | .bin _ w a b=>.bin 0 w a.zp b.zp
def parK (c:Bool) (l:List KW):List KW:=if c then (2,[40])::(l++[(2,[41])]) else l
def YEx.tk:YEx→List KW
 | .num _ v=>[(3,Go.Lib.itoa v)]
 | .name _ w=>[(1,w)]
 | .size _ w=>[(2,[115,105,122,101]),(2,[40]),(1,w),(2,[41])]
 | .neg _ a=>(2,[45])::parK (decide (a.tight<4)) a.tk
 | .bin _ w a b=>parK (decide (a.tight<lftT (rkN w))) a.tk++(2,w)::parK (decide (b.tight<rgtT (rkN w))) b.tk
def YEx.tkA (m:Nat) (x:YEx):List KW:=parK (decide (x.tight<m)) x.tk
def stopK (lvl:Nat) (l:List KW):Prop:=(hk l).1=2→rankT (hk l).2<lvl
def ExR (x:YEx) (rest:List KW) (a:Nd) (us:List Tk):Prop:=∃y:YEx,a=y.nd∧y.zp=x.zp∧stp us=rest
theorem numT_itoa {v:Int} (h:0≤v):numT' (Go.Lib.itoa v)=v:=by
 rcases itoa_txt v with ⟨h0,e⟩ | ⟨h0,D,hd,e⟩
 ·rw [e,h0];rfl
 ·rw [e,if_neg (by omega),List.nil_append]
  have h1:dec D=(v.natAbs:Int):=hd.2.2.2
  have h2:numT' D=dec D:=rfl
  rw [h2,h1];omega
theorem tight_pos {x:YEx} (h:x.ok):1≤x.tight:=by
 cases x with
 | bin p w a b=>
   have:=h.1
   simp only [YEx.tight,rkN]
   rcases YQ w with e | e | e | e | e
   ·exact absurd e this
   all_goals (rw [e];decide)
 | _=>simp [YEx.tight]
theorem tkA_one {x:YEx} (h:x.ok):x.tkA 1=x.tk:=by
 have:=tight_pos h
 unfold YEx.tkA parK
 rw [zk (by omega)];rfl
theorem VP {x:YEx} {m:Nat} (h:m≤x.tight):x.tkA m=x.tk:=by
 unfold YEx.tkA parK
 rw [zk (by omega)];rfl
theorem Hj {x:YEx} {m:Nat} (h:x.tight<m):x.tkA m=(2,[40])::(x.tk++[(2,[41])]):=by
 unfold YEx.tkA parK
 rw [zj h];rfl
theorem HS (w:Z6):rankT w=((rkN w:Nat):Int):=by
 unfold rkN
 rcases YQ w with e | e | e | e | e<;>rw [e]<;>rfl
theorem stop_close {m:Nat} (hm:1≤m) (r:List KW):stopK m ((2,[41])::r):=by
 intro _
 show rankT [41]<(m:Int)
 rw [show rankT [41]=0 from by decide];omega
theorem tk6_hd {x:YEx} (r:List KW):seesK [45] (x.tkA 6++r)=false:=by
 by_cases h:x.tight<6
 ·rw [Hj h];rfl
 ·rw [VP (by omega)]
  cases x with
  | num p v=>rfl
  | name p w=>rfl
  | size p w=>rfl
  | neg p a=>exact absurd (show 4<6 by decide) h
  | bin p w a b=>
    exfalso
    apply h
    show rkN w<6
    unfold rkN
    rcases YQ w with e | e | e | e | e<;>(rw [e];decide)
theorem ex_par:∀n:Nat,
 (∀(lvl:Nat) (x:YEx) (ts:List Tk) (rest:List KW),1≤lvl→lvl≤4→x.ok→stp ts=x.tkA lvl++rest→stopK lvl rest→Pc (xpT n lvl ts) (ExR x rest)) ∧
 (∀(x:YEx) (ts:List Tk) (rest:List KW),x.ok→stp ts=x.tkA 4++rest→stopK 4 rest→Pc (siT n ts) (ExR x rest)) ∧
 (∀(x:YEx) (ts:List Tk) (rest:List KW),x.ok→stp ts=x.tkA 6++rest→Pc (atT n ts) (ExR x rest)):=by
 intro n
 induction n using Nat.strongRecOn with
 | ind n ih=>
 cases n with
 | zero=>exact ⟨fun _ _ _ _ _ _ _ _ _=>trivial,fun _ _ _ _ _ _=>trivial,fun _ _ _ _ _=>trivial⟩
 | succ n=>
   obtain ⟨hE,hS,hA⟩:=ih n (by omega)
   refine ⟨fun lvl x ts rest h1 h4 hx hts hst=>?_,fun x ts rest hx hts hst=>?_,fun x ts rest hx hts=>?_⟩
   ·rw [xpT]
    by_cases hl:lvl=4
    ·subst hl
     exact Pc.pos rfl (hS x ts rest hx hts hst)
    ·refine Pc.neg hl ?_
     
     have chain:∀(x:YEx) (ts:List Tk) (rest:List KW) (Q:Nd→List Tk→Prop),2≤lvl→x.ok→stp ts=x.tkA lvl++rest→stopK (lvl+1) rest →
      (∀(y:YEx) us m,m≤n→y.zp=x.zp→stp us=rest→Pc (taT m lvl y.nd us) Q)→Pc ((xpT n (lvl+1) ts).bind fun a us=>taT n lvl a us) Q:=by
      intro x
      induction x with
      | bin p w a b iha ihb=>
        intro ts rest Q h2 hx hts hst hk
        by_cases ht:(YEx.bin p w a b).tight=lvl
        ·have hw:rkN w=lvl:=ht
         rw [VP (by omega)] at hts
         have hlf:lftT (rkN w)=lvl:=by rw [hw];unfold lftT;rw [if_neg (by omega),if_neg (by omega)]
         have hrg:rgtT (rkN w)=lvl+1:=by rw [hw];unfold rgtT;rw [if_neg (by omega),if_neg (by omega)]
         simp only [YEx.tk,hlf,hrg] at hts
         refine iha ts ((2,w)::(b.tkA (lvl+1)++rest)) Q h2 hx.2.1 (by rw [hts];simp [YEx.tkA]) (by intro _;show rankT w<_;rw [HS,hw];omega) ?_
         intro y us m hm hy hus
         cases m with
         | zero=>trivial
         | succ m=>
           obtain ⟨u1,u2,u3⟩:=hd_of hus
           rw [taT]
           refine Pc.pos ⟨u1,by rw [u2,HS,hw]⟩ ?_
           refine (((ih m (by omega)).1 (lvl+1) b us.tail rest (by omega) (by omega) hx.2.2 u3 hst)).bind fun b' vs hb=>?_
           obtain ⟨z,rfl,hz,hvs⟩:=hb
           refine Pc.neg (by omega) ?_
           have:=hk (.bin (hdT us).2.2 w y z) vs m (by omega) (by simp only [YEx.zp,hy,hz]) hvs
           unfold binT
           rw [u2]
           exact this
        ·have he:(YEx.bin p w a b).tkA lvl=(YEx.bin p w a b).tkA (lvl+1):=by
          rcases Nat.lt_or_ge (YEx.bin p w a b).tight lvl with h | h
          ·rw [Hj h,Hj (by omega)]
          ·rw [VP h,VP (by omega)]
         rw [he] at hts
         refine (hE (lvl+1) _ ts rest (by omega) (by omega) hx hts hst).bind fun a' us ha=>?_
         obtain ⟨y,rfl,hy,hus⟩:=ha
         exact hk y us n (zt _) hy hus
      | num p v | name p w | size p w | neg p a=>
        intro ts rest Q h2 hx hts hst hk
        rw [VP (by simp only [YEx.tight];omega),←VP (m:=lvl+1) (by simp only [YEx.tight];omega)] at hts
        refine (hE (lvl+1) _ ts rest (by omega) (by omega) hx hts hst).bind fun a' us ha=>?_
        obtain ⟨y,rfl,hy,hus⟩:=ha
        exact hk y us n (zt _) hy hus
     have stop:∀(y:YEx) us m,y.zp=x.zp→stp us=rest→Pc (taT m lvl y.nd us) (ExR x rest):=by
      intro y us m hy hus
      cases m with
      | zero=>trivial
      | succ m=>
        rw [taT]
        refine Pc.neg ?_ ⟨y,rfl,hy,hus⟩
        intro ⟨u1,u2⟩
        have h:=HT us
        rw [hus] at h
        have h1:(hdT us).1=(hk rest).1:=by rw [←h]
        have h2:(hdT us).2.1=(hk rest).2:=by rw [←h]
        have:=hst (by rw [←h1];exact u1)
        rw [←h2,u2] at this
        omega
     by_cases h2:2≤lvl
     ·exact chain x ts rest _ h2 hx hts (by intro h;have:=hst h;omega) (fun y us m _ hy hus=>stop y us m hy hus)
     ·have hl1:lvl=1:=by omega
      subst hl1
      by_cases ht:x.tight=1
      ·cases x with
       | bin p w a b=>
         have hw:rkN w=1:=ht
         rw [VP (by omega)] at hts
         have hlf:lftT (rkN w)=2:=by rw [hw];rfl
         have hrg:rgtT (rkN w)=2:=by rw [hw];rfl
         simp only [YEx.tk,hlf,hrg] at hts
         refine (hE 2 a ts ((2,w)::(b.tkA 2++rest)) (by omega) (by omega) hx.2.1 (by rw [hts];simp [YEx.tkA]) (by intro _;show rankT w<_;rw [HS,hw];decide)).bind fun a' us ha=>?_
         obtain ⟨y,rfl,hy,hus⟩:=ha
         cases n with
         | zero=>trivial
         | succ m=>
           obtain ⟨u1,u2,u3⟩:=hd_of hus
           rw [taT]
           refine Pc.pos ⟨u1,by rw [u2,HS,hw]⟩ ?_
           refine (((ih m (by omega)).1 2 b us.tail rest (by omega) (by omega) hx.2.2 u3 (by intro h;have:=hst h;omega))).bind fun b' vs hb=>?_
           obtain ⟨z,rfl,hz,hvs⟩:=hb
           refine Pc.pos rfl ?_
           exact ⟨.bin (hdT us).2.2 w y z,by unfold binT;rw [u2];rfl,by simp only [YEx.zp,hy,hz],hvs⟩
       | _=>simp [YEx.tight] at ht
      ·have h1:=tight_pos hx
       rw [VP h1,←VP (m:=2) (by omega)] at hts
       refine (hE 2 x ts rest (by omega) (by omega) hx hts (by intro h;have:=hst h;omega)).bind fun a' us ha=>?_
       obtain ⟨y,rfl,hy,hus⟩:=ha
       exact stop y us n hy hus
   ·rw [siT]
    have nostar : ∀ us, stp us = rest → ¬ seesT (bs "**") us = true := by
     intro us hus hs
     have h:=HT us
     rw [hus] at h
     have h1:(hdT us).1=(hk rest).1:=by rw [←h]
     have h2:(hdT us).2.1=(hk rest).2:=by rw [←h]
     have:=hst (by rw [←h1];exact YW hs)
     rw [← h2, sees_word hs, show rankT (bs "**") = 5 from by decide] at this
     omega
    have atom : stp ts = x.tkA 6 ++ rest → Pc (if seesT (bs "-") ts = true then (siT n ts.tail).bind fun a us => .ok (ndK 23 (hdT ts).2.2 [a]) us else (atT n ts).bind fun a us => if seesT (bs "**") us = true then (siT n us.tail).bind fun b vs => .ok (binT (hdT us) a b) vs else .ok a us) (ExR x rest) := by
     intro h
     refine Pc.neg (by rw [show bs "-" = [45] from by decide, JD h, tk6_hd]; simp) ?_
     refine (hA x ts rest hx h).bind fun a us ha=>?_
     obtain ⟨y,rfl,hy,hus⟩:=ha
     exact Pc.neg (nostar us hus) ⟨y,rfl,hy,hus⟩
    by_cases ht:x.tight<4
    ·rw [Hj ht,←Hj (m:=6) (by omega)] at hts
     exact atom hts
    ·rw [VP (by omega)] at hts
     cases x with
     | neg p a=>
       have hts:stp ts=(2,[45])::(a.tkA 4++rest):=hts
       refine Pc.pos (by rw [show bs "-" = [45] from by decide]; exact kP hts) ?_
       refine (hS a ts.tail rest hx (hd_of hts).2.2 hst).bind fun a' us ha=>?_
       obtain ⟨y,rfl,hy,hus⟩:=ha
       exact ⟨.neg (hdT ts).2.2 y,rfl,by simp only [YEx.zp,hy],hus⟩
     | bin p w a b=>
       have hw:rkN w=5:=by
        have h1:¬rkN w<4:=ht
        unfold rkN at h1 ⊢
        rcases YQ w with e | e | e | e | e<;>rw [e] at h1 ⊢ <;> first | rfl | exact absurd (by decide) h1
       have hw2:w=[42,42]:=rank_five (by rw [HS,hw];rfl)
       have hlf:lftT (rkN w)=6:=by rw [hw];rfl
       have hrg:rgtT (rkN w)=4:=by rw [hw];rfl
       simp only [YEx.tk,hlf,hrg] at hts
       have h1:stp ts=a.tkA 6++((2,w)::(b.tkA 4++rest)):=by rw [hts];simp [YEx.tkA]
       refine Pc.neg (by rw [show bs "-" = [45] from by decide, JD h1, tk6_hd]; simp) ?_
       refine (hA a ts _ hx.2.1 h1).bind fun a' us ha=>?_
       obtain ⟨y,rfl,hy,hus⟩:=ha
       obtain ⟨u1,u2,u3⟩:=hd_of hus
       refine Pc.pos (by rw [show bs "**" = [42, 42] from by decide]; rw [hw2] at hus; exact kP hus) ?_
       refine (hS b us.tail rest hx.2.2 u3 hst).bind fun b' vs hb=>?_
       obtain ⟨z,rfl,hz,hvs⟩:=hb
       exact ⟨.bin (hdT us).2.2 w y z,by unfold binT;rw [u2];rfl,by simp only [YEx.zp,hy,hz],hvs⟩
     | num p v=>exact atom hts
     | name p w=>exact atom hts
     | size p w=>exact atom hts
   ·rw [atT]
    by_cases ht:x.tight<6
    ·rw [Hj ht] at hts
     have hts:stp ts=(2,[40])::(x.tk++(2,[41])::rest):=by rw [hts];simp
     obtain ⟨u1,u2,u3⟩:=hd_of hts
     refine Pc.neg (by omega) (Pc.neg (by omega) (Pc.neg (by rw [JD hts, show bs "size" = [115, 105, 122, 101] from by decide]; exact (fun h => by cases h)) ?_))
     have e1 : bs "(" = [40] := by decide
     have e2 : bs ")" = [41] := by decide
     rw [e1,e2]
     refine (ki hts).bind fun _ us hus=>?_
     refine (hE 1 x us ((2,[41])::rest) (by omega) (by omega) hx (by rw [hus,tkA_one hx]) (stop_close (by omega) _)).bind fun a' vs ha=>?_
     obtain ⟨y,rfl,hy,hvs⟩:=ha
     exact (ki hvs).bind fun _ xs hxs=>⟨y,rfl,hy,hxs⟩
    ·rw [VP (by omega)] at hts
     cases x with
     | num p v=>
       obtain ⟨u1,u2,u3⟩:=hd_of hts
       exact Pc.pos u1 ⟨.num (hdT ts).2.2 v,by rw [u2,numT_itoa hx.1];rfl,rfl,u3⟩
     | name p w=>
       obtain ⟨u1,u2,u3⟩:=hd_of hts
       exact Pc.neg (by omega) (Pc.pos u1 ⟨.name (hdT ts).2.2 w,by rw [u2];rfl,rfl,u3⟩)
     | size p w=>
       have hts:stp ts=(2,[115,105,122,101])::(2,[40])::(1,w)::(2,[41])::rest:=hts
       obtain ⟨u1,u2,u3⟩:=hd_of hts
       have e0 : bs "size" = [115, 105, 122, 101] := by decide
       have e1 : bs "(" = [40] := by decide
       have e2 : bs ")" = [41] := by decide
       rw [e0,e1,e2]
       refine Pc.neg (by omega) (Pc.neg (by omega) (Pc.pos (kP hts) ?_))
       exact (ki u3).bind fun _ us hus=>(Vf hus).bind fun t vs hvs=>(ki hvs.2).bind fun _ xs hxs=>⟨.size (hdT ts).2.2 w,by rw [hvs.1];rfl,rfl,hxs⟩
     | neg p a=>exact absurd (show 4<6 by decide) ht
     | bin p w a b=>
       exfalso
       apply ht
       show rkN w<6
       unfold rkN
       rcases YQ w with e | e | e | e | e<;>(rw [e];decide)
end Go.Ql
end

section
namespace Go.Ql
def Rs {β:Type} (f:β→Nd) (z:β→β) (x:β) (rest:List KW) (a:Nd) (us:List Tk):Prop:=∃y:β,a=f y∧z y=z x∧stp us=rest
theorem bsL : bs "[" = [91] ∧ bs "]" = [93] ∧ bs ".." = [46, 46] ∧ bs "!" = [33] ∧ bs "(" = [40] ∧ bs ")" = [41] ∧ bs "," = [44] ∧ bs ";" = [59] ∧ bs "inv" = [105, 110, 118] ∧ bs "ctrl" = [99, 116, 114, 108] ∧ bs "pow" = [112, 111, 119] ∧ bs "@" = [64] ∧ bs "0" = [48] ∧ bs "1" = [49] := by decide
theorem ex1 {n:Nat} {x:YEx} {ts:List Tk} {rest:List KW} (hx:x.ok) (h:stp ts=x.tk++rest) (hs:stopK 1 rest):Pc (xpT n 1 ts) (ExR x rest):=
 (ex_par n).1 1 x ts rest (by omega) (by omega) hx (by rw [tkA_one hx];exact h) hs
theorem VN {w:Z6} {r:List KW} (h:rankT w=0):stopK 1 ((2,w)::r):=by intro _;show rankT w<_;rw [h];decide
def YRf.zp:YRf→YRf
 | .one _ w=>.one 0 w
 | .idx _ w a=>.idx 0 w a.zp
 | .rng _ w a b=>.rng 0 w a.zp b.zp
def YRf.tl:YRf→List KW
 | .one _ w=>[]
 | .idx _ w a=>(2,[91])::(a.tk++[(2,[93])])
 | .rng _ w a b=>(2,[91])::(a.tk++(2,[46,46])::(b.tk++[(2,[93])]))
def YRf.nm:YRf→Z6
 | .one _ w=>w
 | .idx _ w _=>w
 | .rng _ w _ _=>w
def YRf.tk (x:YRf):List KW:=(1,x.nm)::x.tl
theorem rf_par {n:Nat} {x:YRf} {t:Tk} {ts:List Tk} {rest:List KW} (hx:x.ok) (ht:t.2.1=x.nm) (h:stp ts=x.tl++rest) (hs:seesK [91] rest=false):Pc (rfT n t ts) (Rs YRf.nd YRf.zp x rest):=by
 unfold rfT
 rw [bsL.1,bsL.2.1,bsL.2.2.1]
 cases x with
 | one p w=>
   have h:stp ts=rest:=h
   have ht:t.2.1=w:=ht
   exact Pc.neg (by rw [JD h,hs];simp) ⟨.one t.2.2 w,by rw [ht];rfl,rfl,h⟩
 | idx p w a=>
   have ht:t.2.1=w:=ht
   have h:stp ts=(2,[91])::(a.tk++(2,[93])::rest):=by rw [h];simp [YRf.tl]
   refine Pc.pos (kP h) ((ex1 hx.2 (hd_of h).2.2 (VN (by decide))).bind fun a' us ha=>?_)
   obtain ⟨y,rfl,hy,hus⟩:=ha
   refine Pc.neg (by rw [JD hus];exact (fun h=>by cases h)) ((ki hus).bind fun _ vs hvs=>⟨.idx t.2.2 w y,by rw [ht];rfl,by simp only [YRf.zp,hy],hvs⟩)
 | rng p w a b=>
   have ht:t.2.1=w:=ht
   have h:stp ts=(2,[91])::(a.tk++(2,[46,46])::(b.tk++(2,[93])::rest)):=by rw [h];simp [YRf.tl]
   refine Pc.pos (kP h) ((ex1 hx.2.1 (hd_of h).2.2 (VN (by decide))).bind fun a' us ha=>?_)
   obtain ⟨y,rfl,hy,hus⟩:=ha
   refine Pc.pos (kP hus) ((ex1 hx.2.2 (hd_of hus).2.2 (VN (by decide))).bind fun b' vs hb=>?_)
   obtain ⟨z,rfl,hz,hvs⟩:=hb
   exact (ki hvs).bind fun _ xs hxs=>⟨.rng t.2.2 w y z,by rw [ht];rfl,by simp only [YRf.zp,hy,hz],hxs⟩
theorem Hu {n:Nat} {x:YRf} {ts:List Tk} {rest:List KW} (hx:x.ok) (h:stp ts=x.tk++rest) (hs:seesK [91] rest=false):Pc (reT n ts) (Rs YRf.nd YRf.zp x rest):=by
 unfold reT
 exact (Vf h).bind fun t us hus=>rf_par hx hus.1 hus.2 hs
def YTr.zp:YTr→YTr
 | .op k _ a b=>.op k 0 a.zp b.zp
 | .not _ a=>.not 0 a.zp
 | .bit _ v=>.bit 0 v
 | .ref r=>.ref r.zp
def YTr.tk:YTr→List KW
 | .op k _ a b=>parK (decide (a.tight<k)) a.tk++(2,opW k)::parK (decide (b.tight<k+1)) b.tk
 | .not _ a=>(2,[33])::parK (decide (a.tight<4)) a.tk
 | .bit _ v=>[(3,Go.Lib.itoa v)]
 | .ref r=>r.tk
def YTr.tkA (m:Nat) (x:YTr):List KW:=parK (decide (x.tight<m)) x.tk
def stopT (lvl:Nat) (l:List KW):Prop:=seesK [91] l=false ∧ ∀j,lvl≤j→j≤3→seesK (opW j) l=false
theorem Hc {x:YTr} {m:Nat} (h:m≤x.tight):x.tkA m=x.tk:=by
 unfold YTr.tkA parK
 rw [zk (by omega)];rfl
theorem trA_par {x:YTr} {m:Nat} (h:x.tight<m):x.tkA m=(2,[40])::(x.tk++[(2,[41])]):=by
 unfold YTr.tkA parK
 rw [zj h];rfl
theorem ttight {x:YTr} (h:x.ok):1≤x.tight∧x.tight≤4:=by
 cases x with
 | op k p a b=>have:=h.1;simp only [YTr.tight];omega
 | _=>simp [YTr.tight]
theorem bop_w {k:Nat} (h:1≤k∧k≤3):(bopT k).1=opW k:=by
 have:k=1∨k=2∨k=3:=by omega
 rcases this with rfl | rfl | rfl<;>decide
theorem sees_op {j k:Nat} {r:List KW} (h:1≤j∧j≤3∧1≤k∧k≤3∧j≠k):seesK (opW j) ((2,opW k)::r)=false:=by
 have h1:j=1∨j=2∨j=3:=by omega
 have h2:k=1∨k=2∨k=3:=by omega
 rcases h1 with rfl | rfl | rfl<;>rcases h2 with rfl | rfl | rfl<;>first | (exfalso;omega) | rfl
theorem opW_br {k:Nat} {r:List KW} (h:1≤k∧k≤3):seesK [91] ((2,opW k)::r)=false:=by
 have h1:k=1∨k=2∨k=3:=by omega
 rcases h1 with rfl | rfl | rfl<;>rfl
theorem stopT_close {m:Nat} (hm:1≤m) (r:List KW):stopT m ((2,[41])::r):=by
 refine ⟨rfl,fun j h1 h2=>?_⟩
 have:j=1∨j=2∨j=3:=by omega
 rcases this with rfl | rfl | rfl<;>rfl
theorem tr_par:∀n:Nat,
 (∀(lvl:Nat) (x:YTr) (ts:List Tk) (rest:List KW),1≤lvl→lvl≤4→x.ok→stp ts=x.tkA lvl++rest→stopT lvl rest→Pc (trT n lvl ts) (Rs YTr.nd YTr.zp x rest)) ∧
 (∀(x:YTr) (ts:List Tk) (rest:List KW),x.ok→stp ts=x.tkA 4++rest→stopT 4 rest→Pc (noT n ts) (Rs YTr.nd YTr.zp x rest)):=by
 intro n
 induction n using Nat.strongRecOn with
 | ind n ih=>
 cases n with
 | zero=>exact ⟨fun _ _ _ _ _ _ _ _ _=>trivial,fun _ _ _ _ _ _=>trivial⟩
 | succ n=>
   obtain ⟨hE,hN⟩:=ih n (by omega)
   refine ⟨fun lvl x ts rest h1 h4 hx hts hst=>?_,fun x ts rest hx hts hst=>?_⟩
   ·rw [trT]
    by_cases hl:lvl=4
    ·subst hl
     exact Pc.pos rfl (hN x ts rest hx hts hst)
    ·refine Pc.neg hl ?_
     have chain:∀(x:YTr) (ts:List Tk) (rest:List KW) (Q:Nd→List Tk→Prop),x.ok→stp ts=x.tkA lvl++rest→stopT (lvl+1) rest →
      (∀(y:YTr) us m,m≤n→y.zp=x.zp→stp us=rest→Pc (tbT m lvl y.nd us) Q)→Pc ((trT n (lvl+1) ts).bind fun a us=>tbT n lvl a us) Q:=by
      intro x
      induction x with
      | op k p a b iha ihb=>
        intro ts rest Q hx hts hst hk
        by_cases ht:k=lvl
        ·subst ht
         rw [Hc (show k≤k from zt k)] at hts
         simp only [YTr.tk] at hts
         refine iha ts ((2,opW k)::(b.tkA (k+1)++rest)) Q hx.2.1 (by rw [hts];simp [YTr.tkA]) ⟨opW_br (by omega),fun j h1 h2=>sees_op (by omega)⟩ ?_
         intro y us m hm hy hus
         cases m with
         | zero=>trivial
         | succ m=>
           rw [tbT,bop_w (by omega)]
           refine Pc.pos (kP hus) ?_
           refine (((ih m (by omega)).1 (k+1) b us.tail rest (by omega) (by omega) hx.2.2 (hd_of hus).2.2 hst)).bind fun b' vs hb=>?_
           obtain ⟨z,rfl,hz,hvs⟩:=hb
           exact hk (.op k (hdT us).2.2 y z) vs m (by omega) (by simp only [YTr.zp,hy,hz]) hvs
        ·have he:(YTr.op k p a b).tkA lvl=(YTr.op k p a b).tkA (lvl+1):=by
          rcases Nat.lt_or_ge k lvl with h | h
          ·rw [trA_par (show (YTr.op k p a b).tight<lvl from h),trA_par (show (YTr.op k p a b).tight<lvl+1 from by show k<_;omega)]
          ·rw [Hc (show lvl≤(YTr.op k p a b).tight from h),Hc (show lvl+1≤(YTr.op k p a b).tight from by show _≤k;omega)]
         rw [he] at hts
         refine (hE (lvl+1) _ ts rest (by omega) (by omega) hx hts hst).bind fun a' us ha=>?_
         obtain ⟨y,rfl,hy,hus⟩:=ha
         exact hk y us n (zt _) hy hus
      | not p a | bit p v | ref r=>
        intro ts rest Q hx hts hst hk
        rw [Hc (by simp only [YTr.tight];omega),←Hc (m:=lvl+1) (by simp only [YTr.tight];omega)] at hts
        refine (hE (lvl+1) _ ts rest (by omega) (by omega) hx hts hst).bind fun a' us ha=>?_
        obtain ⟨y,rfl,hy,hus⟩:=ha
        exact hk y us n (zt _) hy hus
     refine chain x ts rest _ hx hts ⟨hst.1,fun j h1 h2=>hst.2 j (by omega) h2⟩ (fun y us m _ hy hus=>?_)
     cases m with
     | zero=>trivial
     | succ m=>
       rw [tbT,bop_w (by omega)]
       exact Pc.neg (by rw [JD hus,hst.2 lvl (zt _) (by omega)];simp) ⟨y,rfl,hy,hus⟩
   ·rw [noT,bsL.2.2.2.1,bsL.2.2.2.2.1,bsL.2.2.2.2.2.1,bsL.2.2.2.2.2.2.2.2.2.2.2.2.1,bsL.2.2.2.2.2.2.2.2.2.2.2.2.2]
    by_cases ht:x.tight<4
    ·rw [trA_par ht] at hts
     have hts:stp ts=(2,[40])::(x.tk++(2,[41])::rest):=by rw [hts];simp
     refine Pc.neg (by rw [JD hts];exact (fun h=>by cases h)) (Pc.pos (kP hts) ?_)
     refine (hE 1 x ts.tail ((2,[41])::rest) (by omega) (by omega) hx (by rw [(hd_of hts).2.2,Hc (ttight hx).1]) (stopT_close (by omega) _)).bind fun a' us ha=>?_
     obtain ⟨y,rfl,hy,hus⟩:=ha
     exact (ki hus).bind fun _ vs hvs=>⟨y,rfl,hy,hvs⟩
    ·rw [Hc (by omega)] at hts
     cases x with
     | op k p a b=>have:=hx.1;simp only [YTr.tight] at ht;omega
     | not p a=>
       have hts:stp ts=(2,[33])::(a.tkA 4++rest):=hts
       refine Pc.pos (kP hts) ((hN a ts.tail rest hx (hd_of hts).2.2 hst).bind fun a' us ha=>?_)
       obtain ⟨y,rfl,hy,hus⟩:=ha
       exact ⟨.not (hdT ts).2.2 y,rfl,by simp only [YTr.zp,hy],hus⟩
     | bit p v=>
       have hts:stp ts=(3,Go.Lib.itoa v)::rest:=hts
       obtain ⟨u1,u2,u3⟩:=hd_of hts
       have hv:v=0∨v=1:=hx
       have nos:∀w,seesT w ts=false:=fun w=>by unfold seesT;rw [u1];simp
       have e0:Go.Lib.itoa 0=[48]:=by decide +kernel
       have e1:Go.Lib.itoa 1=[49]:=by decide +kernel
       refine Pc.neg (by rw [nos];simp) (Pc.neg (by rw [nos];simp) (Pc.pos ⟨u1,?_⟩ ⟨.bit (hdT ts).2.2 v,?_,rfl,u3⟩))
       ·rcases hv with rfl | rfl
        ·rw [u2,e0];exact .inl rfl
        ·rw [u2,e1];exact .inr rfl
       ·rcases hv with rfl | rfl
        ·rw [u2,e0];rfl
        ·rw [u2,e1];rfl
     | ref r=>
       have hts:stp ts=r.tk++rest:=hts
       obtain ⟨u1,u2,u3⟩:=hd_of (show stp ts=(1,r.nm)::(r.tl++rest) from hts)
       have nos:∀w,seesT w ts=false:=fun w=>by unfold seesT;rw [u1];simp
       refine Pc.neg (by rw [nos];simp) (Pc.neg (by rw [nos];simp) (Pc.neg (by rw [u1];simp) ?_))
       have:=Hu (n:=n) (x:=r) hx hts hst.1
       revert this
       cases reT n ts with
       | ok a us=>rintro ⟨y,h1,h2,h3⟩;exact ⟨.ref y,h1,by simp only [YTr.zp,h2],h3⟩
       | err e=>exact id
       | out=>exact id
theorem tr1 {n:Nat} {x:YTr} {ts:List Tk} {rest:List KW} (hx:x.ok) (h:stp ts=x.tk++rest) (hs:stopT 1 rest):Pc (trT n 1 ts) (Rs YTr.nd YTr.zp x rest):=
 (tr_par n).1 1 x ts rest (by omega) (by omega) hx (by rw [Hc (ttight hx).1];exact h) hs
def tlK {β:Type} (t:β→List KW) (l:List β):List KW:=(l.map fun x=>(2,[44])::t x).flatten
theorem li_par {β:Type} {f:β→Nd} {z:β→β} {t:β→List KW} {rest:List KW} {one:List Tk→Rd Nd} (hr:seesK [44] rest=false) :
 ∀(n:Nat) (R acc done:List β) (ts:List Tk),(∀x∈R,∀ts r,(r=rest ∨ ∃r',r=(2,[44])::r')→stp ts=t x++r→Pc (one ts) (Rs f z x r))→acc.map z=done.map z→stp ts=tlK t R++rest →
 Pc (liT one n (acc.map f) ts) (fun l us=>∃L':List β,l=L'.map f∧L'.map z=(done++R).map z∧stp us=rest)
 | 0,_,_,_,_,_,_,_=>trivial
 | n+1,[],acc,done,ts,_,he,h=>by
   rw [liT,bsL.2.2.2.2.2.2.1]
   have h:stp ts=rest:=h
   exact Pc.neg (by rw [JD h,hr];simp) ⟨acc,rfl,by simpa using he,h⟩
 | n+1,x::R,acc,done,ts,h1,he,h=>by
   rw [liT,bsL.2.2.2.2.2.2.1]
   have h:stp ts=(2,[44])::(t x++(tlK t R++rest)):=by rw [h];simp [tlK]
   refine Pc.pos (kP h) ((h1 x (by simp) ts.tail (tlK t R++rest) ?_ (hd_of h).2.2).bind fun a us ha=>?_)
   ·cases R with
    | nil=>exact .inl rfl
    | cons y R=>exact .inr ⟨_,rfl⟩
   ·obtain ⟨y,rfl,hy,hus⟩:=ha
    have:=li_par (f:=f) (z:=z) (t:=t) (one:=one) hr n R (acc++[y]) (done++[x]) us (fun x' hx'=>h1 x' (by simp [hx'])) (by simp [he,hy]) hus
    rw [List.map_append,zl] at this
    exact this
theorem ls_par {β:Type} {f:β→Nd} {z:β→β} {t:β→List KW} {rest:List KW} {one:List Tk→Rd Nd} {n:Nat} {x:β} {R:List β} {ts:List Tk} (hr:seesK [44] rest=false)
 (h1:∀y∈x::R,∀ts r,(r=rest ∨ ∃r',r=(2,[44])::r')→stp ts=t y++r→Pc (one ts) (Rs f z y r)) (h:stp ts=t x++(tlK t R++rest)) :
 Pc (lsT one n ts) (fun l us=>∃L':List β,l=L'.map f∧L'.map z=(x::R).map z∧stp us=rest):=by
 unfold lsT
 refine (h1 x (by simp) ts (tlK t R++rest) ?_ h).bind fun a us ha=>?_
 ·cases R with
  | nil=>exact .inl rfl
  | cons y R=>exact .inr ⟨_,rfl⟩
 ·obtain ⟨y,rfl,hy,hus⟩:=ha
  exact li_par (f:=f) (z:=z) (t:=t) (one:=one) hr n R [y] [x] us (fun x' hx'=>h1 x' (by simp [hx'])) (by simp [hy]) hus
def YMd.zp:YMd→YMd
 | .inv _=>.inv 0
 | .ctrl _=>.ctrl 0
 | .pow _ e=>.pow 0 e.zp
def YMd.tk:YMd→List KW
 | .inv _=>[(2,[105,110,118]),(2,[64])]
 | .ctrl _=>[(2,[99,116,114,108]),(2,[64])]
 | .pow _ e=>(2,[112,111,119])::(2,[40])::(e.tk++[(2,[41]),(2,[64])])
def mdK (l:List YMd):List KW:=(l.map YMd.tk).flatten
theorem mo_par {rest:List KW} (hr:(hk rest).1≠2):∀(n:Nat) (R acc done:List YMd) (ts:List Tk),(∀x∈R,x.ok)→acc.map YMd.zp=done.map YMd.zp→stp ts=mdK R++rest →
 Pc (moT n (acc.map YMd.nd) ts) (fun l us=>∃L':List YMd,l=L'.map YMd.nd∧L'.map YMd.zp=(done++R).map YMd.zp∧stp us=rest)
 | 0,_,_,_,_,_,_,_=>trivial
 | n+1,[],acc,done,ts,_,he,h=>by
   have h:stp ts=rest:=h
   have nos:∀w,seesT w ts=false:=fun w=>by rw [JD h];unfold seesK;rw [zk hr];rfl
   rw [moT]
   exact Pc.neg (by rw [nos];simp) (Pc.neg (by rw [nos];simp) (Pc.neg (by rw [nos];simp) ⟨acc,rfl,by simpa using he,h⟩))
 | n+1,x::R,acc,done,ts,hx,he,h=>by
   have step:∀(y:YMd) us,y.zp=x.zp→stp us=mdK R++rest→Pc (moT n (acc.map YMd.nd++[y.nd]) us) (fun l us=>∃L':List YMd,l=L'.map YMd.nd∧L'.map YMd.zp=(done++x::R).map YMd.zp∧stp us=rest):=by
    intro y us hy hus
    have:=mo_par hr n R (acc++[y]) (done++[x]) us (fun x' hx'=>hx x' (by simp [hx'])) (by simp [he,hy]) hus
    rw [List.map_append,zl] at this
    exact this
   rw [moT,bsL.2.2.2.2.2.2.2.2.1,bsL.2.2.2.2.2.2.2.2.2.1,bsL.2.2.2.2.2.2.2.2.2.2.1,bsL.2.2.2.2.2.2.2.2.2.2.2.1,bsL.2.2.2.2.1,bsL.2.2.2.2.2.1]
   cases x with
   | inv p=>
     have h:stp ts=(2,[105,110,118])::(2,[64])::(mdK R++rest):=by rw [h];simp [mdK,YMd.tk]
     exact Pc.pos (kP h) ((ki (hd_of h).2.2).bind fun _ us hus=>step (.inv (hdT ts).2.2) us rfl hus)
   | ctrl p=>
     have h:stp ts=(2,[99,116,114,108])::(2,[64])::(mdK R++rest):=by rw [h];simp [mdK,YMd.tk]
     exact Pc.neg (by rw [JD h];exact (fun h=>by cases h)) (Pc.pos (kP h) ((ki (hd_of h).2.2).bind fun _ us hus=>step (.ctrl (hdT ts).2.2) us rfl hus))
   | pow p e=>
     have he':e.ok:=hx (.pow p e) (by simp)
     have h:stp ts=(2,[112,111,119])::(2,[40])::(e.tk++(2,[41])::(2,[64])::(mdK R++rest)):=by rw [h];simp [mdK,YMd.tk]
     refine Pc.neg (by rw [JD h];exact (fun h=>by cases h)) (Pc.neg (by rw [JD h];exact (fun h=>by cases h)) (Pc.pos (kP h) ((ki (hd_of h).2.2).bind fun _ us hus=>?_)))
     refine (ex1 he' hus (VN (by decide))).bind fun e1 vs hv=>?_
     obtain ⟨y,rfl,hy,hvs⟩:=hv
     exact (ki hvs).bind fun _ xs hxs=>(ki hxs).bind fun _ ys hys=>step (.pow (hdT ts).2.2 y) ys (by simp only [YMd.zp,hy]) hys
end Go.Ql
end

section
namespace Go.Ql
theorem bsM : bs "for" = [102, 111, 114] ∧ bs "in" = [105, 110] ∧ bs "when" = [119, 104, 101, 110] ∧ bs "if" = [105, 102] ∧ bs "else" = [101, 108, 115, 101] ∧ bs "measure" = [109, 101, 97, 115, 117, 114, 101] ∧ bs "->" = [45, 62] ∧ bs "reset" = [114, 101, 115, 101, 116] ∧ bs "within" = [119, 105, 116, 104, 105, 110] ∧ bs "apply" = [97, 112, 112, 108, 121] ∧ bs "^=" = [94, 61] ∧ bs "qubit" = [113, 117, 98, 105, 116] ∧ bs "bit" = [98, 105, 116] ∧ bs "const" = [99, 111, 110, 115, 116] ∧ bs "=" = [61] ∧ bs "gate" = [103, 97, 116, 101] := by decide
theorem Pc.mono {α:Type} {r:Rd α} {Q Q':α→List Tk→Prop} (h:Pc r Q) (hq:∀a us,Q a us→Q' a us):Pc r Q':=by
 cases r with
 | ok a us=>exact hq a us h
 | err e=>exact h
 | out=>trivial
def argsK:List YEx→List KW
 | []=>[]
 | x::R=>(2,[40])::(x.tk++(tlK YEx.tk R++[(2,[41])]))
def refsK:List YRf→List KW
 | []=>[]
 | x::R=>x.tk++tlK YRf.tk R
theorem nos_of {ts:List Tk} {l:List KW} (h:stp ts=l) (h2:(hk l).1≠2) (w:Z6):seesT w ts=false:=by
 rw [JD h];unfold seesK;rw [zk h2];rfl
theorem ap_par {n:Nat} {at_:Int} {mods mods0:List YMd} {t:Tk} {w:Z6} {args:List YEx} {refs:List YRf} {ts:List Tk} {rest:List KW} (ha:∀x∈args,x.ok) (hr:∀x∈refs,x.ok) (ht:t.2.1=w) (hm:mods.map YMd.zp=mods0.map YMd.zp)
 (h:stp ts=argsK args++(refsK refs++(2,[59])::rest)):Pc (apT n at_ (mods.map YMd.nd) t ts) (fun a us=>∃args' refs',a=(YSt.app at_ w mods args' refs').nd∧args'.map YEx.zp=args.map YEx.zp∧refs'.map YRf.zp=refs.map YRf.zp∧stp us=rest):=by
 unfold apT
 simp only [bsL]
 have h1:Pc ((if seesT [40] ts=true then (lsT (xpT n 1) n ts.tail).bind fun l us=>(wantT [41] us).bind fun _ us=>.ok l us else .ok [] ts):Rd (List Nd)) (fun l us=>∃L':List YEx,l=L'.map YEx.nd∧L'.map YEx.zp=args.map YEx.zp∧stp us=refsK refs++(2,[59])::rest):=by
  cases args with
  | nil=>
    have h:stp ts=refsK refs++(2,[59])::rest:=h
    refine Pc.neg ?_ ⟨[],rfl,rfl,h⟩
    rw [JD h]
    cases refs with
    | nil=>exact (fun h=>by cases h)
    | cons x R=>exact (fun h=>by cases h)
  | cons x R=>
    have h:stp ts=(2,[40])::(x.tk++(tlK YEx.tk R++(2,[41])::(refsK refs++(2,[59])::rest))):=by rw [h];simp [argsK]
    refine Pc.pos (kP h) ?_
    have:=ls_par (f:=YEx.nd) (z:=YEx.zp) (t:=YEx.tk) (one:=xpT n 1) (n:=n) (x:=x) (R:=R) (rest:=(2,[41])::(refsK refs++(2,[59])::rest)) rfl (fun y hy us r hr' hus=>by
     refine ex1 (ha y hy) hus ?_
     rcases hr' with rfl | ⟨r',rfl⟩
     ·exact VN (by decide)
     ·exact VN (by decide)) (hd_of h).2.2
    refine this.bind fun l us hl=>?_
    obtain ⟨L',rfl,hz,hus⟩:=hl
    exact (ki hus).bind fun _ vs hvs=>⟨L',rfl,hz,hvs⟩
 refine h1.bind fun l us hl=>?_
 obtain ⟨L1,rfl,hz1,hus⟩:=hl
 have h2:Pc ((if (hdT us).1=1 then lsT (reT n) n us else .ok [] us):Rd (List Nd)) (fun l us=>∃L':List YRf,l=L'.map YRf.nd∧L'.map YRf.zp=refs.map YRf.zp∧stp us=(2,[59])::rest):=by
  cases refs with
  | nil=>
    have hus:stp us=(2,[59])::rest:=hus
    exact Pc.neg (by rw [(hd_of hus).1];decide) ⟨[],rfl,rfl,hus⟩
  | cons x R=>
    have hus:stp us=x.tk++(tlK YRf.tk R++(2,[59])::rest):=by rw [hus];simp [refsK]
    refine Pc.pos (hd_of (show stp us=(1,x.nm)::(x.tl++(tlK YRf.tk R++(2,[59])::rest)) from hus)).1 ?_
    exact ls_par (f:=YRf.nd) (z:=YRf.zp) (t:=YRf.tk) (one:=reT n) (n:=n) (x:=x) (R:=R) (rest:=(2,[59])::rest) rfl (fun y hy us r hr' hus=>by
     refine Hu (hr y hy) hus ?_
     rcases hr' with rfl | ⟨r',rfl⟩<;>rfl) hus
 refine h2.bind fun l vs hl=>?_
 obtain ⟨L2,rfl,hz2,hvs⟩:=hl
 exact (ki hvs).bind fun _ xs hxs=>⟨L1,L2,by rw [ht];rfl,hz1,hz2,hxs⟩
def bK (l:List KW):List KW:=(2,[123])::(l++[(2,[125])])
mutual
def YSt.zp:YSt→YSt
 | .forS _ w lo hi _ b=>.forS 0 w lo.zp hi.zp 0 b.zp
 | .whenS _ e _ b=>.whenS 0 e.zp 0 b.zp
 | .ifS _ no r _ b=>.ifS 0 no r.zp 0 b.zp
 | .ifE _ no r _ b _ c=>.ifE 0 no r.zp 0 b.zp 0 c.zp
 | .meas _ a b=>.meas 0 a.zp b.zp
 | .reset _ a=>.reset 0 a.zp
 | .within _ _ a _ b=>.within 0 0 a.zp 0 b.zp
 | .flip _ r e=>.flip 0 r.zp e.zp
 | .app _ w mods args refs=>.app 0 w (mods.map YMd.zp) (args.map YEx.zp) (refs.map YRf.zp)
def YSts.zp:YSts→YSts
 | .nil=>.nil
 | .cons s l=>.cons s.zp l.zp
end
mutual
def YSt.tk:YSt→List KW
 | .forS _ w lo hi _ b=>(2,[102,111,114])::(1,w)::(2,[105,110])::(lo.tk++(2,[46,46])::(hi.tk++bK b.tks))
 | .whenS _ e _ b=>(2,[119,104,101,110])::(e.tk++bK b.tks)
 | .ifS _ no r _ b=>(2,[105,102])::((if no then [(2,[33])] else [])++(r.tk++bK b.tks))
 | .ifE _ no r _ b _ c=>(2,[105,102])::((if no then [(2,[33])] else [])++(r.tk++(bK b.tks++(2,[101,108,115,101])::bK c.tks)))
 | .meas _ a b=>(2,[109,101,97,115,117,114,101])::(a.tk++(2,[45,62])::(b.tk++[(2,[59])]))
 | .reset _ a=>(2,[114,101,115,101,116])::(a.tk++[(2,[59])])
 | .within _ _ a _ b=>(2,[119,105,116,104,105,110])::(bK a.tks++(2,[97,112,112,108,121])::bK b.tks)
 | .flip _ r e=>r.tk++(2,[94,61])::(e.tk++[(2,[59])])
 | .app _ w mods args refs=>mdK mods++(1,w)::(argsK args++(refsK refs++[(2,[59])]))
def YSts.tks:YSts→List KW
 | .nil=>[]
 | .cons s l=>s.tk++l.tks
end
theorem st_no (x:YSt) (r:List KW):seesK [101,108,115,101] (x.tk++r)=false∧seesK [125] (x.tk++r)=false∧seesK [113,117,98,105,116] (x.tk++r)=false∧seesK [98,105,116] (x.tk++r)=false∧seesK [99,111,110,115,116] (x.tk++r)=false∧seesK [103,97,116,101] (x.tk++r)=false∧(hk (x.tk++r)).1≠0:=by
 cases x with
 | app p w mods args refs=>
   cases mods with
   | nil=>exact ⟨rfl,rfl,rfl,rfl,rfl,rfl,by show (1:Int)≠0;decide⟩
   | cons m l=>cases m<;>exact ⟨rfl,rfl,rfl,rfl,rfl,rfl,by show (2:Int)≠0;decide⟩
 | flip p a e=>exact ⟨rfl,rfl,rfl,rfl,rfl,rfl,by show (1:Int)≠0;decide⟩
 | _=>exact ⟨rfl,rfl,rfl,rfl,rfl,rfl,by show (2:Int)≠0;decide⟩
theorem sts_no (b:YSts) (r:List KW):seesK [101,108,115,101] (b.tks++(2,[125])::r)=false:=by
 cases b with
 | nil=>rfl
 | cons s l=>
   rw [show (YSts.cons s l).tks++(2,[125])::r=s.tk++(l.tks++(2,[125])::r) from by simp [YSts.tks]]
   exact (st_no s _).1
theorem YSts.app_zp:∀l m:YSts,(l.app m).zp=l.zp.app m.zp
 | .nil,m=>rfl
 | .cons s l,m=>by simp only [YSts.app,YSts.zp,YSts.app_zp l m]
theorem YSts.app_nil:∀l:YSts,l.app .nil=l
 | .nil=>rfl
 | .cons s l=>by simp only [YSts.app,YSts.app_nil l]
theorem YSts.app_app:∀l m k:YSts,(l.app m).app k=l.app (m.app k)
 | .nil,m,k=>rfl
 | .cons s l,m,k=>by simp only [YSts.app,YSts.app_app l m k]
def BkR (b:YSts) (rest:List KW) (a:Nd) (us:List Tk):Prop:=∃q b',a=ndK 7 q (YSts.nds b')∧b'.zp=b.zp∧stp us=rest
theorem stm_par:∀n:Nat,
 (∀(b:YSts) (ts:List Tk) (rest:List KW),b.ok→stp ts=bK b.tks++rest→Pc (blT n ts) (BkR b rest)) ∧
 (∀(acc done b:YSts) (ts:List Tk) (rest:List KW),acc.zp=done.zp→b.ok→stp ts=b.tks++(2,[125])::rest→Pc (sqT n acc.nds ts) (fun l us=>∃b',l=YSts.nds b'∧b'.zp=(done.app b).zp∧stp us=rest)) ∧
 (∀(x:YSt) (ts:List Tk) (rest:List KW),x.ok→stp ts=x.tk++rest→seesK [101,108,115,101] rest=false→Pc (stT n ts) (Rs YSt.nd YSt.zp x rest)):=by
 intro n
 induction n with
 | zero=>exact ⟨fun _ _ _ _ _=>trivial,fun _ _ _ _ _ _ _ _=>trivial,fun _ _ _ _ _ _=>trivial⟩
 | succ n ih=>
   obtain ⟨hB,hQ,hS⟩:=ih
   refine ⟨fun b ts rest hb h=>?_,fun acc done b ts rest he hb h=>?_,fun x ts rest hx h hel=>?_⟩
   ·rw [blT]
    have h:stp ts=(2,[123])::(b.tks++(2,[125])::rest):=by rw [h];simp [bK]
    refine (ki h).bind fun t us hus=>(hQ .nil .nil b us rest rfl hb hus).bind fun l vs hl=>?_
    obtain ⟨b',rfl,hz,hvs⟩:=hl
    exact ⟨t.2.2,b',rfl,hz,hvs⟩
   ·rw [sqT]
    cases b with
    | nil=>
      have h:stp ts=(2,[125])::rest:=h
      exact Pc.pos (kP h) ⟨acc,rfl,by rw [YSts.app_nil];exact he,(hd_of h).2.2⟩
    | cons s l=>
      have h:stp ts=s.tk++(l.tks++(2,[125])::rest):=by rw [h];simp [YSts.tks]
      refine Pc.neg (by rw [JD h,(st_no s _).2.1];simp) ((hS s ts _ hb.1 h (sts_no l rest)).bind fun a us ha=>?_)
      obtain ⟨y,rfl,hy,hus⟩:=ha
      have:=hQ (acc.app (.cons y .nil)) (done.app (.cons s .nil)) l us rest (by rw [YSts.app_zp,YSts.app_zp,he];simp only [YSts.zp,hy]) hb.2 hus
      rw [YSts.app_nds,YSts.app_app] at this
      exact this
   ·rw [stT]
    simp only [bsL,bsM]
    cases x with
    | forS p w lo hi q b=>
      have h:stp ts=(2,[102,111,114])::(1,w)::(2,[105,110])::(lo.tk++(2,[46,46])::(hi.tk++(bK b.tks++rest))):=by rw [h];simp [YSt.tk]
      refine Pc.pos (kP h) ((Vf (hd_of h).2.2).bind fun t us hus=>(ki hus.2).bind fun _ vs hvs=>(ex1 hx.2.1 hvs (VN (by decide))).bind fun a xs ha=>?_)
      obtain ⟨y,rfl,hy,hxs⟩:=ha
      refine (ki hxs).bind fun _ ys hys=>(ex1 hx.2.2.1 hys (VN (by decide))).bind fun a zs ha=>?_
      obtain ⟨z,rfl,hz,hzs⟩:=ha
      refine (hB b zs rest hx.2.2.2 hzs).bind fun a rs ha=>?_
      obtain ⟨q',b',rfl,hb,hrs⟩:=ha
      exact ⟨.forS (hdT ts).2.2 w y z q' b',by rw [hus.1];rfl,by simp only [YSt.zp,hy,hz,hb],hrs⟩
    | whenS p e q b=>
      have h:stp ts=(2,[119,104,101,110])::(e.tk++(bK b.tks++rest)):=by rw [h];simp [YSt.tk]
      refine Pc.neg (by rw [JD h];exact (fun h=>by cases h)) (Pc.pos (kP h) ((ex1 hx.1 (hd_of h).2.2 (VN (by decide))).bind fun a xs ha=>?_))
      obtain ⟨y,rfl,hy,hxs⟩:=ha
      refine (hB b xs rest hx.2 hxs).bind fun a rs ha=>?_
      obtain ⟨q',b',rfl,hb,hrs⟩:=ha
      exact ⟨.whenS (hdT ts).2.2 y q' b',rfl,by simp only [YSt.zp,hy,hb],hrs⟩
    | ifS p no r q b=>
      have h0:stp ts=(2,[105,102])::((if no then [(2,[33])] else [])++(r.tk++(bK b.tks++rest))):=by rw [h];simp [YSt.tk]
      refine Pc.neg (by rw [JD h0];exact (fun h=>by cases h)) (Pc.neg (by rw [JD h0];exact (fun h=>by cases h)) (Pc.pos (kP h0) ?_))
      have h1:=(hd_of h0).2.2
      have hn:seesT [33] ts.tail=no:=by
       rw [JD h1];cases no<;>rfl
      have h2:stp (if seesT [33] ts.tail=true then ts.tail.tail else ts.tail)=r.tk++(bK b.tks++rest):=by
       rw [hn]
       cases no with
       | true=>exact (hd_of (show stp ts.tail=(2,[33])::_ from h1)).2.2
       | false=>exact h1
      refine (Hu hx.1 h2 rfl).bind fun a us ha=>?_
      obtain ⟨y,rfl,hy,hus⟩:=ha
      refine (hB b us rest hx.2 hus).bind fun a rs ha=>?_
      obtain ⟨q',b',rfl,hb,hrs⟩:=ha
      refine Pc.neg (by rw [JD hrs,hel];simp) ?_
      exact ⟨.ifS (hdT ts).2.2 no y q' b',by rw [hn];rfl,by simp only [YSt.zp,hy,hb],hrs⟩
    | ifE p no r q b q2 c=>
      have h0:stp ts=(2,[105,102])::((if no then [(2,[33])] else [])++(r.tk++(bK b.tks++(2,[101,108,115,101])::(bK c.tks++rest)))):=by rw [h];simp [YSt.tk]
      refine Pc.neg (by rw [JD h0];exact (fun h=>by cases h)) (Pc.neg (by rw [JD h0];exact (fun h=>by cases h)) (Pc.pos (kP h0) ?_))
      have h1:=(hd_of h0).2.2
      have hn:seesT [33] ts.tail=no:=by
       rw [JD h1];cases no<;>rfl
      have h2:stp (if seesT [33] ts.tail=true then ts.tail.tail else ts.tail)=r.tk++(bK b.tks++(2,[101,108,115,101])::(bK c.tks++rest)):=by
       rw [hn]
       cases no with
       | true=>exact (hd_of (show stp ts.tail=(2,[33])::_ from h1)).2.2
       | false=>exact h1
      refine (Hu hx.1 h2 rfl).bind fun a us ha=>?_
      obtain ⟨y,rfl,hy,hus⟩:=ha
      refine (hB b us _ hx.2.1 hus).bind fun a rs ha=>?_
      obtain ⟨q',b',rfl,hb,hrs⟩:=ha
      refine Pc.pos (kP hrs) ((hB c rs.tail rest hx.2.2 (hd_of hrs).2.2).bind fun a xs ha=>?_)
      obtain ⟨q2',c',rfl,hc,hxs⟩:=ha
      exact ⟨.ifE (hdT ts).2.2 no y q' b' q2' c',by rw [hn];rfl,by simp only [YSt.zp,hy,hb,hc],hxs⟩
    | meas p a b=>
      have h:stp ts=(2,[109,101,97,115,117,114,101])::(a.tk++(2,[45,62])::(b.tk++(2,[59])::rest)):=by rw [h];simp [YSt.tk]
      refine Pc.neg (by rw [JD h];exact (fun h=>by cases h)) (Pc.neg (by rw [JD h];exact (fun h=>by cases h)) (Pc.neg (by rw [JD h];exact (fun h=>by cases h)) (Pc.pos (kP h) ((Hu hx.1 (hd_of h).2.2 rfl).bind fun a us ha=>?_))))
      obtain ⟨y,rfl,hy,hus⟩:=ha
      refine (ki hus).bind fun _ vs hvs=>(Hu hx.2 hvs rfl).bind fun a xs ha=>?_
      obtain ⟨z,rfl,hz,hxs⟩:=ha
      exact (ki hxs).bind fun _ ys hys=>⟨.meas (hdT ts).2.2 y z,rfl,by simp only [YSt.zp,hy,hz],hys⟩
    | reset p a=>
      have h:stp ts=(2,[114,101,115,101,116])::(a.tk++(2,[59])::rest):=by rw [h];simp [YSt.tk]
      refine Pc.neg (by rw [JD h];exact (fun h=>by cases h)) (Pc.neg (by rw [JD h];exact (fun h=>by cases h)) (Pc.neg (by rw [JD h];exact (fun h=>by cases h)) (Pc.neg (by rw [JD h];exact (fun h=>by cases h)) (Pc.pos (kP h) ((Hu hx (hd_of h).2.2 rfl).bind fun a us ha=>?_)))))
      obtain ⟨y,rfl,hy,hus⟩:=ha
      exact (ki hus).bind fun _ ys hys=>⟨.reset (hdT ts).2.2 y,rfl,by simp only [YSt.zp,hy],hys⟩
    | within p q a q2 b=>
      have h:stp ts=(2,[119,105,116,104,105,110])::(bK a.tks++(2,[97,112,112,108,121])::(bK b.tks++rest)):=by rw [h];simp [YSt.tk]
      refine Pc.neg (by rw [JD h];exact (fun h=>by cases h)) (Pc.neg (by rw [JD h];exact (fun h=>by cases h)) (Pc.neg (by rw [JD h];exact (fun h=>by cases h)) (Pc.neg (by rw [JD h];exact (fun h=>by cases h)) (Pc.neg (by rw [JD h];exact (fun h=>by cases h)) (Pc.pos (kP h) ((hB a ts.tail _ hx.1 (hd_of h).2.2).bind fun c us hc=>?_))))))
      obtain ⟨q',a',rfl,ha,hus⟩:=hc
      refine (ki hus).bind fun _ vs hvs=>(hB b vs rest hx.2 hvs).bind fun c xs hc=>?_
      obtain ⟨q2',b',rfl,hb,hxs⟩:=hc
      exact ⟨.within (hdT ts).2.2 q' a' q2' b',rfl,by simp only [YSt.zp,ha,hb],hxs⟩
    | flip p r e=>
      have h:stp ts=(1,r.nm)::(r.tl++(2,[94,61])::(e.tk++(2,[59])::rest)):=by rw [h];simp [YSt.tk,YRf.tk]
      have nos:=nos_of h (by show (1:Int)≠2;decide)
      refine Pc.neg (by rw [nos];simp) (Pc.neg (by rw [nos];simp) (Pc.neg (by rw [nos];simp) (Pc.neg (by rw [nos];simp) (Pc.neg (by rw [nos];simp) (Pc.neg (by rw [nos];simp) (Pc.neg (by simp only [nos];simp) ((Vf h).bind fun t us hus=>?_)))))))
      refine Pc.pos ?_ ((rf_par hx.1 hus.1 hus.2 rfl).bind fun a vs ha=>?_)
      ·rw [JD hus.2,JD hus.2]
       cases r<;>rfl
      ·obtain ⟨y,rfl,hy,hvs⟩:=ha
       refine (ki hvs).bind fun _ xs hxs=>(tr1 hx.2 hxs ⟨rfl,fun j h1 h2=>?_⟩).bind fun a ys ha=>?_
       ·have:j=1∨j=2∨j=3:=by omega
        rcases this with rfl | rfl | rfl<;>rfl
       ·obtain ⟨z,rfl,hz,hys⟩:=ha
        exact (ki hys).bind fun _ zs hzs=>⟨.flip (hdT ts).2.2 y z,rfl,by simp only [YSt.zp,hy,hz],hzs⟩
    | app p w mods args refs=>
      have h:stp ts=mdK mods++(1,w)::(argsK args++(refsK refs++(2,[59])::rest)):=by rw [h];simp [YSt.tk]
      cases mods with
      | nil=>
        have h:stp ts=(1,w)::(argsK args++(refsK refs++(2,[59])::rest)):=h
        have nos:=nos_of h (by show (1:Int)≠2;decide)
        refine Pc.neg (by rw [nos];simp) (Pc.neg (by rw [nos];simp) (Pc.neg (by rw [nos];simp) (Pc.neg (by rw [nos];simp) (Pc.neg (by rw [nos];simp) (Pc.neg (by rw [nos];simp) (Pc.neg (by simp only [nos];simp) ((Vf h).bind fun t us hus=>?_)))))))
        refine Pc.neg ?_ ((ap_par (mods:=[]) (mods0:=[]) hx.2.2.1 hx.2.2.2 hus.1 rfl hus.2).mono fun a vs ha=>?_)
        ·rw [JD hus.2,JD hus.2]
         cases args with
         | nil=>cases refs<;>exact (fun h=>by cases h)
         | cons a l=>exact (fun h=>by cases h)
        ·obtain ⟨a1,r1,rfl,h1,h2,hvs⟩:=ha
         exact ⟨.app (hdT ts).2.2 w [] a1 r1,rfl,by simp only [YSt.zp,h1,h2],hvs⟩
      | cons m l=>
        have kw:(seesT [105,110,118] ts||seesT [99,116,114,108] ts||seesT [112,111,119] ts)=true:=by
         rw [JD h,JD h,JD h];cases m<;>rfl
        have k1:∀v,v=[102,111,114]∨v=[119,104,101,110]∨v=[105,102]∨v=[109,101,97,115,117,114,101]∨v=[114,101,115,101,116]∨v=[119,105,116,104,105,110] → ¬seesT v ts=true:=by
         intro v hv
         rw [JD h]
         cases m<;>rcases hv with rfl | rfl | rfl | rfl | rfl | rfl<;>exact (fun h=>by cases h)
        refine Pc.neg (k1 _ (by simp)) (Pc.neg (k1 _ (by simp)) (Pc.neg (k1 _ (by simp)) (Pc.neg (k1 _ (by simp)) (Pc.neg (k1 _ (by simp)) (Pc.neg (k1 _ (by simp)) (Pc.pos kw ?_))))))
        refine (mo_par (by show (1:Int)≠2;decide) n (m::l) [] [] ts hx.2.1 rfl h).bind fun a us ha=>?_
        obtain ⟨M,rfl,hM,hus⟩:=ha
        refine (Vf hus).bind fun t vs hvs=>(ap_par (mods:=M) (mods0:=m::l) hx.2.2.1 hx.2.2.2 hvs.1 hM hvs.2).mono fun a xs ha=>?_
        obtain ⟨a1,r1,rfl,h1,h2,hxs⟩:=ha
        refine ⟨.app (hdT ts).2.2 w M a1 r1,rfl,?_,hxs⟩
        have hM:M.map YMd.zp=(m::l).map YMd.zp:=hM
        simp only [YSt.zp,h1,h2,hM]
end Go.Ql
end

section
namespace Go.Ql
def p1k (x:Int×Z6):List KW:=[(1,x.2)]
def p2k (x:Int×Z6×Bool):List KW:=(1,x.2.1)::if x.2.2 then [(2,[91]),(2,[93])] else []
def p1z (x:Int×Z6):Int×Z6:=(0,x.2)
def p2z (x:Int×Z6×Bool):Int×Z6×Bool:=(0,x.2)
def intsK:List (Int×Z6)→List KW
 | []=>[]
 | x::R=>(2,[40])::(p1k x++(tlK p1k R++[(2,[41])]))
def wireK:List (Int×Z6×Bool)→List KW
 | []=>[]
 | x::R=>p2k x++tlK p2k R
def YIt.zp:YIt→YIt
 | .decl bit _ w e=>.decl bit 0 w e.zp
 | .const _ w e=>.const 0 w e.zp
 | .gate _ w ints wires _ b=>.gate 0 w (ints.map p1z) (wires.map p2z) 0 b.zp
 | .st s=>.st s.zp
def YIt.tk:YIt→List KW
 | .decl bit _ w e=>(2,if bit then [98,105,116] else [113,117,98,105,116])::(1,w)::(2,[91])::(e.tk++[(2,[93]),(2,[59])])
 | .const _ w e=>(2,[99,111,110,115,116])::(1,w)::(2,[61])::(e.tk++[(2,[59])])
 | .gate _ w ints wires _ b=>(2,[103,97,116,101])::(1,w)::(intsK ints++(wireK wires++bK b.tks))
 | .st s=>s.tk
theorem p1_par {x:Int×Z6} {ts:List Tk} {rest:List KW} (h:stp ts=p1k x++rest):Pc (p1T ts) (Rs p1nd p1z x rest):=by
 unfold p1T
 exact (Vf h).bind fun t us hus=>⟨(t.2.2,x.2),by rw [hus.1];rfl,rfl,hus.2⟩
theorem p2_par {x:Int×Z6×Bool} {ts:List Tk} {rest:List KW} (h:stp ts=p2k x++rest) (hs:seesK [91] rest=false):Pc (p2T ts) (Rs p2nd p2z x rest):=by
 obtain ⟨p,w,b⟩:=x
 unfold p2T
 simp only [bsL]
 cases b with
 | true=>
   have h:stp ts=(1,w)::(2,[91])::(2,[93])::rest:=h
   exact (Vf h).bind fun t us hus=>Pc.pos (kP hus.2) ((ki (hd_of hus.2).2.2).bind fun _ vs hvs=>⟨(t.2.2,w,true),by rw [hus.1];rfl,rfl,hvs⟩)
 | false=>
   have h:stp ts=(1,w)::rest:=h
   exact (Vf h).bind fun t us hus=>Pc.neg (by rw [JD hus.2,hs];simp) ⟨(t.2.2,w,false),by rw [hus.1];rfl,rfl,hus.2⟩
theorem st_par {n:Nat} {x:YSt} {ts:List Tk} {rest:List KW} (hx:x.ok) (h:stp ts=x.tk++rest) (hs:seesK [101,108,115,101] rest=false):Pc (stT n ts) (Rs YSt.nd YSt.zp x rest):=(stm_par n).2.2 x ts rest hx h hs
theorem it_par {n:Nat} {x:YIt} {ts:List Tk} {rest:List KW} (hx:x.ok) (h:stp ts=x.tk++rest) (hs:seesK [101,108,115,101] rest=false):Pc (itT n ts) (Rs YIt.nd YIt.zp x rest):=by
 unfold itT
 simp only [bsL,bsM]
 cases x with
 | decl bit p w e=>
   have h:stp ts=(2,if bit then [98,105,116] else [113,117,98,105,116])::(1,w)::(2,[91])::(e.tk++(2,[93])::(2,[59])::rest):=by rw [h];simp [YIt.tk]
   have hb:seesT [98,105,116] ts=bit:=by rw [JD h];cases bit<;>rfl
   refine Pc.pos (by rw [JD h,JD h];cases bit<;>rfl) ((Vf (hd_of h).2.2).bind fun t us hus=>(ki hus.2).bind fun _ vs hvs=>(ex1 hx.2 hvs (VN (by decide))).bind fun a xs ha=>?_)
   obtain ⟨y,rfl,hy,hxs⟩:=ha
   exact (ki hxs).bind fun _ ys hys=>(ki hys).bind fun _ zs hzs=>⟨.decl bit (hdT ts).2.2 w y,by rw [hus.1,hb];rfl,by simp only [YIt.zp,hy],hzs⟩
 | const p w e=>
   have h:stp ts=(2,[99,111,110,115,116])::(1,w)::(2,[61])::(e.tk++(2,[59])::rest):=by rw [h];simp [YIt.tk]
   refine Pc.neg (by rw [JD h,JD h];exact (fun h=>by cases h)) (Pc.pos (kP h) ((Vf (hd_of h).2.2).bind fun t us hus=>(ki hus.2).bind fun _ vs hvs=>(ex1 hx.2 hvs (VN (by decide))).bind fun a xs ha=>?_))
   obtain ⟨y,rfl,hy,hxs⟩:=ha
   exact (ki hxs).bind fun _ ys hys=>⟨.const (hdT ts).2.2 w y,by rw [hus.1];rfl,by simp only [YIt.zp,hy],hys⟩
 | gate p w ints wires q b=>
   have h:stp ts=(2,[103,97,116,101])::(1,w)::(intsK ints++(wireK wires++(bK b.tks++rest))):=by rw [h];simp [YIt.tk]
   refine Pc.neg (by rw [JD h,JD h];exact (fun h=>by cases h)) (Pc.neg (by rw [JD h];exact (fun h=>by cases h)) (Pc.pos (kP h) ?_))
   unfold gaT
   simp only [bsL]
   refine (Vf (hd_of h).2.2).bind fun t us hus=>?_
   have h1:Pc ((if seesT [40] us=true then (lsT p1T n us.tail).bind fun l us=>(wantT [41] us).bind fun _ us=>.ok l us else .ok [] us):Rd (List Nd)) (fun l us=>∃L':List (Int×Z6),l=L'.map p1nd∧L'.map p1z=ints.map p1z∧stp us=wireK wires++(bK b.tks++rest)):=by
    cases ints with
    | nil=>
      have h:stp us=wireK wires++(bK b.tks++rest):=hus.2
      refine Pc.neg ?_ ⟨[],rfl,rfl,h⟩
      rw [JD h]
      cases wires with
      | nil=>exact (fun h=>by cases h)
      | cons x R=>exact (fun h=>by cases h)
    | cons x R=>
      have h:stp us=(2,[40])::(p1k x++(tlK p1k R++(2,[41])::(wireK wires++(bK b.tks++rest)))):=by rw [hus.2];simp [intsK]
      refine Pc.pos (kP h) ?_
      refine (ls_par (f:=p1nd) (z:=p1z) (t:=p1k) (one:=p1T) (n:=n) (x:=x) (R:=R) (rest:=(2,[41])::(wireK wires++(bK b.tks++rest))) rfl (fun y hy us r hr' hus=>p1_par hus) (hd_of h).2.2).bind fun l us hl=>?_
      obtain ⟨L',rfl,hz,hus⟩:=hl
      exact (ki hus).bind fun _ vs hvs=>⟨L',rfl,hz,hvs⟩
   refine h1.bind fun l vs hl=>?_
   obtain ⟨L1,rfl,hz1,hvs⟩:=hl
   cases wires with
   | nil=>exact absurd rfl hx.2.2.2.1
   | cons x R=>
     have hvs:stp vs=p2k x++(tlK p2k R++(bK b.tks++rest)):=by rw [hvs];simp [wireK]
     refine (ls_par (f:=p2nd) (z:=p2z) (t:=p2k) (one:=p2T) (n:=n) (x:=x) (R:=R) (rest:=bK b.tks++rest) rfl (fun y hy us r hr' hus=>p2_par hus (by
      rcases hr' with rfl | ⟨r',rfl⟩<;>rfl)) hvs).bind fun l xs hl=>?_
     obtain ⟨L2,rfl,hz2,hxs⟩:=hl
     refine ((stm_par n).1 b xs rest hx.2.2.2.2 hxs).bind fun a ys ha=>?_
     obtain ⟨q',b',rfl,hb,hys⟩:=ha
     refine ⟨.gate (hdT ts).2.2 w L1 L2 q' b',by rw [hus.1];rfl,?_,hys⟩
     simp only [YIt.zp,hb,hz1,hz2]
 | st s=>
   have h:stp ts=s.tk++rest:=h
   obtain ⟨_,_,n1,n2,n3,n4,_⟩:=st_no s rest
   refine Pc.neg (by rw [JD h,JD h,n1,n2];simp) (Pc.neg (by rw [JD h,n3];simp) (Pc.neg (by rw [JD h,n4];simp) ((st_par hx h hs).mono fun a us ha=>?_)))
   obtain ⟨y,rfl,hy,hus⟩:=ha
   exact ⟨.st y,rfl,by simp only [YIt.zp,hy],hus⟩
theorem it_no (x:YIt) (r:List KW):seesK [101,108,115,101] (x.tk++r)=false∧(hk (x.tk++r)).1≠0:=by
 cases x with
 | st s=>exact ⟨(st_no s r).1,(st_no s r).2.2.2.2.2.2⟩
 | decl bit p w e=>cases bit<;>exact ⟨rfl,by show (2:Int)≠0;decide⟩
 | _=>exact ⟨rfl,by show (2:Int)≠0;decide⟩
def prK (l:List YIt):List KW:=(l.map YIt.tk).flatten++[(0,[])]
theorem pr_no (l:List YIt):seesK [101,108,115,101] (prK l)=false:=by
 cases l with
 | nil=>rfl
 | cons x l=>
   rw [show prK (x::l)=x.tk++prK l from by simp [prK]]
   exact (it_no x _).1
theorem pr_par {n:Nat}:∀(m:Nat) (R acc done:List YIt) (ts:List Tk),(∀x∈R,x.ok)→acc.map YIt.zp=done.map YIt.zp→stp ts=prK R →
 Pc (prT n m (acc.map YIt.nd) ts) (fun l us=>∃L':List YIt,l=L'.map YIt.nd∧L'.map YIt.zp=(done++R).map YIt.zp)
 | 0,_,_,_,_,_,_,_=>trivial
 | m+1,[],acc,done,ts,_,he,h=>by
   rw [prT]
   exact Pc.pos (hd_of (show stp ts=(0,[])::[] from h)).1 ⟨acc,rfl,by simpa using he⟩
 | m+1,x::R,acc,done,ts,hx,he,h=>by
   rw [prT]
   have h:stp ts=x.tk++prK R:=by rw [h];simp [prK]
   refine Pc.neg ?_ ((it_par (hx x (by simp)) h (pr_no R)).bind fun a us ha=>?_)
   ·have h1:=HT ts
    rw [h] at h1
    have:=(it_no x (prK R)).2
    rw [←h1] at this
    exact this
   ·obtain ⟨y,rfl,hy,hus⟩:=ha
    have:=pr_par (n:=n) m R (acc++[y]) (done++[x]) us (fun x' hx'=>hx x' (by simp [hx'])) (by simp [he,hy]) hus
    rw [List.map_append,zl] at this
    exact this
theorem YEx.zp_tight (x:YEx):x.zp.tight=x.tight:=by cases x<;>rfl
theorem YEx.zp_txt:∀x:YEx,x.zp.txt=x.txt
 | .num _ _=>rfl
 | .name _ _=>rfl
 | .size _ _=>rfl
 | .neg _ a=>by simp only [YEx.zp,YEx.txt,YEx.zp_tight,YEx.zp_txt a]
 | .bin _ w a b=>by simp only [YEx.zp,YEx.txt,YEx.zp_tight,YEx.zp_txt a,YEx.zp_txt b]
theorem YRf.zp_txt:∀x:YRf,x.zp.txt=x.txt
 | .one _ _=>rfl
 | .idx _ _ a=>by simp only [YRf.zp,YRf.txt,YEx.zp_txt]
 | .rng _ _ a b=>by simp only [YRf.zp,YRf.txt,YEx.zp_txt]
theorem YTr.zp_tight (x:YTr):x.zp.tight=x.tight:=by cases x<;>rfl
theorem YTr.zp_txt:∀x:YTr,x.zp.txt=x.txt
 | .op _ _ a b=>by simp only [YTr.zp,YTr.txt,YTr.zp_tight,YTr.zp_txt a,YTr.zp_txt b]
 | .not _ a=>by simp only [YTr.zp,YTr.txt,YTr.zp_tight,YTr.zp_txt a]
 | .bit _ _=>rfl
 | .ref r=>r.zp_txt
theorem YMd.zp_txt:∀x:YMd,x.zp.txt=x.txt
 | .inv _=>rfl
 | .ctrl _=>rfl
 | .pow _ e=>by simp only [YMd.zp,YMd.txt,YEx.zp_txt]
theorem HH {α:Type} {f:α→Z6} {z:α→α} (h:∀a,f (z a)=f a) (l:List α):(l.map z).map f=l.map f:=by
 rw [List.map_map];exact List.map_congr_left fun a _=>h a
mutual
theorem YSt.zp_txt:∀(x:YSt) (d:Nat),x.zp.txt d=x.txt d
 | .forS _ w lo hi _ b,d=>by simp only [YSt.zp,YSt.txt,YEx.zp_txt,YSts.zp_lines b]
 | .whenS _ e _ b,d=>by simp only [YSt.zp,YSt.txt,YEx.zp_txt,YSts.zp_lines b]
 | .ifS _ no r _ b,d=>by simp only [YSt.zp,YSt.txt,YRf.zp_txt,YSts.zp_lines b]
 | .ifE _ no r _ b _ c,d=>by simp only [YSt.zp,YSt.txt,YRf.zp_txt,YSts.zp_lines b,YSts.zp_lines c]
 | .meas _ a b,d=>by simp only [YSt.zp,YSt.txt,YRf.zp_txt]
 | .reset _ a,d=>by simp only [YSt.zp,YSt.txt,YRf.zp_txt]
 | .within _ _ a _ b,d=>by simp only [YSt.zp,YSt.txt,YSts.zp_lines a,YSts.zp_lines b]
 | .flip _ r e,d=>by simp only [YSt.zp,YSt.txt,YRf.zp_txt,YTr.zp_txt]
 | .app _ w mods args refs,d=>by
   simp only [YSt.zp,YSt.txt,appT,modsT,argsT,refsT,HH YMd.zp_txt,HH YEx.zp_txt,HH YRf.zp_txt,List.length_map]
theorem YSts.zp_lines:∀(x:YSts) (d:Nat),x.zp.lines d=x.lines d
 | .nil,d=>rfl
 | .cons s l,d=>by simp only [YSts.zp,YSts.lines,YSt.zp_txt s,YSts.zp_lines l]
end
theorem YIt.zp_txt:∀x:YIt,x.zp.txt=x.txt
 | .decl _ _ _ e=>by simp only [YIt.zp,YIt.txt,YEx.zp_txt]
 | .const _ _ e=>by simp only [YIt.zp,YIt.txt,YEx.zp_txt]
 | .gate _ w ints wires _ b=>by
   simp only [YIt.zp,YIt.txt,intsT,blkT,YSts.zp_lines,HH (f:=fun x:Int×Z6=>x.2) (z:=p1z) (fun a=>rfl),HH (f:=w2T) (z:=p2z) (fun a=>rfl),List.length_map]
 | .st s=>s.zp_txt 0
theorem prog_zp {l m:List YIt} (h:l.map YIt.zp=m.map YIt.zp):progT l=progT m:=by
 have h1:∀l:List YIt,progT l=((l.map YIt.zp).map fun x=>x.txt++[10]).flatten:=by
  intro l
  rw [HH (f:=fun x:YIt=>x.txt++[10]) (fun a=>by simp only [YIt.zp_txt])];rfl
 rw [h1,h1,h]
theorem Like.symm {a b:Nd} (h:Like false a b):Like false b a:=by
 induction h with
 | mk h1 h2 l1 l2 e1 e2 e3 el hl hk ih=>exact .mk h2 h1 l2 l1 e1.symm e2.symm (fun h=>by cases h) el.symm (by omega) (fun i h h'=>ih i h' h)
theorem Like.trans {a b c:Nd} (h:Like false a b) (h':Like false b c):Like false a c:=by
 induction h generalizing c with
 | mk h1 h2 l1 l2 e1 e2 e3 el hl hk ih=>
   cases h' with
   | mk h2 h3 l2 l3 f1 f2 f3 fl gl gk=>exact .mk h1 h3 l1 l3 (e1.trans f1) (e2.trans f2) (fun h=>by cases h) (el.trans fl) hl (fun i h h''=>ih i h (by omega) (gk i (by omega) h''))
inductive All2 (R:Nd→Nd→Prop):List Nd→List Nd→Prop
 | nil:All2 R [] []
 | cons {a b:Nd} {l m:List Nd}:R a b→All2 R l m→All2 R (a::l) (b::m)
theorem All2.len {R:Nd→Nd→Prop}:∀{l m:List Nd},All2 R l m→l.length=m.length
 | _,_,.nil=>rfl
 | _,_,.cons _ h=>by simp [h.len]
theorem All2.get {R:Nd→Nd→Prop}:∀{l m:List Nd},All2 R l m → ∀(i:Nat) (h:i<l.length) (h':i<m.length),R l[i] m[i]
 | _,_,.nil,i,h,_=>by simp at h
 | _,_,.cons h1 h2,0,_,_=>h1
 | _,_,.cons h1 h2,i+1,h,h'=>h2.get i (by simpa using h) (by simpa using h')
theorem Like.nN {k p p':Int} {w:Z6} {v:Int} {l m:List Nd} (h:All2 (Like false) l m) (hl:l.length≤1000000):Like false (ndN k p w v l) (ndN k p' w v m):=
 .mk _ _ _ _ rfl rfl (fun h=>by cases h) h.len hl h.get
theorem Like.nK {k p p':Int} {l m:List Nd} (h:All2 (Like false) l m) (hl:l.length≤1000000):Like false (ndK k p l) (ndK k p' m):=
 .mk _ _ _ _ rfl rfl (fun h=>by cases h) h.len hl h.get
theorem All2.map {α:Type} {f:α→Nd} {z:α→α} (h:∀a,Like false (f a) (f (z a))):∀l:List α,All2 (Like false) (l.map f) ((l.map z).map f)
 | []=>.nil
 | a::l=>.cons (h a) (All2.map h l)
theorem YEx.lk:∀x:YEx,Like false x.nd x.zp.nd
 | .num _ _=>.nN .nil (by simp)
 | .name _ _=>.nN .nil (by simp)
 | .size _ _=>.nN .nil (by simp)
 | .neg _ a=>.nK (.cons a.lk .nil) (by simp)
 | .bin _ w a b=>.nN (.cons a.lk (.cons b.lk .nil)) (by simp)
theorem YRf.lk:∀x:YRf,Like false x.nd x.zp.nd
 | .one _ _=>.nN .nil (by simp)
 | .idx _ _ a=>.nN (.cons a.lk .nil) (by simp)
 | .rng _ _ a b=>.nN (.cons a.lk (.cons b.lk .nil)) (by simp)
theorem YTr.lk:∀x:YTr,Like false x.nd x.zp.nd
 | .op _ _ a b=>.nK (.cons a.lk (.cons b.lk .nil)) (by simp)
 | .not _ a=>.nK (.cons a.lk .nil) (by simp)
 | .bit _ _=>.nN .nil (by simp)
 | .ref r=>r.lk
theorem YMd.lk:∀x:YMd,Like false x.nd x.zp.nd
 | .inv _=>.nK .nil (by simp)
 | .ctrl _=>.nK .nil (by simp)
 | .pow _ e=>.nK (.cons e.lk .nil) (by simp)
theorem gr_lk {α:Type} {f:α→Nd} {z:α→α} (h:∀a,Like false (f a) (f (z a))) (l:List α) (hl:l.length≤1000000):Like false (gr (l.map f)) (gr ((l.map z).map f)):=.nK (All2.map h l) (by simpa using hl)
mutual
theorem YSt.lk:∀x:YSt,x.sz≤1000000→Like false x.nd x.zp.nd
 | .forS _ w lo hi _ b,h=>by
   simp only [YSt.sz] at h
   exact .nN (.cons lo.lk (.cons hi.lk (.cons (.nK (YSts.lk b (by omega)) (by have:=b.len;omega)) .nil))) (by simp)
 | .whenS _ e _ b,h=>by
   simp only [YSt.sz] at h
   exact .nK (.cons e.lk (.cons (.nK (YSts.lk b (by omega)) (by have:=b.len;omega)) .nil)) (by simp)
 | .ifS _ no r _ b,h=>by
   simp only [YSt.sz] at h
   exact .nN (.cons r.lk (.cons (.nK (YSts.lk b (by omega)) (by have:=b.len;omega)) .nil)) (by simp)
 | .ifE _ no r _ b _ c,h=>by
   simp only [YSt.sz] at h
   exact .nN (.cons r.lk (.cons (.nK (YSts.lk b (by omega)) (by have:=b.len;omega)) (.cons (.nK (YSts.lk c (by omega)) (by have:=c.len;omega)) .nil))) (by simp)
 | .meas _ a b,h=>.nK (.cons a.lk (.cons b.lk .nil)) (by simp)
 | .reset _ a,h=>.nK (.cons a.lk .nil) (by simp)
 | .within _ _ a _ b,h=>by
   simp only [YSt.sz] at h
   exact .nK (.cons (.nK (YSts.lk a (by omega)) (by have:=a.len;omega)) (.cons (.nK (YSts.lk b (by omega)) (by have:=b.len;omega)) .nil)) (by simp)
 | .flip _ r e,h=>.nK (.cons r.lk (.cons e.lk .nil)) (by simp)
 | .app _ w mods args refs,h=>by
   simp only [YSt.sz] at h
   have h1:=Vs YMd.sz_pos mods
   have h2:=Vs YEx.sz_pos args
   have h3:=Vs YRf.sz_pos refs
   exact .nN (.cons (gr_lk YMd.lk mods (by omega)) (.cons (gr_lk YEx.lk args (by omega)) (.cons (gr_lk YRf.lk refs (by omega)) .nil))) (by simp)
theorem YSts.lk:∀x:YSts,x.sz≤1000000→All2 (Like false) x.nds x.zp.nds
 | .nil,_=>.nil
 | .cons s l,h=>by
   simp only [YSts.sz] at h
   exact .cons (YSt.lk s (by omega)) (YSts.lk l (by omega))
end
theorem YIt.lk:∀x:YIt,x.sz≤1000000→Like false x.nd x.zp.nd
 | .decl bit _ w e,_=>.nN (.cons e.lk .nil) (by simp)
 | .const _ w e,_=>.nN (.cons e.lk .nil) (by simp)
 | .gate _ w ints wires _ b,h=>by
   simp only [YIt.sz] at h
   have h1:=Vs p2sz_pos wires
   exact .nN (.cons (gr_lk (f:=p1nd) (z:=p1z) (fun a=>.nN .nil (by simp)) ints (by omega)) (.cons (gr_lk (f:=p2nd) (z:=p2z) (fun a=>.nN .nil (by simp)) wires (by omega)) (.cons (.nK (YSts.lk b (by omega)) (by have:=b.len;omega)) .nil))) (by simp)
 | .st s,h=>s.lk h
theorem prog_lk:∀{l m:List YIt},l.map YIt.zp=m.map YIt.zp→szL YIt.sz l≤1000000→szL YIt.sz m≤1000000→Like false (prog l) (prog m):=by
 have key:∀{l m:List YIt},l.map YIt.zp=m.map YIt.zp→szL YIt.sz l≤1000000→szL YIt.sz m≤1000000→All2 (Like false) (l.map YIt.nd) (m.map YIt.nd):=by
  intro l
  induction l with
  | nil=>
    intro m h _ _
    cases m with
    | nil=>exact .nil
    | cons b m=>cases h
  | cons a l ih=>
    intro m h h1 h2
    cases m with
    | nil=>cases h
    | cons b m=>
      simp only [szL,List.map_cons,List.sum_cons] at h1 h2
      simp only [List.map_cons] at h
      injection h with e1 e2
      have k1:=YIt.lk a (by omega)
      have k2:=YIt.lk b (by omega)
      rw [e1] at k1
      exact .cons (k1.trans k2.symm) (ih e2 (by simp only [szL];omega) (by simp only [szL];omega))
 intro l m h h1 h2
 have:=Vs YIt.sz_pos l
 exact .mk _ _ _ _ rfl rfl (fun h=>by cases h) (key h h1 h2).len (by simp;omega) (key h h1 h2).get
end Go.Ql
end

section
namespace Go.Ql
def Lex (s:Z6) (ks:List KW):Prop:=∀(n i:Nat),s.length<n→stp (toksN n s i)=ks
def nl (s:Z6):Prop:=∀c r,s=c::r→lettr c=false∧digt c=false
theorem nl_c {c:UInt8} {s:Z6} (h:lettr c=false∧digt c=false):nl (c::s):=by
 intro d r e;injection e with e1 e2;rw [←e1];exact h
theorem lex_nil:Lex [] [(0,[])]:=by
 intro n i h
 obtain ⟨m,rfl⟩:∃m,n=m+1:=⟨n-1,by omega⟩
 rfl
theorem UX {c:UInt8} {s:Z6} {ks:List KW} (hc:blk1 c=true) (h:Lex s ks):Lex (c::s) ks:=by
 intro n i hn
 obtain ⟨m,rfl⟩:∃m,n=m+1:=⟨n-1,by omega⟩
 have e:JX false (c::s)=1+JX false s:=by rw [JX,if_pos hc]
 have e2:(c::s).drop (JX false (c::s))=s.drop (JX false s):=by rw [e,Nat.add_comm,List.drop_succ_cons]
 have:=h (m+1) (i+1) (by simp only [za] at hn;omega)
 rw [←this]
 rw [toksN,toksN,e2,e,show i+(1+JX false s)=i+1+JX false s by omega]
theorem lex_tok {k:Int} {w s:Z6} {ks:List KW} (hw:w≠[]) (ht:Yb (w++s)=(k,w)) (h0:k≠0) (h4:k≠4) (hb:JX false (w++s)=0) (h:Lex s ks):Lex (w++s) ((k,w)::ks):=by
 intro n i hn
 obtain ⟨m,rfl⟩:∃m,n=m+1:=⟨n-1,by omega⟩
 have hl:0<w.length:=List.length_pos_iff.2 hw
 have:=h m (i+0+w.length) (by rw [z8] at hn;omega)
 rw [toksN,hb]
 simp only [List.drop_zero,ht]
 rw [if_neg (by simp only [not_or];exact ⟨h0,h4⟩),List.drop_left]
 show (k,w)::stp _=_
 rw [this]
theorem blank_no {c:UInt8} {r:Z6} (h1:blk1 c=false) (h2:c≠47∨r.head? ≠ some 47):JX false (c::r)=0:=by
 rw [JX,if_neg (by rw [h1];simp),if_neg]
 intro h
 rw [z7] at h
 rcases h2 with h2 | h2
 ·exact h2 (by simpa using h.1)
 ·exact h2 (by simpa using h.2)
theorem blk_47 {c:UInt8} (h:lettr c=true∨digt c=true):blk1 c=false∧c≠47:=by
 have key:∀n,n<256→(lettr (UInt8.ofNat n)||digt (UInt8.ofNat n))=true→blk1 (UInt8.ofNat n)=false∧UInt8.ofNat n≠47:=by decide +kernel
 have:=key c.toNat c.toNat_lt
 rw [UInt8.ofNat_toNat] at this
 exact this (by rcases h with h | h<;>simp [h])
theorem takeW_app {p:UInt8→Bool} {w s:Z6} (hw:∀c∈w,p c=true) (hs:∀c r,s=c::r→p c=false):(w++s).takeWhile p=w:=by
 induction w with
 | nil=>
   cases s with
   | nil=>rfl
   | cons c r=>rw [List.nil_append,List.takeWhile_cons,hs c r rfl];rfl
 | cons c w ih=>
   rw [List.cons_append,List.takeWhile_cons,hw c (by simp),ih (fun d hd=>hw d (by simp [hd]))];rfl
theorem lex_word {w s:Z6} {ks:List KW} {c:UInt8} {r:Z6} (e:w=c::r) (hc:lettr c=true) (hr:∀d∈r,(lettr d||digt d)=true) (hs:nl s) (h:Lex s ks):Lex (w++s) ((if keysT.elem w then 2 else 1,w)::ks):=by
 have hb:=blk_47 (.inl hc)
 have htw:(w++s).takeWhile (fun c=>lettr c||digt c)=w:=takeW_app (by
  intro d hd
  rw [e] at hd
  rcases zz.1 hd with hd | hd
  ·rw [hd,hc];rfl
  ·exact hr d hd) (fun d q e'=>by have:=hs d q e';rw [this.1,this.2];rfl)
 refine lex_tok (by rw [e];simp) ?_ (by split<;>decide) (by split<;>decide) (by rw [e];exact blank_no hb.1 (.inl hb.2)) h
 subst e
 rw [List.cons_append] at htw ⊢
 rw [Yb,if_pos hc,htw]
theorem Yk {w s:Z6} {ks:List KW} (hw:kT w) (hs:nl s) (h:Lex s ks):Lex (w++s) ((1,w)::ks):=by
 obtain ⟨_,hk,c,r,e,hc,hr⟩:=hw
 have:=lex_word e hc hr hs h
 rw [hk] at this
 exact this
theorem Yd {w s:Z6} {ks:List KW} {c:UInt8} {r:Z6} (e:w=c::r) (hk:keysT.elem w=true) (hc:lettr c=true) (hr:∀d∈r,(lettr d||digt d)=true) (hs:nl s) (h:Lex s ks):Lex (w++s) ((2,w)::ks):=by
 have:=lex_word e hc hr hs h
 rw [hk] at this
 exact this
theorem lettr_dig {c:UInt8} (h:digt c=true):lettr c=false:=by
 have key:∀n,n<256→digt (UInt8.ofNat n)=true→lettr (UInt8.ofNat n)=false:=by decide +kernel
 have:=key c.toNat c.toNat_lt
 rw [UInt8.ofNat_toNat] at this
 exact this h
theorem lex_num {v:Int} {s:Z6} {ks:List KW} (hv:0≤v∧v<1000000000) (hs:nl s) (h:Lex s ks):Lex (Go.Lib.itoa v++s) ((3,Go.Lib.itoa v)::ks):=by
 have hd:∃c r,Go.Lib.itoa v=c::r∧(∀d∈Go.Lib.itoa v,digt d=true)∧(Go.Lib.itoa v).length≤9 ∧ ¬((Go.Lib.itoa v).length>1∧c=48):=by
  rcases itoa_txt v with ⟨h0,e⟩ | ⟨h0,D,hd,e⟩
  ·exact ⟨48,[],e,by rw [e];intro d hd;rw [List.mem_singleton.1 hd];decide,by rw [e];decide,by rw [e];simp⟩
  ·rw [e,if_neg (by omega),List.nil_append]
   have h1:=dec_ge hd.1 hd.2.1 hd.2.2.1
   rw [hd.2.2.2] at h1
   have hlen:D.length≤9:=by
    rcases Nat.lt_or_ge 9 D.length with hc | hc
    ·exfalso
     have h3:(10:Nat)^9≤10^(D.length-1):=Nat.pow_le_pow_right (by decide) (by omega)
     have h5:((10^(D.length-1):Nat):Int)≤(v.natAbs:Int):=by simpa using h1
     have h6:(10:Nat)^9=1000000000:=by decide
     omega
    ·exact hc
   cases D with
   | nil=>exact absurd rfl hd.2.1
   | cons c r=>
     refine ⟨c,r,rfl,fun d hd'=>hd.1 d hd',hlen,fun hh=>hd.2.2.1 ?_⟩
     rw [hh.2];rfl
 obtain ⟨c,r,e,hd,hlen,hz⟩:=hd
 have hc:digt c=true:=hd c (by rw [e];simp)
 have hb:=blk_47 (.inr hc)
 have htw:(Go.Lib.itoa v++s).takeWhile digt=Go.Lib.itoa v:=takeW_app hd (fun d q e'=>(hs d q e').2)
 refine lex_tok (by rw [e];simp) ?_ (by decide) (by decide) (by rw [e];exact blank_no hb.1 (.inl hb.2)) h
 rw [e] at htw hlen hz ⊢
 rw [List.cons_append] at htw ⊢
 rw [Yb,if_neg (by rw [lettr_dig hc];simp),if_pos hc,htw,if_neg]
 intro hh
 rcases hh with hh | hh
 ·omega
 ·exact hz hh
theorem HG {a b:UInt8} {s:Z6} {ks:List KW} (hab:twosT.elem [a,b]=true) (ha:lettr a=false∧digt a=false∧blk1 a=false∧a≠47) (h:Lex s ks):Lex (a::b::s) ((2,[a,b])::ks):=by
 refine lex_tok (w:=[a,b]) (by simp) ?_ (by decide) (by decide) (blank_no ha.2.2.1 (.inl ha.2.2.2)) h
 show Yb (a::b::s)=_
 rw [Yb,if_neg (by rw [ha.1];simp),if_neg (by rw [ha.2.1];simp)]
 rw [show (a::b::s).take 2=[a,b] from rfl,if_pos hab]
theorem Um {a:UInt8} {s:Z6} {ks:List KW} (ha:onesT.elem a=true) (hn:lettr a=false∧digt a=false∧blk1 a=false) (h47:a≠47∨s.head? ≠ some 47) (h2:∀c r,s=c::r→twosT.elem [a,c]=false) (h1:twosT.elem [a]=false) (h:Lex s ks):Lex (a::s) ((2,[a])::ks):=by
 refine lex_tok (w:=[a]) (by simp) ?_ (by decide) (by decide) (blank_no hn.2.2 h47) h
 show Yb (a::s)=_
 rw [Yb,if_neg (by rw [hn.1];simp),if_neg (by rw [hn.2.1];simp)]
 have:twosT.elem ((a::s).take 2)=false:=by
  cases s with
  | nil=>exact h1
  | cons c r=>exact h2 c r rfl
 rw [if_neg (by rw [this];simp),if_pos ha]
theorem lex_p {a:UInt8} {s:Z6} {ks:List KW} (ha:(onesT.elem a && !lettr a && !digt a && !blk1 a && !(a==47)&&twosT.all fun w=>w.head? !=some a)=true) (h:Lex s ks):Lex (a::s) ((2,[a])::ks):=by
 simp only [z7,zx,zu] at ha
 obtain ⟨⟨⟨⟨⟨h1,h2⟩,h3⟩,h4⟩,h5⟩,h6⟩:=ha
 have key:∀w:Z6,w.head?=some a→twosT.elem w=false:=by
  intro w hw
  rw [Bool.eq_false_iff]
  intro he
  have:=h6 w (List.elem_iff.1 he)
  rw [hw] at this
  simp at this
 exact Um h1 ⟨h2,h3,h4⟩ (.inl (by simpa using h5)) (fun c r _=>key _ rfl) (key _ rfl) h
theorem JT {s:Z6} {ks:List KW} (h:Lex s ks):Lex (32::s) ks:=UX (by decide) h
theorem lex_op {w s:Z6} {ks:List KW} (hw:rankT w≠0) (h:Lex s ks):Lex (w++32::s) ((2,w)::ks):=by
 have hs:=JT h
 have t:∀(a b:UInt8),twosT.elem [a,b]=true→lettr a=false∧digt a=false∧blk1 a=false∧a≠47→w=[a,b]→Lex (w++32::s) ((2,w)::ks):=by
  intro a b h1 h2 e;subst e;exact HG h1 h2 hs
 have o:∀(a:UInt8),onesT.elem a=true→lettr a=false∧digt a=false∧blk1 a=false→twosT.elem [a,32]=false→twosT.elem [a]=false→w=[a]→Lex (w++32::s) ((2,w)::ks):=by
  intro a h1 h2 h3 h4 e;subst e
  exact Um h1 h2 (.inr (by simp)) (fun c r e=>by injection e with e1 e2;rw [←e1];exact h3) h4 hs
 unfold rankT at hw
 split at hw
 ·rename_i g
  rcases g with g | g | g | g | g | g
  ·exact t 61 61 (by decide) (by decide) g
  ·exact t 33 61 (by decide) (by decide) g
  ·exact o 60 (by decide) (by decide) (by decide) (by decide) g
  ·exact t 60 61 (by decide) (by decide) g
  ·exact o 62 (by decide) (by decide) (by decide) (by decide) g
  ·exact t 62 61 (by decide) (by decide) g
 ·split at hw
  ·rename_i g
   rcases g with g | g
   ·exact o 43 (by decide) (by decide) (by decide) (by decide) g
   ·exact o 45 (by decide) (by decide) (by decide) (by decide) g
  ·split at hw
   ·rename_i g
    rcases g with g | g | g
    ·exact o 42 (by decide) (by decide) (by decide) (by decide) g
    ·exact o 47 (by decide) (by decide) (by decide) (by decide) g
    ·exact o 37 (by decide) (by decide) (by decide) (by decide) g
   ·split at hw
    ·rename_i g
     exact t 42 42 (by decide) (by decide) g
    ·exact absurd rfl hw
end Go.Ql
end

section
namespace Go.Ql
theorem nlp (c:UInt8) {s:Z6} (h:(!lettr c && !digt c)=true:=by decide):nl (c::s):=by
 simp only [z7,zx] at h
 exact nl_c h
def fstE (s:Z6):Prop:=∃c r,s=c::r∧c≠62∧c≠61
theorem fst_dig {c:UInt8} (h:lettr c=true∨digt c=true):c≠62∧c≠61:=by
 constructor
 ·rintro rfl;rcases h with h | h<;>exact absurd h (by decide)
 ·rintro rfl;rcases h with h | h<;>exact absurd h (by decide)
theorem fst_name {w s:Z6} (h:kT w):fstE (w++s):=by
 obtain ⟨_,_,c,r,e,hc,_⟩:=h
 exact ⟨c,r++s,by rw [e];rfl,fst_dig (.inl hc)⟩
theorem fst_num {v:Int} {s:Z6} (hv:0≤v):fstE (Go.Lib.itoa v++s):=by
 rcases itoa_txt v with ⟨h0,e⟩ | ⟨h0,D,hd,e⟩
 ·rw [e];exact ⟨48,s,rfl,by decide,by decide⟩
 ·rw [e,if_neg (by omega),List.nil_append]
  cases D with
  | nil=>exact absurd rfl hd.2.1
  | cons c r=>exact ⟨c,r++s,rfl,fst_dig (.inr (hd.1 c (by simp)))⟩
theorem fst_par {b:Bool} {l s:Z6} (h:fstE (l++s)):fstE (parT b l++s):=by
 unfold parT
 cases b with
 | true=>exact ⟨40,l++[41]++s,by simp,by decide,by decide⟩
 | false=>exact h
theorem fst_ex:∀(x:YEx) (s:Z6),x.ok→fstE (x.txt++s)
 | .num _ v,s,h=>fst_num h.1
 | .name _ w,s,h=>fst_name h
 | .size _ w,s,h=>⟨115,_,rfl,by decide,by decide⟩
 | .neg _ a,s,h=>⟨45,_,rfl,by decide,by decide⟩
 | .bin _ w a b,s,h=>by
   have:(YEx.bin 0 w a b).txt++s=parT (decide (a.tight<lftT (rkN w))) a.txt++([32]++w++[32]++parT (decide (b.tight<rgtT (rkN w))) b.txt++s):=by simp [YEx.txt]
   show fstE ((YEx.bin 0 w a b).txt++s)
   rw [this]
   exact fst_par (fst_ex a _ h.2.1)
theorem two_62 {c:UInt8} (h:c≠62):twosT.elem [45,c]=false:=by
 have key:∀n,n<256→UInt8.ofNat n≠62→twosT.elem [45,UInt8.ofNat n]=false:=by decide +kernel
 have:=key c.toNat c.toNat_lt
 rw [UInt8.ofNat_toNat] at this
 exact this h
theorem two_61 {c:UInt8} (h:c≠61):twosT.elem [33,c]=false:=by
 have key:∀n,n<256→UInt8.ofNat n≠61→twosT.elem [33,UInt8.ofNat n]=false:=by decide +kernel
 have:=key c.toNat c.toNat_lt
 rw [UInt8.ofNat_toNat] at this
 exact this h
theorem lex_neg {s:Z6} {ks:List KW} (hf:fstE s) (h:Lex s ks):Lex (45::s) ((2,[45])::ks):=by
 obtain ⟨c,r,e,h1,h2⟩:=hf
 exact Um (by decide) (by decide) (.inl (by decide)) (fun d q e'=>by rw [e] at e';injection e' with e1 e2;rw [←e1];exact two_62 h1) (by decide) h
theorem lex_not {s:Z6} {ks:List KW} (hf:fstE s) (h:Lex s ks):Lex (33::s) ((2,[33])::ks):=by
 obtain ⟨c,r,e,h1,h2⟩:=hf
 exact Um (by decide) (by decide) (.inl (by decide)) (fun d q e'=>by rw [e] at e';injection e' with e1 e2;rw [←e1];exact two_61 h2) (by decide) h
theorem Hh {b:Bool} {l:Z6} {t:List KW} {s:Z6} {ks:List KW} (hl:∀s ks,nl s→Lex s ks→Lex (l++s) (t++ks)) (hs:nl s) (h:Lex s ks):Lex (parT b l++s) (parK b t++ks):=by
 unfold parT parK
 cases b with
 | true=>
   have:=lex_p (a:=40) (by decide) (hl (41::s) ((2,[41])::ks) (nlp 41) (lex_p (by decide) h))
   simp only [if_true]
   simpa using this
 | false=>exact hl s ks hs h
theorem Vp:∀(x:YEx) (s:Z6) (ks:List KW),x.ok→nl s→Lex s ks→Lex (x.txt++s) (x.tk++ks)
 | .num _ v,s,ks,h,hs,hl=>lex_num h hs hl
 | .name _ w,s,ks,h,hs,hl=>Yk h hs hl
 | .size _ w,s,ks,h,hs,hl=>by
   have:=Yd (w:=[115,105,122,101]) rfl (by decide +kernel) (by decide) (by decide) (nlp 40) (lex_p (a:=40) (by decide) (Yk h (nlp 41) (lex_p (a:=41) (by decide) hl)))
   simpa [YEx.txt,YEx.tk] using this
 | .neg _ a,s,ks,h,hs,hl=>by
   have:=lex_neg (fst_par (b:=decide (a.tight<4)) (fst_ex a s h)) (Hh (b:=decide (a.tight<4)) (fun s ks h1 h2=>Vp a s ks h h1 h2) hs hl)
   simpa [YEx.txt,YEx.tk] using this
 | .bin _ w a b,s,ks,h,hs,hl=>by
   have h1:=Hh (b:=decide (b.tight<rgtT (rkN w))) (fun s ks h1 h2=>Vp b s ks h.2.2 h1 h2) hs hl
   have h2:=JT (lex_op h.1 h1)
   have h3:=Hh (b:=decide (a.tight<lftT (rkN w))) (fun s ks h1 h2=>Vp a s ks h.2.1 h1 h2) (nlp 32) h2
   simpa [YEx.txt,YEx.tk] using h3
theorem UY (x:YRf) (s:Z6) (ks:List KW) (h:x.ok) (hs:nl s) (hl:Lex s ks):Lex (x.txt++s) (x.tk++ks):=by
 cases x with
 | one p w=>exact Yk h hs hl
 | idx p w a=>
   have:=Yk h.1 (nlp 91) (lex_p (a:=91) (by decide) (Vp a (93::s) _ h.2 (nlp 93) (lex_p (a:=93) (by decide) hl)))
   simpa [YRf.txt,YRf.tk,YRf.tl,YRf.nm] using this
 | rng p w a b=>
   have h1:=Vp b (93::s) _ h.2.2 (nlp 93) (lex_p (a:=93) (by decide) hl)
   have h2:=JT (HG (a:=46) (b:=46) (by decide) (by decide) (JT h1))
   have:=Yk h.1 (nlp 91) (lex_p (a:=91) (by decide) (Vp a _ _ h.2.1 (nlp 32) h2))
   simpa [YRf.txt,YRf.tk,YRf.tl,YRf.nm] using this
theorem lex_ow {k:Nat} {s:Z6} {ks:List KW} (hk:1≤k∧k≤3) (h:Lex s ks):Lex (opW k++32::s) ((2,opW k)::ks):=by
 have:k=1∨k=2∨k=3:=by omega
 have hs:=JT h
 rcases this with rfl | rfl | rfl
 ·exact Um (a:=124) (by decide) (by decide) (.inl (by decide)) (fun c r e=>by injection e with e1 e2;rw [←e1];decide) (by decide) hs
 ·exact Um (a:=94) (by decide) (by decide) (.inl (by decide)) (fun c r e=>by injection e with e1 e2;rw [←e1];decide) (by decide) hs
 ·exact Um (a:=38) (by decide) (by decide) (.inl (by decide)) (fun c r e=>by injection e with e1 e2;rw [←e1];decide) (by decide) hs
theorem fst_rf (x:YRf) (s:Z6) (h:x.ok):fstE (x.txt++s):=by
 cases x with
 | one p w=>exact fst_name h
 | idx p w a=>simp only [YRf.txt,zl];exact fst_name h.1
 | rng p w a b=>simp only [YRf.txt,zl];exact fst_name h.1
theorem fst_tr:∀(x:YTr) (s:Z6),x.ok→fstE (x.txt++s)
 | .op k _ a b,s,h=>by
   have:(YTr.op k 0 a b).txt++s=parT (decide (a.tight<k)) a.txt++([32]++opW k++[32]++parT (decide (b.tight<k+1)) b.txt++s):=by simp [YTr.txt]
   show fstE ((YTr.op k 0 a b).txt++s)
   rw [this]
   exact fst_par (fst_tr a _ h.2.1)
 | .not _ a,s,h=>⟨33,_,rfl,by decide,by decide⟩
 | .bit _ v,s,h=>fst_num (by have:v=0∨v=1:=h;omega)
 | .ref r,s,h=>fst_rf r s h
theorem lex_tr:∀(x:YTr) (s:Z6) (ks:List KW),x.ok→nl s→Lex s ks→Lex (x.txt++s) (x.tk++ks)
 | .op k _ a b,s,ks,h,hs,hl=>by
   have h1:=Hh (b:=decide (b.tight<k+1)) (fun s ks h1 h2=>lex_tr b s ks h.2.2 h1 h2) hs hl
   have h2:=JT (lex_ow h.1 h1)
   have h3:=Hh (b:=decide (a.tight<k)) (fun s ks h1 h2=>lex_tr a s ks h.2.1 h1 h2) (nlp 32) h2
   simpa [YTr.txt,YTr.tk] using h3
 | .not _ a,s,ks,h,hs,hl=>by
   have:=lex_not (fst_par (b:=decide (a.tight<4)) (fst_tr a s h)) (Hh (b:=decide (a.tight<4)) (fun s ks h1 h2=>lex_tr a s ks h h1 h2) hs hl)
   simpa [YTr.txt,YTr.tk] using this
 | .bit _ v,s,ks,h,hs,hl=>lex_num (by have:v=0∨v=1:=h;omega) hs hl
 | .ref r,s,ks,h,hs,hl=>UY r s ks h hs hl
theorem com_cons (x:Z6) (r:List Z6):comT (x::r)=x++(r.map ([44,32] ++ ·)).flatten:=by
 unfold comT;rw [Go.Lib.join_cons];rfl
theorem lex_tail {β:Type} {f:β→Z6} {t:β→List KW} {s:Z6} {ks:List KW} (hs:nl s) (hl:Lex s ks):∀R:List β,(∀x∈R,∀s ks,nl s→Lex s ks→Lex (f x++s) (t x++ks)) →
 Lex (((R.map f).map ([44,32] ++ ·)).flatten++s) (tlK t R++ks)∧nl (((R.map f).map ([44,32] ++ ·)).flatten++s)
 | [],_=>⟨hl,hs⟩
 | x::R,h=>by
   obtain ⟨h1,h2⟩:=lex_tail (f:=f) (t:=t) hs hl R (fun y hy=>h y (by simp [hy]))
   have:=lex_p (a:=44) (by decide) (JT (h x (by simp) _ _ h2 h1))
   exact ⟨by simpa [tlK] using this,by simpa using nlp 44⟩
theorem lex_com {β:Type} {f:β→Z6} {t:β→List KW} {s:Z6} {ks:List KW} {x:β} {R:List β} (hs:nl s) (hl:Lex s ks) (h:∀y∈x::R,∀s ks,nl s→Lex s ks→Lex (f y++s) (t y++ks)) :
 Lex (comT ((x::R).map f)++s) (t x++(tlK t R++ks)):=by
 obtain ⟨h1,h2⟩:=lex_tail (f:=f) (t:=t) hs hl R (fun y hy=>h y (by simp [hy]))
 rw [List.map_cons,com_cons,zl]
 exact h x (by simp) _ _ h2 h1
theorem lex_md (x:YMd) (s:Z6) (ks:List KW) (h:x.ok) (hl:Lex s ks):Lex (x.txt++s) (x.tk++ks):=by
 cases x with
 | inv p=>
   have:=Yd (w:=[105,110,118]) rfl (by decide +kernel) (by decide) (by decide) (nlp 32) (JT (lex_p (a:=64) (by decide) (JT hl)))
   simpa [YMd.txt,YMd.tk] using this
 | ctrl p=>
   have:=Yd (w:=[99,116,114,108]) rfl (by decide +kernel) (by decide) (by decide) (nlp 32) (JT (lex_p (a:=64) (by decide) (JT hl)))
   simpa [YMd.txt,YMd.tk] using this
 | pow p e=>
   have h1:=lex_p (a:=41) (by decide) (JT (lex_p (a:=64) (by decide) (JT hl)))
   have:=Yd (w:=[112,111,119]) rfl (by decide +kernel) (by decide) (by decide) (nlp 40) (lex_p (a:=40) (by decide) (Vp e _ _ h (nlp 41) h1))
   simpa [YMd.txt,YMd.tk] using this
theorem lex_mds {s:Z6} {ks:List KW} (hl:Lex s ks):∀l:List YMd,(∀m∈l,m.ok)→Lex (modsT l++s) (mdK l++ks)
 | [],_=>hl
 | m::l,h=>by
   have:=lex_md m _ _ (h m (by simp)) (lex_mds hl l (fun y hy=>h y (by simp [hy])))
   simpa [modsT,mdK] using this
theorem lex_apl {w:Z6} {mods:List YMd} {args:List YEx} {refs:List YRf} {s:Z6} {ks:List KW} (h:(YSt.app 0 w mods args refs).ok) (hl:Lex s ks) :
 Lex (appT mods w args refs++s) ((YSt.app 0 w mods args refs).tk++ks):=by
 have h0:=lex_p (a:=59) (by decide) hl
 have h1:Lex (refsT refs++59::s) (refsK refs++(2,[59])::ks)∧nl (refsT refs++59::s):=by
  cases refs with
  | nil=>exact ⟨h0,nlp 59⟩
  | cons x R=>
    have:=JT (lex_com (f:=YRf.txt) (t:=YRf.tk) (nlp 59) h0 (fun y hy s ks h1 h2=>UY y s ks (h.2.2.2 y hy) h1 h2))
    exact ⟨by simpa [refsT,refsK] using this,by simpa [refsT] using nlp 32⟩
 have h2:Lex (argsT args++(refsT refs++59::s)) (argsK args++(refsK refs++(2,[59])::ks))∧nl (argsT args++(refsT refs++59::s)):=by
  cases args with
  | nil=>exact h1
  | cons x R=>
    have:=lex_p (a:=40) (by decide) (lex_com (f:=YEx.txt) (t:=YEx.tk) (x:=x) (R:=R) (nlp 41) (lex_p (a:=41) (by decide) h1.1) (fun y hy s ks h1 h2=>Vp y s ks (h.2.2.1 y hy) h1 h2))
    exact ⟨by simpa [argsT,argsK] using this,by simpa [argsT] using nlp 40⟩
 have:=lex_mds (Yk h.1 h2.2 h2.1) mods h.2.1
 simpa [appT,YSt.tk] using this
theorem lex_tabs {s:Z6} {ks:List KW} (hl:Lex s ks):∀d,Lex (tabsT d++s) ks
 | 0=>hl
 | d+1=>by
   have:=UX (c:=9) (by decide) (lex_tabs hl d)
   simpa [tabsT,List.replicate_succ] using this
theorem Ul {d:Nat} {b:YSts} {s:Z6} {ks:List KW} (hb:∀s ks,Lex s ks→Lex (b.lines (d+1)++s) (b.tks++ks)) (hl:Lex s ks):Lex (blkT d b++s) (bK b.tks++ks):=by
 have:=lex_p (a:=123) (by decide) (UX (c:=10) (by decide) (hb _ _ (lex_tabs (lex_p (a:=125) (by decide) hl) d)))
 simpa [blkT,bK] using this
theorem lex_if {no:Bool} {s:Z6} {ks:List KW} (hf:fstE s) (hl:Lex s ks):Lex ((if no then [33] else [])++s) ((if no then [(2,[33])] else [])++ks):=by
 cases no with
 | true=>exact lex_not hf hl
 | false=>exact hl
mutual
theorem lex_st:∀(x:YSt) (d:Nat) (s:Z6) (ks:List KW),x.ok→Lex s ks→Lex (x.txt d++s) (x.tk++ks)
 | .forS _ w lo hi _ b,d,s,ks,h,hl=>by
   have h1:=JT (Ul (d:=d) (fun s ks hl=>VS b (d+1) s ks h.2.2.2 hl) hl)
   have h2:=JT (HG (a:=46) (b:=46) (by decide) (by decide) (JT (Vp hi _ _ h.2.2.1 (nlp 32) h1)))
   have h3:=JT (Yd (w:=[105,110]) rfl (by decide +kernel) (by decide) (by decide) (nlp 32) (JT (Vp lo _ _ h.2.1 (nlp 32) h2)))
   have:=Yd (w:=[102,111,114]) rfl (by decide +kernel) (by decide) (by decide) (nlp 32) (JT (Yk h.1 (nlp 32) h3))
   simpa [YSt.txt,YSt.tk,blkT] using this
 | .whenS _ e _ b,d,s,ks,h,hl=>by
   have h1:=JT (Ul (d:=d) (fun s ks hl=>VS b (d+1) s ks h.2 hl) hl)
   have:=Yd (w:=[119,104,101,110]) rfl (by decide +kernel) (by decide) (by decide) (nlp 32) (JT (Vp e _ _ h.1 (nlp 32) h1))
   simpa [YSt.txt,YSt.tk,blkT] using this
 | .ifS _ no r _ b,d,s,ks,h,hl=>by
   have h1:=JT (Ul (d:=d) (fun s ks hl=>VS b (d+1) s ks h.2 hl) hl)
   have:=Yd (w:=[105,102]) rfl (by decide +kernel) (by decide) (by decide) (nlp 32) (JT (lex_if (no:=no) (fst_rf r _ h.1) (UY r _ _ h.1 (nlp 32) h1)))
   simpa [YSt.txt,YSt.tk,blkT] using this
 | .ifE _ no r _ b _ c,d,s,ks,h,hl=>by
   have h0:=JT (Yd (w:=[101,108,115,101]) rfl (by decide +kernel) (by decide) (by decide) (nlp 32) (JT (Ul (d:=d) (fun s ks hl=>VS c (d+1) s ks h.2.2 hl) hl)))
   have h1:=JT (Ul (d:=d) (fun s ks hl=>VS b (d+1) s ks h.2.1 hl) h0)
   have:=Yd (w:=[105,102]) rfl (by decide +kernel) (by decide) (by decide) (nlp 32) (JT (lex_if (no:=no) (fst_rf r _ h.1) (UY r _ _ h.1 (nlp 32) h1)))
   simpa [YSt.txt,YSt.tk,blkT] using this
 | .meas _ a b,d,s,ks,h,hl=>by
   have h1:=UY b _ _ h.2 (nlp 59) (lex_p (a:=59) (by decide) hl)
   have h2:=JT (HG (a:=45) (b:=62) (by decide) (by decide) (JT h1))
   have:=Yd (w:=[109,101,97,115,117,114,101]) rfl (by decide +kernel) (by decide) (by decide) (nlp 32) (JT (UY a _ _ h.1 (nlp 32) h2))
   simpa [YSt.txt,YSt.tk] using this
 | .reset _ a,d,s,ks,h,hl=>by
   have:=Yd (w:=[114,101,115,101,116]) rfl (by decide +kernel) (by decide) (by decide) (nlp 32) (JT (UY a _ _ h (nlp 59) (lex_p (a:=59) (by decide) hl)))
   simpa [YSt.txt,YSt.tk] using this
 | .within _ _ a _ b,d,s,ks,h,hl=>by
   have h0:=JT (Yd (w:=[97,112,112,108,121]) rfl (by decide +kernel) (by decide) (by decide) (nlp 32) (JT (Ul (d:=d) (fun s ks hl=>VS b (d+1) s ks h.2 hl) hl)))
   have:=Yd (w:=[119,105,116,104,105,110]) rfl (by decide +kernel) (by decide) (by decide) (nlp 32) (JT (Ul (d:=d) (fun s ks hl=>VS a (d+1) s ks h.1 hl) h0))
   simpa [YSt.txt,YSt.tk,blkT] using this
 | .flip _ r e,d,s,ks,h,hl=>by
   have h1:=lex_tr e _ _ h.2 (nlp 59) (lex_p (a:=59) (by decide) hl)
   have:=UY r _ _ h.1 (nlp 32) (JT (HG (a:=94) (b:=61) (by decide) (by decide) (JT h1)))
   simpa [YSt.txt,YSt.tk] using this
 | .app _ w mods args refs,d,s,ks,h,hl=>lex_apl h hl
theorem VS:∀(x:YSts) (d:Nat) (s:Z6) (ks:List KW),x.ok→Lex s ks→Lex (x.lines d++s) (x.tks++ks)
 | .nil,d,s,ks,h,hl=>hl
 | .cons x l,d,s,ks,h,hl=>by
   have:=lex_tabs (lex_st x d _ _ h.1 (UX (c:=10) (by decide) (VS l d s ks h.2 hl))) d
   simpa [YSts.lines,YSts.tks] using this
end
theorem lex_w2 (x:Int×Z6×Bool) (s:Z6) (ks:List KW) (h:kT x.2.1) (hs:nl s) (hl:Lex s ks):Lex (w2T x++s) (p2k x++ks):=by
 obtain ⟨p,w,b⟩:=x
 cases b with
 | true=>
   have:=Yk h (nlp 91) (lex_p (a:=91) (by decide) (lex_p (a:=93) (by decide) hl))
   simpa [w2T,p2k] using this
 | false=>exact Yk h hs hl
theorem lex_it (x:YIt) (s:Z6) (ks:List KW) (h:x.ok) (hl:Lex s ks):Lex (x.txt++s) (x.tk++ks):=by
 cases x with
 | decl bit p w e=>
   have h1:=JT (Yk h.1 (nlp 91) (lex_p (a:=91) (by decide) (Vp e _ _ h.2 (nlp 93) (lex_p (a:=93) (by decide) (lex_p (a:=59) (by decide) hl)))))
   cases bit with
   | true=>
     have:=Yd (w:=[98,105,116]) rfl (by decide +kernel) (by decide) (by decide) (nlp 32) h1
     simpa [YIt.txt,YIt.tk] using this
   | false=>
     have:=Yd (w:=[113,117,98,105,116]) rfl (by decide +kernel) (by decide) (by decide) (nlp 32) h1
     simpa [YIt.txt,YIt.tk] using this
 | const p w e=>
   have h1:=Vp e _ _ h.2 (nlp 59) (lex_p (a:=59) (by decide) hl)
   have h2:=JT (Um (a:=61) (by decide) (by decide) (.inl (by decide)) (fun c r e=>by injection e with e1 e2;rw [←e1];decide) (by decide) (JT h1))
   have:=Yd (w:=[99,111,110,115,116]) rfl (by decide +kernel) (by decide) (by decide) (nlp 32) (JT (Yk h.1 (nlp 32) h2))
   simpa [YIt.txt,YIt.tk] using this
 | gate p w ints wires q b=>
   have h1:=JT (Ul (d:=0) (fun s ks hl=>VS b 1 s ks h.2.2.2.2 hl) hl)
   cases wires with
   | nil=>exact absurd rfl h.2.2.2.1
   | cons x R=>
     have h2:=JT (lex_com (f:=w2T) (t:=p2k) (nlp 32) h1 (fun y hy s ks h1 h2=>lex_w2 y s ks (h.2.2.1 y hy) h1 h2))
     cases ints with
     | nil=>
       have:=Yd (w:=[103,97,116,101]) rfl (by decide +kernel) (by decide) (by decide) (nlp 32) (JT (Yk h.1 (nlp 32) h2))
       simpa [YIt.txt,YIt.tk,intsT,intsK,wireK] using this
     | cons y Q=>
       have h3:=lex_p (a:=40) (by decide) (lex_com (f:=fun x:Int×Z6=>x.2) (t:=p1k) (x:=y) (R:=Q) (nlp 41) (lex_p (a:=41) (by decide) h2) (fun z hz s ks h1 h2=>Yk (h.2.1 z hz) h1 h2))
       have:=Yd (w:=[103,97,116,101]) rfl (by decide +kernel) (by decide) (by decide) (nlp 32) (JT (Yk h.1 (nlp 40) h3))
       simpa [YIt.txt,YIt.tk,intsT,intsK,wireK] using this
 | st x=>exact lex_st x 0 s ks h hl
theorem lex_prog:∀l:List YIt,(∀x∈l,x.ok)→Lex (progT l) (prK l)
 | [],_=>lex_nil
 | x::l,h=>by
   have:=lex_it x _ _ (h x (by simp)) (UX (c:=10) (by decide) (lex_prog l (fun y hy=>h y (by simp [hy]))))
   simpa [progT,prK] using this
theorem toks_prog {l:List YIt} (h:∀x∈l,x.ok):stp (toksT (progT l))=prK l:=lex_prog l h _ 0 (Nat.lt_succ_self _)
end Go.Ql
end

section
set_option maxRecDepth 100000
namespace Go.Ql
theorem YEx.zp_ok:∀x:YEx,x.zp.ok=x.ok∧x.zp.sz=x.sz
 | .num _ _=>⟨rfl,rfl⟩
 | .name _ _=>⟨rfl,rfl⟩
 | .size _ _=>⟨rfl,rfl⟩
 | .neg _ a=>by simp only [YEx.zp,YEx.ok,YEx.sz,YEx.zp_ok a,and_self]
 | .bin _ w a b=>by simp only [YEx.zp,YEx.ok,YEx.sz,YEx.zp_ok a,YEx.zp_ok b,and_self]
theorem YRf.zp_ok:∀x:YRf,x.zp.ok=x.ok∧x.zp.sz=x.sz
 | .one _ _=>⟨rfl,rfl⟩
 | .idx _ _ a=>by simp only [YRf.zp,YRf.ok,YRf.sz,YEx.zp_ok a,and_self]
 | .rng _ _ a b=>by simp only [YRf.zp,YRf.ok,YRf.sz,YEx.zp_ok a,YEx.zp_ok b,and_self]
theorem YTr.zp_ok:∀x:YTr,x.zp.ok=x.ok∧x.zp.sz=x.sz
 | .op _ _ a b=>by simp only [YTr.zp,YTr.ok,YTr.sz,YTr.zp_ok a,YTr.zp_ok b,and_self]
 | .not _ a=>by simp only [YTr.zp,YTr.ok,YTr.sz,YTr.zp_ok a,and_self]
 | .bit _ _=>⟨rfl,rfl⟩
 | .ref r=>by simp only [YTr.zp,YTr.ok,YTr.sz,YRf.zp_ok r,and_self]
theorem YMd.zp_ok:∀x:YMd,x.zp.ok=x.ok∧x.zp.sz=x.sz
 | .inv _=>⟨rfl,rfl⟩
 | .ctrl _=>⟨rfl,rfl⟩
 | .pow _ e=>by simp only [YMd.zp,YMd.ok,YMd.sz,YEx.zp_ok e,and_self]
theorem Hy {α:Type} {ok:α→Prop} {z:α→α} (h:∀a,ok (z a)=ok a) (l:List α):(∀x∈l.map z,ok x)=(∀x∈l,ok x):=by
 apply propext
 constructor
 ·intro g x hx;have:=g (z x) (List.mem_map_of_mem hx);rwa [h] at this
 ·intro g x hx;obtain ⟨y,hy,rfl⟩:=List.mem_map.1 hx;rw [h];exact g y hy
theorem sz_zp {α:Type} {f:α→Nat} {z:α→α} (h:∀a,f (z a)=f a) (l:List α):szL f (l.map z)=szL f l:=by
 unfold szL;rw [List.map_map];congr 1;exact List.map_congr_left fun a _=>h a
mutual
theorem YSt.zp_ok:∀x:YSt,x.zp.ok=x.ok∧x.zp.sz=x.sz
 | .forS _ w lo hi _ b=>by simp only [YSt.zp,YSt.ok,YSt.sz,YEx.zp_ok,YSts.zp_ok b,and_self]
 | .whenS _ e _ b=>by simp only [YSt.zp,YSt.ok,YSt.sz,YEx.zp_ok,YSts.zp_ok b,and_self]
 | .ifS _ no r _ b=>by simp only [YSt.zp,YSt.ok,YSt.sz,YRf.zp_ok,YSts.zp_ok b,and_self]
 | .ifE _ no r _ b _ c=>by simp only [YSt.zp,YSt.ok,YSt.sz,YRf.zp_ok,YSts.zp_ok b,YSts.zp_ok c,and_self]
 | .meas _ a b=>by simp only [YSt.zp,YSt.ok,YSt.sz,YRf.zp_ok,and_self]
 | .reset _ a=>by simp only [YSt.zp,YSt.ok,YSt.sz,YRf.zp_ok,and_self]
 | .within _ _ a _ b=>by simp only [YSt.zp,YSt.ok,YSt.sz,YSts.zp_ok a,YSts.zp_ok b,and_self]
 | .flip _ r e=>by simp only [YSt.zp,YSt.ok,YSt.sz,YRf.zp_ok,YTr.zp_ok,and_self]
 | .app _ w mods args refs=>by
   simp only [YSt.zp,YSt.ok,YSt.sz,Hy (fun a=>(YMd.zp_ok a).1),Hy (fun a=>(YEx.zp_ok a).1),Hy (fun a=>(YRf.zp_ok a).1),sz_zp (fun a=>(YMd.zp_ok a).2),sz_zp (fun a=>(YEx.zp_ok a).2),sz_zp (fun a=>(YRf.zp_ok a).2),and_self]
theorem YSts.zp_ok:∀x:YSts,x.zp.ok=x.ok∧x.zp.sz=x.sz
 | .nil=>⟨rfl,rfl⟩
 | .cons s l=>by simp only [YSts.zp,YSts.ok,YSts.sz,YSt.zp_ok s,YSts.zp_ok l,and_self]
end
theorem YIt.zp_ok:∀x:YIt,x.zp.ok=x.ok∧x.zp.sz=x.sz
 | .decl _ _ _ e=>by simp only [YIt.zp,YIt.ok,YIt.sz,YEx.zp_ok,and_self]
 | .const _ _ e=>by simp only [YIt.zp,YIt.ok,YIt.sz,YEx.zp_ok,and_self]
 | .gate _ w ints wires _ b=>by
   simp only [YIt.zp,YIt.ok,YIt.sz,YSts.zp_ok,Hy (ok:=fun x:Int×Z6=>kT x.2) (z:=p1z) (fun a=>rfl),Hy (ok:=fun x:Int×Z6×Bool=>kT x.2.1) (z:=p2z) (fun a=>rfl),sz_zp (f:=p2sz) (z:=p2z) (fun a=>rfl),List.length_map,ne_eq,List.map_eq_nil_iff,and_self]
 | .st s=>s.zp_ok
theorem zp_oks {l m:List YIt} (h:l.map YIt.zp=m.map YIt.zp) (hm:∀x∈m,x.ok):(∀x∈l,x.ok)∧szL YIt.sz l=szL YIt.sz m:=by
 refine ⟨?_,?_⟩
 ·rw [←Hy (fun a=>(YIt.zp_ok a).1)] at hm ⊢
  rw [h];exact hm
 ·rw [←sz_zp (fun a=>(YIt.zp_ok a).2) l,h,sz_zp (fun a=>(YIt.zp_ok a).2)]
end Go.Ql
namespace W
open Go Go.Ql Go.Proofs
def begL:List YIt:=[.st (.app 0 [104] [] [] [.idx 2 [113] (.num 6 2)])]
theorem beg_spec:specP [104,32,113,32,91,32,50,32,93,32,59]=(prog begL,(0,0)):=by kernel_rfl
theorem beg_txt:progT begL=[104,32,113,91,50,93,59,10]:=by kernel_rfl
theorem beg_ok:∀x∈begL,YIt.ok x:=by
 intro x hx
 rw [List.mem_singleton.1 hx]
 have hn:∀c:UInt8,lettr c=true→keysT.elem [c]=false→kT [c]:=fun c h1 h2=>⟨by simp,h2,c,[],rfl,h1,by simp⟩
 refine ⟨hn 104 (by decide) (by kernel_rfl),(fun _ h=>by cases h),(fun _ h=>by cases h),fun r hr=>?_⟩
 rw [List.mem_singleton.1 hr]
 exact ⟨hn 113 (by decide) (by kernel_rfl),by decide,by decide⟩
theorem begun_law:JH=some true:=by
 unfold JH
 have e:=parse_law [104,32,113,32,91,32,50,32,93,32,59]
 rw [beg_spec] at e
 refine jw e (jw (x:=true) ?_ rfl)
 unfold JH.c2
 refine br_t (by rfl) (jw (print_ok beg_ok (by decide)) ?_)
 rw [beg_txt]
 rfl
theorem again {L:List YIt} (hok:∀x∈L,x.ok) (ht:(progT L).length≤40000):∃L':List YIt,L'.map YIt.zp=L.map YIt.zp∧specP (progT L)=(prog L',(0,0)):=by
 have h:=pr_par (n:=400000) 100000 L [] [] (toksT (progT L)) hok rfl (toks_prog hok)
 have hno:=pr_ne_out ht
 unfold specP
 rw [if_neg (by omega)]
 revert h hno
 show Pc (prT 400000 100000 [] (toksT (progT L))) _→_
 cases prT 400000 100000 [] (toksT (progT L)) with
 | ok l us=>rintro ⟨L',rfl,h⟩ _;exact ⟨L',h,rfl⟩
 | err e=>intro h _;exact h.elim
 | out=>intro _ h;exact absurd rfl h
theorem back_law (text:Z6):JR text=some true:=by
 unfold JR
 refine jw (parse_law text) (jw begun_law (br_f rfl ?_))
 rcases specP_form text with ⟨L,hok,hsz,_,_,e⟩ | ⟨e1,e2⟩
 ·rw [e]
  refine br_f (by rfl) (jw (print_ok hok (by omega)) (jw (parse_law (progT L)) ?_))
  by_cases ht:40000<(progT L).length
  ·rw [kn (by omega)]
   unfold specP
   rw [if_pos ht]
   rfl
  ·rw [kM (by omega)]
   obtain ⟨L',hz,e'⟩:=again hok (by omega)
   obtain ⟨ok',sz'⟩:=zp_oks hz hok
   rw [e']
   have hs:=same_ok (p:=false) (prog_lk hz.symm (by omega) (by omega))
   have hp:=print_ok ok' (by omega)
   have ht:=prog_zp hz
   refine jw (x:=true) ?_ rfl
   unfold JR.c10
   refine br_t (by rfl) (jw hs (br_t (by rfl) (jw hp ?_)))
   rw [ht]
   simp
 ·exact br_t (by simpa using e2) rfl
end W
end
