/- Plain laws: the reference writes as the document says. -/
import Derived.Test.YtdocfkidnnalnaaGreatDoorPcS
import Derived.Test.YtdocfkidnnalnaaGreatDoorPbS
import Derived.Test.YtdocfkidnnalnaaGreatDoorWdS
set_option linter.all false
section
namespace Go.Ql
abbrev KW:=Int×Za
def hk (l:List KW):KW:=l.headD (0,[])
def K4 (c:Bool) (l:List KW):List KW:=if c then (2,[40])::(l++[(2,[41])]) else l
def YEx.tk:YEx→List KW
 | .num _ v=>[(3,Go.Lib.itoa v)]
 | .name _ w=>[(1,w)]
 | .size _ w=>[(2,[115,105,122,101]),(2,[40]),(1,w),(2,[41])]
 | .neg _ a=>(2,[45])::K4 (decide (a.tight<4)) a.tk
 | .bin _ w a b=>K4 (decide (a.tight<fS (UP w))) a.tk++(2,w)::K4 (decide (b.tight<fT (UP w))) b.tk
def GS (w:Za):YT w=((UP w:Nat):Int):=by
 unfold UP
 rcases dS w with e | e | e | e | e<;>rw [e]<;>rfl
end Go.Ql
end

section
set_option maxRecDepth 8000
namespace W
open Go Go.Ql
def GU {v:Int} (h:0≤v∧v<1000000000):aT v=some (Go.Lib.itoa v):=by
 unfold aT
 obtain ⟨r,h1,h2,h3⟩:=AL (n:=v) (by omega)
 exact jf h1 (jf (MJ h2 (by omega)) rfl)
def LI {x:YEx}:Uz (Rose.mk (Prod.fst (Rose.hQ x.nd),Prod.fst (Prod.snd (Rose.hQ x.nd)),Prod.fst (Prod.snd (Prod.snd (Rose.hQ x.nd))),Prod.snd (Prod.snd (Prod.snd (Rose.hQ x.nd)))) (Rose.kQ x.nd))=some ((x.tight:Nat):Int):=by
 unfold Uz
 cases x with
 | bin p w a b=>
   refine Yw (by rfl) (jf (mF w) ?_)
   rw [GS];rfl
 | neg p a=>exact Jj (by rfl) (Yw (by rfl) rfl)
 | _=>exact Jj (by rfl) (Jj (by rfl) rfl)
def zM {x:YEx} {m k:Nat} (hx:x.ok) (hs:x.sz≤50000) (h:(VS.fuel m).F_R_exprText_b (x.nd,())=some (x.txt,())):(VS.fuel (m+1)).F_R_atLeast_b (x.nd,(k:Int),())=some (x.at k,()):=by
 have h1:=x.txt_le hx
 have h':(VS.fuel m).F_R_exprText_b (Rose.mk (Prod.fst (Rose.hQ x.nd),Prod.fst (Prod.snd (Rose.hQ x.nd)),Prod.fst (Prod.snd (Prod.snd (Rose.hQ x.nd))),Prod.snd (Prod.snd (Prod.snd (Rose.hQ x.nd)))) (Rose.kQ x.nd),())=some (x.txt,()):=by cases x<;>exact h
 show @kl (VS.fuel m) x.nd (k:Int)=_
 unfold kl
 refine jf LI ?_
 unfold YEx.at NE
 by_cases hk:x.tight<k
 ·rw [JB (by omega),zo hk,if_pos rfl]
  refine jf h' ?_
  repeat (refine jf (jY (zo (by (try dsimp only);simp only [jK,zf,zg,zh];omega))) ?_)
  rfl
 ·rw [JV (by omega),zp hk]
  exact jf h' rfl
def lA:∀(x:YEx),x.ok→x.sz≤50000 → ∀m:Nat,2*x.sz≤m→(VS.fuel m).F_R_exprText_b (x.nd,())=some (x.txt,())
 | .num p v,h,hs,m,hm=>by
   simp only [YEx.sz] at hm
   obtain ⟨m,rfl⟩:∃n,m=n+1:=⟨m-1,by omega⟩
   show @jX (VS.fuel m) (YEx.num p v).nd=_
   unfold jX
   exact Yw (by rfl) (jf (GU h) rfl)
 | .name p w,h,hs,m,hm=>by
   simp only [YEx.sz] at hm
   obtain ⟨m,rfl⟩:∃n,m=n+1:=⟨m-1,by omega⟩
   show @jX (VS.fuel m) (YEx.name p w).nd=_
   unfold jX
   exact Jj (by rfl) (Jj (by rfl) (Jj (by rfl) (Jj (by rfl) rfl)))
 | .size p w,h,hs,m,hm=>by
   simp only [YEx.sz] at hm
   obtain ⟨m,rfl⟩:∃n,m=n+1:=⟨m-1,by omega⟩
   have h0:w.length≤40000:=h.1
   show @jX (VS.fuel m) (YEx.size p w).nd=_
   unfold jX
   refine Jj (by rfl) (Yw (by rfl) ?_)
   have e:Prod.fst (Prod.snd (Prod.snd (Rose.hQ (YEx.size p w).nd)))=w:=rfl
   rw [e]
   repeat (refine jf (jY (zo (by (try dsimp only);simp only [jK,zf,zg,zh];omega))) ?_)
   rfl
 | .neg p a,h,hs,m,hm=>by
   simp only [YEx.sz] at hs hm
   obtain ⟨m,rfl⟩:∃n,m=n+2:=⟨m-2,by omega⟩
   have h1:=a.txt_le h
   have h2:=a.at_le 4
   have ih:=zM (x:=a) (k:=4) h (by omega) (lA a h (by omega) m (by omega))
   show @jX (VS.fuel (m+1)) (YEx.neg p a).nd=_
   unfold jX
   refine Jj (by rfl) (Jj (by rfl) (Yw (by rfl) (jf (x:=a.nd) (by rfl) (jf ih ?_))))
   repeat (refine jf (jY (zo (by (try dsimp only);simp only [jK,zf,zg,zh];omega))) ?_)
   rfl
 | .bin p w a b,h,hs,m,hm=>by
   simp only [YEx.sz] at hs hm
   obtain ⟨m,rfl⟩:∃n,m=n+2:=⟨m-2,by omega⟩
   have h1:=a.txt_le h.2.1
   have h2:=a.at_le (fS (UP w))
   have h3:=b.txt_le h.2.2
   have h4:=b.at_le (fT (UP w))
   have h5:=rV h.1
   have ih1:=zM (k:=fS (UP w)) h.2.1 (by omega) (lA a h.2.1 (by omega) m (by omega))
   have ih2:=zM (k:=fT (UP w)) h.2.2 (by omega) (lA b h.2.2 (by omega) m (by omega))
   show @jX (VS.fuel (m+1)) (YEx.bin p w a b).nd=_
   unfold jX
   refine Jj (by rfl) (Jj (by rfl) (Jj (by rfl) (Yw (by rfl) (jf (mF w) ?_))))
   have hr:=GS w
   by_cases r1:UP w=1
   ·refine Yw (by rw [hr,r1];rfl) ?_
    rw [r1] at ih1 ih2 h2 h4
    have key:@jX.c10 (VS.fuel (m+1)) _ w [a.nd,b.nd] some=some (YEx.bin p w a b).txt:=by
     unfold jX.c10
     refine jf (x:=a.nd) (by rfl) (jf ih1 ?_)
     repeat (refine jf (jY (zo (by (try dsimp only);simp only [jK,zf,zg,zh];omega))) ?_)
     refine jf (x:=b.nd) (by rfl) (jf ih2 ?_)
     repeat (refine jf (jY (zo (by (try dsimp only);simp only [jK,zf,zg,zh];omega))) ?_)
     simp only [YEx.txt,r1];rfl
    exact jf key rfl
   ·refine Jj (by rw [hr];simpa using (by omega:¬((UP w:Nat):Int)=1)) ?_
    by_cases r5:UP w=5
    ·refine Yw (by rw [hr,r5];rfl) ?_
     have hw:w=[42,42]:=GN (by rw [hr,r5];rfl)
     rw [r5] at ih1 ih2 h2 h4
     have key:@jX.c12 (VS.fuel (m+1)) _ [a.nd,b.nd] some=some (YEx.bin p w a b).txt:=by
      unfold jX.c12
      refine jf (x:=a.nd) (by rfl) (jf ih1 ?_)
      repeat (refine jf (jY (zo (by (try dsimp only);simp only [jK,zf,zg,zh];omega))) ?_)
      refine jf (x:=b.nd) (by rfl) (jf ih2 ?_)
      repeat (refine jf (jY (zo (by (try dsimp only);simp only [jK,zf,zg,zh];omega))) ?_)
      simp only [YEx.txt,r5]
      rw [hw]
      simp [YEx.at,jK,zq]
     exact jf key rfl
    ·refine Jj (by rw [hr];simpa using (by omega:¬((UP w:Nat):Int)=5)) ?_
     have el:fS (UP w)=UP w:=by unfold fS;rw [if_neg r1,if_neg r5]
     have er:fT (UP w)=UP w+1:=by unfold fT;rw [if_neg r1,if_neg r5]
     rw [el] at ih1 h2
     rw [er] at ih2 h4
     have hb:UP w≤6:=by have:=(F7 (w:=w)).1;rw [el] at this;exact this
     have key:@jX.c13 (VS.fuel (m+1)) _ (YT w) w [a.nd,b.nd] some=some (YEx.bin p w a b).txt:=by
      unfold jX.c13
      rw [hr]
      refine jf (x:=a.nd) (by rfl) (jf ih1 ?_)
      repeat (refine jf (jY (zo (by (try dsimp only);simp only [jK,zf,zg,zh];omega))) ?_)
      rw [JS (by omega)]
      refine jf (x:=b.nd) (by rfl) (jf ih2 ?_)
      repeat (refine jf (jY (zo (by (try dsimp only);simp only [jK,zf,zg,zh];omega))) ?_)
      simp only [YEx.txt,el,er];rfl
     exact jf key rfl
def aP {x:YEx} (h:x.ok) (hs:x.sz≤50000):YS (x.nd,())=some (x.txt,()):=lA x h hs 1000000 (by omega)
def fN {x:YRf} (h:x.ok) (hs:x.sz≤50000):kx x.nd=some x.txt:=by
 cases x with
 | one p w=>
   unfold kx
   exact Yw (by rfl) rfl
 | idx p w a=>
   simp only [YRf.sz] at hs
   have h0:w.length≤40000:=h.1.1
   have h1:=a.txt_le h.2
   unfold kx
   refine Jj (by rfl) (Yw (by rfl) ?_)
   have key:kx.c4 w [a.nd] some=some (YRf.idx p w a).txt:=by
    unfold kx.c4
    repeat (refine jf (jY (zo (by (try dsimp only);simp only [jK,zf,zg,zh];omega))) ?_)
    refine jf (x:=a.nd) (by rfl) (jf (aP h.2 (by omega)) ?_)
    repeat (refine jf (jY (zo (by (try dsimp only);simp only [jK,zf,zg,zh];omega))) ?_)
    rfl
   exact jf key rfl
 | rng p w a b=>
   simp only [YRf.sz] at hs
   have h0:w.length≤40000:=h.1.1
   have h1:=a.txt_le h.2.1
   have h2:=b.txt_le h.2.2
   unfold kx
   refine Jj (by rfl) (Jj (by rfl) ?_)
   have key:kx.c5 w [a.nd,b.nd] some=some (YRf.rng p w a b).txt:=by
    unfold kx.c5
    repeat (refine jf (jY (zo (by (try dsimp only);simp only [jK,zf,zg,zh];omega))) ?_)
    refine jf (x:=a.nd) (by rfl) (jf (aP h.2.1 (by omega)) ?_)
    repeat (refine jf (jY (zo (by (try dsimp only);simp only [jK,zf,zg,zh];omega))) ?_)
    refine jf (x:=b.nd) (by rfl) (jf (aP h.2.2 (by omega)) ?_)
    repeat (refine jf (jY (zo (by (try dsimp only);simp only [jK,zf,zg,zh];omega))) ?_)
    rfl
   exact jf key rfl
def iC {x:YTr} (h:x.ok):VB (Rose.mk (Prod.fst (Rose.hQ x.nd),Prod.fst (Prod.snd (Rose.hQ x.nd)),Prod.fst (Prod.snd (Prod.snd (Rose.hQ x.nd))),Prod.snd (Prod.snd (Prod.snd (Rose.hQ x.nd)))) (Rose.kQ x.nd))=some ((x.tight:Nat):Int):=by
 unfold VB
 cases x with
 | op k p a b=>
   have hk:k=1∨k=2∨k=3:=by have:=h.1;omega
   rcases hk with rfl | rfl | rfl
   ·exact Yw (by rfl) rfl
   ·exact Jj (by rfl) (Yw (by rfl) rfl)
   ·exact Jj (by rfl) (Jj (by rfl) (Yw (by rfl) rfl))
 | ref r=>cases r<;>exact Jj (by rfl) (Jj (by rfl) (Jj (by rfl) rfl))
 | _=>exact Jj (by rfl) (Jj (by rfl) (Jj (by rfl) rfl))
def QF {F:Nd→Option (Za×Unit)} {x:YTr} {t:Za} (h:F x.nd=some (t,())):F (Rose.mk (Prod.fst (Rose.hQ x.nd),Prod.fst (Prod.snd (Rose.hQ x.nd)),Prod.fst (Prod.snd (Prod.snd (Rose.hQ x.nd))),Prod.snd (Prod.snd (Prod.snd (Rose.hQ x.nd)))) (Rose.kQ x.nd))=some (t,()):=by
 rw [y8];exact h
def uR {x:YTr} {m k:Nat} (hx:x.ok) (hs:x.sz≤50000) (h:(Ui.fuel m).F_R_truthText_b (x.nd,())=some (x.txt,())):(Ui.fuel (m+1)).F_R_truthAtLeast_b (x.nd,(k:Int),())=some (x.at k,()):=by
 have h1:=x.txt_le hx
 have h':=QF (F:=fun n=>(Ui.fuel m).F_R_truthText_b (n,())) h
 show @JF (Ui.fuel m) x.nd (k:Int)=_
 unfold JF
 refine jf (iC hx) ?_
 unfold YTr.at NE
 by_cases hk:x.tight<k
 ·rw [JB (by omega),zo hk,if_pos rfl]
  refine jf h' ?_
  repeat (refine jf (jY (zo (by (try dsimp only);simp only [jK,zf,zg,zh];omega))) ?_)
  rfl
 ·rw [JV (by omega),zp hk]
  exact jf h' rfl
def lC:∀(x:YTr),x.ok→x.sz≤50000 → ∀m:Nat,2*x.sz≤m→(Ui.fuel m).F_R_truthText_b (x.nd,())=some (x.txt,())
 | .op k p a b,h,hs,m,hm=>by
   simp only [YTr.sz] at hs hm
   obtain ⟨m,rfl⟩:∃n,m=n+2:=⟨m-2,by omega⟩
   have h1:=a.txt_le h.2.1
   have h2:=a.at_le k
   have h3:=b.txt_le h.2.2
   have h4:=b.at_le (k+1)
   have ih1:=uR (k:=k) h.2.1 (by omega) (lC a h.2.1 (by omega) m (by omega))
   have ih2:=uR (k:=k+1) h.2.2 (by omega) (lC b h.2.2 (by omega) m (by omega))
   have hl:=iC (x:=.op k p a b) h
   have hk:k=1∨k=2∨k=3:=by have:=h.1;omega
   show @Jr (Ui.fuel (m+1)) (YTr.op k p a b).nd=_
   unfold Jr
   refine jf hl ?_
   rw [JB (show (((YTr.op k p a b).tight:Nat):Int)<4 by show ((k:Nat):Int)<4;omega)]
   have key:@Jr.c4 (Ui.fuel (m+1)) _ [[],[32,124,32],[32,94,32],[32,38,32]] (k:Int) [a.nd,b.nd] some=some (YTr.op k p a b).txt:=by
    unfold Jr.c4
    refine jf (x:=a.nd) (by rfl) (jf ih1 ?_)
    rcases hk with rfl | rfl | rfl
    ·refine jf (x:=[32,124,32]) (by rfl) ?_
     repeat (refine jf (jY (zo (by (try dsimp only);simp only [jK,zf,zg,zh];omega))) ?_)
     refine jf (x:=b.nd) (by rfl) (jf ih2 ?_)
     repeat (refine jf (jY (zo (by (try dsimp only);simp only [jK,zf,zg,zh];omega))) ?_)
     simp [YTr.txt,YTr.at,zF]
    ·refine jf (x:=[32,94,32]) (by rfl) ?_
     repeat (refine jf (jY (zo (by (try dsimp only);simp only [jK,zf,zg,zh];omega))) ?_)
     refine jf (x:=b.nd) (by rfl) (jf ih2 ?_)
     repeat (refine jf (jY (zo (by (try dsimp only);simp only [jK,zf,zg,zh];omega))) ?_)
     simp [YTr.txt,YTr.at,zF]
    ·refine jf (x:=[32,38,32]) (by rfl) ?_
     repeat (refine jf (jY (zo (by (try dsimp only);simp only [jK,zf,zg,zh];omega))) ?_)
     refine jf (x:=b.nd) (by rfl) (jf ih2 ?_)
     repeat (refine jf (jY (zo (by (try dsimp only);simp only [jK,zf,zg,zh];omega))) ?_)
     simp [YTr.txt,YTr.at,zF]
   exact jf key rfl
 | .not p a,h,hs,m,hm=>by
   simp only [YTr.sz] at hs hm
   obtain ⟨m,rfl⟩:∃n,m=n+2:=⟨m-2,by omega⟩
   have h1:=a.txt_le h
   have h2:=a.at_le 4
   have ih:=uR (x:=a) (k:=4) h (by omega) (lC a h (by omega) m (by omega))
   have hl:=iC (x:=.not p a) h
   show @Jr (Ui.fuel (m+1)) (YTr.not p a).nd=_
   unfold Jr
   refine jf hl (Jj (by rfl) (Yw (by rfl) (jf (x:=a.nd) (by rfl) (jf ih ?_))))
   repeat (refine jf (jY (zo (by (try dsimp only);simp only [jK,zf,zg,zh];omega))) ?_)
   rfl
 | .bit p v,h,hs,m,hm=>by
   simp only [YTr.sz] at hs hm
   obtain ⟨m,rfl⟩:∃n,m=n+1:=⟨m-1,by omega⟩
   have hv:v=0∨v=1:=h
   have hl:=iC (x:=.bit p v) h
   show @Jr (Ui.fuel m) (YTr.bit p v).nd=_
   unfold Jr
   exact jf hl (Jj (by rfl) (Jj (by rfl) (Yw (by rfl) (jf (GU (v:=v) (by omega)) rfl))))
 | .ref r,h,hs,m,hm=>by
   simp only [YTr.sz] at hs hm
   have:=r.sz_pos
   obtain ⟨m,rfl⟩:∃n,m=n+1:=⟨m-1,by omega⟩
   have hl:=iC (x:=.ref r) h
   have hr:=fN h hs
   show @Jr (Ui.fuel m) r.nd=_
   unfold Jr
   refine jf hl ?_
   cases r<;>exact Jj (by rfl) (Jj (by rfl) (Jj (by rfl) (jf hr rfl)))
def LJ {x:YTr} (h:x.ok) (hs:x.sz≤50000):Ht (x.nd,())=some (x.txt,()):=lC x h hs 1000000 (by omega)
end W
end

section
set_option maxRecDepth 8000
set_option maxHeartbeats 800000
namespace W
open Go Go.Ql
def xY {l:List Za} {y:Za} (h:l≠[]):Vq (l++[y])=Vq l++([44,32]++y):=F1 h y [44,32]
def xZ {L:List Za} (hl:L.length≤100000):∀(r p:List Za),p++r=L→(∀q,(∃s,q++s=L)→(Vq q).length≤100000000000) →
 iter (fun s:Za×Int=>kG.cb_ L s.1 s.2 some) (Vq p,(p.length:Int))=some (Vq L,(L.length:Int))
 | [],p,e,h=>by
   have:p=L:=by simpa using e
   subst this
   refine kD ?_
   show kG.cb_ p (Vq p) (p.length:Int) some=_
   unfold kG.cb_
   rw [JV (by omega)]
 | y::r,p,e,h=>by
   have hn:L.length=p.length+r.length+1:=by rw [←e];simp;omega
   have hp:=h p ⟨y::r,e⟩
   have hp2:=h (p++[y]) ⟨r,by rw [←e];simp⟩
   have ih:=xZ hl r (p++[y]) (by rw [←e];simp) h
   rw [zf] at ih
   refine kr ?_ ih
   show kG.cb_ L (Vq p) (p.length:Int) some=_
   unfold kG.cb_
   rw [JB (by omega)]
   have hi:idx L (p.length:Int)=some y:=by rw [HD (by omega)];subst e;simp
   cases p with
   | nil=>
     have e0:kG.ch_ (Vq []) ((([]:List Za).length:Nat):Int) some=some (Vq []):=by
      unfold kG.ch_
      rw [JV (by simp)]
     have ey:Vq ([]++[y])=Vq []++y:=by simp [Vq,Go.Lib.join,List.intercalate]
     rw [ey,zf] at hp2
     refine jf e0 (jf hi (jf (jY (zo (by omega))) ?_))
     rw [JS (by omega),ey]
     rfl
   | cons a l=>
     rw [xY (by simp)] at hp2 ⊢
     simp only [zf,zg,zh] at hp2
     have e0:kG.ch_ (Vq (a::l)) (((a::l).length:Nat):Int) some=some (Vq (a::l)++[44,32]):=by
      unfold kG.ch_
      rw [JB (by simp)]
      repeat (refine jf (jY (zo (by (try dsimp only);simp only [jK,zf,zg,zh];omega))) ?_)
      rfl
     refine jf e0 (jf hi (jf (jY (zo (by simp only [zf,zg,zh];omega))) ?_))
     rw [JS (by simp only [zg];simp only [zg] at hn;omega),zq]
     rfl
def xX:∀(s q:List Za),(Vq q).length≤(Vq (q++s)).length
 | [],q=>by simp
 | y::s,q=>by
   have:=xX s (q++[y])
   rw [zq] at this
   refine Nat.le_trans ?_ this
   cases q with
   | nil=>simp [Vq,Go.Lib.join,List.intercalate]
   | cons a l=>rw [xY (by simp)];simp
def tE {L:List Za} (hl:L.length≤100000) (h:(Vq L).length≤100000000000):kG L=some (Vq L):=by
 unfold kG
 have:=xZ hl L [] rfl (fun q ⟨s,e⟩=>by have:=xX s q;rw [e] at this;omega)
 exact jf this rfl
def BU {L:List YMd} {n:Nd} {A B:Nd} (hok:∀m∈L,m.ok) (hsz:∀m∈L,m.sz≤50000) (hl:L.length≤50000):∀(r p:List YMd) (t:Za),p++r=L→t.length+(Uw r).length≤95000000000 →
 iter (fun s:Za×Int=>jT.cb_ s.1 s.2 [gr (L.map YMd.nd),A,B] some) (t,(p.length:Int))=some (t++Uw r,(L.length:Int))
 | [],p,t,e,h=>by
   have:p=L:=by simpa using e
   subst this
   refine kD ?_
   show jT.cb_ t (p.length:Int) [gr (p.map YMd.nd),A,B] some=_
   unfold jT.cb_
   refine jf (x:=gr (p.map YMd.nd)) (by rfl) ?_
   show br (decide ((p.length:Int)<((p.map YMd.nd).length:Int))) _ _=_
   rw [JV (by rw [List.length_map];omega)]
   simp [Uw]
 | a::r,p,t,e,h=>by
   have hn:L.length=p.length+r.length+1:=by rw [←e];simp;omega
   have hm:Uw (a::r)=a.txt++Uw r:=by simp [Uw]
   rw [hm,zf] at h
   have ha:=hok a (by rw [←e];simp)
   have hz:=hsz a (by rw [←e];simp)
   have step:jT.cz_ t (p.length:Int) [gr (L.map YMd.nd),A,B] some=some (t++a.txt,(Prod.fst (Rose.hQ a.nd)==(9:Int))):=by
    unfold jT.cz_
    refine jf (x:=gr (L.map YMd.nd)) (by rfl) (jf (HC e) ?_)
    cases a with
    | inv q=>
      simp only [YMd.txt,zg,zh] at h
      refine Yw (by rfl) ?_
      repeat (refine jf (jY (zo (by (try dsimp only);simp only [jK,zf,zg,zh];omega))) ?_)
      rfl
    | ctrl q=>
      simp only [YMd.txt,zg,zh] at h
      refine Jj (by rfl) (Yw (by rfl) ?_)
      repeat (refine jf (jY (zo (by (try dsimp only);simp only [jK,zf,zg,zh];omega))) ?_)
      rfl
    | pow q x=>
      have hx:x.ok:=ha
      simp only [YMd.sz] at hz
      simp only [YMd.txt,zf,zg,zh] at h
      refine Jj (by rfl) (Jj (by rfl) (jf (x:=x.nd) (by rfl) (jf (aP hx (by omega)) ?_)))
      repeat (refine jf (jY (zo (by (try dsimp only);simp only [jK,zf,zg,zh];omega))) ?_)
      rfl
   have ih:=BU (n:=n) (A:=A) (B:=B) hok hsz hl r (p++[a]) (t++a.txt) (by rw [←e];simp) (by rw [zf];omega)
   rw [zf,zq,←hm] at ih
   refine kr ?_ ih
   show jT.cb_ t (p.length:Int) [gr (L.map YMd.nd),A,B] some=_
   unfold jT.cb_
   refine jf (x:=gr (L.map YMd.nd)) (by rfl) ?_
   show br (decide ((p.length:Int)<((L.map YMd.nd).length:Int))) _ _=_
   rw [JB (by rw [List.length_map];omega)]
   refine jf step ?_
   rw [JS (by omega)]
   rfl
def PI {L:List YEx} {A B:Nd} (hok:∀x∈L,x.ok) (hsz:∀x∈L,x.sz≤50000) (hl:L.length≤50000) :
 iter (fun s:Int×List Za=>jT.cl_ s.1 [A,gr (L.map YEx.nd),B] s.2 some) ((0:Int),[])=some ((L.length:Int),L.map YEx.txt):=
 dI (n:=L.length) (L:=L) (g:=YEx.txt) (f:=fun s=>jT.cl_ s.1 [A,gr (L.map YEx.nd),B] s.2 some) L [] (fun p r a hn ⟨q,hq,e⟩=>by
  subst hq
  show jT.cl_ (p.length:Int) [A,gr (L.map YEx.nd),B] (p.map YEx.txt) some=_
  unfold jT.cl_
  refine jf (x:=gr (L.map YEx.nd)) (by rfl) ?_
  show br (decide ((p.length:Int)<((L.map YEx.nd).length:Int))) _ _=_
  rw [JB (by rw [List.length_map];omega)]
  refine jf (x:=gr (L.map YEx.nd)) (by rfl) (jf (HC e) (jf (aP (hok a (by rw [←e];simp)) (hsz a (by rw [←e];simp))) (jf (oP (by rw [List.length_map];omega)) ?_)))
  rw [JS (by omega)]
  rfl) (by
  show jT.cl_ (L.length:Int) [A,gr (L.map YEx.nd),B] (L.map YEx.txt) some=_
  unfold jT.cl_
  refine jf (x:=gr (L.map YEx.nd)) (by rfl) ?_
  show br (decide ((L.length:Int)<((L.map YEx.nd).length:Int))) _ _=_
  rw [JV (by rw [List.length_map];omega)]) rfl rfl
def PQ {L:List YRf} {A B:Nd} (hok:∀x∈L,x.ok) (hsz:∀x∈L,x.sz≤50000) (hl:L.length≤50000) :
 iter (fun s:Int×List Za=>jT.cp_ s.1 [A,B,gr (L.map YRf.nd)] s.2 some) ((0:Int),[])=some ((L.length:Int),L.map YRf.txt):=
 dI (n:=L.length) (L:=L) (g:=YRf.txt) (f:=fun s=>jT.cp_ s.1 [A,B,gr (L.map YRf.nd)] s.2 some) L [] (fun p r a hn ⟨q,hq,e⟩=>by
  subst hq
  show jT.cp_ (p.length:Int) [A,B,gr (L.map YRf.nd)] (p.map YRf.txt) some=_
  unfold jT.cp_
  refine jf (x:=gr (L.map YRf.nd)) (by rfl) ?_
  show br (decide ((p.length:Int)<((L.map YRf.nd).length:Int))) _ _=_
  rw [JB (by rw [List.length_map];omega)]
  refine jf (x:=gr (L.map YRf.nd)) (by rfl) (jf (HC e) (jf (fN (hok a (by rw [←e];simp)) (hsz a (by rw [←e];simp))) (jf (oP (by rw [List.length_map];omega)) ?_)))
  rw [JS (by omega)]
  rfl) (by
  show jT.cp_ (L.length:Int) [A,B,gr (L.map YRf.nd)] (L.map YRf.txt) some=_
  unfold jT.cp_
  refine jf (x:=gr (L.map YRf.nd)) (by rfl) ?_
  show br (decide ((L.length:Int)<((L.map YRf.nd).length:Int))) _ _=_
  rw [JV (by rw [List.length_map];omega)]) rfl rfl
def K9 {p:Int} {w:Za} {mods:List YMd} {args:List YEx} {refs:List YRf} (h:(YSt.app p w mods args refs).ok) (hs:(YSt.app p w mods args refs).sz≤50000) :
 jT (YSt.app p w mods args refs).nd=some (gT mods w args refs):=by
 have hall:=sE (w:=w) (mods:=mods) (args:=args) (refs:=refs) h
 simp only [YSt.sz] at hs hall
 have hm:=NI YMd.sz_pos mods
 have ha:=NI YEx.sz_pos args
 have hr:=NI YRf.sz_pos refs
 have hL:(gT mods w args refs).length=(Uw mods).length+w.length+(aU args).length+(fA refs).length+1:=by simp [gT];omega
 have c1:=NA YEx.txt_le args h.2.2.1
 have c2:=NA YRf.txt_le refs h.2.2.2
 have h0:w.length≤40000:=h.1.1
 unfold jT
 have k1:=BU (n:=vY) (A:=gr (args.map YEx.nd)) (B:=gr (refs.map YRf.nd)) h.2.1 (bL (by omega)) (by omega) mods [] [] rfl (by simp only [zh];omega)
 refine jf k1 ?_
 refine jf (jY (zo (show (Uw mods).length+w.length≤_ by omega))) ?_
 refine jf (PI (A:=gr (mods.map YMd.nd)) (B:=gr (refs.map YRf.nd)) h.2.2.1 (bL (by omega)) (by omega)) (jf (PQ (A:=gr (mods.map YMd.nd)) (B:=gr (args.map YEx.nd)) h.2.2.2 (bL (by omega)) (by omega)) ?_)
 have k2:jT.cad_ (Uw mods++w) (args.map YEx.txt) some=some (Uw mods++w++aU args):=by
  unfold jT.cad_
  rw [List.length_map]
  cases args with
  | nil=>rw [JV (by simp)];simp [aU]
  | cons x l=>
    rw [JB (by simp)]
    refine jf (tE (by rw [List.length_map];omega) (by omega)) ?_
    repeat (refine jf (jY (zo (by (try dsimp only);simp only [jK,zf,zg,zh];omega))) ?_)
    simp [aU,jK]
 refine jf k2 ?_
 have k3:jT.cae_ (Uw mods++w++aU args) (refs.map YRf.txt) some=some (Uw mods++w++aU args++fA refs):=by
  unfold jT.cae_
  rw [List.length_map]
  cases refs with
  | nil=>rw [JV (by simp)];simp [fA]
  | cons x l=>
    rw [JB (by simp)]
    refine jf (tE (by rw [List.length_map];omega) (by omega)) ?_
    repeat (refine jf (jY (zo (by (try dsimp only);simp only [jK,zf,zg,zh];omega))) ?_)
    simp [fA,jK]
 refine jf k3 ?_
 repeat (refine jf (jY (zo (by (try dsimp only);simp only [jK,zf,zg,zh];omega))) ?_)
 simp [gT,jK]
end W
end

section
set_option maxRecDepth 100000
set_option maxHeartbeats 800000
namespace W
open Go Go.Ql Go.Proofs
def G3 (d:Nat):Yb d++[9]=Yb (d+1):=by simp [Yb,List.replicate_succ']
noncomputable abbrev EL (m:Nat) (n:Nd) (t:Za):=(Uh.fuel m).F_R_stmtText_b (n,t,())
noncomputable abbrev RBm (m:Nat) (n:Nd) (t:Za):=(Uh.fuel m).F_R_blockText_b (n,t,())
def gF (d:Nat) (s:YSt):Za:=Yb d++s.txt d++[10]
def wI {m d:Nat} {L:List Nd} (hL:L.length≤1000000):∀(b:YSts) (p:List Nd) (t:Za),p++b.nds=L→b.ok→d+1+b.sz≤50000 →
 (∀(s:YSt),(∃u v,b=YSts.app u (.cons s v))→EL m s.nd (Yb (d+1))=some (gF (d+1) s,()))→t.length+200000*b.sz≤90000000000 →
 iter (fun s:Za×Int=>@Js.cb_ (Uh.fuel m) _ (Yb d) s.1 s.2 L some) (t,(p.length:Int))=some (t++b.lines (d+1),(L.length:Int))
 | .nil,p,t,e,_,_,_,h=>by
   have:p=L:=by simpa [YSts.nds] using e
   subst this
   refine kD ?_
   show @Js.cb_ (Uh.fuel m) _ (Yb d) t (p.length:Int) p some=_
   unfold Js.cb_
   rw [JV (by omega)]
   simp [YSts.lines]
 | .cons s l,p,t,e,hok,hd,hs,h=>by
   simp only [YSts.nds] at e
   simp only [YSts.sz] at h hd
   have hn:L.length=p.length+l.nds.length+1:=by rw [←e];simp;omega
   have hx:=s.txt_le (d+1) hok.1 (by omega)
   have h1:=hs s ⟨.nil,l,rfl⟩
   have hlen:(gF (d+1) s).length=d+1+(s.txt (d+1)).length+1:=by simp [gF,VW];omega
   have h2:=wI hL l (p++[s.nd]) (t++gF (d+1) s) (by rw [←e];simp) hok.2 (by omega) (fun s' ⟨u,v,he⟩=>hs s' ⟨.cons s u,v,by rw [he];rfl⟩) (by rw [zf];omega)
   have e3:t++gF (d+1) s++l.lines (d+1)=t++(YSts.cons s l).lines (d+1):=by simp [YSts.lines,gF]
   rw [zf,e3] at h2
   refine kr ?_ h2
   show @Js.cb_ (Uh.fuel m) _ (Yb d) t (p.length:Int) L some=_
   unfold Js.cb_
   rw [JB (by omega)]
   have hi:idx L (p.length:Int)=some s.nd:=by rw [HD (show p.length<L.length by omega)];subst e;simp
   have h3:EL m s.nd (Yb d++[9])=some (gF (d+1) s,()):=by rw [G3];exact h1
   have ht:=VW d
   refine jf hi ?_
   repeat (refine jf (jY (zo (by (try dsimp only);first | omega | (simp only [jK,zf,zg,zh];omega)))) ?_)
   refine jf h3 ?_
   repeat (refine jf (jY (zo (by (try dsimp only);first | omega | (simp only [jK,zf,zg,zh];omega)))) ?_)
   rw [JS (by omega)]
   rfl
def wD {m d:Nat} {q:Int} {b:YSts} (hok:b.ok) (hb:d+1+b.sz≤50000)
 (hs:∀(s:YSt),s.ok→s.sz≤b.sz→EL m s.nd (Yb (d+1))=some (gF (d+1) s,())):RBm (m+1) (Yh 7 q b.nds) (Yb d)=some (Ho d b,()):=by
 show @Js (Uh.fuel m) (Yh 7 q b.nds) (Yb d)=_
 have hl:=b.len
 have hll:=b.lines_le (d+1) hok (by omega)
 have ht:=VW d
 unfold Js
 have h2:=wI (m:=m) (d:=d) (L:=b.nds) (by omega) b [] [123,10] rfl hok hb (fun s ⟨u,v,e⟩=>hs s (lU e hok).1 (lU e hok).2) (by simp only [zg,zh];omega)
 refine jf h2 ?_
 repeat (refine jf (jY (zo (by (try dsimp only);first | omega | (simp only [jK,zf,zg,zh];omega)))) ?_)
 simp [Ho,jK]
def lB {m d:Nat} {x:Nd} {t v:Za} (hl:t.length≤90000000000) (e:v=t++[10]) (h:∀h l,x=.mk h l → @jl.cq_ (Uh.fuel m) _ (Yb d) (Yb d) h.1 h.2.1 h.2.2.1 h.2.2.2 l some=some t):EL (m+1) x (Yb d)=some (v,()):=by
 cases x with
 | mk hd l=>
 show @jl (Uh.fuel m) (.mk hd l) (Yb d)=_
 unfold jl
 refine jf (h hd l rfl) ?_
 repeat (refine jf (jY (zo (by (try dsimp only);first | omega | (simp only [jK,zf,zg,zh];omega)))) ?_)
 rw [e]
def tN:∀(N:Nat) (x:YSt),x.sz≤N→x.ok → ∀(m d:Nat),2*x.sz≤m→d+x.sz≤50000→EL m x.nd (Yb d)=some (gF d x,()):=by
 intro N
 induction N with
 | zero=>intro x hx;have:=x.sz_pos;omega
 | succ N ih=>
   intro x hx hok m d hm hd
   have kV:∀(m:Nat) (q:Int) (b:YSts),b.ok→b.sz<x.sz→2*b.sz≤m→RBm (m+1) (Yh 7 q b.nds) (Yb d)=some (Ho d b,()):=by
    intro m q b hb hlt hm
    exact wD hb (by omega) (fun s h1 h2=>ih s (by omega) h1 m (d+1) (by omega) (by omega))
   have hp:=x.sz_pos
   obtain ⟨m,rfl⟩:∃n,m=n+2:=⟨m-2,by omega⟩
   have hle:=x.txt_le d hok (by omega)
   have ht:=VW d
   refine lB (t:=Yb d++x.txt d) (by rw [zf];omega) rfl ?_
   intro h l hx0
   cases x with
   | forS p w lo hi q b=>
     injection hx0 with e1 e2;subst e1;subst e2
     simp only [YSt.sz] at hm hd kV hx
     have h0:w.length≤40000:=hok.1.1
     have h1:=lo.txt_le hok.2.1
     have h2:=hi.txt_le hok.2.2.1
     have hb:=Nz (d:=d) hok.2.2.2 (by omega)
     unfold jl.cq_
     refine jf (x:=false) (by rfl) (Jj rfl (Jj (by rfl) (Jj (by rfl) (Jj (by rfl) (Yw (by rfl) (jf (x:=Yb d++(YSt.forS p w lo hi q b).txt d) ?_ rfl))))))
     unfold jl.c14
     repeat (refine jf (jY (zo (by (try dsimp only);first | omega | (simp only [jK,zf,zg,zh];omega)))) ?_)
     refine jf (x:=lo.nd) (by rfl) (jf (aP hok.2.1 (by omega)) ?_)
     repeat (refine jf (jY (zo (by (try dsimp only);first | omega | (simp only [jK,zf,zg,zh];omega)))) ?_)
     refine jf (x:=hi.nd) (by rfl) (jf (aP hok.2.2.1 (by omega)) ?_)
     repeat (refine jf (jY (zo (by (try dsimp only);first | omega | (simp only [jK,zf,zg,zh];omega)))) ?_)
     refine jf (x:=Yh 7 q b.nds) (by rfl) (jf (kV m q b hok.2.2.2 (by omega) (by omega)) ?_)
     repeat (refine jf (jY (zo (by (try dsimp only);first | omega | (simp only [jK,zf,zg,zh];omega)))) ?_)
     simp [YSt.txt,Ho,jK]
   | whenS p e q b=>
     injection hx0 with e1 e2;subst e1;subst e2
     simp only [YSt.sz] at hm hd kV hx
     have h1:=e.txt_le hok.1
     have hb:=Nz (d:=d) hok.2 (by omega)
     unfold jl.cq_
     refine jf (x:=false) (by rfl) (Jj rfl (Jj (by rfl) (Jj (by rfl) (Jj (by rfl) (Jj (by rfl) (Yw (by rfl) (jf (x:=Yb d++(YSt.whenS p e q b).txt d) ?_ rfl)))))))
     unfold jl.c16
     refine jf (x:=e.nd) (by rfl) (jf (aP hok.1 (by omega)) ?_)
     repeat (refine jf (jY (zo (by (try dsimp only);first | omega | (simp only [jK,zf,zg,zh];omega)))) ?_)
     refine jf (x:=Yh 7 q b.nds) (by rfl) (jf (kV m q b hok.2 (by omega) (by omega)) ?_)
     repeat (refine jf (jY (zo (by (try dsimp only);first | omega | (simp only [jK,zf,zg,zh];omega)))) ?_)
     simp [YSt.txt,Ho,jK]
   | ifS p no r q b=>
     injection hx0 with e1 e2;subst e1;subst e2
     simp only [YSt.sz] at hm hd kV hx
     have h1:=r.txt_le hok.1
     have hb:=Nz (d:=d) hok.2 (by omega)
     have hno:(if no=true then [33] else []:Za).length≤1:=by split<;>simp
     unfold jl.cq_
     refine jf (x:=false) (by rfl) (Jj rfl (Jj (by rfl) (Jj (by rfl) (Jj (by rfl) (Jj (by rfl) (Jj (by rfl) (Yw (by rfl) ?_)))))))
     repeat (refine jf (jY (zo (by (try dsimp only);first | omega | (simp only [jK,zf,zg,zh];omega)))) ?_)
     have k2:jl.cU_ (Yb d++[105,102,32]) (if no=true then 1 else 0) some=some (Yb d++[105,102,32]++(if no then [33] else [])):=by
      unfold jl.cU_
      cases no with
      | true=>
        refine Yw (by rfl) ?_
        repeat (refine jf (jY (zo (by (try dsimp only);first | omega | (simp only [jK,zf,zg,zh];omega)))) ?_)
        rfl
      | false=>exact Jj (by rfl) (by simp)
     refine jf k2 ?_
     have k3:@jl.c21 (Uh.fuel (m+1)) _ (Yb d) (Yb d++[105,102,32]++(if no then [33] else [])) [r.nd,Yh 7 q b.nds] some=some (Yb d++[105,102,32]++(if no then [33] else [])++(r.txt++[32]++Ho d b)):=by
      unfold jl.c21
      refine jf (x:=r.nd) (by rfl) (jf (fN hok.1 (by omega)) ?_)
      repeat (refine jf (jY (zo (by (try dsimp only);first | omega | (simp only [jK,zf,zg,zh];omega)))) ?_)
      refine jf (x:=Yh 7 q b.nds) (by rfl) (jf (kV m q b hok.2 (by omega) (by omega)) ?_)
      repeat (refine jf (jY (zo (by (try dsimp only);first | omega | (simp only [jK,zf,zg,zh];omega)))) ?_)
      rfl
     refine jf k3 (Jj (by rfl) ?_)
     simp [YSt.txt,Ho]
   | ifE p no r q b q2 c=>
     injection hx0 with e1 e2;subst e1;subst e2
     simp only [YSt.sz] at hm hd kV hx
     have h1:=r.txt_le hok.1
     have hb:=Nz (d:=d) hok.2.1 (by omega)
     have hc:=Nz (d:=d) hok.2.2 (by omega)
     have hno:(if no=true then [33] else []:Za).length≤1:=by split<;>simp
     unfold jl.cq_
     refine jf (x:=false) (by rfl) (Jj rfl (Jj (by rfl) (Jj (by rfl) (Jj (by rfl) (Jj (by rfl) (Jj (by rfl) (Yw (by rfl) ?_)))))))
     repeat (refine jf (jY (zo (by (try dsimp only);first | omega | (simp only [jK,zf,zg,zh];omega)))) ?_)
     have k2:jl.cU_ (Yb d++[105,102,32]) (if no=true then 1 else 0) some=some (Yb d++[105,102,32]++(if no then [33] else [])):=by
      unfold jl.cU_
      cases no with
      | true=>
        refine Yw (by rfl) ?_
        repeat (refine jf (jY (zo (by (try dsimp only);first | omega | (simp only [jK,zf,zg,zh];omega)))) ?_)
        rfl
      | false=>exact Jj (by rfl) (by simp)
     refine jf k2 ?_
     have k3:@jl.c21 (Uh.fuel (m+1)) _ (Yb d) (Yb d++[105,102,32]++(if no then [33] else [])) [r.nd,Yh 7 q b.nds,Yh 7 q2 c.nds] some=some (Yb d++[105,102,32]++(if no then [33] else [])++(r.txt++[32]++Ho d b)):=by
      unfold jl.c21
      refine jf (x:=r.nd) (by rfl) (jf (fN hok.1 (by omega)) ?_)
      repeat (refine jf (jY (zo (by (try dsimp only);first | omega | (simp only [jK,zf,zg,zh];omega)))) ?_)
      refine jf (x:=Yh 7 q b.nds) (by rfl) (jf (kV m q b hok.2.1 (by omega) (by omega)) ?_)
      repeat (refine jf (jY (zo (by (try dsimp only);first | omega | (simp only [jK,zf,zg,zh];omega)))) ?_)
      rfl
     refine jf k3 (Yw (by rfl) (jf (x:=Yh 7 q2 c.nds) (by rfl) (jf (kV m q2 c hok.2.2 (by omega) (by omega)) ?_)))
     repeat (refine jf (jY (zo (by (try dsimp only);first | omega | (simp only [jK,zf,zg,zh];omega)))) ?_)
     simp [YSt.txt,Ho,jK]
   | meas p a b=>
     injection hx0 with e1 e2;subst e1;subst e2
     simp only [YSt.sz] at hm hd kV hx
     have h1:=a.txt_le hok.1
     have h2:=b.txt_le hok.2
     unfold jl.cq_
     refine jf (x:=false) (by rfl) (Jj rfl (Jj (by rfl) (Jj (by rfl) (Jj (by rfl) (Jj (by rfl) (Jj (by rfl) (Jj (by rfl) (Yw (by rfl) (jf (x:=Yb d++(YSt.meas p a b).txt d) ?_ rfl)))))))))
     unfold jl.c25
     refine jf (x:=a.nd) (by rfl) (jf (fN hok.1 (by omega)) ?_)
     repeat (refine jf (jY (zo (by (try dsimp only);first | omega | (simp only [jK,zf,zg,zh];omega)))) ?_)
     refine jf (x:=b.nd) (by rfl) (jf (fN hok.2 (by omega)) ?_)
     repeat (refine jf (jY (zo (by (try dsimp only);first | omega | (simp only [jK,zf,zg,zh];omega)))) ?_)
     simp [YSt.txt,jK]
   | reset p a=>
     injection hx0 with e1 e2;subst e1;subst e2
     simp only [YSt.sz] at hm hd kV hx
     have h1:=a.txt_le hok
     unfold jl.cq_
     refine jf (x:=false) (by rfl) (Jj rfl (Jj (by rfl) (Jj (by rfl) (Jj (by rfl) (Jj (by rfl) (Jj (by rfl) (Jj (by rfl) (Jj (by rfl) (Yw (by rfl) ?_)))))))))
     refine jf (x:=a.nd) (by rfl) (jf (fN hok (by omega)) ?_)
     repeat (refine jf (jY (zo (by (try dsimp only);first | omega | (simp only [jK,zf,zg,zh];omega)))) ?_)
     simp [YSt.txt,jK]
   | within p q a q2 b=>
     injection hx0 with e1 e2;subst e1;subst e2
     simp only [YSt.sz] at hm hd kV hx
     have hb:=Nz (d:=d) hok.1 (by omega)
     have hc:=Nz (d:=d) hok.2 (by omega)
     unfold jl.cq_
     refine jf (x:=false) (by rfl) (Jj rfl (Jj (by rfl) (Jj (by rfl) (Jj (by rfl) (Jj (by rfl) (Jj (by rfl) (Jj (by rfl) (Jj (by rfl) (Jj (by rfl) (Yw (by rfl) (jf (x:=Yb d++(YSt.within p q a q2 b).txt d) ?_ rfl)))))))))))
     unfold jl.c29
     refine jf (x:=Yh 7 q a.nds) (by rfl) (jf (kV m q a hok.1 (by omega) (by omega)) ?_)
     repeat (refine jf (jY (zo (by (try dsimp only);first | omega | (simp only [jK,zf,zg,zh];omega)))) ?_)
     refine jf (x:=Yh 7 q2 b.nds) (by rfl) (jf (kV m q2 b hok.2 (by omega) (by omega)) ?_)
     repeat (refine jf (jY (zo (by (try dsimp only);first | omega | (simp only [jK,zf,zg,zh];omega)))) ?_)
     simp [YSt.txt,Ho,jK]
   | flip p r e=>
     injection hx0 with e1 e2;subst e1;subst e2
     simp only [YSt.sz] at hm hd kV hx
     have h1:=r.txt_le hok.1
     have h2:=e.txt_le hok.2
     unfold jl.cq_
     refine jf (x:=false) (by rfl) (Jj rfl (Jj (by rfl) (Jj (by rfl) (Jj (by rfl) (Jj (by rfl) (Jj (by rfl) (Jj (by rfl) (Jj (by rfl) (Jj (by rfl) (Jj (by rfl) (jf (x:=Yb d++(YSt.flip p r e).txt d) ?_ rfl)))))))))))
     unfold jl.c30
     refine jf (x:=r.nd) (by rfl) (jf (fN hok.1 (by omega)) ?_)
     repeat (refine jf (jY (zo (by (try dsimp only);first | omega | (simp only [jK,zf,zg,zh];omega)))) ?_)
     refine jf (x:=e.nd) (by rfl) (jf (LJ hok.2 (by omega)) ?_)
     repeat (refine jf (jY (zo (by (try dsimp only);first | omega | (simp only [jK,zf,zg,zh];omega)))) ?_)
     simp [YSt.txt,jK]
   | app p w mods args refs=>
     injection hx0 with e1 e2;subst e1;subst e2
     have hd':(YSt.app p w mods args refs).sz≤50000:=by omega
     have k:=K9 (p:=p) hok hd'
     have hall:=sE (w:=w) (mods:=mods) (args:=args) (refs:=refs) hok
     have hal:(YSt.app 0 w mods args refs).sz≤50000:=hd'
     unfold jl.cq_
     refine jf (x:=false) (by rfl) (Jj rfl (Jj (by rfl) (Jj (by rfl) (Yw (by rfl) (jf k ?_)))))
     repeat (refine jf (jY (zo (by (try dsimp only);first | omega | (simp only [jK,zf,zg,zh];omega)))) ?_)
     rfl
end W
end

section
set_option maxRecDepth 100000
set_option maxHeartbeats 800000
namespace W
open Go Go.Ql Go.Proofs
def PN {L:List (Int×Za)} {A B:Nd} (hl:L.length≤50000) :
 iter (fun s:Int×List Za=>Jt.cb_ s.1 [gr (L.map UV),A,B] s.2 some) ((0:Int),[])=some ((L.length:Int),L.map fun x=>x.2):=
 dI (n:=L.length) (L:=L) (g:=fun x:Int×Za=>x.2) (f:=fun s=>Jt.cb_ s.1 [gr (L.map UV),A,B] s.2 some) L [] (fun p r a hn ⟨q,hq,e⟩=>by
  subst hq
  show Jt.cb_ (p.length:Int) [gr (L.map UV),A,B] (p.map fun x=>x.2) some=_
  unfold Jt.cb_
  refine jf (x:=gr (L.map UV)) (by rfl) ?_
  show br (decide ((p.length:Int)<((L.map UV).length:Int))) _ _=_
  rw [JB (by rw [List.length_map];omega)]
  refine jf (x:=gr (L.map UV)) (by rfl) (jf (HC e) (jf (oP (by rw [List.length_map];omega)) ?_))
  rw [JS (by omega)]
  rfl) (by
  show Jt.cb_ (L.length:Int) [gr (L.map UV),A,B] (L.map fun x=>x.2) some=_
  unfold Jt.cb_
  refine jf (x:=gr (L.map UV)) (by rfl) ?_
  show br (decide ((L.length:Int)<((L.map UV).length:Int))) _ _=_
  rw [JV (by rw [List.length_map];omega)]) rfl rfl
def LM {L:List (Int×Za×Bool)} {A B:Nd} (hok:∀x∈L,x.2.1.length≤40000) (hl:L.length≤50000) :
 iter (fun s:Int×List Za=>Jt.cg_ s.1 [A,gr (L.map UR),B] s.2 some) ((0:Int),[])=some ((L.length:Int),L.map cB):=
 dI (n:=L.length) (L:=L) (g:=cB) (f:=fun s=>Jt.cg_ s.1 [A,gr (L.map UR),B] s.2 some) L [] (fun p r a hn ⟨q,hq,e⟩=>by
  subst hq
  show Jt.cg_ (p.length:Int) [A,gr (L.map UR),B] (p.map cB) some=_
  have ha:=hok a (by rw [←e];simp)
  unfold Jt.cg_
  refine jf (x:=gr (L.map UR)) (by rfl) ?_
  show br (decide ((p.length:Int)<((L.map UR).length:Int))) _ _=_
  rw [JB (by rw [List.length_map];omega)]
  refine jf (x:=gr (L.map UR)) (by rfl) (jf (HC e) ?_)
  have step:Jt.cE_ (p.length:Int) a.2.1 [A,gr (L.map UR),B] some=some (cB a,(Prod.snd (Prod.snd (Prod.snd (Rose.hQ (UR a))))==(1:Int))):=by
   unfold Jt.cE_
   refine jf (x:=gr (L.map UR)) (by rfl) (jf (HC e) ?_)
   obtain ⟨x,w,b⟩:=a
   have ha:w.length≤40000:=ha
   cases b with
   | true=>
     refine Yw (by rfl) ?_
     repeat (refine jf (jY (zo (by (try dsimp only);first | omega | (simp only [jK,zf,zg,zh];omega)))) ?_)
     rfl
   | false=>exact Jj (by rfl) rfl
  refine jf step (jf (oP (by rw [List.length_map];omega)) ?_)
  rw [JS (by omega)]
  rfl) (by
  show Jt.cg_ (L.length:Int) [A,gr (L.map UR),B] (L.map cB) some=_
  unfold Jt.cg_
  refine jf (x:=gr (L.map UR)) (by rfl) ?_
  show br (decide ((L.length:Int)<((L.map UR).length:Int))) _ _=_
  rw [JV (by rw [List.length_map];omega)]) rfl rfl
def PM {p q:Int} {w:Za} {ints:List (Int×Za)} {wires:List (Int×Za×Bool)} {b:YSts} (h:(YIt.gate p w ints wires q b).ok) (hs:(YIt.gate p w ints wires q b).sz≤49000) :
 Jt (YIt.gate p w ints wires q b).nd=some ([103,97,116,101,32]++w++Nu ints++[32]++Vq (wires.map cB)++[32]):=by
 simp only [YIt.sz] at hs
 have h0:w.length≤40000:=h.1.1
 have h1:=NA (f:=fun x:Int×Za=>x.2) (z:=fun _=>1) (fun a ha=>EE ha) ints h.2.1
 rw [qI] at h1
 have h2:=NA (f:=cB) (z:=mZ) (fun a ha=>EF ha) wires h.2.2.1
 have hw:=NI zG wires
 have h4:(Nu ints).length≤2+(Vq (ints.map fun x=>x.2)).length:=by unfold Nu;split<;>simp;omega
 unfold Jt
 refine jf (PN (A:=gr (wires.map UR)) (B:=Yh 7 q b.nds) (by omega)) (jf (LM (A:=gr (ints.map UV)) (B:=Yh 7 q b.nds) (fun y hy=>(h.2.2.1 y hy).1) (by omega)) ?_)
 refine jf (jY (zo (show ([103,97,116,101,32]:Za).length+w.length≤_ by simp only [zg,zh];omega))) ?_
 have k1:Jt.cs_ ([103,97,116,101,32]++w) (ints.map fun x=>x.2) some=some ([103,97,116,101,32]++w++Nu ints):=by
  unfold Jt.cs_
  rw [List.length_map]
  cases ints with
  | nil=>rw [JV (by simp)];simp [Nu]
  | cons x l=>
    rw [JB (by simp)]
    refine jf (tE (by rw [List.length_map];omega) (by omega)) ?_
    repeat (refine jf (jY (zo (by (try dsimp only);first | omega | (simp only [jK,zf,zg,zh];omega)))) ?_)
    simp [Nu,jK]
 refine jf k1 ?_
 repeat (refine jf (jY (zo (by (try dsimp only);first | omega | (simp only [jK,zf,zg,zh];omega)))) ?_)
 refine jf (tE (L:=wires.map cB) (by rw [List.length_map];omega) (by omega)) ?_
 repeat (refine jf (jY (zo (by (try dsimp only);first | omega | (simp only [jK,zf,zg,zh];omega)))) ?_)
 rfl
def PO {x:YIt} (h:x.ok) (hs:x.sz≤49000):HX (x.nd,[],())=some (x.txt++[10],()):=by
 have hle:=C1 x h hs
 cases x with
 | st s=>
   have hs:s.sz≤49000:=hs
   exact tN s.sz s (zx _) h 1000000 0 (by omega) (by omega)
 | decl bit p w e=>
   refine lB (m:=999999) (d:=0) (t:=(YIt.decl bit p w e).txt) (by omega) rfl ?_
   intro hd l hx0
   injection hx0 with e1 e2;subst e1;subst e2
   simp only [YIt.sz] at hs
   have h0:w.length≤40000:=h.1.1
   have h1:=e.txt_le h.2
   unfold jl.cq_
   have h2:(if bit=true then [98,105,116,32] else [113,117,98,105,116,32]:Za).length≤6:=by split<;>simp
   have k2:jl.c6 (if bit=true then [98,105,116,32] else [113,117,98,105,116,32]) w [e.nd] some=some (YIt.decl bit p w e).txt:=by
    unfold jl.c6
    repeat (refine jf (jY (zo (by (try dsimp only);first | omega | (simp only [jK,zf,zg,zh];omega)))) ?_)
    refine jf (x:=e.nd) (by rfl) (jf (aP h.2 (by omega)) ?_)
    repeat (refine jf (jY (zo (by (try dsimp only);first | omega | (simp only [jK,zf,zg,zh];omega)))) ?_)
    simp [YIt.txt,jK]
   cases bit with
   | true=>exact jf (x:=true) (by rfl) (Yw rfl (jf (x:=[98,105,116,32]) (by rfl) (jf k2 rfl)))
   | false=>exact jf (x:=true) (by rfl) (Yw rfl (jf (x:=[113,117,98,105,116,32]) (by rfl) (jf k2 rfl)))
 | const p w e=>
   refine lB (m:=999999) (d:=0) (t:=(YIt.const p w e).txt) (by omega) rfl ?_
   intro hd l hx0
   injection hx0 with e1 e2;subst e1;subst e2
   simp only [YIt.sz] at hs
   have h0:w.length≤40000:=h.1.1
   have h1:=e.txt_le h.2
   unfold jl.cq_
   refine jf (x:=false) (by rfl) (Jj rfl (Yw (by rfl) (jf (x:=(YIt.const p w e).txt) ?_ rfl)))
   unfold jl.c8
   repeat (refine jf (jY (zo (by (try dsimp only);first | omega | (simp only [jK,zf,zg,zh];omega)))) ?_)
   refine jf (x:=e.nd) (by rfl) (jf (aP h.2 (by omega)) ?_)
   have ht:=VW 0
   repeat (refine jf (jY (zo (by (try dsimp only);first | omega | (simp only [jK,zf,zg,zh];omega)))) ?_)
   simp [YIt.txt,jK,Yb]
 | gate p w ints wires q b=>
   refine lB (m:=999999) (d:=0) (t:=(YIt.gate p w ints wires q b).txt) (by omega) rfl ?_
   intro hd l hx0
   injection hx0 with e1 e2;subst e1;subst e2
   have hb:b.sz≤49000:=by simp only [YIt.sz] at hs;omega
   have hg:=PM h hs
   have hbl:=Nz (d:=0) (b:=b) h.2.2.2.2 (by omega)
   have k1:=wD (m:=999998) (d:=0) (q:=q) (b:=b) h.2.2.2.2 (by omega) (fun s h1 h2=>tN s.sz s (zx _) h1 999998 1 (by omega) (by omega))
   have hlen:(YIt.gate p w ints wires q b).txt=([103,97,116,101,32]++w++Nu ints++[32]++Vq (wires.map cB)++[32])++Ho 0 b:=by simp [YIt.txt]
   rw [hlen] at hle ⊢
   rw [zf] at hle
   unfold jl.cq_
   refine jf (x:=false) (by rfl) (Jj rfl (Jj (by rfl) (Yw (by rfl) (jf (x:=([103,97,116,101,32]++w++Nu ints++[32]++Vq (wires.map cB)++[32])++Ho 0 b) ?_ rfl))))
   unfold jl.c10
   refine jf hg (jf (x:=Yh 7 q b.nds) (by rfl) (jf k1 ?_))
   generalize [103,97,116,101,32]++w++Nu ints++[32]++Vq (wires.map cB)++[32]=g at hle ⊢
   have ht:=VW 0
   repeat (refine jf (jY (zo (by (try dsimp only);first | omega | (simp only [jK,zf,zg,zh];omega)))) ?_)
   simp [Yb]
def rA {L:List YIt} (hok:∀x∈L,x.ok) (hsz:∀x∈L,x.sz≤49000) (hl:L.length≤1000000):∀(r p:List YIt) (t:Za),p++r=L→t.length+200000*VT YIt.sz r≤90000000000 →
 iter (fun s:Za×Int=>Yl.cb_ s.1 s.2 (L.map YIt.nd) some) (t,(p.length:Int))=some (t++Nv r,(L.length:Int))
 | [],p,t,e,h=>by
   have:p=L:=by simpa using e
   subst this
   refine kD ?_
   show Yl.cb_ t (p.length:Int) (p.map YIt.nd) some=_
   unfold Yl.cb_
   rw [JV (by rw [List.length_map];omega)]
   simp [Nv]
 | a::r,p,t,e,h=>by
   have hn:L.length=p.length+r.length+1:=by rw [←e];simp;omega
   have hz:VT YIt.sz (a::r)=a.sz+VT YIt.sz r:=by simp [VT]
   rw [hz] at h
   have ha:=hok a (by rw [←e];simp)
   have has:=hsz a (by rw [←e];simp)
   have hle:=C1 a ha has
   have ih:=rA hok hsz hl r (p++[a]) (t++(a.txt++[10])) (by rw [←e];simp) (by simp only [zf,zg,zh];omega)
   have e3:t++(a.txt++[10])++Nv r=t++Nv (a::r):=by simp [Nv]
   rw [zf,e3] at ih
   refine kr ?_ ih
   show Yl.cb_ t (p.length:Int) (L.map YIt.nd) some=_
   unfold Yl.cb_
   rw [JB (by rw [List.length_map];omega)]
   refine jf (HC e) (jf (PO ha has) ?_)
   repeat (refine jf (jY (zo (by (try dsimp only);first | omega | (simp only [jK,zf,zg,zh];omega)))) ?_)
   rw [JS (by omega)]
   rfl
def LG {L:List YIt} (hok:∀x∈L,x.ok) (hs:VT YIt.sz L≤49000):Yl (prog L)=some (Nv L):=by
 unfold Yl
 have hl:=NI YIt.sz_pos L
 have h:=rA hok (bL hs) (by omega) L [] [] rfl (by simp only [zh];omega)
 exact jf h rfl
def IM:List YIt:=[.st (.app 0 [104] [] [] [.idx 2 [113] (.num 6 2)])]
def IN:aZ [104,32,113,32,91,32,50,32,93,32,59]=(prog IM,(0,0)):=by kernel_rfl
def OI:Nv IM=[104,32,113,91,50,93,59,10]:=by kernel_rfl
def QD:∀x∈IM,YIt.ok x:=by
 intro x hx
 rw [List.mem_singleton.1 hx]
 have hn:∀c:UInt8,YY c=true→keysT.elem [c]=false→Us [c]:=fun c h1 h2=>⟨by simp,h2,c,[],rfl,h1,by simp⟩
 refine ⟨hn 104 (by decide) (by kernel_rfl),(fun _ h=>by cases h),(fun _ h=>by cases h),fun r hr=>?_⟩
 rw [List.mem_singleton.1 hr]
 exact ⟨hn 113 (by decide) (by kernel_rfl),by decide,by decide⟩
def EQ:kP=some true:=by
 unfold kP
 have e:=v8 [104,32,113,32,91,32,50,32,93,32,59]
 rw [IN] at e
 refine jf e (jf (x:=true) ?_ rfl)
 unfold kP.c2
 refine Yw (by rfl) (jf (zH QD (by decide)) ?_)
 rw [OI]
 rfl
def prints_law (text:Za):kZ text=some true:=by
 unfold kZ
 refine jf (v8 text) (jf EQ (Jj rfl ?_))
 have hrp:=DS text
 rcases D0 text with ⟨L,hok,hsz,_,_,e⟩ | ⟨e1,e2⟩
 ·rw [e] at hrp ⊢
  refine Jj (by rfl) (jf hrp (jf (x:=true) ?_ rfl))
  unfold kZ.c7
  have hp:=zH hok (by omega)
  have hr:=LG hok (by omega)
  refine jf hp (jf hr (Yw (by simp) (jf hp (jf hr ?_))))
  simp
 ·refine Yw (by simpa using e2) ?_
  have hs:=PR (p:=true) noN_sho.refl
  have h:(Rose.mk (Prod.fst (Rose.hQ (Prod.fst (aZ text))),Prod.fst (Prod.snd (Rose.hQ (Prod.fst (aZ text)))),Prod.fst (Prod.snd (Prod.snd (Rose.hQ (Prod.fst (aZ text))))),Prod.snd (Prod.snd (Prod.snd (Rose.hQ (Prod.fst (aZ text)))))) (Rose.kQ (Prod.fst (aZ text))))=vY:=by rw [e1];rfl
  refine jf (x:=(true,())) ?_ rfl
  rw [h]
  exact hs
end W
end
