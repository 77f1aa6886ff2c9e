/- Plain laws: what is read is a program; how it is written. -/
import Derived.Test.YtdocfkidnnalnaaGreatDoorPaB
import Derived.Test.YtdocfkidnnalnaaGreatDoorWcB
import Derived.Test.YtdocfkidnnalnaaGreatDoorWdB
import Derived.Test.YtdocfkidnnalnaaGreatDoorPbB
import Derived.Lib.Join
import Derived.Lib.ItoaNum
set_option linter.all false
section
namespace Go.Ql
def kT (w:Z6):Prop:=w.length≤40000∧keysT.elem w=false ∧ ∃c r,w=c::r∧lettr c=true ∧ ∀d∈r,(lettr d||digt d)=true
inductive YEx where
 | num (p v:Int) | name (p:Int) (w:Z6) | size (p:Int) (w:Z6) | neg (p:Int) (a:YEx) | bin (p:Int) (w:Z6) (a b:YEx)
def YEx.nd:YEx→Nd
 | .num p v=>ndN 20 p [] v []
 | .name p w=>ndN 21 p w 0 []
 | .size p w=>ndN 22 p w 0 []
 | .neg p a=>ndK 23 p [a.nd]
 | .bin p w a b=>ndN 24 p w 0 [a.nd,b.nd]
def YEx.ok:YEx→Prop
 | .num _ v=>0≤v∧v<1000000000
 | .name _ w=>kT w
 | .size _ w=>kT w
 | .neg _ a=>a.ok
 | .bin _ w a b=>rankT w≠0∧a.ok∧b.ok
def YEx.sz:YEx→Nat
 | .num _ _=>1
 | .name _ _=>1
 | .size _ _=>4
 | .neg _ a=>1+a.sz
 | .bin _ _ a b=>1+a.sz+b.sz
inductive YRf where
 | one (p:Int) (w:Z6) | idx (p:Int) (w:Z6) (a:YEx) | rng (p:Int) (w:Z6) (a b:YEx)
def YRf.nd:YRf→Nd
 | .one p w=>ndN 19 p w 0 []
 | .idx p w a=>ndN 19 p w 1 [a.nd]
 | .rng p w a b=>ndN 19 p w 2 [a.nd,b.nd]
def YRf.ok:YRf→Prop
 | .one _ w=>kT w
 | .idx _ w a=>kT w∧a.ok
 | .rng _ w a b=>kT w∧a.ok∧b.ok
def YRf.sz:YRf→Nat
 | .one _ _=>1
 | .idx _ _ a=>3+a.sz
 | .rng _ _ a b=>4+a.sz+b.sz
inductive YTr where
 | op (k:Nat) (p:Int) (a b:YTr) | not (p:Int) (a:YTr) | bit (p v:Int) | ref (r:YRf)
def YTr.nd:YTr→Nd
 | .op k p a b=>ndK (bopT k).2 p [a.nd,b.nd]
 | .not p a=>ndK 27 p [a.nd]
 | .bit p v=>ndN 26 p [] v []
 | .ref r=>r.nd
def YTr.ok:YTr→Prop
 | .op k _ a b=>(1≤k∧k≤3)∧a.ok∧b.ok
 | .not _ a=>a.ok
 | .bit _ v=>v=0∨v=1
 | .ref r=>r.ok
def YTr.sz:YTr→Nat
 | .op _ _ a b=>1+a.sz+b.sz
 | .not _ a=>1+a.sz
 | .bit _ _=>1
 | .ref r=>r.sz
inductive YMd where
 | inv (p:Int) | ctrl (p:Int) | pow (p:Int) (e:YEx)
def YMd.nd:YMd→Nd
 | .inv p=>ndK 9 p []
 | .ctrl p=>ndK 10 p []
 | .pow p e=>ndK 11 p [e.nd]
def YMd.ok:YMd→Prop
 | .pow _ e=>e.ok
 | _=>True
def YMd.sz:YMd→Nat
 | .pow _ e=>4+e.sz
 | _=>2
def szL {α:Type} (f:α→Nat) (l:List α):Nat:=(l.map f).sum
theorem szL_snoc {α:Type} {f:α→Nat} {l:List α} {a:α}:szL f (l++[a])=szL f l+f a:=by simp [szL]
mutual
inductive YSt where
 | forS (p:Int) (w:Z6) (lo hi:YEx) (q:Int) (b:YSts)
 | whenS (p:Int) (e:YEx) (q:Int) (b:YSts)
 | ifS (p:Int) (no:Bool) (r:YRf) (q:Int) (b:YSts)
 | ifE (p:Int) (no:Bool) (r:YRf) (q:Int) (b:YSts) (q2:Int) (c:YSts)
 | meas (p:Int) (a b:YRf)
 | reset (p:Int) (a:YRf)
 | within (p:Int) (q:Int) (a:YSts) (q2:Int) (b:YSts)
 | flip (p:Int) (r:YRf) (e:YTr)
 | app (p:Int) (w:Z6) (mods:List YMd) (args:List YEx) (refs:List YRf)
inductive YSts where
 | nil | cons (s:YSt) (l:YSts)
end
mutual
def YSt.nd:YSt→Nd
 | .forS p w lo hi q b=>ndN 12 p w 0 [lo.nd,hi.nd,ndK 7 q b.nds]
 | .whenS p e q b=>ndK 13 p [e.nd,ndK 7 q b.nds]
 | .ifS p no r q b=>ndN 14 p [] (if no then 1 else 0) [r.nd,ndK 7 q b.nds]
 | .ifE p no r q b q2 c=>ndN 14 p [] (if no then 1 else 0) [r.nd,ndK 7 q b.nds,ndK 7 q2 c.nds]
 | .meas p a b=>ndK 15 p [a.nd,b.nd]
 | .reset p a=>ndK 16 p [a.nd]
 | .within p q a q2 b=>ndK 17 p [ndK 7 q a.nds,ndK 7 q2 b.nds]
 | .flip p r e=>ndK 18 p [r.nd,e.nd]
 | .app p w mods args refs=>ndN 8 p w 0 [gr (mods.map YMd.nd),gr (args.map YEx.nd),gr (refs.map YRf.nd)]
def YSts.nds:YSts→List Nd
 | .nil=>[]
 | .cons s l=>s.nd::l.nds
end
mutual
def YSt.ok:YSt→Prop
 | .forS _ w lo hi _ b=>kT w∧lo.ok∧hi.ok∧b.ok
 | .whenS _ e _ b=>e.ok∧b.ok
 | .ifS _ _ r _ b=>r.ok∧b.ok
 | .ifE _ _ r _ b _ c=>r.ok∧b.ok∧c.ok
 | .meas _ a b=>a.ok∧b.ok
 | .reset _ a=>a.ok
 | .within _ _ a _ b=>a.ok∧b.ok
 | .flip _ r e=>r.ok∧e.ok
 | .app _ w mods args refs=>kT w∧(∀m∈mods,m.ok)∧(∀e∈args,e.ok)∧(∀r∈refs,r.ok)
def YSts.ok:YSts→Prop
 | .nil=>True
 | .cons s l=>s.ok∧l.ok
end
mutual
def YSt.sz:YSt→Nat
 | .forS _ _ lo hi _ b=>6+lo.sz+hi.sz+b.sz
 | .whenS _ e _ b=>3+e.sz+b.sz
 | .ifS _ _ r _ b=>3+r.sz+b.sz
 | .ifE _ _ r _ b _ c=>6+r.sz+b.sz+c.sz
 | .meas _ a b=>3+a.sz+b.sz
 | .reset _ a=>2+a.sz
 | .within _ _ a _ b=>6+a.sz+b.sz
 | .flip _ r e=>2+r.sz+e.sz
 | .app _ _ mods args refs=>2+szL YMd.sz mods+szL YEx.sz args+szL YRf.sz refs
def YSts.sz:YSts→Nat
 | .nil=>0
 | .cons s l=>s.sz+l.sz
end
def YSts.app:YSts→YSts→YSts
 | .nil,m=>m
 | .cons s l,m=>.cons s (l.app m)
theorem YSts.app_nds:∀(l m:YSts),(l.app m).nds=l.nds++m.nds
 | .nil,m=>by simp [YSts.app,YSts.nds]
 | .cons s l,m=>by simp [YSts.app,YSts.nds,YSts.app_nds l m]
theorem YSts.app_sz:∀(l m:YSts),(l.app m).sz=l.sz+m.sz
 | .nil,m=>by simp [YSts.app,YSts.sz]
 | .cons s l,m=>by simp [YSts.app,YSts.sz,YSts.app_sz l m];omega
theorem YSts.app_ok:∀(l m:YSts),l.ok→m.ok→(l.app m).ok
 | .nil,m,_,h=>h
 | .cons s l,m,h,h'=>by
   simp only [YSts.ok] at h
   simp only [YSts.app,YSts.ok]
   exact ⟨h.1,YSts.app_ok l m h.2 h'⟩
inductive YIt where
 | decl (bit:Bool) (p:Int) (w:Z6) (e:YEx) | const (p:Int) (w:Z6) (e:YEx)
 | gate (p:Int) (w:Z6) (ints:List (Int×Z6)) (wires:List (Int×Z6×Bool)) (q:Int) (b:YSts)
 | st (s:YSt)
def p1nd (x:Int×Z6):Nd:=ndN 6 x.1 x.2 0 []
def p2nd (x:Int×Z6×Bool):Nd:=ndN 6 x.1 x.2.1 (if x.2.2 then 1 else 0) []
def p2sz (x:Int×Z6×Bool):Nat:=if x.2.2 then 3 else 1
def YIt.nd:YIt→Nd
 | .decl bit p w e=>ndN (if bit then 3 else 2) p w 0 [e.nd]
 | .const p w e=>ndN 4 p w 0 [e.nd]
 | .gate p w ints wires q b=>ndN 5 p w 0 [gr (ints.map p1nd),gr (wires.map p2nd),ndK 7 q b.nds]
 | .st s=>s.nd
def YIt.ok:YIt→Prop
 | .decl _ _ w e=>kT w∧e.ok
 | .const _ w e=>kT w∧e.ok
 | .gate _ w ints wires _ b=>kT w∧(∀x∈ints,kT x.2)∧(∀x∈wires,kT x.2.1)∧wires≠[]∧b.ok
 | .st s=>s.ok
def YIt.sz:YIt→Nat
 | .decl _ _ _ e=>5+e.sz
 | .const _ _ e=>4+e.sz
 | .gate _ _ ints wires _ b=>4+ints.length+szL p2sz wires+b.sz
 | .st s=>s.sz
def TkV (t:Tk):Prop:=(t.1=1→kT t.2.1)∧(t.1=3→0≤numT' t.2.1∧numT' t.2.1<1000000000)
def AllV (ts:List Tk):Prop:=∀t∈ts,TkV t
theorem AllV.tail {ts:List Tk} (h:AllV ts):AllV ts.tail:=fun t ht=>h t (List.mem_of_mem_tail ht)
theorem AllV.hd {ts:List Tk} (h:AllV ts):TkV (hdT ts):=by
 cases ts with
 | nil=>exact ⟨(fun h=>by cases h),(fun h=>by cases h)⟩
 | cons t l=>exact h t (by simp)
def Sd {α β:Type} (f:β→α) (G:β→Prop) (z:β→Nat) (r:Rd α) (L:Nat):Prop:=match r with
 | .ok a us=>∃b,a=f b∧G b∧z b+us.length≤L∧AllV us
 | _=>True
theorem Sd.bind {α β γ δ:Type} {f:β→α} {G:β→Prop} {z:β→Nat} {r:Rd α} {L:Nat} {f':δ→γ} {G':δ→Prop} {z':δ→Nat} {g:α→List Tk→Rd γ} {M:Nat}
 (h:Sd f G z r L) (hg:∀b us,G b→z b+us.length≤L→AllV us→Sd f' G' z' (g (f b) us) M):Sd f' G' z' (r.bind g) M:=by
 cases r with
 | ok a us=>
   obtain ⟨b,rfl,h1,h2,h3⟩:=h
   exact hg b us h1 h2 h3
 | err e=>trivial
 | out=>trivial
theorem Sd.ite {α β:Type} {f:β→α} {G:β→Prop} {z:β→Nat} {c:Prop} [Decidable c] {r s:Rd α} {L:Nat} (h1:c→Sd f G z r L) (h2:¬c→Sd f G z s L):Sd f G z (if c then r else s) L:=by
 by_cases h:c
 ·rw [if_pos h];exact h1 h
 ·rw [if_neg h];exact h2 h
theorem Sd.mk {α β:Type} {f:β→α} {G:β→Prop} {z:β→Nat} {us:List Tk} {L:Nat} (b:β) (h1:G b) (h2:z b+us.length≤L) (h3:AllV us):Sd f G z (.ok (f b) us) L:=⟨b,rfl,h1,h2,h3⟩
theorem kj {w:Z6} {ts:List Tk} (h:AllV ts):Sd id (fun _=>True) (fun _=>1) (wantT w ts) ts.length:=by
 unfold wantT
 refine Sd.ite (fun hs=>?_) (fun _=>trivial)
 have:=jT hs
 exact ⟨hdT ts,rfl,trivial,by show 1+_≤_;omega,h.tail⟩
theorem VF {ts:List Tk} (h:AllV ts):Sd id (fun t=>kT t.2.1) (fun _=>1) (wordT ts) ts.length:=by
 unfold wordT
 refine Sd.ite (fun hs=>?_) (fun _=>trivial)
 have:=Yo hs (by omega)
 exact ⟨hdT ts,rfl,h.hd.1 hs,by show 1+_≤_;omega,h.tail⟩
theorem num_sd:∀n:Nat,
 (∀lvl ts,1≤lvl→AllV ts→Sd YEx.nd YEx.ok YEx.sz (xpT n lvl ts) ts.length) ∧
 (∀lvl (a:YEx) ts,1≤lvl→a.ok→AllV ts→Sd YEx.nd YEx.ok YEx.sz (taT n lvl a.nd ts) (a.sz+ts.length)) ∧
 (∀ts,AllV ts→Sd YEx.nd YEx.ok YEx.sz (siT n ts) ts.length)∧(∀ts,AllV ts→Sd YEx.nd YEx.ok YEx.sz (atT n ts) ts.length):=by
 intro n
 induction n with
 | zero=>exact ⟨fun _ _ _ _=>trivial,fun _ _ _ _ _ _=>trivial,fun _ _=>trivial,fun _ _=>trivial⟩
 | succ n ih=>
   obtain ⟨hE,hT,hS,hA⟩:=ih
   have wk:∀{r:Rd Nd} {L M:Nat},Sd YEx.nd YEx.ok YEx.sz r L→L≤M→Sd YEx.nd YEx.ok YEx.sz r M:=by
    intro r L M h hm
    cases r with
    | ok a us=>obtain ⟨b,h1,h2,h3,h4⟩:=h;exact ⟨b,h1,h2,by omega,h4⟩
    | err e=>trivial
    | out=>trivial
   refine ⟨fun lvl ts hl hv=>?_,fun lvl a ts hl ha hv=>?_,fun ts hv=>?_,fun ts hv=>?_⟩
   ·rw [xpT]
    refine Sd.ite (fun h=>hS ts hv) (fun h=>?_)
    exact (hE (lvl+1) ts (by omega) hv).bind fun b us hb hz hu=>wk (hT lvl b us hl hb hu) hz
   ·rw [taT]
    refine Sd.ite (fun h=>?_) (fun h=>Sd.mk a ha (by omega) hv)
    have ht:=Yo h.1 (by omega)
    refine (hE (lvl+1) ts.tail (by omega) hv.tail).bind fun b us hb hz hu=>?_
    have hr:rankT (hdT ts).2.1≠0:=by rw [h.2];omega
    refine Sd.ite (fun h1=>Sd.mk (YEx.bin (hdT ts).2.2 (hdT ts).2.1 a b) ⟨hr,ha,hb⟩ (by simp only [YEx.sz];omega) hu) (fun h1=>?_)
    exact wk (hT lvl (YEx.bin (hdT ts).2.2 (hdT ts).2.1 a b) us hl ⟨hr,ha,hb⟩ hu) (by simp only [YEx.sz];omega)
   ·rw [siT]
    refine Sd.ite (fun h=>?_) (fun h=>?_)
    ·have ht:=jT h
     exact (hS ts.tail hv.tail).bind fun b us hb hz hu=>Sd.mk (YEx.neg (hdT ts).2.2 b) hb (by simp only [YEx.sz];omega) hu
    ·refine (hA ts hv).bind fun b us hb hz hu=>Sd.ite (fun h2=>?_) (fun _=>Sd.mk b hb hz hu)
     have ht:=jT h2
     have hr:rankT (hdT us).2.1≠0:=by rw [sees_word h2];decide
     exact (hS us.tail hu.tail).bind fun c vs hc hz' hv=>Sd.mk (YEx.bin (hdT us).2.2 (hdT us).2.1 b c) ⟨hr,hb,hc⟩ (by simp only [YEx.sz];omega) hv
   ·rw [atT]
    refine Sd.ite (fun h=>?_) fun _=>Sd.ite (fun h=>?_) fun _=>Sd.ite (fun h=>?_) fun _=>?_
    ·have ht:=Yo h (by omega)
     exact Sd.mk (YEx.num (hdT ts).2.2 (numT' (hdT ts).2.1)) (hv.hd.2 h) (by simp only [YEx.sz];omega) hv.tail
    ·have ht:=Yo h (by omega)
     exact Sd.mk (YEx.name (hdT ts).2.2 (hdT ts).2.1) (hv.hd.1 h) (by simp only [YEx.sz];omega) hv.tail
    ·have ht:=jT h
     exact (kj hv.tail).bind fun _ us _ hz hu=>(VF hu).bind fun w vs hw hz' hv=>(kj hv).bind fun _ xs _ hz'' hx=>Sd.mk (YEx.size (hdT ts).2.2 w.2.1) hw (by simp only [YEx.sz];omega) hx
    ·exact (kj hv).bind fun _ us _ hz hu=>(hE 1 us (by omega) hu).bind fun b vs hb hz' hv=>(kj hv).bind fun _ xs _ hz'' hx=>Sd.mk b hb (by omega) hx
theorem ex_sd {n:Nat} {ts:List Tk} (h:AllV ts):Sd YEx.nd YEx.ok YEx.sz (xpT n 1 ts) ts.length:=(num_sd n).1 1 ts (by omega) h
theorem rf_sd {n:Nat} {w:Tk} {ts:List Tk} (hw:kT w.2.1) (h:AllV ts):Sd YRf.nd YRf.ok YRf.sz (rfT n w ts) (1+ts.length):=by
 unfold rfT
 refine Sd.ite (fun hs=>?_) (fun _=>Sd.mk (YRf.one w.2.2 w.2.1) hw (by simp only [YRf.sz];omega) h)
 have ht:=jT hs
 refine (ex_sd h.tail).bind fun a us ha hz hu=>Sd.ite (fun hs2=>?_) (fun _=>?_)
 ·have ht:=jT hs2
  exact (ex_sd hu.tail).bind fun b vs hb hz' hv=>(kj hv).bind fun _ xs _ hz'' hx=>Sd.mk (YRf.rng w.2.2 w.2.1 a b) ⟨hw,ha,hb⟩ (by simp only [YRf.sz];omega) hx
 ·exact (kj hu).bind fun _ xs _ hz'' hx=>Sd.mk (YRf.idx w.2.2 w.2.1 a) ⟨hw,ha⟩ (by simp only [YRf.sz];omega) hx
theorem Sd.mono {α β:Type} {f:β→α} {G:β→Prop} {z:β→Nat} {r:Rd α} {L M:Nat} (h:Sd f G z r L) (hm:L≤M):Sd f G z r M:=by
 cases r with
 | ok a us=>obtain ⟨b,h1,h2,h3,h4⟩:=h;exact ⟨b,h1,h2,by omega,h4⟩
 | err e=>trivial
 | out=>trivial
theorem re_sd {n:Nat} {ts:List Tk} (h:AllV ts):Sd YRf.nd YRf.ok YRf.sz (reT n ts) ts.length:=by
 unfold reT
 exact (VF h).bind fun w us hw hz hu=>(rf_sd hw hu).mono hz
theorem truth_sd:∀n:Nat,
 (∀lvl ts,1≤lvl→lvl≤4→AllV ts→Sd YTr.nd YTr.ok YTr.sz (trT n lvl ts) ts.length) ∧
 (∀lvl (a:YTr) ts,1≤lvl→lvl≤3→a.ok→AllV ts→Sd YTr.nd YTr.ok YTr.sz (tbT n lvl a.nd ts) (a.sz+ts.length)) ∧
 (∀ts,AllV ts→Sd YTr.nd YTr.ok YTr.sz (noT n ts) ts.length):=by
 intro n
 induction n with
 | zero=>exact ⟨fun _ _ _ _ _=>trivial,fun _ _ _ _ _ _ _=>trivial,fun _ _=>trivial⟩
 | succ n ih=>
   obtain ⟨hE,hT,hN⟩:=ih
   refine ⟨fun lvl ts h1 h4 hv=>?_,fun lvl a ts h1 h3 ha hv=>?_,fun ts hv=>?_⟩
   ·rw [trT]
    refine Sd.ite (fun h=>hN ts hv) (fun h=>?_)
    exact (hE (lvl+1) ts (by omega) (by omega) hv).bind fun b us hb hz hu=>(hT lvl b us h1 (by omega) hb hu).mono hz
   ·rw [tbT]
    refine Sd.ite (fun h=>?_) (fun h=>Sd.mk a ha (by omega) hv)
    have ht:=jT h
    refine (hE (lvl+1) ts.tail (by omega) (by omega) hv.tail).bind fun b us hb hz hu=>?_
    exact (hT lvl (YTr.op lvl (hdT ts).2.2 a b) us h1 h3 ⟨⟨h1,h3⟩,ha,hb⟩ hu).mono (by simp only [YTr.sz];omega)
   ·rw [noT]
    refine Sd.ite (fun h=>?_) fun _=>Sd.ite (fun h=>?_) fun _=>Sd.ite (fun h=>?_) fun _=>?_
    ·have ht:=jT h
     exact (hN ts.tail hv.tail).bind fun b us hb hz hu=>Sd.mk (YTr.not (hdT ts).2.2 b) hb (by simp only [YTr.sz];omega) hu
    ·have ht:=jT h
     exact (hE 1 ts.tail (by omega) (by omega) hv.tail).bind fun b us hb hz hu=>(kj hu).bind fun _ xs _ hz' hx=>Sd.mk b hb (by omega) hx
    ·have ht:=Yo h.1 (by omega)
     exact Sd.mk (YTr.bit (hdT ts).2.2 (if (hdT ts).2.1 = bs "0" then 0 else 1)) (by simp only [YTr.ok]; split <;> simp) (by simp only [YTr.sz]; omega) hv.tail
    ·have:=re_sd (n:=n) hv
     revert this
     cases reT n ts with
     | ok a us=>rintro ⟨r,h1,h2,h3,h4⟩;exact ⟨.ref r,h1,h2,h3,h4⟩
     | err e=>exact id
     | out=>exact id
theorem tr_sd {n:Nat} {ts:List Tk} (h:AllV ts):Sd YTr.nd YTr.ok YTr.sz (trT n 1 ts) ts.length:=(truth_sd n).1 1 ts (by omega) (by omega) h
theorem li_sd {β:Type} {f:β→Nd} {G:β→Prop} {z:β→Nat} {one:List Tk→Rd Nd} (h1:∀ts,AllV ts→Sd f G z (one ts) ts.length) :
 ∀(n:Nat) (l:List β) (ts:List Tk),(∀b∈l,G b)→AllV ts→Sd (fun l:List β=>l.map f) (fun l'=>(∀b∈l',G b)∧(l≠[]→l'≠[])) (szL z) (liT one n (l.map f) ts) (szL z l+ts.length)
 | 0,_,_,_,_=>trivial
 | n+1,l,ts,hl,hv=>by
   rw [liT]
   refine Sd.ite (fun h=>?_) (fun h=>Sd.mk l ⟨hl,id⟩ (by omega) hv)
   have ht:=jT h
   refine (h1 ts.tail hv.tail).bind fun b us hb hz hu=>?_
   have:=li_sd h1 n (l++[b]) us (fun x hx=>by
    rcases List.mem_append.1 hx with hx | hx
    ·exact hl x hx
    ·rw [List.mem_singleton.1 hx];exact hb) hu
   rw [List.map_append] at this
   have:=this.mono (M:=szL z l+ts.length) (by rw [szL_snoc];omega)
   revert this
   show Sd _ _ _ (liT one n (l.map f++[f b]) us) _→_
   cases liT one n (l.map f++[f b]) us with
   | ok a vs=>rintro ⟨l',g1,g2,g3,g4⟩;exact ⟨l',g1,⟨g2.1,fun _=>g2.2 (by simp)⟩,g3,g4⟩
   | err e=>exact id
   | out=>exact id
theorem ls_sd {β:Type} {f:β→Nd} {G:β→Prop} {z:β→Nat} {one:List Tk→Rd Nd} (h1:∀ts,AllV ts→Sd f G z (one ts) ts.length) {n:Nat} {ts:List Tk} (hv:AllV ts) :
 Sd (fun l:List β=>l.map f) (fun l'=>(∀b∈l',G b)∧l'≠[]) (szL z) (lsT one n ts) ts.length:=by
 unfold lsT
 refine (h1 ts hv).bind fun b us hb hz hu=>?_
 have:=(li_sd h1 n [b] us (fun x hx=>by rw [List.mem_singleton.1 hx];exact hb) hu).mono (M:=ts.length) (by simp [szL];omega)
 revert this
 show Sd _ _ _ (liT one n [f b] us) _→_
 cases liT one n [f b] us with
 | ok a vs=>rintro ⟨l',g1,g2,g3,g4⟩;exact ⟨l',g1,⟨g2.1,g2.2 (by simp)⟩,g3,g4⟩
 | err e=>exact id
 | out=>exact id
theorem mo_sd:∀(n:Nat) (l:List YMd) (ts:List Tk),(∀m∈l,m.ok)→AllV ts→Sd (fun l:List YMd=>l.map YMd.nd) (fun l'=>∀m∈l',m.ok) (szL YMd.sz) (moT n (l.map YMd.nd) ts) (szL YMd.sz l+ts.length)
 | 0,_,_,_,_=>trivial
 | n+1,l,ts,hl,hv=>by
   rw [moT]
   have step:∀(m:YMd) us,m.ok→AllV us→m.sz+us.length≤ts.length→Sd (fun l:List YMd=>l.map YMd.nd) (fun l'=>∀m∈l',m.ok) (szL YMd.sz) (moT n (l.map YMd.nd++[m.nd]) us) (szL YMd.sz l+ts.length):=by
    intro m us hm hu hz
    have:=mo_sd n (l++[m]) us (fun x hx=>by
     rcases List.mem_append.1 hx with hx | hx
     ·exact hl x hx
     ·rw [List.mem_singleton.1 hx];exact hm) hu
    rw [List.map_append] at this
    exact this.mono (by rw [szL_snoc];omega)
   refine Sd.ite (fun h=>?_) fun _=>Sd.ite (fun h=>?_) fun _=>Sd.ite (fun h=>?_) fun _=>Sd.mk l hl (by omega) hv
   ·have ht:=jT h
    exact (kj hv.tail).bind fun _ us _ hz hu=>step (YMd.inv (hdT ts).2.2) us trivial hu (by simp only [YMd.sz];omega)
   ·have ht:=jT h
    exact (kj hv.tail).bind fun _ us _ hz hu=>step (YMd.ctrl (hdT ts).2.2) us trivial hu (by simp only [YMd.sz];omega)
   ·have ht:=jT h
    exact (kj hv.tail).bind fun _ us _ hz hu=>(ex_sd hu).bind fun e vs he hz' hv=>(kj hv).bind fun _ xs _ hz2 hx=>(kj hx).bind fun _ ys _ hz3 hy=>step (YMd.pow (hdT ts).2.2 e) ys he hy (by simp only [YMd.sz];omega)
theorem ap_sd {n:Nat} {at_:Int} {mods:List YMd} {w:Tk} {ts:List Tk} (hm:∀m∈mods,m.ok) (hw:kT w.2.1) (hv:AllV ts):Sd YSt.nd YSt.ok YSt.sz (apT n at_ (mods.map YMd.nd) w ts) (1+szL YMd.sz mods+ts.length):=by
 unfold apT
 have h1 : Sd (fun l : List YEx => l.map YEx.nd) (fun l' => ∀ b ∈ l', b.ok) (szL YEx.sz) ((if seesT (bs "(") ts then (lsT (xpT n 1) n ts.tail).bind fun l us => (wantT (bs ")") us).bind fun _ us => .ok l us else .ok [] ts) : Rd (List Nd)) ts.length := by
  refine Sd.ite (fun h=>?_) (fun h=>Sd.mk [] (fun _ h=>by cases h) (by simp [szL]) hv)
  have ht:=jT h
  exact (ls_sd (fun us=>ex_sd) hv.tail).bind fun l us hl hz hu=>(kj hu).bind fun _ vs _ hz' hv=>Sd.mk l hl.1 (by omega) hv
 refine h1.bind fun args us ha hz hu=>?_
 have h2:Sd (fun l:List YRf=>l.map YRf.nd) (fun l'=>∀b∈l',b.ok) (szL YRf.sz) ((if (hdT us).1=1 then lsT (reT n) n us else .ok [] us):Rd (List Nd)) us.length:=by
  refine Sd.ite (fun h=>?_) (fun h=>Sd.mk [] (fun _ h=>by cases h) (by simp [szL]) hu)
  have:=ls_sd (n:=n) (fun us=>re_sd (n:=n)) hu
  revert this
  cases lsT (reT n) n us with
  | ok a vs=>rintro ⟨l',g1,g2,g3,g4⟩;exact ⟨l',g1,g2.1,g3,g4⟩
  | err e=>exact id
  | out=>exact id
 exact h2.bind fun refs vs hr hz' hv=>(kj hv).bind fun _ xs _ hz2 hx=>Sd.mk (YSt.app at_ w.2.1 mods args refs) ⟨hw,hm,ha,hr⟩ (by simp only [YSt.sz];omega) hx
end Go.Ql
end

section
namespace Go.Ql
def bkN (x:Int×YSts):Nd:=ndK 7 x.1 x.2.nds
theorem stm_sd:∀n:Nat,
 (∀ts,AllV ts→Sd bkN (fun x=>x.2.ok) (fun x=>2+x.2.sz) (blT n ts) ts.length) ∧
 (∀(s:YSts) ts,s.ok→AllV ts→Sd YSts.nds YSts.ok (fun x=>1+x.sz) (sqT n s.nds ts) (s.sz+ts.length)) ∧
 (∀ts,AllV ts→Sd YSt.nd YSt.ok YSt.sz (stT n ts) ts.length):=by
 intro n
 induction n with
 | zero=>exact ⟨fun _ _=>trivial,fun _ _ _ _=>trivial,fun _ _=>trivial⟩
 | succ n ih=>
   obtain ⟨hB,hQ,hS⟩:=ih
   refine ⟨fun ts hv=>?_,fun s ts hs hv=>?_,fun ts hv=>?_⟩
   ·rw [blT]
    refine (kj hv).bind fun t us _ hz hu=>(hQ .nil us trivial hu).bind fun b vs hb hz' hv=>?_
    have hz:1+us.length≤ts.length:=hz
    have hz':1+b.sz+vs.length≤0+us.length:=hz'
    exact Sd.mk (f:=bkN) (t.2.2,b) hb (by show 2+b.sz+_≤_;omega) hv
   ·rw [sqT]
    refine Sd.ite (fun h=>?_) (fun h=>?_)
    ·have ht:=jT h
     exact Sd.mk s hs (by show 1+s.sz+_≤_;omega) hv.tail
    ·refine (hS ts hv).bind fun b us hb hz hu=>?_
     have:=hQ (s.app (.cons b .nil)) us (YSts.app_ok _ _ hs ⟨hb,trivial⟩) hu
     rw [YSts.app_nds] at this
     exact this.mono (by rw [YSts.app_sz];simp only [YSts.sz];omega)
   ·rw [stT]
    refine Sd.ite (fun h=>?_) fun _=>Sd.ite (fun h=>?_) fun _=>Sd.ite (fun h=>?_) fun _=>Sd.ite (fun h=>?_) fun _=>Sd.ite (fun h=>?_) fun _=>Sd.ite (fun h=>?_) fun _=>Sd.ite (fun h=>?_) fun _=>?_
    ·have ht:=jT h
     refine (VF hv.tail).bind fun w us hw hz hu=>(kj hu).bind fun _ vs _ hz1 hv=>(ex_sd hv).bind fun lo xs h1 hz2 hx=>(kj hx).bind fun _ ys _ hz3 hy=>(ex_sd hy).bind fun hi zs h2 hz4 hz=>(hB zs hz).bind fun b rs hb hz5 hr=>?_
     refine Sd.mk (YSt.forS (hdT ts).2.2 w.2.1 lo hi b.1 b.2) ⟨hw,h1,h2,hb⟩ (by simp only [YSt.sz];omega) hr
    ·have ht:=jT h
     exact (ex_sd hv.tail).bind fun e us he hz hu=>(hB us hu).bind fun b rs hb hz5 hr=>Sd.mk (YSt.whenS (hdT ts).2.2 e b.1 b.2) ⟨he,hb⟩ (by simp only [YSt.sz];omega) hr
    ·have ht:=jT h
     have key:∀vs,AllV vs→vs.length≤ts.tail.length→Sd YSt.nd YSt.ok YSt.sz ((reT n vs).bind fun r us=>(blT n us).bind fun b us=>
      if seesT (bs "else") us then (blT n us.tail).bind fun c us => .ok (ndN 14 (hdT ts).2.2 [] (if seesT (bs "!") ts.tail then 1 else 0) [r, b, c]) us
      else .ok (ndN 14 (hdT ts).2.2 [] (if seesT (bs "!") ts.tail then 1 else 0) [r, b]) us) ts.length := by
      intro vs hvs hl
      refine (re_sd hvs).bind fun r us hr hz hu=>(hB us hu).bind fun b xs hb hz2 hx=>Sd.ite (fun h2=>?_) (fun h2=>?_)
      ·have ht2:=jT h2
       refine (hB xs.tail hx.tail).bind fun c ys hc hz3 hy => Sd.mk (YSt.ifE (hdT ts).2.2 (seesT (bs "!") ts.tail) r b.1 b.2 c.1 c.2) ⟨hr, hb, hc⟩ (by simp only [YSt.sz]; omega) hy
      ·exact Sd.mk (YSt.ifS (hdT ts).2.2 (seesT (bs "!") ts.tail) r b.1 b.2) ⟨hr, hb⟩ (by simp only [YSt.sz]; omega) hx
     have := key (if seesT (bs "!") ts.tail then ts.tail.tail else ts.tail) (by split; exact hv.tail.tail; exact hv.tail) (by split <;> simp <;> omega)
     exact this
    ·have ht:=jT h
     exact (re_sd hv.tail).bind fun a us ha hz hu=>(kj hu).bind fun _ vs _ hz1 hv=>(re_sd hv).bind fun b xs hb hz2 hx=>(kj hx).bind fun _ ys _ hz3 hy=>Sd.mk (YSt.meas (hdT ts).2.2 a b) ⟨ha,hb⟩ (by simp only [YSt.sz];omega) hy
    ·have ht:=jT h
     exact (re_sd hv.tail).bind fun a us ha hz hu=>(kj hu).bind fun _ vs _ hz1 hv=>Sd.mk (YSt.reset (hdT ts).2.2 a) ha (by simp only [YSt.sz];omega) hv
    ·have ht:=jT h
     exact (hB ts.tail hv.tail).bind fun a us ha hz hu=>(kj hu).bind fun _ vs _ hz1 hv=>(hB vs hv).bind fun b xs hb hz2 hx=>Sd.mk (YSt.within (hdT ts).2.2 a.1 a.2 b.1 b.2) ⟨ha,hb⟩ (by simp only [YSt.sz];omega) hx
    ·refine (mo_sd n [] ts (fun _ h=>by cases h) hv).bind fun m us hm hz hu=>(VF hu).bind fun w vs hw hz1 hv=>?_
     have hz:szL YMd.sz m+us.length≤0+ts.length:=hz
     exact (ap_sd hm hw hv).mono (by omega)
    ·refine (VF hv).bind fun w us hw hz hu=>Sd.ite (fun h2=>?_) (fun h2=>?_)
     ·exact (rf_sd hw hu).bind fun r vs hr hz1 hv=>(kj hv).bind fun _ xs _ hz2 hx=>(tr_sd hx).bind fun e ys he hz3 hy=>(kj hy).bind fun _ zs _ hz4 hz=>Sd.mk (YSt.flip (hdT ts).2.2 r e) ⟨hr,he⟩ (by simp only [YSt.sz];omega) hz
     ·exact (ap_sd (mods:=[]) (fun _ h=>by cases h) hw hu).mono (by show 1+0+_≤_;omega)
theorem bl_sd {n:Nat} {ts:List Tk} (hv:AllV ts):Sd bkN (fun x=>x.2.ok) (fun x=>2+x.2.sz) (blT n ts) ts.length:=(stm_sd n).1 ts hv
theorem st_sd {n:Nat} {ts:List Tk} (hv:AllV ts):Sd YSt.nd YSt.ok YSt.sz (stT n ts) ts.length:=(stm_sd n).2.2 ts hv
theorem p1_sd {ts:List Tk} (hv:AllV ts):Sd p1nd (fun x=>kT x.2) (fun _=>1) (p1T ts) ts.length:=by
 unfold p1T
 exact (VF hv).bind fun w us hw hz hu=>Sd.mk (f:=p1nd) (w.2.2,w.2.1) hw hz hu
theorem p2_sd {ts:List Tk} (hv:AllV ts):Sd p2nd (fun x=>kT x.2.1) p2sz (p2T ts) ts.length:=by
 unfold p2T
 refine (VF hv).bind fun w us hw hz hu=>Sd.ite (fun h=>?_) (fun _=>?_)
 ·have ht:=jT h
  exact (kj hu.tail).bind fun _ vs _ hz1 hv=>Sd.mk (f:=p2nd) (w.2.2,w.2.1,true) hw (by show 3+_≤_;omega) hv
 ·exact Sd.mk (f:=p2nd) (w.2.2,w.2.1,false) hw hz hu
theorem ga_sd {n:Nat} {t:Tk} {ts:List Tk} (hv:AllV ts):Sd YIt.nd YIt.ok YIt.sz (gaT n t ts) (1+ts.length):=by
 unfold gaT
 refine (VF hv).bind fun w us hw hz hu=>?_
 have h1 : Sd (fun l : List (Int × Z6) => l.map p1nd) (fun l' => ∀ b ∈ l', kT b.2) List.length ((if seesT (bs "(") us then (lsT p1T n us.tail).bind fun l us => (wantT (bs ")") us).bind fun _ us => .ok l us else .ok [] us) : Rd (List Nd)) us.length := by
  refine Sd.ite (fun h=>?_) (fun h=>Sd.mk (f:=fun l:List (Int×Z6)=>l.map p1nd) [] (fun _ h=>by cases h) (by simp) hu)
  have ht:=jT h
  refine (ls_sd (n:=n) (fun us=>p1_sd) hu.tail).bind fun l us hl hz hu=>(kj hu).bind fun _ vs _ hz' hv=>Sd.mk (f:=fun l:List (Int×Z6)=>l.map p1nd) l hl.1 ?_ hv
  have:szL (fun _:Int×Z6=>1) l=l.length:=by unfold szL;clear hz hl;induction l with
   | nil=>rfl
   | cons a l ih=>simp [ih];omega
  omega
 refine h1.bind fun ints vs hi hz1 hv=>(ls_sd (n:=n) (fun us=>p2_sd) hv).bind fun wires xs hww hz2 hx=>(bl_sd hx).bind fun b ys hb hz3 hy=>?_
 exact Sd.mk (YIt.gate t.2.2 w.2.1 ints wires b.1 b.2) ⟨hw,hi,hww.1,hww.2,hb⟩ (by simp only [YIt.sz];omega) hy
theorem it_sd {n:Nat} {ts:List Tk} (hv:AllV ts):Sd YIt.nd YIt.ok YIt.sz (itT n ts) ts.length:=by
 unfold itT
 refine Sd.ite (fun h=>?_) fun _=>Sd.ite (fun h=>?_) fun _=>Sd.ite (fun h=>?_) fun _=>?_
 ·have ht:ts.tail.length<ts.length:=by
   rcases Bool.or_eq_true _ _▸h with h | h
   ·exact jT h
   ·exact jT h
  exact (VF hv.tail).bind fun w us hw hz hu => (kj hu).bind fun _ vs _ hz1 hv => (ex_sd hv).bind fun e xs he hz2 hx => (kj hx).bind fun _ ys _ hz3 hy => (kj hy).bind fun _ zs _ hz4 hz => Sd.mk (YIt.decl (seesT (bs "bit") ts) (hdT ts).2.2 w.2.1 e) ⟨hw, he⟩ (by simp only [YIt.sz]; omega) hz
 ·have ht:=jT h
  exact (VF hv.tail).bind fun w us hw hz hu=>(kj hu).bind fun _ vs _ hz1 hv=>(ex_sd hv).bind fun e xs he hz2 hx=>(kj hx).bind fun _ ys _ hz3 hy=>Sd.mk (YIt.const (hdT ts).2.2 w.2.1 e) ⟨hw,he⟩ (by simp only [YIt.sz];omega) hy
 ·have ht:=jT h
  exact (ga_sd hv.tail).mono (by omega)
 ·have:=st_sd (n:=n) hv
  revert this
  cases stT n ts with
  | ok a us=>rintro ⟨r,h1,h2,h3,h4⟩;exact ⟨.st r,h1,h2,h3,h4⟩
  | err e=>exact id
  | out=>exact id
theorem pr_sd {n:Nat}:∀(m:Nat) (l:List YIt) (ts:List Tk),(∀b∈l,b.ok)→AllV ts→Sd (fun l:List YIt=>l.map YIt.nd) (fun l'=>∀b∈l',b.ok) (szL YIt.sz) (prT n m (l.map YIt.nd) ts) (szL YIt.sz l+ts.length)
 | 0,_,_,_,_=>trivial
 | m+1,l,ts,hl,hv=>by
   rw [prT]
   refine Sd.ite (fun h=>Sd.mk l hl (by omega) hv) (fun h=>(it_sd hv).bind fun b us hb hz hu=>?_)
   have:=pr_sd (n:=n) m (l++[b]) us (fun x hx=>by
    rcases List.mem_append.1 hx with hx | hx
    ·exact hl x hx
    ·rw [List.mem_singleton.1 hx];exact hb) hu
   rw [List.map_append] at this
   exact this.mono (by rw [szL_snoc];omega)
theorem digt_num {c:UInt8} (h:digt c=true):0≤(c.toNat:Int)-48∧(c.toNat:Int)-48≤9:=by
 unfold digt at h
 simp only [z7,zi] at h
 constructor<;>omega
theorem numT'_le:∀(w:Z6) (n:Int),0≤n→(∀c∈w,digt c=true)→0≤w.foldl (fun n c=>n*10+((c.toNat:Int)-48)) n∧w.foldl (fun n c=>n*10+((c.toNat:Int)-48)) n+1≤(n+1)*10^w.length
 | [],n,h,_=>by simp [h]
 | c::w,n,h,hd=>by
   have hc:=digt_num (hd c (by simp))
   have ih:=numT'_le w (n*10+((c.toNat:Int)-48)) (by omega) (fun d hd'=>hd d (by simp [hd']))
   refine ⟨ih.1,Int.le_trans ih.2 ?_⟩
   have e:(n+1)*10^(c::w).length=((n+1)*10)*10^w.length:=by
    rw [za,Int.pow_succ,Int.mul_assoc,Int.mul_comm 10]
   rw [e]
   exact Int.mul_le_mul_of_nonneg_right (by omega) (Int.pow_nonneg (show (0:Int)≤10 by decide))
theorem numT'_lt (w:Z6) (h:w.length≤9) (hd:∀c∈w,digt c=true):0≤numT' w∧numT' w<1000000000:=by
 have h1:=numT'_le w 0 (by decide) hd
 refine ⟨h1.1,?_⟩
 have h2:(10:Int)^w.length≤10^9:=by
  have:10^w.length≤10^9:=Nat.pow_le_pow_right (by decide) h
  exact_mod_cast this
 have h3:(10:Int)^9=1000000000:=by decide
 have h4:=h1.2
 unfold numT'
 omega
theorem tokF_v {text:Z6} (ht:text.length≤40000) (i:Nat):TkV (tokF text i):=by
 have hok:=tokF_ok text i
 refine ⟨fun h=>?_,fun h=>?_⟩
 ·unfold tokF at h ⊢
  dsimp only at h ⊢
  have hd:(text.drop (begT text i)).length≤40000:=by simp;omega
  generalize text.drop (begT text i)=r at h hd ⊢
  cases r with
  | nil=>cases h
  | cons c r=>
    rw [Ud] at h ⊢
    split at h
    ·rename_i h1
     rw [if_pos h1]
     dsimp only at h ⊢
     split at h
     ·omega
     ·rename_i h2
      have hl:=(List.takeWhile_prefix (fun c=>lettr c||digt c) (l:=c::r)).length_le
      refine ⟨by omega,by simpa using h2,?_⟩
      refine ⟨c,r.takeWhile fun c=>lettr c||digt c,by rw [List.takeWhile_cons,if_pos (by rw [h1];rfl)],h1,takeW_all _⟩
    ·split at h
     ·dsimp only at h;split at h<;>omega
     ·split at h
      ·dsimp only at h;omega
      ·split at h<;>(dsimp only at h;omega)
 ·have:=hok.2.2.2 h
  exact numT'_lt _ this.2.1 this.2.2
theorem toksF_v {text:Z6} (ht:text.length≤40000):∀(k i:Nat),text.length-i<k→i≤text.length→AllV (toksF text i)
 | 0,_,h,_=>by omega
 | k+1,i,h,hi=>by
   rw [toksF_eq]
   have hv:=tokF_v ht i
   intro t hm
   rcases zz.1 hm with hm | hm
   ·rw [hm];exact hv
   ·split at hm
    ·cases hm
    ·rename_i hs
     have he:=endF_le hi (by omega) (by omega)
     have hb:=begT_le hi
     exact toksF_v ht k (endF text i) (by omega) he.2 t hm
theorem toksT_v {text:Z6} (ht:text.length≤40000):AllV (toksT text):=by
 rw [toksT_eq];exact toksF_v ht (text.length+1) 0 (by omega) (by omega)
end Go.Ql
end

section
set_option maxRecDepth 4000
namespace Go.Ql
inductive Like (p:Bool):Nd→Nd→Prop
 | mk (h1 h2:Int×Int×Z6×Int) (l1 l2:List Nd):h1.1=h2.1→h1.2.2=h2.2.2→(p=true→h1.2.1=h2.2.1)→l1.length=l2.length→l1.length≤1000000 →
  (∀(i:Nat) (h:i<l1.length) (h':i<l2.length),Like p l1[i] l2[i])→Like p (.mk h1 l1) (.mk h2 l2)
end Go.Ql
namespace W
open Go Go.Ql
theorem sizeOf_kid {l:List Nd} {i:Nat} (h:i<l.length):sizeOf l[i]<sizeOf l:=List.sizeOf_lt_of_mem (List.getElem_mem h)
theorem same_walk {p:Bool} {a b:Nd} (h:Like p a b):∀m,sizeOf a≤m→(jF.fuel m).F (a,b,p,())=some (true,()):=by
 induction h with
 | mk h1 h2 l1 l2 e1 e2 e3 el hl hk ih=>
   intro m hm
   simp only [Rose.mk.sizeOf_spec] at hm
   cases m with
   | zero=>omega
   | succ m=>
     show @jF (jF.fuel m) (.mk h1 l1) (.mk h2 l2) p=_
     unfold jF
     have c1:@jF.c1 Bool p h1.1 h1.2.1 h1.2.2.1 h1.2.2.2 l1 h2.1 h2.2.1 h2.2.2.1 h2.2.2.2 l2 some=some false:=by
      unfold jF.c1
      rw [e1,e2,el]
      cases p with
      | false=>simp [br]
      | true=>simp [br,e3 rfl]
     refine jw c1 ?_
     rw [br_ff]
     have loop:∀k i,k=l1.length-i→i≤l1.length→iter (fun s=>@jF.cf_ (jF.fuel m) _ p s l1 l2 some) (i:Int)=some (.inr (l1.length:Int)):=by
      intro k
      induction k with
      | zero=>
        intro i hk hi
        have:i=l1.length:=by omega
        subst this
        refine kf ?_
        show @jF.cf_ (jF.fuel m) _ p _ l1 l2 some=_
        unfold jF.cf_
        rw [kM (by omega)]
      | succ k ihk=>
        intro i hk' hi
        have hlt:i<l1.length:=by omega
        have hlt':i<l2.length:=by omega
        have:=sizeOf_kid hlt
        refine ke ?_ (ihk (i+1) (by omega) (by omega))
        show @jF.cf_ (jF.fuel m) _ p _ l1 l2 some=_
        unfold jF.cf_ jF.c6
        rw [kn (by omega),Ui hlt,jx,Ui hlt',jx]
        have:=ih i hlt hlt' m (by omega)
        show bnd (bnd ((jF.fuel m).F (l1[i],l2[i],p,())) _) _=_
        refine jw (jw this rfl) ?_
        show br (!true) _ _=_
        rw [Bool.not_true,br_ff]
        rw [Yn (by omega)]
        rfl
     refine jw (loop _ 0 rfl (by omega)) rfl
theorem same_ok {p:Bool} {a b:Nd} (h:Like p a b):Vg (a,b,p,())=some (true,()):=same_walk h _ (zt _)
end W
end

section
namespace Go.Ql
theorem Vs {α:Type} {f:α→Nat} (hf:∀a,1≤f a):∀l:List α,l.length≤szL f l
 | []=>by simp [szL]
 | a::l=>by
   have:=Vs hf l
   have:=hf a
   simp only [szL,List.map_cons,List.sum_cons,za] at *
   omega
theorem YEx.sz_pos:∀x:YEx,1≤x.sz:=by intro x;cases x<;>simp only [YEx.sz]<;>omega
theorem YRf.sz_pos:∀x:YRf,1≤x.sz:=by intro x;cases x<;>simp only [YRf.sz]<;>omega
theorem YMd.sz_pos:∀x:YMd,1≤x.sz:=by intro x;cases x<;>simp only [YMd.sz]<;>omega
theorem YSt.sz_pos:∀x:YSt,1≤x.sz:=by intro x;cases x<;>simp only [YSt.sz]<;>omega
theorem YIt.sz_pos:∀x:YIt,1≤x.sz:=by
 intro x
 cases x with
 | st s=>exact s.sz_pos
 | _=>simp only [YIt.sz];omega
theorem p2sz_pos (x:Int×Z6×Bool):1≤p2sz x:=by unfold p2sz;split<;>omega
theorem YSts.len:∀l:YSts,l.nds.length≤l.sz
 | .nil=>by simp [YSts.nds]
 | .cons s l=>by
   have:=YSts.len l
   have:=s.sz_pos
   simp only [YSts.nds,YSts.sz,za];omega
def prog (l:List YIt):Nd:=.mk (1,0,[],0) (l.map YIt.nd)
def noN:Nd:=.mk (0,0,[],0) []
theorem szL_mem {α:Type} {f:α→Nat}:∀{l:List α} {a:α},a∈l→f a≤szL f l
 | b::l,a,h=>by
   simp only [szL,List.map_cons,List.sum_cons]
   rcases zz.1 h with h | h
   ·subst h;omega
   ·have:=szL_mem (f:=f) h
    simp only [szL] at this;omega
end Go.Ql
namespace W
open Go Go.Ql
theorem specP_form (text:Z6):(∃l,(∀b∈l,YIt.ok b)∧szL YIt.sz l≤40001∧text.length≤40000∧(∃us,prT 400000 100000 [] (toksT text)=.ok (l.map YIt.nd) us)∧specP text=(prog l,(0,0)))∨((specP text).1=noN∧(specP text).2.1≠0):=by
 unfold specP
 by_cases ht:40000<text.length
 ·rw [if_pos ht];exact .inr ⟨rfl,by decide⟩
 ·rw [if_neg ht]
  have hk:=toksT_ok text
  have h:=pr_sd (n:=400000) 100000 [] (toksT text) (fun _ h=>by cases h) (toksT_v (by omega))
  have hno:=pr_ne_out (show text.length≤40000 by omega)
  revert h hno
  show Sd _ _ _ (prT 400000 100000 [] (toksT text)) _→_
  cases prT 400000 100000 [] (toksT text) with
  | ok l us=>
    rintro ⟨b,rfl,h1,h2,h3⟩ _
    have h2:szL YIt.sz b+us.length≤0+(toksT text).length:=h2
    exact .inl ⟨b,h1,by omega,by omega,⟨us,rfl⟩,rfl⟩
  | err e=>exact fun _ _=>.inr ⟨rfl,by show (1:Int)≠0;decide⟩
  | out=>intro _ h;exact absurd rfl h
end W
end

section
section
namespace Go.Ql
theorem decD_is:∀u:Nat,0<u→IsDec (Go.Lib.decDigits u) (u:Int):=by
 intro u
 induction u using Nat.strongRecOn with
 | _ u ih=>
   intro hu
   by_cases h:u<10
   ·rw [Go.Lib.decDigits,dif_pos h]
    have hb:=He (d:=(u:Int)) (by omega)
    have e:Int.toNat (48+(u:Int))=48+u:=by omega
    rw [e] at hb
    refine ⟨fun c hc=>?_,by simp,?_,?_⟩
    ·rw [List.mem_singleton.1 hc];exact hb.1
    ·intro h0
     have h1:UInt8.ofNat (48+u)=48:=by simpa using h0
     have h2:=hb.2
     rw [h1] at h2
     have h3:dg 48=0:=by decide
     omega
    ·show dec [UInt8.ofNat (48+u)]=_
     simp only [dec,List.foldl_cons,List.foldl_nil]
     omega
   ·rw [Go.Lib.decDigits,dif_neg h]
    obtain ⟨h1,h2,h3,h4⟩:=ih (u / 10) (by omega) (by omega)
    have hb:=He (d:=((u % 10:Nat):Int)) (by omega)
    have e:Int.toNat (48+((u % 10:Nat):Int))=48+u % 10:=by omega
    rw [e] at hb
    refine ⟨fun c hc=>?_,by simp [h2],?_,?_⟩
    ·rcases List.mem_append.1 hc with hc | hc
     ·exact h1 c hc
     ·rw [List.mem_singleton.1 hc];exact hb.1
    ·cases hl:Go.Lib.decDigits (u / 10) with
     | nil=>exact absurd hl h2
     | cons c l=>rw [hl] at h3;exact h3
    ·rw [dec_snoc,h4,hb.2]
     omega
theorem itoa_txt (n:Int):Txt n (Go.Lib.itoa n):=by
 unfold Go.Lib.itoa
 by_cases h0:n=0
 ·subst h0
  left
  refine ⟨rfl,?_⟩
  rw [if_neg (by decide),Go.Lib.decDigits,dif_pos (by decide)]
  rfl
 ·right
  refine ⟨h0,Go.Lib.decDigits n.natAbs,decD_is _ (by omega),?_⟩
  by_cases hn:n<0
  ·rw [if_pos hn,if_pos hn];rfl
  ·rw [if_neg hn,if_neg hn,show n.toNat=n.natAbs by omega];rfl
end Go.Ql
end
section
namespace Go.Ql
theorem itoa_len {v:Int} {L:Nat} (h:v.natAbs<2^L):(Go.Lib.itoa v).length≤L+2:=by
 rcases itoa_txt v with ⟨_,e⟩ | ⟨h0,D,hd,e⟩
 ·rw [e];simp
 ·have h1:=dec_ge hd.1 hd.2.1 hd.2.2.1
  rw [hd.2.2.2] at h1
  have h2:D.length≤L:=by
   rcases Nat.lt_or_ge L D.length with hc | hc
   ·have h3:(10:Nat)^L≤10^(D.length-1):=Nat.pow_le_pow_right (by decide) (by omega)
    have h4:2^L≤10^L:=Nat.pow_le_pow_left (by decide) L
    have h5:((10^(D.length-1):Nat):Int)≤(v.natAbs:Int):=by simpa using h1
    omega
   ·exact hc
  rw [e,z8]
  split<;>simp<;>omega
end Go.Ql
end
end

section
namespace Go.Ql
def parT (c:Bool) (l:Z6):Z6:=if c then [40]++l++[41] else l
theorem Uo (c:Bool) (l:Z6):(parT c l).length≤l.length+2:=by unfold parT;split<;>simp
def lftT (r:Nat):Nat:=if r=1 then 2 else if r=5 then 6 else r
def rgtT (r:Nat):Nat:=if r=1 then 2 else if r=5 then 4 else r+1
def rkN (w:Z6):Nat:=(rankT w).toNat
def YEx.tight:YEx→Nat
 | .bin _ w _ _=>rkN w
 | .neg _ _=>4
 | _=>6
def YEx.txt:YEx→Z6
 | .num _ v=>Go.Lib.itoa v
 | .name _ w=>w
 | .size _ w=>[115,105,122,101,40]++w++[41]
 | .neg _ a=>[45]++parT (decide (a.tight<4)) a.txt
 | .bin _ w a b=>parT (decide (a.tight<lftT (rkN w))) a.txt++[32]++w++[32]++parT (decide (b.tight<rgtT (rkN w))) b.txt
def YEx.at (m:Nat) (x:YEx):Z6:=parT (decide (x.tight<m)) x.txt
def YRf.txt:YRf→Z6
 | .one _ w=>w
 | .idx _ w a=>w++[91]++a.txt++[93]
 | .rng _ w a b=>w++[91]++a.txt++[32,46,46,32]++b.txt++[93]
def YTr.tight:YTr→Nat
 | .op k _ _ _=>k
 | _=>4
def opW:Nat→Z6
 | 1=>[124]
 | 2=>[94]
 | _=>[38]
def YTr.txt:YTr→Z6
 | .op k _ a b=>parT (decide (a.tight<k)) a.txt++[32]++opW k++[32]++parT (decide (b.tight<k+1)) b.txt
 | .not _ a=>[33]++parT (decide (a.tight<4)) a.txt
 | .bit _ v=>Go.Lib.itoa v
 | .ref r=>r.txt
def YTr.at (m:Nat) (x:YTr):Z6:=parT (decide (x.tight<m)) x.txt
def YMd.txt:YMd→Z6
 | .inv _=>[105,110,118,32,64,32]
 | .ctrl _=>[99,116,114,108,32,64,32]
 | .pow _ e=>[112,111,119,40]++e.txt++[41,32,64,32]
def comT (l:List Z6):Z6:=Go.Lib.join l [44,32]
def tabsT (d:Nat):Z6:=List.replicate d 9
def argsT (l:List YEx):Z6:=if l.length=0 then [] else [40]++comT (l.map YEx.txt)++[41]
def refsT (l:List YRf):Z6:=if l.length=0 then [] else [32]++comT (l.map YRf.txt)
def modsT (l:List YMd):Z6:=(l.map YMd.txt).flatten
def appT (mods:List YMd) (w:Z6) (args:List YEx) (refs:List YRf):Z6:=modsT mods++w++argsT args++refsT refs++[59]
mutual
def YSt.txt (d:Nat):YSt→Z6
 | .forS _ w lo hi _ b=>[102,111,114,32]++w++[32,105,110,32]++lo.txt++[32,46,46,32]++hi.txt++[32]++([123,10]++b.lines (d+1)++tabsT d++[125])
 | .whenS _ e _ b=>[119,104,101,110,32]++e.txt++[32]++([123,10]++b.lines (d+1)++tabsT d++[125])
 | .ifS _ no r _ b=>[105,102,32]++(if no then [33] else [])++r.txt++[32]++([123,10]++b.lines (d+1)++tabsT d++[125])
 | .ifE _ no r _ b _ c=>[105,102,32]++(if no then [33] else [])++r.txt++[32]++([123,10]++b.lines (d+1)++tabsT d++[125])++[32,101,108,115,101,32]++([123,10]++c.lines (d+1)++tabsT d++[125])
 | .meas _ a b=>[109,101,97,115,117,114,101,32]++a.txt++[32,45,62,32]++b.txt++[59]
 | .reset _ a=>[114,101,115,101,116,32]++a.txt++[59]
 | .within _ _ a _ b=>[119,105,116,104,105,110,32]++([123,10]++a.lines (d+1)++tabsT d++[125])++[32,97,112,112,108,121,32]++([123,10]++b.lines (d+1)++tabsT d++[125])
 | .flip _ r e=>r.txt++[32,94,61,32]++e.txt++[59]
 | .app _ w mods args refs=>appT mods w args refs
def YSts.lines (d:Nat):YSts→Z6
 | .nil=>[]
 | .cons s l=>tabsT d++s.txt d++[10]++l.lines d
end
def blkT (d:Nat) (b:YSts):Z6:=[123,10]++b.lines (d+1)++tabsT d++[125]
def w2T (x:Int×Z6×Bool):Z6:=if x.2.2 then x.2.1++[91,93] else x.2.1
def intsT (l:List (Int×Z6)):Z6:=if l.length=0 then [] else [40]++comT (l.map fun x=>x.2)++[41]
def YIt.txt:YIt→Z6
 | .decl bit _ w e=>(if bit then [98,105,116,32] else [113,117,98,105,116,32])++w++[91]++e.txt++[93,59]
 | .const _ w e=>[99,111,110,115,116,32]++w++[32,61,32]++e.txt++[59]
 | .gate _ w ints wires _ b=>[103,97,116,101,32]++w++intsT ints++[32]++comT (wires.map w2T)++[32]++blkT 0 b
 | .st s=>s.txt 0
def progT (l:List YIt):Z6:=(l.map fun x=>x.txt++[10]).flatten
theorem YQ (w:Z6):rankT w=0∨rankT w=1∨rankT w=2∨rankT w=3∨rankT w=5:=by
 unfold rankT
 split
 ·exact .inr (.inl rfl)
 ·split
  ·exact .inr (.inr (.inl rfl))
  ·split
   ·exact .inr (.inr (.inr (.inl rfl)))
   ·split
    ·exact .inr (.inr (.inr (.inr rfl)))
    ·exact .inl rfl
theorem rank_two {w:Z6} (h:rankT w≠0):w.length≤2∧1≤w.length:=by
 unfold rankT at h
 split at h
 ·rename_i g;rcases g with g | g | g | g | g | g<;>(subst g;decide)
 ·split at h
  ·rename_i g;rcases g with g | g<;>(subst g;decide)
  ·split at h
   ·rename_i g;rcases g with g | g | g<;>(subst g;decide)
   ·split at h
    ·rename_i g;subst g;decide
    ·exact absurd rfl h
theorem rank_five {w:Z6} (h:rankT w=5):w=[42,42]:=by
 unfold rankT at h
 split at h
 ·cases h
 ·split at h
  ·cases h
  ·split at h
   ·cases h
   ·split at h
    ·rename_i g;rw [g];rfl
    ·cases h
theorem itoa_nine {v:Int} (h:0≤v∧v<1000000000):(Go.Lib.itoa v).length≤32:=itoa_len (L:=30) (by rw [show (2:Nat)^30=1073741824 from rfl];omega)
theorem YEx.txt_le:∀x:YEx,x.ok→x.txt.length+20≤40100*x.sz
 | .num p v,h=>by have:=itoa_nine h;simp only [YEx.txt,YEx.sz];omega
 | .name p w,h=>by have:w.length≤40000:=h.1;simp only [YEx.txt,YEx.sz];omega
 | .size p w,h=>by have:w.length≤40000:=h.1;simp only [YEx.txt,YEx.sz,z8,za,zb];omega
 | .neg p a,h=>by
   have h1:=YEx.txt_le a h
   have h2:=Uo (decide (a.tight<4)) a.txt
   simp only [YEx.txt,YEx.sz,z8,za,zb];omega
 | .bin p w a b,h=>by
   have h1:=YEx.txt_le a h.2.1
   have h2:=Uo (decide (a.tight<lftT (rkN w))) a.txt
   have h3:=YEx.txt_le b h.2.2
   have h4:=Uo (decide (b.tight<rgtT (rkN w))) b.txt
   have h5:=rank_two h.1
   simp only [YEx.txt,YEx.sz,z8,za,zb];omega
theorem YEx.at_le (m:Nat) (x:YEx):(x.at m).length≤x.txt.length+2:=Uo _ _
theorem YRf.txt_le:∀x:YRf,x.ok→x.txt.length+20≤40100*x.sz
 | .one p w,h=>by have:w.length≤40000:=h.1;simp only [YRf.txt,YRf.sz];omega
 | .idx p w a,h=>by
   have:w.length≤40000:=h.1.1
   have:=a.txt_le h.2
   simp only [YRf.txt,YRf.sz,z8,za,zb];omega
 | .rng p w a b,h=>by
   have:w.length≤40000:=h.1.1
   have:=a.txt_le h.2.1
   have:=b.txt_le h.2.2
   simp only [YRf.txt,YRf.sz,z8,za,zb];omega
theorem opW_one (k:Nat):(opW k).length=1:=by
 unfold opW;split<;>rfl
theorem YTr.txt_le:∀x:YTr,x.ok→x.txt.length+20≤40100*x.sz
 | .op k p a b,h=>by
   have h1:=YTr.txt_le a h.2.1
   have h2:=Uo (decide (a.tight<k)) a.txt
   have h3:=YTr.txt_le b h.2.2
   have h4:=Uo (decide (b.tight<k+1)) b.txt
   have h5:=opW_one k
   simp only [YTr.txt,YTr.sz,z8,za,zb];omega
 | .not p a,h=>by
   have h1:=YTr.txt_le a h
   have h2:=Uo (decide (a.tight<4)) a.txt
   simp only [YTr.txt,YTr.sz,z8,za,zb];omega
 | .bit p v,h=>by
   have:v=0∨v=1:=h
   have:=itoa_nine (v:=v) (by omega)
   simp only [YTr.txt,YTr.sz];omega
 | .ref r,h=>r.txt_le h
theorem YTr.at_le (m:Nat) (x:YTr):(x.at m).length≤x.txt.length+2:=Uo _ _
theorem YMd.txt_le:∀x:YMd,x.ok→x.txt.length+20≤40100*x.sz
 | .inv p,h=>by simp [YMd.txt,YMd.sz]
 | .ctrl p,h=>by simp [YMd.txt,YMd.sz]
 | .pow p e,h=>by
   have:=e.txt_le h
   simp only [YMd.txt,YMd.sz,z8,za,zb];omega
theorem comT_cons (x:Z6) (l:List Z6):(comT (x::l)).length≤x.length+2+(comT l).length:=by
 unfold comT
 rw [Go.Lib.join_cons]
 cases l with
 | nil=>simp [Go.Lib.joinTail];omega
 | cons y l=>rw [Go.Lib.join_cons];simp [Go.Lib.joinTail];omega
theorem Uw {α:Type} {f:α→Z6} {z:α→Nat} {ok:α→Prop} (hf:∀a,ok a→(f a).length+20≤40100*z a):∀l:List α,(∀a∈l,ok a)→(comT (l.map f)).length≤40100*szL z l
 | [],_=>by simp [comT,Go.Lib.join,szL,List.intercalate]
 | a::l,h=>by
   have h1:=comT_cons (f a) (l.map f)
   have h2:=hf a (h a (by simp))
   have h3:=Uw hf l (fun x hx=>h x (by simp [hx]))
   simp only [szL,List.map_cons,List.sum_cons] at h3 ⊢
   omega
theorem cat_le {α:Type} {f:α→Z6} {z:α→Nat} {ok:α→Prop} (hf:∀a,ok a→(f a).length+20≤40100*z a):∀l:List α,(∀a∈l,ok a)→((l.map f).flatten).length≤40100*szL z l
 | [],_=>by simp [szL]
 | a::l,h=>by
   have h2:=hf a (h a (by simp))
   have h3:=cat_le hf l (fun x hx=>h x (by simp [hx]))
   simp only [szL,List.map_cons,List.sum_cons,List.flatten_cons,z8] at h3 ⊢
   omega
theorem app_le {w:Z6} {mods:List YMd} {args:List YEx} {refs:List YRf} (h:(YSt.app 0 w mods args refs).ok):(appT mods w args refs).length≤40100*(YSt.app 0 w mods args refs).sz:=by
 have h0:w.length≤40000:=h.1.1
 have h1:=cat_le YMd.txt_le mods h.2.1
 have h2:=Uw YEx.txt_le args h.2.2.1
 have h3:=Uw YRf.txt_le refs h.2.2.2
 have h4:(argsT args).length≤2+(comT (args.map YEx.txt)).length:=by unfold argsT;split<;>simp;omega
 have h5:(refsT refs).length≤1+(comT (refs.map YRf.txt)).length:=by unfold refsT;split<;>simp;omega
 simp only [appT,modsT,YSt.sz,z8,za,zb]
 omega
theorem Yx (d:Nat):(tabsT d).length=d:=by simp [tabsT]
mutual
theorem YSt.txt_le:∀(x:YSt) (d:Nat),x.ok→d+x.sz≤50000→(x.txt d).length+d+2≤200000*x.sz
 | .forS p w lo hi q b,d,h,hd=>by
   simp only [YSt.sz] at hd
   have h0:w.length≤40000:=h.1.1
   have h1:=lo.txt_le h.2.1
   have h2:=hi.txt_le h.2.2.1
   have h3:=YSts.lines_le b (d+1) h.2.2.2 (by omega)
   simp only [YSt.txt,YSt.sz,z8,za,zb,Yx];omega
 | .whenS p e q b,d,h,hd=>by
   simp only [YSt.sz] at hd
   have h1:=e.txt_le h.1
   have h3:=YSts.lines_le b (d+1) h.2 (by omega)
   simp only [YSt.txt,YSt.sz,z8,za,zb,Yx];omega
 | .ifS p no r q b,d,h,hd=>by
   simp only [YSt.sz] at hd
   have h1:=r.txt_le h.1
   have h3:=YSts.lines_le b (d+1) h.2 (by omega)
   have h4:(if no=true then [33] else []:Z6).length≤1:=by split<;>simp
   simp only [YSt.txt,YSt.sz,z8,za,zb,Yx];omega
 | .ifE p no r q b q2 c,d,h,hd=>by
   simp only [YSt.sz] at hd
   have h1:=r.txt_le h.1
   have h3:=YSts.lines_le b (d+1) h.2.1 (by omega)
   have h5:=YSts.lines_le c (d+1) h.2.2 (by omega)
   have h4:(if no=true then [33] else []:Z6).length≤1:=by split<;>simp
   simp only [YSt.txt,YSt.sz,z8,za,zb,Yx];omega
 | .meas p a b,d,h,hd=>by
   simp only [YSt.sz] at hd
   have h1:=a.txt_le h.1
   have h2:=b.txt_le h.2
   simp only [YSt.txt,YSt.sz,z8,za,zb];omega
 | .reset p a,d,h,hd=>by
   simp only [YSt.sz] at hd
   have h1:=a.txt_le h
   simp only [YSt.txt,YSt.sz,z8,za,zb];omega
 | .within p q a q2 b,d,h,hd=>by
   simp only [YSt.sz] at hd
   have h3:=YSts.lines_le a (d+1) h.1 (by omega)
   have h5:=YSts.lines_le b (d+1) h.2 (by omega)
   simp only [YSt.txt,YSt.sz,z8,za,zb,Yx];omega
 | .flip p r e,d,h,hd=>by
   simp only [YSt.sz] at hd
   have h1:=r.txt_le h.1
   have h2:=e.txt_le h.2
   simp only [YSt.txt,YSt.sz,z8,za,zb];omega
 | .app p w mods args refs,d,h,hd=>by
   have h1:=app_le (w:=w) (mods:=mods) (args:=args) (refs:=refs) h
   simp only [YSt.sz] at hd h1
   simp only [YSt.txt,YSt.sz];omega
theorem YSts.lines_le:∀(x:YSts) (d:Nat),x.ok→d+x.sz≤50000→(x.lines d).length≤200000*x.sz
 | .nil,d,h,hd=>by simp [YSts.lines]
 | .cons s l,d,h,hd=>by
   simp only [YSts.sz] at hd
   have h1:=YSt.txt_le s d h.1 (by omega)
   have h2:=YSts.lines_le l d h.2 (by omega)
   simp only [YSts.lines,YSts.sz,z8,za,zb,Yx];omega
end
end Go.Ql
end

section
set_option maxRecDepth 8000
namespace W
open Go Go.Ql
theorem br_t {α:Type} {c:Bool} {a b z:α} (hc:c=true) (h:a=z):br c a b=z:=by rw [hc];exact h
theorem br_f {α:Type} {c:Bool} {a b z:α} (hc:c=false) (h:b=z):br c a b=z:=by rw [hc];exact h
theorem kid_at {h:Int×Int×Z6×Int} {l:List Nd} {i:Nat} (hi:i<l.length):Jh (.mk h l) (i:Int)=some l[i]:=by
 unfold Jh
 show br (decide ((i:Int)<(l.length:Int))) (bnd (idx l (i:Int)) _) _=_
 rw [kn (by omega),Ui hi,jx]
 cases l[i];rfl
theorem kid0 {h:Int×Int×Z6×Int} {a:Nd} {l:List Nd}:Jh (.mk h (a::l)) 0=some a:=kid_at (i:=0) (l:=a::l) (by simp)
theorem kid1 {h:Int×Int×Z6×Int} {a b:Nd} {l:List Nd}:Jh (.mk h (a::b::l)) 1=some b:=kid_at (i:=1) (l:=a::b::l) (by simp)
theorem kid2 {h:Int×Int×Z6×Int} {a b c:Nd} {l:List Nd}:Jh (.mk h (a::b::c::l)) 2=some c:=kid_at (i:=2) (l:=a::b::c::l) (by simp)
theorem within_ok {l:Z6} {a b:Nat} (h:l.length≤10000000000):kr l (a:Int) (b:Int)=some (parT (decide (a<b)) l):=by
 unfold kr parT
 by_cases hc:a<b
 ·rw [kn (by omega),zj hc,if_pos rfl]
  repeat (refine jw (kC (zj (by (try dsimp only);simp only [Jc,z8,za,zb];omega))) ?_)
  rfl
 ·rw [kM (by omega),zk hc]
  rfl
theorem sides_ok {w:Z6} (h:rankT w≠0):jt.cu_ (rankT w) (rankT w) (IntKind.i64.wrap (rankT w+1)) some=some (((lftT (rkN w):Nat):Int),((rgtT (rkN w):Nat):Int)):=by
 unfold rkN
 rcases YQ w with e | e | e | e | e
 ·exact absurd e h
 all_goals (rw [e];rfl)
theorem lft_le {w:Z6}:lftT (rkN w)≤6∧rgtT (rkN w)≤6:=by
 unfold rkN
 rcases YQ w with e | e | e | e | e<;>(rw [e];decide)
theorem itoa_ok9 {v:Int} (h:0≤v∧v<1000000000):strconv_Itoa v=some (Go.Lib.itoa v):=by
 unfold strconv_Itoa
 rw [zj (show -9223372036854775808≤v by omega),zj (show v≤9223372036854775807 by omega)]
 rfl
theorem at_atom {x:YEx} {k:Nat} (h:x.tight=6) (hk:k≤6):x.at k=x.txt:=by
 unfold YEx.at parT
 rw [h,zk (by omega)];rfl
theorem number1_walk:∀(x:YEx),x.ok→x.sz≤50000 → ∀(m k:Nat),x.sz≤m→k≤6→(jt.fuel m).F (x.nd,(k:Int),())=some (x.at k,())
 | x,_,_,0,k,hm,_=>by have:=x.sz_pos;omega
 | .num p v,h,_,m+1,k,hm,hk=>by
   show @jt (jt.fuel m) (YEx.num p v).nd (k:Int)=_
   unfold jt
   refine br_t (by rfl) ?_
   rw [at_atom rfl hk]
   exact jw (itoa_ok9 h) rfl
 | .name p w,h,_,m+1,k,hm,hk=>by
   show @jt (jt.fuel m) (YEx.name p w).nd (k:Int)=_
   unfold jt
   refine br_f (by rfl) (br_t (by rfl) ?_)
   rw [at_atom rfl hk];rfl
 | .size p w,h,_,m+1,k,hm,hk=>by
   show @jt (jt.fuel m) (YEx.size p w).nd (k:Int)=_
   unfold jt
   refine br_f (by rfl) (br_f (by rfl) (br_t (by rfl) ?_))
   rw [at_atom rfl hk]
   have h0:w.length≤40000:=h.1
   have e:Prod.fst (Prod.snd (Prod.snd (Rose.head (YEx.size p w).nd)))=w:=rfl
   rw [e]
   repeat (refine jw (kC (zj (by (try dsimp only);simp only [Jc,z8,za,zb];omega))) ?_)
   rfl
 | .neg p a,h,hs,m+1,k,hm,hk=>by
   simp only [YEx.sz] at hs hm
   have ih:=number1_walk a h (by omega) m 4 (by omega) (by omega)
   have h1:=a.txt_le h
   have h2:=a.at_le 4
   show @jt (jt.fuel m) (YEx.neg p a).nd (k:Int)=_
   unfold jt
   refine br_f (by rfl) (br_f (by rfl) (br_f (by rfl) (br_t (by rfl) (jw kid0 (jw ih ?_)))))
   repeat (refine jw (kC (zj (by (try dsimp only);simp only [Jc,z8,za,zb];omega))) ?_)
   exact jw (within_ok (a:=4) (by dsimp only;simp only [Jc,z8,za,zb];omega)) rfl
 | .bin p w a b,h,hs,m+1,k,hm,hk=>by
   simp only [YEx.sz] at hs hm
   have hl:=lft_le (w:=w)
   have ih1:=number1_walk a h.2.1 (by omega) m (lftT (rkN w)) (by omega) hl.1
   have ih2:=number1_walk b h.2.2 (by omega) m (rgtT (rkN w)) (by omega) hl.2
   have h1:=a.txt_le h.2.1
   have h2:=a.at_le (lftT (rkN w))
   have h3:=b.txt_le h.2.2
   have h4:=b.at_le (rgtT (rkN w))
   have h5:=rank_two h.1
   have hr:rankT w=((rkN w:Nat):Int):=by
    unfold rkN
    rcases YQ w with e | e | e | e | e<;>rw [e]<;>rfl
   show @jt (jt.fuel m) (YEx.bin p w a b).nd (k:Int)=_
   unfold jt
   refine br_f (by rfl) (br_f (by rfl) (br_f (by rfl) (br_f (by rfl) (br_t (by rfl) (jw (rank_ok w) (jw (sides_ok h.1) ?_))))))
   have key:@jt.c18 (jt.fuel m) _ (k:Int) (rankT w) ((lftT (rkN w):Nat):Int) ((rgtT (rkN w):Nat):Int) 24 p w 0 [a.nd,b.nd] some=some ((YEx.bin p w a b).at k):=by
    unfold jt.c18
    refine jw kid0 (jw ih1 ?_)
    repeat (refine jw (kC (zj (by (try dsimp only);simp only [Jc,z8,za,zb];omega))) ?_)
    refine jw kid1 (jw ih2 ?_)
    repeat (refine jw (kC (zj (by (try dsimp only);simp only [Jc,z8,za,zb];omega))) ?_)
    rw [hr]
    exact jw (within_ok (a:=rkN w) (b:=k) (by dsimp only;simp only [Jc,z8,za,zb];omega)) rfl
   exact jw key rfl
theorem at_one {x:YEx} (h:x.ok):x.at 1=x.txt:=by
 have:¬x.tight<1:=by
  cases x with
  | bin p w a b=>
    have:=h.1
    simp only [YEx.tight,rkN]
    rcases YQ w with e | e | e | e | e
    ·exact absurd e this
    all_goals (rw [e];decide)
  | _=>simp [YEx.tight]
 unfold YEx.at parT
 rw [zk this];rfl
theorem UD {x:YEx} (h:x.ok) (hs:x.sz≤50000):JC (x.nd,1,())=some (x.txt,()):=by
 have:=number1_walk x h hs 1000000 1 (by omega) (by omega)
 rw [at_one h] at this
 exact this
theorem nd_eta (n:Nd):Rose.mk (Prod.fst (Rose.head n),Prod.fst (Prod.snd (Rose.head n)),Prod.fst (Prod.snd (Prod.snd (Rose.head n))),Prod.snd (Prod.snd (Prod.snd (Rose.head n)))) (Rose.kids n)=n:=by cases n;rfl
theorem refw_ok {x:YRf} (h:x.ok) (hs:x.sz≤50000):Jp x.nd=some x.txt:=by
 cases x with
 | one p w=>
   unfold Jp
   exact br_f (by rfl) (br_f (by rfl) rfl)
 | idx p w a=>
   simp only [YRf.sz] at hs
   have h0:w.length≤40000:=h.1.1
   have h1:=a.txt_le h.2
   have e1:=UD h.2 (by omega)
   unfold Jp
   refine br_t (by rfl) ?_
   have key:Jp.c3 19 p w 1 [a.nd] some=some (YRf.idx p w a).txt:=by
    unfold Jp.c3
    repeat (refine jw (kC (zj (by (try dsimp only);simp only [Jc,z8,za,zb];omega))) ?_)
    refine jw kid0 (jw e1 ?_)
    repeat (refine jw (kC (zj (by (try dsimp only);simp only [Jc,z8,za,zb];omega))) ?_)
    rfl
   exact jw key rfl
 | rng p w a b=>
   simp only [YRf.sz] at hs
   have h0:w.length≤40000:=h.1.1
   have h1:=a.txt_le h.2.1
   have h2:=b.txt_le h.2.2
   have e1:=UD h.2.1 (by omega)
   have e2:=UD h.2.2 (by omega)
   unfold Jp
   refine br_f (by rfl) (br_t (by rfl) ?_)
   have key:Jp.c5 19 p w 2 [a.nd,b.nd] some=some (YRf.rng p w a b).txt:=by
    unfold Jp.c5
    repeat (refine jw (kC (zj (by (try dsimp only);simp only [Jc,z8,za,zb];omega))) ?_)
    refine jw kid0 (jw e1 ?_)
    repeat (refine jw (kC (zj (by (try dsimp only);simp only [Jc,z8,za,zb];omega))) ?_)
    refine jw kid1 (jw e2 ?_)
    repeat (refine jw (kC (zj (by (try dsimp only);simp only [Jc,z8,za,zb];omega))) ?_)
    rfl
   exact jw key rfl
theorem truth_walk:∀(x:YTr),x.ok→x.sz≤50000 → ∀(m k:Nat),2*x.sz≤m→k≤4→(kB.fuel m).F_tongue_truth_b (x.nd,(k:Int),())=some (x.at k,())
 | .op j p a b,h,hs,m,k,hm,hk=>by
   simp only [YTr.sz] at hs hm
   obtain ⟨m,rfl⟩:∃n,m=n+2:=⟨m-2,by omega⟩
   have h1:=a.txt_le h.2.1
   have h2:=a.at_le j
   have h3:=b.txt_le h.2.2
   have h4:=b.at_le (j+1)
   have hj:j=1∨j=2∨j=3:=by have:=h.1;omega
   have ih1:=truth_walk a h.2.1 (by omega) m j (by omega) (by omega)
   have ih2:=truth_walk b h.2.2 (by omega) m (j+1) (by omega) (by omega)
   have key:@jY (kB.fuel m) (opW j) (j:Int) (bopT j).2 p [] 0 [a.nd,b.nd] (k:Int)=some ((YTr.op j p a b).at k,(bopT j).2,p,[],0,[a.nd,b.nd],(k:Int),()):=by
    unfold jY
    refine jw ?_ rfl
    unfold jY.c1
    have ho:=opW_one j
    refine jw kid0 (jw ih1 ?_)
    repeat (refine jw (kC (zj (by (try dsimp only);simp only [Jc,z8,za,zb];omega))) ?_)
    rw [Yn (by omega)]
    refine jw kid1 (jw ih2 ?_)
    repeat (refine jw (kC (zj (by (try dsimp only);simp only [Jc,z8,za,zb];omega))) ?_)
    exact jw (within_ok (a:=j) (b:=k) (by dsimp only;simp only [Jc,z8,za,zb];omega)) rfl
   show @Ja (kB.fuel (m+1)) (YTr.op j p a b).nd (k:Int)=_
   unfold Ja
   rcases hj with rfl | rfl | rfl
   ·exact br_t (by rfl) (jw key rfl)
   ·exact br_f (by rfl) (br_t (by rfl) (jw key rfl))
   ·exact br_f (by rfl) (br_f (by rfl) (br_t (by rfl) (jw key rfl)))
 | .not p a,h,hs,m,k,hm,hk=>by
   simp only [YTr.sz] at hs hm
   obtain ⟨m,rfl⟩:∃n,m=n+1:=⟨m-1,by omega⟩
   have h1:=a.txt_le h
   have h2:=a.at_le 4
   have ih:=truth_walk a h (by omega) m 4 (by omega) (by omega)
   have e:(YTr.not p a).at k=(YTr.not p a).txt:=by
    unfold YTr.at parT
    rw [zk (show ¬(YTr.not p a).tight<k by show ¬4<k;omega)];rfl
   rw [e]
   show @Ja (kB.fuel m) (YTr.not p a).nd (k:Int)=_
   unfold Ja
   refine br_f (by rfl) (br_f (by rfl) (br_f (by rfl) (br_t (by rfl) (jw kid0 (jw ih ?_)))))
   repeat (refine jw (kC (zj (by (try dsimp only);simp only [Jc,z8,za,zb];omega))) ?_)
   rfl
 | .bit p v,h,hs,m,k,hm,hk=>by
   simp only [YTr.sz] at hs hm
   obtain ⟨m,rfl⟩:∃n,m=n+1:=⟨m-1,by omega⟩
   have hv:v=0∨v=1:=h
   have e:(YTr.bit p v).at k=(YTr.bit p v).txt:=by
    unfold YTr.at parT
    rw [zk (show ¬(YTr.bit p v).tight<k by show ¬4<k;omega)];rfl
   rw [e]
   show @Ja (kB.fuel m) (YTr.bit p v).nd (k:Int)=_
   unfold Ja
   refine br_f (by rfl) (br_f (by rfl) (br_f (by rfl) (br_f (by rfl) (br_t (by rfl) ?_))))
   exact jw (itoa_ok9 (v:=v) (by omega)) rfl
 | .ref r,h,hs,m,k,hm,hk=>by
   simp only [YTr.sz] at hs hm
   have:=r.sz_pos
   obtain ⟨m,rfl⟩:∃n,m=n+1:=⟨m-1,by omega⟩
   have e:(YTr.ref r).at k=(YTr.ref r).txt:=by
    unfold YTr.at parT
    rw [zk (show ¬(YTr.ref r).tight<k by show ¬4<k;omega)];rfl
   rw [e]
   show @Ja (kB.fuel m) r.nd (k:Int)=_
   have hr:=refw_ok h hs
   unfold Ja
   cases r<;>exact br_f (by rfl) (br_f (by rfl) (br_f (by rfl) (br_f (by rfl) (br_f (by rfl) (jw hr rfl)))))
theorem truth_ok {x:YTr} (h:x.ok) (hs:x.sz≤50000):Ym (x.nd,1,())=some (x.txt,()):=by
 have:=truth_walk x h hs 1000000 1 (by omega) (by omega)
 have e:x.at 1=x.txt:=by
  have:¬x.tight<1:=by
   cases x with
   | op k p a b=>have:=h.1;simp only [YTr.tight];omega
   | _=>simp [YTr.tight]
  unfold YTr.at parT
  rw [zk this];rfl
 rw [e] at this
 exact this
end W
end

section
set_option maxRecDepth 8000
namespace W
open Go Go.Ql
def inL (l:Z6):List Int:=l.map fun b=>((b.toNat:Nat):Int)
theorem inL_len (l:Z6):(inL l).length=l.length:=by simp [inL]
theorem write_ok {s t:Z6} {d:Int} (h:t.length+s.length≤100000000000):Jr s d (inL t)=some ((s.length:Int),(),inL (t++s),d,()):=by
 unfold Jr JK
 rw [jx]
 refine jw (kC (zj (by dsimp only;rw [inL_len];omega))) ?_
 rw [show inL (t++s)=inL t++List.map (fun b=>((b.toNat:Nat):Int)) s from by simp [inL]]
theorem put_loop {d:Int} {ws:List Z6}:∀(r p:List Z6) (t:Z6),ws=p++r→ws.length≤100000→t.length+r.flatten.length≤100000000000 →
 iter (fun s:Int×Int×List Int=>jy.co_ ws (ws.length:Int) s.1 s.2.1 s.2.2 some) ((p.length:Int),d,inL t)=some ((ws.length:Int),d,inL (t++r.flatten))
 | [],p,t,e,hl,h=>by
   refine kf ?_
   show jy.co_ ws (ws.length:Int) (p.length:Int) d (inL t) some=_
   unfold jy.co_
   have:ws.length=p.length:=by rw [e];simp
   rw [kM (by omega),this]
   simp
 | x::r,p,t,e,hl,h=>by
   have hlen:ws.length=p.length+(r.length+1):=by rw [e];simp
   simp only [List.flatten_cons,z8] at h
   refine ke ?_ (by have:=put_loop (d:=d) r (p++[x]) (t++x) (by rw [e];simp) hl (by rw [z8];omega);rw [z8,zl] at this;exact this)
   show jy.co_ ws (ws.length:Int) (p.length:Int) d (inL t) some=_
   unfold jy.co_
   rw [kn (by omega)]
   refine jw (Ui (show p.length<ws.length by omega)) (jw (write_ok ?_) ?_)
   ·subst e;simp;omega
   ·rw [Yn (by omega)]
    subst e
    simp
theorem put_ok {ws:List Z6} {d:Int} {t:Z6} (hl:ws.length≤100000) (h:t.length+ws.flatten.length≤100000000000):jy ws d (inL t)=some (inL (t++ws.flatten),d,()):=by
 unfold jy
 have:=put_loop (ws:=ws) (d:=d) ws [] t rfl hl h
 exact jw this rfl
theorem put_v {ws:List Z6} {d:Int} {t v:Z6} (e:ws.flatten=v) (hl:ws.length≤100000) (h:t.length+v.length≤100000000000):jy ws d (inL t)=some (inL (t++v),d,()):=by
 subst e;exact put_ok hl h
theorem put1 {a:Z6} {d:Int} {t:Z6} (h:t.length+a.length≤100000000000):jy [a] d (inL t)=some (inL (t++a),d,()):=put_v (by simp) (by simp) h
theorem put2 {a b:Z6} {d:Int} {t:Z6} (h:t.length+(a++b).length≤100000000000):jy [a,b] d (inL t)=some (inL (t++(a++b)),d,()):=put_v (by simp) (by simp) h
theorem put3 {a b c:Z6} {d:Int} {t:Z6} (h:t.length+(a++b++c).length≤100000000000):jy [a,b,c] d (inL t)=some (inL (t++(a++b++c)),d,()):=put_v (by simp) (by simp) h
theorem put4 {a b c e:Z6} {d:Int} {t:Z6} (h:t.length+(a++b++c++e).length≤100000000000):jy [a,b,c,e] d (inL t)=some (inL (t++(a++b++c++e)),d,()):=put_v (by simp) (by simp) h
theorem put5 {a b c e f:Z6} {d:Int} {t:Z6} (h:t.length+(a++b++c++e++f).length≤100000000000):jy [a,b,c,e,f] d (inL t)=some (inL (t++(a++b++c++e++f)),d,()):=put_v (by simp) (by simp) h
theorem put7 {a b c e f g i:Z6} {d:Int} {t:Z6} (h:t.length+(a++b++c++e++f++g++i).length≤100000000000):jy [a,b,c,e,f,g,i] d (inL t)=some (inL (t++(a++b++c++e++f++g++i)),d,()):=put_v (by simp) (by simp) h
theorem HO {α:Type} {n:Nat} {L:List α} {f:Int×List Z6→Option ((Int×List Z6)⊕(Int×List Z6))} {g:α→Z6}:∀(r p:List α),(∀(p r:List α) (a:α),p.length+r.length+1=n→(∃q,q=p++a::r∧q=L)→f ((p.length:Int),p.map g)=some (.inl (((p.length+1:Nat):Int),p.map g++[g a]))) →
 f ((n:Int),L.map g)=some (.inr ((n:Int),L.map g))→p++r=L→L.length=n→iter f ((p.length:Int),p.map g)=some ((n:Int),L.map g)
 | [],p,hs,he,e,hn=>by
   have:p=L:=by simpa using e
   subst this
   rw [hn]
   exact kf he
 | a::r,p,hs,he,e,hn=>by
   have:=HO r (p++[a]) hs he (by rw [←e];simp) hn
   have hl:p.length+r.length+1=n:=by rw [←hn,←e];simp;omega
   refine ke (hs p r a hl ⟨_,rfl,e⟩) ?_
   rw [List.map_append,z8] at this
   exact this
theorem ok16 {l:List Z6} (h:l.length≤100000):okIf (decide ((List.length l+(1:Nat))*(16:Nat)≤(140737488355328:Nat))&&decide (List.length l+(1:Nat)≤(140737488355328:Nat)))=some ():=okIf_len ⟨by omega,by omega⟩
theorem com_ok {l:List Z6} (h:l.length≤100000) (h2:(comT l).length≤100000000000):strings_Join l [44,32]=some (comT l):=by
 unfold strings_Join
 unfold comT at h2
 rw [zj (show l.length≤140737488355328 by omega),zj (show (Go.Lib.join l [44,32]).length≤140737488355328 by omega)]
 rfl
theorem Hf {α β:Type} {f:α→β} {L p r:List α} {a:α} (e:p++a::r=L):idx (L.map f) (p.length:Int)=some (f a):=by
 rw [Ui (by rw [←e];simp)]
 subst e
 simp
theorem Un {x:YEx} (h:x.ok) (hs:x.sz≤50000):JC (Rose.mk (Prod.fst (Rose.head x.nd),Prod.fst (Prod.snd (Rose.head x.nd)),Prod.fst (Prod.snd (Prod.snd (Rose.head x.nd))),Prod.snd (Prod.snd (Prod.snd (Rose.head x.nd)))) (Rose.kids x.nd),1,())=some (x.txt,()):=by
 cases x<;>exact UD h hs
theorem number0_ok {x:YEx} (h:x.ok) (hs:x.sz≤50000):kK x.nd=some x.txt:=by
 unfold kK
 exact jw (Un h hs) rfl
theorem number0_e {x:YEx} (h:x.ok) (hs:x.sz≤50000):kK (Rose.mk (Prod.fst (Rose.head x.nd),Prod.fst (Prod.snd (Rose.head x.nd)),Prod.fst (Prod.snd (Prod.snd (Rose.head x.nd))),Prod.snd (Prod.snd (Prod.snd (Rose.head x.nd)))) (Rose.kids x.nd))=some x.txt:=by
 cases x<;>exact number0_ok h hs
theorem HR {x:YRf} (h:x.ok) (hs:x.sz≤50000):Jp (Rose.mk (Prod.fst (Rose.head x.nd),Prod.fst (Prod.snd (Rose.head x.nd)),Prod.fst (Prod.snd (Prod.snd (Rose.head x.nd))),Prod.snd (Prod.snd (Prod.snd (Rose.head x.nd)))) (Rose.kids x.nd))=some x.txt:=by
 cases x<;>exact refw_ok h hs
theorem truth_e {x:YTr} (h:x.ok) (hs:x.sz≤50000):Ym (Rose.mk (Prod.fst (Rose.head x.nd),Prod.fst (Prod.snd (Rose.head x.nd)),Prod.fst (Prod.snd (Prod.snd (Rose.head x.nd))),Prod.snd (Prod.snd (Prod.snd (Rose.head x.nd)))) (Rose.kids x.nd),1,())=some (x.txt,()):=by
 have:=truth_ok h hs
 cases x with
 | ref r=>cases r<;>exact this
 | _=>exact this
theorem gate1_e {x:Int×Z6}:kg (p1nd x)=some x.2:=rfl
theorem gate2_e {x:Int×Z6×Bool} (h:x.2.1.length≤40000):JZ (p2nd x)=some (w2T x):=by
 obtain ⟨p,w,b⟩:=x
 have h:w.length≤40000:=h
 unfold JZ
 cases b with
 | true=>
   refine br_t (by rfl) ?_
   have e:Prod.fst (Prod.snd (Prod.snd (Rose.head (p2nd (p,w,true)))))=w:=rfl
   rw [e]
   repeat (refine jw (kC (zj (by (try dsimp only);simp only [Jc,z8,za,zb];omega))) ?_)
   rfl
 | false=>exact br_f (by rfl) rfl
theorem joined_num {L:List (YEx)} (hok:∀x∈L,YEx.ok x) (hsz:∀x∈L,YEx.sz x≤50000) (hl:L.length≤50000) (h2:(comT (L.map YEx.txt)).length≤100000000000):Jf (gr (L.map YEx.nd))=some (comT (L.map YEx.txt),()):=by
 unfold Jf
 have key:=HO (n:=L.length) (L:=L) (g:=YEx.txt) (f:=fun s↦Jf.cb_ (L.map YEx.nd) ((L.map YEx.nd).length:Int) (Prod.fst s) (Prod.snd s) some) L [] (fun p r a hn ⟨q,hq,e⟩=>by
  subst hq
  show Jf.cb_ (L.map YEx.nd) ((L.map YEx.nd).length:Int) (p.length:Int) (p.map YEx.txt) some=_
  have ha:=number0_e (hok a (by rw [←e];simp)) (hsz a (by rw [←e];simp))
  unfold Jf.cb_
  rw [kn (by rw [List.length_map];omega)]
  refine jw (Hf e) (jw ha (jw (ok16 (by rw [List.length_map];omega)) ?_))
  rw [Yn (by omega)]
  rfl) (by
  show Jf.cb_ (L.map YEx.nd) ((L.map YEx.nd).length:Int) (L.length:Int) (L.map YEx.txt) some=_
  unfold Jf.cb_
  rw [kM (by rw [List.length_map];omega)]) rfl rfl
 refine jw key (jw (com_ok (by rw [List.length_map];omega) h2) rfl)
theorem joined_ref {L:List (YRf)} (hok:∀x∈L,YRf.ok x) (hsz:∀x∈L,YRf.sz x≤50000) (hl:L.length≤50000) (h2:(comT (L.map YRf.txt)).length≤100000000000):Jg (gr (L.map YRf.nd))=some (comT (L.map YRf.txt),()):=by
 unfold Jg
 have key:=HO (n:=L.length) (L:=L) (g:=YRf.txt) (f:=fun s↦Jg.cb_ (L.map YRf.nd) ((L.map YRf.nd).length:Int) (Prod.fst s) (Prod.snd s) some) L [] (fun p r a hn ⟨q,hq,e⟩=>by
  subst hq
  show Jg.cb_ (L.map YRf.nd) ((L.map YRf.nd).length:Int) (p.length:Int) (p.map YRf.txt) some=_
  have ha:=HR (hok a (by rw [←e];simp)) (hsz a (by rw [←e];simp))
  unfold Jg.cb_
  rw [kn (by rw [List.length_map];omega)]
  refine jw (Hf e) (jw ha (jw (ok16 (by rw [List.length_map];omega)) ?_))
  rw [Yn (by omega)]
  rfl) (by
  show Jg.cb_ (L.map YRf.nd) ((L.map YRf.nd).length:Int) (L.length:Int) (L.map YRf.txt) some=_
  unfold Jg.cb_
  rw [kM (by rw [List.length_map];omega)]) rfl rfl
 refine jw key (jw (com_ok (by rw [List.length_map];omega) h2) rfl)
theorem joined_p1 {L:List (Int×Z6)} (hok:∀x∈L,x.2.length≤40000) (hl:L.length≤50000) (h2:(comT (L.map (fun x:Int×Z6=>x.2))).length≤100000000000):Ji (gr (L.map p1nd))=some (comT (L.map (fun x:Int×Z6=>x.2)),()):=by
 unfold Ji
 have key:=HO (n:=L.length) (L:=L) (g:=(fun x:Int×Z6=>x.2)) (f:=fun s↦Ji.cb_ (L.map p1nd) ((L.map p1nd).length:Int) (Prod.fst s) (Prod.snd s) some) L [] (fun p r a hn ⟨q,hq,e⟩=>by
  subst hq
  show Ji.cb_ (L.map p1nd) ((L.map p1nd).length:Int) (p.length:Int) (p.map (fun x:Int×Z6=>x.2)) some=_
  have ha:=gate1_e (x:=a)
  unfold Ji.cb_
  rw [kn (by rw [List.length_map];omega)]
  refine jw (Hf e) (jw ha (jw (ok16 (by rw [List.length_map];omega)) ?_))
  rw [Yn (by omega)]
  rfl) (by
  show Ji.cb_ (L.map p1nd) ((L.map p1nd).length:Int) (L.length:Int) (L.map (fun x:Int×Z6=>x.2)) some=_
  unfold Ji.cb_
  rw [kM (by rw [List.length_map];omega)]) rfl rfl
 refine jw key (jw (com_ok (by rw [List.length_map];omega) h2) rfl)
theorem joined_p2 {L:List (Int×Z6×Bool)} (hok:∀x∈L,x.2.1.length≤40000) (hl:L.length≤50000) (h2:(comT (L.map w2T)).length≤100000000000):Jj (gr (L.map p2nd))=some (comT (L.map w2T),()):=by
 unfold Jj
 have key:=HO (n:=L.length) (L:=L) (g:=w2T) (f:=fun s↦Jj.cb_ (L.map p2nd) ((L.map p2nd).length:Int) (Prod.fst s) (Prod.snd s) some) L [] (fun p r a hn ⟨q,hq,e⟩=>by
  subst hq
  show Jj.cb_ (L.map p2nd) ((L.map p2nd).length:Int) (p.length:Int) (p.map w2T) some=_
  have ha:=gate2_e (hok a (by rw [←e];simp))
  unfold Jj.cb_
  rw [kn (by rw [List.length_map];omega)]
  refine jw (Hf e) (jw ha (jw (ok16 (by rw [List.length_map];omega)) ?_))
  rw [Yn (by omega)]
  rfl) (by
  show Jj.cb_ (L.map p2nd) ((L.map p2nd).length:Int) (L.length:Int) (L.map w2T) some=_
  unfold Jj.cb_
  rw [kM (by rw [List.length_map];omega)]) rfl rfl
 refine jw key (jw (com_ok (by rw [List.length_map];omega) h2) rfl)
theorem mods_walk {d:Int} {L:List YMd} (hok:∀m∈L,m.ok) (hsz:∀m∈L,m.sz≤50000) (hl:L.length≤50000):∀(r p:List YMd) (t:Z6),p++r=L→t.length+(modsT r).length≤95000000000 →
 iter (fun s:Int×Int×List Int=>jC.ca_ (L.map YMd.nd) ((L.map YMd.nd).length:Int) s.1 s.2.1 s.2.2 some) ((p.length:Int),d,inL t)=some ((L.length:Int),d,inL (t++modsT r))
 | [],p,t,e,h=>by
   have:p=L:=by simpa using e
   subst this
   refine kf ?_
   show jC.ca_ (p.map YMd.nd) ((p.map YMd.nd).length:Int) (p.length:Int) d (inL t) some=_
   unfold jC.ca_
   rw [kM (by rw [List.length_map];omega)]
   simp [modsT]
 | a::r,p,t,e,h=>by
   have hn:L.length=p.length+r.length+1:=by rw [←e];simp;omega
   have hm:modsT (a::r)=a.txt++modsT r:=by simp [modsT]
   rw [hm,z8] at h
   have ha:=hok a (by rw [←e];simp)
   have hz:=hsz a (by rw [←e];simp)
   have step:jC.cj_ (L.map YMd.nd) (p.length:Int) d (inL t) some=some (Prod.fst (Rose.head a.nd),(Prod.fst (Rose.head a.nd)==(9:Int)),d,inL (t++a.txt)):=by
    unfold jC.cj_
    refine jw (Hf e) ?_
    cases a with
    | inv q=>exact br_t (by rfl) (jw (put1 (by simp only [YMd.txt] at h;simp only [Jc];omega)) rfl)
    | ctrl q=>exact br_f (by rfl) (br_t (by rfl) (jw (put1 (by simp only [YMd.txt] at h;simp only [Jc];omega)) rfl))
    | pow q x=>
      have hx:x.ok:=ha
      simp only [YMd.sz] at hz
      exact br_f (by rfl) (br_f (by rfl) (jw kid0 (jw (UD hx (by omega)) (jw (put3 (by simp only [YMd.txt] at h;simp only [Jc];omega)) rfl))))
   refine ke ?_ (by have:=mods_walk (d:=d) hok hsz hl r (p++[a]) (t++a.txt) (by rw [←e];simp) (by rw [z8];omega);rw [z8,zl,←hm] at this;exact this)
   show jC.ca_ (L.map YMd.nd) ((L.map YMd.nd).length:Int) (p.length:Int) d (inL t) some=_
   unfold jC.ca_
   rw [kn (by rw [List.length_map];omega)]
   refine jw step ?_
   rw [Yn (by omega)]
   rfl
theorem sz_of_le {α:Type} {f:α→Nat} {l:List α} {n:Nat} (h:szL f l≤n):∀a∈l,f a≤n:=fun a ha=>Nat.le_trans (szL_mem ha) h
theorem applyw_ok {p:Int} {w:Z6} {mods:List YMd} {args:List YEx} {refs:List YRf} {d:Int} {t:Z6} (h:(YSt.app p w mods args refs).ok) (hs:(YSt.app p w mods args refs).sz≤50000) (ht:t.length≤90000000000) :
 jC (YSt.app p w mods args refs).nd d (inL t)=some (inL (t++appT mods w args refs),d,()):=by
 have hall:=app_le (w:=w) (mods:=mods) (args:=args) (refs:=refs) h
 simp only [YSt.sz] at hs hall
 have hm:=Vs YMd.sz_pos mods
 have ha:=Vs YEx.sz_pos args
 have hr:=Vs YRf.sz_pos refs
 have hL:(appT mods w args refs).length=(modsT mods).length+w.length+(argsT args).length+(refsT refs).length+1:=by simp [appT];omega
 have c1:=Uw YEx.txt_le args h.2.2.1
 have c2:=Uw YRf.txt_le refs h.2.2.2
 unfold jC
 refine jw kid0 ?_
 have k1:=mods_walk (d:=d) h.2.1 (sz_of_le (by omega)) (by omega) mods [] t rfl (by omega)
 refine jw k1 ?_
 refine jw (put1 (t:=t++modsT mods) (a:=w) (by rw [z8];omega)) ?_
 have k2:jC.cA_ 8 p w 0 [gr (mods.map YMd.nd),gr (args.map YEx.nd),gr (refs.map YRf.nd)] d (inL (t++modsT mods++w)) some=some (d,inL (t++modsT mods++w++argsT args)):=by
  unfold jC.cA_
  refine jw kid1 ?_
  show br (decide (((args.map YEx.nd).length:Int)>0)) _ _=_
  rw [List.length_map]
  cases args with
  | nil=>rw [kM (by simp)];simp [argsT]
  | cons x l=>
    rw [kn (by simp)]
    refine jw kid1 (jw (joined_num h.2.2.1 (sz_of_le (by omega)) (by omega) (by omega)) ?_)
    refine jw (put3 (by simp only [Jc,z8,za,zb] at c1 hL ⊢;omega)) ?_
    rfl
 refine jw k2 ?_
 have k3:jC.cB_ 8 p w 0 [gr (mods.map YMd.nd),gr (args.map YEx.nd),gr (refs.map YRf.nd)] d (inL (t++modsT mods++w++argsT args)) some=some (d,inL (t++modsT mods++w++argsT args++refsT refs)):=by
  unfold jC.cB_
  refine jw kid2 ?_
  show br (decide (((refs.map YRf.nd).length:Int)>0)) _ _=_
  rw [List.length_map]
  cases refs with
  | nil=>rw [kM (by simp)];simp [refsT]
  | cons x l=>
    rw [kn (by simp)]
    refine jw kid2 (jw (joined_ref h.2.2.2 (sz_of_le (by omega)) (by omega) (by omega)) ?_)
    refine jw (put2 (by simp only [Jc,z8,za,zb] at c2 hL ⊢;omega)) ?_
    rfl
 refine jw k3 ?_
 refine jw (put1 (by simp only [Jc,z8,za,zb];omega)) ?_
 simp [appT]
end W
end

section
set_option maxRecDepth 8000
set_option maxHeartbeats 800000
namespace W
open Go Go.Ql
theorem repL (d:Nat):Go.Lib.repeatL [9] d=tabsT d:=by
 induction d with
 | zero=>rfl
 | succ d ih=>rw [Go.Lib.repeatL,ih];simp [tabsT,List.replicate_succ]
theorem rep_ok {d:Nat} (h:d≤100000):strings_Repeat [9] (d:Int)=some (tabsT d):=by
 unfold strings_Repeat
 rw [zj (show 0≤(d:Int) by omega),zj (show (d:Int)≤9223372036854775807 by omega),zj (show [(9:UInt8)].length*((d:Nat):Int).toNat≤140737488355328 by simp;omega)]
 rw [Int.toNat_natCast,repL];rfl
theorem kid_no {h:Int×Int×Z6×Int} {l:List Nd} {i:Int} (hi:(l.length:Int)≤i):Jh (.mk h l) i=some noN:=by
 unfold Jh
 show br (decide (i<(l.length:Int))) _ _=_
 rw [kM (by omega)];rfl
noncomputable abbrev FSt (m:Nat) (n:Nd) (d:Int) (t:List Int):=(Ju.fuel m).F_tongue_printer_statement_b (n,d,t,())
noncomputable abbrev FLi (m:Nat) (n:Nd) (d:Int) (t:List Int):=(Ju.fuel m).F_tongue_printer_line_b (n,d,t,())
noncomputable abbrev FBl (m:Nat) (n:Nd) (d:Int) (t:List Int):=(Ju.fuel m).F_tongue_printer_block_b (n,d,t,())
noncomputable abbrev FCh (m:Nat) (n:Nd) (d:Int) (t:List Int):=(Ju.fuel m).F_tongue_printer_choice_b (n,d,t,())
noncomputable abbrev FGa (m:Nat) (n:Nd) (d:Int) (t:List Int):=(Ju.fuel m).F_tongue_printer_gate_b (n,d,t,())
theorem line_of {m:Nat} {n:Nd} {d:Nat} {t v:Z6} (h:FSt m n (d:Int) (inL (t++tabsT d))=some (inL (t++tabsT d++v),(d:Int),())) (hd:d≤100000) (ht:t.length+d+v.length+1≤100000000000) :
 FLi (m+1) n (d:Int) (inL t)=some (inL (t++(tabsT d++v++[10])),(d:Int),()):=by
 cases n with
 | mk hd' l=>
 show @jW (Ju.fuel m) (.mk hd' l) (d:Int) (inL t)=_
 have hl:=Yx d
 unfold jW
 refine jw (rep_ok hd) (jw (put1 (by omega)) (jw h (jw (put1 (by simp only [Jc,z8,za,zb];omega)) ?_)))
 simp
theorem lines_of {m:Nat} {d:Nat} {L:List Nd} (hL:L.length≤1000000):∀(b:YSts) (p:List Nd) (t:Z6),p++b.nds=L→b.ok→d+b.sz≤50000 →
 (∀(s:YSt) (t:Z6),(∃u v,b=YSts.app u (.cons s v))→t.length+200000*s.sz≤90000000000→FSt m s.nd (d:Int) (inL t)=some (inL (t++s.txt d),(d:Int),()))→t.length+200000*b.sz+200000≤90000000000 →
 iter (fun s:Int×Int×List Int=>@jB.cf_ (Ju.fuel (m+1)) _ L (L.length:Int) s.1 s.2.1 s.2.2 some) ((p.length:Int),(d:Int),inL t)=some ((L.length:Int),(d:Int),inL (t++b.lines d))
 | .nil,p,t,e,_,_,_,h=>by
   have:p=L:=by simpa [YSts.nds] using e
   subst this
   refine kf ?_
   show @jB.cf_ (Ju.fuel (m+1)) _ p (p.length:Int) (p.length:Int) (d:Int) (inL t) some=_
   unfold jB.cf_
   rw [kM (by omega)]
   simp [YSts.lines]
 | .cons s l,p,t,e,hok,hd,hs,h=>by
   simp only [YSts.nds] at e
   simp only [YSts.sz] at h hd
   have hn:L.length=p.length+l.nds.length+1:=by rw [←e];simp;omega
   have hx:=s.txt_le d hok.1 (by omega)
   have h1:=line_of (t:=t) (hs s (t++tabsT d) ⟨.nil,l,rfl⟩ (by rw [z8,Yx];omega)) (by omega) (by omega)
   have h2:=lines_of hL l (p++[s.nd]) (t++(tabsT d++s.txt d++[10])) (by rw [←e];simp) hok.2 (by omega) (fun s' t' ⟨u,v,he⟩=>hs s' t' ⟨.cons s u,v,by rw [he];rfl⟩) (by simp only [z8,za,zb,Yx];omega)
   have e3:t++(tabsT d++s.txt d++[10])++l.lines d=t++(YSts.cons s l).lines d:=by simp [YSts.lines]
   rw [z8,e3] at h2
   refine ke ?_ h2
   show @jB.cf_ (Ju.fuel (m+1)) _ L (L.length:Int) (p.length:Int) (d:Int) (inL t) some=_
   unfold jB.cf_
   rw [kn (by omega)]
   refine jw (Ui (show p.length<L.length by omega)) ?_
   have hx:L[p.length]'(by omega)=s.nd:=by subst e;simp
   have h3:FLi (m+1) (Rose.mk (Prod.fst (Rose.head (L[p.length]'(by omega))),Prod.fst (Prod.snd (Rose.head (L[p.length]'(by omega)))),Prod.fst (Prod.snd (Prod.snd (Rose.head (L[p.length]'(by omega))))),Prod.snd (Prod.snd (Prod.snd (Rose.head (L[p.length]'(by omega)))))) (Rose.kids (L[p.length]'(by omega)))) (d:Int) (inL t)=some (inL (t++(tabsT d++s.txt d++[10])),(d:Int),()):=by
    rw [nd_eta,hx];exact h1
   refine jw h3 ?_
   rw [Yn (by omega)]
   rfl
theorem app_mem:∀{b u v:YSts} {s:YSt},b=u.app (.cons s v)→b.ok→s.ok∧s.sz≤b.sz
 | _,.nil,v,s,rfl,h=>⟨h.1,by simp only [YSts.app,YSts.sz];omega⟩
 | _,.cons a u,v,s,rfl,h=>by
   have:=app_mem (u:=u) (v:=v) (s:=s) rfl h.2
   exact ⟨this.1,by simp only [YSts.app,YSts.sz] at this ⊢;omega⟩
theorem block_of {m:Nat} {d:Nat} {q:Int} {b:YSts} {t:Z6} (hok:b.ok) (hb:d+1+b.sz≤50000)
 (hs:∀(s:YSt) (t:Z6),s.ok→s.sz≤b.sz→t.length+200000*s.sz≤90000000000→FSt m s.nd ((d+1:Nat):Int) (inL t)=some (inL (t++s.txt (d+1)),((d+1:Nat):Int),())) (ht:t.length+200000*b.sz+300000≤90000000000) :
 FBl (m+2) (ndK 7 q b.nds) (d:Int) (inL t)=some (inL (t++blkT d b),(d:Int),()):=by
 show @jB (Ju.fuel (m+1)) (ndK 7 q b.nds) (d:Int) (inL t)=_
 have hl:=b.len
 have hll:=b.lines_le (d+1) hok (by omega)
 unfold jB
 refine jw (put1 (by simp only [Jc,za,zb];omega)) ?_
 have h2:=lines_of (m:=m) (d:=d+1) (L:=b.nds) (by omega) b [] (t++[123,10]) rfl hok (by omega) (fun s t ⟨u,v,e⟩ h=>hs s t (app_mem e hok).1 (app_mem e hok).2 h) (by simp only [z8,za,zb];omega)
 have e1:IntKind.i64.wrap ((d:Int)+1)=((d+1:Nat):Int):=by rw [Yn (by omega)];omega
 have e2:IntKind.i64.wrap (((d+1:Nat):Int)-1)=(d:Int):=by rw [Yn (by omega)];omega
 dsimp only
 rw [e1]
 refine jw h2 ?_
 dsimp only
 rw [e2]
 refine jw (rep_ok (by omega)) (jw (put2 (by simp only [Jc,z8,za,zb,Yx];omega)) ?_)
 simp [blkT,Jc]
theorem c1_ok {h:Int×Int×Z6×Int} {l:List Nd} {a b:Nd} (h0:Jh (.mk h l) 0=some a) (h1:Jh (.mk h l) 1=some b) :
 ja.c1 h.1 h.2.1 h.2.2.1 h.2.2.2 l some=some (a.head.1,a.head.2.1,a.head.2.2.1,a.head.2.2.2,a.kids,b.head.1,b.head.2.1,b.head.2.2.1,b.head.2.2.2,b.kids):=by
 unfold ja.c1
 exact jw h0 (jw h1 rfl)
theorem blk_len {d:Nat} {b:YSts} (hok:b.ok) (hb:d+1+b.sz≤50000):(blkT d b).length≤200000*b.sz+d+3:=by
 have hll:=b.lines_le (d+1) hok (by omega)
 simp only [blkT,z8,za,zb,Yx];omega
theorem stmt_walk:∀(N:Nat) (x:YSt),x.sz≤N→x.ok → ∀(m d:Nat) (t:Z6),4*x.sz≤m→d+x.sz≤50000→t.length+200000*x.sz≤90000000000 →
 FSt m x.nd (d:Int) (inL t)=some (inL (t++x.txt d),(d:Int),()):=by
 intro N
 induction N with
 | zero=>intro x hx;have:=x.sz_pos;omega
 | succ N ih=>
   intro x hx hok m d t hm hd ht
   have blk:∀(m:Nat) (q:Int) (b:YSts) (t:Z6),b.ok→b.sz<x.sz→4*b.sz≤m→t.length+200000*b.sz+300000≤90000000000→FBl (m+2) (ndK 7 q b.nds) (d:Int) (inL t)=some (inL (t++blkT d b),(d:Int),()):=by
    intro m q b t hb hlt hm ht
    exact block_of hb (by omega) (fun s t h1 h2 h3=>ih s (by omega) h1 m (d+1) t (by omega) (by omega) h3) ht
   have hp:=x.sz_pos
   obtain ⟨m,rfl⟩:∃n,m=n+4:=⟨m-4,by omega⟩
   show @ja (Ju.fuel (m+3)) x.nd (d:Int) (inL t)=_
   cases x with
   | forS p w lo hi q b=>
     simp only [YSt.sz] at hm hd ht blk hx
     have h0:w.length≤40000:=hok.1.1
     have h1:=lo.txt_le hok.2.1
     have h2:=hi.txt_le hok.2.2.1
     unfold ja
     refine jw (c1_ok (a:=lo.nd) (b:=hi.nd) kid0 kid1) (jw (x:=false) (by rfl) (br_f rfl (br_f (by rfl) (br_f (by rfl) (br_f (by rfl) (br_t (by rfl) ?_))))))
     have k1:ja.c16 w lo.nd.head.1 lo.nd.head.2.1 lo.nd.head.2.2.1 lo.nd.head.2.2.2 lo.nd.kids hi.nd.head.1 hi.nd.head.2.1 hi.nd.head.2.2.1 hi.nd.head.2.2.2 hi.nd.kids (d:Int) (inL t) some
      = some ((d:Int),inL (t++([102,111,114,32]++w++[32,105,110,32]++lo.txt++[32,46,46,32]++hi.txt++[32]))):=by
      unfold ja.c16
      exact jw (Un hok.2.1 (by omega)) (jw (Un hok.2.2.1 (by omega)) (jw (put7 (by first | omega | (simp only [Jc,z8,za,zb];omega))) rfl))
     refine jw k1 (jw kid2 (jw (blk (m+1) q b _ hok.2.2.2 (by omega) (by omega) (by first | omega | (simp only [Jc,z8,za,zb];omega))) ?_))
     simp [YSt.txt,blkT]
   | whenS p e q b=>
     simp only [YSt.sz] at hm hd ht blk hx
     have h1:=e.txt_le hok.1
     unfold ja
     refine jw (c1_ok (a:=e.nd) (b:=ndK 7 q b.nds) kid0 kid1) (jw (x:=false) (by rfl) (br_f rfl (br_f (by rfl) (br_f (by rfl) (br_f (by rfl) (br_f (by rfl) (br_t (by rfl) ?_)))))))
     refine jw (Un hok.1 (by omega)) (jw (put3 (by first | omega | (simp only [Jc,z8,za,zb];omega))) (jw (blk (m+1) q b _ hok.2 (by omega) (by omega) (by first | omega | (simp only [Jc,z8,za,zb];omega))) ?_))
     simp [YSt.txt,blkT,Jc]
   | ifS p no r q b=>
     simp only [YSt.sz] at hm hd ht blk hx
     have h1:=r.txt_le hok.1
     unfold ja
     refine jw (c1_ok (a:=r.nd) (b:=ndK 7 q b.nds) kid0 kid1) (jw (x:=false) (by rfl) (br_f rfl (br_f (by rfl) (br_f (by rfl) (br_f (by rfl) (br_f (by rfl) (br_f (by rfl) (br_t (by rfl) ?_))))))))
     have k1:FCh (m+3) (YSt.ifS p no r q b).nd (d:Int) (inL t)=some (inL (t++(YSt.ifS p no r q b).txt d),(d:Int),()):=by
      show @jG (Ju.fuel (m+2)) (YSt.ifS p no r q b).nd (d:Int) (inL t)=_
      unfold jG
      refine jw (put1 (by first | omega | (simp only [Jc,z8,za,zb];omega))) ?_
      have k2:∀(h:t.length≤90000000000),jG.cc_ (if no=true then 1 else 0) (d:Int) (inL (t++[105,102,32])) some=some ((d:Int),inL (t++[105,102,32]++(if no then [33] else []))):=by
       intro h
       unfold jG.cc_
       cases no with
       | true=>exact br_t (by rfl) (jw (put1 (by first | omega | (simp only [Jc,z8,za,zb];omega))) rfl)
       | false=>exact br_f (by rfl) (by simp)
      have hno:(if no=true then [33] else []:Z6).length≤1:=by split<;>simp
      refine jw (k2 (by omega)) (jw kid0 (jw (refw_ok hok.1 (by omega)) (jw (put2 (by first | omega | (simp only [Jc,z8,za,zb];omega))) (jw kid1 (jw (blk m q b _ hok.2 (by omega) (by omega) (by first | omega | (simp only [Jc,z8,za,zb];omega))) (br_f (by rfl) ?_))))))
      simp [YSt.txt,blkT,Jc]
     refine jw k1 ?_
     rfl
   | ifE p no r q b q2 c=>
     simp only [YSt.sz] at hm hd ht blk hx
     have h1:=r.txt_le hok.1
     unfold ja
     refine jw (c1_ok (a:=r.nd) (b:=ndK 7 q b.nds) kid0 kid1) (jw (x:=false) (by rfl) (br_f rfl (br_f (by rfl) (br_f (by rfl) (br_f (by rfl) (br_f (by rfl) (br_f (by rfl) (br_t (by rfl) ?_))))))))
     have k1:FCh (m+3) (YSt.ifE p no r q b q2 c).nd (d:Int) (inL t)=some (inL (t++(YSt.ifE p no r q b q2 c).txt d),(d:Int),()):=by
      show @jG (Ju.fuel (m+2)) (YSt.ifE p no r q b q2 c).nd (d:Int) (inL t)=_
      unfold jG
      refine jw (put1 (by first | omega | (simp only [Jc,z8,za,zb];omega))) ?_
      have k2:∀(h:t.length≤90000000000),jG.cc_ (if no=true then 1 else 0) (d:Int) (inL (t++[105,102,32])) some=some ((d:Int),inL (t++[105,102,32]++(if no then [33] else []))):=by
       intro h
       unfold jG.cc_
       cases no with
       | true=>exact br_t (by rfl) (jw (put1 (by first | omega | (simp only [Jc,z8,za,zb];omega))) rfl)
       | false=>exact br_f (by rfl) (by simp)
      have hno:(if no=true then [33] else []:Z6).length≤1:=by split<;>simp
      have hbl:=blk_len (d:=d) hok.2.1 (by omega)
      refine jw (k2 (by omega)) (jw kid0 (jw (refw_ok hok.1 (by omega)) (jw (put2 (by first | omega | (simp only [Jc,z8,za,zb];omega))) (jw kid1 (jw (blk m q b _ hok.2.1 (by omega) (by omega) (by first | omega | (simp only [Jc,z8,za,zb];omega))) (br_t (by rfl) (jw (put1 (by first | omega | (simp only [Jc,z8,za,zb];omega))) (jw (x:=ndK 7 q2 c.nds) (by rfl) (jw (blk m q2 c _ hok.2.2 (by omega) (by omega) (by first | omega | (simp only [Jc,z8,za,zb];omega))) ?_)))))))))
      simp [YSt.txt,blkT,Jc]
     refine jw k1 ?_
     rfl
   | meas p a b=>
     simp only [YSt.sz] at hm hd ht blk hx
     have h1:=a.txt_le hok.1
     have h2:=b.txt_le hok.2
     unfold ja
     refine jw (c1_ok (a:=a.nd) (b:=b.nd) kid0 kid1) (jw (x:=false) (by rfl) (br_f rfl (br_f (by rfl) (br_f (by rfl) (br_f (by rfl) (br_f (by rfl) (br_f (by rfl) (br_f (by rfl) (br_t (by rfl) ?_)))))))))
     have k1:ja.c24 a.nd.head.1 a.nd.head.2.1 a.nd.head.2.2.1 a.nd.head.2.2.2 a.nd.kids b.nd.head.1 b.nd.head.2.1 b.nd.head.2.2.1 b.nd.head.2.2.2 b.nd.kids (d:Int) (inL t) some
      = some ((d:Int),inL (t++([109,101,97,115,117,114,101,32]++a.txt++[32,45,62,32]++b.txt++[59]))):=by
      unfold ja.c24
      exact jw (HR hok.1 (by omega)) (jw (HR hok.2 (by omega)) (jw (put5 (by first | omega | (simp only [Jc,z8,za,zb];omega))) rfl))
     exact jw k1 rfl
   | reset p a=>
     simp only [YSt.sz] at hm hd ht blk hx
     have h1:=a.txt_le hok
     unfold ja
     refine jw (c1_ok (a:=a.nd) (b:=noN) kid0 (kid_no (i:=1) (l:=[a.nd]) (by simp))) (jw (x:=false) (by rfl) (br_f rfl (br_f (by rfl) (br_f (by rfl) (br_f (by rfl) (br_f (by rfl) (br_f (by rfl) (br_f (by rfl) (br_f (by rfl) (br_t (by rfl) ?_))))))))))
     exact jw (HR hok (by omega)) (jw (put3 (by first | omega | (simp only [Jc,z8,za,zb];omega))) rfl)
   | within p q a q2 b=>
     simp only [YSt.sz] at hm hd ht blk hx
     have hbl:=blk_len (d:=d) hok.1 (by omega)
     unfold ja
     refine jw (c1_ok (a:=ndK 7 q a.nds) (b:=ndK 7 q2 b.nds) kid0 kid1) (jw (x:=false) (by rfl) (br_f rfl (br_f (by rfl) (br_f (by rfl) (br_f (by rfl) (br_f (by rfl) (br_f (by rfl) (br_f (by rfl) (br_f (by rfl) (br_f (by rfl) (br_t (by rfl) ?_)))))))))))
     refine jw (put1 (t:=t) (a:=[119,105,116,104,105,110,32]) (by first | omega | (simp only [Jc,z8,za,zb];omega))) (jw (blk (m+1) q a _ hok.1 (by omega) (by omega) (by first | omega | (simp only [Jc,z8,za,zb];omega))) (jw (put1 (t:=t++[119,105,116,104,105,110,32]++blkT d a) (a:=[32,97,112,112,108,121,32]) (by first | omega | (simp only [Jc,z8,za,zb];omega))) (jw (blk (m+1) q2 b _ hok.2 (by omega) (by omega) (by first | omega | (simp only [Jc,z8,za,zb];omega))) ?_)))
     simp [YSt.txt,blkT,Jc]
   | flip p r e=>
     simp only [YSt.sz] at hm hd ht blk hx
     have h1:=r.txt_le hok.1
     have h2:=e.txt_le hok.2
     unfold ja
     refine jw (c1_ok (a:=r.nd) (b:=e.nd) kid0 kid1) (jw (x:=false) (by rfl) (br_f rfl (br_f (by rfl) (br_f (by rfl) (br_f (by rfl) (br_f (by rfl) (br_f (by rfl) (br_f (by rfl) (br_f (by rfl) (br_f (by rfl) (br_f (by rfl) (br_t (by rfl) ?_))))))))))))
     have k1:ja.c33 r.nd.head.1 r.nd.head.2.1 r.nd.head.2.2.1 r.nd.head.2.2.2 r.nd.kids e.nd.head.1 e.nd.head.2.1 e.nd.head.2.2.1 e.nd.head.2.2.2 e.nd.kids (d:Int) (inL t) some
      = some ((d:Int),inL (t++(r.txt++[32,94,61,32]++e.txt++[59]))):=by
      unfold ja.c33
      exact jw (HR hok.1 (by omega)) (jw (truth_e hok.2 (by omega)) (jw (put4 (by first | omega | (simp only [Jc,z8,za,zb];omega))) rfl))
     exact jw k1 rfl
   | app p w mods args refs=>
     have hd':(YSt.app p w mods args refs).sz≤50000:=by omega
     have k:=applyw_ok (p:=p) (d:=(d:Int)) (t:=t) hok hd' (by omega)
     unfold ja
     refine jw (c1_ok (a:=gr (mods.map YMd.nd)) (b:=gr (args.map YEx.nd)) kid0 kid1) (jw (x:=false) (by rfl) (br_f rfl (br_f (by rfl) (br_f (by rfl) (br_t (by rfl) (jw k rfl))))))
end W
end

section
set_option maxRecDepth 8000
set_option maxHeartbeats 800000
namespace W
open Go Go.Ql
theorem w2_le {x:Int×Z6×Bool} (h:kT x.2.1):(w2T x).length+20≤40100*p2sz x:=by
 have:x.2.1.length≤40000:=h.1
 unfold w2T p2sz
 split<;>simp<;>omega
theorem w1_le {x:Int×Z6} (h:kT x.2):x.2.length+20≤40100*(fun _:Int×Z6=>1) x:=by
 have:x.2.length≤40000:=h.1
 show _≤40100*1
 omega
theorem szL_one {α:Type}:∀l:List α,szL (fun _=>1) l=l.length
 | []=>rfl
 | a::l=>by have:=szL_one l;simp only [szL,List.map_cons,List.sum_cons,za] at *;omega
theorem it_le:∀(x:YIt),x.ok→x.sz≤49000→x.txt.length+2≤200000*x.sz
 | .decl bit p w e,h,hs=>by
   have h0:w.length≤40000:=h.1.1
   have h1:=e.txt_le h.2
   have h2:(if bit=true then [98,105,116,32] else [113,117,98,105,116,32]:Z6).length≤6:=by split<;>simp
   simp only [YIt.txt,YIt.sz,z8,za,zb];omega
 | .const p w e,h,hs=>by
   have h0:w.length≤40000:=h.1.1
   have h1:=e.txt_le h.2
   simp only [YIt.txt,YIt.sz,z8,za,zb];omega
 | .gate p w ints wires q b,h,hs=>by
   simp only [YIt.sz] at hs
   have h0:w.length≤40000:=h.1.1
   have h1:=Uw (f:=fun x:Int×Z6=>x.2) (z:=fun _=>1) (fun a ha=>w1_le ha) ints h.2.1
   rw [szL_one] at h1
   have h2:=Uw (f:=w2T) (z:=p2sz) (fun a ha=>w2_le ha) wires h.2.2.1
   have h3:=blk_len (d:=0) (b:=b) h.2.2.2.2 (by omega)
   have h4:(intsT ints).length≤2+(comT (ints.map fun x=>x.2)).length:=by unfold intsT;split<;>simp;omega
   simp only [YIt.txt,YIt.sz,z8,za,zb];omega
 | .st s,h,hs=>by
   have:=s.txt_le 0 h (by have:s.sz≤49000:=hs;omega)
   show (s.txt 0).length+2≤200000*s.sz
   omega
theorem gate_walk {m:Nat} {p q:Int} {w:Z6} {ints:List (Int×Z6)} {wires:List (Int×Z6×Bool)} {b:YSts} {t:Z6} (h:(YIt.gate p w ints wires q b).ok) (hs:(YIt.gate p w ints wires q b).sz≤49000)
 (hm:4*b.sz≤m) (ht:t.length+200000*(YIt.gate p w ints wires q b).sz≤90000000000) :
 FGa (m+3) (YIt.gate p w ints wires q b).nd (0:Int) (inL t)=some (inL (t++(YIt.gate p w ints wires q b).txt),(0:Int),()):=by
 simp only [YIt.sz] at hs ht
 have h0:w.length≤40000:=h.1.1
 have h1:=Uw (f:=fun x:Int×Z6=>x.2) (z:=fun _=>1) (fun a ha=>w1_le ha) ints h.2.1
 rw [szL_one] at h1
 have h2:=Uw (f:=w2T) (z:=p2sz) (fun a ha=>w2_le ha) wires h.2.2.1
 have hw:=Vs p2sz_pos wires
 have h4:(intsT ints).length≤2+(comT (ints.map fun x=>x.2)).length:=by unfold intsT;split<;>simp;omega
 show @jL (Ju.fuel (m+2)) (YIt.gate p w ints wires q b).nd (0:Int) (inL t)=_
 unfold jL
 refine jw (put2 (b:=w) (by first | omega | (simp only [Jc,z8,za,zb];omega))) ?_
 have k1:jL.cc_ 5 p w 0 [gr (ints.map p1nd),gr (wires.map p2nd),ndK 7 q b.nds] (0:Int) (inL (t++([103,97,116,101,32]++w))) some=some ((0:Int),inL (t++([103,97,116,101,32]++w)++intsT ints)):=by
  unfold jL.cc_
  refine jw kid0 ?_
  show br (decide (((ints.map p1nd).length:Int)>0)) _ _=_
  rw [List.length_map]
  cases ints with
  | nil=>rw [kM (by simp)];simp [intsT]
  | cons x l=>
    rw [kn (by simp)]
    refine jw kid0 (jw (joined_p1 (fun y hy=>(h.2.1 y hy).1) (by simp only [za] at hs ⊢;omega) (by omega)) ?_)
    refine jw (put3 (by simp only [Jc,z8,za,zb] at h1 ht ⊢;omega)) ?_
    rfl
 refine jw k1 (jw kid1 (jw (joined_p2 (fun y hy=>(h.2.2.1 y hy).1) (by omega) (by omega)) (jw (put3 (by first | omega | (simp only [Jc,z8,za,zb];omega))) (jw kid2 ?_))))
 refine jw (block_of (m:=m) (d:=0) h.2.2.2.2 (by omega) (fun s t h1 h2 h3=>stmt_walk s.sz s (zt _) h1 m 1 t (by omega) (by omega) h3) (by first | omega | (simp only [Jc,z8,za,zb];omega))) ?_
 simp [YIt.txt,Jc]
theorem item_walk {x:YIt} (h:x.ok) (hs:x.sz≤49000) {t:Z6} (ht:t.length+200000*x.sz≤90000000000):FSt 999999 x.nd (0:Int) (inL t)=some (inL (t++x.txt),(0:Int),()):=by
 cases x with
 | decl bit p w e=>
   simp only [YIt.sz] at hs ht
   have h0:w.length≤40000:=h.1.1
   have h1:=e.txt_le h.2
   have h2:(if bit=true then [98,105,116,32] else [113,117,98,105,116,32]:Z6).length≤6:=by split<;>simp
   have k1:ja.c8 (if bit=true then [98,105,116,32] else [113,117,98,105,116,32]) w e.nd.head.1 e.nd.head.2.1 e.nd.head.2.2.1 e.nd.head.2.2.2 e.nd.kids (0:Int) (inL t) some=some ((0:Int),inL (t++(YIt.decl bit p w e).txt)):=by
    unfold ja.c8
    exact jw (Un h.2 (by omega)) (jw (put5 (by first | omega | (simp only [Jc,z8,za,zb];omega))) rfl)
   show @ja (Ju.fuel 999998) (YIt.decl bit p w e).nd (0:Int) (inL t)=_
   unfold ja
   refine jw (c1_ok (a:=e.nd) (b:=noN) kid0 (kid_no (i:=1) (l:=[e.nd]) (by simp))) ?_
   cases bit with
   | true=>exact jw (x:=true) (by rfl) (br_t rfl (jw (x:=[98,105,116,32]) (by rfl) (jw k1 rfl)))
   | false=>exact jw (x:=true) (by rfl) (br_t rfl (jw (x:=[113,117,98,105,116,32]) (by rfl) (jw k1 rfl)))
 | const p w e=>
   simp only [YIt.sz] at hs ht
   have h0:w.length≤40000:=h.1.1
   have h1:=e.txt_le h.2
   have k1:ja.c10 w e.nd.head.1 e.nd.head.2.1 e.nd.head.2.2.1 e.nd.head.2.2.2 e.nd.kids (0:Int) (inL t) some=some ((0:Int),inL (t++(YIt.const p w e).txt)):=by
    unfold ja.c10
    exact jw (Un h.2 (by omega)) (jw (put5 (by first | omega | (simp only [Jc,z8,za,zb];omega))) rfl)
   show @ja (Ju.fuel 999998) (YIt.const p w e).nd (0:Int) (inL t)=_
   unfold ja
   refine jw (c1_ok (a:=e.nd) (b:=noN) kid0 (kid_no (i:=1) (l:=[e.nd]) (by simp))) ?_
   exact jw (x:=false) (by rfl) (br_f rfl (br_t (by rfl) (jw k1 rfl)))
 | gate p w ints wires q b=>
   have hb:b.sz≤49000:=by simp only [YIt.sz] at hs;omega
   have k1:=gate_walk (m:=999995) h hs (by omega) ht
   show @ja (Ju.fuel 999998) (YIt.gate p w ints wires q b).nd (0:Int) (inL t)=_
   unfold ja
   refine jw (c1_ok (a:=gr (ints.map p1nd)) (b:=gr (wires.map p2nd)) kid0 kid1) ?_
   exact jw (x:=false) (by rfl) (br_f rfl (br_f (by rfl) (br_t (by rfl) (jw k1 rfl))))
 | st s=>
   have hs:s.sz≤49000:=hs
   have ht:t.length+200000*s.sz≤90000000000:=ht
   exact stmt_walk s.sz s (zt _) h 999999 0 t (by omega) (by omega) ht
theorem print_loop {L:List YIt} (hok:∀x∈L,x.ok) (hsz:∀x∈L,x.sz≤49000) (hl:L.length≤1000000):∀(r p:List YIt) (t:Z6),p++r=L→t.length+200000*szL YIt.sz r≤90000000000 →
 iter (fun s:Int×Int×List Int=>JB.cb_ (L.map YIt.nd) ((L.map YIt.nd).length:Int) s.1 s.2.1 s.2.2 some) ((p.length:Int),(0:Int),inL t)=some ((L.length:Int),(0:Int),inL (t++progT r))
 | [],p,t,e,h=>by
   have:p=L:=by simpa using e
   subst this
   refine kf ?_
   show JB.cb_ (p.map YIt.nd) ((p.map YIt.nd).length:Int) (p.length:Int) (0:Int) (inL t) some=_
   unfold JB.cb_
   rw [kM (by rw [List.length_map];omega)]
   simp [progT]
 | a::r,p,t,e,h=>by
   have hn:L.length=p.length+r.length+1:=by rw [←e];simp;omega
   have hz:szL YIt.sz (a::r)=a.sz+szL YIt.sz r:=by simp [szL]
   rw [hz] at h
   have ha:=hok a (by rw [←e];simp)
   have has:=hsz a (by rw [←e];simp)
   have hle:=it_le a ha has
   have hi:=item_walk ha has (t:=t++tabsT 0) (by rw [z8,Yx];omega)
   have h1:=line_of (m:=999999) (d:=0) (n:=a.nd) (t:=t) (v:=a.txt) hi (by omega) (by omega)
   have h2:=print_loop hok hsz hl r (p++[a]) (t++(tabsT 0++a.txt++[10])) (by rw [←e];simp) (by simp only [z8,za,zb,Yx];omega)
   have e3:t++(tabsT 0++a.txt++[10])++progT r=t++progT (a::r):=by simp [progT,tabsT]
   rw [z8,e3] at h2
   refine ke ?_ h2
   show JB.cb_ (L.map YIt.nd) ((L.map YIt.nd).length:Int) (p.length:Int) (0:Int) (inL t) some=_
   unfold JB.cb_
   rw [kn (by rw [List.length_map];omega)]
   refine jw (Hf e) ?_
   have h3:kS (Rose.mk (Prod.fst (Rose.head a.nd),Prod.fst (Prod.snd (Rose.head a.nd)),Prod.fst (Prod.snd (Prod.snd (Rose.head a.nd))),Prod.snd (Prod.snd (Prod.snd (Rose.head a.nd)))) (Rose.kids a.nd),(0:Int),inL t,())=some (inL (t++(tabsT 0++a.txt++[10])),(0:Int),()):=by
    rw [nd_eta];exact h1
   refine jw h3 ?_
   rw [Yn (by omega)]
   rfl
theorem back8 (t:Z6):List.map (fun n:Int=>UInt8.ofNat n.toNat) (inL t)=t:=by
 unfold inL
 rw [List.map_map]
 refine List.map_id'' (fun b=>?_) t
 simp
theorem print_ok {L:List YIt} (hok:∀x∈L,x.ok) (hs:szL YIt.sz L≤49000):JB (prog L)=some (progT L):=by
 unfold JB
 have hl:=Vs YIt.sz_pos L
 have h:=print_loop hok (sz_of_le hs) (by omega) L [] [] rfl (by simp only [zb];omega)
 refine jw h ?_
 have hb:JA (0:Int) (inL (progT L))=some (progT L,(0:Int),()):=by
  unfold JA
  rw [show List.all (inL (progT L)) (fun n=>decide (0≤n)&&decide (n<256))=true from by
   rw [zu]
   intro n hn
   obtain ⟨b,_,rfl⟩:=List.mem_map.1 hn
   have:=b.toNat_lt
   simp;omega,back8]
  rfl
 refine jw hb rfl
end W
end
