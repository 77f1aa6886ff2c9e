/- Plain laws: what is read is a program; how it is written. -/
import Derived.Test.YtdocfkidnnalnaaGreatDoorPa
import Derived.Test.YtdocfkidnnalnaaGreatDoorPb
import Derived.Test.YtdocfkidnnalnaaGreatDoorWc
import Derived.Test.YtdocfkidnnalnaaGreatDoorWd
set_option linter.all false
section
namespace Go.Ql
def Ve (w:Z7):Prop:=w.length≤40000∧keysT.elem w=false ∧ ∃c r,w=c::r∧lettr c=true ∧ ∀d∈r,(lettr d||digt d)=true
inductive YEx where
 | num (p v:Int) | name (p:Int) (w:Z7) | size (p:Int) (w:Z7) | neg (p:Int) (a:YEx) | bin (p:Int) (w:Z7) (a b:YEx)
def YEx.nd:YEx→Nd
 | .num p v=>ndN 20 p [] v []
 | .name p w=>ndN 21 p w 0 []
 | .size p w=>ndN 22 p w 0 []
 | .neg p a=>ndK 23 p [a.nd]
 | .bin p w a b=>ndN 24 p w 0 [a.nd,b.nd]
def YEx.ok:YEx→Prop
 | .num _ v=>0≤v∧v<1000000000
 | .name _ w=>Ve w
 | .size _ w=>Ve w
 | .neg _ a=>a.ok
 | .bin _ w a b=>rankT w≠0∧a.ok∧b.ok
def YEx.sz:YEx→Nat
 | .num _ _=>1
 | .name _ _=>1
 | .size _ _=>4
 | .neg _ a=>1+a.sz
 | .bin _ _ a b=>1+a.sz+b.sz
inductive YRf where
 | one (p:Int) (w:Z7) | idx (p:Int) (w:Z7) (a:YEx) | rng (p:Int) (w:Z7) (a b:YEx)
def YRf.nd:YRf→Nd
 | .one p w=>ndN 19 p w 0 []
 | .idx p w a=>ndN 19 p w 1 [a.nd]
 | .rng p w a b=>ndN 19 p w 2 [a.nd,b.nd]
def YRf.ok:YRf→Prop
 | .one _ w=>Ve w
 | .idx _ w a=>Ve w∧a.ok
 | .rng _ w a b=>Ve w∧a.ok∧b.ok
def YRf.sz:YRf→Nat
 | .one _ _=>1
 | .idx _ _ a=>3+a.sz
 | .rng _ _ a b=>4+a.sz+b.sz
inductive YTr where
 | op (k:Nat) (p:Int) (a b:YTr) | not (p:Int) (a:YTr) | bit (p v:Int) | ref (r:YRf)
def YTr.nd:YTr→Nd
 | .op k p a b=>ndK (bopT k).2 p [a.nd,b.nd]
 | .not p a=>ndK 27 p [a.nd]
 | .bit p v=>ndN 26 p [] v []
 | .ref r=>r.nd
def YTr.ok:YTr→Prop
 | .op k _ a b=>(1≤k∧k≤3)∧a.ok∧b.ok
 | .not _ a=>a.ok
 | .bit _ v=>v=0∨v=1
 | .ref r=>r.ok
def YTr.sz:YTr→Nat
 | .op _ _ a b=>1+a.sz+b.sz
 | .not _ a=>1+a.sz
 | .bit _ _=>1
 | .ref r=>r.sz
inductive YMd where
 | inv (p:Int) | ctrl (p:Int) | pow (p:Int) (e:YEx)
def YMd.nd:YMd→Nd
 | .inv p=>ndK 9 p []
 | .ctrl p=>ndK 10 p []
 | .pow p e=>ndK 11 p [e.nd]
def YMd.ok:YMd→Prop
 | .pow _ e=>e.ok
 | _=>True
def YMd.sz:YMd→Nat
 | .pow _ e=>4+e.sz
 | _=>2
def szL {α:Type} (f:α→Nat) (l:List α):Nat:=(l.map f).sum
theorem szL_snoc {α:Type} {f:α→Nat} {l:List α} {a:α}:szL f (l++[a])=szL f l+f a:=by simp [szL]
mutual
inductive YSt where
 | forS (p:Int) (w:Z7) (lo hi:YEx) (q:Int) (b:YSts)
 | whenS (p:Int) (e:YEx) (q:Int) (b:YSts)
 | ifS (p:Int) (no:Bool) (r:YRf) (q:Int) (b:YSts)
 | ifE (p:Int) (no:Bool) (r:YRf) (q:Int) (b:YSts) (q2:Int) (c:YSts)
 | meas (p:Int) (a b:YRf)
 | reset (p:Int) (a:YRf)
 | within (p:Int) (q:Int) (a:YSts) (q2:Int) (b:YSts)
 | flip (p:Int) (r:YRf) (e:YTr)
 | app (p:Int) (w:Z7) (mods:List YMd) (args:List YEx) (refs:List YRf)
inductive YSts where
 | nil | cons (s:YSt) (l:YSts)
end
mutual
def YSt.nd:YSt→Nd
 | .forS p w lo hi q b=>ndN 12 p w 0 [lo.nd,hi.nd,ndK 7 q b.nds]
 | .whenS p e q b=>ndK 13 p [e.nd,ndK 7 q b.nds]
 | .ifS p no r q b=>ndN 14 p [] (if no then 1 else 0) [r.nd,ndK 7 q b.nds]
 | .ifE p no r q b q2 c=>ndN 14 p [] (if no then 1 else 0) [r.nd,ndK 7 q b.nds,ndK 7 q2 c.nds]
 | .meas p a b=>ndK 15 p [a.nd,b.nd]
 | .reset p a=>ndK 16 p [a.nd]
 | .within p q a q2 b=>ndK 17 p [ndK 7 q a.nds,ndK 7 q2 b.nds]
 | .flip p r e=>ndK 18 p [r.nd,e.nd]
 | .app p w mods args refs=>ndN 8 p w 0 [gr (mods.map YMd.nd),gr (args.map YEx.nd),gr (refs.map YRf.nd)]
def YSts.nds:YSts→List Nd
 | .nil=>[]
 | .cons s l=>s.nd::l.nds
end
mutual
def YSt.ok:YSt→Prop
 | .forS _ w lo hi _ b=>Ve w∧lo.ok∧hi.ok∧b.ok
 | .whenS _ e _ b=>e.ok∧b.ok
 | .ifS _ _ r _ b=>r.ok∧b.ok
 | .ifE _ _ r _ b _ c=>r.ok∧b.ok∧c.ok
 | .meas _ a b=>a.ok∧b.ok
 | .reset _ a=>a.ok
 | .within _ _ a _ b=>a.ok∧b.ok
 | .flip _ r e=>r.ok∧e.ok
 | .app _ w mods args refs=>Ve w∧(∀m∈mods,m.ok)∧(∀e∈args,e.ok)∧(∀r∈refs,r.ok)
def YSts.ok:YSts→Prop
 | .nil=>True
 | .cons s l=>s.ok∧l.ok
end
mutual
def YSt.sz:YSt→Nat
 | .forS _ _ lo hi _ b=>6+lo.sz+hi.sz+b.sz
 | .whenS _ e _ b=>3+e.sz+b.sz
 | .ifS _ _ r _ b=>3+r.sz+b.sz
 | .ifE _ _ r _ b _ c=>6+r.sz+b.sz+c.sz
 | .meas _ a b=>3+a.sz+b.sz
 | .reset _ a=>2+a.sz
 | .within _ _ a _ b=>6+a.sz+b.sz
 | .flip _ r e=>2+r.sz+e.sz
 | .app _ _ mods args refs=>2+szL YMd.sz mods+szL YEx.sz args+szL YRf.sz refs
def YSts.sz:YSts→Nat
 | .nil=>0
 | .cons s l=>s.sz+l.sz
end
def YSts.app:YSts→YSts→YSts
 | .nil,m=>m
 | .cons s l,m=>.cons s (l.app m)
theorem YSts.app_nds:∀(l m:YSts),(l.app m).nds=l.nds++m.nds
 | .nil,m=>by simp [YSts.app,YSts.nds]
 | .cons s l,m=>by simp [YSts.app,YSts.nds,YSts.app_nds l m]
theorem YSts.app_sz:∀(l m:YSts),(l.app m).sz=l.sz+m.sz
 | .nil,m=>by simp [YSts.app,YSts.sz]
 | .cons s l,m=>by simp [YSts.app,YSts.sz,YSts.app_sz l m];omega
theorem YSts.app_ok:∀(l m:YSts),l.ok→m.ok→(l.app m).ok
 | .nil,m,_,h=>h
 | .cons s l,m,h,h'=>by
   simp only [YSts.ok] at h
   simp only [YSts.app,YSts.ok]
   exact ⟨h.1,YSts.app_ok l m h.2 h'⟩
inductive YIt where
 | decl (bit:Bool) (p:Int) (w:Z7) (e:YEx) | const (p:Int) (w:Z7) (e:YEx)
 | gate (p:Int) (w:Z7) (ints:List (Int×Z7)) (wires:List (Int×Z7×Bool)) (q:Int) (b:YSts)
 | st (s:YSt)
def p1nd (x:Int×Z7):Nd:=ndN 6 x.1 x.2 0 []
def p2nd (x:Int×Z7×Bool):Nd:=ndN 6 x.1 x.2.1 (if x.2.2 then 1 else 0) []
def p2sz (x:Int×Z7×Bool):Nat:=if x.2.2 then 3 else 1
def YIt.nd:YIt→Nd
 | .decl bit p w e=>ndN (if bit then 3 else 2) p w 0 [e.nd]
 | .const p w e=>ndN 4 p w 0 [e.nd]
 | .gate p w ints wires q b=>ndN 5 p w 0 [gr (ints.map p1nd),gr (wires.map p2nd),ndK 7 q b.nds]
 | .st s=>s.nd
def YIt.ok:YIt→Prop
 | .decl _ _ w e=>Ve w∧e.ok
 | .const _ w e=>Ve w∧e.ok
 | .gate _ w ints wires _ b=>Ve w∧(∀x∈ints,Ve x.2)∧(∀x∈wires,Ve x.2.1)∧wires≠[]∧b.ok
 | .st s=>s.ok
def YIt.sz:YIt→Nat
 | .decl _ _ _ e=>5+e.sz
 | .const _ _ e=>4+e.sz
 | .gate _ _ ints wires _ b=>4+ints.length+szL p2sz wires+b.sz
 | .st s=>s.sz
def TkV (t:Tk):Prop:=(t.1=1→Ve t.2.1)∧(t.1=3→0≤numT' t.2.1∧numT' t.2.1<1000000000)
def AllV (ts:List Tk):Prop:=∀t∈ts,TkV t
theorem AllV.tail {ts:List Tk} (h:AllV ts):AllV ts.tail:=fun t ht=>h t (List.mem_of_mem_tail ht)
theorem AllV.hd {ts:List Tk} (h:AllV ts):TkV (hdT ts):=by
 cases ts with
 | nil=>exact ⟨(fun h=>by cases h),(fun h=>by cases h)⟩
 | cons t l=>exact h t (by simp)
def Sd {α β:Type} (f:β→α) (G:β→Prop) (z:β→Nat) (r:Rd α) (L:Nat):Prop:=match r with
 | .ok a us=>∃b,a=f b∧G b∧z b+us.length≤L∧AllV us
 | _=>True
theorem Sd.bind {α β γ δ:Type} {f:β→α} {G:β→Prop} {z:β→Nat} {r:Rd α} {L:Nat} {f':δ→γ} {G':δ→Prop} {z':δ→Nat} {g:α→List Tk→Rd γ} {M:Nat}
 (h:Sd f G z r L) (hg:∀b us,G b→z b+us.length≤L→AllV us→Sd f' G' z' (g (f b) us) M):Sd f' G' z' (r.bind g) M:=by
 cases r with
 | ok a us=>
   obtain ⟨b,rfl,h1,h2,h3⟩:=h
   exact hg b us h1 h2 h3
 | err e=>trivial
 | out=>trivial
theorem Sd.ite {α β:Type} {f:β→α} {G:β→Prop} {z:β→Nat} {c:Prop} [Decidable c] {r s:Rd α} {L:Nat} (h1:c→Sd f G z r L) (h2:¬c→Sd f G z s L):Sd f G z (if c then r else s) L:=by
 by_cases h:c
 ·rw [if_pos h];exact h1 h
 ·rw [if_neg h];exact h2 h
theorem Sd.mk {α β:Type} {f:β→α} {G:β→Prop} {z:β→Nat} {us:List Tk} {L:Nat} (b:β) (h1:G b) (h2:z b+us.length≤L) (h3:AllV us):Sd f G z (.ok (f b) us) L:=⟨b,rfl,h1,h2,h3⟩
theorem kY {w:Z7} {ts:List Tk} (h:AllV ts):Sd id (fun _=>True) (fun _=>1) (wantT w ts) ts.length:=by
 unfold wantT
 refine Sd.ite (fun hs=>?_) (fun _=>trivial)
 have:=jT hs
 exact ⟨hdT ts,rfl,trivial,by show 1+_≤_;omega,h.tail⟩
theorem UB {ts:List Tk} (h:AllV ts):Sd id (fun t=>Ve t.2.1) (fun _=>1) (wordT ts) ts.length:=by
 unfold wordT
 refine Sd.ite (fun hs=>?_) (fun _=>trivial)
 have:=Vg hs (by omega)
 exact ⟨hdT ts,rfl,h.hd.1 hs,by show 1+_≤_;omega,h.tail⟩
theorem num_sd:∀n:Nat,
 (∀lvl ts,1≤lvl→AllV ts→Sd YEx.nd YEx.ok YEx.sz (xpT n lvl ts) ts.length) ∧
 (∀lvl (a:YEx) ts,1≤lvl→a.ok→AllV ts→Sd YEx.nd YEx.ok YEx.sz (taT n lvl a.nd ts) (a.sz+ts.length)) ∧
 (∀ts,AllV ts→Sd YEx.nd YEx.ok YEx.sz (siT n ts) ts.length)∧(∀ts,AllV ts→Sd YEx.nd YEx.ok YEx.sz (atT n ts) ts.length):=by
 intro n
 induction n with
 | zero=>exact ⟨fun _ _ _ _=>trivial,fun _ _ _ _ _ _=>trivial,fun _ _=>trivial,fun _ _=>trivial⟩
 | succ n ih=>
   obtain ⟨hE,hT,hS,hA⟩:=ih
   have wk:∀{r:Rd Nd} {L M:Nat},Sd YEx.nd YEx.ok YEx.sz r L→L≤M→Sd YEx.nd YEx.ok YEx.sz r M:=by
    intro r L M h hm
    cases r with
    | ok a us=>obtain ⟨b,h1,h2,h3,h4⟩:=h;exact ⟨b,h1,h2,by omega,h4⟩
    | err e=>trivial
    | out=>trivial
   refine ⟨fun lvl ts hl hv=>?_,fun lvl a ts hl ha hv=>?_,fun ts hv=>?_,fun ts hv=>?_⟩
   ·rw [xpT]
    refine Sd.ite (fun h=>hS ts hv) (fun h=>?_)
    exact (hE (lvl+1) ts (by omega) hv).bind fun b us hb hz hu=>wk (hT lvl b us hl hb hu) hz
   ·rw [taT]
    refine Sd.ite (fun h=>?_) (fun h=>Sd.mk a ha (by omega) hv)
    have ht:=Vg h.1 (by omega)
    refine (hE (lvl+1) ts.tail (by omega) hv.tail).bind fun b us hb hz hu=>?_
    have hr:rankT (hdT ts).2.1≠0:=by rw [h.2];omega
    refine Sd.ite (fun h1=>Sd.mk (YEx.bin (hdT ts).2.2 (hdT ts).2.1 a b) ⟨hr,ha,hb⟩ (by simp only [YEx.sz];omega) hu) (fun h1=>?_)
    exact wk (hT lvl (YEx.bin (hdT ts).2.2 (hdT ts).2.1 a b) us hl ⟨hr,ha,hb⟩ hu) (by simp only [YEx.sz];omega)
   ·rw [siT]
    refine Sd.ite (fun h=>?_) (fun h=>?_)
    ·have ht:=jT h
     exact (hS ts.tail hv.tail).bind fun b us hb hz hu=>Sd.mk (YEx.neg (hdT ts).2.2 b) hb (by simp only [YEx.sz];omega) hu
    ·refine (hA ts hv).bind fun b us hb hz hu=>Sd.ite (fun h2=>?_) (fun _=>Sd.mk b hb hz hu)
     have ht:=jT h2
     have hr:rankT (hdT us).2.1≠0:=by rw [Uo h2];decide
     exact (hS us.tail hu.tail).bind fun c vs hc hz' hv=>Sd.mk (YEx.bin (hdT us).2.2 (hdT us).2.1 b c) ⟨hr,hb,hc⟩ (by simp only [YEx.sz];omega) hv
   ·rw [atT]
    refine Sd.ite (fun h=>?_) fun _=>Sd.ite (fun h=>?_) fun _=>Sd.ite (fun h=>?_) fun _=>?_
    ·have ht:=Vg h (by omega)
     exact Sd.mk (YEx.num (hdT ts).2.2 (numT' (hdT ts).2.1)) (hv.hd.2 h) (by simp only [YEx.sz];omega) hv.tail
    ·have ht:=Vg h (by omega)
     exact Sd.mk (YEx.name (hdT ts).2.2 (hdT ts).2.1) (hv.hd.1 h) (by simp only [YEx.sz];omega) hv.tail
    ·have ht:=jT h
     exact (kY hv.tail).bind fun _ us _ hz hu=>(UB hu).bind fun w vs hw hz' hv=>(kY hv).bind fun _ xs _ hz'' hx=>Sd.mk (YEx.size (hdT ts).2.2 w.2.1) hw (by simp only [YEx.sz];omega) hx
    ·exact (kY hv).bind fun _ us _ hz hu=>(hE 1 us (by omega) hu).bind fun b vs hb hz' hv=>(kY hv).bind fun _ xs _ hz'' hx=>Sd.mk b hb (by omega) hx
theorem ex_sd {n:Nat} {ts:List Tk} (h:AllV ts):Sd YEx.nd YEx.ok YEx.sz (xpT n 1 ts) ts.length:=(num_sd n).1 1 ts (by omega) h
theorem rf_sd {n:Nat} {w:Tk} {ts:List Tk} (hw:Ve w.2.1) (h:AllV ts):Sd YRf.nd YRf.ok YRf.sz (rfT n w ts) (1+ts.length):=by
 unfold rfT
 refine Sd.ite (fun hs=>?_) (fun _=>Sd.mk (YRf.one w.2.2 w.2.1) hw (by simp only [YRf.sz];omega) h)
 have ht:=jT hs
 refine (ex_sd h.tail).bind fun a us ha hz hu=>Sd.ite (fun hs2=>?_) (fun _=>?_)
 ·have ht:=jT hs2
  exact (ex_sd hu.tail).bind fun b vs hb hz' hv=>(kY hv).bind fun _ xs _ hz'' hx=>Sd.mk (YRf.rng w.2.2 w.2.1 a b) ⟨hw,ha,hb⟩ (by simp only [YRf.sz];omega) hx
 ·exact (kY hu).bind fun _ xs _ hz'' hx=>Sd.mk (YRf.idx w.2.2 w.2.1 a) ⟨hw,ha⟩ (by simp only [YRf.sz];omega) hx
theorem Sd.mono {α β:Type} {f:β→α} {G:β→Prop} {z:β→Nat} {r:Rd α} {L M:Nat} (h:Sd f G z r L) (hm:L≤M):Sd f G z r M:=by
 cases r with
 | ok a us=>obtain ⟨b,h1,h2,h3,h4⟩:=h;exact ⟨b,h1,h2,by omega,h4⟩
 | err e=>trivial
 | out=>trivial
theorem re_sd {n:Nat} {ts:List Tk} (h:AllV ts):Sd YRf.nd YRf.ok YRf.sz (reT n ts) ts.length:=by
 unfold reT
 exact (UB h).bind fun w us hw hz hu=>(rf_sd hw hu).mono hz
theorem truth_sd:∀n:Nat,
 (∀lvl ts,1≤lvl→lvl≤4→AllV ts→Sd YTr.nd YTr.ok YTr.sz (trT n lvl ts) ts.length) ∧
 (∀lvl (a:YTr) ts,1≤lvl→lvl≤3→a.ok→AllV ts→Sd YTr.nd YTr.ok YTr.sz (tbT n lvl a.nd ts) (a.sz+ts.length)) ∧
 (∀ts,AllV ts→Sd YTr.nd YTr.ok YTr.sz (noT n ts) ts.length):=by
 intro n
 induction n with
 | zero=>exact ⟨fun _ _ _ _ _=>trivial,fun _ _ _ _ _ _ _=>trivial,fun _ _=>trivial⟩
 | succ n ih=>
   obtain ⟨hE,hT,hN⟩:=ih
   refine ⟨fun lvl ts h1 h4 hv=>?_,fun lvl a ts h1 h3 ha hv=>?_,fun ts hv=>?_⟩
   ·rw [trT]
    refine Sd.ite (fun h=>hN ts hv) (fun h=>?_)
    exact (hE (lvl+1) ts (by omega) (by omega) hv).bind fun b us hb hz hu=>(hT lvl b us h1 (by omega) hb hu).mono hz
   ·rw [tbT]
    refine Sd.ite (fun h=>?_) (fun h=>Sd.mk a ha (by omega) hv)
    have ht:=jT h
    refine (hE (lvl+1) ts.tail (by omega) (by omega) hv.tail).bind fun b us hb hz hu=>?_
    exact (hT lvl (YTr.op lvl (hdT ts).2.2 a b) us h1 h3 ⟨⟨h1,h3⟩,ha,hb⟩ hu).mono (by simp only [YTr.sz];omega)
   ·rw [noT]
    refine Sd.ite (fun h=>?_) fun _=>Sd.ite (fun h=>?_) fun _=>Sd.ite (fun h=>?_) fun _=>?_
    ·have ht:=jT h
     exact (hN ts.tail hv.tail).bind fun b us hb hz hu=>Sd.mk (YTr.not (hdT ts).2.2 b) hb (by simp only [YTr.sz];omega) hu
    ·have ht:=jT h
     exact (hE 1 ts.tail (by omega) (by omega) hv.tail).bind fun b us hb hz hu=>(kY hu).bind fun _ xs _ hz' hx=>Sd.mk b hb (by omega) hx
    ·have ht:=Vg h.1 (by omega)
     exact Sd.mk (YTr.bit (hdT ts).2.2 (if (hdT ts).2.1 = bs "0" then 0 else 1)) (by simp only [YTr.ok]; split <;> simp) (by simp only [YTr.sz]; omega) hv.tail
    ·have:=re_sd (n:=n) hv
     revert this
     cases reT n ts with
     | ok a us=>rintro ⟨r,h1,h2,h3,h4⟩;exact ⟨.ref r,h1,h2,h3,h4⟩
     | err e=>exact id
     | out=>exact id
theorem tr_sd {n:Nat} {ts:List Tk} (h:AllV ts):Sd YTr.nd YTr.ok YTr.sz (trT n 1 ts) ts.length:=(truth_sd n).1 1 ts (by omega) (by omega) h
theorem li_sd {β:Type} {f:β→Nd} {G:β→Prop} {z:β→Nat} {one:List Tk→Rd Nd} (h1:∀ts,AllV ts→Sd f G z (one ts) ts.length) :
 ∀(n:Nat) (l:List β) (ts:List Tk),(∀b∈l,G b)→AllV ts→Sd (fun l:List β=>l.map f) (fun l'=>(∀b∈l',G b)∧(l≠[]→l'≠[])) (szL z) (liT one n (l.map f) ts) (szL z l+ts.length)
 | 0,_,_,_,_=>trivial
 | n+1,l,ts,hl,hv=>by
   rw [liT]
   refine Sd.ite (fun h=>?_) (fun h=>Sd.mk l ⟨hl,id⟩ (by omega) hv)
   have ht:=jT h
   refine (h1 ts.tail hv.tail).bind fun b us hb hz hu=>?_
   have:=li_sd h1 n (l++[b]) us (fun x hx=>by
    rcases List.mem_append.1 hx with hx | hx
    ·exact hl x hx
    ·rw [List.mem_singleton.1 hx];exact hb) hu
   rw [List.map_append] at this
   have:=this.mono (M:=szL z l+ts.length) (by rw [szL_snoc];omega)
   revert this
   show Sd _ _ _ (liT one n (l.map f++[f b]) us) _→_
   cases liT one n (l.map f++[f b]) us with
   | ok a vs=>rintro ⟨l',g1,g2,g3,g4⟩;exact ⟨l',g1,⟨g2.1,fun _=>g2.2 (by simp)⟩,g3,g4⟩
   | err e=>exact id
   | out=>exact id
theorem ls_sd {β:Type} {f:β→Nd} {G:β→Prop} {z:β→Nat} {one:List Tk→Rd Nd} (h1:∀ts,AllV ts→Sd f G z (one ts) ts.length) {n:Nat} {ts:List Tk} (hv:AllV ts) :
 Sd (fun l:List β=>l.map f) (fun l'=>(∀b∈l',G b)∧l'≠[]) (szL z) (lsT one n ts) ts.length:=by
 unfold lsT
 refine (h1 ts hv).bind fun b us hb hz hu=>?_
 have:=(li_sd h1 n [b] us (fun x hx=>by rw [List.mem_singleton.1 hx];exact hb) hu).mono (M:=ts.length) (by simp [szL];omega)
 revert this
 show Sd _ _ _ (liT one n [f b] us) _→_
 cases liT one n [f b] us with
 | ok a vs=>rintro ⟨l',g1,g2,g3,g4⟩;exact ⟨l',g1,⟨g2.1,g2.2 (by simp)⟩,g3,g4⟩
 | err e=>exact id
 | out=>exact id
theorem mo_sd:∀(n:Nat) (l:List YMd) (ts:List Tk),(∀m∈l,m.ok)→AllV ts→Sd (fun l:List YMd=>l.map YMd.nd) (fun l'=>∀m∈l',m.ok) (szL YMd.sz) (moT n (l.map YMd.nd) ts) (szL YMd.sz l+ts.length)
 | 0,_,_,_,_=>trivial
 | n+1,l,ts,hl,hv=>by
   rw [moT]
   have step:∀(m:YMd) us,m.ok→AllV us→m.sz+us.length≤ts.length→Sd (fun l:List YMd=>l.map YMd.nd) (fun l'=>∀m∈l',m.ok) (szL YMd.sz) (moT n (l.map YMd.nd++[m.nd]) us) (szL YMd.sz l+ts.length):=by
    intro m us hm hu hz
    have:=mo_sd n (l++[m]) us (fun x hx=>by
     rcases List.mem_append.1 hx with hx | hx
     ·exact hl x hx
     ·rw [List.mem_singleton.1 hx];exact hm) hu
    rw [List.map_append] at this
    exact this.mono (by rw [szL_snoc];omega)
   refine Sd.ite (fun h=>?_) fun _=>Sd.ite (fun h=>?_) fun _=>Sd.ite (fun h=>?_) fun _=>Sd.mk l hl (by omega) hv
   ·have ht:=jT h
    exact (kY hv.tail).bind fun _ us _ hz hu=>step (YMd.inv (hdT ts).2.2) us trivial hu (by simp only [YMd.sz];omega)
   ·have ht:=jT h
    exact (kY hv.tail).bind fun _ us _ hz hu=>step (YMd.ctrl (hdT ts).2.2) us trivial hu (by simp only [YMd.sz];omega)
   ·have ht:=jT h
    exact (kY hv.tail).bind fun _ us _ hz hu=>(ex_sd hu).bind fun e vs he hz' hv=>(kY hv).bind fun _ xs _ hz2 hx=>(kY hx).bind fun _ ys _ hz3 hy=>step (YMd.pow (hdT ts).2.2 e) ys he hy (by simp only [YMd.sz];omega)
theorem ap_sd {n:Nat} {at_:Int} {mods:List YMd} {w:Tk} {ts:List Tk} (hm:∀m∈mods,m.ok) (hw:Ve w.2.1) (hv:AllV ts):Sd YSt.nd YSt.ok YSt.sz (apT n at_ (mods.map YMd.nd) w ts) (1+szL YMd.sz mods+ts.length):=by
 unfold apT
 have h1 : Sd (fun l : List YEx => l.map YEx.nd) (fun l' => ∀ b ∈ l', b.ok) (szL YEx.sz) ((if seesT (bs "(") ts then (lsT (xpT n 1) n ts.tail).bind fun l us => (wantT (bs ")") us).bind fun _ us => .ok l us else .ok [] ts) : Rd (List Nd)) ts.length := by
  refine Sd.ite (fun h=>?_) (fun h=>Sd.mk [] (fun _ h=>by cases h) (by simp [szL]) hv)
  have ht:=jT h
  exact (ls_sd (fun us=>ex_sd) hv.tail).bind fun l us hl hz hu=>(kY hu).bind fun _ vs _ hz' hv=>Sd.mk l hl.1 (by omega) hv
 refine h1.bind fun args us ha hz hu=>?_
 have h2:Sd (fun l:List YRf=>l.map YRf.nd) (fun l'=>∀b∈l',b.ok) (szL YRf.sz) ((if (hdT us).1=1 then lsT (reT n) n us else .ok [] us):Rd (List Nd)) us.length:=by
  refine Sd.ite (fun h=>?_) (fun h=>Sd.mk [] (fun _ h=>by cases h) (by simp [szL]) hu)
  have:=ls_sd (n:=n) (fun us=>re_sd (n:=n)) hu
  revert this
  cases lsT (reT n) n us with
  | ok a vs=>rintro ⟨l',g1,g2,g3,g4⟩;exact ⟨l',g1,g2.1,g3,g4⟩
  | err e=>exact id
  | out=>exact id
 exact h2.bind fun refs vs hr hz' hv=>(kY hv).bind fun _ xs _ hz2 hx=>Sd.mk (YSt.app at_ w.2.1 mods args refs) ⟨hw,hm,ha,hr⟩ (by simp only [YSt.sz];omega) hx
end Go.Ql
end

section
namespace Go.Ql
def bkN (x:Int×YSts):Nd:=ndK 7 x.1 x.2.nds
theorem stm_sd:∀n:Nat,
 (∀ts,AllV ts→Sd bkN (fun x=>x.2.ok) (fun x=>2+x.2.sz) (blT n ts) ts.length) ∧
 (∀(s:YSts) ts,s.ok→AllV ts→Sd YSts.nds YSts.ok (fun x=>1+x.sz) (sqT n s.nds ts) (s.sz+ts.length)) ∧
 (∀ts,AllV ts→Sd YSt.nd YSt.ok YSt.sz (stT n ts) ts.length):=by
 intro n
 induction n with
 | zero=>exact ⟨fun _ _=>trivial,fun _ _ _ _=>trivial,fun _ _=>trivial⟩
 | succ n ih=>
   obtain ⟨hB,hQ,hS⟩:=ih
   refine ⟨fun ts hv=>?_,fun s ts hs hv=>?_,fun ts hv=>?_⟩
   ·rw [blT]
    refine (kY hv).bind fun t us _ hz hu=>(hQ .nil us trivial hu).bind fun b vs hb hz' hv=>?_
    have hz:1+us.length≤ts.length:=hz
    have hz':1+b.sz+vs.length≤0+us.length:=hz'
    exact Sd.mk (f:=bkN) (t.2.2,b) hb (by show 2+b.sz+_≤_;omega) hv
   ·rw [sqT]
    refine Sd.ite (fun h=>?_) (fun h=>?_)
    ·have ht:=jT h
     exact Sd.mk s hs (by show 1+s.sz+_≤_;omega) hv.tail
    ·refine (hS ts hv).bind fun b us hb hz hu=>?_
     have:=hQ (s.app (.cons b .nil)) us (YSts.app_ok _ _ hs ⟨hb,trivial⟩) hu
     rw [YSts.app_nds] at this
     exact this.mono (by rw [YSts.app_sz];simp only [YSts.sz];omega)
   ·rw [stT]
    refine Sd.ite (fun h=>?_) fun _=>Sd.ite (fun h=>?_) fun _=>Sd.ite (fun h=>?_) fun _=>Sd.ite (fun h=>?_) fun _=>Sd.ite (fun h=>?_) fun _=>Sd.ite (fun h=>?_) fun _=>Sd.ite (fun h=>?_) fun _=>?_
    ·have ht:=jT h
     refine (UB hv.tail).bind fun w us hw hz hu=>(kY hu).bind fun _ vs _ hz1 hv=>(ex_sd hv).bind fun lo xs h1 hz2 hx=>(kY hx).bind fun _ ys _ hz3 hy=>(ex_sd hy).bind fun hi zs h2 hz4 hz=>(hB zs hz).bind fun b rs hb hz5 hr=>?_
     refine Sd.mk (YSt.forS (hdT ts).2.2 w.2.1 lo hi b.1 b.2) ⟨hw,h1,h2,hb⟩ (by simp only [YSt.sz];omega) hr
    ·have ht:=jT h
     exact (ex_sd hv.tail).bind fun e us he hz hu=>(hB us hu).bind fun b rs hb hz5 hr=>Sd.mk (YSt.whenS (hdT ts).2.2 e b.1 b.2) ⟨he,hb⟩ (by simp only [YSt.sz];omega) hr
    ·have ht:=jT h
     have key:∀vs,AllV vs→vs.length≤ts.tail.length→Sd YSt.nd YSt.ok YSt.sz ((reT n vs).bind fun r us=>(blT n us).bind fun b us=>
      if seesT (bs "else") us then (blT n us.tail).bind fun c us => .ok (ndN 14 (hdT ts).2.2 [] (if seesT (bs "!") ts.tail then 1 else 0) [r, b, c]) us
      else .ok (ndN 14 (hdT ts).2.2 [] (if seesT (bs "!") ts.tail then 1 else 0) [r, b]) us) ts.length := by
      intro vs hvs hl
      refine (re_sd hvs).bind fun r us hr hz hu=>(hB us hu).bind fun b xs hb hz2 hx=>Sd.ite (fun h2=>?_) (fun h2=>?_)
      ·have ht2:=jT h2
       refine (hB xs.tail hx.tail).bind fun c ys hc hz3 hy => Sd.mk (YSt.ifE (hdT ts).2.2 (seesT (bs "!") ts.tail) r b.1 b.2 c.1 c.2) ⟨hr, hb, hc⟩ (by simp only [YSt.sz]; omega) hy
      ·exact Sd.mk (YSt.ifS (hdT ts).2.2 (seesT (bs "!") ts.tail) r b.1 b.2) ⟨hr, hb⟩ (by simp only [YSt.sz]; omega) hx
     have := key (if seesT (bs "!") ts.tail then ts.tail.tail else ts.tail) (by split; exact hv.tail.tail; exact hv.tail) (by split <;> simp <;> omega)
     exact this
    ·have ht:=jT h
     exact (re_sd hv.tail).bind fun a us ha hz hu=>(kY hu).bind fun _ vs _ hz1 hv=>(re_sd hv).bind fun b xs hb hz2 hx=>(kY hx).bind fun _ ys _ hz3 hy=>Sd.mk (YSt.meas (hdT ts).2.2 a b) ⟨ha,hb⟩ (by simp only [YSt.sz];omega) hy
    ·have ht:=jT h
     exact (re_sd hv.tail).bind fun a us ha hz hu=>(kY hu).bind fun _ vs _ hz1 hv=>Sd.mk (YSt.reset (hdT ts).2.2 a) ha (by simp only [YSt.sz];omega) hv
    ·have ht:=jT h
     exact (hB ts.tail hv.tail).bind fun a us ha hz hu=>(kY hu).bind fun _ vs _ hz1 hv=>(hB vs hv).bind fun b xs hb hz2 hx=>Sd.mk (YSt.within (hdT ts).2.2 a.1 a.2 b.1 b.2) ⟨ha,hb⟩ (by simp only [YSt.sz];omega) hx
    ·refine (mo_sd n [] ts (fun _ h=>by cases h) hv).bind fun m us hm hz hu=>(UB hu).bind fun w vs hw hz1 hv=>?_
     have hz:szL YMd.sz m+us.length≤0+ts.length:=hz
     exact (ap_sd hm hw hv).mono (by omega)
    ·refine (UB hv).bind fun w us hw hz hu=>Sd.ite (fun h2=>?_) (fun h2=>?_)
     ·exact (rf_sd hw hu).bind fun r vs hr hz1 hv=>(kY hv).bind fun _ xs _ hz2 hx=>(tr_sd hx).bind fun e ys he hz3 hy=>(kY hy).bind fun _ zs _ hz4 hz=>Sd.mk (YSt.flip (hdT ts).2.2 r e) ⟨hr,he⟩ (by simp only [YSt.sz];omega) hz
     ·exact (ap_sd (mods:=[]) (fun _ h=>by cases h) hw hu).mono (by show 1+0+_≤_;omega)
theorem bl_sd {n:Nat} {ts:List Tk} (hv:AllV ts):Sd bkN (fun x=>x.2.ok) (fun x=>2+x.2.sz) (blT n ts) ts.length:=(stm_sd n).1 ts hv
theorem st_sd {n:Nat} {ts:List Tk} (hv:AllV ts):Sd YSt.nd YSt.ok YSt.sz (stT n ts) ts.length:=(stm_sd n).2.2 ts hv
theorem p1_sd {ts:List Tk} (hv:AllV ts):Sd p1nd (fun x=>Ve x.2) (fun _=>1) (p1T ts) ts.length:=by
 unfold p1T
 exact (UB hv).bind fun w us hw hz hu=>Sd.mk (f:=p1nd) (w.2.2,w.2.1) hw hz hu
theorem p2_sd {ts:List Tk} (hv:AllV ts):Sd p2nd (fun x=>Ve x.2.1) p2sz (p2T ts) ts.length:=by
 unfold p2T
 refine (UB hv).bind fun w us hw hz hu=>Sd.ite (fun h=>?_) (fun _=>?_)
 ·have ht:=jT h
  exact (kY hu.tail).bind fun _ vs _ hz1 hv=>Sd.mk (f:=p2nd) (w.2.2,w.2.1,true) hw (by show 3+_≤_;omega) hv
 ·exact Sd.mk (f:=p2nd) (w.2.2,w.2.1,false) hw hz hu
theorem ga_sd {n:Nat} {t:Tk} {ts:List Tk} (hv:AllV ts):Sd YIt.nd YIt.ok YIt.sz (gaT n t ts) (1+ts.length):=by
 unfold gaT
 refine (UB hv).bind fun w us hw hz hu=>?_
 have h1 : Sd (fun l : List (Int × Z7) => l.map p1nd) (fun l' => ∀ b ∈ l', Ve b.2) List.length ((if seesT (bs "(") us then (lsT p1T n us.tail).bind fun l us => (wantT (bs ")") us).bind fun _ us => .ok l us else .ok [] us) : Rd (List Nd)) us.length := by
  refine Sd.ite (fun h=>?_) (fun h=>Sd.mk (f:=fun l:List (Int×Z7)=>l.map p1nd) [] (fun _ h=>by cases h) (by simp) hu)
  have ht:=jT h
  refine (ls_sd (n:=n) (fun us=>p1_sd) hu.tail).bind fun l us hl hz hu=>(kY hu).bind fun _ vs _ hz' hv=>Sd.mk (f:=fun l:List (Int×Z7)=>l.map p1nd) l hl.1 ?_ hv
  have:szL (fun _:Int×Z7=>1) l=l.length:=by unfold szL;clear hz hl;induction l with
   | nil=>rfl
   | cons a l ih=>simp [ih];omega
  omega
 refine h1.bind fun ints vs hi hz1 hv=>(ls_sd (n:=n) (fun us=>p2_sd) hv).bind fun wires xs hww hz2 hx=>(bl_sd hx).bind fun b ys hb hz3 hy=>?_
 exact Sd.mk (YIt.gate t.2.2 w.2.1 ints wires b.1 b.2) ⟨hw,hi,hww.1,hww.2,hb⟩ (by simp only [YIt.sz];omega) hy
theorem it_sd {n:Nat} {ts:List Tk} (hv:AllV ts):Sd YIt.nd YIt.ok YIt.sz (itT n ts) ts.length:=by
 unfold itT
 refine Sd.ite (fun h=>?_) fun _=>Sd.ite (fun h=>?_) fun _=>Sd.ite (fun h=>?_) fun _=>?_
 ·have ht:ts.tail.length<ts.length:=by
   rcases Bool.or_eq_true _ _▸h with h | h
   ·exact jT h
   ·exact jT h
  exact (UB hv.tail).bind fun w us hw hz hu => (kY hu).bind fun _ vs _ hz1 hv => (ex_sd hv).bind fun e xs he hz2 hx => (kY hx).bind fun _ ys _ hz3 hy => (kY hy).bind fun _ zs _ hz4 hz => Sd.mk (YIt.decl (seesT (bs "bit") ts) (hdT ts).2.2 w.2.1 e) ⟨hw, he⟩ (by simp only [YIt.sz]; omega) hz
 ·have ht:=jT h
  exact (UB hv.tail).bind fun w us hw hz hu=>(kY hu).bind fun _ vs _ hz1 hv=>(ex_sd hv).bind fun e xs he hz2 hx=>(kY hx).bind fun _ ys _ hz3 hy=>Sd.mk (YIt.const (hdT ts).2.2 w.2.1 e) ⟨hw,he⟩ (by simp only [YIt.sz];omega) hy
 ·have ht:=jT h
  exact (ga_sd hv.tail).mono (by omega)
 ·have:=st_sd (n:=n) hv
  revert this
  cases stT n ts with
  | ok a us=>rintro ⟨r,h1,h2,h3,h4⟩;exact ⟨.st r,h1,h2,h3,h4⟩
  | err e=>exact id
  | out=>exact id
theorem pr_sd {n:Nat}:∀(m:Nat) (l:List YIt) (ts:List Tk),(∀b∈l,b.ok)→AllV ts→Sd (fun l:List YIt=>l.map YIt.nd) (fun l'=>∀b∈l',b.ok) (szL YIt.sz) (prT n m (l.map YIt.nd) ts) (szL YIt.sz l+ts.length)
 | 0,_,_,_,_=>trivial
 | m+1,l,ts,hl,hv=>by
   rw [prT]
   refine Sd.ite (fun h=>Sd.mk l hl (by omega) hv) (fun h=>(it_sd hv).bind fun b us hb hz hu=>?_)
   have:=pr_sd (n:=n) m (l++[b]) us (fun x hx=>by
    rcases List.mem_append.1 hx with hx | hx
    ·exact hl x hx
    ·rw [List.mem_singleton.1 hx];exact hb) hu
   rw [List.map_append] at this
   exact this.mono (by rw [szL_snoc];omega)
theorem digt_num {c:UInt8} (h:digt c=true):0≤(c.toNat:Int)-48∧(c.toNat:Int)-48≤9:=by
 unfold digt at h
 simp only [z7,zk] at h
 constructor<;>omega
theorem numT'_le:∀(w:Z7) (n:Int),0≤n→(∀c∈w,digt c=true)→0≤w.foldl (fun n c=>n*10+((c.toNat:Int)-48)) n∧w.foldl (fun n c=>n*10+((c.toNat:Int)-48)) n+1≤(n+1)*10^w.length
 | [],n,h,_=>by simp [h]
 | c::w,n,h,hd=>by
   have hc:=digt_num (hd c (by simp))
   have ih:=numT'_le w (n*10+((c.toNat:Int)-48)) (by omega) (fun d hd'=>hd d (by simp [hd']))
   refine ⟨ih.1,Int.le_trans ih.2 ?_⟩
   have e:(n+1)*10^(c::w).length=((n+1)*10)*10^w.length:=by
    rw [zd,Int.pow_succ,Int.mul_assoc,Int.mul_comm 10]
   rw [e]
   exact Int.mul_le_mul_of_nonneg_right (by omega) (Int.pow_nonneg (show (0:Int)≤10 by decide))
theorem numT'_lt (w:Z7) (h:w.length≤9) (hd:∀c∈w,digt c=true):0≤numT' w∧numT' w<1000000000:=by
 have h1:=numT'_le w 0 (by decide) hd
 refine ⟨h1.1,?_⟩
 have h2:(10:Int)^w.length≤10^9:=by
  have:10^w.length≤10^9:=Nat.pow_le_pow_right (by decide) h
  exact_mod_cast this
 have h3:(10:Int)^9=1000000000:=by decide
 have h4:=h1.2
 unfold numT'
 omega
theorem tokF_v {text:Z7} (ht:text.length≤40000) (i:Nat):TkV (tokF text i):=by
 have hok:=tokF_ok text i
 refine ⟨fun h=>?_,fun h=>?_⟩
 ·unfold tokF at h ⊢
  dsimp only at h ⊢
  have hd:(text.drop (begT text i)).length≤40000:=by simp;omega
  generalize text.drop (begT text i)=r at h hd ⊢
  cases r with
  | nil=>cases h
  | cons c r=>
    rw [Ug] at h ⊢
    split at h
    ·rename_i h1
     rw [if_pos h1]
     dsimp only at h ⊢
     split at h
     ·omega
     ·rename_i h2
      have hl:=(List.takeWhile_prefix (fun c=>lettr c||digt c) (l:=c::r)).length_le
      refine ⟨by omega,by simpa using h2,?_⟩
      refine ⟨c,r.takeWhile fun c=>lettr c||digt c,by rw [List.takeWhile_cons,if_pos (by rw [h1];rfl)],h1,takeW_all _⟩
    ·split at h
     ·dsimp only at h;split at h<;>omega
     ·split at h
      ·dsimp only at h;omega
      ·split at h<;>(dsimp only at h;omega)
 ·have:=hok.2.2.2 h
  exact numT'_lt _ this.2.1 this.2.2
theorem toksF_v {text:Z7} (ht:text.length≤40000):∀(k i:Nat),text.length-i<k→i≤text.length→AllV (toksF text i)
 | 0,_,h,_=>by omega
 | k+1,i,h,hi=>by
   rw [UM]
   have hv:=tokF_v ht i
   intro t hm
   rcases Z2.1 hm with hm | hm
   ·rw [hm];exact hv
   ·split at hm
    ·cases hm
    ·rename_i hs
     have he:=endF_le hi (by omega) (by omega)
     have hb:=begT_le hi
     exact toksF_v ht k (endF text i) (by omega) he.2 t hm
theorem toksT_v {text:Z7} (ht:text.length≤40000):AllV (toksT text):=by
 rw [toksT_eq];exact toksF_v ht (text.length+1) 0 (by omega) (by omega)
end Go.Ql
end

section
set_option maxRecDepth 4000
namespace W
open Go Go.Ql
theorem rparse_law (text:Z7):JH text=some (specP text):=by
 unfold JH specP
 by_cases ht:40000<text.length
 ·rw [JI (show (text.length:Int)>40000 by omega),if_pos ht]
  rfl
 ·rw [JZ (show ¬(text.length:Int)>40000 by omega),if_neg ht]
  have hk:=toksT_ok text
  rw [rtokens_ok (show text.length≤40000 by omega),jc]
  have hpos:0<(toksT text).length:=by
   cases hq:toksT text with
   | nil=>rw [hq] at hk;exact absurd hk.1 id
   | cons a l=>simp
  have h:=rtext_loop hk.1 (show (toksT text).length≤40001 by omega) (n:=400000) (by omega) 100000 [] (.good (toksT text)) (toksT text,0,-1,()) ⟨rfl,rfl,0,rfl,hpos,rfl⟩ (show [].length+(toksT text).length≤100000 by simp;omega)
  have hno:=pr_ne_out (show text.length≤40000 by omega)
  revert h hno
  show RunE _ _ _ (prT 400000 100000 [] (toksT text))→_
  cases prT 400000 100000 [] (toksT text) with
  | ok l us=>
    rintro ⟨q,e,h⟩ _
    refine Jk e ?_
    rw [JZ (show ¬(qOf l q).2.2.2≥0 by have:=h.2.1;show ¬q.2.2.1≥0;omega)]
    rfl
  | err c=>
    rintro ⟨a,q,e,h⟩ _
    refine Jk e ?_
    have hc:q.2.2.1=c:=h.2.1
    rw [JI (show (qOf a q).2.2.2≥0 by show q.2.2.1≥0;have:=h.2.2.1;omega)]
    subst hc
    rfl
  | out=>intro _ h;exact absurd rfl h
end W
end

section
set_option maxRecDepth 4000
namespace Go.Ql
inductive Like (p:Bool):Nd→Nd→Prop
 | mk (h1 h2:Int×Int×Z7×Int) (l1 l2:List Nd):h1.1=h2.1→h1.2.2=h2.2.2→(p=true→h1.2.1=h2.2.1)→l1.length=l2.length→l1.length≤1000000 →
  (∀(i:Nat) (h:i<l1.length) (h':i<l2.length),Like p l1[i] l2[i])→Like p (.mk h1 l1) (.mk h2 l2)
end Go.Ql
namespace W
open Go Go.Ql
theorem sizeOf_kid {l:List Nd} {i:Nat} (h:i<l.length):sizeOf l[i]<sizeOf l:=List.sizeOf_lt_of_mem (List.getElem_mem h)
theorem same_walk {p:Bool} {a b:Nd} (h:Like p a b):∀m,sizeOf a≤m→(jG.fuel m).F (a,b,p,())=some (true,()):=by
 induction h with
 | mk h1 h2 l1 l2 e1 e2 e3 el hl hk ih=>
   intro m hm
   simp only [Rose.mk.sizeOf_spec] at hm
   cases m with
   | zero=>omega
   | succ m=>
     show @jG (jG.fuel m) (.mk h1 l1) (.mk h2 l2) p=_
     unfold jG
     have c1:@jG.c1 Bool p h1.1 h1.2.1 h1.2.2.1 h1.2.2.2 l1 h2.1 h2.2.1 h2.2.2.1 h2.2.2.2 l2 some=some false:=by
      unfold jG.c1
      rw [e1,e2,el]
      cases p with
      | false=>simp [br]
      | true=>simp [br,e3 rfl]
     refine Jk c1 ?_
     rw [br_ff]
     have loop:∀k i,k=l1.length-i→i≤l1.length→iter (fun s=>@jG.ce_ (jG.fuel m) _ p s l1 l2 some) (i:Int)=some (.inr (l1.length:Int)):=by
      intro k
      induction k with
      | zero=>
        intro i hk hi
        have:i=l1.length:=by omega
        subst this
        refine JV ?_
        show @jG.ce_ (jG.fuel m) _ p _ l1 l2 some=_
        unfold jG.ce_
        rw [JZ (by omega)]
      | succ k ihk=>
        intro i hk' hi
        have hlt:i<l1.length:=by omega
        have hlt':i<l2.length:=by omega
        have:=sizeOf_kid hlt
        refine JQ ?_ (ihk (i+1) (by omega) (by omega))
        show @jG.ce_ (jG.fuel m) _ p _ l1 l2 some=_
        unfold jG.ce_ jG.c6
        rw [JI (by omega),Hy hlt,jc,Hy hlt',jc]
        have:=ih i hlt hlt' m (by omega)
        show bnd (bnd ((jG.fuel m).F (l1[i],l2[i],p,())) _) _=_
        refine Jk (Jk this rfl) ?_
        show br (!true) _ _=_
        rw [Bool.not_true,br_ff]
        rw [kG (by omega)]
        rfl
     refine Jk (loop _ 0 rfl (by omega)) rfl
theorem same_ok {p:Bool} {a b:Nd} (h:Like p a b):VR (a,b,p,())=some (true,()):=same_walk h _ (zu _)
end W
end

section
namespace Go.Ql
inductive Sho:Nd→Prop
 | mk (h:Int×Int×Z7×Int) (l:List Nd):l.length≤1000000→(∀x∈l,Sho x)→Sho (.mk h l)
theorem Sho.refl {p:Bool} {a:Nd} (h:Sho a):Like p a a:=by
 induction h with
 | mk h l hl hk ih=>exact .mk h h l l rfl rfl (fun _=>rfl) rfl hl (fun i hi _=>ih _ (List.getElem_mem hi))
theorem Sho.ndN {k p:Int} {w:Z7} {v:Int} {l:List Nd} (hl:l.length≤1000000) (h:∀x∈l,Sho x):Sho (ndN k p w v l):=.mk _ l hl h
theorem Sho.ndK {k p:Int} {l:List Nd} (hl:l.length≤1000000) (h:∀x∈l,Sho x):Sho (ndK k p l):=.mk _ l hl h
theorem YEx.sho:∀x:YEx,Sho x.nd
 | .num p v=>.ndN (by simp) (by simp)
 | .name p w=>.ndN (by simp) (by simp)
 | .size p w=>.ndN (by simp) (by simp)
 | .neg p a=>.ndK (by simp) (by simp [YEx.sho a])
 | .bin p w a b=>.ndN (by simp) (by simp [YEx.sho a,YEx.sho b])
theorem YRf.sho:∀x:YRf,Sho x.nd
 | .one p w=>.ndN (by simp) (by simp)
 | .idx p w a=>.ndN (by simp) (by simp [YEx.sho a])
 | .rng p w a b=>.ndN (by simp) (by simp [YEx.sho a,YEx.sho b])
theorem YTr.sho:∀x:YTr,Sho x.nd
 | .op k p a b=>.ndK (by simp) (by simp [YTr.sho a,YTr.sho b])
 | .not p a=>.ndK (by simp) (by simp [YTr.sho a])
 | .bit p v=>.ndN (by simp) (by simp)
 | .ref r=>YRf.sho r
theorem YMd.sho:∀x:YMd,Sho x.nd
 | .inv p=>.ndK (by simp) (by simp)
 | .ctrl p=>.ndK (by simp) (by simp)
 | .pow p e=>.ndK (by simp) (by simp [YEx.sho e])
theorem HR {α:Type} {f:α→Nat} (hf:∀a,1≤f a):∀l:List α,l.length≤szL f l
 | []=>by simp [szL]
 | a::l=>by
   have:=HR hf l
   have:=hf a
   simp only [szL,List.map_cons,List.sum_cons,zd] at *
   omega
theorem YEx.sz_pos:∀x:YEx,1≤x.sz:=by intro x;cases x<;>simp only [YEx.sz]<;>omega
theorem YRf.sz_pos:∀x:YRf,1≤x.sz:=by intro x;cases x<;>simp only [YRf.sz]<;>omega
theorem YMd.sz_pos:∀x:YMd,1≤x.sz:=by intro x;cases x<;>simp only [YMd.sz]<;>omega
theorem YSt.sz_pos:∀x:YSt,1≤x.sz:=by intro x;cases x<;>simp only [YSt.sz]<;>omega
theorem YIt.sz_pos:∀x:YIt,1≤x.sz:=by
 intro x
 cases x with
 | st s=>exact s.sz_pos
 | _=>simp only [YIt.sz];omega
theorem p2sz_pos (x:Int×Z7×Bool):1≤p2sz x:=by unfold p2sz;split<;>omega
theorem YSts.len:∀l:YSts,l.nds.length≤l.sz
 | .nil=>by simp [YSts.nds]
 | .cons s l=>by
   have:=YSts.len l
   have:=s.sz_pos
   simp only [YSts.nds,YSts.sz,zd];omega
theorem NA {α:Type} {f:α→Nd} {l:List α} (hf:∀a,Sho (f a)) (hl:l.length≤1000000):Sho (gr (l.map f)):=
 .ndK (by simpa using hl) (by intro x hx;obtain ⟨a,_,rfl⟩:=List.mem_map.1 hx;exact hf a)
mutual
theorem YSt.sho:∀x:YSt,x.sz≤1000000→Sho x.nd
 | .forS p w lo hi q b,h=>by
   simp only [YSt.sz] at h
   have h1:=YSts.len b
   have h2:=YSts.sho b (by omega)
   exact .ndN (by simp) (by simp [YEx.sho lo,YEx.sho hi];exact .ndK (by omega) h2)
 | .whenS p e q b,h=>by
   simp only [YSt.sz] at h
   have h1:=YSts.len b
   have h2:=YSts.sho b (by omega)
   exact .ndK (by simp) (by simp [YEx.sho e];exact .ndK (by omega) h2)
 | .ifS p no r q b,h=>by
   simp only [YSt.sz] at h
   have h1:=YSts.len b
   have h2:=YSts.sho b (by omega)
   exact .ndN (by simp) (by simp [YRf.sho r];exact .ndK (by omega) h2)
 | .ifE p no r q b q2 c,h=>by
   simp only [YSt.sz] at h
   have h1:=YSts.len b
   have h2:=YSts.sho b (by omega)
   have h3:=YSts.len c
   have h4:=YSts.sho c (by omega)
   exact .ndN (by simp) (by simp [YRf.sho r];exact ⟨.ndK (by omega) h2,.ndK (by omega) h4⟩)
 | .meas p a b,h=>.ndK (by simp) (by simp [YRf.sho a,YRf.sho b])
 | .reset p a,h=>.ndK (by simp) (by simp [YRf.sho a])
 | .within p q a q2 b,h=>by
   simp only [YSt.sz] at h
   have h1:=YSts.len b
   have h2:=YSts.sho b (by omega)
   have h3:=YSts.len a
   have h4:=YSts.sho a (by omega)
   exact .ndK (by simp) (by simp;exact ⟨.ndK (by omega) h4,.ndK (by omega) h2⟩)
 | .flip p r e,h=>.ndK (by simp) (by simp [YRf.sho r,YTr.sho e])
 | .app p w mods args refs,h=>by
   simp only [YSt.sz] at h
   have h1:=HR YMd.sz_pos mods
   have h2:=HR YEx.sz_pos args
   have h3:=HR YRf.sz_pos refs
   exact .ndN (by simp) (by simp;exact ⟨NA YMd.sho (by omega),NA YEx.sho (by omega),NA YRf.sho (by omega)⟩)
theorem YSts.sho:∀x:YSts,x.sz≤1000000 → ∀a∈x.nds,Sho a
 | .nil,_=>by simp [YSts.nds]
 | .cons s l,h=>by
   simp only [YSts.sz] at h
   intro a ha
   rcases Z2.1 ha with ha | ha
   ·rw [ha];exact YSt.sho s (by omega)
   ·exact YSts.sho l (by omega) a ha
end
theorem p1_sho (x:Int×Z7):Sho (p1nd x):=.ndN (by simp) (by simp)
theorem p2_sho (x:Int×Z7×Bool):Sho (p2nd x):=.ndN (by simp) (by simp)
theorem YIt.sho:∀x:YIt,x.sz≤1000000→Sho x.nd
 | .decl bit p w e,_=>.ndN (by simp) (by simp [YEx.sho e])
 | .const p w e,_=>.ndN (by simp) (by simp [YEx.sho e])
 | .gate p w ints wires q b,h=>by
   simp only [YIt.sz] at h
   have h1:=HR p2sz_pos wires
   have h2:=YSts.sho b (by omega)
   have h3:=YSts.len b
   exact .ndN (by simp) (by simp;exact ⟨NA p1_sho (by omega),NA p2_sho (by omega),.ndK (by omega) h2⟩)
 | .st s,h=>s.sho h
def prog (l:List YIt):Nd:=.mk (1,0,[],0) (l.map YIt.nd)
def noN:Nd:=.mk (0,0,[],0) []
theorem noN_sho:Sho noN:=.mk _ _ (by simp) (by simp)
theorem szL_mem {α:Type} {f:α→Nat}:∀{l:List α} {a:α},a∈l→f a≤szL f l
 | b::l,a,h=>by
   simp only [szL,List.map_cons,List.sum_cons]
   rcases Z2.1 h with h | h
   ·subst h;omega
   ·have:=szL_mem (f:=f) h
    simp only [szL] at this;omega
theorem prog_sho {l:List YIt} (h:szL YIt.sz l≤1000000):Sho (prog l):=
 .mk _ _ (by have:=HR YIt.sz_pos l;simp;omega) (by
  intro x hx
  obtain ⟨a,ha,rfl⟩:=List.mem_map.1 hx
  have:=szL_mem (f:=YIt.sz) ha
  exact a.sho (by omega))
end Go.Ql
namespace W
open Go Go.Ql
theorem specP_form (text:Z7):(∃l,(∀b∈l,YIt.ok b)∧szL YIt.sz l≤40001∧text.length≤40000∧(∃us,prT 400000 100000 [] (toksT text)=.ok (l.map YIt.nd) us)∧specP text=(prog l,(0,0)))∨((specP text).1=noN∧(specP text).2.1≠0):=by
 unfold specP
 by_cases ht:40000<text.length
 ·rw [if_pos ht];exact .inr ⟨rfl,by decide⟩
 ·rw [if_neg ht]
  have hk:=toksT_ok text
  have h:=pr_sd (n:=400000) 100000 [] (toksT text) (fun _ h=>by cases h) (toksT_v (by omega))
  have hno:=pr_ne_out (show text.length≤40000 by omega)
  revert h hno
  show Sd _ _ _ (prT 400000 100000 [] (toksT text)) _→_
  cases prT 400000 100000 [] (toksT text) with
  | ok l us=>
    rintro ⟨b,rfl,h1,h2,h3⟩ _
    have h2:szL YIt.sz b+us.length≤0+(toksT text).length:=h2
    exact .inl ⟨b,h1,by omega,by omega,⟨us,rfl⟩,rfl⟩
  | err e=>exact fun _ _=>.inr ⟨rfl,by show (1:Int)≠0;decide⟩
  | out=>intro _ h;exact absurd rfl h
theorem specP_sho (text:Z7):Sho (specP text).1:=by
 rcases specP_form text with ⟨l,h1,h2,_,_,e⟩ | ⟨e,_⟩
 ·rw [e];exact prog_sho (by omega)
 ·rw [e];exact noN_sho
end W
end

section
set_option maxRecDepth 8000
namespace W
open Go Go.Ql
theorem br_t {α:Type} {c:Bool} {a b z:α} (hc:c=true) (h:a=z):br c a b=z:=by rw [hc];exact h
theorem br_f {α:Type} {c:Bool} {a b z:α} (hc:c=false) (h:b=z):br c a b=z:=by rw [hc];exact h
def begL:List YIt:=[.st (.app 0 [104] [] [] [.idx 2 [113] (.num 6 2)])]
def begN:Nd:=(YSt.app 0 [104] [] [] [.idx 2 [113] (.num 6 2)]).nd
theorem put_a {a:Z7} {d:Int} {t:List Int} (h:t.length+a.length≤1000):jD [a] d t=some (t++a.map (fun b:UInt8=>(b.toNat:Int)),d,()):=by
 unfold jD
 refine Jk (x:=((1:Int),d,t++a.map (fun b:UInt8=>(b.toNat:Int)))) (JQ (s':=((1:Int),d,t++a.map (fun b:UInt8=>(b.toNat:Int)))) ?_ (JV rfl)) rfl
 show jD.cG_ [a] 1 0 d t some=_
 unfold jD.cG_
 refine br_t rfl (Jk (x:=a) rfl (Jk (x:=((a.length:Int),(),t++a.map (fun b:UInt8=>(b.toNat:Int)),d,())) ?_ rfl))
 unfold Jx JY
 exact Jk rfl (Jk (Yl (zl (by dsimp only;omega))) rfl)
theorem put_b {a b:Z7} {d:Int} {t:List Int} (h:t.length+a.length+b.length≤1000):jD [a,b] d t=some (t++a.map (fun b:UInt8=>(b.toNat:Int))++b.map (fun b:UInt8=>(b.toNat:Int)),d,()):=by
 have w:∀(s:Z7) (t:List Int),t.length+s.length≤1000→Jx s d t=some ((s.length:Int),(),t++s.map (fun b:UInt8=>(b.toNat:Int)),d,()):=by
  intro s t h
  unfold Jx JY
  exact Jk rfl (Jk (Yl (zl (by dsimp only;omega))) rfl)
 unfold jD
 refine Jk (JQ (s':=((1:Int),d,t++a.map (fun b:UInt8=>(b.toNat:Int)))) ?_ (JQ (s':=((2:Int),d,t++a.map (fun b:UInt8=>(b.toNat:Int))++b.map (fun b:UInt8=>(b.toNat:Int)))) ?_ (JV rfl))) rfl
 ·exact br_t rfl (Jk (x:=a) rfl (Jk (w a t (by omega)) rfl))
 ·exact br_t rfl (Jk (x:=b) rfl (Jk (w b _ (by simp;omega)) rfl))
theorem two_w:kc ((YEx.num 6 2).nd,1,())=some ([50],()):=by
 show @jJ (jJ.fuel 999999) (YEx.num 6 2).nd 1=_
 unfold jJ
 exact br_t rfl (Jk (x:=[50]) (by kernel_rfl) rfl)
theorem q2_w:JG (YRf.idx 2 [113] (.num 6 2)).nd=some [113,91,50,93]:=by
 unfold JG
 refine br_t rfl ?_
 have:JG.c3 19 2 [113] 1 [(YEx.num 6 2).nd] some=some [113,91,50,93]:=by
  unfold JG.c3
  exact Jk (Yl rfl) (Jk (x:=(YEx.num 6 2).nd) rfl (Jk two_w (Jk (Yl rfl) (Jk (Yl rfl) rfl))))
 exact Jk this rfl
theorem qs_w:Jy (gr [(YRf.idx 2 [113] (.num 6 2)).nd])=some ([113,91,50,93],()):=by
 unfold Jy
 refine Jk (x:=((1:Int),[[113,91,50,93]])) (JQ (s':=((1:Int),[[113,91,50,93]])) ?_ (JV rfl)) (Jk (x:=[113,91,50,93]) (by kernel_rfl) rfl)
 exact br_t rfl (Jk (x:=(YRf.idx 2 [113] (.num 6 2)).nd) rfl (Jk q2_w (Jk (Yl rfl) rfl)))
theorem apply_w:jI begN 0 []=some ([104,32,113,91,50,93,59].map (fun b:UInt8=>(b.toNat:Int)),0,()):=by
 unfold jI
 refine Jk (x:=gr []) rfl (Jk (x:=((0:Int),(0:Int),[])) (JV rfl) (Jk (put_a (a:=[104]) (by decide)) ?_))
 have k2:jI.cV_ 8 0 [104] 0 begN.kids 0 [104] some=some (0,[104]):=by
  unfold jI.cV_
  exact Jk (x:=gr []) rfl (br_f rfl rfl)
 refine Jk k2 ?_
 have k3:jI.cW_ 8 0 [104] 0 begN.kids 0 [104] some=some (0,[104,32,113,91,50,93].map (fun b:UInt8=>(b.toNat:Int))):=by
  unfold jI.cW_
  exact Jk (x:=gr [(YRf.idx 2 [113] (.num 6 2)).nd]) rfl (br_t rfl (Jk (x:=gr [(YRf.idx 2 [113] (.num 6 2)).nd]) rfl (Jk qs_w (Jk (put_b (by decide)) rfl))))
 refine Jk k3 (Jk (put_a (by decide)) rfl)
theorem stmt_w:(kz.fuel 999999).F_tongue_printer_statement_b (begN,0,[],())=some ([104,32,113,91,50,93,59].map (fun b:UInt8=>(b.toNat:Int)),0,()):=by
 show @jf (kz.fuel 999998) begN 0 []=_
 unfold jf
 refine Jk (x:=(25,0,[],0,[],25,0,[],0,[])) rfl (Jk (x:=false) rfl (br_f rfl (br_f rfl (br_f rfl (br_t rfl (Jk apply_w rfl))))))
theorem line_w:YF (begN,0,[],())=some ([104,32,113,91,50,93,59,10].map (fun b:UInt8=>(b.toNat:Int)),0,()):=by
 show @Jc (kz.fuel 999999) begN 0 []=_
 unfold Jc
 exact Jk (x:=[]) (by kernel_rfl) (Jk (put_a (by decide)) (Jk stmt_w (Jk (put_a (by decide)) rfl)))
theorem beg_print:kN (prog begL)=some [104,32,113,91,50,93,59,10]:=by
 unfold kN
 refine Jk (x:=((1:Int),(0:Int),[104,32,113,91,50,93,59,10].map (fun b:UInt8=>(b.toNat:Int)))) (JQ (s':=((1:Int),(0:Int),[104,32,113,91,50,93,59,10].map (fun b:UInt8=>(b.toNat:Int)))) ?_ (JV rfl)) (Jk (x:=([104,32,113,91,50,93,59,10],0,())) (by kernel_rfl) rfl)
 exact br_t rfl (Jk (x:=begN) rfl (Jk line_w rfl))
end W
end

section
set_option maxRecDepth 100000
namespace W
open Go Go.Ql Go.Proofs
theorem beg_spec:specP [104,32,113,32,91,32,50,32,93,32,59]=(prog begL,(0,0)):=by kernel_rfl
theorem begun_law:kg=some true:=by
 unfold kg
 have e:=parse_law [104,32,113,32,91,32,50,32,93,32,59]
 rw [beg_spec] at e
 refine Jk e (Jk (x:=true) ?_ rfl)
 unfold kg.c2
 exact br_t (by rfl) (Jk beg_print rfl)
theorem reads_law (text:Z7):kq text=some true:=by
 unfold kq
 refine Jk (parse_law text) (Jk (rparse_law text) (Jk (x:=true) ?_ rfl))
 unfold kq.c3
 have hs:=same_ok (p:=true) (specP_sho text).refl
 generalize specP text=y at hs
 obtain ⟨⟨⟨n0,n1,n2,n3⟩,l⟩,f0,f1⟩:=y
 refine Jk begun_law (br_t rfl (br_t ?_ (Jk hs rfl)))
 simp [Ty.eqT]
end W
end
