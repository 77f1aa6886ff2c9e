/- Plain laws: what is read is a program; how it is written. -/
import Derived.Test.YtdocfkidnnalnaaGreatDoorPaS
import Derived.Test.YtdocfkidnnalnaaGreatDoorPbS
import Derived.Test.YtdocfkidnnalnaaGreatDoorWcS
import Derived.Test.YtdocfkidnnalnaaGreatDoorWdS
import Derived.Lib.Join
import Derived.Lib.ItoaNum
set_option linter.all false
section
namespace Go.Ql
def Us (w:Za):Prop:=w.length≤40000∧keysT.elem w=false ∧ ∃c r,w=c::r∧YY c=true ∧ ∀d∈r,(YY d||Yn d)=true
inductive YEx where
 | num (p v:Int) | name (p:Int) (w:Za) | size (p:Int) (w:Za) | neg (p:Int) (a:YEx) | bin (p:Int) (w:Za) (a b:YEx)
def YEx.nd:YEx→Nd
 | .num p v=>VC 20 p [] v []
 | .name p w=>VC 21 p w 0 []
 | .size p w=>VC 22 p w 0 []
 | .neg p a=>Yh 23 p [a.nd]
 | .bin p w a b=>VC 24 p w 0 [a.nd,b.nd]
def YEx.ok:YEx→Prop
 | .num _ v=>0≤v∧v<1000000000
 | .name _ w=>Us w
 | .size _ w=>Us w
 | .neg _ a=>a.ok
 | .bin _ w a b=>YT w≠0∧a.ok∧b.ok
def YEx.sz:YEx→Nat
 | .num _ _=>1
 | .name _ _=>1
 | .size _ _=>4
 | .neg _ a=>1+a.sz
 | .bin _ _ a b=>1+a.sz+b.sz
inductive YRf where
 | one (p:Int) (w:Za) | idx (p:Int) (w:Za) (a:YEx) | rng (p:Int) (w:Za) (a b:YEx)
def YRf.nd:YRf→Nd
 | .one p w=>VC 19 p w 0 []
 | .idx p w a=>VC 19 p w 1 [a.nd]
 | .rng p w a b=>VC 19 p w 2 [a.nd,b.nd]
def YRf.ok:YRf→Prop
 | .one _ w=>Us w
 | .idx _ w a=>Us w∧a.ok
 | .rng _ w a b=>Us w∧a.ok∧b.ok
def YRf.sz:YRf→Nat
 | .one _ _=>1
 | .idx _ _ a=>3+a.sz
 | .rng _ _ a b=>4+a.sz+b.sz
inductive YTr where
 | op (k:Nat) (p:Int) (a b:YTr) | not (p:Int) (a:YTr) | bit (p v:Int) | ref (r:YRf)
def YTr.nd:YTr→Nd
 | .op k p a b=>Yh (gW k).2 p [a.nd,b.nd]
 | .not p a=>Yh 27 p [a.nd]
 | .bit p v=>VC 26 p [] v []
 | .ref r=>r.nd
def YTr.ok:YTr→Prop
 | .op k _ a b=>(1≤k∧k≤3)∧a.ok∧b.ok
 | .not _ a=>a.ok
 | .bit _ v=>v=0∨v=1
 | .ref r=>r.ok
def YTr.sz:YTr→Nat
 | .op _ _ a b=>1+a.sz+b.sz
 | .not _ a=>1+a.sz
 | .bit _ _=>1
 | .ref r=>r.sz
inductive YMd where
 | inv (p:Int) | ctrl (p:Int) | pow (p:Int) (e:YEx)
def YMd.nd:YMd→Nd
 | .inv p=>Yh 9 p []
 | .ctrl p=>Yh 10 p []
 | .pow p e=>Yh 11 p [e.nd]
def YMd.ok:YMd→Prop
 | .pow _ e=>e.ok
 | _=>True
def YMd.sz:YMd→Nat
 | .pow _ e=>4+e.sz
 | _=>2
def VT {α:Type} (f:α→Nat) (l:List α):Nat:=(l.map f).sum
def rY {α:Type} {f:α→Nat} {l:List α} {a:α}:VT f (l++[a])=VT f l+f a:=by simp [VT]
mutual
inductive YSt where
 | forS (p:Int) (w:Za) (lo hi:YEx) (q:Int) (b:YSts)
 | whenS (p:Int) (e:YEx) (q:Int) (b:YSts)
 | ifS (p:Int) (no:Bool) (r:YRf) (q:Int) (b:YSts)
 | ifE (p:Int) (no:Bool) (r:YRf) (q:Int) (b:YSts) (q2:Int) (c:YSts)
 | meas (p:Int) (a b:YRf)
 | reset (p:Int) (a:YRf)
 | within (p:Int) (q:Int) (a:YSts) (q2:Int) (b:YSts)
 | flip (p:Int) (r:YRf) (e:YTr)
 | app (p:Int) (w:Za) (mods:List YMd) (args:List YEx) (refs:List YRf)
inductive YSts where
 | nil | cons (s:YSt) (l:YSts)
end
mutual
def YSt.nd:YSt→Nd
 | .forS p w lo hi q b=>VC 12 p w 0 [lo.nd,hi.nd,Yh 7 q b.nds]
 | .whenS p e q b=>Yh 13 p [e.nd,Yh 7 q b.nds]
 | .ifS p no r q b=>VC 14 p [] (if no then 1 else 0) [r.nd,Yh 7 q b.nds]
 | .ifE p no r q b q2 c=>VC 14 p [] (if no then 1 else 0) [r.nd,Yh 7 q b.nds,Yh 7 q2 c.nds]
 | .meas p a b=>Yh 15 p [a.nd,b.nd]
 | .reset p a=>Yh 16 p [a.nd]
 | .within p q a q2 b=>Yh 17 p [Yh 7 q a.nds,Yh 7 q2 b.nds]
 | .flip p r e=>Yh 18 p [r.nd,e.nd]
 | .app p w mods args refs=>VC 8 p w 0 [gr (mods.map YMd.nd),gr (args.map YEx.nd),gr (refs.map YRf.nd)]
def YSts.nds:YSts→List Nd
 | .nil=>[]
 | .cons s l=>s.nd::l.nds
end
mutual
def YSt.ok:YSt→Prop
 | .forS _ w lo hi _ b=>Us w∧lo.ok∧hi.ok∧b.ok
 | .whenS _ e _ b=>e.ok∧b.ok
 | .ifS _ _ r _ b=>r.ok∧b.ok
 | .ifE _ _ r _ b _ c=>r.ok∧b.ok∧c.ok
 | .meas _ a b=>a.ok∧b.ok
 | .reset _ a=>a.ok
 | .within _ _ a _ b=>a.ok∧b.ok
 | .flip _ r e=>r.ok∧e.ok
 | .app _ w mods args refs=>Us w∧(∀m∈mods,m.ok)∧(∀e∈args,e.ok)∧(∀r∈refs,r.ok)
def YSts.ok:YSts→Prop
 | .nil=>True
 | .cons s l=>s.ok∧l.ok
end
mutual
def YSt.sz:YSt→Nat
 | .forS _ _ lo hi _ b=>6+lo.sz+hi.sz+b.sz
 | .whenS _ e _ b=>3+e.sz+b.sz
 | .ifS _ _ r _ b=>3+r.sz+b.sz
 | .ifE _ _ r _ b _ c=>6+r.sz+b.sz+c.sz
 | .meas _ a b=>3+a.sz+b.sz
 | .reset _ a=>2+a.sz
 | .within _ _ a _ b=>6+a.sz+b.sz
 | .flip _ r e=>2+r.sz+e.sz
 | .app _ _ mods args refs=>2+VT YMd.sz mods+VT YEx.sz args+VT YRf.sz refs
def YSts.sz:YSts→Nat
 | .nil=>0
 | .cons s l=>s.sz+l.sz
end
def YSts.app:YSts→YSts→YSts
 | .nil,m=>m
 | .cons s l,m=>.cons s (l.app m)
def YSts.app_nds:∀(l m:YSts),(l.app m).nds=l.nds++m.nds
 | .nil,m=>by simp [YSts.app,YSts.nds]
 | .cons s l,m=>by simp [YSts.app,YSts.nds,YSts.app_nds l m]
def YSts.app_sz:∀(l m:YSts),(l.app m).sz=l.sz+m.sz
 | .nil,m=>by simp [YSts.app,YSts.sz]
 | .cons s l,m=>by simp [YSts.app,YSts.sz,YSts.app_sz l m];omega
def YSts.app_ok:∀(l m:YSts),l.ok→m.ok→(l.app m).ok
 | .nil,m,_,h=>h
 | .cons s l,m,h,h'=>by
   simp only [YSts.ok] at h
   simp only [YSts.app,YSts.ok]
   exact ⟨h.1,YSts.app_ok l m h.2 h'⟩
inductive YIt where
 | decl (bit:Bool) (p:Int) (w:Za) (e:YEx) | const (p:Int) (w:Za) (e:YEx)
 | gate (p:Int) (w:Za) (ints:List (Int×Za)) (wires:List (Int×Za×Bool)) (q:Int) (b:YSts)
 | st (s:YSt)
def UV (x:Int×Za):Nd:=VC 6 x.1 x.2 0 []
def UR (x:Int×Za×Bool):Nd:=VC 6 x.1 x.2.1 (if x.2.2 then 1 else 0) []
def mZ (x:Int×Za×Bool):Nat:=if x.2.2 then 3 else 1
def YIt.nd:YIt→Nd
 | .decl bit p w e=>VC (if bit then 3 else 2) p w 0 [e.nd]
 | .const p w e=>VC 4 p w 0 [e.nd]
 | .gate p w ints wires q b=>VC 5 p w 0 [gr (ints.map UV),gr (wires.map UR),Yh 7 q b.nds]
 | .st s=>s.nd
def YIt.ok:YIt→Prop
 | .decl _ _ w e=>Us w∧e.ok
 | .const _ w e=>Us w∧e.ok
 | .gate _ w ints wires _ b=>Us w∧(∀x∈ints,Us x.2)∧(∀x∈wires,Us x.2.1)∧wires≠[]∧b.ok
 | .st s=>s.ok
def YIt.sz:YIt→Nat
 | .decl _ _ _ e=>5+e.sz
 | .const _ _ e=>4+e.sz
 | .gate _ _ ints wires _ b=>4+ints.length+VT mZ wires+b.sz
 | .st s=>s.sz
def TkV (t:Tk):Prop:=(t.1=1→Us t.2.1)∧(t.1=3→0≤aA t.2.1∧aA t.2.1<1000000000)
def AllV (ts:List Tk):Prop:=∀t∈ts,TkV t
def AllV.tail {ts:List Tk} (h:AllV ts):AllV ts.tail:=fun t ht=>h t (List.mem_of_mem_tail ht)
def AllV.hd {ts:List Tk} (h:AllV ts):TkV (Jy ts):=by
 cases ts with
 | nil=>exact ⟨(fun h=>by cases h),(fun h=>by cases h)⟩
 | cons t l=>exact h t (by simp)
def Sd {α β:Type} (f:β→α) (G:β→Prop) (z:β→Nat) (r:Rd α) (L:Nat):Prop:=match r with
 | .ok a us=>∃b,a=f b∧G b∧z b+us.length≤L∧AllV us
 | _=>True
def Sd.bind {α β γ δ:Type} {f:β→α} {G:β→Prop} {z:β→Nat} {r:Rd α} {L:Nat} {f':δ→γ} {G':δ→Prop} {z':δ→Nat} {g:α→List Tk→Rd γ} {M:Nat}
 (h:Sd f G z r L) (hg:∀b us,G b→z b+us.length≤L→AllV us→Sd f' G' z' (g (f b) us) M):Sd f' G' z' (r.bind g) M:=by
 cases r with
 | ok a us=>
   obtain ⟨b,rfl,h1,h2,h3⟩:=h
   exact hg b us h1 h2 h3
 | err e=>trivial
 | out=>trivial
def Sd.ite {α β:Type} {f:β→α} {G:β→Prop} {z:β→Nat} {c:Prop} [Decidable c] {r s:Rd α} {L:Nat} (h1:c→Sd f G z r L) (h2:¬c→Sd f G z s L):Sd f G z (if c then r else s) L:=by
 by_cases h:c
 ·rw [if_pos h];exact h1 h
 ·rw [if_neg h];exact h2 h
def Sd.mk {α β:Type} {f:β→α} {G:β→Prop} {z:β→Nat} {us:List Tk} {L:Nat} (b:β) (h1:G b) (h2:z b+us.length≤L) (h3:AllV us):Sd f G z (.ok (f b) us) L:=⟨b,rfl,h1,h2,h3⟩
def YW {w:Za} {ts:List Tk} (h:AllV ts):Sd id (fun _=>True) (fun _=>1) (JN w ts) ts.length:=by
 unfold JN
 refine Sd.ite (fun hs=>?_) (fun _=>trivial)
 have:=Jc hs
 exact ⟨Jy ts,rfl,trivial,by show 1+_≤_;omega,h.tail⟩
def aS {ts:List Tk} (h:AllV ts):Sd id (fun t=>Us t.2.1) (fun _=>1) (Vl ts) ts.length:=by
 unfold Vl
 refine Sd.ite (fun hs=>?_) (fun _=>trivial)
 have:=UO hs (by omega)
 exact ⟨Jy ts,rfl,h.hd.1 hs,by show 1+_≤_;omega,h.tail⟩
def QU:∀n:Nat,
 (∀lvl ts,1≤lvl→AllV ts→Sd YEx.nd YEx.ok YEx.sz (Yf n lvl ts) ts.length) ∧
 (∀lvl (a:YEx) ts,1≤lvl→a.ok→AllV ts→Sd YEx.nd YEx.ok YEx.sz (Hb n lvl a.nd ts) (a.sz+ts.length)) ∧
 (∀ts,AllV ts→Sd YEx.nd YEx.ok YEx.sz (aL n ts) ts.length)∧(∀ts,AllV ts→Sd YEx.nd YEx.ok YEx.sz (d4 n ts) ts.length):=by
 intro n
 induction n with
 | zero=>exact ⟨fun _ _ _ _=>trivial,fun _ _ _ _ _ _=>trivial,fun _ _=>trivial,fun _ _=>trivial⟩
 | succ n ih=>
   obtain ⟨hE,hT,hS,hA⟩:=ih
   have wk:∀{r:Rd Nd} {L M:Nat},Sd YEx.nd YEx.ok YEx.sz r L→L≤M→Sd YEx.nd YEx.ok YEx.sz r M:=by
    intro r L M h hm
    cases r with
    | ok a us=>obtain ⟨b,h1,h2,h3,h4⟩:=h;exact ⟨b,h1,h2,by omega,h4⟩
    | err e=>trivial
    | out=>trivial
   refine ⟨fun lvl ts hl hv=>?_,fun lvl a ts hl ha hv=>?_,fun ts hv=>?_,fun ts hv=>?_⟩
   ·rw [Yf]
    refine Sd.ite (fun h=>hS ts hv) (fun h=>?_)
    exact (hE (lvl+1) ts (by omega) hv).bind fun b us hb hz hu=>wk (hT lvl b us hl hb hu) hz
   ·rw [Hb]
    refine Sd.ite (fun h=>?_) (fun h=>Sd.mk a ha (by omega) hv)
    have ht:=UO h.1 (by omega)
    refine (hE (lvl+1) ts.tail (by omega) hv.tail).bind fun b us hb hz hu=>?_
    have hr:YT (Jy ts).2.1≠0:=by rw [h.2];omega
    refine Sd.ite (fun h1=>Sd.mk (YEx.bin (Jy ts).2.2 (Jy ts).2.1 a b) ⟨hr,ha,hb⟩ (by simp only [YEx.sz];omega) hu) (fun h1=>?_)
    exact wk (hT lvl (YEx.bin (Jy ts).2.2 (Jy ts).2.1 a b) us hl ⟨hr,ha,hb⟩ hu) (by simp only [YEx.sz];omega)
   ·rw [aL]
    refine Sd.ite (fun h=>?_) (fun h=>?_)
    ·have ht:=Jc h
     exact (hS ts.tail hv.tail).bind fun b us hb hz hu=>Sd.mk (YEx.neg (Jy ts).2.2 b) hb (by simp only [YEx.sz];omega) hu
    ·refine (hA ts hv).bind fun b us hb hz hu=>Sd.ite (fun h2=>?_) (fun _=>Sd.mk b hb hz hu)
     have ht:=Jc h2
     have hr:YT (Jy us).2.1≠0:=by rw [NQ h2];decide
     exact (hS us.tail hu.tail).bind fun c vs hc hz' hv=>Sd.mk (YEx.bin (Jy us).2.2 (Jy us).2.1 b c) ⟨hr,hb,hc⟩ (by simp only [YEx.sz];omega) hv
   ·rw [d4]
    refine Sd.ite (fun h=>?_) fun _=>Sd.ite (fun h=>?_) fun _=>Sd.ite (fun h=>?_) fun _=>?_
    ·have ht:=UO h (by omega)
     exact Sd.mk (YEx.num (Jy ts).2.2 (aA (Jy ts).2.1)) (hv.hd.2 h) (by simp only [YEx.sz];omega) hv.tail
    ·have ht:=UO h (by omega)
     exact Sd.mk (YEx.name (Jy ts).2.2 (Jy ts).2.1) (hv.hd.1 h) (by simp only [YEx.sz];omega) hv.tail
    ·have ht:=Jc h
     exact (YW hv.tail).bind fun _ us _ hz hu=>(aS hu).bind fun w vs hw hz' hv=>(YW hv).bind fun _ xs _ hz'' hx=>Sd.mk (YEx.size (Jy ts).2.2 w.2.1) hw (by simp only [YEx.sz];omega) hx
    ·exact (YW hv).bind fun _ us _ hz hu=>(hE 1 us (by omega) hu).bind fun b vs hb hz' hv=>(YW hv).bind fun _ xs _ hz'' hx=>Sd.mk b hb (by omega) hx
def gD {n:Nat} {ts:List Tk} (h:AllV ts):Sd YEx.nd YEx.ok YEx.sz (Yf n 1 ts) ts.length:=(QU n).1 1 ts (by omega) h
def M7 {n:Nat} {w:Tk} {ts:List Tk} (hw:Us w.2.1) (h:AllV ts):Sd YRf.nd YRf.ok YRf.sz (fM n w ts) (1+ts.length):=by
 unfold fM
 refine Sd.ite (fun hs=>?_) (fun _=>Sd.mk (YRf.one w.2.2 w.2.1) hw (by simp only [YRf.sz];omega) h)
 have ht:=Jc hs
 refine (gD h.tail).bind fun a us ha hz hu=>Sd.ite (fun hs2=>?_) (fun _=>?_)
 ·have ht:=Jc hs2
  exact (gD hu.tail).bind fun b vs hb hz' hv=>(YW hv).bind fun _ xs _ hz'' hx=>Sd.mk (YRf.rng w.2.2 w.2.1 a b) ⟨hw,ha,hb⟩ (by simp only [YRf.sz];omega) hx
 ·exact (YW hu).bind fun _ xs _ hz'' hx=>Sd.mk (YRf.idx w.2.2 w.2.1 a) ⟨hw,ha⟩ (by simp only [YRf.sz];omega) hx
def Sd.mono {α β:Type} {f:β→α} {G:β→Prop} {z:β→Nat} {r:Rd α} {L M:Nat} (h:Sd f G z r L) (hm:L≤M):Sd f G z r M:=by
 cases r with
 | ok a us=>obtain ⟨b,h1,h2,h3,h4⟩:=h;exact ⟨b,h1,h2,by omega,h4⟩
 | err e=>trivial
 | out=>trivial
def qF {n:Nat} {ts:List Tk} (h:AllV ts):Sd YRf.nd YRf.ok YRf.sz (UA n ts) ts.length:=by
 unfold UA
 exact (aS h).bind fun w us hw hz hu=>(M7 hw hu).mono hz
def L7:∀n:Nat,
 (∀lvl ts,1≤lvl→lvl≤4→AllV ts→Sd YTr.nd YTr.ok YTr.sz (Vn n lvl ts) ts.length) ∧
 (∀lvl (a:YTr) ts,1≤lvl→lvl≤3→a.ok→AllV ts→Sd YTr.nd YTr.ok YTr.sz (UQ n lvl a.nd ts) (a.sz+ts.length)) ∧
 (∀ts,AllV ts→Sd YTr.nd YTr.ok YTr.sz (cH n ts) ts.length):=by
 intro n
 induction n with
 | zero=>exact ⟨fun _ _ _ _ _=>trivial,fun _ _ _ _ _ _ _=>trivial,fun _ _=>trivial⟩
 | succ n ih=>
   obtain ⟨hE,hT,hN⟩:=ih
   refine ⟨fun lvl ts h1 h4 hv=>?_,fun lvl a ts h1 h3 ha hv=>?_,fun ts hv=>?_⟩
   ·rw [Vn]
    refine Sd.ite (fun h=>hN ts hv) (fun h=>?_)
    exact (hE (lvl+1) ts (by omega) (by omega) hv).bind fun b us hb hz hu=>(hT lvl b us h1 (by omega) hb hu).mono hz
   ·rw [UQ]
    refine Sd.ite (fun h=>?_) (fun h=>Sd.mk a ha (by omega) hv)
    have ht:=Jc h
    refine (hE (lvl+1) ts.tail (by omega) (by omega) hv.tail).bind fun b us hb hz hu=>?_
    exact (hT lvl (YTr.op lvl (Jy ts).2.2 a b) us h1 h3 ⟨⟨h1,h3⟩,ha,hb⟩ hu).mono (by simp only [YTr.sz];omega)
   ·rw [cH]
    refine Sd.ite (fun h=>?_) fun _=>Sd.ite (fun h=>?_) fun _=>Sd.ite (fun h=>?_) fun _=>?_
    ·have ht:=Jc h
     exact (hN ts.tail hv.tail).bind fun b us hb hz hu=>Sd.mk (YTr.not (Jy ts).2.2 b) hb (by simp only [YTr.sz];omega) hu
    ·have ht:=Jc h
     exact (hE 1 ts.tail (by omega) (by omega) hv.tail).bind fun b us hb hz hu=>(YW hu).bind fun _ xs _ hz' hx=>Sd.mk b hb (by omega) hx
    ·have ht:=UO h.1 (by omega)
     exact Sd.mk (YTr.bit (Jy ts).2.2 (if (Jy ts).2.1 = bs "0" then 0 else 1)) (by simp only [YTr.ok]; split <;> simp) (by simp only [YTr.sz]; omega) hv.tail
    ·have:=qF (n:=n) hv
     revert this
     cases UA n ts with
     | ok a us=>rintro ⟨r,h1,h2,h3,h4⟩;exact ⟨.ref r,h1,h2,h3,h4⟩
     | err e=>exact id
     | out=>exact id
def SG {n:Nat} {ts:List Tk} (h:AllV ts):Sd YTr.nd YTr.ok YTr.sz (Vn n 1 ts) ts.length:=(L7 n).1 1 ts (by omega) (by omega) h
def MY {β:Type} {f:β→Nd} {G:β→Prop} {z:β→Nat} {one:List Tk→Rd Nd} (h1:∀ts,AllV ts→Sd f G z (one ts) ts.length) :
 ∀(n:Nat) (l:List β) (ts:List Tk),(∀b∈l,G b)→AllV ts→Sd (fun l:List β=>l.map f) (fun l'=>(∀b∈l',G b)∧(l≠[]→l'≠[])) (VT z) (HJ one n (l.map f) ts) (VT z l+ts.length)
 | 0,_,_,_,_=>trivial
 | n+1,l,ts,hl,hv=>by
   rw [HJ]
   refine Sd.ite (fun h=>?_) (fun h=>Sd.mk l ⟨hl,id⟩ (by omega) hv)
   have ht:=Jc h
   refine (h1 ts.tail hv.tail).bind fun b us hb hz hu=>?_
   have:=MY h1 n (l++[b]) us (fun x hx=>by
    rcases List.mem_append.1 hx with hx | hx
    ·exact hl x hx
    ·rw [List.mem_singleton.1 hx];exact hb) hu
   rw [List.map_append] at this
   have:=this.mono (M:=VT z l+ts.length) (by rw [rY];omega)
   revert this
   show Sd _ _ _ (HJ one n (l.map f++[f b]) us) _→_
   cases HJ one n (l.map f++[f b]) us with
   | ok a vs=>rintro ⟨l',g1,g2,g3,g4⟩;exact ⟨l',g1,⟨g2.1,fun _=>g2.2 (by simp)⟩,g3,g4⟩
   | err e=>exact id
   | out=>exact id
def w6 {β:Type} {f:β→Nd} {G:β→Prop} {z:β→Nat} {one:List Tk→Rd Nd} (h1:∀ts,AllV ts→Sd f G z (one ts) ts.length) {n:Nat} {ts:List Tk} (hv:AllV ts) :
 Sd (fun l:List β=>l.map f) (fun l'=>(∀b∈l',G b)∧l'≠[]) (VT z) (UM one n ts) ts.length:=by
 unfold UM
 refine (h1 ts hv).bind fun b us hb hz hu=>?_
 have:=(MY h1 n [b] us (fun x hx=>by rw [List.mem_singleton.1 hx];exact hb) hu).mono (M:=ts.length) (by simp [VT];omega)
 revert this
 show Sd _ _ _ (HJ one n [f b] us) _→_
 cases HJ one n [f b] us with
 | ok a vs=>rintro ⟨l',g1,g2,g3,g4⟩;exact ⟨l',g1,⟨g2.1,g2.2 (by simp)⟩,g3,g4⟩
 | err e=>exact id
 | out=>exact id
def M2:∀(n:Nat) (l:List YMd) (ts:List Tk),(∀m∈l,m.ok)→AllV ts→Sd (fun l:List YMd=>l.map YMd.nd) (fun l'=>∀m∈l',m.ok) (VT YMd.sz) (Hx n (l.map YMd.nd) ts) (VT YMd.sz l+ts.length)
 | 0,_,_,_,_=>trivial
 | n+1,l,ts,hl,hv=>by
   rw [Hx]
   have step:∀(m:YMd) us,m.ok→AllV us→m.sz+us.length≤ts.length→Sd (fun l:List YMd=>l.map YMd.nd) (fun l'=>∀m∈l',m.ok) (VT YMd.sz) (Hx n (l.map YMd.nd++[m.nd]) us) (VT YMd.sz l+ts.length):=by
    intro m us hm hu hz
    have:=M2 n (l++[m]) us (fun x hx=>by
     rcases List.mem_append.1 hx with hx | hx
     ·exact hl x hx
     ·rw [List.mem_singleton.1 hx];exact hm) hu
    rw [List.map_append] at this
    exact this.mono (by rw [rY];omega)
   refine Sd.ite (fun h=>?_) fun _=>Sd.ite (fun h=>?_) fun _=>Sd.ite (fun h=>?_) fun _=>Sd.mk l hl (by omega) hv
   ·have ht:=Jc h
    exact (YW hv.tail).bind fun _ us _ hz hu=>step (YMd.inv (Jy ts).2.2) us trivial hu (by simp only [YMd.sz];omega)
   ·have ht:=Jc h
    exact (YW hv.tail).bind fun _ us _ hz hu=>step (YMd.ctrl (Jy ts).2.2) us trivial hu (by simp only [YMd.sz];omega)
   ·have ht:=Jc h
    exact (YW hv.tail).bind fun _ us _ hz hu=>(gD hu).bind fun e vs he hz' hv=>(YW hv).bind fun _ xs _ hz2 hx=>(YW hx).bind fun _ ys _ hz3 hy=>step (YMd.pow (Jy ts).2.2 e) ys he hy (by simp only [YMd.sz];omega)
def MO {n:Nat} {at_:Int} {mods:List YMd} {w:Tk} {ts:List Tk} (hm:∀m∈mods,m.ok) (hw:Us w.2.1) (hv:AllV ts):Sd YSt.nd YSt.ok YSt.sz (cD n at_ (mods.map YMd.nd) w ts) (1+VT YMd.sz mods+ts.length):=by
 unfold cD
 have h1 : Sd (fun l : List YEx => l.map YEx.nd) (fun l' => ∀ b ∈ l', b.ok) (VT YEx.sz) ((if Ja (bs "(") ts then (UM (Yf n 1) n ts.tail).bind fun l us => (JN (bs ")") us).bind fun _ us => .ok l us else .ok [] ts) : Rd (List Nd)) ts.length := by
  refine Sd.ite (fun h=>?_) (fun h=>Sd.mk [] (fun _ h=>by cases h) (by simp [VT]) hv)
  have ht:=Jc h
  exact (w6 (fun us=>gD) hv.tail).bind fun l us hl hz hu=>(YW hu).bind fun _ vs _ hz' hv=>Sd.mk l hl.1 (by omega) hv
 refine h1.bind fun args us ha hz hu=>?_
 have h2:Sd (fun l:List YRf=>l.map YRf.nd) (fun l'=>∀b∈l',b.ok) (VT YRf.sz) ((if (Jy us).1=1 then UM (UA n) n us else .ok [] us):Rd (List Nd)) us.length:=by
  refine Sd.ite (fun h=>?_) (fun h=>Sd.mk [] (fun _ h=>by cases h) (by simp [VT]) hu)
  have:=w6 (n:=n) (fun us=>qF (n:=n)) hu
  revert this
  cases UM (UA n) n us with
  | ok a vs=>rintro ⟨l',g1,g2,g3,g4⟩;exact ⟨l',g1,g2.1,g3,g4⟩
  | err e=>exact id
  | out=>exact id
 exact h2.bind fun refs vs hr hz' hv=>(YW hv).bind fun _ xs _ hz2 hx=>Sd.mk (YSt.app at_ w.2.1 mods args refs) ⟨hw,hm,ha,hr⟩ (by simp only [YSt.sz];omega) hx
end Go.Ql
end

section
namespace Go.Ql
def bkN (x:Int×YSts):Nd:=Yh 7 x.1 x.2.nds
def G2:∀n:Nat,
 (∀ts,AllV ts→Sd bkN (fun x=>x.2.ok) (fun x=>2+x.2.sz) (UD n ts) ts.length) ∧
 (∀(s:YSts) ts,s.ok→AllV ts→Sd YSts.nds YSts.ok (fun x=>1+x.sz) (lE n s.nds ts) (s.sz+ts.length)) ∧
 (∀ts,AllV ts→Sd YSt.nd YSt.ok YSt.sz (Ni n ts) ts.length):=by
 intro n
 induction n with
 | zero=>exact ⟨fun _ _=>trivial,fun _ _ _ _=>trivial,fun _ _=>trivial⟩
 | succ n ih=>
   obtain ⟨hB,hQ,hS⟩:=ih
   refine ⟨fun ts hv=>?_,fun s ts hs hv=>?_,fun ts hv=>?_⟩
   ·rw [UD]
    refine (YW hv).bind fun t us _ hz hu=>(hQ .nil us trivial hu).bind fun b vs hb hz' hv=>?_
    have hz:1+us.length≤ts.length:=hz
    have hz':1+b.sz+vs.length≤0+us.length:=hz'
    exact Sd.mk (f:=bkN) (t.2.2,b) hb (by show 2+b.sz+_≤_;omega) hv
   ·rw [lE]
    refine Sd.ite (fun h=>?_) (fun h=>?_)
    ·have ht:=Jc h
     exact Sd.mk s hs (by show 1+s.sz+_≤_;omega) hv.tail
    ·refine (hS ts hv).bind fun b us hb hz hu=>?_
     have:=hQ (s.app (.cons b .nil)) us (YSts.app_ok _ _ hs ⟨hb,trivial⟩) hu
     rw [YSts.app_nds] at this
     exact this.mono (by rw [YSts.app_sz];simp only [YSts.sz];omega)
   ·rw [Ni]
    refine Sd.ite (fun h=>?_) fun _=>Sd.ite (fun h=>?_) fun _=>Sd.ite (fun h=>?_) fun _=>Sd.ite (fun h=>?_) fun _=>Sd.ite (fun h=>?_) fun _=>Sd.ite (fun h=>?_) fun _=>Sd.ite (fun h=>?_) fun _=>?_
    ·have ht:=Jc h
     refine (aS hv.tail).bind fun w us hw hz hu=>(YW hu).bind fun _ vs _ hz1 hv=>(gD hv).bind fun lo xs h1 hz2 hx=>(YW hx).bind fun _ ys _ hz3 hy=>(gD hy).bind fun hi zs h2 hz4 hz=>(hB zs hz).bind fun b rs hb hz5 hr=>?_
     refine Sd.mk (YSt.forS (Jy ts).2.2 w.2.1 lo hi b.1 b.2) ⟨hw,h1,h2,hb⟩ (by simp only [YSt.sz];omega) hr
    ·have ht:=Jc h
     exact (gD hv.tail).bind fun e us he hz hu=>(hB us hu).bind fun b rs hb hz5 hr=>Sd.mk (YSt.whenS (Jy ts).2.2 e b.1 b.2) ⟨he,hb⟩ (by simp only [YSt.sz];omega) hr
    ·have ht:=Jc h
     have key:∀vs,AllV vs→vs.length≤ts.tail.length→Sd YSt.nd YSt.ok YSt.sz ((UA n vs).bind fun r us=>(UD n us).bind fun b us=>
      if Ja (bs "else") us then (UD n us.tail).bind fun c us => .ok (VC 14 (Jy ts).2.2 [] (if Ja (bs "!") ts.tail then 1 else 0) [r, b, c]) us
      else .ok (VC 14 (Jy ts).2.2 [] (if Ja (bs "!") ts.tail then 1 else 0) [r, b]) us) ts.length := by
      intro vs hvs hl
      refine (qF hvs).bind fun r us hr hz hu=>(hB us hu).bind fun b xs hb hz2 hx=>Sd.ite (fun h2=>?_) (fun h2=>?_)
      ·have ht2:=Jc h2
       refine (hB xs.tail hx.tail).bind fun c ys hc hz3 hy => Sd.mk (YSt.ifE (Jy ts).2.2 (Ja (bs "!") ts.tail) r b.1 b.2 c.1 c.2) ⟨hr, hb, hc⟩ (by simp only [YSt.sz]; omega) hy
      ·exact Sd.mk (YSt.ifS (Jy ts).2.2 (Ja (bs "!") ts.tail) r b.1 b.2) ⟨hr, hb⟩ (by simp only [YSt.sz]; omega) hx
     have := key (if Ja (bs "!") ts.tail then ts.tail.tail else ts.tail) (by split; exact hv.tail.tail; exact hv.tail) (by split <;> simp <;> omega)
     exact this
    ·have ht:=Jc h
     exact (qF hv.tail).bind fun a us ha hz hu=>(YW hu).bind fun _ vs _ hz1 hv=>(qF hv).bind fun b xs hb hz2 hx=>(YW hx).bind fun _ ys _ hz3 hy=>Sd.mk (YSt.meas (Jy ts).2.2 a b) ⟨ha,hb⟩ (by simp only [YSt.sz];omega) hy
    ·have ht:=Jc h
     exact (qF hv.tail).bind fun a us ha hz hu=>(YW hu).bind fun _ vs _ hz1 hv=>Sd.mk (YSt.reset (Jy ts).2.2 a) ha (by simp only [YSt.sz];omega) hv
    ·have ht:=Jc h
     exact (hB ts.tail hv.tail).bind fun a us ha hz hu=>(YW hu).bind fun _ vs _ hz1 hv=>(hB vs hv).bind fun b xs hb hz2 hx=>Sd.mk (YSt.within (Jy ts).2.2 a.1 a.2 b.1 b.2) ⟨ha,hb⟩ (by simp only [YSt.sz];omega) hx
    ·refine (M2 n [] ts (fun _ h=>by cases h) hv).bind fun m us hm hz hu=>(aS hu).bind fun w vs hw hz1 hv=>?_
     have hz:VT YMd.sz m+us.length≤0+ts.length:=hz
     exact (MO hm hw hv).mono (by omega)
    ·refine (aS hv).bind fun w us hw hz hu=>Sd.ite (fun h2=>?_) (fun h2=>?_)
     ·exact (M7 hw hu).bind fun r vs hr hz1 hv=>(YW hv).bind fun _ xs _ hz2 hx=>(SG hx).bind fun e ys he hz3 hy=>(YW hy).bind fun _ zs _ hz4 hz=>Sd.mk (YSt.flip (Jy ts).2.2 r e) ⟨hr,he⟩ (by simp only [YSt.sz];omega) hz
     ·exact (MO (mods:=[]) (fun _ h=>by cases h) hw hu).mono (by show 1+0+_≤_;omega)
def RL {n:Nat} {ts:List Tk} (hv:AllV ts):Sd bkN (fun x=>x.2.ok) (fun x=>2+x.2.sz) (UD n ts) ts.length:=(G2 n).1 ts hv
def R3 {n:Nat} {ts:List Tk} (hv:AllV ts):Sd YSt.nd YSt.ok YSt.sz (Ni n ts) ts.length:=(G2 n).2.2 ts hv
def RT {ts:List Tk} (hv:AllV ts):Sd UV (fun x=>Us x.2) (fun _=>1) (fK ts) ts.length:=by
 unfold fK
 exact (aS hv).bind fun w us hw hz hu=>Sd.mk (f:=UV) (w.2.2,w.2.1) hw hz hu
def RV {ts:List Tk} (hv:AllV ts):Sd UR (fun x=>Us x.2.1) mZ (hG ts) ts.length:=by
 unfold hG
 refine (aS hv).bind fun w us hw hz hu=>Sd.ite (fun h=>?_) (fun _=>?_)
 ·have ht:=Jc h
  exact (YW hu.tail).bind fun _ vs _ hz1 hv=>Sd.mk (f:=UR) (w.2.2,w.2.1,true) hw (by show 3+_≤_;omega) hv
 ·exact Sd.mk (f:=UR) (w.2.2,w.2.1,false) hw hz hu
def RO {n:Nat} {t:Tk} {ts:List Tk} (hv:AllV ts):Sd YIt.nd YIt.ok YIt.sz (iT n t ts) (1+ts.length):=by
 unfold iT
 refine (aS hv).bind fun w us hw hz hu=>?_
 have h1 : Sd (fun l : List (Int × Za) => l.map UV) (fun l' => ∀ b ∈ l', Us b.2) List.length ((if Ja (bs "(") us then (UM fK n us.tail).bind fun l us => (JN (bs ")") us).bind fun _ us => .ok l us else .ok [] us) : Rd (List Nd)) us.length := by
  refine Sd.ite (fun h=>?_) (fun h=>Sd.mk (f:=fun l:List (Int×Za)=>l.map UV) [] (fun _ h=>by cases h) (by simp) hu)
  have ht:=Jc h
  refine (w6 (n:=n) (fun us=>RT) hu.tail).bind fun l us hl hz hu=>(YW hu).bind fun _ vs _ hz' hv=>Sd.mk (f:=fun l:List (Int×Za)=>l.map UV) l hl.1 ?_ hv
  have:VT (fun _:Int×Za=>1) l=l.length:=by unfold VT;clear hz hl;induction l with
   | nil=>rfl
   | cons a l ih=>simp [ih];omega
  omega
 refine h1.bind fun ints vs hi hz1 hv=>(w6 (n:=n) (fun us=>RV) hv).bind fun wires xs hww hz2 hx=>(RL hx).bind fun b ys hb hz3 hy=>?_
 exact Sd.mk (YIt.gate t.2.2 w.2.1 ints wires b.1 b.2) ⟨hw,hi,hww.1,hww.2,hb⟩ (by simp only [YIt.sz];omega) hy
def RQ {n:Nat} {ts:List Tk} (hv:AllV ts):Sd YIt.nd YIt.ok YIt.sz (fZ n ts) ts.length:=by
 unfold fZ
 refine Sd.ite (fun h=>?_) fun _=>Sd.ite (fun h=>?_) fun _=>Sd.ite (fun h=>?_) fun _=>?_
 ·have ht:ts.tail.length<ts.length:=by
   rcases Bool.or_eq_true _ _▸h with h | h
   ·exact Jc h
   ·exact Jc h
  exact (aS hv.tail).bind fun w us hw hz hu => (YW hu).bind fun _ vs _ hz1 hv => (gD hv).bind fun e xs he hz2 hx => (YW hx).bind fun _ ys _ hz3 hy => (YW hy).bind fun _ zs _ hz4 hz => Sd.mk (YIt.decl (Ja (bs "bit") ts) (Jy ts).2.2 w.2.1 e) ⟨hw, he⟩ (by simp only [YIt.sz]; omega) hz
 ·have ht:=Jc h
  exact (aS hv.tail).bind fun w us hw hz hu=>(YW hu).bind fun _ vs _ hz1 hv=>(gD hv).bind fun e xs he hz2 hx=>(YW hx).bind fun _ ys _ hz3 hy=>Sd.mk (YIt.const (Jy ts).2.2 w.2.1 e) ⟨hw,he⟩ (by simp only [YIt.sz];omega) hy
 ·have ht:=Jc h
  exact (RO hv.tail).mono (by omega)
 ·have:=R3 (n:=n) hv
  revert this
  cases Ni n ts with
  | ok a us=>rintro ⟨r,h1,h2,h3,h4⟩;exact ⟨.st r,h1,h2,h3,h4⟩
  | err e=>exact id
  | out=>exact id
def M4 {n:Nat}:∀(m:Nat) (l:List YIt) (ts:List Tk),(∀b∈l,b.ok)→AllV ts→Sd (fun l:List YIt=>l.map YIt.nd) (fun l'=>∀b∈l',b.ok) (VT YIt.sz) (cI n m (l.map YIt.nd) ts) (VT YIt.sz l+ts.length)
 | 0,_,_,_,_=>trivial
 | m+1,l,ts,hl,hv=>by
   rw [cI]
   refine Sd.ite (fun h=>Sd.mk l hl (by omega) hv) (fun h=>(RQ hv).bind fun b us hb hz hu=>?_)
   have:=M4 (n:=n) m (l++[b]) us (fun x hx=>by
    rcases List.mem_append.1 hx with hx | hx
    ·exact hl x hx
    ·rw [List.mem_singleton.1 hx];exact hb) hu
   rw [List.map_append] at this
   exact this.mono (by rw [rY];omega)
def I2 {c:UInt8} (h:Yn c=true):0≤(c.toNat:Int)-48∧(c.toNat:Int)-48≤9:=by
 unfold Yn at h
 simp only [ze,zn] at h
 constructor<;>omega
def zE:∀(w:Za) (n:Int),0≤n→(∀c∈w,Yn c=true)→0≤w.foldl (fun n c=>n*10+((c.toNat:Int)-48)) n∧w.foldl (fun n c=>n*10+((c.toNat:Int)-48)) n+1≤(n+1)*10^w.length
 | [],n,h,_=>by simp [h]
 | c::w,n,h,hd=>by
   have hc:=I2 (hd c (by simp))
   have ih:=zE w (n*10+((c.toNat:Int)-48)) (by omega) (fun d hd'=>hd d (by simp [hd']))
   refine ⟨ih.1,Int.le_trans ih.2 ?_⟩
   have e:(n+1)*10^(c::w).length=((n+1)*10)*10^w.length:=by
    rw [zg,Int.pow_succ,Int.mul_assoc,Int.mul_comm 10]
   rw [e]
   exact Int.mul_le_mul_of_nonneg_right (by omega) (Int.pow_nonneg (show (0:Int)≤10 by decide))
def KY (w:Za) (h:w.length≤9) (hd:∀c∈w,Yn c=true):0≤aA w∧aA w<1000000000:=by
 have h1:=zE w 0 (by decide) hd
 refine ⟨h1.1,?_⟩
 have h2:(10:Int)^w.length≤10^9:=by
  have:10^w.length≤10^9:=Nat.pow_le_pow_right (by decide) h
  exact_mod_cast this
 have h3:(10:Int)^9=1000000000:=by decide
 have h4:=h1.2
 unfold aA
 omega
def RG {text:Za} (ht:text.length≤40000) (i:Nat):TkV (UK text i):=by
 have hok:=B2 text i
 refine ⟨fun h=>?_,fun h=>?_⟩
 ·unfold UK at h ⊢
  dsimp only at h ⊢
  have hd:(text.drop (UJ text i)).length≤40000:=by simp;omega
  generalize text.drop (UJ text i)=r at h hd ⊢
  cases r with
  | nil=>cases h
  | cons c r=>
    rw [Ns] at h ⊢
    split at h
    ·rename_i h1
     rw [if_pos h1]
     dsimp only at h ⊢
     split at h
     ·omega
     ·rename_i h2
      have hl:=(List.takeWhile_prefix (fun c=>YY c||Yn c) (l:=c::r)).length_le
      refine ⟨by omega,by simpa using h2,?_⟩
      refine ⟨c,r.takeWhile fun c=>YY c||Yn c,by rw [List.takeWhile_cons,if_pos (by rw [h1];rfl)],h1,wL _⟩
    ·split at h
     ·dsimp only at h;split at h<;>omega
     ·split at h
      ·dsimp only at h;omega
      ·split at h<;>(dsimp only at h;omega)
 ·have:=hok.2.2.2 h
  exact KY _ this.2.1 this.2.2
def B3 {text:Za} (ht:text.length≤40000):∀(k i:Nat),text.length-i<k→i≤text.length→AllV (Nk text i)
 | 0,_,h,_=>by omega
 | k+1,i,h,hi=>by
   rw [bP]
   have hv:=RG ht i
   intro t hm
   rcases Z5.1 hm with hm | hm
   ·rw [hm];exact hv
   ·split at hm
    ·cases hm
    ·rename_i hs
     have he:=pM hi (by omega) (by omega)
     have hb:=pK hi
     exact B3 ht k (cT text i) (by omega) he.2 t hm
def PW {text:Za} (ht:text.length≤40000):AllV (UC text):=by
 rw [r8];exact B3 ht (text.length+1) 0 (by omega) (by omega)
end Go.Ql
end

section
set_option maxRecDepth 4000
namespace W
open Go Go.Ql
def DS (text:Za):kq text=some (aZ text):=by
 unfold kq aZ
 by_cases ht:40000<text.length
 ·rw [JB (show (text.length:Int)>40000 by omega),if_pos ht]
  rfl
 ·rw [JV (show ¬(text.length:Int)>40000 by omega),if_neg ht]
  have hk:=nJ text
  rw [DU (show text.length≤40000 by omega),je]
  have hpos:0<(UC text).length:=by
   cases hq:UC text with
   | nil=>rw [hq] at hk;exact absurd hk.1 id
   | cons a l=>simp
  have h:=DT hk.1 (show (UC text).length≤40001 by omega) (n:=400000) (by omega) 100000 [] (.good (UC text)) (UC text,0,-1,()) ⟨rfl,rfl,0,rfl,hpos,rfl⟩ (show [].length+(UC text).length≤100000 by simp;omega)
  have hno:=oT (show text.length≤40000 by omega)
  revert h hno
  show RunE _ _ _ (cI 400000 100000 [] (UC text))→_
  cases cI 400000 100000 [] (UC text) with
  | ok l us=>
    rintro ⟨q,e,h⟩ _
    refine jf e ?_
    rw [JV (show ¬(VD l q).2.2.2≥0 by have:=h.2.1;show ¬q.2.2.1≥0;omega)]
    rfl
  | err c=>
    rintro ⟨a,q,e,h⟩ _
    refine jf e ?_
    have hc:q.2.2.1=c:=h.2.1
    rw [JB (show (VD a q).2.2.2≥0 by show q.2.2.1≥0;have:=h.2.2.1;omega)]
    subst hc
    rfl
  | out=>intro _ h;exact absurd rfl h
end W
end

section
set_option maxRecDepth 4000
namespace Go.Ql
inductive Like (p:Bool):Nd→Nd→Prop
 | mk (h1 h2:Int×Int×Za×Int) (l1 l2:List Nd):h1.1=h2.1→h1.2.2=h2.2.2→(p=true→h1.2.1=h2.2.1)→l1.length=l2.length→l1.length≤1000000 →
  (∀(i:Nat) (h:i<l1.length) (h':i<l2.length),Like p l1[i] l2[i])→Like p (.mk h1 l1) (.mk h2 l2)
end Go.Ql
namespace W
open Go Go.Ql
def DY {l:List Nd} {i:Nat} (h:i<l.length):sizeOf l[i]<sizeOf l:=List.sizeOf_lt_of_mem (List.getElem_mem h)
def GW {p:Bool} {a b:Nd} (h:Like p a b):∀m,sizeOf a≤m→(jO.fuel m).F (a,b,p,())=some (true,()):=by
 induction h with
 | mk h1 h2 l1 l2 e1 e2 e3 el hl hk ih=>
   intro m hm
   simp only [Rose.mk.sizeOf_spec] at hm
   cases m with
   | zero=>omega
   | succ m=>
     show @jO (jO.fuel m) (.mk h1 l1) (.mk h2 l2) p=_
     unfold jO
     have c1:@jO.c1 Bool p h1.1 h1.2.1 h1.2.2.1 h1.2.2.2 l1 h2.1 h2.2.1 h2.2.2.1 h2.2.2.2 l2 some=some false:=by
      unfold jO.c1
      rw [e1,e2,el]
      cases p with
      | false=>simp [br]
      | true=>simp [br,e3 rfl]
     refine jf c1 ?_
     rw [JA]
     have loop:∀k i,k=l1.length-i→i≤l1.length→iter (fun s=>@jO.ce_ (jO.fuel m) _ p s l1 l2 some) (i:Int)=some (.inr (l1.length:Int)):=by
      intro k
      induction k with
      | zero=>
        intro i hk hi
        have:i=l1.length:=by omega
        subst this
        refine kD ?_
        show @jO.ce_ (jO.fuel m) _ p _ l1 l2 some=_
        unfold jO.ce_
        rw [JV (by omega)]
      | succ k ihk=>
        intro i hk' hi
        have hlt:i<l1.length:=by omega
        have hlt':i<l2.length:=by omega
        have:=DY hlt
        refine kr ?_ (ihk (i+1) (by omega) (by omega))
        show @jO.ce_ (jO.fuel m) _ p _ l1 l2 some=_
        unfold jO.ce_ jO.c6
        rw [JB (by omega),HD hlt,je,HD hlt',je]
        have:=ih i hlt hlt' m (by omega)
        show jc (jc ((jO.fuel m).F (l1[i],l2[i],p,())) _) _=_
        refine jf (jf this rfl) ?_
        show br (!true) _ _=_
        rw [Bool.not_true,JA]
        rw [JS (by omega)]
        rfl
     refine jf (loop _ 0 rfl (by omega)) rfl
def PR {p:Bool} {a b:Nd} (h:Like p a b):HU (a,b,p,())=some (true,()):=GW h _ (zx _)
end W
end

section
namespace Go.Ql
inductive Sho:Nd→Prop
 | mk (h:Int×Int×Za×Int) (l:List Nd):l.length≤1000000→(∀x∈l,Sho x)→Sho (.mk h l)
def Sho.refl {p:Bool} {a:Nd} (h:Sho a):Like p a a:=by
 induction h with
 | mk h l hl hk ih=>exact .mk h h l l rfl rfl (fun _=>rfl) rfl hl (fun i hi _=>ih _ (List.getElem_mem hi))
def NI {α:Type} {f:α→Nat} (hf:∀a,1≤f a):∀l:List α,l.length≤VT f l
 | []=>by simp [VT]
 | a::l=>by
   have:=NI hf l
   have:=hf a
   simp only [VT,List.map_cons,List.sum_cons,zg] at *
   omega
def YEx.sz_pos:∀x:YEx,1≤x.sz:=by intro x;cases x<;>simp only [YEx.sz]<;>omega
def YRf.sz_pos:∀x:YRf,1≤x.sz:=by intro x;cases x<;>simp only [YRf.sz]<;>omega
def YMd.sz_pos:∀x:YMd,1≤x.sz:=by intro x;cases x<;>simp only [YMd.sz]<;>omega
def YSt.sz_pos:∀x:YSt,1≤x.sz:=by intro x;cases x<;>simp only [YSt.sz]<;>omega
def YIt.sz_pos:∀x:YIt,1≤x.sz:=by
 intro x
 cases x with
 | st s=>exact s.sz_pos
 | _=>simp only [YIt.sz];omega
def zG (x:Int×Za×Bool):1≤mZ x:=by unfold mZ;split<;>omega
def YSts.len:∀l:YSts,l.nds.length≤l.sz
 | .nil=>by simp [YSts.nds]
 | .cons s l=>by
   have:=YSts.len l
   have:=s.sz_pos
   simp only [YSts.nds,YSts.sz,zg];omega
def prog (l:List YIt):Nd:=.mk (1,0,[],0) (l.map YIt.nd)
def vY:Nd:=.mk (0,0,[],0) []
def noN_sho:Sho vY:=.mk _ _ (by simp) (by simp)
def BZ {α:Type} {f:α→Nat}:∀{l:List α} {a:α},a∈l→f a≤VT f l
 | b::l,a,h=>by
   simp only [VT,List.map_cons,List.sum_cons]
   rcases Z5.1 h with h | h
   ·subst h;omega
   ·have:=BZ (f:=f) h
    simp only [VT] at this;omega
end Go.Ql
namespace W
open Go Go.Ql
def D0 (text:Za):(∃l,(∀b∈l,YIt.ok b)∧VT YIt.sz l≤40001∧text.length≤40000∧(∃us,cI 400000 100000 [] (UC text)=.ok (l.map YIt.nd) us)∧aZ text=(prog l,(0,0)))∨((aZ text).1=vY∧(aZ text).2.1≠0):=by
 unfold aZ
 by_cases ht:40000<text.length
 ·rw [if_pos ht];exact .inr ⟨rfl,by decide⟩
 ·rw [if_neg ht]
  have hk:=nJ text
  have h:=M4 (n:=400000) 100000 [] (UC text) (fun _ h=>by cases h) (PW (by omega))
  have hno:=oT (show text.length≤40000 by omega)
  revert h hno
  show Sd _ _ _ (cI 400000 100000 [] (UC text)) _→_
  cases cI 400000 100000 [] (UC text) with
  | ok l us=>
    rintro ⟨b,rfl,h1,h2,h3⟩ _
    have h2:VT YIt.sz b+us.length≤0+(UC text).length:=h2
    exact .inl ⟨b,h1,by omega,by omega,⟨us,rfl⟩,rfl⟩
  | err e=>exact fun _ _=>.inr ⟨rfl,by show (1:Int)≠0;decide⟩
  | out=>intro _ h;exact absurd rfl h
end W
end

section
section
namespace Go.Ql
def RM {a1:List Int} (h:Dig 10000 a1) (i:Nat) (hi:i<a1.length):W.JW.c9 (i:Int) a1 Option.some=some (UZ (a1.getD i 0)):=by
 have hd:=h.getD (by decide) i
 unfold W.JW.c9
 rw [aK i rfl hi]
 simp only [je]
 generalize a1.getD i 0=d at *
 rw [iH hd.1,iH hd.1,iH hd.1,JS (x:=d / 1000) (by omega),JS (x:=d / 100) (by omega),JS (x:=d / 10) (by omega),iJ (by omega),iJ (by omega),iJ (by omega)]
 rw [JS (x:=48+d / 1000) (by omega),JS (x:=48+d / 100 % 10) (by omega),JS (x:=48+d / 10 % 10) (by omega),JS (x:=48+d % 10) (by omega)]
 rw [IntWalk.u8_in (48+d / 1000) (by omega),IntWalk.u8_in (48+d / 100 % 10) (by omega),IntWalk.u8_in (48+d / 10 % 10) (by omega),IntWalk.u8_in (48+d % 10) (by omega)]
 rfl
end Go.Ql
end
section
namespace Go.Ql
def LQ (a1:List Int) (i:Nat) (hi:i<a1.length) (hL:a1.length<1000000) (F:List Int) (hF:F.length=4) :
 ∃k:Nat,iter (fun s↦W.JW.ci_ (i:Int) F s a1 Option.some) (0:Int)=some (k:Int)∧k≤3∧(i+1≠a1.length→k=0)∧(∀j,j<k→F.getD j 0=48)∧(i+1=a1.length→k<3→F.getD k 0≠48):=by
 obtain ⟨r,h1,k,h2,h3⟩:=Uk (f:=fun s:Int↦W.JW.ci_ (i:Int) F s a1 Option.some)
  (J:=fun s=>∃k:Nat,s=k∧k≤3∧(i+1≠a1.length→k=0)∧(∀j,j<k→F.getD j 0=48))
  (Q:=fun s=>∃k:Nat,s=k∧k≤3∧(i+1≠a1.length→k=0)∧(∀j,j<k→F.getD j 0=48)∧(i+1=a1.length→k<3→F.getD k 0≠48))
  (fun s=>3-s.toNat) (fun s ⟨k,hs,hk,hk0,hz⟩=>by
   subst hs
   simp only [W.JW.ci_]
   have e:W.JW.c11 (i:Int) F (k:Int) a1 Option.some=some (decide (i+1=a1.length∧k<3∧F.getD k 0=48)):=by
    unfold W.JW.c11
    rw [JS (by omega)]
    by_cases h:i+1=a1.length
    ·rw [YV (beq_iff_eq.2 (by omega))]
     by_cases h4:k<3
     ·rw [JB (by omega),aK k rfl (by omega),je]
      congr 1
      by_cases h5:F.getD k 0=48
      ·rw [h5];simp [h,h4]
      ·rw [beq_false_of_ne h5,zp (fun h6=>h5 h6.2.2)]
     ·rw [JV (by omega),zp (by omega)]
    ·rw [Ys (beq_false_of_ne (by omega)),zp (by omega)]
   rw [e,je]
   by_cases h:i+1=a1.length∧k<3∧F.getD k 0=48
   ·rw [JB h]
    refine Or.inr ⟨((k+1:Nat):Int),by rw [JS (by omega)];rfl,⟨k+1,rfl,by omega,fun h'=>absurd h.1 h',fun j hj=>?_⟩,by omega⟩
    by_cases h8:j=k
    ·subst h8;exact h.2.2
    ·exact hz j (by omega)
   ·rw [JV h]
    exact Or.inl ⟨_,rfl,k,rfl,hk,hk0,hz,fun h1 h2 h3=>h ⟨h1,h2,h3⟩⟩)
  (s:=(0:Int)) ⟨0,rfl,by omega,fun _=>rfl,fun j hj=>by omega⟩
 exact ⟨k,by rw [h1,h2],h3⟩
end Go.Ql
end
section
namespace Go.Ql
def EI (sg:Za) (a1:List Int) (hd:Dig 10000 a1) (ht:tX a1) (hn:a1≠[]) (hL:a1.length<1000000) (hs:sg.length≤1) :
 ∃r:Za×Int,iter (fun s:Za×Int↦W.JW.cg_ (Prod.fst s) (Prod.snd s) a1 Option.some) (sg,(a1.length:Int)-1)=some r ∧ ∃l,r.1=sg++l∧IsDec l (val 10000 a1):=by
 have hlen:a1.length≠0:=fun e=>hn (zl e)
 exact Uk (f:=fun s:Za×Int↦W.JW.cg_ (Prod.fst s) (Prod.snd s) a1 Option.some)
  (J:=fun s=>∃k:Nat,s.2=(k:Int)-1∧k≤a1.length ∧ ∃l,s.1=sg++l∧l.length≤4*(a1.length-k)∧((k=a1.length∧l=[])∨(k<a1.length∧IsDec l (val 10000 (a1.drop k)))))
  (Q:=fun r=>∃l,r.1=sg++l∧IsDec l (val 10000 a1))
  (fun s=>(s.2+1).toNat) (fun ⟨text,i'⟩ ⟨k,hi,hk,l,hl,hll,hc⟩=>by
   simp only at hi hl ⊢
   subst hi
   simp only [W.JW.cg_]
   by_cases h0:k=0
   ·subst h0
    rw [JV (by omega)]
    rcases hc with ⟨h1,_⟩ | ⟨h1,h2⟩
    ·omega
    ·exact Or.inl ⟨(_,_),rfl,l,hl,h2⟩
   ·obtain ⟨i,rfl⟩:∃i:Nat,k=i+1:=⟨k-1,by omega⟩
    have hi:i<a1.length:=by omega
    have hdi:=hd.getD (by decide) i
    obtain ⟨t,h1,h2,h3,h4,h5⟩:=LQ a1 i hi hL (UZ (a1.getD i 0)) rfl
    rw [JB (by omega),show ((i+1:Nat):Int)-1=(i:Int) by omega,RM hd i hi,je,h1,je]
    have e4:(UZ (a1.getD i 0)).length=4:=rfl
    rw [jY (by rw [e4];simp;omega),je,Int.toNat_natCast,Int.toNat_natCast,List.take_length]
    have hpl:(List.map (fun n↦UInt8.ofNat (Int.toNat n)) (List.drop t (UZ (a1.getD i 0)))).length≤4:=by
     rw [List.length_map,zu,e4];omega
    have htl:text.length≤1+4*a1.length:=by rw [hl,zf];omega
    rw [jY (by simp only [zn];omega),je,JS (by omega)]
    refine Or.inr ⟨(_,_),rfl,⟨i,rfl,by omega,l++(bytes (UZ (a1.getD i 0))).drop t,?_,?_,Or.inr ⟨hi,?_⟩⟩,by simp only;omega⟩
    ·simp only
     rw [hl,←CD,zq];rfl
    ·rw [zf,zu,iO,e4];omega
    ·rw [nM 10000 i a1 hi]
     rcases hc with ⟨h6,h7⟩ | ⟨h6,h7⟩
     ·have hd0:a1.getD i 0≠0:=by
       have:=ht hn
       rwa [show a1.length-1=i by omega] at this
      have h8:a1.drop (i+1)=[]:=List.drop_of_length_le (by omega)
      rw [h8,h7,List.nil_append]
      have:=IsDec.first hdi hd0 h2 h4 (h5 h6)
      simpa [val] using this
     ·have h9:=h3 (by omega)
      subst h9
      rw [List.drop_zero]
      exact h7.snoc hdi)
  (s:=(sg,(a1.length:Int)-1)) ⟨a1.length,rfl,zx _,[],by simp,by simp,Or.inl ⟨rfl,rfl⟩⟩
def MK {a:Bool×List Int} {v:Int} (ha:Rep 10000 a v) (la:a.2.length<1000000):∃l,W.JW a=some l∧Txt v l:=by
 unfold W.JW
 by_cases h0:a.2=[]
 ·rw [h0]
  refine ⟨[48],rfl,Or.inl ⟨?_,rfl⟩⟩
  rw [ha.val,h0];simp [val]
 ·have hn:a.2.length≠0:=fun e=>h0 (zl e)
  rw [Ys (beq_false_of_ne (by omega))]
  have e1:W.JW.cj_ (Z9 []) a.1 Option.some=some (if a.1 then [45] else []):=by
   unfold W.JW.cj_
   cases a.1<;>rfl
  obtain ⟨r,h1,l,h2,h3⟩:=EI (if a.1 then [45] else []) a.2 ha.dig ha.last h0 la (by split<;>simp)
  rw [e1,je,JS (by omega),h1,je]
  have hp:=ha.pos (by decide) h0
  have hv:=ha.val
  refine ⟨_,rfl,Or.inr ⟨?_,l,?_,?_⟩⟩
  ·cases hx:a.1<;>simp only [hx,zi,if_false,if_true] at hv<;>omega
  ·have:(v.natAbs:Int)=val 10000 a.2:=by
    cases hx:a.1<;>simp only [hx,zi,if_false,if_true] at hv<;>omega
   rw [this];exact h3
  ·rw [h2]
   congr 1
   cases hx:a.1<;>simp only [hx,zi,if_false,if_true] at hv ⊢
   ·rw [if_neg (by omega)]
   ·rw [if_pos (by omega)]
end Go.Ql
end
section
namespace Go.Ql
def OP:∀u:Nat,0<u→IsDec (Go.Lib.decDigits u) (u:Int):=by
 intro u
 induction u using Nat.strongRecOn with
 | _ u ih=>
   intro hu
   by_cases h:u<10
   ·rw [Go.Lib.decDigits,dif_pos h]
    have hb:=gO (d:=(u:Int)) (by omega)
    have e:Int.toNat (48+(u:Int))=48+u:=by omega
    rw [e] at hb
    refine ⟨fun c hc=>?_,by simp,?_,?_⟩
    ·rw [List.mem_singleton.1 hc];exact hb.1
    ·intro h0
     have h1:UInt8.ofNat (48+u)=48:=by simpa using h0
     have h2:=hb.2
     rw [h1] at h2
     have h3:dg 48=0:=by decide
     omega
    ·show dec [UInt8.ofNat (48+u)]=_
     simp only [dec,List.foldl_cons,List.foldl_nil]
     omega
   ·rw [Go.Lib.decDigits,dif_neg h]
    obtain ⟨h1,h2,h3,h4⟩:=ih (u / 10) (by omega) (by omega)
    have hb:=gO (d:=((u % 10:Nat):Int)) (by omega)
    have e:Int.toNat (48+((u % 10:Nat):Int))=48+u % 10:=by omega
    rw [e] at hb
    refine ⟨fun c hc=>?_,by simp [h2],?_,?_⟩
    ·rcases List.mem_append.1 hc with hc | hc
     ·exact h1 c hc
     ·rw [List.mem_singleton.1 hc];exact hb.1
    ·cases hl:Go.Lib.decDigits (u / 10) with
     | nil=>exact absurd hl h2
     | cons c l=>rw [hl] at h3;exact h3
    ·rw [x7,h4,hb.2]
     omega
def yS (n:Int):Txt n (Go.Lib.itoa n):=by
 unfold Go.Lib.itoa
 by_cases h0:n=0
 ·subst h0
  left
  refine ⟨rfl,?_⟩
  rw [if_neg (by decide),Go.Lib.decDigits,dif_pos (by decide)]
  rfl
 ·right
  refine ⟨h0,Go.Lib.decDigits n.natAbs,OP _ (by omega),?_⟩
  by_cases hn:n<0
  ·rw [if_pos hn,if_pos hn];rfl
  ·rw [if_neg hn,if_neg hn,show n.toNat=n.natAbs by omega];rfl
def MJ {a:Bool×List Int} {v:Int} (ha:Rep 10000 a v) (la:a.2.length<1000000):W.JW a=some (Go.Lib.itoa v):=by
 obtain ⟨l,h1,h2⟩:=MK ha la
 rw [h1,h2.one (yS v)]
end Go.Ql
end
section
namespace Go.Ql
def KL {v:Int} {L:Nat} (h:v.natAbs<2^L):(Go.Lib.itoa v).length≤L+2:=by
 rcases yS v with ⟨_,e⟩ | ⟨h0,D,hd,e⟩
 ·rw [e];simp
 ·have h1:=x5 hd.1 hd.2.1 hd.2.2.1
  rw [hd.2.2.2] at h1
  have h2:D.length≤L:=by
   rcases Nat.lt_or_ge L D.length with hc | hc
   ·have h3:(10:Nat)^L≤10^(D.length-1):=Nat.pow_le_pow_right (by decide) (by omega)
    have h4:2^L≤10^L:=Nat.pow_le_pow_left (by decide) L
    have h5:((10^(D.length-1):Nat):Int)≤(v.natAbs:Int):=by simpa using h1
    omega
   ·exact hc
  rw [e,zf]
  split<;>simp<;>omega
def F1 {xs:List Za} (h:xs≠[]) (y sep:Za):Go.Lib.join (xs++[y]) sep=Go.Lib.join xs sep++(sep++y):=by
 cases xs with
 | nil=>exact absurd rfl h
 | cons x r=>
   rw [List.cons_append,Go.Lib.join_cons,Go.Lib.join_cons]
   simp [Go.Lib.joinTail]
end Go.Ql
end
end

section
namespace Go.Ql
def NE (c:Bool) (l:Za):Za:=if c then [40]++l++[41] else l
def dD (c:Bool) (l:Za):(NE c l).length≤l.length+2:=by unfold NE;split<;>simp
def fS (r:Nat):Nat:=if r=1 then 2 else if r=5 then 6 else r
def fT (r:Nat):Nat:=if r=1 then 2 else if r=5 then 4 else r+1
def UP (w:Za):Nat:=(YT w).toNat
def YEx.tight:YEx→Nat
 | .bin _ w _ _=>UP w
 | .neg _ _=>4
 | _=>6
def YEx.txt:YEx→Za
 | .num _ v=>Go.Lib.itoa v
 | .name _ w=>w
 | .size _ w=>[115,105,122,101,40]++w++[41]
 | .neg _ a=>[45]++NE (decide (a.tight<4)) a.txt
 | .bin _ w a b=>NE (decide (a.tight<fS (UP w))) a.txt++[32]++w++[32]++NE (decide (b.tight<fT (UP w))) b.txt
def YEx.at (m:Nat) (x:YEx):Za:=NE (decide (x.tight<m)) x.txt
def YRf.txt:YRf→Za
 | .one _ w=>w
 | .idx _ w a=>w++[91]++a.txt++[93]
 | .rng _ w a b=>w++[91]++a.txt++[32,46,46,32]++b.txt++[93]
def YTr.tight:YTr→Nat
 | .op k _ _ _=>k
 | _=>4
def zF:Nat→Za
 | 1=>[124]
 | 2=>[94]
 | _=>[38]
def YTr.txt:YTr→Za
 | .op k _ a b=>NE (decide (a.tight<k)) a.txt++[32]++zF k++[32]++NE (decide (b.tight<k+1)) b.txt
 | .not _ a=>[33]++NE (decide (a.tight<4)) a.txt
 | .bit _ v=>Go.Lib.itoa v
 | .ref r=>r.txt
def YTr.at (m:Nat) (x:YTr):Za:=NE (decide (x.tight<m)) x.txt
def YMd.txt:YMd→Za
 | .inv _=>[105,110,118,32,64,32]
 | .ctrl _=>[99,116,114,108,32,64,32]
 | .pow _ e=>[112,111,119,40]++e.txt++[41,32,64,32]
def Vq (l:List Za):Za:=Go.Lib.join l [44,32]
def Yb (d:Nat):Za:=List.replicate d 9
def aU (l:List YEx):Za:=if l.length=0 then [] else [40]++Vq (l.map YEx.txt)++[41]
def fA (l:List YRf):Za:=if l.length=0 then [] else [32]++Vq (l.map YRf.txt)
def Uw (l:List YMd):Za:=(l.map YMd.txt).flatten
def gT (mods:List YMd) (w:Za) (args:List YEx) (refs:List YRf):Za:=Uw mods++w++aU args++fA refs++[59]
mutual
def YSt.txt (d:Nat):YSt→Za
 | .forS _ w lo hi _ b=>[102,111,114,32]++w++[32,105,110,32]++lo.txt++[32,46,46,32]++hi.txt++[32]++([123,10]++b.lines (d+1)++Yb d++[125])
 | .whenS _ e _ b=>[119,104,101,110,32]++e.txt++[32]++([123,10]++b.lines (d+1)++Yb d++[125])
 | .ifS _ no r _ b=>[105,102,32]++(if no then [33] else [])++r.txt++[32]++([123,10]++b.lines (d+1)++Yb d++[125])
 | .ifE _ no r _ b _ c=>[105,102,32]++(if no then [33] else [])++r.txt++[32]++([123,10]++b.lines (d+1)++Yb d++[125])++[32,101,108,115,101,32]++([123,10]++c.lines (d+1)++Yb d++[125])
 | .meas _ a b=>[109,101,97,115,117,114,101,32]++a.txt++[32,45,62,32]++b.txt++[59]
 | .reset _ a=>[114,101,115,101,116,32]++a.txt++[59]
 | .within _ _ a _ b=>[119,105,116,104,105,110,32]++([123,10]++a.lines (d+1)++Yb d++[125])++[32,97,112,112,108,121,32]++([123,10]++b.lines (d+1)++Yb d++[125])
 | .flip _ r e=>r.txt++[32,94,61,32]++e.txt++[59]
 | .app _ w mods args refs=>gT mods w args refs
def YSts.lines (d:Nat):YSts→Za
 | .nil=>[]
 | .cons s l=>Yb d++s.txt d++[10]++l.lines d
end
def Ho (d:Nat) (b:YSts):Za:=[123,10]++b.lines (d+1)++Yb d++[125]
def cB (x:Int×Za×Bool):Za:=if x.2.2 then x.2.1++[91,93] else x.2.1
def Nu (l:List (Int×Za)):Za:=if l.length=0 then [] else [40]++Vq (l.map fun x=>x.2)++[41]
def YIt.txt:YIt→Za
 | .decl bit _ w e=>(if bit then [98,105,116,32] else [113,117,98,105,116,32])++w++[91]++e.txt++[93,59]
 | .const _ w e=>[99,111,110,115,116,32]++w++[32,61,32]++e.txt++[59]
 | .gate _ w ints wires _ b=>[103,97,116,101,32]++w++Nu ints++[32]++Vq (wires.map cB)++[32]++Ho 0 b
 | .st s=>s.txt 0
def Nv (l:List YIt):Za:=(l.map fun x=>x.txt++[10]).flatten
def dS (w:Za):YT w=0∨YT w=1∨YT w=2∨YT w=3∨YT w=5:=by
 unfold YT
 split
 ·exact .inr (.inl rfl)
 ·split
  ·exact .inr (.inr (.inl rfl))
  ·split
   ·exact .inr (.inr (.inr (.inl rfl)))
   ·split
    ·exact .inr (.inr (.inr (.inr rfl)))
    ·exact .inl rfl
def rV {w:Za} (h:YT w≠0):w.length≤2∧1≤w.length:=by
 unfold YT at h
 split at h
 ·rename_i g;rcases g with g | g | g | g | g | g<;>(subst g;decide)
 ·split at h
  ·rename_i g;rcases g with g | g<;>(subst g;decide)
  ·split at h
   ·rename_i g;rcases g with g | g | g<;>(subst g;decide)
   ·split at h
    ·rename_i g;subst g;decide
    ·exact absurd rfl h
def GN {w:Za} (h:YT w=5):w=[42,42]:=by
 unfold YT at h
 split at h
 ·cases h
 ·split at h
  ·cases h
  ·split at h
   ·cases h
   ·split at h
    ·rename_i g;rw [g];rfl
    ·cases h
def vR {v:Int} (h:0≤v∧v<1000000000):(Go.Lib.itoa v).length≤32:=KL (L:=30) (by rw [show (2:Nat)^30=1073741824 from rfl];omega)
def YEx.txt_le:∀x:YEx,x.ok→x.txt.length+20≤40100*x.sz
 | .num p v,h=>by have:=vR h;simp only [YEx.txt,YEx.sz];omega
 | .name p w,h=>by have:w.length≤40000:=h.1;simp only [YEx.txt,YEx.sz];omega
 | .size p w,h=>by have:w.length≤40000:=h.1;simp only [YEx.txt,YEx.sz,zf,zg,zh];omega
 | .neg p a,h=>by
   have h1:=YEx.txt_le a h
   have h2:=dD (decide (a.tight<4)) a.txt
   simp only [YEx.txt,YEx.sz,zf,zg,zh];omega
 | .bin p w a b,h=>by
   have h1:=YEx.txt_le a h.2.1
   have h2:=dD (decide (a.tight<fS (UP w))) a.txt
   have h3:=YEx.txt_le b h.2.2
   have h4:=dD (decide (b.tight<fT (UP w))) b.txt
   have h5:=rV h.1
   simp only [YEx.txt,YEx.sz,zf,zg,zh];omega
def YEx.at_le (m:Nat) (x:YEx):(x.at m).length≤x.txt.length+2:=dD _ _
def YRf.txt_le:∀x:YRf,x.ok→x.txt.length+20≤40100*x.sz
 | .one p w,h=>by have:w.length≤40000:=h.1;simp only [YRf.txt,YRf.sz];omega
 | .idx p w a,h=>by
   have:w.length≤40000:=h.1.1
   have:=a.txt_le h.2
   simp only [YRf.txt,YRf.sz,zf,zg,zh];omega
 | .rng p w a b,h=>by
   have:w.length≤40000:=h.1.1
   have:=a.txt_le h.2.1
   have:=b.txt_le h.2.2
   simp only [YRf.txt,YRf.sz,zf,zg,zh];omega
def BN (k:Nat):(zF k).length=1:=by
 unfold zF;split<;>rfl
def YTr.txt_le:∀x:YTr,x.ok→x.txt.length+20≤40100*x.sz
 | .op k p a b,h=>by
   have h1:=YTr.txt_le a h.2.1
   have h2:=dD (decide (a.tight<k)) a.txt
   have h3:=YTr.txt_le b h.2.2
   have h4:=dD (decide (b.tight<k+1)) b.txt
   have h5:=BN k
   simp only [YTr.txt,YTr.sz,zf,zg,zh];omega
 | .not p a,h=>by
   have h1:=YTr.txt_le a h
   have h2:=dD (decide (a.tight<4)) a.txt
   simp only [YTr.txt,YTr.sz,zf,zg,zh];omega
 | .bit p v,h=>by
   have:v=0∨v=1:=h
   have:=vR (v:=v) (by omega)
   simp only [YTr.txt,YTr.sz];omega
 | .ref r,h=>r.txt_le h
def YTr.at_le (m:Nat) (x:YTr):(x.at m).length≤x.txt.length+2:=dD _ _
def YMd.txt_le:∀x:YMd,x.ok→x.txt.length+20≤40100*x.sz
 | .inv p,h=>by simp [YMd.txt,YMd.sz]
 | .ctrl p,h=>by simp [YMd.txt,YMd.sz]
 | .pow p e,h=>by
   have:=e.txt_le h
   simp only [YMd.txt,YMd.sz,zf,zg,zh];omega
def E2 (x:Za) (l:List Za):(Vq (x::l)).length≤x.length+2+(Vq l).length:=by
 unfold Vq
 rw [Go.Lib.join_cons]
 cases l with
 | nil=>simp [Go.Lib.joinTail];omega
 | cons y l=>rw [Go.Lib.join_cons];simp [Go.Lib.joinTail];omega
def NA {α:Type} {f:α→Za} {z:α→Nat} {ok:α→Prop} (hf:∀a,ok a→(f a).length+20≤40100*z a):∀l:List α,(∀a∈l,ok a)→(Vq (l.map f)).length≤40100*VT z l
 | [],_=>by simp [Vq,Go.Lib.join,VT,List.intercalate]
 | a::l,h=>by
   have h1:=E2 (f a) (l.map f)
   have h2:=hf a (h a (by simp))
   have h3:=NA hf l (fun x hx=>h x (by simp [hx]))
   simp only [VT,List.map_cons,List.sum_cons] at h3 ⊢
   omega
def EZ {α:Type} {f:α→Za} {z:α→Nat} {ok:α→Prop} (hf:∀a,ok a→(f a).length+20≤40100*z a):∀l:List α,(∀a∈l,ok a)→((l.map f).flatten).length≤40100*VT z l
 | [],_=>by simp [VT]
 | a::l,h=>by
   have h2:=hf a (h a (by simp))
   have h3:=EZ hf l (fun x hx=>h x (by simp [hx]))
   simp only [VT,List.map_cons,List.sum_cons,List.flatten_cons,zf] at h3 ⊢
   omega
def sE {w:Za} {mods:List YMd} {args:List YEx} {refs:List YRf} (h:(YSt.app 0 w mods args refs).ok):(gT mods w args refs).length≤40100*(YSt.app 0 w mods args refs).sz:=by
 have h0:w.length≤40000:=h.1.1
 have h1:=EZ YMd.txt_le mods h.2.1
 have h2:=NA YEx.txt_le args h.2.2.1
 have h3:=NA YRf.txt_le refs h.2.2.2
 have h4:(aU args).length≤2+(Vq (args.map YEx.txt)).length:=by unfold aU;split<;>simp;omega
 have h5:(fA refs).length≤1+(Vq (refs.map YRf.txt)).length:=by unfold fA;split<;>simp;omega
 simp only [gT,Uw,YSt.sz,zf,zg,zh]
 omega
def VW (d:Nat):(Yb d).length=d:=by simp [Yb]
mutual
def YSt.txt_le:∀(x:YSt) (d:Nat),x.ok→d+x.sz≤50000→(x.txt d).length+d+2≤200000*x.sz
 | .forS p w lo hi q b,d,h,hd=>by
   simp only [YSt.sz] at hd
   have h0:w.length≤40000:=h.1.1
   have h1:=lo.txt_le h.2.1
   have h2:=hi.txt_le h.2.2.1
   have h3:=YSts.lines_le b (d+1) h.2.2.2 (by omega)
   simp only [YSt.txt,YSt.sz,zf,zg,zh,VW];omega
 | .whenS p e q b,d,h,hd=>by
   simp only [YSt.sz] at hd
   have h1:=e.txt_le h.1
   have h3:=YSts.lines_le b (d+1) h.2 (by omega)
   simp only [YSt.txt,YSt.sz,zf,zg,zh,VW];omega
 | .ifS p no r q b,d,h,hd=>by
   simp only [YSt.sz] at hd
   have h1:=r.txt_le h.1
   have h3:=YSts.lines_le b (d+1) h.2 (by omega)
   have h4:(if no=true then [33] else []:Za).length≤1:=by split<;>simp
   simp only [YSt.txt,YSt.sz,zf,zg,zh,VW];omega
 | .ifE p no r q b q2 c,d,h,hd=>by
   simp only [YSt.sz] at hd
   have h1:=r.txt_le h.1
   have h3:=YSts.lines_le b (d+1) h.2.1 (by omega)
   have h5:=YSts.lines_le c (d+1) h.2.2 (by omega)
   have h4:(if no=true then [33] else []:Za).length≤1:=by split<;>simp
   simp only [YSt.txt,YSt.sz,zf,zg,zh,VW];omega
 | .meas p a b,d,h,hd=>by
   simp only [YSt.sz] at hd
   have h1:=a.txt_le h.1
   have h2:=b.txt_le h.2
   simp only [YSt.txt,YSt.sz,zf,zg,zh];omega
 | .reset p a,d,h,hd=>by
   simp only [YSt.sz] at hd
   have h1:=a.txt_le h
   simp only [YSt.txt,YSt.sz,zf,zg,zh];omega
 | .within p q a q2 b,d,h,hd=>by
   simp only [YSt.sz] at hd
   have h3:=YSts.lines_le a (d+1) h.1 (by omega)
   have h5:=YSts.lines_le b (d+1) h.2 (by omega)
   simp only [YSt.txt,YSt.sz,zf,zg,zh,VW];omega
 | .flip p r e,d,h,hd=>by
   simp only [YSt.sz] at hd
   have h1:=r.txt_le h.1
   have h2:=e.txt_le h.2
   simp only [YSt.txt,YSt.sz,zf,zg,zh];omega
 | .app p w mods args refs,d,h,hd=>by
   have h1:=sE (w:=w) (mods:=mods) (args:=args) (refs:=refs) h
   simp only [YSt.sz] at hd h1
   simp only [YSt.txt,YSt.sz];omega
def YSts.lines_le:∀(x:YSts) (d:Nat),x.ok→d+x.sz≤50000→(x.lines d).length≤200000*x.sz
 | .nil,d,h,hd=>by simp [YSts.lines]
 | .cons s l,d,h,hd=>by
   simp only [YSts.sz] at hd
   have h1:=YSt.txt_le s d h.1 (by omega)
   have h2:=YSts.lines_le l d h.2 (by omega)
   simp only [YSts.lines,YSts.sz,zf,zg,zh,VW];omega
end
end Go.Ql
end

section
set_option maxRecDepth 8000
namespace W
open Go Go.Ql
def Yw {α:Type} {c:Bool} {a b z:α} (hc:c=true) (h:a=z):br c a b=z:=by rw [hc];exact h
def Jj {α:Type} {c:Bool} {a b z:α} (hc:c=false) (h:b=z):br c a b=z:=by rw [hc];exact h
def yW {h:Int×Int×Za×Int} {l:List Nd} {i:Nat} (hi:i<l.length):JM (.mk h l) (i:Int)=some l[i]:=by
 unfold JM
 show br (decide ((i:Int)<(l.length:Int))) (jc (idx l (i:Int)) _) _=_
 rw [JB (by omega),HD hi,je]
 cases l[i];rfl
def Hq {h:Int×Int×Za×Int} {a:Nd} {l:List Nd}:JM (.mk h (a::l)) 0=some a:=yW (i:=0) (l:=a::l) (by simp)
def bG {h:Int×Int×Za×Int} {a b:Nd} {l:List Nd}:JM (.mk h (a::b::l)) 1=some b:=yW (i:=1) (l:=a::b::l) (by simp)
def C6 {h:Int×Int×Za×Int} {a b c:Nd} {l:List Nd}:JM (.mk h (a::b::c::l)) 2=some c:=yW (i:=2) (l:=a::b::c::l) (by simp)
def pH {l:Za} {a b:Nat} (h:l.length≤10000000000):Vj l (a:Int) (b:Int)=some (NE (decide (a<b)) l):=by
 unfold Vj NE
 by_cases hc:a<b
 ·rw [JB (by omega),zo hc,if_pos rfl]
  repeat (refine jf (jY (zo (by (try dsimp only);simp only [jK,zf,zg,zh];omega))) ?_)
  rfl
 ·rw [JV (by omega),zp hc]
  rfl
def LO {w:Za} (h:YT w≠0):jC.cM_ (YT w) (YT w) (IntKind.i64.wrap (YT w+1)) some=some (((fS (UP w):Nat):Int),((fT (UP w):Nat):Int)):=by
 unfold UP
 rcases dS w with e | e | e | e | e
 ·exact absurd e h
 all_goals (rw [e];rfl)
def F7 {w:Za}:fS (UP w)≤6∧fT (UP w)≤6:=by
 unfold UP
 rcases dS w with e | e | e | e | e<;>(rw [e];decide)
def yR {v:Int} (h:0≤v∧v<1000000000):strconv_Itoa v=some (Go.Lib.itoa v):=by
 unfold strconv_Itoa
 rw [zo (show -9223372036854775808≤v by omega),zo (show v≤9223372036854775807 by omega)]
 rfl
def uC {x:YEx} {k:Nat} (h:x.tight=6) (hk:k≤6):x.at k=x.txt:=by
 unfold YEx.at NE
 rw [h,zp (by omega)];rfl
def dP:∀(x:YEx),x.ok→x.sz≤50000 → ∀(m k:Nat),x.sz≤m→k≤6→(jC.fuel m).F (x.nd,(k:Int),())=some (x.at k,())
 | x,_,_,0,k,hm,_=>by have:=x.sz_pos;omega
 | .num p v,h,_,m+1,k,hm,hk=>by
   show @jC (jC.fuel m) (YEx.num p v).nd (k:Int)=_
   unfold jC
   refine Yw (by rfl) ?_
   rw [uC rfl hk]
   exact jf (yR h) rfl
 | .name p w,h,_,m+1,k,hm,hk=>by
   show @jC (jC.fuel m) (YEx.name p w).nd (k:Int)=_
   unfold jC
   refine Jj (by rfl) (Yw (by rfl) ?_)
   rw [uC rfl hk];rfl
 | .size p w,h,_,m+1,k,hm,hk=>by
   show @jC (jC.fuel m) (YEx.size p w).nd (k:Int)=_
   unfold jC
   refine Jj (by rfl) (Jj (by rfl) (Yw (by rfl) ?_))
   rw [uC rfl hk]
   have h0:w.length≤40000:=h.1
   have e:Prod.fst (Prod.snd (Prod.snd (Rose.hQ (YEx.size p w).nd)))=w:=rfl
   rw [e]
   repeat (refine jf (jY (zo (by (try dsimp only);simp only [jK,zf,zg,zh];omega))) ?_)
   rfl
 | .neg p a,h,hs,m+1,k,hm,hk=>by
   simp only [YEx.sz] at hs hm
   have ih:=dP a h (by omega) m 4 (by omega) (by omega)
   have h1:=a.txt_le h
   have h2:=a.at_le 4
   show @jC (jC.fuel m) (YEx.neg p a).nd (k:Int)=_
   unfold jC
   refine Jj (by rfl) (Jj (by rfl) (Jj (by rfl) (Yw (by rfl) (jf Hq (jf ih ?_)))))
   repeat (refine jf (jY (zo (by (try dsimp only);simp only [jK,zf,zg,zh];omega))) ?_)
   exact jf (pH (a:=4) (by dsimp only;simp only [jK,zf,zg,zh];omega)) rfl
 | .bin p w a b,h,hs,m+1,k,hm,hk=>by
   simp only [YEx.sz] at hs hm
   have hl:=F7 (w:=w)
   have ih1:=dP a h.2.1 (by omega) m (fS (UP w)) (by omega) hl.1
   have ih2:=dP b h.2.2 (by omega) m (fT (UP w)) (by omega) hl.2
   have h1:=a.txt_le h.2.1
   have h2:=a.at_le (fS (UP w))
   have h3:=b.txt_le h.2.2
   have h4:=b.at_le (fT (UP w))
   have h5:=rV h.1
   have hr:YT w=((UP w:Nat):Int):=by
    unfold UP
    rcases dS w with e | e | e | e | e<;>rw [e]<;>rfl
   show @jC (jC.fuel m) (YEx.bin p w a b).nd (k:Int)=_
   unfold jC
   refine Jj (by rfl) (Jj (by rfl) (Jj (by rfl) (Jj (by rfl) (Yw (by rfl) (jf (BQ w) (jf (LO h.1) ?_))))))
   have key:@jC.c18 (jC.fuel m) _ (k:Int) (YT w) ((fS (UP w):Nat):Int) ((fT (UP w):Nat):Int) 24 p w 0 [a.nd,b.nd] some=some ((YEx.bin p w a b).at k):=by
    unfold jC.c18
    refine jf Hq (jf ih1 ?_)
    repeat (refine jf (jY (zo (by (try dsimp only);simp only [jK,zf,zg,zh];omega))) ?_)
    refine jf bG (jf ih2 ?_)
    repeat (refine jf (jY (zo (by (try dsimp only);simp only [jK,zf,zg,zh];omega))) ?_)
    rw [hr]
    exact jf (pH (a:=UP w) (b:=k) (by dsimp only;simp only [jK,zf,zg,zh];omega)) rfl
   exact jf key rfl
def QC {x:YEx} (h:x.ok):x.at 1=x.txt:=by
 have:¬x.tight<1:=by
  cases x with
  | bin p w a b=>
    have:=h.1
    simp only [YEx.tight,UP]
    rcases dS w with e | e | e | e | e
    ·exact absurd e this
    all_goals (rw [e];decide)
  | _=>simp [YEx.tight]
 unfold YEx.at NE
 rw [zp this];rfl
def dO {x:YEx} (h:x.ok) (hs:x.sz≤50000):kN (x.nd,1,())=some (x.txt,()):=by
 have:=dP x h hs 1000000 1 (by omega) (by omega)
 rw [QC h] at this
 exact this
def y8 (n:Nd):Rose.mk (Prod.fst (Rose.hQ n),Prod.fst (Prod.snd (Rose.hQ n)),Prod.fst (Prod.snd (Prod.snd (Rose.hQ n))),Prod.snd (Prod.snd (Prod.snd (Rose.hQ n)))) (Rose.kQ n)=n:=by cases n;rfl
def qG {x:YRf} (h:x.ok) (hs:x.sz≤50000):kf x.nd=some x.txt:=by
 cases x with
 | one p w=>
   unfold kf
   exact Jj (by rfl) (Jj (by rfl) rfl)
 | idx p w a=>
   simp only [YRf.sz] at hs
   have h0:w.length≤40000:=h.1.1
   have h1:=a.txt_le h.2
   have e1:=dO h.2 (by omega)
   unfold kf
   refine Yw (by rfl) ?_
   have key:kf.c3 19 p w 1 [a.nd] some=some (YRf.idx p w a).txt:=by
    unfold kf.c3
    repeat (refine jf (jY (zo (by (try dsimp only);simp only [jK,zf,zg,zh];omega))) ?_)
    refine jf Hq (jf e1 ?_)
    repeat (refine jf (jY (zo (by (try dsimp only);simp only [jK,zf,zg,zh];omega))) ?_)
    rfl
   exact jf key rfl
 | rng p w a b=>
   simp only [YRf.sz] at hs
   have h0:w.length≤40000:=h.1.1
   have h1:=a.txt_le h.2.1
   have h2:=b.txt_le h.2.2
   have e1:=dO h.2.1 (by omega)
   have e2:=dO h.2.2 (by omega)
   unfold kf
   refine Jj (by rfl) (Yw (by rfl) ?_)
   have key:kf.c5 19 p w 2 [a.nd,b.nd] some=some (YRf.rng p w a b).txt:=by
    unfold kf.c5
    repeat (refine jf (jY (zo (by (try dsimp only);simp only [jK,zf,zg,zh];omega))) ?_)
    refine jf Hq (jf e1 ?_)
    repeat (refine jf (jY (zo (by (try dsimp only);simp only [jK,zf,zg,zh];omega))) ?_)
    refine jf bG (jf e2 ?_)
    repeat (refine jf (jY (zo (by (try dsimp only);simp only [jK,zf,zg,zh];omega))) ?_)
    rfl
   exact jf key rfl
def gM:∀(x:YTr),x.ok→x.sz≤50000 → ∀(m k:Nat),2*x.sz≤m→k≤4→(Vp.fuel m).F_tongue_truth_b (x.nd,(k:Int),())=some (x.at k,())
 | .op j p a b,h,hs,m,k,hm,hk=>by
   simp only [YTr.sz] at hs hm
   obtain ⟨m,rfl⟩:∃n,m=n+2:=⟨m-2,by omega⟩
   have h1:=a.txt_le h.2.1
   have h2:=a.at_le j
   have h3:=b.txt_le h.2.2
   have h4:=b.at_le (j+1)
   have hj:j=1∨j=2∨j=3:=by have:=h.1;omega
   have ih1:=gM a h.2.1 (by omega) m j (by omega) (by omega)
   have ih2:=gM b h.2.2 (by omega) m (j+1) (by omega) (by omega)
   have key:@Jp (Vp.fuel m) (zF j) (j:Int) (gW j).2 p [] 0 [a.nd,b.nd] (k:Int)=some ((YTr.op j p a b).at k,(gW j).2,p,[],0,[a.nd,b.nd],(k:Int),()):=by
    unfold Jp
    refine jf ?_ rfl
    unfold Jp.c1
    have ho:=BN j
    refine jf Hq (jf ih1 ?_)
    repeat (refine jf (jY (zo (by (try dsimp only);simp only [jK,zf,zg,zh];omega))) ?_)
    rw [JS (by omega)]
    refine jf bG (jf ih2 ?_)
    repeat (refine jf (jY (zo (by (try dsimp only);simp only [jK,zf,zg,zh];omega))) ?_)
    exact jf (pH (a:=j) (b:=k) (by dsimp only;simp only [jK,zf,zg,zh];omega)) rfl
   show @Jw (Vp.fuel (m+1)) (YTr.op j p a b).nd (k:Int)=_
   unfold Jw
   rcases hj with rfl | rfl | rfl
   ·exact Yw (by rfl) (jf key rfl)
   ·exact Jj (by rfl) (Yw (by rfl) (jf key rfl))
   ·exact Jj (by rfl) (Jj (by rfl) (Yw (by rfl) (jf key rfl)))
 | .not p a,h,hs,m,k,hm,hk=>by
   simp only [YTr.sz] at hs hm
   obtain ⟨m,rfl⟩:∃n,m=n+1:=⟨m-1,by omega⟩
   have h1:=a.txt_le h
   have h2:=a.at_le 4
   have ih:=gM a h (by omega) m 4 (by omega) (by omega)
   have e:(YTr.not p a).at k=(YTr.not p a).txt:=by
    unfold YTr.at NE
    rw [zp (show ¬(YTr.not p a).tight<k by show ¬4<k;omega)];rfl
   rw [e]
   show @Jw (Vp.fuel m) (YTr.not p a).nd (k:Int)=_
   unfold Jw
   refine Jj (by rfl) (Jj (by rfl) (Jj (by rfl) (Yw (by rfl) (jf Hq (jf ih ?_)))))
   repeat (refine jf (jY (zo (by (try dsimp only);simp only [jK,zf,zg,zh];omega))) ?_)
   rfl
 | .bit p v,h,hs,m,k,hm,hk=>by
   simp only [YTr.sz] at hs hm
   obtain ⟨m,rfl⟩:∃n,m=n+1:=⟨m-1,by omega⟩
   have hv:v=0∨v=1:=h
   have e:(YTr.bit p v).at k=(YTr.bit p v).txt:=by
    unfold YTr.at NE
    rw [zp (show ¬(YTr.bit p v).tight<k by show ¬4<k;omega)];rfl
   rw [e]
   show @Jw (Vp.fuel m) (YTr.bit p v).nd (k:Int)=_
   unfold Jw
   refine Jj (by rfl) (Jj (by rfl) (Jj (by rfl) (Jj (by rfl) (Yw (by rfl) ?_))))
   exact jf (yR (v:=v) (by omega)) rfl
 | .ref r,h,hs,m,k,hm,hk=>by
   simp only [YTr.sz] at hs hm
   have:=r.sz_pos
   obtain ⟨m,rfl⟩:∃n,m=n+1:=⟨m-1,by omega⟩
   have e:(YTr.ref r).at k=(YTr.ref r).txt:=by
    unfold YTr.at NE
    rw [zp (show ¬(YTr.ref r).tight<k by show ¬4<k;omega)];rfl
   rw [e]
   show @Jw (Vp.fuel m) r.nd (k:Int)=_
   have hr:=qG h hs
   unfold Jw
   cases r<;>exact Jj (by rfl) (Jj (by rfl) (Jj (by rfl) (Jj (by rfl) (Jj (by rfl) (jf hr rfl)))))
def L6 {x:YTr} (h:x.ok) (hs:x.sz≤50000):UN (x.nd,1,())=some (x.txt,()):=by
 have:=gM x h hs 1000000 1 (by omega) (by omega)
 have e:x.at 1=x.txt:=by
  have:¬x.tight<1:=by
   cases x with
   | op k p a b=>have:=h.1;simp only [YTr.tight];omega
   | _=>simp [YTr.tight]
  unfold YTr.at NE
  rw [zp this];rfl
 rw [e] at this
 exact this
end W
end

section
set_option maxRecDepth 8000
namespace W
open Go Go.Ql
def Ye (l:Za):List Int:=l.map fun b=>((b.toNat:Nat):Int)
def O6 (l:Za):(Ye l).length=l.length:=by simp [Ye]
def MF {s t:Za} {d:Int} (h:t.length+s.length≤100000000000):kh s d (Ye t)=some ((s.length:Int),(),Ye (t++s),d,()):=by
 unfold kh kU
 rw [je]
 refine jf (jY (zo (by dsimp only;rw [O6];omega))) ?_
 rw [show Ye (t++s)=Ye t++List.map (fun b=>((b.toNat:Nat):Int)) s from by simp [Ye]]
def zJ {d:Int} {ws:List Za}:∀(r p:List Za) (t:Za),ws=p++r→ws.length≤100000→t.length+r.flatten.length≤100000000000 →
 iter (fun s:Int×Int×List Int=>jF.cD_ ws (ws.length:Int) s.1 s.2.1 s.2.2 some) ((p.length:Int),d,Ye t)=some ((ws.length:Int),d,Ye (t++r.flatten))
 | [],p,t,e,hl,h=>by
   refine kD ?_
   show jF.cD_ ws (ws.length:Int) (p.length:Int) d (Ye t) some=_
   unfold jF.cD_
   have:ws.length=p.length:=by rw [e];simp
   rw [JV (by omega),this]
   simp
 | x::r,p,t,e,hl,h=>by
   have hlen:ws.length=p.length+(r.length+1):=by rw [e];simp
   simp only [List.flatten_cons,zf] at h
   refine kr ?_ (by have:=zJ (d:=d) r (p++[x]) (t++x) (by rw [e];simp) hl (by rw [zf];omega);rw [zf,zq] at this;exact this)
   show jF.cD_ ws (ws.length:Int) (p.length:Int) d (Ye t) some=_
   unfold jF.cD_
   rw [JB (by omega)]
   refine jf (HD (show p.length<ws.length by omega)) (jf (MF ?_) ?_)
   ·subst e;simp;omega
   ·rw [JS (by omega)]
    subst e
    simp
def QY {ws:List Za} {d:Int} {t:Za} (hl:ws.length≤100000) (h:t.length+ws.flatten.length≤100000000000):jF ws d (Ye t)=some (Ye (t++ws.flatten),d,()):=by
 unfold jF
 have:=zJ (ws:=ws) (d:=d) ws [] t rfl hl h
 exact jf this rfl
def qB {ws:List Za} {d:Int} {t v:Za} (e:ws.flatten=v) (hl:ws.length≤100000) (h:t.length+v.length≤100000000000):jF ws d (Ye t)=some (Ye (t++v),d,()):=by
 subst e;exact QY hl h
def dQ {a:Za} {d:Int} {t:Za} (h:t.length+a.length≤100000000000):jF [a] d (Ye t)=some (Ye (t++a),d,()):=qB (by simp) (by simp) h
def zI {a b:Za} {d:Int} {t:Za} (h:t.length+(a++b).length≤100000000000):jF [a,b] d (Ye t)=some (Ye (t++(a++b)),d,()):=qB (by simp) (by simp) h
def uO {a b c:Za} {d:Int} {t:Za} (h:t.length+(a++b++c).length≤100000000000):jF [a,b,c] d (Ye t)=some (Ye (t++(a++b++c)),d,()):=qB (by simp) (by simp) h
def put4 {a b c e:Za} {d:Int} {t:Za} (h:t.length+(a++b++c++e).length≤100000000000):jF [a,b,c,e] d (Ye t)=some (Ye (t++(a++b++c++e)),d,()):=qB (by simp) (by simp) h
def K7 {a b c e f:Za} {d:Int} {t:Za} (h:t.length+(a++b++c++e++f).length≤100000000000):jF [a,b,c,e,f] d (Ye t)=some (Ye (t++(a++b++c++e++f)),d,()):=qB (by simp) (by simp) h
def put7 {a b c e f g i:Za} {d:Int} {t:Za} (h:t.length+(a++b++c++e++f++g++i).length≤100000000000):jF [a,b,c,e,f,g,i] d (Ye t)=some (Ye (t++(a++b++c++e++f++g++i)),d,()):=qB (by simp) (by simp) h
def dI {α:Type} {n:Nat} {L:List α} {f:Int×List Za→Option ((Int×List Za)⊕(Int×List Za))} {g:α→Za}:∀(r p:List α),(∀(p r:List α) (a:α),p.length+r.length+1=n→(∃q,q=p++a::r∧q=L)→f ((p.length:Int),p.map g)=some (.inl (((p.length+1:Nat):Int),p.map g++[g a]))) →
 f ((n:Int),L.map g)=some (.inr ((n:Int),L.map g))→p++r=L→L.length=n→iter f ((p.length:Int),p.map g)=some ((n:Int),L.map g)
 | [],p,hs,he,e,hn=>by
   have:p=L:=by simpa using e
   subst this
   rw [hn]
   exact kD he
 | a::r,p,hs,he,e,hn=>by
   have:=dI r (p++[a]) hs he (by rw [←e];simp) hn
   have hl:p.length+r.length+1=n:=by rw [←hn,←e];simp;omega
   refine kr (hs p r a hl ⟨_,rfl,e⟩) ?_
   rw [List.map_append,zf] at this
   exact this
def oP {l:List Za} (h:l.length≤100000):Je (decide ((List.length l+(1:Nat))*(16:Nat)≤(140737488355328:Nat))&&decide (List.length l+(1:Nat)≤(140737488355328:Nat)))=some ():=mU ⟨by omega,by omega⟩
def sS {l:List Za} (h:l.length≤100000) (h2:(Vq l).length≤100000000000):strings_Join l [44,32]=some (Vq l):=by
 unfold strings_Join
 unfold Vq at h2
 rw [zo (show l.length≤140737488355328 by omega),zo (show (Go.Lib.join l [44,32]).length≤140737488355328 by omega)]
 rfl
def HC {α β:Type} {f:α→β} {L p r:List α} {a:α} (e:p++a::r=L):idx (L.map f) (p.length:Int)=some (f a):=by
 rw [HD (by rw [←e];simp)]
 subst e
 simp
def dC {x:YEx} (h:x.ok) (hs:x.sz≤50000):kN (Rose.mk (Prod.fst (Rose.hQ x.nd),Prod.fst (Prod.snd (Rose.hQ x.nd)),Prod.fst (Prod.snd (Prod.snd (Rose.hQ x.nd))),Prod.snd (Prod.snd (Prod.snd (Rose.hQ x.nd)))) (Rose.kQ x.nd),1,())=some (x.txt,()):=by
 cases x<;>exact dO h hs
def DC {x:YEx} (h:x.ok) (hs:x.sz≤50000):Vz x.nd=some x.txt:=by
 unfold Vz
 exact jf (dC h hs) rfl
def GF {x:YEx} (h:x.ok) (hs:x.sz≤50000):Vz (Rose.mk (Prod.fst (Rose.hQ x.nd),Prod.fst (Prod.snd (Rose.hQ x.nd)),Prod.fst (Prod.snd (Prod.snd (Rose.hQ x.nd))),Prod.snd (Prod.snd (Prod.snd (Rose.hQ x.nd)))) (Rose.kQ x.nd))=some x.txt:=by
 cases x<;>exact DC h hs
def o4 {x:YRf} (h:x.ok) (hs:x.sz≤50000):kf (Rose.mk (Prod.fst (Rose.hQ x.nd),Prod.fst (Prod.snd (Rose.hQ x.nd)),Prod.fst (Prod.snd (Prod.snd (Rose.hQ x.nd))),Prod.snd (Prod.snd (Prod.snd (Rose.hQ x.nd)))) (Rose.kQ x.nd))=some x.txt:=by
 cases x<;>exact qG h hs
def PX {x:YTr} (h:x.ok) (hs:x.sz≤50000):UN (Rose.mk (Prod.fst (Rose.hQ x.nd),Prod.fst (Prod.snd (Rose.hQ x.nd)),Prod.fst (Prod.snd (Prod.snd (Rose.hQ x.nd))),Prod.snd (Prod.snd (Prod.snd (Rose.hQ x.nd)))) (Rose.kQ x.nd),1,())=some (x.txt,()):=by
 have:=L6 h hs
 cases x with
 | ref r=>cases r<;>exact this
 | _=>exact this
def O2 {x:Int×Za}:YK (UV x)=some x.2:=rfl
def O3 {x:Int×Za×Bool} (h:x.2.1.length≤40000):YB (UR x)=some (cB x):=by
 obtain ⟨p,w,b⟩:=x
 have h:w.length≤40000:=h
 unfold YB
 cases b with
 | true=>
   refine Yw (by rfl) ?_
   have e:Prod.fst (Prod.snd (Prod.snd (Rose.hQ (UR (p,w,true)))))=w:=rfl
   rw [e]
   repeat (refine jf (jY (zo (by (try dsimp only);simp only [jK,zf,zg,zh];omega))) ?_)
   rfl
 | false=>exact Jj (by rfl) rfl
def C2 {L:List (YEx)} (hok:∀x∈L,YEx.ok x) (hsz:∀x∈L,YEx.sz x≤50000) (hl:L.length≤50000) (h2:(Vq (L.map YEx.txt)).length≤100000000000):JH (gr (L.map YEx.nd))=some (Vq (L.map YEx.txt),()):=by
 unfold JH
 have key:=dI (n:=L.length) (L:=L) (g:=YEx.txt) (f:=fun s↦JH.cb_ (L.map YEx.nd) ((L.map YEx.nd).length:Int) (Prod.fst s) (Prod.snd s) some) L [] (fun p r a hn ⟨q,hq,e⟩=>by
  subst hq
  show JH.cb_ (L.map YEx.nd) ((L.map YEx.nd).length:Int) (p.length:Int) (p.map YEx.txt) some=_
  have ha:=GF (hok a (by rw [←e];simp)) (hsz a (by rw [←e];simp))
  unfold JH.cb_
  rw [JB (by rw [List.length_map];omega)]
  refine jf (HC e) (jf ha (jf (oP (by rw [List.length_map];omega)) ?_))
  rw [JS (by omega)]
  rfl) (by
  show JH.cb_ (L.map YEx.nd) ((L.map YEx.nd).length:Int) (L.length:Int) (L.map YEx.txt) some=_
  unfold JH.cb_
  rw [JV (by rw [List.length_map];omega)]) rfl rfl
 refine jf key (jf (sS (by rw [List.length_map];omega) h2) rfl)
def C3 {L:List (YRf)} (hok:∀x∈L,YRf.ok x) (hsz:∀x∈L,YRf.sz x≤50000) (hl:L.length≤50000) (h2:(Vq (L.map YRf.txt)).length≤100000000000):JI (gr (L.map YRf.nd))=some (Vq (L.map YRf.txt),()):=by
 unfold JI
 have key:=dI (n:=L.length) (L:=L) (g:=YRf.txt) (f:=fun s↦JI.cb_ (L.map YRf.nd) ((L.map YRf.nd).length:Int) (Prod.fst s) (Prod.snd s) some) L [] (fun p r a hn ⟨q,hq,e⟩=>by
  subst hq
  show JI.cb_ (L.map YRf.nd) ((L.map YRf.nd).length:Int) (p.length:Int) (p.map YRf.txt) some=_
  have ha:=o4 (hok a (by rw [←e];simp)) (hsz a (by rw [←e];simp))
  unfold JI.cb_
  rw [JB (by rw [List.length_map];omega)]
  refine jf (HC e) (jf ha (jf (oP (by rw [List.length_map];omega)) ?_))
  rw [JS (by omega)]
  rfl) (by
  show JI.cb_ (L.map YRf.nd) ((L.map YRf.nd).length:Int) (L.length:Int) (L.map YRf.txt) some=_
  unfold JI.cb_
  rw [JV (by rw [List.length_map];omega)]) rfl rfl
 refine jf key (jf (sS (by rw [List.length_map];omega) h2) rfl)
def F2 {L:List (Int×Za)} (hok:∀x∈L,x.2.length≤40000) (hl:L.length≤50000) (h2:(Vq (L.map (fun x:Int×Za=>x.2))).length≤100000000000):JP (gr (L.map UV))=some (Vq (L.map (fun x:Int×Za=>x.2)),()):=by
 unfold JP
 have key:=dI (n:=L.length) (L:=L) (g:=(fun x:Int×Za=>x.2)) (f:=fun s↦JP.cb_ (L.map UV) ((L.map UV).length:Int) (Prod.fst s) (Prod.snd s) some) L [] (fun p r a hn ⟨q,hq,e⟩=>by
  subst hq
  show JP.cb_ (L.map UV) ((L.map UV).length:Int) (p.length:Int) (p.map (fun x:Int×Za=>x.2)) some=_
  have ha:=O2 (x:=a)
  unfold JP.cb_
  rw [JB (by rw [List.length_map];omega)]
  refine jf (HC e) (jf ha (jf (oP (by rw [List.length_map];omega)) ?_))
  rw [JS (by omega)]
  rfl) (by
  show JP.cb_ (L.map UV) ((L.map UV).length:Int) (L.length:Int) (L.map (fun x:Int×Za=>x.2)) some=_
  unfold JP.cb_
  rw [JV (by rw [List.length_map];omega)]) rfl rfl
 refine jf key (jf (sS (by rw [List.length_map];omega) h2) rfl)
def F3 {L:List (Int×Za×Bool)} (hok:∀x∈L,x.2.1.length≤40000) (hl:L.length≤50000) (h2:(Vq (L.map cB)).length≤100000000000):JQ (gr (L.map UR))=some (Vq (L.map cB),()):=by
 unfold JQ
 have key:=dI (n:=L.length) (L:=L) (g:=cB) (f:=fun s↦JQ.cb_ (L.map UR) ((L.map UR).length:Int) (Prod.fst s) (Prod.snd s) some) L [] (fun p r a hn ⟨q,hq,e⟩=>by
  subst hq
  show JQ.cb_ (L.map UR) ((L.map UR).length:Int) (p.length:Int) (p.map cB) some=_
  have ha:=O3 (hok a (by rw [←e];simp))
  unfold JQ.cb_
  rw [JB (by rw [List.length_map];omega)]
  refine jf (HC e) (jf ha (jf (oP (by rw [List.length_map];omega)) ?_))
  rw [JS (by omega)]
  rfl) (by
  show JQ.cb_ (L.map UR) ((L.map UR).length:Int) (L.length:Int) (L.map cB) some=_
  unfold JQ.cb_
  rw [JV (by rw [List.length_map];omega)]) rfl rfl
 refine jf key (jf (sS (by rw [List.length_map];omega) h2) rfl)
def vX {d:Int} {L:List YMd} (hok:∀m∈L,m.ok) (hsz:∀m∈L,m.sz≤50000) (hl:L.length≤50000):∀(r p:List YMd) (t:Za),p++r=L→t.length+(Uw r).length≤95000000000 →
 iter (fun s:Int×Int×List Int=>jJ.ca_ (L.map YMd.nd) ((L.map YMd.nd).length:Int) s.1 s.2.1 s.2.2 some) ((p.length:Int),d,Ye t)=some ((L.length:Int),d,Ye (t++Uw r))
 | [],p,t,e,h=>by
   have:p=L:=by simpa using e
   subst this
   refine kD ?_
   show jJ.ca_ (p.map YMd.nd) ((p.map YMd.nd).length:Int) (p.length:Int) d (Ye t) some=_
   unfold jJ.ca_
   rw [JV (by rw [List.length_map];omega)]
   simp [Uw]
 | a::r,p,t,e,h=>by
   have hn:L.length=p.length+r.length+1:=by rw [←e];simp;omega
   have hm:Uw (a::r)=a.txt++Uw r:=by simp [Uw]
   rw [hm,zf] at h
   have ha:=hok a (by rw [←e];simp)
   have hz:=hsz a (by rw [←e];simp)
   have step:jJ.cr_ (L.map YMd.nd) (p.length:Int) d (Ye t) some=some (Prod.fst (Rose.hQ a.nd),(Prod.fst (Rose.hQ a.nd)==(9:Int)),d,Ye (t++a.txt)):=by
    unfold jJ.cr_
    refine jf (HC e) ?_
    cases a with
    | inv q=>exact Yw (by rfl) (jf (dQ (by simp only [YMd.txt] at h;simp only [jK];omega)) rfl)
    | ctrl q=>exact Jj (by rfl) (Yw (by rfl) (jf (dQ (by simp only [YMd.txt] at h;simp only [jK];omega)) rfl))
    | pow q x=>
      have hx:x.ok:=ha
      simp only [YMd.sz] at hz
      exact Jj (by rfl) (Jj (by rfl) (jf Hq (jf (dO hx (by omega)) (jf (uO (by simp only [YMd.txt] at h;simp only [jK];omega)) rfl))))
   refine kr ?_ (by have:=vX (d:=d) hok hsz hl r (p++[a]) (t++a.txt) (by rw [←e];simp) (by rw [zf];omega);rw [zf,zq,←hm] at this;exact this)
   show jJ.ca_ (L.map YMd.nd) ((L.map YMd.nd).length:Int) (p.length:Int) d (Ye t) some=_
   unfold jJ.ca_
   rw [JB (by rw [List.length_map];omega)]
   refine jf step ?_
   rw [JS (by omega)]
   rfl
def bL {α:Type} {f:α→Nat} {l:List α} {n:Nat} (h:VT f l≤n):∀a∈l,f a≤n:=fun a ha=>Nat.le_trans (BZ ha) h
def EN {p:Int} {w:Za} {mods:List YMd} {args:List YEx} {refs:List YRf} {d:Int} {t:Za} (h:(YSt.app p w mods args refs).ok) (hs:(YSt.app p w mods args refs).sz≤50000) (ht:t.length≤90000000000) :
 jJ (YSt.app p w mods args refs).nd d (Ye t)=some (Ye (t++gT mods w args refs),d,()):=by
 have hall:=sE (w:=w) (mods:=mods) (args:=args) (refs:=refs) h
 simp only [YSt.sz] at hs hall
 have hm:=NI YMd.sz_pos mods
 have ha:=NI YEx.sz_pos args
 have hr:=NI YRf.sz_pos refs
 have hL:(gT mods w args refs).length=(Uw mods).length+w.length+(aU args).length+(fA refs).length+1:=by simp [gT];omega
 have c1:=NA YEx.txt_le args h.2.2.1
 have c2:=NA YRf.txt_le refs h.2.2.2
 unfold jJ
 refine jf Hq ?_
 have k1:=vX (d:=d) h.2.1 (bL (by omega)) (by omega) mods [] t rfl (by omega)
 refine jf k1 ?_
 refine jf (dQ (t:=t++Uw mods) (a:=w) (by rw [zf];omega)) ?_
 have k2:jJ.cab_ 8 p w 0 [gr (mods.map YMd.nd),gr (args.map YEx.nd),gr (refs.map YRf.nd)] d (Ye (t++Uw mods++w)) some=some (d,Ye (t++Uw mods++w++aU args)):=by
  unfold jJ.cab_
  refine jf bG ?_
  show br (decide (((args.map YEx.nd).length:Int)>0)) _ _=_
  rw [List.length_map]
  cases args with
  | nil=>rw [JV (by simp)];simp [aU]
  | cons x l=>
    rw [JB (by simp)]
    refine jf bG (jf (C2 h.2.2.1 (bL (by omega)) (by omega) (by omega)) ?_)
    refine jf (uO (by simp only [jK,zf,zg,zh] at c1 hL ⊢;omega)) ?_
    rfl
 refine jf k2 ?_
 have k3:jJ.cs_ 8 p w 0 [gr (mods.map YMd.nd),gr (args.map YEx.nd),gr (refs.map YRf.nd)] d (Ye (t++Uw mods++w++aU args)) some=some (d,Ye (t++Uw mods++w++aU args++fA refs)):=by
  unfold jJ.cs_
  refine jf C6 ?_
  show br (decide (((refs.map YRf.nd).length:Int)>0)) _ _=_
  rw [List.length_map]
  cases refs with
  | nil=>rw [JV (by simp)];simp [fA]
  | cons x l=>
    rw [JB (by simp)]
    refine jf C6 (jf (C3 h.2.2.2 (bL (by omega)) (by omega) (by omega)) ?_)
    refine jf (zI (by simp only [jK,zf,zg,zh] at c2 hL ⊢;omega)) ?_
    rfl
 refine jf k3 ?_
 refine jf (dQ (by simp only [jK,zf,zg,zh];omega)) ?_
 simp [gT]
end W
end

section
set_option maxRecDepth 8000
set_option maxHeartbeats 800000
namespace W
open Go Go.Ql
def repL (d:Nat):Go.Lib.repeatL [9] d=Yb d:=by
 induction d with
 | zero=>rfl
 | succ d ih=>rw [Go.Lib.repeatL,ih];simp [Yb,List.replicate_succ]
def GR {d:Nat} (h:d≤100000):strings_Repeat [9] (d:Int)=some (Yb d):=by
 unfold strings_Repeat
 rw [zo (show 0≤(d:Int) by omega),zo (show (d:Int)≤9223372036854775807 by omega),zo (show [(9:UInt8)].length*((d:Nat):Int).toNat≤140737488355328 by simp;omega)]
 rw [Int.toNat_natCast,repL];rfl
def yX {h:Int×Int×Za×Int} {l:List Nd} {i:Int} (hi:(l.length:Int)≤i):JM (.mk h l) i=some vY:=by
 unfold JM
 show br (decide (i<(l.length:Int))) _ _=_
 rw [JV (by omega)];rfl
noncomputable abbrev EJ (m:Nat) (n:Nd) (d:Int) (t:List Int):=(ko.fuel m).F_tongue_printer_statement_b (n,d,t,())
noncomputable abbrev FLi (m:Nat) (n:Nd) (d:Int) (t:List Int):=(ko.fuel m).F_tongue_printer_line_b (n,d,t,())
noncomputable abbrev FBl (m:Nat) (n:Nd) (d:Int) (t:List Int):=(ko.fuel m).F_tongue_printer_block_b (n,d,t,())
noncomputable abbrev FCh (m:Nat) (n:Nd) (d:Int) (t:List Int):=(ko.fuel m).F_tongue_printer_choice_b (n,d,t,())
noncomputable abbrev FGa (m:Nat) (n:Nd) (d:Int) (t:List Int):=(ko.fuel m).F_tongue_printer_gate_b (n,d,t,())
def BJ {m:Nat} {n:Nd} {d:Nat} {t v:Za} (h:EJ m n (d:Int) (Ye (t++Yb d))=some (Ye (t++Yb d++v),(d:Int),())) (hd:d≤100000) (ht:t.length+d+v.length+1≤100000000000) :
 FLi (m+1) n (d:Int) (Ye t)=some (Ye (t++(Yb d++v++[10])),(d:Int),()):=by
 cases n with
 | mk hd' l=>
 show @Jm (ko.fuel m) (.mk hd' l) (d:Int) (Ye t)=_
 have hl:=VW d
 unfold Jm
 refine jf (GR hd) (jf (dQ (by omega)) (jf h (jf (dQ (by simp only [jK,zf,zg,zh];omega)) ?_)))
 simp
def y5 {m:Nat} {d:Nat} {L:List Nd} (hL:L.length≤1000000):∀(b:YSts) (p:List Nd) (t:Za),p++b.nds=L→b.ok→d+b.sz≤50000 →
 (∀(s:YSt) (t:Za),(∃u v,b=YSts.app u (.cons s v))→t.length+200000*s.sz≤90000000000→EJ m s.nd (d:Int) (Ye t)=some (Ye (t++s.txt d),(d:Int),()))→t.length+200000*b.sz+200000≤90000000000 →
 iter (fun s:Int×Int×List Int=>@jI.ce_ (ko.fuel (m+1)) _ L (L.length:Int) s.1 s.2.1 s.2.2 some) ((p.length:Int),(d:Int),Ye t)=some ((L.length:Int),(d:Int),Ye (t++b.lines d))
 | .nil,p,t,e,_,_,_,h=>by
   have:p=L:=by simpa [YSts.nds] using e
   subst this
   refine kD ?_
   show @jI.ce_ (ko.fuel (m+1)) _ p (p.length:Int) (p.length:Int) (d:Int) (Ye t) some=_
   unfold jI.ce_
   rw [JV (by omega)]
   simp [YSts.lines]
 | .cons s l,p,t,e,hok,hd,hs,h=>by
   simp only [YSts.nds] at e
   simp only [YSts.sz] at h hd
   have hn:L.length=p.length+l.nds.length+1:=by rw [←e];simp;omega
   have hx:=s.txt_le d hok.1 (by omega)
   have h1:=BJ (t:=t) (hs s (t++Yb d) ⟨.nil,l,rfl⟩ (by rw [zf,VW];omega)) (by omega) (by omega)
   have h2:=y5 hL l (p++[s.nd]) (t++(Yb d++s.txt d++[10])) (by rw [←e];simp) hok.2 (by omega) (fun s' t' ⟨u,v,he⟩=>hs s' t' ⟨.cons s u,v,by rw [he];rfl⟩) (by simp only [zf,zg,zh,VW];omega)
   have e3:t++(Yb d++s.txt d++[10])++l.lines d=t++(YSts.cons s l).lines d:=by simp [YSts.lines]
   rw [zf,e3] at h2
   refine kr ?_ h2
   show @jI.ce_ (ko.fuel (m+1)) _ L (L.length:Int) (p.length:Int) (d:Int) (Ye t) some=_
   unfold jI.ce_
   rw [JB (by omega)]
   refine jf (HD (show p.length<L.length by omega)) ?_
   have hx:L[p.length]'(by omega)=s.nd:=by subst e;simp
   have h3:FLi (m+1) (Rose.mk (Prod.fst (Rose.hQ (L[p.length]'(by omega))),Prod.fst (Prod.snd (Rose.hQ (L[p.length]'(by omega)))),Prod.fst (Prod.snd (Prod.snd (Rose.hQ (L[p.length]'(by omega))))),Prod.snd (Prod.snd (Prod.snd (Rose.hQ (L[p.length]'(by omega)))))) (Rose.kQ (L[p.length]'(by omega)))) (d:Int) (Ye t)=some (Ye (t++(Yb d++s.txt d++[10])),(d:Int),()):=by
    rw [y8,hx];exact h1
   refine jf h3 ?_
   rw [JS (by omega)]
   rfl
def lU:∀{b u v:YSts} {s:YSt},b=u.app (.cons s v)→b.ok→s.ok∧s.sz≤b.sz
 | _,.nil,v,s,rfl,h=>⟨h.1,by simp only [YSts.app,YSts.sz];omega⟩
 | _,.cons a u,v,s,rfl,h=>by
   have:=lU (u:=u) (v:=v) (s:=s) rfl h.2
   exact ⟨this.1,by simp only [YSts.app,YSts.sz] at this ⊢;omega⟩
def xT {m:Nat} {d:Nat} {q:Int} {b:YSts} {t:Za} (hok:b.ok) (hb:d+1+b.sz≤50000)
 (hs:∀(s:YSt) (t:Za),s.ok→s.sz≤b.sz→t.length+200000*s.sz≤90000000000→EJ m s.nd ((d+1:Nat):Int) (Ye t)=some (Ye (t++s.txt (d+1)),((d+1:Nat):Int),())) (ht:t.length+200000*b.sz+300000≤90000000000) :
 FBl (m+2) (Yh 7 q b.nds) (d:Int) (Ye t)=some (Ye (t++Ho d b),(d:Int),()):=by
 show @jI (ko.fuel (m+1)) (Yh 7 q b.nds) (d:Int) (Ye t)=_
 have hl:=b.len
 have hll:=b.lines_le (d+1) hok (by omega)
 unfold jI
 refine jf (dQ (by simp only [jK,zg,zh];omega)) ?_
 have h2:=y5 (m:=m) (d:=d+1) (L:=b.nds) (by omega) b [] (t++[123,10]) rfl hok (by omega) (fun s t ⟨u,v,e⟩ h=>hs s t (lU e hok).1 (lU e hok).2 h) (by simp only [zf,zg,zh];omega)
 have e1:IntKind.i64.wrap ((d:Int)+1)=((d+1:Nat):Int):=by rw [JS (by omega)];omega
 have e2:IntKind.i64.wrap (((d+1:Nat):Int)-1)=(d:Int):=by rw [JS (by omega)];omega
 dsimp only
 rw [e1]
 refine jf h2 ?_
 dsimp only
 rw [e2]
 refine jf (GR (by omega)) (jf (zI (by simp only [jK,zf,zg,zh,VW];omega)) ?_)
 simp [Ho,jK]
def cM {h:Int×Int×Za×Int} {l:List Nd} {a b:Nd} (h0:JM (.mk h l) 0=some a) (h1:JM (.mk h l) 1=some b) :
 jd.c1 h.1 h.2.1 h.2.2.1 h.2.2.2 l some=some (a.hQ.1,a.hQ.2.1,a.hQ.2.2.1,a.hQ.2.2.2,a.kQ,b.hQ.1,b.hQ.2.1,b.hQ.2.2.1,b.hQ.2.2.2,b.kQ):=by
 unfold jd.c1
 exact jf h0 (jf h1 rfl)
def Nz {d:Nat} {b:YSts} (hok:b.ok) (hb:d+1+b.sz≤50000):(Ho d b).length≤200000*b.sz+d+3:=by
 have hll:=b.lines_le (d+1) hok (by omega)
 simp only [Ho,zf,zg,zh,VW];omega
def wK:∀(N:Nat) (x:YSt),x.sz≤N→x.ok → ∀(m d:Nat) (t:Za),4*x.sz≤m→d+x.sz≤50000→t.length+200000*x.sz≤90000000000 →
 EJ m x.nd (d:Int) (Ye t)=some (Ye (t++x.txt d),(d:Int),()):=by
 intro N
 induction N with
 | zero=>intro x hx;have:=x.sz_pos;omega
 | succ N ih=>
   intro x hx hok m d t hm hd ht
   have kV:∀(m:Nat) (q:Int) (b:YSts) (t:Za),b.ok→b.sz<x.sz→4*b.sz≤m→t.length+200000*b.sz+300000≤90000000000→FBl (m+2) (Yh 7 q b.nds) (d:Int) (Ye t)=some (Ye (t++Ho d b),(d:Int),()):=by
    intro m q b t hb hlt hm ht
    exact xT hb (by omega) (fun s t h1 h2 h3=>ih s (by omega) h1 m (d+1) t (by omega) (by omega) h3) ht
   have hp:=x.sz_pos
   obtain ⟨m,rfl⟩:∃n,m=n+4:=⟨m-4,by omega⟩
   show @jd (ko.fuel (m+3)) x.nd (d:Int) (Ye t)=_
   cases x with
   | forS p w lo hi q b=>
     simp only [YSt.sz] at hm hd ht kV hx
     have h0:w.length≤40000:=hok.1.1
     have h1:=lo.txt_le hok.2.1
     have h2:=hi.txt_le hok.2.2.1
     unfold jd
     refine jf (cM (a:=lo.nd) (b:=hi.nd) Hq bG) (jf (x:=false) (by rfl) (Jj rfl (Jj (by rfl) (Jj (by rfl) (Jj (by rfl) (Yw (by rfl) ?_))))))
     have k1:jd.c16 w lo.nd.hQ.1 lo.nd.hQ.2.1 lo.nd.hQ.2.2.1 lo.nd.hQ.2.2.2 lo.nd.kQ hi.nd.hQ.1 hi.nd.hQ.2.1 hi.nd.hQ.2.2.1 hi.nd.hQ.2.2.2 hi.nd.kQ (d:Int) (Ye t) some
      = some ((d:Int),Ye (t++([102,111,114,32]++w++[32,105,110,32]++lo.txt++[32,46,46,32]++hi.txt++[32]))):=by
      unfold jd.c16
      exact jf (dC hok.2.1 (by omega)) (jf (dC hok.2.2.1 (by omega)) (jf (put7 (by first | omega | (simp only [jK,zf,zg,zh];omega))) rfl))
     refine jf k1 (jf C6 (jf (kV (m+1) q b _ hok.2.2.2 (by omega) (by omega) (by first | omega | (simp only [jK,zf,zg,zh];omega))) ?_))
     simp [YSt.txt,Ho]
   | whenS p e q b=>
     simp only [YSt.sz] at hm hd ht kV hx
     have h1:=e.txt_le hok.1
     unfold jd
     refine jf (cM (a:=e.nd) (b:=Yh 7 q b.nds) Hq bG) (jf (x:=false) (by rfl) (Jj rfl (Jj (by rfl) (Jj (by rfl) (Jj (by rfl) (Jj (by rfl) (Yw (by rfl) ?_)))))))
     refine jf (dC hok.1 (by omega)) (jf (uO (by first | omega | (simp only [jK,zf,zg,zh];omega))) (jf (kV (m+1) q b _ hok.2 (by omega) (by omega) (by first | omega | (simp only [jK,zf,zg,zh];omega))) ?_))
     simp [YSt.txt,Ho,jK]
   | ifS p no r q b=>
     simp only [YSt.sz] at hm hd ht kV hx
     have h1:=r.txt_le hok.1
     unfold jd
     refine jf (cM (a:=r.nd) (b:=Yh 7 q b.nds) Hq bG) (jf (x:=false) (by rfl) (Jj rfl (Jj (by rfl) (Jj (by rfl) (Jj (by rfl) (Jj (by rfl) (Jj (by rfl) (Yw (by rfl) ?_))))))))
     have k1:FCh (m+3) (YSt.ifS p no r q b).nd (d:Int) (Ye t)=some (Ye (t++(YSt.ifS p no r q b).txt d),(d:Int),()):=by
      show @jP (ko.fuel (m+2)) (YSt.ifS p no r q b).nd (d:Int) (Ye t)=_
      unfold jP
      refine jf (dQ (by first | omega | (simp only [jK,zf,zg,zh];omega))) ?_
      have k2:∀(h:t.length≤90000000000),jP.cc_ (if no=true then 1 else 0) (d:Int) (Ye (t++[105,102,32])) some=some ((d:Int),Ye (t++[105,102,32]++(if no then [33] else []))):=by
       intro h
       unfold jP.cc_
       cases no with
       | true=>exact Yw (by rfl) (jf (dQ (by first | omega | (simp only [jK,zf,zg,zh];omega))) rfl)
       | false=>exact Jj (by rfl) (by simp)
      have hno:(if no=true then [33] else []:Za).length≤1:=by split<;>simp
      refine jf (k2 (by omega)) (jf Hq (jf (qG hok.1 (by omega)) (jf (zI (by first | omega | (simp only [jK,zf,zg,zh];omega))) (jf bG (jf (kV m q b _ hok.2 (by omega) (by omega) (by first | omega | (simp only [jK,zf,zg,zh];omega))) (Jj (by rfl) ?_))))))
      simp [YSt.txt,Ho,jK]
     refine jf k1 ?_
     rfl
   | ifE p no r q b q2 c=>
     simp only [YSt.sz] at hm hd ht kV hx
     have h1:=r.txt_le hok.1
     unfold jd
     refine jf (cM (a:=r.nd) (b:=Yh 7 q b.nds) Hq bG) (jf (x:=false) (by rfl) (Jj rfl (Jj (by rfl) (Jj (by rfl) (Jj (by rfl) (Jj (by rfl) (Jj (by rfl) (Yw (by rfl) ?_))))))))
     have k1:FCh (m+3) (YSt.ifE p no r q b q2 c).nd (d:Int) (Ye t)=some (Ye (t++(YSt.ifE p no r q b q2 c).txt d),(d:Int),()):=by
      show @jP (ko.fuel (m+2)) (YSt.ifE p no r q b q2 c).nd (d:Int) (Ye t)=_
      unfold jP
      refine jf (dQ (by first | omega | (simp only [jK,zf,zg,zh];omega))) ?_
      have k2:∀(h:t.length≤90000000000),jP.cc_ (if no=true then 1 else 0) (d:Int) (Ye (t++[105,102,32])) some=some ((d:Int),Ye (t++[105,102,32]++(if no then [33] else []))):=by
       intro h
       unfold jP.cc_
       cases no with
       | true=>exact Yw (by rfl) (jf (dQ (by first | omega | (simp only [jK,zf,zg,zh];omega))) rfl)
       | false=>exact Jj (by rfl) (by simp)
      have hno:(if no=true then [33] else []:Za).length≤1:=by split<;>simp
      have hbl:=Nz (d:=d) hok.2.1 (by omega)
      refine jf (k2 (by omega)) (jf Hq (jf (qG hok.1 (by omega)) (jf (zI (by first | omega | (simp only [jK,zf,zg,zh];omega))) (jf bG (jf (kV m q b _ hok.2.1 (by omega) (by omega) (by first | omega | (simp only [jK,zf,zg,zh];omega))) (Yw (by rfl) (jf (dQ (by first | omega | (simp only [jK,zf,zg,zh];omega))) (jf (x:=Yh 7 q2 c.nds) (by rfl) (jf (kV m q2 c _ hok.2.2 (by omega) (by omega) (by first | omega | (simp only [jK,zf,zg,zh];omega))) ?_)))))))))
      simp [YSt.txt,Ho,jK]
     refine jf k1 ?_
     rfl
   | meas p a b=>
     simp only [YSt.sz] at hm hd ht kV hx
     have h1:=a.txt_le hok.1
     have h2:=b.txt_le hok.2
     unfold jd
     refine jf (cM (a:=a.nd) (b:=b.nd) Hq bG) (jf (x:=false) (by rfl) (Jj rfl (Jj (by rfl) (Jj (by rfl) (Jj (by rfl) (Jj (by rfl) (Jj (by rfl) (Jj (by rfl) (Yw (by rfl) ?_)))))))))
     have k1:jd.c24 a.nd.hQ.1 a.nd.hQ.2.1 a.nd.hQ.2.2.1 a.nd.hQ.2.2.2 a.nd.kQ b.nd.hQ.1 b.nd.hQ.2.1 b.nd.hQ.2.2.1 b.nd.hQ.2.2.2 b.nd.kQ (d:Int) (Ye t) some
      = some ((d:Int),Ye (t++([109,101,97,115,117,114,101,32]++a.txt++[32,45,62,32]++b.txt++[59]))):=by
      unfold jd.c24
      exact jf (o4 hok.1 (by omega)) (jf (o4 hok.2 (by omega)) (jf (K7 (by first | omega | (simp only [jK,zf,zg,zh];omega))) rfl))
     exact jf k1 rfl
   | reset p a=>
     simp only [YSt.sz] at hm hd ht kV hx
     have h1:=a.txt_le hok
     unfold jd
     refine jf (cM (a:=a.nd) (b:=vY) Hq (yX (i:=1) (l:=[a.nd]) (by simp))) (jf (x:=false) (by rfl) (Jj rfl (Jj (by rfl) (Jj (by rfl) (Jj (by rfl) (Jj (by rfl) (Jj (by rfl) (Jj (by rfl) (Jj (by rfl) (Yw (by rfl) ?_))))))))))
     exact jf (o4 hok (by omega)) (jf (uO (by first | omega | (simp only [jK,zf,zg,zh];omega))) rfl)
   | within p q a q2 b=>
     simp only [YSt.sz] at hm hd ht kV hx
     have hbl:=Nz (d:=d) hok.1 (by omega)
     unfold jd
     refine jf (cM (a:=Yh 7 q a.nds) (b:=Yh 7 q2 b.nds) Hq bG) (jf (x:=false) (by rfl) (Jj rfl (Jj (by rfl) (Jj (by rfl) (Jj (by rfl) (Jj (by rfl) (Jj (by rfl) (Jj (by rfl) (Jj (by rfl) (Jj (by rfl) (Yw (by rfl) ?_)))))))))))
     refine jf (dQ (t:=t) (a:=[119,105,116,104,105,110,32]) (by first | omega | (simp only [jK,zf,zg,zh];omega))) (jf (kV (m+1) q a _ hok.1 (by omega) (by omega) (by first | omega | (simp only [jK,zf,zg,zh];omega))) (jf (dQ (t:=t++[119,105,116,104,105,110,32]++Ho d a) (a:=[32,97,112,112,108,121,32]) (by first | omega | (simp only [jK,zf,zg,zh];omega))) (jf (kV (m+1) q2 b _ hok.2 (by omega) (by omega) (by first | omega | (simp only [jK,zf,zg,zh];omega))) ?_)))
     simp [YSt.txt,Ho,jK]
   | flip p r e=>
     simp only [YSt.sz] at hm hd ht kV hx
     have h1:=r.txt_le hok.1
     have h2:=e.txt_le hok.2
     unfold jd
     refine jf (cM (a:=r.nd) (b:=e.nd) Hq bG) (jf (x:=false) (by rfl) (Jj rfl (Jj (by rfl) (Jj (by rfl) (Jj (by rfl) (Jj (by rfl) (Jj (by rfl) (Jj (by rfl) (Jj (by rfl) (Jj (by rfl) (Jj (by rfl) (Yw (by rfl) ?_))))))))))))
     have k1:jd.c33 r.nd.hQ.1 r.nd.hQ.2.1 r.nd.hQ.2.2.1 r.nd.hQ.2.2.2 r.nd.kQ e.nd.hQ.1 e.nd.hQ.2.1 e.nd.hQ.2.2.1 e.nd.hQ.2.2.2 e.nd.kQ (d:Int) (Ye t) some
      = some ((d:Int),Ye (t++(r.txt++[32,94,61,32]++e.txt++[59]))):=by
      unfold jd.c33
      exact jf (o4 hok.1 (by omega)) (jf (PX hok.2 (by omega)) (jf (put4 (by first | omega | (simp only [jK,zf,zg,zh];omega))) rfl))
     exact jf k1 rfl
   | app p w mods args refs=>
     have hd':(YSt.app p w mods args refs).sz≤50000:=by omega
     have k:=EN (p:=p) (d:=(d:Int)) (t:=t) hok hd' (by omega)
     unfold jd
     refine jf (cM (a:=gr (mods.map YMd.nd)) (b:=gr (args.map YEx.nd)) Hq bG) (jf (x:=false) (by rfl) (Jj rfl (Jj (by rfl) (Jj (by rfl) (Yw (by rfl) (jf k rfl))))))
end W
end

section
set_option maxRecDepth 8000
set_option maxHeartbeats 800000
namespace W
open Go Go.Ql
def EF {x:Int×Za×Bool} (h:Us x.2.1):(cB x).length+20≤40100*mZ x:=by
 have:x.2.1.length≤40000:=h.1
 unfold cB mZ
 split<;>simp<;>omega
def EE {x:Int×Za} (h:Us x.2):x.2.length+20≤40100*(fun _:Int×Za=>1) x:=by
 have:x.2.length≤40000:=h.1
 show _≤40100*1
 omega
def qI {α:Type}:∀l:List α,VT (fun _=>1) l=l.length
 | []=>rfl
 | a::l=>by have:=qI l;simp only [VT,List.map_cons,List.sum_cons,zg] at *;omega
def C1:∀(x:YIt),x.ok→x.sz≤49000→x.txt.length+2≤200000*x.sz
 | .decl bit p w e,h,hs=>by
   have h0:w.length≤40000:=h.1.1
   have h1:=e.txt_le h.2
   have h2:(if bit=true then [98,105,116,32] else [113,117,98,105,116,32]:Za).length≤6:=by split<;>simp
   simp only [YIt.txt,YIt.sz,zf,zg,zh];omega
 | .const p w e,h,hs=>by
   have h0:w.length≤40000:=h.1.1
   have h1:=e.txt_le h.2
   simp only [YIt.txt,YIt.sz,zf,zg,zh];omega
 | .gate p w ints wires q b,h,hs=>by
   simp only [YIt.sz] at hs
   have h0:w.length≤40000:=h.1.1
   have h1:=NA (f:=fun x:Int×Za=>x.2) (z:=fun _=>1) (fun a ha=>EE ha) ints h.2.1
   rw [qI] at h1
   have h2:=NA (f:=cB) (z:=mZ) (fun a ha=>EF ha) wires h.2.2.1
   have h3:=Nz (d:=0) (b:=b) h.2.2.2.2 (by omega)
   have h4:(Nu ints).length≤2+(Vq (ints.map fun x=>x.2)).length:=by unfold Nu;split<;>simp;omega
   simp only [YIt.txt,YIt.sz,zf,zg,zh];omega
 | .st s,h,hs=>by
   have:=s.txt_le 0 h (by have:s.sz≤49000:=hs;omega)
   show (s.txt 0).length+2≤200000*s.sz
   omega
def FW {m:Nat} {p q:Int} {w:Za} {ints:List (Int×Za)} {wires:List (Int×Za×Bool)} {b:YSts} {t:Za} (h:(YIt.gate p w ints wires q b).ok) (hs:(YIt.gate p w ints wires q b).sz≤49000)
 (hm:4*b.sz≤m) (ht:t.length+200000*(YIt.gate p w ints wires q b).sz≤90000000000) :
 FGa (m+3) (YIt.gate p w ints wires q b).nd (0:Int) (Ye t)=some (Ye (t++(YIt.gate p w ints wires q b).txt),(0:Int),()):=by
 simp only [YIt.sz] at hs ht
 have h0:w.length≤40000:=h.1.1
 have h1:=NA (f:=fun x:Int×Za=>x.2) (z:=fun _=>1) (fun a ha=>EE ha) ints h.2.1
 rw [qI] at h1
 have h2:=NA (f:=cB) (z:=mZ) (fun a ha=>EF ha) wires h.2.2.1
 have hw:=NI zG wires
 have h4:(Nu ints).length≤2+(Vq (ints.map fun x=>x.2)).length:=by unfold Nu;split<;>simp;omega
 show @jV (ko.fuel (m+2)) (YIt.gate p w ints wires q b).nd (0:Int) (Ye t)=_
 unfold jV
 refine jf (zI (b:=w) (by first | omega | (simp only [jK,zf,zg,zh];omega))) ?_
 have k1:jV.cc_ 5 p w 0 [gr (ints.map UV),gr (wires.map UR),Yh 7 q b.nds] (0:Int) (Ye (t++([103,97,116,101,32]++w))) some=some ((0:Int),Ye (t++([103,97,116,101,32]++w)++Nu ints)):=by
  unfold jV.cc_
  refine jf Hq ?_
  show br (decide (((ints.map UV).length:Int)>0)) _ _=_
  rw [List.length_map]
  cases ints with
  | nil=>rw [JV (by simp)];simp [Nu]
  | cons x l=>
    rw [JB (by simp)]
    refine jf Hq (jf (F2 (fun y hy=>(h.2.1 y hy).1) (by simp only [zg] at hs ⊢;omega) (by omega)) ?_)
    refine jf (uO (by simp only [jK,zf,zg,zh] at h1 ht ⊢;omega)) ?_
    rfl
 refine jf k1 (jf bG (jf (F3 (fun y hy=>(h.2.2.1 y hy).1) (by omega) (by omega)) (jf (uO (by first | omega | (simp only [jK,zf,zg,zh];omega))) (jf C6 ?_))))
 refine jf (xT (m:=m) (d:=0) h.2.2.2.2 (by omega) (fun s t h1 h2 h3=>wK s.sz s (zx _) h1 m 1 t (by omega) (by omega) h3) (by first | omega | (simp only [jK,zf,zg,zh];omega))) ?_
 simp [YIt.txt,jK]
def FY {x:YIt} (h:x.ok) (hs:x.sz≤49000) {t:Za} (ht:t.length+200000*x.sz≤90000000000):EJ 999999 x.nd (0:Int) (Ye t)=some (Ye (t++x.txt),(0:Int),()):=by
 cases x with
 | decl bit p w e=>
   simp only [YIt.sz] at hs ht
   have h0:w.length≤40000:=h.1.1
   have h1:=e.txt_le h.2
   have h2:(if bit=true then [98,105,116,32] else [113,117,98,105,116,32]:Za).length≤6:=by split<;>simp
   have k1:jd.c8 (if bit=true then [98,105,116,32] else [113,117,98,105,116,32]) w e.nd.hQ.1 e.nd.hQ.2.1 e.nd.hQ.2.2.1 e.nd.hQ.2.2.2 e.nd.kQ (0:Int) (Ye t) some=some ((0:Int),Ye (t++(YIt.decl bit p w e).txt)):=by
    unfold jd.c8
    exact jf (dC h.2 (by omega)) (jf (K7 (by first | omega | (simp only [jK,zf,zg,zh];omega))) rfl)
   show @jd (ko.fuel 999998) (YIt.decl bit p w e).nd (0:Int) (Ye t)=_
   unfold jd
   refine jf (cM (a:=e.nd) (b:=vY) Hq (yX (i:=1) (l:=[e.nd]) (by simp))) ?_
   cases bit with
   | true=>exact jf (x:=true) (by rfl) (Yw rfl (jf (x:=[98,105,116,32]) (by rfl) (jf k1 rfl)))
   | false=>exact jf (x:=true) (by rfl) (Yw rfl (jf (x:=[113,117,98,105,116,32]) (by rfl) (jf k1 rfl)))
 | const p w e=>
   simp only [YIt.sz] at hs ht
   have h0:w.length≤40000:=h.1.1
   have h1:=e.txt_le h.2
   have k1:jd.c10 w e.nd.hQ.1 e.nd.hQ.2.1 e.nd.hQ.2.2.1 e.nd.hQ.2.2.2 e.nd.kQ (0:Int) (Ye t) some=some ((0:Int),Ye (t++(YIt.const p w e).txt)):=by
    unfold jd.c10
    exact jf (dC h.2 (by omega)) (jf (K7 (by first | omega | (simp only [jK,zf,zg,zh];omega))) rfl)
   show @jd (ko.fuel 999998) (YIt.const p w e).nd (0:Int) (Ye t)=_
   unfold jd
   refine jf (cM (a:=e.nd) (b:=vY) Hq (yX (i:=1) (l:=[e.nd]) (by simp))) ?_
   exact jf (x:=false) (by rfl) (Jj rfl (Yw (by rfl) (jf k1 rfl)))
 | gate p w ints wires q b=>
   have hb:b.sz≤49000:=by simp only [YIt.sz] at hs;omega
   have k1:=FW (m:=999995) h hs (by omega) ht
   show @jd (ko.fuel 999998) (YIt.gate p w ints wires q b).nd (0:Int) (Ye t)=_
   unfold jd
   refine jf (cM (a:=gr (ints.map UV)) (b:=gr (wires.map UR)) Hq bG) ?_
   exact jf (x:=false) (by rfl) (Jj rfl (Jj (by rfl) (Yw (by rfl) (jf k1 rfl))))
 | st s=>
   have hs:s.sz≤49000:=hs
   have ht:t.length+200000*s.sz≤90000000000:=ht
   exact wK s.sz s (zx _) h 999999 0 t (by omega) (by omega) ht
def tD {L:List YIt} (hok:∀x∈L,x.ok) (hsz:∀x∈L,x.sz≤49000) (hl:L.length≤1000000):∀(r p:List YIt) (t:Za),p++r=L→t.length+200000*VT YIt.sz r≤90000000000 →
 iter (fun s:Int×Int×List Int=>kH.cb_ (L.map YIt.nd) ((L.map YIt.nd).length:Int) s.1 s.2.1 s.2.2 some) ((p.length:Int),(0:Int),Ye t)=some ((L.length:Int),(0:Int),Ye (t++Nv r))
 | [],p,t,e,h=>by
   have:p=L:=by simpa using e
   subst this
   refine kD ?_
   show kH.cb_ (p.map YIt.nd) ((p.map YIt.nd).length:Int) (p.length:Int) (0:Int) (Ye t) some=_
   unfold kH.cb_
   rw [JV (by rw [List.length_map];omega)]
   simp [Nv]
 | a::r,p,t,e,h=>by
   have hn:L.length=p.length+r.length+1:=by rw [←e];simp;omega
   have hz:VT YIt.sz (a::r)=a.sz+VT YIt.sz r:=by simp [VT]
   rw [hz] at h
   have ha:=hok a (by rw [←e];simp)
   have has:=hsz a (by rw [←e];simp)
   have hle:=C1 a ha has
   have hi:=FY ha has (t:=t++Yb 0) (by rw [zf,VW];omega)
   have h1:=BJ (m:=999999) (d:=0) (n:=a.nd) (t:=t) (v:=a.txt) hi (by omega) (by omega)
   have h2:=tD hok hsz hl r (p++[a]) (t++(Yb 0++a.txt++[10])) (by rw [←e];simp) (by simp only [zf,zg,zh,VW];omega)
   have e3:t++(Yb 0++a.txt++[10])++Nv r=t++Nv (a::r):=by simp [Nv,Yb]
   rw [zf,e3] at h2
   refine kr ?_ h2
   show kH.cb_ (L.map YIt.nd) ((L.map YIt.nd).length:Int) (p.length:Int) (0:Int) (Ye t) some=_
   unfold kH.cb_
   rw [JB (by rw [List.length_map];omega)]
   refine jf (HC e) ?_
   have h3:VO (Rose.mk (Prod.fst (Rose.hQ a.nd),Prod.fst (Prod.snd (Rose.hQ a.nd)),Prod.fst (Prod.snd (Prod.snd (Rose.hQ a.nd))),Prod.snd (Prod.snd (Prod.snd (Rose.hQ a.nd)))) (Rose.kQ a.nd),(0:Int),Ye t,())=some (Ye (t++(Yb 0++a.txt++[10])),(0:Int),()):=by
    rw [y8];exact h1
   refine jf h3 ?_
   rw [JS (by omega)]
   rfl
def RJ (t:Za):List.map (fun n:Int=>UInt8.ofNat n.toNat) (Ye t)=t:=by
 unfold Ye
 rw [List.map_map]
 refine List.map_id'' (fun b=>?_) t
 simp
def zH {L:List YIt} (hok:∀x∈L,x.ok) (hs:VT YIt.sz L≤49000):kH (prog L)=some (Nv L):=by
 unfold kH
 have hl:=NI YIt.sz_pos L
 have h:=tD hok (bL hs) (by omega) L [] [] rfl (by simp only [zh];omega)
 refine jf h ?_
 have hb:kF (0:Int) (Ye (Nv L))=some (Nv L,(0:Int),()):=by
  unfold kF
  rw [show List.all (Ye (Nv L)) (fun n=>decide (0≤n)&&decide (n<256))=true from by
   rw [zy]
   intro n hn
   obtain ⟨b,_,rfl⟩:=List.mem_map.1 hn
   have:=b.toNat_lt
   simp;omega,RJ]
  rfl
 refine jf hb rfl
end W
end
