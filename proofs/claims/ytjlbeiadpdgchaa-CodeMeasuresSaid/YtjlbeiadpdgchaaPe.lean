/- Plain laws of images, and of circuits made anew, of all arguments. -/
import Derived.Test.YtjlbeiadpdgchaaPc
import Derived.Test.YtjlbeiadpdgchaaPd
import Derived.Test.YtjlbeiadpdgchaaGa
import Derived.Test.YtjlbeiadpdgchaaWc
import Derived.Test.YtjlbeiadpdgchaaPf
set_option linter.all false
section
set_option maxHeartbeats 1000000
namespace Go.Ql
theorem holdsT (o:GOp) (h:o.2.2.2.2.2=[]) (bits:List Int):W.jQ o bits=some true:=by
 unfold W.jQ
 rw [h]
 exact jr (iter_of (n:=1) (r:=.inr (0:Int)) (by kernel_rfl)) rfl
end Go.Ql
end

section
set_option maxHeartbeats 2000000
namespace Go.Ql
def nrm (a:K):K:=K.mul a (K.conj a)
end Go.Ql
end

section
set_option maxHeartbeats 2000000
end

section
set_option maxHeartbeats 1000000
namespace Go.Ql
def lK (q:Nat) (a:Lt) (v:KV):KV:=
 if a.1=true then (if a.2=true then pK [] 4 (xK [] (q:Int) (pK [(q:Int)] 8 v)) else xK [] (q:Int) v) else (if a.2=true then pK [(q:Int)] 8 v else v)
theorem Uh (q:Int) (v:KV) (y:Nat):xK [] q v y=v (fl q y):=rfl
theorem pK_nil (k:Int) (v:KV) (y:Nat):pK [] k v y=turnZ (v y) k:=rfl
theorem HI (q k:Int) (v:KV) (y:Nat):pK [q] k v y=turnZ (v y) (k*bi (y.testBit q.toNat)):=by
 show (if onesB [q] y=true then turnZ (v y) k else v y)=_
 rw [ones1,turn_if]
theorem letter_pau {q:Nat} (hq:q<12) {p:Pau} (hb:Bare p q) (a:Lt) (v:KV):lK q a (pauK p v)=pauK ⟨tg p.x q a.1,tg p.z q a.2,p.m⟩ v:=by
 have hfl:∀y,phP p (fl (q:Int) y)=phP p y:=fun y=>by
  rw [ph_fl p (q:=(q:Int)) hq y,Int.toNat_natCast,hb.1,hb.2]
  simp [eP,bi]
 have hr:=fun y=>ph_at (p:=p) (r:=⟨tg p.x q a.1,tg p.z q a.2,p.m⟩) hq (fun j hj=>tg_ne (Ne.symm hj)) (fun j hj=>tg_ne (Ne.symm hj)) y
 simp only [tg_at,hb.1,hb.2,Bool.false_bne] at hr
 have hxx:∀y,y^^^tg p.x q a.1=if a.1=true then fl (q:Int) y^^^p.x else y^^^p.x:=fun y=>xor_tg
 obtain ⟨a,b⟩:=a
 funext y
 unfold pauK
 rw [hr y]
 show lK q (a,b) (fun y=>turnZ (v (y^^^p.x)) (phP p y)) y=turnZ (v (y^^^tg p.x q a)) _
 rw [hxx]
 cases a<;>cases b
 ·show turnZ (v (y^^^p.x)) (phP p y)=_
  rw [if_neg (by decide)]
  apply kn
  simp [eP,bi]
 ·show pK [(q:Int)] 8 (fun y=>turnZ (v (y^^^p.x)) (phP p y)) y=_
  rw [if_neg (by decide),HI,kF]
  apply kn
  simp only [Int.toNat_natCast,eP,bi]
  cases y.testBit q<;>simp<;>omega
 ·show xK [] (q:Int) (fun y=>turnZ (v (y^^^p.x)) (phP p y)) y=_
  rw [if_pos rfl,Uh,hfl]
  apply kn
  simp [eP,bi]
 ·show pK [] 4 (xK [] (q:Int) (pK [(q:Int)] 8 (fun y=>turnZ (v (y^^^p.x)) (phP p y)))) y=_
  rw [if_pos rfl,pK_nil,Uh,HI,kF,kF,hfl,UO]
  apply kn
  simp only [Int.toNat_natCast,eP,bi,decide_true]
  cases y.testBit q<;>simp<;>omega
theorem pau_none (v:KV):pauK ⟨0,0,false⟩ v=v:=by
 funext y
 unfold pauK phP
 rw [Uy fun j _=>by simp [eP,bi],Nat.xor_zero]
 simp [bi,ky]
theorem pau_minus (p:Pau) (v:KV):pK [] 8 (pauK ⟨p.x,p.z,false⟩ v)=pauK ⟨p.x,p.z,true⟩ v:=by
 funext y
 rw [pK_nil]
 unfold pauK phP
 rw [kF]
 apply kn
 simp only [bi]
 simp
 omega
theorem pu_take {w:Wd} {k:Nat} (hk:k<w.length):pu (w.take (k+1)) false=⟨tg (pu (w.take k) false).x k (w.getD k (false,false)).1,tg (pu (w.take k) false).z k (w.getD k (false,false)).2,false⟩:=by
 refine Pau.ext' (fun j=>?_) (fun j=>?_) rfl
 ·show (pu (w.take (k+1)) false).x.testBit j=(tg _ k _).testBit j
  rw [UJ,pu_x,pu_x]
  simp only [List.getD,List.getElem?_take]
  by_cases h:j<k
  ·rw [if_pos (by omega),if_pos h,decide_eq_false (by omega)];simp
  ·rw [if_neg h]
   by_cases e:k=j
   ·subst e;rw [if_pos (by omega),decide_eq_true rfl];simp
   ·rw [if_neg (by omega),decide_eq_false e];simp
 ·show (pu (w.take (k+1)) false).z.testBit j=(tg _ k _).testBit j
  rw [UJ,pu_z,pu_z]
  simp only [List.getD,List.getElem?_take]
  by_cases h:j<k
  ·rw [if_pos (by omega),if_pos h,decide_eq_false (by omega)];simp
  ·rw [if_neg h]
   by_cases e:k=j
   ·subst e;rw [if_pos (by omega),decide_eq_true rfl];simp
   ·rw [if_neg (by omega),decide_eq_false e];simp
end Go.Ql
end

section
set_option maxHeartbeats 1000000
namespace Go.Ql
theorem ok1_sto {n:Nat} (hn:n≤12) {o:GOp} (h:StO n o):Ok1 o n:=by
 refine ⟨h.q,h.k.1,fun c hc=>by have:=h.ctl c hc;omega,?_,fun hm=>(h.ctl _ hm).2 rfl⟩
 have:o.2.2.1.length≤1:=by
  rcases h.form with h | h | h | h | h
  ·exact h.2
  ·rw [h.2];exact Nat.zero_le _
  ·rw [h.2.1];exact Nat.zero_le _
  ·rw [h.2.1];exact Nat.le_refl _
  ·rw [h.2];exact Nat.zero_le _
 exact Nat.lt_of_le_of_lt this (by decide)
theorem runK_snoc (l:List GOp) (o:GOp) (v:KV):runK (l++[o]) v=gateK o (runK l v):=HL l [o] v
end Go.Ql
end

section

end

section
set_option maxHeartbeats 1000000
namespace Go.Ql
def agA (n q:Nat) (p:Pau):List GOp:=clr q n p++[opH q]
def agB (n q:Nat) (p r:Pau):List GOp:=agA n q p++agA n q (gPs (agA n q p) r)
def agC (n q:Nat) (p r:Pau):List GOp:=agB n q p r++mend (gPs (agB n q p r) p).m (opZ q)
def agOps (n q:Nat) (p r:Pau):List GOp:=agC n q p r++mend (gPs (agC n q p r) r).m (opX q)
def again (n:Nat):Nat→Nat→(Nat→Pau)→(Nat→Pau)→List GOp
 | _,0,_,_=>[]
 | q,k+1,f,g=>agOps n q (f q) (g q)++again n (q+1) k (fun j=>gPs (agOps n q (f q) (g q)) (f j)) (fun j=>gPs (agOps n q (f q) (g q)) (g j))
end Go.Ql
end

section
set_option maxHeartbeats 1000000
end

section
set_option maxHeartbeats 1000000
namespace Go.Ql
theorem dig_ne {l:List UInt8} (h:Vc l) {c:UInt8} (hc:c∈l):c≠44∧c≠45∧c≠47:=by
 have:=h c hc
 refine ⟨?_,?_,?_⟩<;>rintro rfl<;>revert this<;>decide
theorem Txt.inj {a b:Int} {l:List UInt8} (h:Txt a l) (k:Txt b l):a=b:=by
 have zero:∀{b:Int},b≠0→(∃D,IsDec D (b.natAbs:Int)∧[48]=(if b<0 then [45] else [])++D)→False:=by
  rintro b hb ⟨D,h1,h2⟩
  by_cases hn:b<0
  ·rw [if_pos hn] at h2
   exact absurd (List.cons.inj h2).1 (by decide)
  ·rw [if_neg hn,List.nil_append] at h2
   rw [←h2] at h1
   exact h1.2.2.1 rfl
 rcases h with ⟨h1,h2⟩ | ⟨h1,D,h2,h3⟩<;>rcases k with ⟨k1,k2⟩ | ⟨k1,E,k2,k3⟩
 ·rw [h1,k1]
 ·exact (zero k1 ⟨E,k2,h2.symm.trans k3⟩).elim
 ·exact (zero h1 ⟨D,h2,k2.symm.trans h3⟩).elim
 ·rw [h3] at k3
  have hd:∀{D:List UInt8} {v:Int},IsDec D v → ∀E,D≠45::E:=by
   intro D v h E e
   have:=dig_ne h.1 (c:=45) (by rw [e];exact List.mem_cons_self ..)
   exact this.2.1 rfl
  by_cases ha:a<0<;>by_cases hb:b<0
  ·rw [if_pos ha,if_pos hb] at k3
   have e:=(List.cons.inj k3).2
   have e:D=E:=e
   have h5:=h2.2.2.2
   have k5:=k2.2.2.2
   rw [e] at h5
   omega
  ·rw [if_pos ha,if_neg hb] at k3
   exact (hd k2 D k3.symm).elim
  ·rw [if_neg ha,if_pos hb] at k3
   exact (hd h2 E k3).elim
  ·rw [if_neg ha,if_neg hb] at k3
   have e:D=E:=k3
   have h5:=h2.2.2.2
   have k5:=k2.2.2.2
   rw [e] at h5
   omega
theorem itoa_one {a b:Int} (h:Go.Lib.itoa a=Go.Lib.itoa b):a=b:=(itoa_txt a).inj (h▸itoa_txt b)
theorem VQ (a:Int):∀c∈Go.Lib.itoa a,c≠44∧c≠47:=by
 intro c hc
 rcases itoa_txt a with ⟨_,h⟩ | ⟨_,D,h,e⟩
 ·rw [h] at hc
  rw [List.mem_singleton.1 hc];decide
 ·rw [e] at hc
  rcases List.mem_append.1 hc with hc | hc
  ·split at hc
   ·rw [List.mem_singleton.1 hc];decide
   ·cases hc
  ·have:=dig_ne h.1 hc
   exact ⟨this.1,this.2.2⟩
theorem part_last {s:UInt8}:∀{A A' B B':List UInt8},(∀c∈B,c≠s)→(∀c∈B',c≠s)→A++s::B=A'++s::B'→A=A'∧B=B'
 | [],[],B,B',_,_,h=>⟨rfl,(List.cons.inj h).2⟩
 | [],a::A',B,B',hB,_,h=>by
   have h:=(List.cons.inj h).2
   exact absurd rfl (hB s (by rw [h];simp))
 | a::A,[],B,B',_,hB,h=>by
   have h:=(List.cons.inj h).2
   exact absurd rfl (hB s (by rw [←h];simp))
 | a::A,a'::A',B,B',h1,h2,h=>by
   obtain ⟨e1,e2⟩:=List.cons.inj h
   obtain ⟨f1,f2⟩:=part_last h1 h2 e2
   exact ⟨by rw [e1,f1],f2⟩
theorem body_sep (v:Nat→Int):∀n,∀c∈bodyT v n,c≠47
 | 0,c,hc=>(VQ _ c hc).2
 | n+1,c,hc=>by
   rw [bodyT] at hc
   rcases List.mem_append.1 hc with hc | hc
   ·exact body_sep v n c hc
   ·rcases List.mem_cons.1 hc with rfl | hc
    ·decide
    ·exact (VQ _ c hc).2
theorem body_one {v w:Nat→Int}:∀{n m:Nat},bodyT v n=bodyT w m→n=m ∧ ∀i,i≤n→v i=w i
 | 0,0,h=>⟨rfl,fun i hi=>by rw [Nat.le_zero.1 hi];exact itoa_one h⟩
 | 0,m+1,h=>by
   have:(44:UInt8)∈bodyT v 0:=by rw [h,bodyT];simp
   exact absurd rfl ((VQ _ _ this).1)
 | n+1,0,h=>by
   have:(44:UInt8)∈bodyT w 0:=by rw [←h,bodyT];simp
   exact absurd rfl ((VQ _ _ this).1)
 | n+1,m+1,h=>by
   rw [bodyT,bodyT] at h
   obtain ⟨h1,h2⟩:=part_last (fun c hc=>(VQ _ c hc).1) (fun c hc=>(VQ _ c hc).1) h
   obtain ⟨e,h3⟩:=body_one h1
   subst e
   refine ⟨rfl,fun i hi=>?_⟩
   by_cases hin:i=n+1
   ·subst hin;exact itoa_one h2
   ·exact h3 i (by omega)
theorem last_zero (v:Nat→Int):∀(n i:Nat),YV v n<i→i<n→v i=0
 | 0,i,_,h=>absurd h (Nat.not_lt_zero _)
 | n+1,i,h1,h2=>by
   rw [YV] at h1
   by_cases hv:v n≠0
   ·rw [if_pos hv] at h1;omega
   ·rw [if_neg hv] at h1
    by_cases e:i=n
    ·subst e;exact Classical.not_not.1 hv
    ·exact last_zero v n i h1 (by omega)
theorem ntext_one {v w:Nat→Int} {e f:Nat} (h:ntext v e=ntext w f):e=f ∧ ∀i,i<8→v i=w i:=by
 unfold ntext at h
 have hb:e=f∧bodyT v (YV v 8)=bodyT w (YV w 8):=by
  by_cases he:e=0<;>by_cases hf:f=0
  ·rw [if_pos he,if_pos hf,List.append_nil,List.append_nil] at h
   exact ⟨by omega,h⟩
  ·rw [if_pos he,if_neg hf,List.append_nil] at h
   have:(47:UInt8)∈bodyT v (YV v 8):=by rw [h];simp
   exact absurd rfl (body_sep _ _ _ this)
  ·rw [if_neg he,if_pos hf,List.append_nil] at h
   have:(47:UInt8)∈bodyT w (YV w 8):=by rw [←h];simp
   exact absurd rfl (body_sep _ _ _ this)
  ·rw [if_neg he,if_neg hf] at h
   obtain ⟨h1,h2⟩:=part_last (fun c hc=>(VQ _ c hc).2) (fun c hc=>(VQ _ c hc).2) h
   have:=itoa_one h2
   exact ⟨by omega,h1⟩
 obtain ⟨e1,e2⟩:=body_one hb.2
 refine ⟨hb.1,fun i hi=>?_⟩
 by_cases hl:i≤YV v 8
 ·exact e2 i hl
 ·rw [last_zero v 8 i (by omega) hi,last_zero w 8 i (by omega) hi]
theorem KTxt.inj {k k':K} {l:List UInt8} (h:KTxt k l) (g:KTxt k' l):k=k':=by
 obtain ⟨v,e,_,h2,rfl⟩:=h
 obtain ⟨w,f,_,g2,g3⟩:=g
 obtain ⟨rfl,h3⟩:=ntext_one g3
 rw [←h2,←g2]
 unfold kv
 simp only [h3 0 (by decide),h3 1 (by decide),h3 2 (by decide),h3 3 (by decide),h3 4 (by decide),h3 5 (by decide),h3 6 (by decide),h3 7 (by decide)]
end Go.Ql
end

section
set_option maxHeartbeats 1000000
namespace Go.Ql
theorem pw_u64 {q:Nat} (hq:q<12):IntKind.u64.wrap ((1:Int)*(2:Int)^Min.min (Int.toNat (q:Int)) (64:Nat))=((2^q:Nat):Int):=by
 rw [Int.toNat_natCast,Nat.min_eq_left (by omega)]
 have hp:2^q<2^12:=Nat.pow_lt_pow_right (by decide) hq
 have h:((1:Int)*(2:Int)^q)=((2^q:Nat):Int):=by simp
 rw [h]
 generalize 2^q=y at hp
 rw [Vp (by omega)]
theorem pZ_sm {q:Nat} (hq:q<12):Sm (pZ q):=⟨by show 0<4096;decide,(pZ_fit (n:=12) hq).2⟩
end Go.Ql
end

section
set_option maxHeartbeats 1000000
namespace Go.Ql
theorem UY (a:K) {k:Int} (h:k % 16=0):turnZ a k=a:=by
 rw [kn a (l:=0) (by omega),ky]
theorem pK_back (l:List Int) (v:KV) (k:Int):pK l ((16-k) % 16) (pK l k v)=v:=by
 rw [←pK_add]
 funext x
 unfold pK
 rw [UY _ (by omega)]
 split<;>rfl
theorem xK_back {l:List Int} {q:Int} (hl:Nn l) (hq:0≤q) (h:q∉l) (v:KV):xK l q (xK l q v)=v:=by
 funext x
 unfold xK
 rw [ones_other hl hq h,fl_fl]
 cases onesB l x<;>rfl
theorem gate_back {n:Nat} {o:GOp} (h:StO n o) (v:KV):gateK (invO o) (gateK o v)=v:=by
 obtain ⟨k,K1,l,q,b,on⟩:=o
 obtain ⟨hq,hc,hk,hf⟩:=h
 simp only at hq hc hk hf
 have hl:Nn l:=fun c hcl=>(hc c hcl).1.1
 have hnl:q∉l:=fun hm=>(hc q hm).2 rfl
 have hk2:0≤(16-K1) % 16:=by omega
 show gateK (k,(16-K1) % 16,l,q,b,on) _=v
 rcases hf with ⟨rfl,h1⟩ | ⟨rfl,rfl⟩ | ⟨rfl,rfl,h2⟩ | ⟨rfl,h1,h2⟩ | ⟨rfl,rfl⟩
 ·rw [HD,HD];exact xK_back hl hq.1 hnl v
 ·rw [HR,HR];exact hK_hK q v
 ·rw [VC _ _ _ _ _ _ hk2,VC _ _ _ _ _ _ hk.1];exact pK_back _ v K1
 ·rw [VC _ _ _ _ _ _ hk2,VC _ _ _ _ _ _ hk.1];exact pK_back _ v K1
 ·rw [gate_phase _ _ _ _ _ hk2,gate_phase _ _ _ _ _ hk.1];exact pK_back _ v K1
theorem gate_lin (o:GOp) (k:Int) (v:KV):gateK o (fun y=>turnZ (v y) k)=fun y=>turnZ (gateK o v y) k:=by
 funext y
 have tk:∀(a:K) (m:Nat),K.turn (turnZ a k) m=turnZ (K.turn a m) k:=fun a m=>by
  unfold turnZ
  rw [K.turn_turn,K.turn_turn,Nat.add_comm]
 have tn:∀a:K,K.neg (turnZ a k)=turnZ (K.neg a) k:=fun a=>tk a 8
 unfold gateK
 simp only [tk,←VA,tn,←Nc]
 split
 ·rfl
 ·split
  ·rfl
  ·split
   ·split<;>rfl
   ·split
    ·rfl
    ·split<;>rw [←Nc]
end Go.Ql
end

section
set_option maxHeartbeats 1000000
namespace Go.Ql
theorem Vo (f g:Nat→Int):∀k,sumI (fun j=>f j+g j) k=sumI f k+sumI g k
 | 0=>rfl
 | k+1=>by simp only [sumI];rw [Vo f g k];omega
theorem VV (c:Int) (f:Nat→Int):∀k,sumI (fun j=>c*f j) k=c*sumI f k
 | 0=>by simp [sumI]
 | k+1=>by simp only [sumI];rw [VV c f k,Int.mul_add]
theorem sumI_mod {f:Nat→Int} {m:Int} (hm:0<m) (h:∀j,f j % m=0):∀k,sumI f k % m=0
 | 0=>by simp [sumI]
 | k+1=>by
   rw [sumI]
   exact Int.emod_eq_zero_of_dvd (Int.dvd_add (Int.dvd_of_emod_eq_zero (sumI_mod hm h k)) (Int.dvd_of_emod_eq_zero (h k)))
theorem sumI_par (s:Nat→Bool):∀k,(sumI (fun j=>bi (s j)) k-bi (parB s k)) % 2=0
 | 0=>rfl
 | k+1=>by
   have h:=sumI_par s k
   simp only [sumI,parB]
   generalize sumI (fun j=>bi (s j)) k=u at h ⊢
   generalize parB s k=w at h ⊢
   cases w<;>cases s k<;>simp [bi] at h ⊢ <;> omega
theorem parB_ext {f:Nat→Bool} {n:Nat} (h:∀j,n≤j→f j=false):∀{k},n≤k→parB f k=parB f n
 | 0,hk=>by rw [Nat.le_zero.1 hk]
 | k+1,hk=>by
   by_cases e:n=k+1
   ·rw [e]
   ·rw [parB,parB_ext h (by omega),h k (by omega),Bool.bne_false]
theorem Hv {n k:Nat} {p r:Pau} (hp:Fit n p) (hk:n≤k):sym k p r=sym n p r:=
 parB_ext (fun j hj=>by
  have:=hp.bare j hj
  rw [this.1,this.2];rfl) hk
def kB (a b c d:Bool):Int:=bi (a&&b)+bi (c&&d)+2*bi (b&&c)-bi ((a !=c)&&(b !=d))
def kP (p r:Pau):Int:=sumI (fun j=>kB (p.x.testBit j) (p.z.testBit j) (r.x.testBit j) (r.z.testBit j)) 12
def mulP (p r:Pau):Pau:=⟨p.x^^^r.x,p.z^^^r.z,(p.m !=r.m) !=decide (kP p r % 4=2)⟩
def ph0 (x z y:Nat):Int:=sumI (fun j=>eP (x.testBit j) (z.testBit j) (y.testBit j)) 12
theorem ph_mul (p r:Pau) (y:Nat):(phP r (y^^^p.x)+phP p y-(8*bi p.m+8*bi r.m+4*kP p r+ph0 (p.x^^^r.x) (p.z^^^r.z) y)) % 16=0:=by
 have h:∀j,(eP (r.x.testBit j) (r.z.testBit j) ((y^^^p.x).testBit j)+eP (p.x.testBit j) (p.z.testBit j) (y.testBit j)+(-4*kB (p.x.testBit j) (p.z.testBit j) (r.x.testBit j) (r.z.testBit j)+(-1)*eP ((p.x^^^r.x).testBit j) ((p.z^^^r.z).testBit j) (y.testBit j))) % 16=0:=by
  intro j
  rw [Nat.testBit_xor,Nat.testBit_xor,Nat.testBit_xor]
  generalize p.x.testBit j=a
  generalize p.z.testBit j=b
  generalize r.x.testBit j=c
  generalize r.z.testBit j=d
  generalize y.testBit j=e
  cases a<;>cases b<;>cases c<;>cases d<;>cases e<;>rfl
 have h2:=sumI_mod (m:=16) (by decide) h 12
 rw [Vo,Vo,Vo,VV,VV] at h2
 unfold phP kP ph0
 omega
theorem kP_par (p r:Pau):(kP p r-bi (sym 12 p r)) % 2=0:=by
 have h:∀j,(kB (p.x.testBit j) (p.z.testBit j) (r.x.testBit j) (r.z.testBit j)+(-1)*bi ((p.x.testBit j&&r.z.testBit j) !=(p.z.testBit j&&r.x.testBit j))) % 2=0:=by
  intro j
  generalize p.x.testBit j=a
  generalize p.z.testBit j=b
  generalize r.x.testBit j=c
  generalize r.z.testBit j=d
  cases a<;>cases b<;>cases c<;>cases d<;>rfl
 have h2:=sumI_mod (m:=2) (by decide) h 12
 rw [Vo,VV] at h2
 have h3:=sumI_par (fun j=>(p.x.testBit j&&r.z.testBit j) !=(p.z.testBit j&&r.x.testBit j)) 12
 unfold kP sym
 omega
theorem kP_swap (p r:Pau):(kP p r-kP r p-2*bi (sym 12 p r)) % 4=0:=by
 have h:∀j,(kB (p.x.testBit j) (p.z.testBit j) (r.x.testBit j) (r.z.testBit j)+((-1)*kB (r.x.testBit j) (r.z.testBit j) (p.x.testBit j) (p.z.testBit j)+(-2)*bi ((p.x.testBit j&&r.z.testBit j) !=(p.z.testBit j&&r.x.testBit j)))) % 4=0:=by
  intro j
  generalize p.x.testBit j=a
  generalize p.z.testBit j=b
  generalize r.x.testBit j=c
  generalize r.z.testBit j=d
  cases a<;>cases b<;>cases c<;>cases d<;>rfl
 have h2:=sumI_mod (m:=4) (by decide) h 12
 rw [Vo,Vo,VV,VV] at h2
 have h3:=sumI_par (fun j=>(p.x.testBit j&&r.z.testBit j) !=(p.z.testBit j&&r.x.testBit j)) 12
 unfold kP sym
 omega
theorem pau_pau (p r:Pau) (v:KV) (y:Nat):pauK p (pauK r v) y=turnZ (v (y^^^(p.x^^^r.x))) (8*bi p.m+8*bi r.m+4*kP p r+ph0 (p.x^^^r.x) (p.z^^^r.z) y):=by
 unfold pauK
 rw [kF,Nat.xor_assoc]
 exact kn _ (ph_mul p r y)
theorem mul_pau {p r:Pau} (h:sym 12 p r=false) (v:KV):pauK (mulP p r) v=pauK p (pauK r v):=by
 funext y
 rw [pau_pau]
 show turnZ (v (y^^^(p.x^^^r.x))) (8*bi ((p.m !=r.m) !=decide (kP p r % 4=2))+ph0 (p.x^^^r.x) (p.z^^^r.z) y)=_
 apply kn
 have h2:=kP_par p r
 rw [h] at h2
 have h3:kP p r % 4=0∨kP p r % 4=2:=by simp [bi] at h2;omega
 rcases h3 with h3 | h3
 ·rw [decide_eq_false (by omega)]
  cases p.m<;>cases r.m<;>simp [bi]<;>omega
 ·rw [decide_eq_true h3]
  cases p.m<;>cases r.m<;>simp [bi]<;>omega
theorem swap_pau (p r:Pau) (v:KV) (y:Nat):pauK p (pauK r v) y=turnZ (pauK r (pauK p v) y) (8*bi (sym 12 p r)):=by
 rw [pau_pau,pau_pau,kF,Nat.xor_comm r.x,Nat.xor_comm r.z]
 apply kn
 have:=kP_swap p r
 omega
theorem sym_mul (n:Nat) (p r w:Pau):sym n (mulP p r) w=(sym n p w !=sym n r w):=by
 unfold sym mulP
 induction n with
 | zero=>rfl
 | succ k ih=>
   simp only [parB] at ih ⊢
   rw [ih,Nat.testBit_xor,Nat.testBit_xor]
   generalize parB _ k=u
   generalize parB _ k=u'
   generalize p.x.testBit k=a
   generalize p.z.testBit k=b
   generalize r.x.testBit k=c
   generalize r.z.testBit k=d
   generalize w.x.testBit k=e
   generalize w.z.testBit k=f
   cases u<;>cases u'<;>cases a<;>cases b<;>cases c<;>cases d<;>cases e<;>cases f<;>rfl
theorem sym_self (n:Nat) (p:Pau):sym n p p=false:=YE fun j _=>by cases p.x.testBit j<;>cases p.z.testBit j<;>rfl
theorem sym_nil {n:Nat} {p:Pau} (hx:p.x=0) (hz:p.z=0) (r:Pau):sym n p r=false:=YE fun j _=>by rw [hx,hz,Nat.zero_testBit];rfl
theorem sym_xz {n:Nat} {p q:Pau} (hx:p.x=q.x) (hz:p.z=q.z) (r:Pau):sym n p r=sym n q r:=by unfold sym;rw [hx,hz]
theorem mul_fit {n:Nat} {p r:Pau} (hp:Fit n p) (hr:Fit n r):Fit n (mulP p r):=⟨Nat.xor_lt_two_pow hp.1 hr.1,Nat.xor_lt_two_pow hp.2 hr.2⟩
def Fx (p:Pau) (v:KV):Prop:=pauK p v=v
def SomeK (v:KV):Prop:=∃y,v y≠K.zero
theorem Fx.mul {p r:Pau} {v:KV} (hp:Fx p v) (hr:Fx r v) (h:sym 12 p r=false):Fx (mulP p r) v:=by
 unfold Fx
 rw [mul_pau h,hr,hp]
theorem Fx.comm {p r:Pau} {v:KV} (hp:Fx p v) (hr:Fx r v) (hv:SomeK v):sym 12 p r=false:=by
 obtain ⟨y,hy⟩:=hv
 have h:=swap_pau p r v y
 rw [hr,hp,hr] at h
 cases e:sym 12 p r with
 | false=>rfl
 | true=>
   rw [e] at h
   exact absurd (VR h) hy
theorem pau_triv (m:Bool) (v:KV):pauK ⟨0,0,m⟩ v=fun y=>turnZ (v y) (8*bi m):=by
 funext y
 unfold pauK phP
 rw [Uy fun j _=>by simp [eP,bi],Nat.xor_zero]
 simp
theorem Fx.triv {p:Pau} {v:KV} (hp:Fx p v) (hx:p.x=0) (hz:p.z=0) (hv:SomeK v):p.m=false:=by
 obtain ⟨y,hy⟩:=hv
 obtain ⟨x,z,m⟩:=p
 simp only at hx hz
 subst hx hz
 cases m with
 | false=>rfl
 | true=>
   have h:=congrFun hp y
   rw [pau_triv] at h
   exact absurd (VR h.symm) hy
theorem Fx.same {p r:Pau} {v:KV} (hp:Fx p v) (hr:Fx r v) (hx:p.x=r.x) (hz:p.z=r.z) (hv:SomeK v):p=r:=by
 have h1:sym 12 p r=false:=by rw [sym_xz hx hz];exact sym_self 12 r
 have h2:=(hp.mul hr h1).triv (by show p.x^^^r.x=0;rw [hx,Nat.xor_self]) (by show p.z^^^r.z=0;rw [hz,Nat.xor_self]) hv
 obtain ⟨y,hy⟩:=hv
 have e:=congrFun (hp.trans hr.symm) y
 have hv2:∀q:Pau,pauK ⟨q.x,q.z,true⟩ v y=turnZ (pauK ⟨q.x,q.z,false⟩ v y) 8:=fun q=>by
  unfold pauK
  rw [kF]
  apply kn
  show (8*bi true+_-(8*bi false+_+8)) % 16=0
  simp [bi]
  omega
 obtain ⟨a,b,m⟩:=p
 obtain ⟨c,d,m'⟩:=r
 simp only at hx hz
 subst hx hz
 have e1:=congrFun hp y
 have e2:=congrFun hr y
 cases m<;>cases m'
 ·rfl
 ·have:=hv2 ⟨a,b,true⟩
  rw [show pauK ⟨a,b,true⟩ v y=v y from e2,show pauK ⟨a,b,false⟩ v y=v y from e1] at this
  exact absurd (VR this) hy
 ·have:=hv2 ⟨a,b,true⟩
  rw [show pauK ⟨a,b,true⟩ v y=v y from e1,show pauK ⟨a,b,false⟩ v y=v y from e2] at this
  exact absurd (VR this) hy
 ·rfl
end Go.Ql
end

section
set_option maxHeartbeats 1000000
namespace Go.Ql
structure Tab (n:Nat) (f g:Nat→Pau) (v:KV):Prop where
 fF:∀i,i<n→Fit n (f i)
 gF:∀i,i<n→Fit n (g i)
 ff:∀i j,i<n→j<n→sym n (f i) (f j)=false
 fg:∀i j,i<n→j<n→sym n (f i) (g j)=decide (i=j)
 only:∀w,Fit n w→(∀i,i<n→sym n w (f i)=false∧sym n w (g i)=false)→w.x=0∧w.z=0
 fix:∀i,i<n→Fx (f i) v
 some:SomeK v
 far:∀y,2^n≤y→v y=K.zero
theorem zero_of {n x:Nat} (hx:x<2^n) (h:∀j,j<n→x.testBit j=false):x=0:=by
 apply Nat.eq_of_testBit_eq
 intro j
 rw [Nat.zero_testBit]
 by_cases hj:j<n
 ·exact h j hj
 ·exact Nat.testBit_lt_two_pow (Nat.lt_of_lt_of_le hx (Nat.pow_le_pow_right (by decide) (by omega)))
theorem ph_Zm {q:Nat} (hq:q<12) (m:Bool) (y:Nat):phP ⟨0,2^q,m⟩ y=8*bi m+8*bi (y.testBit q):=by
 have h:=ph_Z hq y
 unfold phP pZ at h
 unfold phP
 simp only [bi] at h ⊢
 simp only [Bool.toNat_false] at h
 omega
theorem pau_Zm {q:Nat} (hq:q<12) (m:Bool) (v:KV) (y:Nat):pauK ⟨0,2^q,m⟩ v y=turnZ (v y) (8*bi m+8*bi (y.testBit q)):=by
 unfold pauK
 rw [ph_Zm hq,Nat.xor_zero]
theorem Tab.begin {n:Nat} (hn:n≤12) {x:Nat} (hx:x<2^n):Tab n (fun q=>⟨0,2^q,x.testBit q⟩) pX (baK x) where
 fF:=fun i hi=>⟨Nat.two_pow_pos n,Nat.pow_lt_pow_right (by decide) hi⟩
 gF:=fun i hi=>⟨Nat.pow_lt_pow_right (by decide) hi,Nat.two_pow_pos n⟩
 ff:=fun i j hi hj=>by rw [HZ hi];exact Nat.zero_testBit _
 fg:=fun i j hi hj=>by
  rw [HZ hi]
  show (2^j).testBit i=_
  rw [UB]
  by_cases e:i=j
  ·rw [decide_eq_true e,decide_eq_true e.symm]
  ·rw [decide_eq_false e,decide_eq_false (Ne.symm e)]
 only:=fun w hw h=>⟨zero_of hw.1 fun j hj=>by
  have:=(h j hj).1
  rw [JK,HZ hj] at this
  exact this,zero_of hw.2 fun j hj=>by
  have:=(h j hj).2
  rw [JK] at this
  exact (sym_Xl hj false w).symm.trans this⟩
 fix:=fun i hi=>by
  funext y
  rw [pau_Zm (by omega)]
  unfold baK
  by_cases e:y=x
  ·rw [if_pos e,e]
   rw [UY]
   cases x.testBit i<;>rfl
  ·rw [if_neg e,Yp]
 some:=⟨x,by
  unfold baK
  rw [if_pos rfl]
  intro h
  exact absurd (congrArg K.c0 h) (by decide)⟩
 far:=baK_far hx
theorem inv_inv {n:Nat} {o:GOp} (h:StO n o):invO (invO o)=o:=by
 obtain ⟨k,K1,r⟩:=o
 have:=h.k
 simp only at this
 show (k,(16-(16-K1) % 16) % 16,r)=(k,K1,r)
 congr 2
 omega
theorem gate_nil (o:GOp):gateK o (fun _=>K.zero)=fun _=>K.zero:=by
 have h:=gate_lin o 8 (fun _=>K.zero)
 simp only [Yp] at h
 funext y
 exact VR (congrFun h y)
theorem gP_nil {o:GOp} {w:Pau} (hx:w.x=0) (hz:w.z=0):gP o w=w:=by
 have hb:∀j,Bare w j:=fun j=>⟨by rw [hx];exact Nat.zero_testBit _,by rw [hz];exact Nat.zero_testBit _⟩
 exact gP_none (hb _) fun c _=>hb _
theorem gP_fit {n:Nat} {o:GOp} (h:StO n o) {p:Pau} (hp:Fit n p):Fit n (gP o p):=gPs_fit (l:=[o]) (fun r hr=>by rw [List.mem_singleton.1 hr];exact h) hp
theorem Tab.gate {n:Nat} (hn:n≤12) {f g:Nat→Pau} {v:KV} (t:Tab n f g v) {o:GOp} (h:StO n o):Tab n (fun i=>gP o (f i)) (fun i=>gP o (g i)) (gateK o v) where
 fF:=fun i hi=>gP_fit h (t.fF i hi)
 gF:=fun i hi=>gP_fit h (t.gF i hi)
 ff:=fun i j hi hj=>by rw [Nj h];exact t.ff i j hi hj
 fg:=fun i j hi hj=>by rw [Nj h];exact t.fg i j hi hj
 only:=fun w hw hall=>by
  have e:gP o (gP (invO o) w)=w:=by
   have:=gP_inv (inv_StO h) w
   rw [inv_inv h] at this
   exact this
  have h0:=t.only (gP (invO o) w) (gP_fit (inv_StO h) hw) fun i hi=>by
   have h1:=hall i hi
   rw [←e,Nj h,Nj h] at h1
   exact h1
  have:w=gP (invO o) w:=by
   conv=>lhs;rw [←e]
   exact gP_nil h0.1 h0.2
  rw [this]
  exact h0
 fix:=fun i hi=>by
  show pauK (gP o (f i)) (gateK o v)=gateK o v
  rw [←gate_pau hn h,t.fix i hi]
 some:=by
  apply Classical.byContradiction
  intro hno
  have hz:gateK o v=fun _=>K.zero:=funext fun y=>Classical.byContradiction fun e=>hno ⟨y,e⟩
  have h1:=gate_back h v
  rw [hz,gate_nil] at h1
  obtain ⟨y,hy⟩:=t.some
  exact hy (congrFun h1 y).symm
 far:=gate_far h t.far
def outB (q:Nat) (b:Bool) (v:KV):KV:=fun y=>if y.testBit q=b then v y else K.zero
theorem out_pau {p:Pau} {q:Nat} (h:p.x.testBit q=false) (b:Bool) (v:KV):pauK p (outB q b v)=outB q b (pauK p v):=by
 funext y
 unfold pauK outB
 rw [Nat.testBit_xor,h,Bool.xor_false]
 split
 ·rfl
 ·exact Yp _
theorem sym_pZ {n q:Nat} (hq:q<n) (p:Pau):sym n p (pZ q)=p.x.testBit q:=by rw [JK];exact HZ hq false p
def mixP (a b:Pau):Pau:=⟨a.x^^^b.x,a.z^^^b.z,false⟩
theorem UX (n:Nat) (p r w:Pau):sym n (mixP p r) w=(sym n p w !=sym n r w):=(sym_xz (q:=mulP p r) rfl rfl w).trans (sym_mul n p r w)
theorem mix_fit {n:Nat} {p r:Pau} (hp:Fit n p) (hr:Fit n r):Fit n (mixP p r):=⟨Nat.xor_lt_two_pow hp.1 hr.1,Nat.xor_lt_two_pow hp.2 hr.2⟩
def mF (n a q:Nat) (b:Bool) (f:Nat→Pau) (i:Nat):Pau:=if i=a then ⟨0,2^q,b⟩ else if sym n (f i) (pZ q)=true then mulP (f i) (f a) else f i
def mG (n a q:Nat) (f g:Nat→Pau) (i:Nat):Pau:=if i=a then f a else if sym n (g i) (pZ q)=true then mixP (g i) (f a) else g i
theorem Na {n a q i:Nat} {b:Bool} {f:Nat→Pau} (hi:i≠a) (w:Pau):sym n (mF n a q b f i) w=(sym n (f i) w !=(sym n (f i) (pZ q)&&sym n (f a) w)):=by
 unfold mF
 rw [if_neg hi]
 cases h:sym n (f i) (pZ q) with
 | false=>rw [if_neg (by decide)];simp
 | true=>rw [if_pos rfl,sym_mul];simp
theorem sym_mG {n a q i:Nat} {f g:Nat→Pau} (hi:i≠a) (w:Pau):sym n (mG n a q f g i) w=(sym n (g i) w !=(sym n (g i) (pZ q)&&sym n (f a) w)):=by
 unfold mG
 rw [if_neg hi]
 cases h:sym n (g i) (pZ q) with
 | false=>rw [if_neg (by decide)];simp
 | true=>rw [if_pos rfl,UX];simp
theorem Hw {n a q:Nat} (hq:q<n) {b:Bool} {f:Nat→Pau} (w:Pau):sym n (mF n a q b f a) w=sym n (pZ q) w:=by
 unfold mF
 rw [if_pos rfl]
 exact sym_xz rfl rfl w
theorem Tab.measure {n:Nat} (hn:n≤12) {f g:Nat→Pau} {v:KV} (t:Tab n f g v) {a q:Nat} (ha:a<n) (hq:q<n) (hm:sym n (f a) (pZ q)=true) (b:Bool) :
 Tab n (mF n a q b f) (mG n a q f g) (outB q b v) where
 fF:=fun i hi=>by
  unfold mF
  split
  ·exact ⟨Nat.two_pow_pos n,Nat.pow_lt_pow_right (by decide) hq⟩
  ·split
   ·exact mul_fit (t.fF i hi) (t.fF a ha)
   ·exact t.fF i hi
 gF:=fun i hi=>by
  unfold mG
  split
  ·exact t.fF a ha
  ·split
   ·exact mix_fit (t.gF i hi) (t.fF a ha)
   ·exact t.gF i hi
 ff:=fun i j hi hj=>by
  by_cases e1:i=a
  ·subst e1
   rw [Hw hq]
   by_cases e2:j=i
   ·subst e2;rw [JK,Hw hq];exact sym_self _ _
   ·rw [JK,Na e2,hm]
    cases sym n (f j) (pZ q)<;>rfl
  ·rw [Na e1]
   by_cases e2:j=a
   ·subst e2
    rw [JK n (f i) (mF n j q b f j),JK n (f j) (mF n j q b f j),Hw hq,Hw hq,JK n (pZ q) (f i),JK n (pZ q) (f j),hm]
    cases sym n (f i) (pZ q)<;>rfl
   ·rw [JK n (f i) (mF n a q b f j),JK n (f a) (mF n a q b f j),Na e2,Na e2,t.ff j i hj hi,t.ff a i ha hi,t.ff j a hj ha,t.ff a a ha ha]
    simp
 fg:=fun i j hi hj=>by
  by_cases e1:i=a
  ·subst e1
   rw [Hw hq]
   by_cases e2:j=i
   ·subst e2
    unfold mG
    rw [if_pos rfl,JK,hm,decide_eq_true rfl]
   ·rw [JK,sym_mG e2,hm,decide_eq_false (Ne.symm e2)]
    cases sym n (g j) (pZ q)<;>rfl
  ·rw [Na e1]
   by_cases e2:j=a
   ·subst e2
    unfold mG
    rw [if_pos rfl,t.ff i j hi hj,t.ff j j hj hj,decide_eq_false e1]
    simp
   ·rw [JK n (f i) (mG n a q f g j),JK n (f a) (mG n a q f g j),sym_mG e2,sym_mG e2,JK n (g j) (f i),JK n (g j) (f a),t.fg i j hi hj,t.fg a j ha hj,t.ff a i ha hi,t.ff a a ha ha,decide_eq_false (Ne.symm e2)]
    (simp)
 only:=fun w hw hall=>by
  have hz:sym n w (pZ q)=false:=by
   have:=(hall a ha).1
   rw [JK,Hw hq,JK] at this
   exact this
  have hold:sym n w (f a)=false:=by
   have:=(hall a ha).2
   unfold mG at this
   rw [if_pos rfl] at this
   exact this
  have hf:∀i,i<n→sym n w (f i)=false:=fun i hi=>by
   by_cases e:i=a
   ·rw [e];exact hold
   ·have:=(hall i hi).1
    rw [JK,Na e,JK n (f a) w,hold,JK n (f i) w] at this
    simpa using this
  have hg:∀i,i<n→i≠a→sym n w (g i)=false:=fun i hi e=>by
   have:=(hall i hi).2
   rw [JK,sym_mG e,JK n (f a) w,hold,JK n (g i) w] at this
   simpa using this
  cases hga:sym n w (g a) with
  | false=>
    refine t.only w hw fun i hi=>⟨hf i hi,?_⟩
    by_cases e:i=a
    ·rw [e];exact hga
    ·exact hg i hi e
  | true=>
    have h0:=t.only (mixP w (f a)) (mix_fit hw (t.fF a ha)) fun i hi=>⟨by rw [UX,hf i hi,t.ff a i ha hi];rfl,by
     rw [UX,t.fg a i ha hi]
     by_cases e:a=i
     ·rw [←e,hga,decide_eq_true rfl];rfl
     ·rw [hg i hi (Ne.symm e),decide_eq_false e];rfl⟩
    have hx:sym n (mixP w (f a)) (pZ q)=false:=sym_nil h0.1 h0.2 _
    rw [UX,hz,hm] at hx
    cases hx
 fix:=fun i hi=>by
  unfold mF
  by_cases e:i=a
  ·rw [if_pos e]
   funext y
   rw [pau_Zm (by omega)]
   unfold outB
   split
   ·rename_i h
    rw [h,UY]
    cases b<;>rfl
   ·exact Yp _
  ·rw [if_neg e]
   cases hs:sym n (f i) (pZ q) with
   | false=>
     rw [if_neg (by decide)]
     rw [sym_pZ hq] at hs
     show pauK _ _=_
     rw [out_pau hs,t.fix i hi]
   | true=>
     rw [if_pos rfl]
     have hc:sym 12 (f i) (f a)=false:=by rw [Hv (t.fF i hi) hn];exact t.ff i a hi ha
     have hx:(mulP (f i) (f a)).x.testBit q=false:=by
      rw [sym_pZ hq] at hs hm
      show ((f i).x^^^(f a).x).testBit q=false
      rw [Nat.testBit_xor,hs,hm]
      rfl
     show pauK _ _=_
     rw [out_pau hx,(t.fix i hi).mul (t.fix a ha) hc]
 some:=by
  apply Classical.byContradiction
  intro hno
  have hz:∀y,y.testBit q=b→v y=K.zero:=fun y hy=>Classical.byContradiction fun e=>hno ⟨y,by unfold outB;rw [if_pos hy];exact e⟩
  obtain ⟨y,hy⟩:=t.some
  apply hy
  have h1:=congrFun (t.fix a ha) y
  unfold pauK at h1
  rw [←h1]
  by_cases e:y.testBit q=b
  ·exact absurd (hz y e) hy
  ·rw [hz (y^^^(f a).x) (by
    rw [sym_pZ hq] at hm
    rw [Nat.testBit_xor,hm]
    cases hyq:y.testBit q<;>cases b<;>simp [hyq] at e ⊢),Yp]
 far:=fun y hy=>by
  unfold outB
  rw [t.far y hy]
  split<;>rfl
def prodP (f:Nat→Pau) (T:Nat→Bool):Nat→Pau
 | 0=>⟨0,0,false⟩
 | k+1=>if T k=true then mulP (prodP f T k) (f k) else prodP f T k
theorem sym_prod (n:Nat) (f:Nat→Pau) (T:Nat→Bool) (w:Pau):∀k,sym n (prodP f T k) w=parB (fun i=>T i&&sym n (f i) w) k
 | 0=>sym_nil rfl rfl w
 | k+1=>by
   have h:=sym_prod n f T w k
   rw [prodP,parB,←h]
   cases e:T k with
   | false=>rw [if_neg (by decide)];simp
   | true=>rw [if_pos rfl,sym_mul];simp
theorem prod_fit {n:Nat} {f:Nat→Pau} {T:Nat→Bool}:∀{k},(∀i,i<k→Fit n (f i))→Fit n (prodP f T k)
 | 0,_=>⟨Nat.two_pow_pos n,Nat.two_pow_pos n⟩
 | k+1,h=>by
   have h1:=prod_fit (T:=T) fun i hi=>h i (Nat.lt_succ_of_lt hi)
   rw [prodP]
   split
   ·exact mul_fit h1 (h k (Nat.lt_succ_self k))
   ·exact h1
theorem Tab.prod {n:Nat} (hn:n≤12) {f g:Nat→Pau} {v:KV} (t:Tab n f g v) (T:Nat→Bool):∀{k},k≤n→Fx (prodP f T k) v
 | 0,_=>by
   show pauK _ _=_
   funext y
   rw [prodP,pau_triv]
   exact UY _ rfl
 | k+1,hk=>by
   have h1:=t.prod hn T (k:=k) (by omega)
   rw [prodP]
   split
   ·refine h1.mul (t.fix k (by omega)) ?_
    rw [Hv (prod_fit fun i hi=>t.fF i (by omega)) hn,sym_prod]
    exact YE fun i hi=>by rw [t.ff i k (by omega) (by omega),Bool.and_false]
   ·exact h1
theorem parB_pick (T:Nat→Bool) {j n:Nat} (hj:j<n):parB (fun i=>T i&&decide (i=j)) n=T j:=by
 rw [parB_one hj fun i hi=>by rw [decide_eq_false hi,Bool.and_false],decide_eq_true rfl,Bool.and_true]
theorem xor_nil {a b:Nat} (h:a^^^b=0):a=b:=by
 apply Nat.eq_of_testBit_eq
 intro j
 have e:=congrArg (fun x=>x.testBit j) h
 simp only [Nat.testBit_xor,Nat.zero_testBit] at e
 cases h1:a.testBit j<;>cases h2:b.testBit j<;>simp [h1,h2] at e ⊢
theorem Tab.span {n:Nat} {f g:Nat→Pau} {v:KV} (t:Tab n f g v) {w:Pau} (hw:Fit n w) (h:∀i,i<n→sym n w (f i)=false) :
 w.x=(prodP f (fun i=>sym n w (g i)) n).x∧w.z=(prodP f (fun i=>sym n w (g i)) n).z:=by
 have hp:Fit n (prodP f (fun i=>sym n w (g i)) n):=prod_fit t.fF
 have h0:=t.only (mixP w (prodP f (fun i=>sym n w (g i)) n)) (mix_fit hw hp) fun i hi=>⟨by
  rw [UX,h i hi,sym_prod,YE fun j hj=>by rw [t.ff j i hj hi,Bool.and_false]];rfl,by
  rw [UX,sym_prod,Vf (g:=fun j=>sym n w (g j)&&decide (j=i)) fun j hj=>by rw [t.fg j i hj hi],parB_pick _ hi]
  cases sym n w (g i)<;>rfl⟩
 have hx:w.x^^^(prodP f (fun i=>sym n w (g i)) n).x=0:=h0.1
 have hz:w.z^^^(prodP f (fun i=>sym n w (g i)) n).z=0:=h0.2
 exact ⟨xor_nil hx,xor_nil hz⟩
theorem Tab.given {n:Nat} (hn:n≤12) {f g:Nat→Pau} {v:KV} (t:Tab n f g v) {q:Nat} (hq:q<n) (h:∀i,i<n→sym n (f i) (pZ q)=false) (b:Bool) :
 ((prodP f (fun i=>sym n (g i) (pZ q)) n).m=b→outB q b v=v)∧((prodP f (fun i=>sym n (g i) (pZ q)) n).m≠b→outB q b v=fun _=>K.zero):=by
 have hZ:Fit n (pZ q):=pZ_fit hq
 obtain ⟨hx,hz⟩:=t.span hZ fun i hi=>by rw [JK];exact h i hi
 have hT:(fun i=>sym n (pZ q) (g i))=fun i=>sym n (g i) (pZ q):=funext fun i=>JK _ _ _
 rw [hT] at hx hz
 have hfx:=t.prod hn (fun i=>sym n (g i) (pZ q)) (Nat.le_refl n)
 generalize prodP f (fun i=>sym n (g i) (pZ q)) n=s at *
 obtain ⟨x,z,m⟩:=s
 simp only at hx hz ⊢
 have hx':0=x:=hx
 have hz':2^q=z:=hz
 subst hx' hz'
 have hv:∀y,y.testBit q≠m→v y=K.zero:=fun y hy=>by
  have e:=congrFun hfx y
  rw [pau_Zm (by omega)] at e
  have e8:turnZ (v y) 8=v y:=by
   refine Eq.trans (kn _ ?_) e
   cases m<;>cases hq:y.testBit q<;>simp [hq,bi] at hy ⊢
  exact VR e8.symm
 constructor
 ·rintro rfl
  funext y
  unfold outB
  split
  ·rfl
  ·rename_i hy;exact (hv y hy).symm
 ·intro hne
  funext y
  unfold outB
  split
  ·rename_i hy;exact hv y (by rw [hy];exact Ne.symm hne)
  ·rfl
end Go.Ql
end

section
set_option maxHeartbeats 1000000
namespace Go.Ql
def TabE (n:Nat) (f:Nat→Pau) (v:KV):Prop:=∃g,Tab n f g v
def updF {α:Type} (f:Nat→α) (i:Nat) (p:α):Nat→α:=fun j=>if j=i then p else f j
theorem Ym {α:Type} (f:Nat→α) (i:Nat) (p:α):updF f i p i=p:=if_pos rfl
theorem Ye {α:Type} (f:Nat→α) {i j:Nat} (p:α) (h:j≠i):updF f i p j=f j:=if_neg h
theorem Tab.row {n:Nat} (hn:n≤12) {f g:Nat→Pau} {v:KV} (t:Tab n f g v) {i d:Nat} (hi:i<n) (hd:d<n) (hid:i≠d) :
 Tab n (updF f i (mulP (f i) (f d))) (updF g d (mixP (g d) (g i))) v:=by
 have sF:∀j w,sym n (updF f i (mulP (f i) (f d)) j) w=(sym n (f j) w !=(decide (j=i)&&sym n (f d) w)):=fun j w=>by
  by_cases e:j=i
  ·subst e;rw [Ym,sym_mul,decide_eq_true rfl,Bool.true_and]
  ·rw [Ye _ _ e,decide_eq_false e];simp
 have sG:∀j w,sym n (updF g d (mixP (g d) (g i)) j) w=(sym n (g j) w !=(decide (j=d)&&sym n (g i) w)):=fun j w=>by
  by_cases e:j=d
  ·subst e;rw [Ym,UX,decide_eq_true rfl,Bool.true_and]
  ·rw [Ye _ _ e,decide_eq_false e];simp
 refine ⟨fun j hj=>?_,fun j hj=>?_,fun j k hj hk=>?_,fun j k hj hk=>?_,fun w hw h=>?_,fun j hj=>?_,t.some,t.far⟩
 ·by_cases e:j=i
  ·subst e;rw [Ym];exact mul_fit (t.fF j hj) (t.fF d hd)
  ·rw [Ye _ _ e];exact t.fF j hj
 ·by_cases e:j=d
  ·subst e;rw [Ym];exact mix_fit (t.gF j hj) (t.gF i hi)
  ·rw [Ye _ _ e];exact t.gF j hj
 ·rw [sF,JK n (f j),JK n (f d),sF,sF,t.ff k j hk hj,t.ff d j hd hj,t.ff k d hk hd,t.ff d d hd hd]
  simp
 ·rw [sF,JK n (f j),JK n (f d),sG,sG,JK n (g k) (f j),JK n (g i) (f j),JK n (g k) (f d),JK n (g i) (f d),t.fg j k hj hk,t.fg j i hj hi,t.fg d k hd hk,t.fg d i hd hi]
  rw [decide_eq_false (Ne.symm hid)]
  by_cases e1:j=k
  ·subst e1
   rw [decide_eq_true rfl]
   by_cases e2:j=i
   ·subst e2
    rw [decide_eq_true rfl,decide_eq_false (Ne.symm hid),decide_eq_false hid];rfl
   ·rw [decide_eq_false e2];simp
  ·rw [decide_eq_false e1]
   by_cases e2:j=i
   ·subst e2
    rw [decide_eq_true rfl]
    by_cases e3:k=d
    ·subst e3;rw [decide_eq_true rfl];rfl
    ·rw [decide_eq_false e3,decide_eq_false (Ne.symm e3)];rfl
   ·rw [decide_eq_false e2];simp
 ·have hf:∀j,j<n→(sym n w (f j) !=(decide (j=i)&&sym n w (f d)))=false:=fun j hj=>by
   have:=(h j hj).1
   rw [JK,sF,JK n (f j),JK n (f d)] at this
   exact this
  have hg:∀j,j<n→(sym n w (g j) !=(decide (j=d)&&sym n w (g i)))=false:=fun j hj=>by
   have:=(h j hj).2
   rw [JK,sG,JK n (g j),JK n (g i)] at this
   exact this
  have h1:=hf d hd
  rw [decide_eq_false (Ne.symm hid),Bool.false_and,Bool.bne_false] at h1
  have h2:=hg i hi
  rw [decide_eq_false hid,Bool.false_and,Bool.bne_false] at h2
  refine t.only w hw fun j hj=>⟨?_,?_⟩
  ·have:=hf j hj;rw [h1,Bool.and_false,Bool.bne_false] at this;exact this
  ·have:=hg j hj;rw [h2,Bool.and_false,Bool.bne_false] at this;exact this
 ·by_cases e:j=i
  ·subst e
   rw [Ym]
   exact (t.fix j hj).mul (t.fix d hd) (by rw [Hv (t.fF j hj) hn];exact t.ff j d hj hd)
  ·rw [Ye _ _ e];exact t.fix j hj
def tr (a d i:Nat):Nat:=if i=a then d else if i=d then a else i
theorem tr_lt {n a d i:Nat} (ha:a<n) (hd:d<n) (hi:i<n):tr a d i<n:=by unfold tr;split;exact hd;split;exact ha;exact hi
theorem tr_tr (a d i:Nat):tr a d (tr a d i)=i:=by
 unfold tr
 by_cases h1:i=a
 ·rw [if_pos h1]
  by_cases h2:d=a
  ·rw [if_pos h2,h1,h2]
  ·rw [if_neg h2,if_pos rfl,h1]
 ·rw [if_neg h1]
  by_cases h2:i=d
  ·rw [if_pos h2,if_pos rfl,h2]
  ·rw [if_neg h2,if_neg h1,if_neg h2]
theorem Tab.swap {n:Nat} {f g:Nat→Pau} {v:KV} (t:Tab n f g v) {a d:Nat} (ha:a<n) (hd:d<n):Tab n (fun i=>f (tr a d i)) (fun i=>g (tr a d i)) v where
 fF:=fun i hi=>t.fF _ (tr_lt ha hd hi)
 gF:=fun i hi=>t.gF _ (tr_lt ha hd hi)
 ff:=fun i j hi hj=>t.ff _ _ (tr_lt ha hd hi) (tr_lt ha hd hj)
 fg:=fun i j hi hj=>by
  rw [t.fg _ _ (tr_lt ha hd hi) (tr_lt ha hd hj)]
  by_cases e:i=j
  ·rw [e,decide_eq_true rfl,decide_eq_true rfl]
  ·rw [decide_eq_false e,decide_eq_false fun h=>e (by rw [←tr_tr a d i,h,tr_tr])]
 only:=fun w hw h=>t.only w hw fun i hi=>by
  have:=h (tr a d i) (tr_lt ha hd hi)
  rw [tr_tr] at this
  exact this
 fix:=fun i hi=>t.fix _ (tr_lt ha hd hi)
 some:=t.some
 far:=t.far
def hasP (n c:Nat) (p:Pau):Bool:=if c<n then p.x.testBit c else p.z.testBit (c-n)
theorem has_mul (n c:Nat) (p r:Pau):hasP n c (mulP p r)=(hasP n c p !=hasP n c r):=by
 unfold hasP mulP
 simp only
 rw [Nat.testBit_xor,Nat.testBit_xor]
 split
 ·cases p.x.testBit c<;>cases r.x.testBit c<;>rfl
 ·cases p.z.testBit (c-n)<;>cases r.z.testBit (c-n)<;>rfl
theorem has_xz {n c:Nat} {p r:Pau} (hx:p.x=r.x) (hz:p.z=r.z):hasP n c p=hasP n c r:=by unfold hasP;rw [hx,hz]
theorem has_nil (n c:Nat) (m:Bool):hasP n c ⟨0,0,m⟩=false:=by
 unfold hasP
 split<;>exact Nat.zero_testBit _
theorem has_prod (n c:Nat) (f:Nat→Pau) (T:Nat→Bool):∀k,hasP n c (prodP f T k)=parB (fun i=>T i&&hasP n c (f i)) k
 | 0=>has_nil n c false
 | k+1=>by
   have h:=has_prod n c f T k
   rw [prodP,parB,←h]
   cases e:T k with
   | false=>rw [if_neg (by decide)];simp
   | true=>rw [if_pos rfl,has_mul];simp
def elF (n d c k:Nat) (f:Nat→Pau) (i:Nat):Pau:=if i<k∧i≠d∧hasP n c (f i)=true then mulP (f i) (f d) else f i
theorem elF_zero (n d c:Nat) (f:Nat→Pau):elF n d c 0 f=f:=funext fun i=>if_neg fun h=>absurd h.1 (Nat.not_lt_zero _)
theorem elF_d (n d c k:Nat) (f:Nat→Pau):elF n d c k f d=f d:=if_neg fun h=>h.2.1 rfl
theorem Nf {n d c k i:Nat} (f:Nat→Pau) (h:k≤i):elF n d c k f i=f i:=if_neg fun e=>absurd e.1 (by omega)
theorem elF_succ (n d c k:Nat) (f:Nat→Pau):elF n d c (k+1) f=if k≠d∧hasP n c (f k)=true then updF (elF n d c k f) k (mulP (elF n d c k f k) (elF n d c k f d)) else elF n d c k f:=by
 rw [elF_d,Nf f (Nat.le_refl k)]
 funext i
 by_cases e:i=k
 ·subst e
  by_cases h:i≠d∧hasP n c (f i)=true
  ·rw [if_pos h,Ym];exact if_pos ⟨Nat.lt_succ_self i,h⟩
  ·rw [if_neg h,Nf f (Nat.le_refl i)];exact if_neg fun x=>h x.2
 ·have h1:elF n d c (k+1) f i=elF n d c k f i:=by
   unfold elF
   by_cases h:i<k∧i≠d∧hasP n c (f i)=true
   ·rw [if_pos h,if_pos ⟨by omega,h.2⟩]
   ·rw [if_neg h,if_neg fun x=>h ⟨by omega,x.2⟩]
  rw [h1]
  split
  ·rw [Ye _ _ e]
  ·rfl
theorem TabE.el {n:Nat} (hn:n≤12) {f:Nat→Pau} {v:KV} (t:TabE n f v) {d:Nat} (hd:d<n) (c:Nat):∀{k},k≤n→TabE n (elF n d c k f) v
 | 0,_=>by rw [elF_zero];exact t
 | k+1,hk=>by
   obtain ⟨g,h⟩:=t.el hn hd c (k:=k) (by omega)
   rw [elF_succ]
   split
   ·rename_i e
    exact ⟨_,h.row hn (by omega) hd e.1⟩
   ·exact ⟨g,h⟩
structure Red (n col d:Nat) (f:Nat→Pau) (c:Nat→Nat):Prop where
 dn:d≤n
 lt:∀j,j<d→c j<col
 up:∀j k,j<k→k<d→c j<c k
 piv:∀i j,i<n→j<d→hasP n (c j) (f i)=decide (i=j)
 low:∀i,i<n→d≤i → ∀k,k<col→hasP n k (f i)=false
 lead:∀i,i<d → ∀k,k<c i→hasP n k (f i)=false
theorem Red.zero (n:Nat) (f:Nat→Pau) (c:Nat→Nat):Red n 0 0 f c:=⟨Nat.zero_le n,fun j h=>absurd h (Nat.not_lt_zero _),fun j k _ h=>absurd h (Nat.not_lt_zero _),fun i j _ h=>absurd h (Nat.not_lt_zero _),fun i _ _ k h=>absurd h (Nat.not_lt_zero _),fun i h=>absurd h (Nat.not_lt_zero _)⟩
theorem Red.none {n col d:Nat} {f:Nat→Pau} {c:Nat→Nat} (r:Red n col d f c) (h:∀i,d≤i→i<n→hasP n col (f i)=false):Red n (col+1) d f c:=
 ⟨r.dn,fun j hj=>Nat.lt_succ_of_lt (r.lt j hj),r.up,r.piv,fun i hi hd k hk=>by
  by_cases e:k=col
  ·rw [e];exact h i hd hi
  ·exact r.low i hi hd k (by omega),r.lead⟩
theorem Red.some {n col d:Nat} {f:Nat→Pau} {c:Nat→Nat} (r:Red n col d f c) {a:Nat} (hda:d≤a) (ha:a<n) (hh:hasP n col (f a)=true) :
 Red n (col+1) (d+1) (elF n d col n fun i=>f (tr d a i)) (updF c d col):=by
 have hF:∀i,i<n→i≠d → ∀k,k<col→hasP n k (elF n d col n (fun i=>f (tr d a i)) i)=hasP n k (f (tr d a i)):=fun i hi hid k hk=>by
  unfold elF
  split
  ·rw [has_mul]
   have:hasP n k (f (tr d a d))=false:=by
    unfold tr;rw [if_pos rfl];exact r.low a ha hda k hk
   simp only
   rw [this,Bool.bne_false]
  ·rfl
 have hD:elF n d col n (fun i=>f (tr d a i)) d=f a:=by
  rw [elF_d];unfold tr;rw [if_pos rfl]
 have htr:∀i,i<d→tr d a i=i:=fun i hi=>by unfold tr;rw [if_neg (by omega),if_neg (by omega)]
 have hge:∀i,d≤i→d≤tr d a i:=fun i hi=>by unfold tr;split;exact hda;split;exact Nat.le_refl d;exact hi
 have hcol:∀i,i<n→hasP n col (elF n d col n (fun i=>f (tr d a i)) i)=decide (i=d):=fun i hi=>by
  by_cases e:i=d
  ·subst e;rw [hD,hh,decide_eq_true rfl]
  ·rw [decide_eq_false e]
   have:f (tr d a d)=f a:=by unfold tr;rw [if_pos rfl]
   unfold elF
   cases hc:hasP n col (f (tr d a i)) with
   | true=>
     rw [if_pos ⟨hi,e,rfl⟩,has_mul]
     show (hasP n col (f (tr d a i)) !=hasP n col (f (tr d a d)))=false
     rw [this,hc,hh];rfl
   | false=>rw [if_neg fun x=>absurd x.2.2 (by decide)];exact hc
 refine ⟨Nat.lt_of_le_of_lt hda ha,fun j hj=>?_,fun j k hjk hk=>?_,fun i j hi hj=>?_,fun i hi hd k hk=>?_,fun i hi k hk=>?_⟩
 ·by_cases e:j=d
  ·subst e;rw [Ym];omega
  ·rw [Ye _ _ e];have:=r.lt j (by omega);omega
 ·rw [Ye _ _ (show j≠d by omega)]
  by_cases e:k=d
  ·subst e;rw [Ym];exact r.lt j hjk
  ·rw [Ye _ _ e];exact r.up j k hjk (by omega)
 ·by_cases e:j=d
  ·subst e;rw [Ym];exact hcol i hi
  ·rw [Ye _ _ e]
   have hjd:j<d:=by omega
   have hjc:=r.lt j hjd
   by_cases e2:i=d
   ·subst e2
    rw [hD,r.low a ha hda _ hjc,decide_eq_false (by omega)]
   ·rw [hF i hi e2 _ hjc]
    by_cases e3:i<d
    ·rw [htr i e3];exact r.piv i j hi hjd
    ·rw [r.low _ (tr_lt (by omega) ha hi) (hge i (by omega)) _ hjc,decide_eq_false (by omega)]
 ·by_cases e:k=col
  ·subst e;rw [hcol i hi,decide_eq_false (by omega)]
  ·rw [hF i hi (by omega) k (by omega)]
   exact r.low _ (tr_lt (by omega) ha hi) (hge i (by omega)) k (by omega)
 ·by_cases e:i=d
  ·subst e
   rw [Ym] at hk
   rw [hD]
   exact r.low a ha hda k hk
  ·rw [Ye _ _ e] at hk
   have hid:i<d:=by omega
   have:=r.lt i hid
   have:=r.dn
   rw [hF i (by omega) e k (by omega),htr i hid]
   exact r.lead i hid k hk
theorem Red.done {n d:Nat} {f:Nat→Pau} {c:Nat→Nat} {v:KV} (r:Red n (2*n) d f c) (t:TabE n f v):d=n:=by
 obtain ⟨g,t⟩:=t
 apply Classical.byContradiction
 intro hne
 have hd:d<n:=by have:=r.dn;omega
 have hb:=r.low d hd (Nat.le_refl d)
 have hx:(f d).x=0:=zero_of (t.fF d hd).1 fun j hj=>by
  have:=hb j (by omega)
  unfold hasP at this
  rw [if_pos hj] at this
  exact this
 have hz:(f d).z=0:=zero_of (t.fF d hd).2 fun j hj=>by
  have:=hb (j+n) (by omega)
  unfold hasP at this
  rw [if_neg (by omega),Nat.add_sub_cancel] at this
  exact this
 have:=t.fg d d hd hd
 rw [sym_nil hx hz,decide_eq_true rfl] at this
 cases this
theorem prod_congr {f:Nat→Pau} {T U:Nat→Bool}:∀{k},(∀i,i<k→T i=U i)→prodP f T k=prodP f U k
 | 0,_=>rfl
 | k+1,h=>by rw [prodP,prodP,prod_congr fun i hi=>h i (Nat.lt_succ_of_lt hi),h k (Nat.lt_succ_self k)]
theorem Red.prod {n:Nat} (hn:n≤12) {f:Nat→Pau} {c:Nat→Nat} {v:KV} (r:Red n (2*n) n f c) (t:TabE n f v) {p:Pau} (hp:Fit n p) (hx:Fx p v):p=prodP f (fun j=>hasP n (c j) p) n:=by
 obtain ⟨g,t⟩:=t
 obtain ⟨h1,h2⟩:=t.span hp fun i hi=>by rw [←Hv hp hn];exact hx.comm (t.fix i hi) t.some
 have e:prodP f (fun i=>sym n p (g i)) n=prodP f (fun j=>hasP n (c j) p) n:=prod_congr fun j hj=>by
  rw [has_xz h1 h2,has_prod,Vf (g:=fun i=>sym n p (g i)&&decide (i=j)) fun i hi=>by rw [r.piv i j hi hj],parB_pick _ hj]
 rw [e] at h1 h2
 exact hx.same (t.prod hn _ (Nat.le_refl n)) h1 h2 t.some
theorem Red.same {n:Nat} (hn:n≤12) {f:Nat→Pau} {c:Nat→Nat} {v:KV} (r:Red n (2*n) n f c) (t:TabE n f v) {p q:Pau} (hp:Fit n p) (hq:Fit n q) (hx:Fx p v) (hy:Fx q v) (h:∀j,j<n→hasP n (c j) p=hasP n (c j) q):p=q:=by
 rw [r.prod hn t hp hx,r.prod hn t hq hy]
 exact prod_congr h
theorem Red.first {n:Nat} (hn:n≤12) {f:Nat→Pau} {c:Nat→Nat} {v:KV} (r:Red n (2*n) n f c) (t:TabE n f v) {p:Pau} (hp:Fit n p) (hx:Fx p v) {k:Nat} (hk:hasP n k p=true) (hl:∀j,j<k→hasP n j p=false) :
 ∃j,j<n∧k=c j∧(∀i,i<j→hasP n (c i) p=false)∧hasP n (c j) p=true:=by
 have e:=r.prod hn t hp hx
 have hex:∃j,j<n∧hasP n (c j) p=true:=by
  apply Classical.byContradiction
  intro hno
  rw [e,has_prod,YE fun j hj=>by
   cases h:hasP n (c j) p with
   | false=>rfl
   | true=>exact absurd ⟨j,hj,h⟩ hno] at hk
  cases hk
 obtain ⟨j,hj,hmin⟩:∃j,(j<n∧hasP n (c j) p=true) ∧ ∀i,i<j → ¬(i<n∧hasP n (c i) p=true):=by
  obtain ⟨j0,h0⟩:=hex
  induction j0 using Nat.strongRecOn with
  | ind j0 ih=>
    by_cases h:∃i,i<j0∧(i<n∧hasP n (c i) p=true)
    ·obtain ⟨i,h1,h2⟩:=h
     exact ih i h1 h2
    ·exact ⟨j0,h0,fun i hi hc=>h ⟨i,hi,hc⟩⟩
 have hlow:∀i,i<j→hasP n (c i) p=false:=fun i hi=>by
  cases h:hasP n (c i) p with
  | false=>rfl
  | true=>exact absurd ⟨by omega,h⟩ (hmin i hi)
 refine ⟨j,hj.1,?_,hlow,hj.2⟩
 have hge:∀m,m<c j→hasP n m p=false:=fun m hm=>by
  rw [e,has_prod]
  refine YE fun i hi=>?_
  by_cases h1:i<j
  ·rw [hlow i h1,Bool.false_and]
  ·rw [r.lead i hi m (by
    by_cases h2:i=j
    ·rw [h2];exact hm
    ·have:=r.up j i (by omega) hi
     omega),Bool.and_false]
 apply Nat.le_antisymm
 ·apply Nat.le_of_not_lt
  intro h
  rw [hl _ h] at hj
  exact absurd hj.2 (by decide)
 ·apply Nat.le_of_not_lt
  intro h
  rw [hge _ h] at hk
  exact absurd hk (by decide)
end Go.Ql
end

section
set_option maxHeartbeats 1000000
namespace Go.Ql
abbrev L3p:=List (Int×Int×Bool)
def lst (n:Nat) (f:Nat→Pau):L3p:=(List.range n).map fun i=>pe (f i)
theorem kV (n:Nat) (f:Nat→Pau):(lst n f).length=n:=by simp [lst]
theorem kU {n i:Nat} (f:Nat→Pau) (h:i<n):idx (lst n f) (i:Int)=some (pe (f i)):=by
 rw [JN (by rw [kV];exact h)]
 simp [lst]
theorem Yk {n i:Nat} (f:Nat→Pau) (h:i<n):inR (List.length (lst n f)) (i:Int)=some ():=by
 rw [kV]
 exact Jq (by simp only [Bool.and_eq_true,decide_eq_true_eq];omega)
theorem lst_set {n i:Nat} (f:Nat→Pau) (p:Pau) (h:i<n):(lst n f).set i (pe p)=lst n (updF f i p):=by
 apply List.ext_getElem
 ·rw [List.length_set,kV,kV]
 ·intro j h1 h2
  simp only [lst,List.getElem_set,List.getElem_map,List.getElem_range]
  by_cases e:i=j
  ·subst e;rw [if_pos rfl,Ym]
  ·rw [if_neg e,Ye _ _ (Ne.symm e)]
theorem Vv {n:Nat} {f g:Nat→Pau} (h:∀i,i<n→f i=g i):lst n f=lst n g:=by
 unfold lst
 apply List.map_congr_left
 intro i hi
 rw [h i (List.mem_range.1 hi)]
theorem lst_succ (n:Nat) (f:Nat→Pau):lst (n+1) f=lst n f++[pe (f n)]:=by
 unfold lst
 rw [List.range_succ,List.map_append]
 rfl
theorem ones_cnt:∀x y:Fin 64,W.JD ((x.val*64+y.val:Nat):Int)=some (sumI (fun j=>bi ((x.val*64+y.val).testBit j)) 12):=by decide +kernel
def cnt (x:Nat):Int:=sumI (fun j=>bi (x.testBit j)) 12
theorem Ht {x:Nat} (h:x<4096):W.JD (x:Int)=some (cnt x):=by
 have:=ones_cnt ⟨x / 64,by omega⟩ ⟨x % 64,by omega⟩
 simp only [show x / 64*64+x % 64=x by omega] at this
 exact this
theorem sumI_bnd {f:Nat→Int} {a b:Int} (h:∀j,a≤f j∧f j≤b):∀k:Nat,(k:Int)*a≤sumI f k∧sumI f k≤(k:Int)*b
 | 0=>by simp [sumI]
 | k+1=>by
   have h1:=sumI_bnd h k
   have h2:=h k
   rw [sumI,Int.natCast_succ,Int.add_mul,Int.add_mul,Int.one_mul,Int.one_mul]
   omega
theorem bi_01 (b:Bool):0≤bi b∧bi b≤1:=by cases b<;>simp [bi]
theorem Hq (x:Nat):0≤cnt x∧cnt x≤12:=by
 have:=sumI_bnd (fun j=>bi_01 (x.testBit j)) 12
 unfold cnt
 omega
theorem and3_all:∀k:Fin 128,ibits .and .i64 ((k.val:Int)-64) 3=((k.val:Int)-64) % 4:=by decide +kernel
theorem and3 {k:Int} (h:-64≤k∧k<64):ibits .and .i64 k 3=k % 4:=by
 have:=and3_all ⟨(k+64).toNat,by omega⟩
 simp only [show (((k+64).toNat:Nat):Int)-64=k by omega] at this
 exact this
theorem and1_all:∀k:Fin 64,ibits .and .i64 (k.val:Int) 1=(k.val:Int) % 2:=by decide +kernel
theorem and1 {k:Int} (h:0≤k∧k<64):ibits .and .i64 k 1=k % 2:=by
 have:=and1_all ⟨k.toNat,by omega⟩
 simp only [show ((k.toNat:Nat):Int)=k by omega] at this
 exact this
theorem HP {a b:Nat} (h:a<4096):a &&& b<4096:=Nat.lt_of_le_of_lt Nat.and_le_left h
theorem kP_cnt (p r:Pau):kP p r=cnt (p.x &&& p.z)+cnt (r.x &&& r.z)+2*cnt (p.z &&& r.x)-cnt ((p.x^^^r.x) &&& (p.z^^^r.z)):=by
 unfold kP cnt
 rw [sumI_congr (g:=fun j=>bi ((p.x &&& p.z).testBit j)+(bi ((r.x &&& r.z).testBit j)+(2*bi ((p.z &&& r.x).testBit j)+(-1)*bi (((p.x^^^r.x) &&& (p.z^^^r.z)).testBit j)))) fun j _=>by
  unfold kB
  simp only [Nat.testBit_and,Nat.testBit_xor]
  generalize p.x.testBit j=a
  generalize p.z.testBit j=b
  generalize r.x.testBit j=c
  generalize r.z.testBit j=d
  cases a<;>cases b<;>cases c<;>cases d<;>rfl]
 rw [Vo,Vo,Vo,VV,VV]
 omega
theorem Sm_mul {p r:Pau} (hp:Sm p) (hr:Sm r):Sm (mulP p r):=⟨Nat.xor_lt_two_pow (n:=12) hp.1 hr.1,Nat.xor_lt_two_pow (n:=12) hp.2 hr.2⟩
theorem ptimes_ok {p r:Pau} (hp:Sm p) (hr:Sm r):W.jU (pe p) (pe r)=some (pe (mulP p r)):=by
 have hm:=Sm_mul hp hr
 obtain ⟨p1,p2⟩:=hp
 obtain ⟨r1,r2⟩:=hr
 have m1:p.x^^^r.x<4096:=hm.1
 have m2:p.z^^^r.z<4096:=hm.2
 have c1:=Hq (p.x &&& p.z)
 have c2:=Hq (r.x &&& r.z)
 have c3:=Hq (p.z &&& r.x)
 have c4:=Hq ((p.x^^^r.x) &&& (p.z^^^r.z))
 unfold W.jU W.jU.c1 pe
 simp only
 rw [Uc (by omega) (by omega),Uc (by omega) (by omega),Uc (by omega) (by omega),Hg (by omega) (by omega),Hg (by omega) (by omega),Uc (by omega) (by omega),Ht (HP p1),Ht (HP r1),Ht (HP p2),Ht (HP m1)]
 simp only [ji]
 rw [jH (x:=(2:Int)*_) (by omega),jH (x:=cnt (p.x &&& p.z)+_) (by omega),jH (x:=cnt (p.x &&& p.z)+cnt (r.x &&& r.z)+_) (by omega),jH (by omega),and3 (by omega),←kP_cnt]
 unfold mulP
 simp only
 congr 3
theorem parB_bne (f g:Nat→Bool):∀k,parB (fun j=>f j !=g j) k=(parB f k !=parB g k)
 | 0=>rfl
 | k+1=>by
   rw [parB,parB,parB,parB_bne f g k]
   cases parB f k<;>cases parB g k<;>cases f k<;>cases g k<;>rfl
theorem cnt_par (x:Nat):cnt x % 2=bi (parB (fun j=>x.testBit j) 12):=by
 have h:=sumI_par (fun j=>x.testBit j) 12
 have h2:=bi_01 (parB (fun j=>x.testBit j) 12)
 unfold cnt
 omega
theorem pmeets_ok {p r:Pau} (hp:Sm p) (hr:Sm r):W.jL (pe p) (pe r)=some (sym 12 p r):=by
 obtain ⟨p1,p2⟩:=hp
 obtain ⟨r1,r2⟩:=hr
 have c1:=Hq (p.x &&& r.z)
 have c2:=Hq (p.z &&& r.x)
 unfold W.jL W.jL.c1 pe
 simp only
 rw [Uc (by omega) (by omega),Uc (by omega) (by omega),Ht (HP p1),Ht (HP p2)]
 simp only [ji]
 rw [and1 (by omega),and1 (by omega),cnt_par,cnt_par]
 unfold sym
 rw [show (fun j=>((p.x.testBit j&&r.z.testBit j) !=(p.z.testBit j&&r.x.testBit j)))=fun j=>((p.x &&& r.z).testBit j !=(p.z &&& r.x).testBit j) from funext fun j=>by rw [Nat.testBit_and,Nat.testBit_and],parB_bne]
 generalize parB _ 12=a
 generalize parB _ 12=b
 cases a<;>cases b<;>rfl
theorem mixed_ok {p r:Pau} (hp:Sm p) (hr:Sm r):W.kl (pe p) (pe r)=some (pe (mixP p r)):=by
 obtain ⟨p1,p2⟩:=hp
 obtain ⟨r1,r2⟩:=hr
 unfold W.kl pe
 simp only
 rw [Hg (by omega) (by omega),Hg (by omega) (by omega)]
 rfl
theorem bit_in {x q:Nat} (hx:x<4096) (hq:q<12):ibits .and .i64 (Int.fdiv (x:Int) ((2:Int)^Min.min (Int.toNat (q:Int)) 64)) 1=((x.testBit q).toNat:Int):=by
 rw [Int.toNat_natCast,Nat.min_eq_left (by omega),show ((2:Int)^q)=((2^q:Nat):Int) by simp,Int.fdiv_eq_ediv_of_nonneg _ (Int.natCast_nonneg _),←Int.natCast_ediv]
 have h:=and3_all
 have hlt:x / 2^q<4096:=Nat.lt_of_le_of_lt (Nat.div_le_self _ _) hx
 have e:(x.testBit q)=decide ((x / 2^q) % 2=1):=by rw [Nat.testBit_eq_decide_div_mod_eq]
 rw [e]
 generalize x / 2^q=y at hlt
 show IntKind.i64.wrap (((BitVec.ofInt 64 (y:Int) &&& BitVec.ofInt 64 ((1:Nat):Int)).toNat:Nat):Int)=_
 simp only [Vq,BitVec.toNat_and,BitVec.toNat_ofNat]
 rw [Nat.mod_eq_of_lt (by omega),show (1:Nat) % 2^64=1 by decide,Nat.and_one_is_mod]
 rw [jH (by omega)]
 have:y % 2=0∨y % 2=1:=by omega
 rcases this with h | h<;>rw [h]<;>rfl
theorem begin_ok {n:Nat} (hn:n≤12) {x:Nat} (hx:x<4096):W.jI (n:Int) (x:Int)=some ((n:Int),lst n (fun q=>⟨0,2^q,x.testBit q⟩),lst n pX,()):=by
 unfold W.jI
 refine jr (kD n (fun k=>((k:Int),lst k (fun q=>⟨0,2^q,x.testBit q⟩),lst k pX)) ((n:Int),lst n (fun q=>⟨0,2^q,x.testBit q⟩),lst n pX) (fun k hk=>?_) ?_ rfl) rfl
 ·unfold W.jI.ca_ W.jI.c5 W.jI.c6
  rw [ke (by simp only;omega)]
  simp only [ge0,ji]
  refine jr (jr (Yg (n:=(lst k (fun q=>⟨0,2^q,x.testBit q⟩)).length+1) (k:=24) (by rw [kV];omega)) rfl) ?_
  refine jr (jr (Yg (n:=(lst k pX).length+1) (k:=24) (by rw [kV];omega)) rfl) ?_
  rw [jH (by omega),pw_u64 (by omega),bit_in hx (by omega),Hc,lst_succ,lst_succ]
  rfl
 ·unfold W.jI.ca_
  rw [JS (by simp)]
theorem tgate_ok {n m:Nat} (hm:m≤12) (hnm:n≤12) {f g:Nat→Pau} {o:GOp} (h:StO m o) (hf:∀i,i<n→Sm (f i)) (hg:∀i,i<n→Sm (g i)) :
 W.jw o (n:Int) (lst n f) (lst n g)=some (lst n (fun i=>gP o (f i)),lst n (fun i=>gP o (g i)),(n:Int),()):=by
 have up:∀(e:Nat→Pau) (i:Nat),updF (fun j=>if j<i then gP o (e j) else e j) i (gP o (e i))=fun j=>if j<i+1 then gP o (e j) else e j:=fun e i=>by
  funext j
  by_cases h1:j=i
  ·subst h1;rw [Ym,if_pos (Nat.lt_succ_self j)]
  ·rw [Ye _ _ h1]
   by_cases h2:j<i
   ·rw [if_pos h2,if_pos (by omega)]
   ·rw [if_neg h2,if_neg (by omega)]
 unfold W.jw
 refine jr (kD n (fun k=>((k:Int),lst n (fun j=>if j<k then gP o (f j) else f j),lst n (fun j=>if j<k then gP o (g j) else g j))) ((n:Int),lst n (fun i=>gP o (f i)),lst n (fun i=>gP o (g i))) (fun i hi=>?_) ?_ ?_) rfl
 ·unfold W.jw.cb_ W.jw.c4 W.jw.c5
  rw [ke (by simp only;omega)]
  have one:∀(e:Nat→Pau),Sm (e i)→(bnd (inR (List.length (lst n (fun j=>if j<i then gP o (e j) else e j))) (i:Int)) fun y=>bnd (idx (lst n (fun j=>if j<i then gP o (e j) else e j)) (i:Int)) fun y_1=>bnd (W.kb (y_1,o,())) fun y_2=>bnd (inR (List.length (lst n (fun j=>if j<i then gP o (e j) else e j))) (i:Int)) fun y_3=>bnd (idx (lst n (fun j=>if j<i then gP o (e j) else e j)) (i:Int)) fun y_4=>some (List.set (lst n (fun j=>if j<i then gP o (e j) else e j)) (Int.toNat (i:Int)) (Prod.fst y_2)))=some (lst n (fun j=>if j<i+1 then gP o (e j) else e j)):=fun e he=>by
   rw [Yk _ hi,ji,kU _ hi,ji]
   simp only [Nat.lt_irrefl,if_false]
   refine jr (gate_ok1 hm h he) (jr rfl (jr rfl ?_))
   simp only [Int.toNat_natCast]
   rw [lst_set _ _ hi,up]
  refine jr (one f (hf i hi)) (jr (one g (hg i hi)) ?_)
  rw [jH (by simp only;omega)]
  rfl
 ·unfold W.jw.cb_
  rw [JS (by simp)]
  rw [Vv (f:=fun j=>if j<n then gP o (f j) else f j) (g:=fun i=>gP o (f i)) fun i hi=>if_pos hi,Vv (f:=fun j=>if j<n then gP o (g j) else g j) (g:=fun i=>gP o (g i)) fun i hi=>if_pos hi]
 ·rw [Vv (f:=fun j=>if j<0 then gP o (f j) else f j) (g:=f) fun i _=>if_neg (Nat.not_lt_zero _),Vv (f:=fun j=>if j<0 then gP o (g j) else g j) (g:=g) fun i _=>if_neg (Nat.not_lt_zero _)]
  rfl
end Go.Ql
end

section
set_option maxHeartbeats 1000000
namespace Go.Ql
def parF (h e:Nat→Pau) (i:Nat):Nat→Pau:=fun j=>if j<i then h j else e j
theorem parF_zero (h e:Nat→Pau):parF h e 0=e:=funext fun j=>if_neg (Nat.not_lt_zero _)
theorem parF_at (h e:Nat→Pau) (i:Nat):parF h e i i=e i:=if_neg (Nat.lt_irrefl _)
theorem parF_up (h e:Nat→Pau) (i:Nat):updF (parF h e i) i (h i)=parF h e (i+1):=by
 funext j
 unfold parF
 by_cases h1:j=i
 ·subst h1;rw [Ym,if_pos (Nat.lt_succ_self j)]
 ·rw [Ye _ _ h1]
  by_cases h2:j<i
  ·rw [if_pos h2,if_pos (by omega)]
  ·rw [if_neg h2,if_neg (by omega)]
theorem parF_stay {h e:Nat→Pau} {i:Nat} (hh:h i=e i):parF h e (i+1)=parF h e i:=by
 funext j
 unfold parF
 by_cases h1:j=i
 ·subst h1;rw [if_pos (Nat.lt_succ_self j),if_neg (Nat.lt_irrefl j),hh]
 ·by_cases h2:j<i
  ·rw [if_pos h2,if_pos (by omega)]
  ·rw [if_neg h2,if_neg (by omega)]
theorem lst_parF (h e:Nat→Pau) (n:Nat):lst n (parF h e n)=lst n h:=Vv fun i hi=>if_pos hi
theorem Uj {n i:Nat} (f:Nat→Pau) (p:Pau) (h:i<n):(lst n f).set (Int.toNat (i:Int)) (pe p)=lst n (updF f i p):=by
 rw [Int.toNat_natCast];exact lst_set f p h
theorem index_ok {n:Nat} (hn:n≤12) {f:Nat→Pau} (hf:∀i,i<n→Sm (f i)) {z:Pau} (hz:Sm z) :
 (∃a,a<n∧sym 12 (f a) z=true∧W.jp (0:Int) (↑(List.length (lst n f)):Int) (z.x:Int) (z.z:Int) z.m (lst n f)=some ((a:Int),(z.x:Int),(z.z:Int),z.m,lst n f,())) ∨
 ((∀i,i<n→sym 12 (f i) z=false)∧W.jp (0:Int) (↑(List.length (lst n f)):Int) (z.x:Int) (z.z:Int) z.m (lst n f)=some ((-1:Int),(z.x:Int),(z.z:Int),z.m,lst n f,())):=by
 have hl:=kV n f
 have hpart:List.length (part (0:Int) (↑(List.length (lst n f)):Int) (lst n f))=n:=by
  unfold part
  rw [List.length_take,List.length_drop,hl]
  simp
 obtain ⟨x,h1,h2⟩:=Yr (f:=fun s:Int×Int×Int×Bool↦W.jp.cb_ (0:Int) (↑(List.length (lst n f)):Int) (↑(List.length (part (0:Int) (↑(List.length (lst n f)):Int) (lst n f))):Int) (Prod.fst s) (Prod.fst (Prod.snd s)) (Prod.fst (Prod.snd (Prod.snd s))) (Prod.snd (Prod.snd (Prod.snd s))) (lst n f) some) n
  (fun i s=>s=((i:Int),(z.x:Int),(z.z:Int),z.m) ∧ ∀k,k<i→sym 12 (f k) z=false)
  (fun x=>(∃a,a<n∧sym 12 (f a) z=true∧x=.inl ((a:Int),(a:Int),(z.x:Int),(z.z:Int),z.m))∨((∀i,i<n→sym 12 (f i) z=false)∧x=.inr ((n:Int),(z.x:Int),(z.z:Int),z.m)))
  (by
   rintro i s hi ⟨rfl,hall⟩
   have hm:W.Ji (pe (f i)) (z.x:Int) (z.z:Int) z.m=some (sym 12 (f i) z,(z.x:Int),(z.z:Int),z.m,()):=by
    unfold W.Ji
    exact jr (pmeets_ok (hf i hi) hz) rfl
   have hc:∀r,(if sym 12 (f i) z=true then some (.inr (.inl ((i:Int),(i:Int),(z.x:Int),(z.z:Int),z.m))) else some (.inl (((i+1:Nat):Int),(z.x:Int),(z.z:Int),z.m)))=r→W.jp.cb_ (0:Int) (↑(List.length (lst n f)):Int) (↑(List.length (part (0:Int) (↑(List.length (lst n f)):Int) (lst n f))):Int) (i:Int) (z.x:Int) (z.z:Int) z.m (lst n f) some=r:=by
    rintro r rfl
    unfold W.jp.cb_
    rw [hpart,ke (by omega),Jq (by simp only [Bool.and_eq_true,decide_eq_true_eq];rw [hl];exact ⟨Int.natCast_nonneg _,by omega⟩),ji,Int.zero_add,kU f hi,ji]
    refine jr hm ?_
    cases sym 12 (f i) z with
    | true=>rw [Jy (by rfl)];rfl
    | false=>
      rw [jF (by rfl),jH (by omega)]
      rfl
   cases e:sym 12 (f i) z with
   | true=>exact .inr ⟨_,hc _ (by rw [e];rfl),.inl ⟨i,hi,e,rfl⟩⟩
   | false=>
     refine .inl ⟨_,hc _ (by rw [e];rfl),rfl,fun k hk=>?_⟩
     by_cases h:k=i
     ·rw [h];exact e
     ·exact hall k (by omega))
  (by
   rintro s ⟨rfl,hall⟩
   refine ⟨.inr ((n:Int),(z.x:Int),(z.z:Int),z.m),?_,.inr ⟨hall,rfl⟩⟩
   unfold W.jp.cb_
   rw [hpart,JS (by simp)])
  (s:=((0:Int),(z.x:Int),(z.z:Int),z.m)) ⟨rfl,fun k hk=>absurd hk (Nat.not_lt_zero _)⟩
 rcases h2 with ⟨a,ha,hs,rfl⟩ | ⟨hall,rfl⟩
 ·left
  refine ⟨a,ha,hs,?_⟩
  unfold W.jp
  refine jr h1 ?_
  rw [kH]
 ·right
  refine ⟨hall,?_⟩
  unfold W.jp
  refine jr h1 ?_
  rw [kh]
def mF0 (a q:Nat) (f:Nat→Pau) (i:Nat):Pau:=if i≠a∧sym 12 (f i) (pZ q)=true then mulP (f i) (f a) else f i
def mG0 (a q:Nat) (f g:Nat→Pau) (i:Nat):Pau:=if i≠a∧sym 12 (g i) (pZ q)=true then mixP (g i) (f a) else g i
theorem ne_nat (i a:Nat):((i:Int) !=(a:Int))=decide (i≠a):=by
 by_cases h:i=a
 ·subst h;rw [decide_eq_false (by simp)];simp
 ·rw [decide_eq_true h];simp;omega
theorem msum_ok {n q:Nat} (hn:n≤12) (hq:q<12) {f g:Nat→Pau} (hf:∀i,i<n→Sm (f i)) (hg:∀i,i<n→Sm (g i)) :
 iter (fun s:Int×Int×Int×Bool↦W.jb.ch_ (↑(List.length (lst n g)):Int) (Prod.fst s) ((pZ q).x:Int) ((pZ q).z:Int) (pZ q).m (Prod.fst (Prod.snd s)) (Prod.fst (Prod.snd (Prod.snd s))) (Prod.snd (Prod.snd (Prod.snd s))) (lst n f) (lst n g) some) ((0:Int),(0:Int),(0:Int),false)=some ((n:Int),pe (prodP f (fun i=>sym 12 (g i) (pZ q)) n)):=by
 have hs:∀k,k≤n→Sm (prodP f (fun i=>sym 12 (g i) (pZ q)) k):=by
  intro k
  induction k with
  | zero=>intro _;exact ⟨by show 0<4096;decide,by show 0<4096;decide⟩
  | succ k ih=>
    intro hk
    rw [prodP]
    split
    ·exact Sm_mul (ih (by omega)) (hf k (by omega))
    ·exact ih (by omega)
 have hZ:Sm (pZ q):=pZ_sm hq
 refine kD n (fun k=>((k:Int),pe (prodP f (fun i=>sym 12 (g i) (pZ q)) k))) _ (fun i hi=>?_) ?_ rfl
 ·unfold W.jb.ch_
  rw [kV,ke (by simp only;omega)]
  have hc:W.jb.cF_ (i:Int) ((pZ q).x:Int) ((pZ q).z:Int) (pZ q).m (pe (prodP f (fun i=>sym 12 (g i) (pZ q)) i)).1 (pe (prodP f (fun i=>sym 12 (g i) (pZ q)) i)).2.1 (pe (prodP f (fun i=>sym 12 (g i) (pZ q)) i)).2.2 (lst n f) (lst n g) some=some (pe (prodP f (fun i=>sym 12 (g i) (pZ q)) (i+1))):=by
   unfold W.jb.cF_
   rw [Yk _ hi,ji,kU _ hi,ji]
   refine jr (pmeets_ok (hg i hi) hZ) ?_
   rw [prodP]
   cases e:sym 12 (g i) (pZ q) with
   | true=>
     rw [Jy rfl,if_pos rfl]
     have hc9:W.jb.c9 (i:Int) (pe (prodP f (fun i=>sym 12 (g i) (pZ q)) i)).1 (pe (prodP f (fun i=>sym 12 (g i) (pZ q)) i)).2.1 (pe (prodP f (fun i=>sym 12 (g i) (pZ q)) i)).2.2 (lst n f) some=some (pe (mulP (prodP f (fun i=>sym 12 (g i) (pZ q)) i) (f i))):=by
      unfold W.jb.c9
      rw [Yk _ hi,ji,kU _ hi,ji]
      exact jr (ptimes_ok (hs i (by omega)) (hf i hi)) rfl
     exact jr hc9 rfl
   | false=>rw [jF rfl,if_neg (by decide)]
  refine jr hc ?_
  rw [jH (by simp only;omega)]
  rfl
 ·unfold W.jb.ch_
  rw [kV,JS (by simp)]
theorem mloop_ok {n q a:Nat} (hn:n≤12) (hq:q<12) (ha:a<n) {f g:Nat→Pau} (hf:∀i,i<n→Sm (f i)) (hg:∀i,i<n→Sm (g i)) :
 iter (fun s:Int×L3p×L3p↦W.jb.ck_ (a:Int) (n:Int) (Prod.fst s) ((pZ q).x:Int) ((pZ q).z:Int) (pZ q).m (pe (f a)).1 (pe (f a)).2.1 (pe (f a)).2.2 (Prod.fst (Prod.snd s)) (Prod.snd (Prod.snd s)) some) ((0:Int),lst n f,lst n g)=some ((n:Int),lst n (mF0 a q f),lst n (mG0 a q f g)):=by
 have hZ:Sm (pZ q):=pZ_sm hq
 refine kD n (fun k=>((k:Int),lst n (parF (mF0 a q f) f k),lst n (parF (mG0 a q f g) g k))) _ (fun i hi=>?_) ?_ (by rw [parF_zero,parF_zero];rfl)
 ·unfold W.jb.ck_
  rw [ke (by simp only;omega)]
  have hF:W.jb.cV_ (a:Int) (i:Int) ((pZ q).x:Int) ((pZ q).z:Int) (pZ q).m (pe (f a)).1 (pe (f a)).2.1 (pe (f a)).2.2 (lst n (parF (mF0 a q f) f i)) some=some (lst n (parF (mF0 a q f) f (i+1))):=by
   have h16:W.jb.c16 (a:Int) (i:Int) ((pZ q).x:Int) ((pZ q).z:Int) (pZ q).m (lst n (parF (mF0 a q f) f i)) some=some (decide (i≠a)&&sym 12 (f i) (pZ q)):=by
    unfold W.jb.c16
    rw [ne_nat]
    by_cases e:i=a
    ·rw [jF (decide_eq_false (by simp [e])),decide_eq_false (by simp [e])];rfl
    ·rw [Jy (decide_eq_true e),decide_eq_true e,Yk _ hi,ji,kU _ hi,ji,parF_at]
     exact jr (pmeets_ok (hf i hi) hZ) rfl
   unfold W.jb.cV_
   refine jr h16 ?_
   by_cases e:i≠a∧sym 12 (f i) (pZ q)=true
   ·rw [Jy (by rw [decide_eq_true e.1,e.2];rfl)]
    have h17:W.jb.c17 (i:Int) (pe (f a)).1 (pe (f a)).2.1 (pe (f a)).2.2 (lst n (parF (mF0 a q f) f i)) some=some (lst n (parF (mF0 a q f) f (i+1))):=by
     unfold W.jb.c17
     rw [Yk _ hi,ji,kU _ hi,ji,parF_at]
     refine jr (ptimes_ok (hf i hi) (hf a ha)) (jr rfl (jr rfl ?_))
     rw [Uj _ _ hi,←parF_up]
     unfold mF0
     rw [if_pos e]
    exact jr h17 rfl
   ·rw [jF (by
     by_cases h1:i=a
     ·rw [decide_eq_false (by simp [h1])];rfl
     ·cases h2:sym 12 (f i) (pZ q) with
      | false=>rw [Bool.and_false]
      | true=>exact absurd ⟨h1,h2⟩ e),parF_stay (by unfold mF0;rw [if_neg e])]
  have hG:∀(S:L3p),(bnd (W.jb.c18 (a:Int) (i:Int) ((pZ q).x:Int) ((pZ q).z:Int) (pZ q).m (lst n (parF (mG0 a q f g) g i)) some) fun y_1=>br y_1 (bnd (W.jb.c19 (i:Int) (pe (f a)).1 (pe (f a)).2.1 (pe (f a)).2.2 (lst n (parF (mG0 a q f g) g i)) some) fun y_2=>some (S,y_2)) (some (S,lst n (parF (mG0 a q f g) g i))))=some (S,lst n (parF (mG0 a q f g) g (i+1))):=by
   intro S
   have h18:W.jb.c18 (a:Int) (i:Int) ((pZ q).x:Int) ((pZ q).z:Int) (pZ q).m (lst n (parF (mG0 a q f g) g i)) some=some (decide (i≠a)&&sym 12 (g i) (pZ q)):=by
    unfold W.jb.c18
    rw [ne_nat]
    by_cases e:i=a
    ·rw [jF (decide_eq_false (by simp [e])),decide_eq_false (by simp [e])];rfl
    ·rw [Jy (decide_eq_true e),decide_eq_true e,Yk _ hi,ji,kU _ hi,ji,parF_at]
     exact jr (pmeets_ok (hg i hi) hZ) rfl
   refine jr h18 ?_
   by_cases e:i≠a∧sym 12 (g i) (pZ q)=true
   ·rw [Jy (by rw [decide_eq_true e.1,e.2];rfl)]
    have h19:W.jb.c19 (i:Int) (pe (f a)).1 (pe (f a)).2.1 (pe (f a)).2.2 (lst n (parF (mG0 a q f g) g i)) some=some (lst n (parF (mG0 a q f g) g (i+1))):=by
     unfold W.jb.c19
     rw [Yk _ hi,ji,kU _ hi,ji,parF_at]
     refine jr (mixed_ok (hg i hi) (hf a ha)) (jr rfl (jr rfl ?_))
     rw [Uj _ _ hi,←parF_up]
     unfold mG0
     rw [if_pos e]
    exact jr h19 rfl
   ·rw [jF (by
     by_cases h1:i=a
     ·rw [decide_eq_false (by simp [h1])];rfl
     ·cases h2:sym 12 (g i) (pZ q) with
      | false=>rw [Bool.and_false]
      | true=>exact absurd ⟨h1,h2⟩ e),parF_stay (by unfold mG0;rw [if_neg e])]
  refine jr (show W.jb.cv_ (a:Int) (i:Int) ((pZ q).x:Int) ((pZ q).z:Int) (pZ q).m (pe (f a)).1 (pe (f a)).2.1 (pe (f a)).2.2 (lst n (parF (mF0 a q f) f i)) (lst n (parF (mG0 a q f g) g i)) some=some (lst n (parF (mF0 a q f) f (i+1)),lst n (parF (mG0 a q f g) g (i+1))) from jr hF (hG _)) ?_
  rw [jH (by simp only;omega)]
  rfl
 ·unfold W.jb.ck_
  rw [JS (by simp),lst_parF,lst_parF]
theorem measure_ok {n q:Nat} (hn:n≤12) (hq:q<n) {f g:Nat→Pau} {v:KV} (t:Tab n f g v) (b:Bool) :
 (∃f' g',W.jb (q:Int) (bi b) (n:Int) (lst n f) (lst n g)=some (true,lst n f',lst n g',(n:Int),())∧Tab n f' g' (outB q b v)) ∨
 (W.jb (q:Int) (bi b) (n:Int) (lst n f) (lst n g)=some (false,lst n f,lst n g,(n:Int),())∧outB q b v=fun _=>K.zero):=by
 have hq12:q<12:=by omega
 have hf:∀i,i<n→Sm (f i):=fun i hi=>(t.fF i hi).sm hn
 have hg:∀i,i<n→Sm (g i):=fun i hi=>(t.gF i hi).sm hn
 have hZ:Sm (pZ q):=pZ_sm hq12
 have ef:∀i,i<n→sym 12 (f i) (pZ q)=sym n (f i) (pZ q):=fun i hi=>Hv (t.fF i hi) hn
 have eg:∀i,i<n→sym 12 (g i) (pZ q)=sym n (g i) (pZ q):=fun i hi=>Hv (t.gF i hi) hn
 have eb:(bi b==(1:Int))=b:=by cases b<;>rfl
 rcases index_ok hn hf hZ with ⟨a,ha,hs,hidx⟩ | ⟨hall,hidx⟩
 ·left
  refine ⟨mF n a q b f,mG n a q f g,?_,t.measure hn ha hq (by rw [←ef a ha];exact hs) b⟩
  unfold W.jb
  rw [ge0,ji,pw_u64 hq12]
  refine jr hidx ?_
  rw [JS (by simp only;omega)]
  simp only
  rw [Yk _ ha,ji,kU _ ha,ji]
  refine jr (mloop_ok hn hq12 ha hf hg) ?_
  have h21:W.jb.c21 (a:Int) (lst n (mG0 a q f g)) some=some ():=by
   unfold W.jb.c21
   rw [Yk _ ha,ji,kU _ ha,ji]
  have h23:W.jb.c23 (a:Int) (lst n (mF0 a q f)) some=some ():=by
   unfold W.jb.c23
   rw [Yk _ ha,ji,kU _ ha,ji]
  refine jr h21 (jr h23 ?_)
  simp only
  rw [eb]
  have e1:=Uj (n:=n) (mF0 a q f) ⟨0,2^q,b⟩ ha
  have e2:=Uj (n:=n) (mG0 a q f g) (f a) ha
  have c1:lst n (updF (mF0 a q f) a ⟨0,2^q,b⟩)=lst n (mF n a q b f):=Vv fun i hi=>by
   unfold mF
   by_cases e:i=a
   ·subst e;rw [Ym,if_pos rfl]
   ·rw [Ye _ _ e,if_neg e]
    unfold mF0
    rw [←ef i hi]
    by_cases h:sym 12 (f i) (pZ q)=true
    ·rw [if_pos ⟨e,h⟩,if_pos h]
    ·rw [if_neg fun x=>h x.2,if_neg h]
  have c2:lst n (updF (mG0 a q f g) a (f a))=lst n (mG n a q f g):=Vv fun i hi=>by
   unfold mG
   by_cases e:i=a
   ·subst e;rw [Ym,if_pos rfl]
   ·rw [Ye _ _ e,if_neg e]
    unfold mG0
    rw [←eg i hi]
    by_cases h:sym 12 (g i) (pZ q)=true
    ·rw [if_pos ⟨e,h⟩,if_pos h]
    ·rw [if_neg fun x=>h x.2,if_neg h]
  rw [c1] at e1
  rw [c2] at e2
  rw [←e1,←e2]
  rfl
 ·obtain ⟨k1,k2⟩:=t.given hn hq (fun i hi=>by rw [←ef i hi];exact hall i hi) b
  have hT:prodP f (fun i=>sym n (g i) (pZ q)) n=prodP f (fun i=>sym 12 (g i) (pZ q)) n:=prod_congr fun i hi=>(eg i hi).symm
  rw [hT] at k1 k2
  have hrun:W.jb (q:Int) (bi b) (n:Int) (lst n f) (lst n g)=some ((prodP f (fun i=>sym 12 (g i) (pZ q)) n).m==b,lst n f,lst n g,(n:Int),()):=by
   unfold W.jb
   rw [ge0,ji,pw_u64 hq12]
   refine jr hidx ?_
   rw [ke (by simp only;omega)]
   refine jr (msum_ok hn hq12 hf hg) ?_
   rw [eb]
   rfl
  by_cases h:(prodP f (fun i=>sym 12 (g i) (pZ q)) n).m=b
  ·left
   refine ⟨f,g,?_,by rw [k1 h];exact t⟩
   rw [hrun,h]
   simp
  ·right
   refine ⟨?_,k2 h⟩
   rw [hrun,beq_false_of_ne h]
end Go.Ql
end

section
set_option maxHeartbeats 1000000
namespace Go.Ql
theorem TabE.sm {n:Nat} (hn:n≤12) {f:Nat→Pau} {v:KV} (t:TabE n f v):∀i,i<n→Sm (f i):=by
 obtain ⟨g,t⟩:=t
 exact fun i hi=>(t.fF i hi).sm hn
theorem has_ok {n c:Nat} (hn:n≤12) (hc:c<2*n) {p:Pau} (hp:Sm p):W.JC (pe p) (c:Int) (n:Int)=some (hasP n c p,(c:Int),(n:Int),()):=by
 unfold W.JC hasP
 by_cases h:c<n
 ·rw [ke (by omega),ge0,ji,if_pos h]
  show some (ibits .and .u64 (Int.fdiv (p.x:Int) ((2:Int)^Min.min (Int.toNat (c:Int)) 64)) 1==1,_)=_
  rw [kN hp.1 (by omega),Hc]
 ·rw [JS (by omega),jH (by omega),show ((c:Int)-(n:Int))=((c-n:Nat):Int) by omega,ge0,ji,if_neg h]
  show some (ibits .and .u64 (Int.fdiv (p.z:Int) ((2:Int)^Min.min (Int.toNat ((c-n:Nat):Int)) 64)) 1==1,_)=_
  rw [kN hp.2 (by omega),Hc]
theorem find_ok {n c d:Nat} (hn:n≤12) (hc:c<2*n) (hd:d≤n) {f:Nat→Pau} (hf:∀i,i<n→Sm (f i)) :
 ∃a,d≤a∧a≤n∧(∀i,d≤i→i<a→hasP n c (f i)=false)∧(a<n→hasP n c (f a)=true) ∧
  iter (fun s:Int×Int×Int↦W.jh.cc_ (Prod.fst s) (Prod.fst (Prod.snd s)) (Prod.snd (Prod.snd s)) (lst n f) some) ((d:Int),(n:Int),(c:Int))=some ((a:Int),(n:Int),(c:Int)):=by
 obtain ⟨x,h1,a,q1,q2,q3,q4,rfl⟩:=Yr (f:=fun s:Int×Int×Int↦W.jh.cc_ (Prod.fst s) (Prod.fst (Prod.snd s)) (Prod.snd (Prod.snd s)) (lst n f) some) (n-d)
  (fun k s=>s=(((d+k:Nat):Int),(n:Int),(c:Int)) ∧ ∀i,d≤i→i<d+k→hasP n c (f i)=false)
  (fun x=>∃a,d≤a∧a≤n∧(∀i,d≤i→i<a→hasP n c (f i)=false)∧(a<n→hasP n c (f a)=true)∧x=((a:Int),(n:Int),(c:Int)))
  (by
   rintro k s hk ⟨rfl,hall⟩
   have h8:W.jh.c8 ((d+k:Nat):Int) (n:Int) (c:Int) (lst n f) some=some (!hasP n c (f (d+k)),(n:Int),(c:Int)):=by
    unfold W.jh.c8
    rw [ke (by rw [kV];omega),Yk _ (by omega),ji,kU _ (by omega),ji]
    exact jr (has_ok hn hc (hf _ (by omega))) rfl
   cases e:hasP n c (f (d+k)) with
   | true=>
     right
     refine ⟨(((d+k:Nat):Int),(n:Int),(c:Int)),?_,d+k,by omega,by omega,hall,fun _=>e,rfl⟩
     unfold W.jh.cc_
     rw [e] at h8
     refine jr h8 ?_
     rw [jF (by rfl)]
   | false=>
     left
     refine ⟨(((d+(k+1):Nat):Int),(n:Int),(c:Int)),?_,rfl,fun i hi hik=>?_⟩
     ·unfold W.jh.cc_
      rw [e] at h8
      refine jr h8 ?_
      rw [Jy (by rfl),jH (by simp only;omega)]
      rfl
     ·by_cases h:i=d+k
      ·rw [h];exact e
      ·exact hall i hi (by omega))
  (by
   rintro s ⟨rfl,hall⟩
   refine ⟨((n:Int),(n:Int),(c:Int)),?_,n,hd,Nat.le_refl n,fun i hi hik=>hall i hi (by omega),fun h=>absurd h (Nat.lt_irrefl n),rfl⟩
   unfold W.jh.cc_ W.jh.c8
   rw [JS (by rw [kV];omega),ji,jF rfl]
   rw [show d+(n-d)=n by omega])
  (s:=((d:Int),(n:Int),(c:Int))) ⟨rfl,fun i h1 h2=>by omega⟩
 exact ⟨a,q1,q2,q3,q4,h1⟩
theorem swap_ok {n a d:Nat} (ha:a<n) (hd:d<n) (f:Nat→Pau):W.jh.c11 (d:Int) (a:Int) (lst n f) some=some (lst n fun i=>f (tr d a i)):=by
 unfold W.jh.c11
 rw [Yk _ ha,ji,kU _ ha,ji,Yk _ hd,ji,kU _ hd,ji,ji,ji,Uj _ _ hd,Yk _ ha,ji,kU _ ha,ji,Uj _ _ ha]
 congr 1
 apply Vv
 intro i hi
 unfold tr
 by_cases h1:i=a
 ·subst h1
  rw [Ym]
  by_cases h2:i=d
  ·rw [if_pos h2,h2]
  ·rw [if_neg h2,if_pos rfl]
 ·rw [Ye _ _ h1]
  by_cases h2:i=d
  ·subst h2;rw [Ym,if_pos rfl]
  ·rw [Ye _ _ h2,if_neg h2,if_neg h1]
theorem elim_ok {n c d:Nat} (hn:n≤12) (hc:c<2*n) (hd:d<n) {f:Nat→Pau} (hf:∀i,i<n→Sm (f i)) :
 iter (fun s:Int×Int×Int×L3p↦W.jh.cf_ (d:Int) (↑(List.length (lst n f)):Int) (Prod.fst s) (Prod.fst (Prod.snd s)) (Prod.fst (Prod.snd (Prod.snd s))) (Prod.snd (Prod.snd (Prod.snd s))) some) ((0:Int),(n:Int),(c:Int),lst n f)=some ((n:Int),(n:Int),(c:Int),lst n (elF n d c n f)):=by
 refine kD n (fun k=>((k:Int),(n:Int),(c:Int),lst n (elF n d c k f))) _ (fun i hi=>?_) ?_ (by rw [elF_zero];rfl)
 ·unfold W.jh.cf_
  rw [kV,ke (by simp only;omega)]
  have h15:W.jh.c15 (d:Int) (i:Int) (n:Int) (c:Int) (lst n (elF n d c i f)) some=some (decide (i≠d)&&hasP n c (f i),(n:Int),(c:Int)):=by
   unfold W.jh.c15
   rw [ne_nat]
   by_cases e:i=d
   ·rw [jF (decide_eq_false (by simp [e])),decide_eq_false (by simp [e])];rfl
   ·rw [Jy (decide_eq_true e),decide_eq_true e,Yk _ hi,ji,kU _ hi,ji,Nf f (Nat.le_refl i)]
    exact jr (has_ok hn hc (hf i hi)) rfl
  have hcc:W.jh.cG_ (d:Int) (i:Int) (n:Int) (c:Int) (lst n (elF n d c i f)) some=some ((n:Int),(c:Int),lst n (elF n d c (i+1) f)):=by
   unfold W.jh.cG_
   refine jr h15 ?_
   by_cases e:i≠d∧hasP n c (f i)=true
   ·rw [Jy (by show (decide (i≠d)&&hasP n c (f i))=true;rw [decide_eq_true e.1,e.2];rfl)]
    have h16:W.jh.c16 (d:Int) (i:Int) (lst n (elF n d c i f)) some=some (lst n (elF n d c (i+1) f)):=by
     unfold W.jh.c16
     rw [Yk _ hi,ji,kU _ hi,ji,Yk _ hd,ji,kU _ hd,ji,Nf f (Nat.le_refl i),elF_d]
     refine jr (ptimes_ok (hf i hi) (hf d hd)) (jr rfl (jr rfl ?_))
     rw [Uj _ _ hi,elF_succ,if_pos e,Nf f (Nat.le_refl i),elF_d]
    exact jr h16 rfl
   ·rw [jF (by
     show (decide (i≠d)&&hasP n c (f i))=false
     by_cases h1:i=d
     ·rw [decide_eq_false (by simp [h1])];rfl
     ·cases h2:hasP n c (f i) with
      | false=>rw [Bool.and_false]
      | true=>exact absurd ⟨h1,h2⟩ e),elF_succ,if_neg e]
  refine jr hcc ?_
  rw [jH (by simp only;omega)]
  rfl
 ·unfold W.jh.cf_
  rw [kV,JS (by simp)]
theorem reduced_ok {n:Nat} (hn:n≤12) {f:Nat→Pau} {v:KV} (t:TabE n f v) :
 ∃f' c,W.jh (lst n f) (n:Int)=some (lst n f')∧TabE n f' v∧Red n (2*n) n f' c:=by
 have hw:IntKind.i64.wrap ((2:Int)*(n:Int))=((2*n:Nat):Int):=by rw [jH (by omega)];simp
 obtain ⟨x,h1,d,f',c,rfl,h2,h3⟩:=Yr (f:=fun s:Int×Int×Int×L3p↦W.jh.cd_ (Prod.fst s) (IntKind.i64.wrap ((2:Int)*(n:Int))) (Prod.fst (Prod.snd s)) (Prod.fst (Prod.snd (Prod.snd s))) (Prod.snd (Prod.snd (Prod.snd s))) some) (2*n)
  (fun col s=>∃(d:Nat) (f':Nat→Pau) (c:Nat→Nat),s=((d:Int),(col:Int),(n:Int),lst n f')∧TabE n f' v∧Red n col d f' c)
  (fun x=>∃(d:Nat) (f':Nat→Pau) (c:Nat→Nat),x=((d:Int),((2*n:Nat):Int),(n:Int),lst n f')∧TabE n f' v∧Red n (2*n) d f' c)
  (by
   rintro col s hcol ⟨d,f',c,rfl,h2,h3⟩
   left
   have hf:=h2.sm hn
   obtain ⟨a,q1,q2,q3,q4,q5⟩:=find_ok hn hcol h3.dn hf
   by_cases ha:a=n
   ·subst ha
    refine ⟨((d:Int),((col+1:Nat):Int),(a:Int),lst a f'),?_,d,f',c,rfl,h2,h3.none fun i hi hia=>q3 i hi hia⟩
    unfold W.jh.cd_
    rw [hw,ke (by simp only;omega)]
    have hc:W.jh.cx_ (d:Int) (col:Int) (a:Int) (lst a f') some=some ((d:Int),(a:Int),lst a f'):=by
     unfold W.jh.cx_
     refine jr q5 ?_
     rw [Jy (by rw [kV];simp)]
    refine jr hc ?_
    rw [jH (by simp only;omega)]
    rfl
   ·have han:a<n:=by omega
    have hdn:d<n:=by omega
    have hsw:TabE n (fun i=>f' (tr d a i)) v:=by
     obtain ⟨g,tg⟩:=h2
     exact ⟨_,tg.swap hdn han⟩
    refine ⟨(((d+1:Nat):Int),((col+1:Nat):Int),(n:Int),lst n (elF n d col n fun i=>f' (tr d a i))),?_,d+1,_,_,rfl,hsw.el hn hdn col (Nat.le_refl n),h3.some q1 han (q4 han)⟩
    unfold W.jh.cd_
    rw [hw,ke (by simp only;omega)]
    have hc:W.jh.cx_ (d:Int) (col:Int) (n:Int) (lst n f') some=some (((d+1:Nat):Int),(n:Int),lst n (elF n d col n fun i=>f' (tr d a i))):=by
     unfold W.jh.cx_
     refine jr q5 ?_
     rw [jF (by rw [kV];simp;omega)]
     refine jr (swap_ok han hdn f') (jr (elim_ok hn hcol hdn (hsw.sm hn)) ?_)
     rw [jH (by omega)]
     rfl
    refine jr hc ?_
    rw [jH (by simp only;omega)]
    rfl)
  (by
   rintro s ⟨d,f',c,rfl,h2,h3⟩
   refine ⟨((d:Int),((2*n:Nat):Int),(n:Int),lst n f'),?_,d,f',c,rfl,h2,h3⟩
   unfold W.jh.cd_
   rw [hw,JS (by simp)])
  (s:=((0:Int),(0:Int),(n:Int),lst n f)) ⟨0,f,fun _=>0,rfl,t,Red.zero n f _⟩
 have hd:=h3.done h2
 subst hd
 refine ⟨f',c,?_,h2,h3⟩
 unfold W.jh
 refine jr (Yg (n:=0+(lst d f).length) (k:=24) (by rw [kV];omega)) (jr h1 rfl)
end Go.Ql
end

section
set_option maxHeartbeats 1000000
namespace Go.Ql
theorem sto5 {n:Nat} {b:Int} {o:GOp} (h:GoodOp o (n:Int) b) (h5:o.1<5) (hn:nrmO o=true):StO n o:=by
 have h6:=(ctlBad_zero.1 h.ctls).1
 have hk1:=h.kind
 have hk0:=h.k
 have hk:o.1=1∨o.1=2∨o.1=3∨o.1=4:=by omega
 refine ⟨h.q,fun c hc=>⟨⟨(h6 c hc).1,(h6 c hc).2.1⟩,(h6 c hc).2.2.1⟩,h.k,?_⟩
 unfold nrmO at hn
 rcases hk with hk | hk | hk | hk
 ·refine .inr (.inr (.inr (.inr ⟨hk,?_⟩)))
  rcases h.ctl with e | e
  ·exact e
  ·omega
 ·rw [if_pos hk] at hn
  exact .inl ⟨hk,by have:=of_decide_eq_true hn;omega⟩
 ·rw [if_neg (by omega),if_pos hk] at hn
  refine .inr (.inl ⟨hk,List.eq_nil_of_length_eq_zero (of_decide_eq_true hn)⟩)
 ·rw [if_neg (by omega),if_neg (by omega),if_pos hk] at hn
  rw [Int.tmod_eq_emod_of_nonneg hk0.1,Int.tmod_eq_emod_of_nonneg hk0.1] at hn
  simp only [Bool.or_eq_true,Bool.and_eq_true,decide_eq_true_eq] at hn
  rcases hn with ⟨a,b⟩ | ⟨a,b⟩
  ·exact .inr (.inr (.inl ⟨hk,List.eq_nil_of_length_eq_zero a,b⟩))
  ·exact .inr (.inr (.inr (.inl ⟨hk,a,b⟩)))
theorem okp_of {n bn:Nat} (hn:n≤12) {o:GOp} (h:GoodOp o (n:Int) (bn:Int)) (hr:nrmO o=true):OkP o n bn:=by
 have h6:=(ctlBad_zero.1 h.ctls).1
 have h24:=h.ifs
 refine ⟨⟨h.q,h.k.1,fun q hq=>by have:=h6 q hq;omega,?_,fun hm=>(h6 _ hm).2.2.1 rfl⟩,by omega,fun c hc=>?_,fun h5=>?_⟩
 ·by_cases h5:o.1<5
  ·exact (ok1_sto hn (sto5 h h5 hr)).len
  ·rcases h.ctl with e | e
   ·rw [e];decide
   ·omega
 ·have hcond:=h.cond
  unfold ifBad at hcond
  have:¬(c=0∨(bn:Int)<c∨c < -(bn:Int)):=fun hh=>hcond ⟨c,hc,hh⟩
  omega
 ·rcases h.bit with hb | hb
  ·exact hb.2
  ·exact absurd h5 hb.1
def B01 (bits:List Int):Prop:=∀j,bits.getD j 0=0∨bits.getD j 0=1
theorem B01.zero (n:Nat):B01 (List.replicate n 0):=fun j=>by
 left
 rw [List.getD,List.getElem?_replicate]
 split<;>rfl
theorem B01.set {bits:List Int} (h:B01 bits) (i:Nat) {b:Int} (hb:b=0∨b=1):B01 (bits.set i b):=fun j=>by
 rw [List.getD,List.getElem?_set]
 by_cases e:i=j
 ·rw [if_pos e]
  split
  ·exact hb
  ·exact .inl rfl
 ·rw [if_neg e];exact h j
theorem holds_ok {o:GOp} {bits:List Int} (hn:o.2.2.2.2.2.length<2^62) (hb:bits.length<2^62) (hc:∀c∈o.2.2.2.2.2,c≠0∧c≤bits.length ∧ -c≤bits.length) (h01:B01 bits):W.jQ o bits=some (condK bits o):=by
 obtain ⟨o0,o1,o2,o3,o4,l⟩:=o
 simp only at *
 obtain ⟨y,h1,h2⟩:=Yr (f:=fun s:Int↦W.jQ.cb_ bits l (↑(List.length l):Int) s some) l.length
  (fun i s=>s=(i:Int) ∧ ∀j,j<i→((decide (l.getD j 0≤0)||bits.getD (l.getD j 0-1).toNat 0==1)&&(decide (0≤l.getD j 0)||bits.getD (-l.getD j 0-1).toNat 0==0))=true)
  (fun y=>(∃i,y=.inl i∧condK bits (o0,o1,o2,o3,o4,l)=false)∨(∃i,y=.inr i∧condK bits (o0,o1,o2,o3,o4,l)=true))
  (by
   rintro i s hi ⟨rfl,h2⟩
   have hm:l.getD i 0∈l:=by
    have e:l.getD i 0=l[i]:=by simp [hi]
    rw [e];exact List.getElem_mem hi
   obtain ⟨c0,c1,c2⟩:=hc _ hm
   have hbad:((decide (l.getD i 0≤0)||bits.getD (l.getD i 0-1).toNat 0==1)&&(decide (0≤l.getD i 0)||bits.getD (-l.getD i 0-1).toNat 0==0))=false→condK bits (o0,o1,o2,o3,o4,l)=false:=fun hf=>by
    rw [←Bool.not_eq_true]
    intro ht
    unfold condK at ht
    rw [List.all_eq_true] at ht
    have:=ht _ hm
    rw [hf] at this
    cases this
   have hgo:((decide (l.getD i 0≤0)||bits.getD (l.getD i 0-1).toNat 0==1)&&(decide (0≤l.getD i 0)||bits.getD (-l.getD i 0-1).toNat 0==0))=true → ∀j,j<i+1→((decide (l.getD j 0≤0)||bits.getD (l.getD j 0-1).toNat 0==1)&&(decide (0≤l.getD j 0)||bits.getD (-l.getD j 0-1).toNat 0==0))=true:=fun ht j hj=>by
    by_cases e:j=i
    ·rw [e];exact ht
    ·exact h2 j (by omega)
   simp only [W.jQ.cb_,W.jQ.c4]
   rw [ke (by omega),Ng i rfl hi,ji]
   generalize l.getD i 0=c at *
   by_cases hp:c>0
   ·rw [ke hp,jH (by omega),Ng (c-1).toNat (by omega) (by omega),ji]
    have e2:decide (0≤c)=true:=decide_eq_true (by omega)
    have e1:decide (c≤0)=false:=decide_eq_false (by omega)
    rw [e1,e2] at hbad hgo
    rcases h01 (c-1).toNat with hv | hv
    ·rw [Jy (by rw [hv];rfl),ji,Jy rfl]
     exact .inr ⟨_,rfl,.inl ⟨_,rfl,hbad (by rw [hv];rfl)⟩⟩
    ·rw [jF (by rw [hv];rfl),JS (by omega),ji,jF rfl,jH (by omega)]
     exact .inl ⟨_,rfl,by omega,hgo (by rw [hv];rfl)⟩
   ·rw [JS hp,ke (by omega),jH (x:=0-c) (by omega),jH (by omega),Int.zero_sub,Ng (-c-1).toNat (by omega) (by omega),ji]
    have e2:decide (0≤c)=false:=decide_eq_false (by omega)
    have e1:decide (c≤0)=true:=decide_eq_true (by omega)
    rw [e1,e2] at hbad hgo
    rcases h01 (-c-1).toNat with hv | hv
    ·rw [ji,jF (by rw [hv];rfl),jH (by omega)]
     exact .inl ⟨_,rfl,by omega,hgo (by rw [hv];rfl)⟩
    ·rw [ji,Jy (by rw [hv];rfl)]
     exact .inr ⟨_,rfl,.inl ⟨_,rfl,hbad (by rw [hv];rfl)⟩⟩)
  (by
   rintro s ⟨rfl,h2⟩
   refine ⟨.inr (l.length:Int),?_,.inr ⟨_,rfl,?_⟩⟩
   ·simp only [W.jQ.cb_]
    rw [JS (by omega)]
   ·unfold condK
    rw [List.all_eq_true]
    intro c hc
    obtain ⟨j,hj,rfl⟩:=List.mem_iff_getElem.1 hc
    have:=h2 j hj
    rw [show l.getD j 0=l[j] by simp [hj]] at this
    exact this)
  (s:=(0:Int)) ⟨rfl,fun j hj=>absurd hj (Nat.not_lt_zero _)⟩
 unfold W.jQ
 refine jr h1 ?_
 rcases h2 with ⟨i,rfl,e⟩ | ⟨i,rfl,e⟩
 ·rw [kH,e]
 ·rw [kh,e]
open Classical in
noncomputable def stabK (tape:List Int):Nat→List GOp→SK→(Int×Nat)⊕SK
 | _,[],s=>.inr s
 | i,o::l,s=>
   if condK s.2.1 o=false then stabK tape (i+1) l s
   else if o.1<5 then stabK tape (i+1) l (gateK o s.1,s.2.1,s.2.2)
   else if s.2.2=tape.length then .inl (19,i)
   else if tape.getD s.2.2 0≠0∧tape.getD s.2.2 0≠1 then .inl (20,i)
   else if outK o.2.2.2.1 (tape.getD s.2.2 0) s.1=(fun _=>K.zero) then .inl (20,i)
   else stabK tape (i+1) l (meetK o (tape.getD s.2.2 0) s)
abbrev TS:=Int×Int×Int×List Int×L3p×L3p
end Go.Ql
end

section
set_option maxHeartbeats 1000000
end

section
set_option maxHeartbeats 1000000
namespace Go.Ql
theorem txt_idx {w:Wd} {q:Nat} (h:q<w.length):idx (txt w) (q:Int)=some (enc (w.getD q (false,false))):=by
 rw [JN (by rw [YK];exact h)]
 simp [txt,List.getD,List.getElem?_eq_getElem h]
def Lead (n:Nat) (p:Pau) (k:Nat):Prop:=k<2*n∧hasP n k p=true ∧ ∀j,j<k→hasP n j p=false
theorem Lead.one {n:Nat} {p:Pau} {j k:Nat} (h:Lead n p j) (g:Lead n p k):j=k:=by
 apply Nat.le_antisymm
 ·apply Nat.le_of_not_lt
  intro hl
  have:=h.2.2 k hl
  rw [g.2.1] at this
  cases this
 ·apply Nat.le_of_not_lt
  intro hl
  have:=g.2.2 j hl
  rw [h.2.1] at this
  cases this
def letN (i:Nat):Lt:=(i==1||i==2,i==2||i==3)
def word:Nat→Nat→Wd
 | 0,_=>[]
 | n+1,k=>letN (k % 4)::word n (k / 4)
end Go.Ql
end

section
set_option maxHeartbeats 1000000
namespace Go.Ql
end Go.Ql
end

section
set_option maxHeartbeats 1000000
namespace Go.Ql
def stTx (n:Nat) (f:Nat→Pau) (k:Nat):List Tx:=(List.range k).map fun i=>txP n (f i)
theorem stTx_succ (n:Nat) (f:Nat→Pau) (k:Nat):stTx n f (k+1)=stTx n f k++[txP n (f k)]:=by
 unfold stTx
 rw [List.range_succ,List.map_append]
 rfl
theorem stTx_len (n:Nat) (f:Nat→Pau) (k:Nat):(stTx n f k).length=k:=by simp [stTx]
theorem Red.lead_at {n:Nat} {f:Nat→Pau} {c:Nat→Nat} (r:Red n (2*n) n f c) {j:Nat} (hj:j<n):Lead n (f j) (c j):=
 ⟨r.lt j hj,by rw [r.piv j j hj hj];exact decide_eq_true rfl,r.lead j hj⟩
theorem Red.inj {n:Nat} {f:Nat→Pau} {c:Nat→Nat} (r:Red n (2*n) n f c) {i j:Nat} (hi:i<n) (hj:j<n) (h:c i=c j):i=j:=by
 rcases Nat.lt_trichotomy i j with h1 | h1 | h1
 ·have:=r.up i j h1 hj;omega
 ·exact h1
 ·have:=r.up j i h1 hi;omega
end Go.Ql
end

section
set_option maxHeartbeats 1000000
namespace Go.Ql
theorem ops_of {n bn:Nat} (hn:n≤12) {ops:List GOp} (hg:∀o∈ops,GoodOp o (n:Int) (bn:Int)) (hs:(Yd 0 ops).1=0) :
 (∀o∈ops,OkP o n bn)∧(∀o∈ops,o.1<5→StO n o):=by
 have h:=(strange_zero hs).1
 exact ⟨fun o ho=>okp_of hn (hg o ho) (h o ho),fun o ho h5=>sto5 (hg o ho) h5 (h o ho)⟩
end Go.Ql
end

section
set_option maxHeartbeats 1000000
namespace Go.Ql
theorem Red.cols_le {n:Nat} (hn:n≤12) {f f':Nat→Pau} {c c':Nat→Nat} {v:KV} (r:Red n (2*n) n f c) (t:TabE n f v) (r':Red n (2*n) n f' c') (t':TabE n f' v) {j:Nat} (hj:j<n) (h:∀i,i<j→c i=c' i):c' j≤c j:=by
 have hf:Fit n (f j):=by obtain ⟨g,tg⟩:=t;exact tg.fF j hj
 have hx:Fx (f j) v:=by obtain ⟨g,tg⟩:=t;exact tg.fix j hj
 have hL:=r.lead_at hj
 obtain ⟨i,hi,e,-⟩:=r'.first hn t' hf hx hL.2.1 hL.2.2
 by_cases h1:i<j
 ·have:=r.up i j h1 hj
  have:=h i h1
  omega
 ·by_cases h2:i=j
  ·rw [e,h2];exact Nat.le_refl _
  ·have:=r'.up j i (by omega) hi
   omega
theorem Red.cols {n:Nat} (hn:n≤12) {f f':Nat→Pau} {c c':Nat→Nat} {v:KV} (r:Red n (2*n) n f c) (t:TabE n f v) (r':Red n (2*n) n f' c') (t':TabE n f' v):∀j,j<n→c j=c' j:=by
 intro j
 induction j using Nat.strongRecOn with
 | ind j ih=>
   intro hj
   have h:∀i,i<j→c i=c' i:=fun i hi=>ih i hi (by omega)
   exact Nat.le_antisymm (r'.cols_le hn t' r t hj fun i hi=>(h i hi).symm) (r.cols_le hn t r' t' hj h)
theorem Red.rows {n:Nat} (hn:n≤12) {f f':Nat→Pau} {c c':Nat→Nat} {v:KV} (r:Red n (2*n) n f c) (t:TabE n f v) (r':Red n (2*n) n f' c') (t':TabE n f' v):stTx n f n=stTx n f' n:=by
 have hc:=r.cols hn t r' t'
 have he:∀j,j<n→f j=f' j:=fun j hj=>by
  have hf:Fit n (f j):=by obtain ⟨g,tg⟩:=t;exact tg.fF j hj
  have hx:Fx (f j) v:=by obtain ⟨g,tg⟩:=t;exact tg.fix j hj
  have hf':Fit n (f' j):=by obtain ⟨g,tg⟩:=t';exact tg.fF j hj
  have hx':Fx (f' j) v:=by obtain ⟨g,tg⟩:=t';exact tg.fix j hj
  exact r.same hn t hf hf' hx hx' fun i hi=>by rw [r.piv j i hj hi,hc i hi,r'.piv j i hj hi]
 unfold stTx
 exact List.map_congr_left fun i hi=>by rw [he i (List.mem_range.1 hi)]
def ctlK (a:Nat) (p:Pau) (u:KV):KV:=fun y=>if y.testBit a=true then pauK p u y else u y
theorem flb_ne {a q:Nat} (h:q≠a) (y:Nat):(fl (q:Int) y).testBit a=y.testBit a:=by
 rw [UO,Int.toNat_natCast,decide_eq_false h]
 cases y.testBit a<;>rfl
theorem cx_ctl {a q:Nat} (h:q≠a) (p:Pau) (u:KV):xK [(a:Int)] (q:Int) (ctlK a p u)=fun y=>if y.testBit a=true then xK [] (q:Int) (pauK p u) y else u y:=by
 funext y
 show (if onesB [(a:Int)] y=true then ctlK a p u (fl (q:Int) y) else ctlK a p u y)=_
 rw [ones1,Int.toNat_natCast]
 unfold ctlK
 by_cases e:y.testBit a=true
 ·rw [if_pos e,if_pos (by rw [flb_ne h];exact e),if_pos e];rfl
 ·rw [if_neg e,if_neg e,if_neg e]
theorem ones2 (a q y:Nat):onesB ([(a:Int)]++[(q:Int)]) y=(y.testBit a&&y.testBit q):=by simp [onesB,bt]
theorem cz_ctl {a q:Nat} (p:Pau) (u:KV):pK ([(a:Int)]++[(q:Int)]) 8 (ctlK a p u)=fun y=>if y.testBit a=true then pK [(q:Int)] 8 (pauK p u) y else u y:=by
 funext y
 show (if onesB ([(a:Int)]++[(q:Int)]) y=true then turnZ (ctlK a p u y) 8 else ctlK a p u y)=_
 rw [ones2]
 unfold ctlK pK
 rw [ones1,Int.toNat_natCast]
 by_cases e:y.testBit a=true
 ·rw [if_pos e,if_pos e,e,Bool.true_and]
 ·rw [if_neg e,if_neg e]
  cases h:y.testBit a with
  | true=>exact absurd h e
  | false=>rfl
theorem cy_ctl {a q:Nat} (h:q≠a) (p:Pau) (u:KV):pK [(q:Int)] 4 (xK [(a:Int)] (q:Int) (pK [(q:Int)] 12 (ctlK a p u)))=fun y=>if y.testBit a=true then pK [] 4 (xK [] (q:Int) (pK [(q:Int)] 8 (pauK p u))) y else u y:=by
 funext y
 rw [HI,Int.toNat_natCast]
 show turnZ (if onesB [(a:Int)] y=true then pK [(q:Int)] 12 (ctlK a p u) (fl (q:Int) y) else pK [(q:Int)] 12 (ctlK a p u) y) (4*bi (y.testBit q))=_
 rw [ones1,Int.toNat_natCast,HI,HI,Int.toNat_natCast]
 unfold ctlK
 by_cases e:y.testBit a=true
 ·rw [if_pos e,if_pos (by rw [flb_ne h];exact e),if_pos e,pK_nil,Uh,HI,Int.toNat_natCast,kF,kF]
  apply kn
  rw [UO,Int.toNat_natCast]
  cases y.testBit q<;>simp [bi]
 ·rw [if_neg e,if_neg e,if_neg e,kF]
  rw [kn (l:=0) _ (by cases y.testBit q<;>simp [bi]),ky]
def mL (a:Nat) (q:Nat) (l:Lt):List GOp:=
 if l.1=true then (if l.2=true then [((4:Int),(12:Int),[],(q:Int),(0:Int),[]),((2:Int),(0:Int),[(a:Int)],(q:Int),(0:Int),[]),((4:Int),(4:Int),[],(q:Int),(0:Int),[])] else [((2:Int),(0:Int),[(a:Int)],(q:Int),(0:Int),[])])
 else (if l.2=true then [((4:Int),(8:Int),[(a:Int)],(q:Int),(0:Int),[])] else [])
theorem mL_run {a q:Nat} (h:q≠a) (l:Lt) (p:Pau) (u:KV):runK (mL a q l) (ctlK a p u)=fun y=>if y.testBit a=true then lK q l (pauK p u) y else u y:=by
 obtain ⟨b,d⟩:=l
 cases b<;>cases d
 ·rfl
 ·show gateK (4,8,[(a:Int)],(q:Int),0,[]) (ctlK a p u)=_
  rw [VC _ _ _ _ _ _ (by decide),cz_ctl]
  rfl
 ·show gateK (2,0,[(a:Int)],(q:Int),0,[]) (ctlK a p u)=_
  rw [HD,cx_ctl h]
  rfl
 ·show gateK (4,4,[],(q:Int),0,[]) (gateK (2,0,[(a:Int)],(q:Int),0,[]) (gateK (4,12,[],(q:Int),0,[]) (ctlK a p u)))=_
  rw [VC _ _ _ _ _ _ (by decide),HD,VC _ _ _ _ _ _ (by decide)]
  exact cy_ctl h p u
def mP (a:Nat) (w:Wd):Nat→List GOp
 | 0=>[]
 | k+1=>mP a w k++mL a k (w.getD k (false,false))
theorem mP_run {a:Nat} (ha:a<12) {w:Wd} (u:KV):∀{k},k≤w.length→w.length≤a→runK (mP a w k) u=ctlK a (pu (w.take k) false) u
 | 0,_,_=>by
   rw [List.take_zero]
   funext y
   show u y=ctlK a (pu [] false) u y
   unfold ctlK
   rw [show pu [] false=⟨0,0,false⟩ from rfl,pau_none]
   split<;>rfl
 | k+1,hk,hw=>by
   have hB:Bare (pu (w.take k) false) k:=(HU (by rw [List.length_take];omega) false).bare k (Nat.le_refl _)
   have hL:=letter_pau (q:=k) (by omega) hB (w.getD k (false,false)) u
   have hT:=pu_take (w:=w) (k:=k) (by omega)
   have hm:(pu (w.take k) false).m=false:=rfl
   rw [hm] at hL
   rw [←hT] at hL
   rw [mP,HL,mP_run ha u (by omega) hw,mL_run (by omega),hL]
   rfl
theorem half2 (a:K):K.add (K.half (K.half a)) (K.half (K.half a))=a:=by
 apply K.eq_of<;>simp only [K.half,K.sm,K.sub,K.turn,K.turn1,K.neg,K.add]<;>grind
theorem half2_neg (a:K):K.add (K.half (K.half a)) (K.half (K.half (K.neg a)))=K.zero:=by
 apply K.eq_of<;>simp only [K.half,K.sm,K.sub,K.turn,K.turn1,K.neg,K.add,K.zero]<;>grind
theorem half_zero:K.half K.zero=K.zero:=by
 apply K.eq_of<;>simp only [K.half,K.sm,K.sub,K.turn,K.turn1,K.neg,K.add,K.zero]<;>grind
theorem add_zero_l (a:K):K.add K.zero a=a:=by
 apply K.eq_of<;>simp only [K.add,K.zero]<;>grind
def Off (a:Nat) (v:KV):Prop:=∀y,y.testBit a=true→v y=K.zero
theorem Ub (a y:Nat):(fl (a:Int) y).testBit a=!y.testBit a:=by
 rw [UO,Int.toNat_natCast,decide_eq_true rfl]
 cases y.testBit a<;>rfl
theorem h_off {a:Nat} {v:KV} (hv:Off a v) (y:Nat):hK (a:Int) v y=K.half (v (if y.testBit a=true then fl (a:Int) y else y)):=by
 rw [hK_turn,Int.toNat_natCast,ky]
 by_cases e:y.testBit a=true
 ·rw [if_pos e,hv y e,Yp,half_zero,K.add_zero]
 ·rw [if_neg e,hv (fl (a:Int) y) (by rw [Ub];cases h:y.testBit a<;>simp_all),half_zero,add_zero_l]
  cases h:y.testBit a with
  | true=>exact absurd h e
  | false=>rw [show 8*bi false=(0:Int) by rfl,ky]
theorem ph_bare {p:Pau} {a:Nat} (ha:a<12) (hb:Bare p a) (y:Nat):phP p (fl (a:Int) y)=phP p y:=by
 rw [ph_fl p (q:=(a:Int)) ha y,Int.toNat_natCast,hb.1,hb.2]
 simp [eP,bi]
theorem meas_run {a:Nat} (ha:a<12) {p:Pau} (hb:Bare p a) {v:KV} (hv:Off a v) {s:Bool} (hs:∀y,pauK p v y=turnZ (v y) (8*bi s)) :
 hK (a:Int) (ctlK a p (hK (a:Int) v))=if s=true then xK [] (a:Int) v else v:=by
 have hu1:=h_off hv
 have hu2:∀y,ctlK a p (hK (a:Int) v) y=K.half (turnZ (v (if y.testBit a=true then fl (a:Int) y else y)) (8*bi (s&&y.testBit a))):=fun y=>by
  unfold ctlK
  by_cases e:y.testBit a=true
  ·rw [if_pos e,if_pos e,e,Bool.and_true,←hs]
   unfold pauK
   rw [hu1,Nat.testBit_xor,hb.1,e,if_pos (by rfl),VA,fl_tg,ph_bare ha hb]
  ·rw [if_neg e,if_neg e,hu1,if_neg e]
   cases h:y.testBit a with
   | true=>exact absurd h e
   | false=>rw [Bool.and_false,show 8*bi false=(0:Int) by rfl,ky]
 funext y
 rw [hK_turn,Int.toNat_natCast,ky,hu2,hu2,Ub,fl_fl,VA]
 cases e:y.testBit a with
 | false=>
   rw [show (!false)=true from rfl,if_pos rfl,if_neg (by decide),Bool.and_true,Bool.and_false,show 8*bi false=(0:Int) by rfl,ky,ky]
   cases s with
   | false=>rw [show 8*bi false=(0:Int) by rfl,ky,if_neg (by decide)];exact half2 _
   | true=>
     rw [if_pos rfl,Uh,hv (fl (a:Int) y) (by rw [Ub,e];rfl)]
     have:=half2_neg (v y)
     rw [K.add_comm] at this
     exact this
 | true=>
   rw [show (!true)=false from rfl,if_neg (by decide),if_pos rfl,Bool.and_true,Bool.and_false,show 8*bi false=(0:Int) by rfl,ky,kF]
   cases s with
   | false=>
     rw [if_neg (by decide),hv y e]
     exact half2_neg _
   | true=>
     rw [if_pos rfl,Uh,UY _ (by rfl)]
     exact half2 _
theorem gZ_eq (q:Nat) (p:Pau):gS q (gS q p)=⟨p.x,p.z,p.m !=p.x.testBit q⟩:=by
 refine Pau.ext' (fun j=>rfl) (fun j=>?_) ?_
 ·rw [gS_z,gS_z]
  show (if q=j then ((if q=j then (p.z.testBit j !=p.x.testBit j) else p.z.testBit j) !=p.x.testBit j) else (if q=j then (p.z.testBit j !=p.x.testBit j) else p.z.testBit j))=p.z.testBit j
  by_cases e:q=j
  ·rw [if_pos e,if_pos e];cases p.z.testBit j<;>cases p.x.testBit j<;>rfl
  ·rw [if_neg e,if_neg e]
 ·show ((p.m !=(p.x.testBit q&&p.z.testBit q)) !=(p.x.testBit q&&(gS q p).z.testBit q))=_
  rw [gS_z,if_pos rfl]
  cases p.m<;>cases p.x.testBit q<;>cases p.z.testBit q<;>rfl
def pL (q:Nat) (l:Lt):List GOp:=(if l.2=true then [opZ q] else [])++(if l.1=true then [opX q] else [])
def pO (w:Wd):Nat→List GOp
 | 0=>[]
 | k+1=>pO w k++pL k (w.getD k (false,false))
theorem pL_all {n q:Nat} (h:q<n) (l:Lt):∀o∈pL q l,Own n o:=by
 unfold pL
 intro o ho
 rcases List.mem_append.1 ho with ho | ho
 ·split at ho
  ·rw [List.mem_singleton.1 ho];exact Own_Z h
  ·cases ho
 ·split at ho
  ·rw [List.mem_singleton.1 ho];exact Own_X h
  ·cases ho
theorem pO_all {n:Nat} (w:Wd):∀{k},k≤n → ∀o∈pO w k,Own n o
 | 0,_=>fun o ho=>by cases ho
 | k+1,hk=>fun o ho=>by
   rcases List.mem_append.1 ho with ho | ho
   ·exact pO_all w (by omega) o ho
   ·exact pL_all (by omega) _ o ho
theorem pO_len (w:Wd):∀k,(pO w k).length≤2*k
 | 0=>by simp [pO]
 | k+1=>by
   have:=pO_len w k
   have h2:(pL k (w.getD k (false,false))).length≤2:=by unfold pL;rw [List.length_append];split<;>split<;>simp
   rw [pO,List.length_append]
   omega
theorem gPs_pL (q:Nat) (l:Lt) (p:Pau):gPs (pL q l) p=⟨p.x,p.z,p.m !=((p.x.testBit q&&l.2) !=(p.z.testBit q&&l.1))⟩:=by
 obtain ⟨b,d⟩:=l
 unfold pL
 cases b<;>cases d
 ·show p=_
  obtain ⟨x,z,m⟩:=p
  simp
 ·show gP (opZ q) p=_
  rw [gP_Z,gZ_eq]
  simp
 ·show gP (opX q) p=_
  rw [gP_X]
  unfold gX
  simp
 ·show gP (opX q) (gP (opZ q) p)=_
  rw [gP_Z,gZ_eq,gP_X]
  unfold gX
  simp only [Bool.and_true]
  cases p.m<;>cases p.x.testBit q<;>cases p.z.testBit q<;>rfl
theorem gPs_pO (w:Wd) (p:Pau):∀k,gPs (pO w k) p=⟨p.x,p.z,p.m !=parB (fun j=>(p.x.testBit j&&(w.getD j (false,false)).2) !=(p.z.testBit j&&(w.getD j (false,false)).1)) k⟩
 | 0=>by
   obtain ⟨x,z,m⟩:=p
   simp [pO,Yw,parB]
 | k+1=>by
   rw [pO,YJ,gPs_pO w p k,gPs_pL,parB]
   simp only
   congr 1
   cases p.m<;>cases parB _ k<;>cases (p.x.testBit k&&(w.getD k (false,false)).2)<;>cases (p.z.testBit k&&(w.getD k (false,false)).1)<;>rfl
theorem gPs_word {w:Wd} (p:Pau):gPs (pO w w.length) p=⟨p.x,p.z,p.m !=sym w.length p (pu w false)⟩:=by
 rw [gPs_pO]
 unfold sym
 congr 2
 exact Vf fun j _=>by rw [pu_x,pu_z]
theorem error_sign {n:Nat} (hn:n≤12) {p:Pau} {v:KV} (hx:Fx p v) {w:Wd} (hw:w.length=n) (y:Nat) :
 pauK p (runK (pO w n) v) y=turnZ (runK (pO w n) v y) (8*bi (sym n p (pu w false))):=by
 have hst:∀o∈pO w n,StO n o:=fun o ho=>(pO_all w (Nat.le_refl n) o ho).sto
 have h:=HW hn (pO w n) hst p v
 rw [hx] at h
 have h2:gPs (pO w n) p=⟨p.x,p.z,p.m !=sym n p (pu w false)⟩:=by
  have:=gPs_word (w:=w) p
  rw [hw] at this
  exact this
 have h3:pauK (gPs (pO w n) p) (runK (pO w n) v)=runK (pO w n) v:=h.symm
 rw [h2] at h3
 have h4:=congrFun h3 y
 generalize runK (pO w n) v=u at h4 ⊢
 generalize sym n p (pu w false)=s at h4 ⊢
 rw [←h4]
 unfold pauK
 rw [kF]
 apply kn
 unfold phP
 simp only
 cases s<;>cases p.m<;>simp [bi]<;>omega
end Go.Ql
end

section
set_option maxHeartbeats 1000000
namespace Go.Ql
def gM (a:Nat) (g:Tx):List GOp:=opH a::(mP a (wd g) (wd g).length++((if sgn g=true then [opZ a] else [])++[opH a]))
def oM (a i:Nat):GOp:=((5:Int),(0:Int),[],(a:Int),(i:Int),[])
def oR (a:Nat):GOp:=((6:Int),(0:Int),[],(a:Int),(0:Int),[])
def mOne (a i:Nat) (g:Tx):List GOp:=gM a g++[oM a i,oR a]
def mAll (a:Nat):Nat→List Tx→List GOp
 | _,[]=>[]
 | i,g::gs=>mOne a i g++mAll a (i+1) gs
theorem mAll_app (a:Nat):∀(p q:List Tx) (i:Nat),mAll a i (p++q)=mAll a i p++mAll a (i+p.length) q
 | [],q,i=>by simp [mAll]
 | g::p,q,i=>by
   rw [List.cons_append,mAll,mAll,mAll_app a p q (i+1),List.append_assoc,List.length_cons]
   congr 3
   omega
theorem mL_len (a q:Nat) (l:Lt):(mL a q l).length≤3:=by unfold mL;split<;>split<;>simp
theorem mP_len (a:Nat) (w:Wd):∀k,(mP a w k).length≤3*k
 | 0=>by simp [mP]
 | k+1=>by
   have:=mP_len a w k
   have:=mL_len a k (w.getD k (false,false))
   rw [mP,List.length_append]
   omega
theorem mOne_len {a:Nat} (i:Nat) {g:Tx} (hg:isP g a=true):(mOne a i g).length≤3*a+5:=by
 have h:=mP_len a (wd g) (wd g).length
 have hw:=(Yq hg).2.2.1
 unfold mOne gM
 simp only [List.length_append,List.length_cons,List.length_nil]
 split<;>simp<;>omega
theorem mAll_len {a:Nat}:∀(gs:List Tx) (i:Nat),(∀g∈gs,isP g a=true)→(mAll a i gs).length≤gs.length*(3*a+5)
 | [],_,_=>by simp [mAll]
 | g::gs,i,h=>by
   have h1:=mOne_len i (h g (List.mem_cons_self ..))
   have h2:=mAll_len gs (i+1) fun x hx=>h x (List.mem_cons_of_mem _ hx)
   rw [mAll,List.length_append,List.length_cons,Nat.succ_mul]
   omega
theorem gM_pure (a:Nat) (g:Tx):∀o∈gM a g,o.1<5∧o.2.2.2.2.2=[]:=by
 have hL:∀q l,∀o∈mL a q l,o.1<5∧o.2.2.2.2.2=[]:=by
  intro q l o ho
  unfold mL at ho
  split at ho
  ·split at ho
   ·rcases List.mem_cons.1 ho with rfl | ho
    ·exact ⟨by show (4:Int)<5;decide,rfl⟩
    ·rcases List.mem_cons.1 ho with rfl | ho
     ·exact ⟨by show (2:Int)<5;decide,rfl⟩
     ·rw [List.mem_singleton.1 ho];exact ⟨by show (4:Int)<5;decide,rfl⟩
   ·rw [List.mem_singleton.1 ho];exact ⟨by show (2:Int)<5;decide,rfl⟩
  ·split at ho
   ·rw [List.mem_singleton.1 ho];exact ⟨by show (4:Int)<5;decide,rfl⟩
   ·cases ho
 have hP:∀k,∀o∈mP a (wd g) k,o.1<5∧o.2.2.2.2.2=[]:=by
  intro k
  induction k with
  | zero=>intro o ho;cases ho
  | succ k ih=>
    intro o ho
    rcases List.mem_append.1 ho with ho | ho
    ·exact ih o ho
    ·exact hL _ _ o ho
 intro o ho
 rcases List.mem_cons.1 ho with rfl | ho
 ·exact ⟨by show (3:Int)<5;decide,rfl⟩
 ·rcases List.mem_append.1 ho with ho | ho
  ·exact hP _ o ho
  ·rcases List.mem_append.1 ho with ho | ho
   ·split at ho
    ·rw [List.mem_singleton.1 ho];exact ⟨by show (4:Int)<5;decide,rfl⟩
    ·cases ho
   ·rw [List.mem_singleton.1 ho];exact ⟨by show (3:Int)<5;decide,rfl⟩
theorem gate_opH (q:Nat) (v:KV):gateK (opH q) v=hK (q:Int) v:=HR _ _ _ _ _
theorem gate_opZ (q:Nat) (v:KV):gateK (opZ q) v=pK [(q:Int)] 8 v:=VC _ _ _ _ _ _ (by decide)
theorem sign_ctl (a:Nat) (w:Wd) (u:KV):pK [(a:Int)] 8 (ctlK a (pu w false) u)=ctlK a (pu w true) u:=by
 funext y
 rw [HI,Int.toNat_natCast]
 unfold ctlK
 by_cases e:y.testBit a=true
 ·rw [if_pos e,if_pos e,e]
  exact congrFun (pau_minus (pu w false) u) y
 ·rw [if_neg e,if_neg e]
  cases h:y.testBit a with
  | true=>exact absurd h e
  | false=>rw [show 8*bi false=(0:Int) by rfl,ky]
theorem gM_run {a:Nat} (ha:a<12) {g:Tx} (hg:isP g a=true) {v:KV} (hv:Off a v) {s:Bool} (hs:∀y,pauK (pg g) v y=turnZ (v y) (8*bi s)) :
 runK (gM a g) v=if s=true then xK [] (a:Int) v else v:=by
 have hw:=(Yq hg).2.2.1
 have hfit:Fit a (pg g):=HU hw _
 have hb:Bare (pg g) a:=hfit.bare a (Nat.le_refl a)
 have hc:runK (if sgn g=true then [opZ a] else []) (ctlK a (pu (wd g) false) (hK (a:Int) v))=ctlK a (pg g) (hK (a:Int) v):=by
  unfold pg
  cases sgn g with
  | true=>rw [if_pos rfl];show gateK (opZ a) _=_;rw [gate_opZ,sign_ctl]
  | false=>rw [if_neg (by decide)];rfl
 unfold gM
 rw [runK,gate_opH,HL,mP_run ha (hK (a:Int) v) (Nat.le_refl _) (by omega),List.take_of_length_le (Nat.le_refl _),HL,hc]
 show gateK (opH a) _=_
 rw [gate_opH]
 exact meas_run ha hb hv hs
theorem stabK_pure (tape:List Int):∀{l:List GOp},(∀o∈l,o.1<5∧o.2.2.2.2.2=[]) → ∀(r:List GOp) (i:Nat) (v:KV) (bits:List Int) (u:Nat),stabK tape i (l++r) (v,bits,u)=stabK tape (i+l.length) r (runK l v,bits,u)
 | [],_,r,i,v,bits,u=>rfl
 | o::l,h,r,i,v,bits,u=>by
   have ho:=h o (List.mem_cons_self ..)
   have hc:condK bits o=true:=by unfold condK;rw [ho.2];rfl
   rw [List.cons_append,stabK,if_neg (by simp [hc]),if_pos ho.1,stabK_pure tape (fun x hx=>h x (List.mem_cons_of_mem _ hx)),runK,List.length_cons]
   congr 1
   omega
theorem off_out {a:Nat} {v:KV} (hv:Off a v) (s:Bool):outK (a:Int) (bi s) (if s=true then xK [] (a:Int) v else v)=(if s=true then xK [] (a:Int) v else v):=by
 funext y
 cases s with
 | false=>
   show (if y.testBit a=false then v y else K.zero)=v y
   by_cases e:y.testBit a=false
   ·rw [if_pos e]
   ·rw [if_neg e,hv y (by cases h:y.testBit a<;>simp_all)]
 | true=>
   show (if y.testBit a=true then xK [] (a:Int) v y else K.zero)=xK [] (a:Int) v y
   by_cases e:y.testBit a=true
   ·rw [if_pos e]
   ·rw [if_neg e,Uh,hv _ (by rw [Ub];cases h:y.testBit a<;>simp_all)]
theorem off_not {a:Nat} {v:KV} (hv:Off a v) (s:Bool):outK (a:Int) (bi !s) (if s=true then xK [] (a:Int) v else v)=fun _=>K.zero:=by
 funext y
 cases s with
 | false=>
   show (if y.testBit a=true then v y else K.zero)=K.zero
   by_cases e:y.testBit a=true
   ·rw [if_pos e,hv y e]
   ·rw [if_neg e]
 | true=>
   show (if y.testBit a=false then xK [] (a:Int) v y else K.zero)=K.zero
   by_cases e:y.testBit a=false
   ·rw [if_pos e,Uh,hv _ (by rw [Ub,e];rfl)]
   ·rw [if_neg e]
theorem off_some {a:Nat} {v:KV} (h:SomeK v) (s:Bool):¬(if s=true then xK [] (a:Int) v else v)=fun _=>K.zero:=by
 obtain ⟨y,hy⟩:=h
 intro e
 cases s with
 | false=>rw [if_neg (by decide)] at e;exact hy (congrFun e y)
 | true=>
   rw [if_pos rfl] at e
   have:=congrFun e (fl (a:Int) y)
   rw [Uh,fl_fl] at this
   exact hy this
theorem bi_bad (s:Bool):¬(bi s≠0∧bi s≠1):=by cases s<;>simp [bi]
theorem stabK_meet {tape:List Int} {i:Nat} {o:GOp} {l:List GOp} {s:SK} (hc:condK s.2.1 o=true) (h5:¬o.1<5) (hu:s.2.2≠tape.length) (hb:¬(tape.getD s.2.2 0≠0∧tape.getD s.2.2 0≠1)) (hne:¬outK o.2.2.2.1 (tape.getD s.2.2 0) s.1=(fun _=>K.zero)) :
 stabK tape i (o::l) s=stabK tape (i+1) l (meetK o (tape.getD s.2.2 0) s):=by
 rw [stabK,if_neg (by simp [hc]),if_neg h5,if_neg hu,if_neg hb,if_neg hne]
theorem stabK_not {tape:List Int} {i:Nat} {o:GOp} {l:List GOp} {s:SK} (hc:condK s.2.1 o=true) (h5:¬o.1<5) (hu:s.2.2≠tape.length) (hb:¬(tape.getD s.2.2 0≠0∧tape.getD s.2.2 0≠1)) (hne:outK o.2.2.2.1 (tape.getD s.2.2 0) s.1=(fun _=>K.zero)) :
 stabK tape i (o::l) s=.inl (20,i):=by
 rw [stabK,if_neg (by simp [hc]),if_neg h5,if_neg hu,if_neg hb,if_pos hne]
theorem one_stab {a:Nat} (ha:a<12) {g:Tx} (hg:isP g a=true) {v:KV} (hv:Off a v) (hsome:SomeK v) {s:Bool} (hs:∀y,pauK (pg g) v y=turnZ (v y) (8*bi s)) {tape:List Int} {u:Nat} (hu:u+1<tape.length) (h1:tape.getD u 0=bi s) (h2:tape.getD (u+1) 0=bi s)
 (r:List GOp) (k i:Nat) (bits:List Int):stabK tape k (mOne a i g++r) (v,bits,u)=stabK tape (k+(mOne a i g).length) r (v,bits.set i (bi s),u+2):=by
 have e1:=stabK_pure tape (gM_pure a g) ([oM a i,oR a]++r) k v bits u
 rw [gM_run ha hg hv hs] at e1
 have hback:(if bi s=1 then xK [] (a:Int) (if s=true then xK [] (a:Int) v else v) else (if s=true then xK [] (a:Int) v else v))=v:=by
  cases s with
  | false=>rw [if_neg (by decide),if_neg (by decide)]
  | true=>
    show xK [] (a:Int) (xK [] (a:Int) v)=v
    funext y
    rw [Uh,Uh,fl_fl]
 unfold mOne
 rw [List.append_assoc,e1]
 show stabK tape (k+(gM a g).length) (oM a i::oR a::r) _=_
 rw [stabK_meet (o:=oM a i) rfl (by show ¬(5:Int)<5;decide) (by show u≠_;omega) (by show ¬(tape.getD u 0≠0∧tape.getD u 0≠1);rw [h1];exact bi_bad s) (by show ¬outK (a:Int) (tape.getD u 0) _=_;rw [h1,off_out hv s];exact off_some hsome s)]
 have em:meetK (oM a i) (tape.getD u 0) (if s=true then xK [] (a:Int) v else v,bits,u)=(if s=true then xK [] (a:Int) v else v,bits.set i (bi s),u+1):=by
  rw [h1]
  unfold meetK oM
  simp only [ne_eq,not_true_eq_false,false_and,if_false,if_true,Int.toNat_natCast]
  rw [off_out hv s]
 show stabK tape _ (oR a::r) (meetK (oM a i) (tape.getD u 0) (if s=true then xK [] (a:Int) v else v,bits,u))=_
 rw [em,stabK_meet (o:=oR a) rfl (by show ¬(6:Int)<5;decide) (by show u+1≠_;omega) (by show ¬(tape.getD (u+1) 0≠0∧tape.getD (u+1) 0≠1);rw [h2];exact bi_bad s) (by show ¬outK (a:Int) (tape.getD (u+1) 0) _=_;rw [h2,off_out hv s];exact off_some hsome s)]
 have er:meetK (oR a) (tape.getD (u+1) 0) (if s=true then xK [] (a:Int) v else v,bits.set i (bi s),u+1)=(v,bits.set i (bi s),u+2):=by
  rw [h2]
  unfold meetK oR
  simp only [show ¬((6:Int)=5) by decide,ne_eq,not_false_eq_true,true_and,if_false]
  rw [off_out hv s,hback]
 show stabK tape _ r (meetK (oR a) (tape.getD (u+1) 0) (if s=true then xK [] (a:Int) v else v,bits.set i (bi s),u+1))=_
 rw [er]
 have hk:k+(gM a g++[oM a i,oR a]).length=k+(gM a g).length+1+1:=by rw [List.length_append];rfl
 rw [hk]
theorem all_stab {a:Nat} (ha:a<12) {v:KV} (hv:Off a v) (hsome:SomeK v) {S:Nat→Bool} {tape:List Int} {G:Nat} (hT:tape.length=2*G) (hTs:∀j,j<G→tape.getD (2*j) 0=bi (S j)∧tape.getD (2*j+1) 0=bi (S j)) :
 ∀(gs:List Tx) (i k:Nat) (bits:List Int),i+gs.length=G→(∀g∈gs,isP g a=true)→(∀j,(h:j<gs.length) → ∀y,pauK (pg gs[j]) v y=turnZ (v y) (8*bi (S (i+j)))) →
  (∀j,j<i→bits.getD j 0=bi (S j))→bits.length=G →
  ∃bits',stabK tape k (mAll a i gs) (v,bits,2*i)=.inr (v,bits',2*G)∧bits'.length=G ∧ ∀j,j<G→bits'.getD j 0=bi (S j)
 | [],i,k,bits,hi,_,_,hbits,hbl=>by
   have:i=G:=by simpa using hi
   subst this
   exact ⟨bits,rfl,hbl,hbits⟩
 | g::gs,i,k,bits,hi,hg,hs,hbits,hbl=>by
   rw [List.length_cons] at hi
   have hTi:=hTs i (by omega)
   have h0:=hs 0 (by simp)
   simp only [List.getElem_cons_zero,Nat.add_zero] at h0
   rw [mAll,one_stab ha (hg g (List.mem_cons_self ..)) hv hsome h0 (by omega) hTi.1 hTi.2,show 2*i+2=2*(i+1) by omega]
   refine all_stab ha hv hsome hT hTs gs (i+1) _ _ (by omega) (fun x hx=>hg x (List.mem_cons_of_mem _ hx)) (fun j hj y=>?_) (fun j hj=>?_) (by rw [List.length_set];exact hbl)
   ·have:=hs (j+1) (by rw [List.length_cons];omega) y
    rw [List.getElem_cons_succ,show i+(j+1)=i+1+j by omega] at this
    exact this
   ·rw [List.getD,List.getElem?_set]
    by_cases e:i=j
    ·subst e;rw [if_pos rfl,if_pos (by omega)];rfl
    ·rw [if_neg e];exact hbits j (by omega)
theorem first_not {a:Nat} (ha:a<12) {g:Tx} (hg:isP g a=true) {v:KV} (hv:Off a v) {s:Bool} (hs:∀y,pauK (pg g) v y=turnZ (v y) (8*bi s)) {tape:List Int} (hu:0<tape.length) (h1:tape.getD 0 0=bi !s)
 (gs:List Tx) (k:Nat) (bits:List Int):∃j,stabK tape k (mAll a 0 (g::gs)) (v,bits,0)=.inl (20,j):=by
 have e1:=stabK_pure tape (gM_pure a g) ([oM a 0,oR a]++mAll a 1 gs) k v bits 0
 rw [gM_run ha hg hv hs] at e1
 refine ⟨k+(gM a g).length,?_⟩
 rw [mAll]
 unfold mOne
 rw [List.append_assoc,e1]
 show stabK tape (k+(gM a g).length) (oM a 0::oR a::mAll a 1 gs) _=_
 exact stabK_not (o:=oM a 0) rfl (by show ¬(5:Int)<5;decide) (by show 0≠_;omega) (by show ¬(tape.getD 0 0≠0∧tape.getD 0 0≠1);rw [h1];exact bi_bad _) (by show outK (a:Int) (tape.getD 0 0) _=_;rw [h1];exact off_not hv s)
theorem Uf {o:GOp} {x y:Int} {l:List GOp} (h:l.length≤100000):W.Jr o x y l=some (l++[o],x,y,()):=by
 unfold W.Jr
 exact jr (Yg (n:=l.length+1) (k:=80) (by omega)) rfl
theorem gen_idx {g:Tx} {m q:Nat} (hg:isP g m=true) (hq:q<m):idx g ((q+1:Nat):Int)=some (enc ((wd g).getD q (false,false))):=by
 have hl:=Yq hg
 have ht:=isP_txt hg
 rw [JN (by omega)]
 congr 1
 have h1:(g.drop 1)[q]'(by omega)=(txt (wd g))[q]'(by rw [YK];omega):=by
  congr 1
 rw [List.getElem_drop] at h1
 have h2:g[q+1]'(by omega)=g[1+q]'(by omega):=by congr 1;omega
 rw [h2,h1]
 simp [txt,List.getD,List.getElem?_eq_getElem (show q<(wd g).length by omega)]
theorem letters_walk {m:Nat} (hm:m≤11) {g:Tx} (hg:isP g m=true) (x y:Int) {l:List GOp} (hl:l.length≤50000) :
 iter (fun s:Int×Int×Int×List GOp↦W.jv.cf_ g (m:Int) (Prod.fst s) (m:Int) (Prod.fst (Prod.snd s)) (Prod.fst (Prod.snd (Prod.snd s))) (Prod.snd (Prod.snd (Prod.snd s))) some) ((0:Int),x,y,l)=some ((m:Int),x,y,l++mP m (wd g) m):=by
 refine kD m (fun k=>((k:Int),x,y,l++mP m (wd g) k)) _ (fun k hk=>?_) ?_ (by simp [mP])
 ·have hlen:=mP_len m (wd g) k
  have hlk:(l++mP m (wd g) k).length≤60000:=by rw [List.length_append];omega
  unfold W.jv.cf_
  rw [ke (by simp only;omega)]
  have hc:W.jv.cy_ g (k:Int) (m:Int) x y (l++mP m (wd g) k) some=some (x,y,l++mP m (wd g) (k+1)):=by
   unfold W.jv.cy_
   rw [jH (by omega),show (k:Int)+1=((k+1:Nat):Int) by omega,gen_idx hg hk,ji,mP,←List.append_assoc]
   generalize l++mP m (wd g) k=L at hlk
   generalize (wd g).getD k (false,false)=a
   obtain ⟨a,b⟩:=a
   cases a<;>cases b
   ·rw [jF (by rfl),jF (by rfl),jF (by rfl)]
    simp [mL]
   ·rw [jF (by rfl),Jy (by rfl)]
    exact jr (Uf (by omega)) rfl
   ·rw [Jy (by rfl)]
    exact jr (Uf (by omega)) rfl
   ·rw [jF (by rfl),jF (by rfl),Jy (by rfl)]
    refine jr (Uf (by omega)) (jr (Uf (by rw [List.length_append];show _+1≤_;omega)) (jr (Uf (by rw [List.length_append,List.length_append];show _+1+1≤_;omega)) ?_))
    show some (x,y,L++_++_++_)=_
    rw [List.append_assoc,List.append_assoc]
    rfl
  refine jr hc ?_
  rw [jH (by simp only;omega)]
  rfl
 ·unfold W.jv.cf_
  rw [JS (by simp)]
theorem measurer_walk {m:Nat} (hm:m≤11) (x y:Int) {gs:List Tx} (hl:gs.length≤m) (hall:∀g∈gs,isP g m=true) :
 ∃i,iter (fun s:Int×Int×Int×List GOp↦W.jv.co_ gs (↑(List.length gs):Int) (Prod.fst s) (m:Int) (Prod.fst (Prod.snd s)) (Prod.fst (Prod.snd (Prod.snd s))) (Prod.snd (Prod.snd (Prod.snd s))) some) ((0:Int),x,y,[])=some (i,x,y,mAll m 0 gs):=by
 obtain ⟨r,h1,i,rfl⟩:=kG (f:=fun s:Int×Int×Int×List GOp↦W.jv.co_ gs (↑(List.length gs):Int) (Prod.fst s) (m:Int) (Prod.fst (Prod.snd s)) (Prod.fst (Prod.snd (Prod.snd s))) (Prod.snd (Prod.snd (Prod.snd s))) some) (l:=gs)
  (fun pre r s=>s=((pre.length:Int),x,y,mAll m 0 pre)) (fun r=>∃i,r=(i,x,y,mAll m 0 gs))
  (by
   rintro pre g r s hgs rfl
   have hlen2:=congrArg List.length hgs
   simp only [List.length_append,List.length_cons] at hlen2
   left
   have hg:=hall g (by rw [hgs];simp)
   have hpre:(mAll m 0 pre).length≤pre.length*(3*m+5):=mAll_len pre 0 fun x hx=>hall x (by rw [hgs];exact List.mem_append_left _ hx)
   have hb:pre.length*(3*m+5)≤11*38:=Nat.mul_le_mul (by omega) (by omega)
   have hwl:=(Yq hg).2.2.1
   have hml:=mP_len m (wd g) m
   refine ⟨(((pre.length+1:Nat):Int),x,y,mAll m 0 (pre++[g])),?_,by rw [List.length_append];rfl⟩
   unfold W.jv.co_
   rw [ke (by simp only;omega),show idx gs (pre.length:Int)=some g by rw [hgs];exact kK,ji]
   generalize hL:mAll m 0 pre=L at hpre ⊢
   refine jr (Uf (by simp only;omega)) (jr (letters_walk hm hg x y (by simp only [List.length_append,List.length_cons,List.length_nil];omega)) ?_)
   have hs:∀M:List GOp,M.length≤60000→W.jv.cW_ g (m:Int) x y M some=some (x,y,M++(if sgn g=true then [opZ m] else [])):=fun M hM=>by
    unfold W.jv.cW_
    rw [show idx g (0:Int)=some (g.getD 0 0) by
     have h0:0<g.length:=by have:=(Yq hg).1;omega
     have:=JN (l:=g) (i:=0) h0
     rw [show ((0:Nat):Int)=(0:Int) by rfl] at this
     rw [this];simp [List.getD,h0],ji,u8_45]
    cases e:(g.getD 0 0==45) with
    | true=>
      rw [Jy rfl,show sgn g=true from e,if_pos rfl]
      exact jr (Uf (by omega)) rfl
    | false=>
      rw [jF rfl,show sgn g=false from e,if_neg (by decide),List.append_nil]
   refine jr (hs _ (by simp only [List.length_append,List.length_cons,List.length_nil];omega)) ?_
   have hsl:(if sgn g=true then [opZ m] else []).length≤1:=by split<;>simp
   have hM:(L++[((3:Int),(0:Int),[],(m:Int),(0:Int),[])]++mP m (wd g) m++(if sgn g=true then [opZ m] else [])).length≤60000:=by
    rw [List.length_append,List.length_append,List.length_append]
    show _+1+_+_≤_
    omega
   refine jr (Uf (by simp only;omega)) (jr (Uf (by simp only [List.length_append,List.length_cons,List.length_nil] at hM ⊢;omega)) (jr (Uf (by simp only [List.length_append,List.length_cons,List.length_nil] at hM ⊢;omega)) ?_))
   rw [jH (by simp only;omega),mAll_app,hL]
   simp only [mAll,mOne,gM,List.append_nil,Nat.zero_add]
   rw [hwl]
   congr 1
   simp [opH,oM,oR,List.append_assoc])
  (by
   rintro s rfl
   refine ⟨((gs.length:Int),x,y,mAll m 0 gs),?_,_,rfl⟩
   unfold W.jv.co_
   rw [JS (by simp)])
  (s:=((0:Int),x,y,[])) rfl
 exact ⟨i,h1⟩
theorem measurer_ok (n:Int) (gs:List Tx) :
 ((chkC n gs).1≠0→W.jv (n,gs)=some (nix,chkC n gs)) ∧
 ((chkC n gs).1=0→n>11→W.jv (n,gs)=some (nix,(36,0))) ∧
 ((chkC n gs).1=0 → ∀m:Nat,n=m→m≤11→gs.length≤m→(∀g∈gs,isP g m=true)→W.jv (n,gs)=some ((((m+1:Nat):Int),(gs.length:Int),mAll m 0 gs),(0,0))):=by
 obtain ⟨L,h1,h2⟩:=pread_ok n gs
 refine ⟨fun h=>?_,fun h h11=>?_,fun h m hm m2 hl hall=>?_⟩
 ·unfold W.jv
  refine jr h1 ?_
  rw [Jy (by show ((chkC n gs).1 !=0)=true;simp [h])]
  rfl
 ·obtain ⟨_,m,rfl,m1,m2,_⟩:=HB h
  unfold W.jv
  refine jr h1 ?_
  rw [jF (by show ((chkC (m:Int) gs).1 !=0)=false;rw [h];rfl),ke (by simp only;rw [jH (by omega)];omega)]
 ·subst hm
  have hw:IntKind.i64.wrap ((m:Int)+(1:Int))=((m+1:Nat):Int):=by rw [jH (by omega)];omega
  obtain ⟨i,hi⟩:=measurer_walk (m:=m) m2 ((m+1:Nat):Int) (gs.length:Int) hl hall
  unfold W.jv
  refine jr h1 ?_
  rw [jF (by show ((chkC (m:Int) gs).1 !=0)=false;rw [h];rfl)]
  simp only
  rw [hw,JS (by omega)]
  exact jr hi rfl
end Go.Ql
end

section
set_option maxHeartbeats 1000000
namespace Go.Ql
theorem wone_c1 (k:Int):W.jk.c1 k some=some (decide (k<1∨6<k)):=by
 simp only [W.jk.c1,br_or];exact JZ (by simp)
theorem wone_c3 (k a:Int):W.jk.c3 k a some=some (decide (a<0∨15<a∨(¬(k=1∨k=4)∧a≠0))):=by
 simp only [W.jk.c3,turns_ok,br_or,VM,ji];exact JZ (by simp)
theorem wone_c5 (k q qn:Int):W.jk.c5 k q qn some=some (decide (q<0∨qn≤q∨(k=1∧q≠0))):=by
 simp only [W.jk.c5,br_or,VM];exact JZ (by simp)
theorem wone_c7 (k:Int) (l:List Int):W.jk.c7 k l some=some (decide (l≠[] ∧ ¬(k=2∨k=3∨k=4))):=by
 simp only [W.jk.c7,gate_ok,br_or,VM,ji];exact JZ (by cases l<;>simp)
theorem wone_c14 (q qn:Int):W.jk.c14 q qn some=some (decide (q<0∨qn≤q)):=by
 simp only [W.jk.c14,br_or];exact JZ (by simp)
theorem wone_c20 (k b bn:Int):W.jk.c20 k b bn some=some (decide ((k=5∧(b<0∨bn≤b))∨(k≠5∧b≠0))):=by
 by_cases hk:k=5
 ·subst hk
  simp only [W.jk.c20,beq_self_eq_true,bne_self_eq_false,br_tt,br_ff,br_or];exact JZ (by simp)
 ·simp only [W.jk.c20,beq_eq_false_iff_ne.2 hk,bne_iff_ne.2 hk,br_tt,br_ff];exact JZ (by simp [hk])
theorem wone_c27 (v bn:Int) (h:0≤bn∧bn≤12):W.jk.c27 v bn some=some (decide (v=0∨bn<v∨v < -bn)):=by
 simp only [W.jk.c27,br_or]
 rw [jH (by omega)]
 exact JZ (by simp)
theorem wone_ctl (q0 qn:Int) (h0:0≤q0∧q0<12) (hn:qn≤12) (l:List Int) (hl:l.length≤17592186043904) :
 ∃r,iter (fun s:Int×List Bool↦W.jk.ce_ l (l.length:Int) s.1 s.2 qn some) ((0:Int),List.set (List.replicate 12 false) q0.toNat true)=some r ∧
  ((∃u v,r=.inl (JT q0 qn [] l,u,v)∧JT q0 qn [] l≠0) ∨ ∃u,r=.inr u∧JT q0 qn [] l=0):=by
 refine kG (l:=l) (fun pre r s=>s.1=(pre.length:Int)∧s.2.length=12∧(∀j:Nat,j<12→s.2[j]?=some (decide ((j:Int)=q0∨(j:Int)∈pre)))∧JT q0 qn [] l=JT q0 qn pre r) _ ?_ ?_ ?_
 ·rintro pre a r ⟨i,seen⟩ rfl ⟨rfl,h1,h2,h3⟩
  simp only at h1 h2 ⊢
  simp only [List.length_append,List.length_cons] at hl
  simp only [W.jk.ce_,br_if,kK,ji,wone_c14]
  rw [if_pos Ve]
  rw [h3]
  by_cases ha:a<0∨qn≤a
  ·rw [if_pos (by simpa using ha)]
   exact .inr ⟨_,rfl,.inl ⟨_,_,by rw [JT,if_pos ha],by rw [JT,if_pos ha];decide⟩⟩
  ·rw [if_neg (by simpa using ha)]
   obtain ⟨n,rfl⟩:=Int.eq_ofNat_of_zero_le (show 0≤a by omega)
   have hn':n<12:=by omega
   rw [Jq (by simp;omega),Vt (by omega),VD,h2 n hn']
   simp only [ji]
   by_cases hb:(n:Int)=q0∨(n:Int)∈pre
   ·rw [if_pos (by simpa using hb)]
    exact .inr ⟨_,rfl,.inl ⟨_,_,by rw [JT,if_neg ha,if_pos hb],by rw [JT,if_neg ha,if_pos hb];decide⟩⟩
   ·rw [if_neg (by simpa using hb),jH (by omega)]
    refine .inl ⟨_,rfl,by simp,by simp [h1],?_,?_⟩
    ·intro j hj
     simp only [Int.toNat_natCast]
     rw [List.getElem?_set]
     by_cases hjn:n=j
     ·subst hjn;simp [h1,hn']
     ·rw [if_neg hjn,h2 j hj]
      simp only [List.mem_append,List.mem_singleton]
      congr 1
      simp only [decide_eq_decide]
      have:(j:Int)≠n:=by omega
      simp [this]
    ·show JT q0 qn pre (_::r)=_
     rw [JT,if_neg ha,if_neg hb]
 ·rintro ⟨i,seen⟩ ⟨rfl,h1,h2,h3⟩
  simp only [W.jk.ce_,br_if]
  rw [if_neg (by simp)]
  exact ⟨_,rfl,.inr ⟨_,rfl,by rw [h3];rfl⟩⟩
 ·refine ⟨rfl,by simp,fun j hj=>?_,rfl⟩
  rw [List.getElem?_set]
  by_cases hq:q0.toNat=j
  ·subst hq
   simp
   omega
  ·rw [if_neg hq]
   have:(j:Int)≠q0:=by omega
   rw [List.getElem?_replicate,if_pos hj]
   simp [this]
theorem wone_if (bn:Int) (h:0≤bn∧bn≤12) (l:List Int) (hl:l.length≤17592186043904) :
 ∃r,iter (fun s:Int↦W.jk.cg_ l (l.length:Int) s bn some) (0:Int)=some r ∧
  ((∃u,r=.inl u∧ifBad bn l) ∨ ∃u,r=.inr u ∧ ¬ifBad bn l):=by
 refine kG (l:=l) (fun pre r s=>s=(pre.length:Int) ∧ ∀v∈pre,¬(v=0∨bn<v∨v < -bn)) _ ?_ ?_ ?_
 ·rintro pre a r i rfl ⟨rfl,h1⟩
  simp only [List.length_append,List.length_cons] at hl
  simp only [W.jk.cg_,br_if,kK,ji,wone_c27 _ _ h]
  rw [if_pos Ve]
  by_cases ha:a=0∨bn<a∨a < -bn
  ·rw [if_pos (by simpa using ha)]
   exact .inr ⟨_,rfl,.inl ⟨_,rfl,a,by simp,ha⟩⟩
  ·rw [if_neg (by simpa using ha),jH (by omega)]
   refine .inl ⟨_,rfl,by simp,fun v hv=>?_⟩
   rcases List.mem_append.1 hv with hv | hv
   ·exact h1 v hv
   ·rw [List.mem_singleton.1 hv];exact ha
 ·rintro i ⟨rfl,h1⟩
  simp only [W.jk.cg_,br_if]
  rw [if_neg (by simp)]
  exact ⟨_,rfl,.inr ⟨_,rfl,fun ⟨v,hv,hb⟩=>h1 v hv hb⟩⟩
 ·exact ⟨rfl,fun v hv=>by cases hv⟩
theorem wone_ok (o:Op) (qn bn:Int) (lo ln:Int) (ops:List Op) (ho:WOp o) (hq:1≤qn∧qn≤12) (hb:0≤bn∧bn≤12) :
 W.jk o qn bn lo ln ops=some (opBad o qn bn,qn,bn,lo,ln,ops,()):=by
 obtain ⟨k,a,ctl,q,bit,cond⟩:=o
 obtain ⟨ho1,ho2⟩:=ho
 simp only at ho1 ho2
 simp only [W.jk,wone_c1,wone_c3,wone_c5,wone_c7,ji,br_if,opBad,decide_eq_true_eq]
 split
 ·rfl
 ·split
  ·rfl
  ·split
   ·rfl
   ·rename_i h1 h2 h3
    split
    ·rfl
    ·obtain ⟨n,rfl⟩:=Int.eq_ofNat_of_zero_le (show 0≤q by omega)
     have hn':n<12:=by omega
     rw [Jq (by simp;omega),Vt (by simpa using hn'),VD]
     simp only [ji,List.getElem?_replicate,hn',if_true]
     obtain ⟨r,hr,hr'⟩:=wone_ctl n qn (by omega) hq.2 ctl ho1
     rw [hr,ji]
     rcases hr' with ⟨u,v,rfl,h⟩ | ⟨u,rfl,h⟩
     ·rw [kH,if_pos h]
     ·rw [kh,if_neg (show ¬(JT (n:Int) qn [] ctl≠0) by simp [h])]
      simp only [wone_c20,ji,decide_eq_true_eq]
      split
      ·rfl
      ·by_cases h24:24<cond.length
       ·rw [if_pos (by omega),if_pos h24]
       ·rw [if_neg (by omega),if_neg h24]
        obtain ⟨r,hr,hr'⟩:=wone_if bn hb cond ho2
        rw [hr,ji]
        rcases hr' with ⟨u,rfl,h⟩ | ⟨u,rfl,h⟩
        ·rw [kH,if_pos h]
        ·rw [kh,if_neg h]
theorem Yh {α:Type} (l:List α):part (0:Int) (↑(List.length l):Int) l=l:=by
 unfold part
 simp
theorem wcheck_ok {n bn:Int} {ops:List GOp} (hw:WCir (n,bn,ops)) (hk:chk (n,bn,ops)=(0,0)):W.jA n bn (0:Int) (↑(List.length ops):Int) ops=some (((0:Int),(0:Int)),ops,()):=by
 obtain ⟨hg,-⟩:=good_of (c:=(n,bn,ops)) (by rw [hk])
 have hq:=hg.q
 have hb:=hg.b
 have hl:=hg.n
 have hop:=hg.ops
 simp only at hq hb hl hop
 have h1:W.jA.c1 n some=some false:=by
  unfold W.jA.c1
  rw [JS (by omega),decide_eq_false (by omega)]
 have h3:W.jA.c3 bn some=some false:=by
  unfold W.jA.c3
  rw [JS (by omega),decide_eq_false (by omega)]
 obtain ⟨y,y1,u,hu,hx⟩:=kG (f:=fun s:Int×Int×Int×Int×Int×List GOp↦W.jA.cc_ (0:Int) (↑(List.length ops):Int) (↑(List.length (part (0:Int) (↑(List.length ops):Int) ops)):Int) (Prod.fst s) (Prod.fst (Prod.snd s)) (Prod.fst (Prod.snd (Prod.snd s))) (Prod.fst (Prod.snd (Prod.snd (Prod.snd s)))) (Prod.fst (Prod.snd (Prod.snd (Prod.snd (Prod.snd s))))) (Prod.snd (Prod.snd (Prod.snd (Prod.snd (Prod.snd s))))) some) (l:=ops)
  (fun pre r s=>s=((pre.length:Int),n,bn,(0:Int),(↑(List.length ops):Int),ops)) (fun y=>∃u,y=.inr u∧u.2.2.2.2.2=ops)
  (by
   rintro pre o r s he rfl
   have hlen2:=congrArg List.length he
   simp only [List.length_append,List.length_cons] at hlen2
   have hm:o∈ops:=by rw [he];simp
   left
   refine ⟨(((pre.length+1:Nat):Int),n,bn,(0:Int),(↑(List.length ops):Int),ops),?_,by rw [List.length_append];rfl⟩
   unfold W.jA.cc_
   rw [Yh,ke (by simp only;omega)]
   refine jr (Jq (by simp only [Bool.and_eq_true,decide_eq_true_eq];exact ⟨Int.natCast_nonneg _,by omega⟩)) (jr (show idx ops ((0:Int)+(pre.length:Int))=some o by rw [Int.zero_add,he];exact kK) ?_)
   refine jr (wone_ok o n bn _ _ ops (hw.2 o hm) hq hb) ?_
   rw [jF (by simp [hop o hm]),jH (by simp only;omega)]
   rfl)
  (by
   rintro s rfl
   refine ⟨.inr ((ops.length:Int),n,bn,(0:Int),(↑(List.length ops):Int),ops),?_,_,rfl,rfl⟩
   unfold W.jA.cc_
   rw [Yh,JS (by simp)])
  (s:=((0:Int),n,bn,(0:Int),(↑(List.length ops):Int),ops)) rfl
 subst hu
 unfold W.jA
 refine jr h1 ?_
 rw [jF rfl]
 refine jr h3 ?_
 rw [jF rfl,JS (by rw [Yh];omega)]
 refine jr y1 ?_
 rw [kh,hx]
theorem wstranger_ok {n bn:Int} {ops:List GOp} (hl:ops.length≤4100) (hs:(Yd 0 ops).1=0):W.jJ n bn (0:Int) (↑(List.length ops):Int) ops=some (((0:Int),(0:Int)),ops,()):=by
 have hn:=(strange_zero hs).1
 obtain ⟨y,y1,u,hu⟩:=kG (f:=fun s:Int↦W.jJ.cb_ (0:Int) (↑(List.length ops):Int) (↑(List.length (part (0:Int) (↑(List.length ops):Int) ops)):Int) s ops some) (l:=ops)
  (fun pre r s=>s=(pre.length:Int)) (fun y=>∃u,y=.inr u)
  (by
   rintro pre o r s he rfl
   have hlen2:=congrArg List.length he
   simp only [List.length_append,List.length_cons] at hlen2
   have hm:o∈ops:=by rw [he];simp
   left
   refine ⟨((pre.length+1:Nat):Int),?_,by rw [List.length_append];rfl⟩
   unfold W.jJ.cb_
   rw [Yh,ke (by omega)]
   refine jr (Jq (by simp only [Bool.and_eq_true,decide_eq_true_eq];exact ⟨Int.natCast_nonneg _,by omega⟩)) (jr (show idx ops ((0:Int)+(pre.length:Int))=some o by rw [Int.zero_add,he];exact kK) ?_)
   refine jr (normal_ok o) ?_
   rw [hn o hm,jF (by rfl),jH (by omega)]
   rfl)
  (by
   rintro s rfl
   refine ⟨.inr (ops.length:Int),?_,_,rfl⟩
   unfold W.jJ.cb_
   rw [Yh,JS (by simp)])
  (s:=(0:Int)) rfl
 subst hu
 unfold W.jJ
 refine jr y1 ?_
 rw [kh]
theorem wrun_loop {n bn:Nat} {ops:List GOp} {tape:List Int} (hn:n≤12) (hbn:bn<2^40) (hl:ops.length≤8000) (ht:tape.length<2^62) (hops:∀o∈ops,OkP o n bn) (hsto:∀o∈ops,o.1<5→StO n o)
 {f g:Nat→Pau} {v:KV} (t:Tab n f g v) :
 ∃y,iter (fun s:TS↦W.jg.ce_ (0:Int) (↑(List.length tape):Int) (Prod.fst s) (0:Int) (↑(List.length ops):Int) (↑(List.length (part (0:Int) (↑(List.length ops):Int) ops)):Int) (Prod.fst (Prod.snd s)) (Prod.fst (Prod.snd (Prod.snd s))) (Prod.fst (Prod.snd (Prod.snd (Prod.snd s)))) (Prod.fst (Prod.snd (Prod.snd (Prod.snd (Prod.snd s))))) (Prod.snd (Prod.snd (Prod.snd (Prod.snd (Prod.snd s))))) tape ops some) ((0:Int),(0:Int),(n:Int),List.replicate bn 0,lst n f,lst n g)=some y ∧
  ((∃u x,y=.inl u∧stabK tape 0 ops (v,List.replicate bn 0,0)=.inl x∧u.1=[]∧u.2.1=[]∧u.2.2.1=0∧u.2.2.2.2.2.1=x.1∧u.2.2.2.2.2.2.1=(x.2:Int)) ∨
   (∃(s:SK) (f' g':Nat→Pau),y=.inr ((s.2.2:Int),(ops.length:Int),(n:Int),s.2.1,lst n f',lst n g')∧stabK tape 0 ops (v,List.replicate bn 0,0)=.inr s∧Tab n f' g' s.1)):=by
 obtain ⟨R,hR⟩:∃R,stabK tape 0 ops (v,List.replicate bn 0,0)=R:=⟨_,rfl⟩
 rw [hR]
 refine Yr (f:=fun s:TS↦W.jg.ce_ (0:Int) (↑(List.length tape):Int) (Prod.fst s) (0:Int) (↑(List.length ops):Int) (↑(List.length (part (0:Int) (↑(List.length ops):Int) ops)):Int) (Prod.fst (Prod.snd s)) (Prod.fst (Prod.snd (Prod.snd s))) (Prod.fst (Prod.snd (Prod.snd (Prod.snd s)))) (Prod.fst (Prod.snd (Prod.snd (Prod.snd (Prod.snd s))))) (Prod.snd (Prod.snd (Prod.snd (Prod.snd (Prod.snd s))))) tape ops some) ops.length
  (fun i s=>∃(v:KV) (bits:List Int) (used:Nat) (f g:Nat→Pau),s=((used:Int),(i:Int),(n:Int),bits,lst n f,lst n g)∧Tab n f g v∧bits.length=bn∧B01 bits∧used≤tape.length∧stabK tape i (ops.drop i) (v,bits,used)=R) _ ?_ ?_ (s:=((0:Int),(0:Int),(n:Int),List.replicate bn 0,lst n f,lst n g)) ⟨v,List.replicate bn 0,0,f,g,rfl,t,by simp,B01.zero bn,Nat.zero_le _,hR⟩
 ·rintro i s hi ⟨v,bits,used,f,g,rfl,t,p5,p01,p6,p7⟩
  have hm:ops[i]∈ops:=List.getElem_mem hi
  have hd:ops.drop i=ops[i]::ops.drop (i+1):=List.drop_eq_getElem_cons hi
  rw [hd] at p7
  simp only [stabK] at p7
  obtain ⟨o,ho⟩:∃o,ops[i]=o:=⟨_,rfl⟩
  rw [ho] at hm p7
  have hk:=hops o hm
  have hidx:idx ops (i:Int)=some o:=by rw [JN hi,ho]
  have hokI:okIf (decide ((0:Ty.den (Ty.int IntKind.i64))≤(i:Int))&&decide ((i:Int)<(↑(List.length ops):Int)))=some ():=Jq (by simp only [Bool.and_eq_true,decide_eq_true_eq];exact ⟨Int.natCast_nonneg _,by omega⟩)
  have hidx0:idx ops ((0:Int)+(i:Int))=some o:=by rw [Int.zero_add];exact hidx
  have hcond:=holds_ok (o:=o) (bits:=bits) hk.ifs (by rw [p5];omega) (by rw [p5];exact hk.cond) p01
  have hf:∀i,i<n→Sm (f i):=fun i hi=>(t.fF i hi).sm hn
  have hg:∀i,i<n→Sm (g i):=fun i hi=>(t.gF i hi).sm hn
  have hw:IntKind.i64.wrap ((i:Int)+1)=((i+1:Nat):Int):=by rw [jH (by omega)];omega
  unfold W.jg.ce_
  rw [Yh,ke (by simp only;omega)]
  by_cases hc:condK bits o=false
  ·rw [if_pos hc] at p7
   refine .inl ⟨((used:Int),((i+1:Nat):Int),(n:Int),bits,lst n f,lst n g),?_,v,bits,used,f,g,rfl,t,p5,p01,p6,p7⟩
   refine jr (x:=.inl ((used:Int),(n:Int),bits,lst n f,lst n g)) ?_ (by rw [kH,hw])
   unfold W.jg.cj_
   refine jr hokI (jr hidx0 ?_)
   refine jr hcond ?_
   rw [hc,Jy (by rfl)]
  ·rw [if_neg hc] at p7
   have hc':condK bits o=true:=by simpa using hc
   by_cases h5:o.1<5
   ·rw [if_pos h5] at p7
    have hst:=hsto o hm h5
    refine .inl ⟨((used:Int),((i+1:Nat):Int),(n:Int),bits,lst n (fun i=>gP o (f i)),lst n (fun i=>gP o (g i))),?_,_,bits,used,_,_,rfl,t.gate hn hst,p5,p01,p6,p7⟩
    refine jr (x:=.inl ((used:Int),(n:Int),bits,lst n (fun i=>gP o (f i)),lst n (fun i=>gP o (g i)))) ?_ (by rw [kH,hw])
    unfold W.jg.cj_
    refine jr hokI (jr hidx0 ?_)
    refine jr hcond ?_
    rw [hc',jF (by rfl),ke h5]
    exact jr (tgate_ok hn hn hst hf hg) rfl
   ·rw [if_neg h5] at p7
    have hkind:¬o.1<5:=h5
    have hq:=hk.gate.q
    obtain ⟨q,hqn⟩:∃q:Nat,o.2.2.2.1=(q:Int):=⟨o.2.2.2.1.toNat,by omega⟩
    have hqlt:q<n:=by omega
    by_cases hu:used=tape.length
    ·rw [if_pos hu] at p7
     refine .inr ⟨.inl ([],[],(0:Int),(used:Int),(i:Int),(19:Int),(i:Int),(n:Int),bits,lst n f,lst n g),?_,.inl ⟨_,_,rfl,p7.symm,rfl,rfl,rfl,rfl,rfl⟩⟩
     refine jr (x:=.inr ([],[],(0:Int),(19:Int),(i:Int),(n:Int),lst n f,lst n g)) ?_ (by rw [kh])
     unfold W.jg.cj_
     refine jr hokI (jr hidx0 ?_)
     refine jr hcond ?_
     rw [hc',jF (by rfl),JS h5,Yh,Jy (by simp [hu])]
     rfl
    ·rw [if_neg hu] at p7
     obtain ⟨b,hb⟩:∃b,tape.getD used 0=b:=⟨_,rfl⟩
     have hti:idx tape (used:Int)=some b:=by rw [Ng used rfl (by omega),hb]
     have hokU:okIf (decide ((0:Ty.den (Ty.int IntKind.i64))≤(used:Int))&&decide ((used:Int)<(↑(List.length tape):Int)))=some ():=Jq (by simp only [Bool.and_eq_true,decide_eq_true_eq];exact ⟨Int.natCast_nonneg _,by omega⟩)
     have hti0:idx tape ((0:Int)+(used:Int))=some b:=by rw [Int.zero_add];exact hti
     rw [hb] at p7
     by_cases hbad:b≠0∧b≠1
     ·rw [if_pos hbad] at p7
      refine .inr ⟨.inl ([],[],(0:Int),(used:Int),(i:Int),(20:Int),(i:Int),(n:Int),bits,lst n f,lst n g),?_,.inl ⟨_,_,rfl,p7.symm,rfl,rfl,rfl,rfl,rfl⟩⟩
      refine jr (x:=.inr ([],[],(0:Int),(20:Int),(i:Int),(n:Int),lst n f,lst n g)) ?_ (by rw [kh])
      unfold W.jg.cj_
      refine jr hokI (jr hidx0 ?_)
      refine jr hcond ?_
      rw [hc',jF (by rfl),JS h5,Yh,jF (beq_false_of_ne (by omega))]
      refine jr hokU (jr hti0 ?_)
      have h20:W.jg.c20 b o.2.2.2.1 (n:Int) (lst n f) (lst n g) some=some (true,(n:Int),lst n f,lst n g):=by
       unfold W.jg.c20
       rw [Jy (by simpa using hbad.1),Jy (by simpa using hbad.2)]
      refine jr h20 ?_
      rw [Jy (by rfl)]
      rfl
     ·rw [if_neg hbad] at p7
      have hb01:b=0∨b=1:=by omega
      obtain ⟨B,hB⟩:∃B:Bool,b=bi B:=by
       rcases hb01 with e | e
       ·exact ⟨false,e⟩
       ·exact ⟨true,e⟩
      have hout:outK o.2.2.2.1 b v=outB q B v:=by
       funext y
       unfold outK outB
       rw [bt_eq,hqn,Int.toNat_natCast,hB]
       cases B<;>rfl
      have h20:∀ok S T,W.jb (q:Int) (bi B) (n:Int) (lst n f) (lst n g)=some (ok,S,T,(n:Int),())→W.jg.c20 b o.2.2.2.1 (n:Int) (lst n f) (lst n g) some=some (!ok,(n:Int),S,T):=fun ok S T he=>by
       unfold W.jg.c20
       rw [hqn,hB]
       cases B with
       | false=>rw [jF (by rfl)];exact jr he rfl
       | true=>rw [Jy (by rfl),jF (by rfl)];exact jr he rfl
      rcases measure_ok hn hqlt t B with ⟨f',g',e1,e2⟩ | ⟨e1,e2⟩
      ·have hne:¬outK o.2.2.2.1 b v=(fun _=>K.zero):=fun hz=>by
        obtain ⟨y,hy⟩:=e2.some
        rw [←hout,hz] at hy
        exact hy rfl
       rw [if_neg hne] at p7
       unfold meetK at p7
       simp only at p7
       rw [hout] at p7
       have h20':=h20 _ _ _ e1
       have hf':∀i,i<n→Sm (f' i):=fun i hi=>(e2.fF i hi).sm hn
       have hg':∀i,i<n→Sm (g' i):=fun i hi=>(e2.gF i hi).sm hn
       have hwu:IntKind.i64.wrap ((used:Int)+(1:Int))=((used+1:Nat):Int):=by rw [jH (by omega)];omega
       by_cases hm5:o.1=5
       ·have hbit:=hk.bit hm5
        rw [if_neg (fun h=>h.1 hm5),if_pos hm5] at p7
        refine .inl ⟨(((used+1:Nat):Int),((i+1:Nat):Int),(n:Int),bits.set o.2.2.2.2.1.toNat b,lst n f',lst n g'),?_,_,_,used+1,f',g',rfl,e2,by rw [List.length_set];exact p5,p01.set _ hb01,by omega,p7⟩
        refine jr (x:=.inl (((used+1:Nat):Int),(n:Int),bits.set o.2.2.2.2.1.toNat b,lst n f',lst n g')) ?_ (by rw [kH,hw])
        unfold W.jg.cj_
        refine jr hokI (jr hidx0 ?_)
        refine jr hcond ?_
        rw [hc',jF (by rfl),JS h5,Yh,jF (beq_false_of_ne (by omega))]
        refine jr hokU (jr hti0 ?_)
        refine jr h20' ?_
        rw [jF (by rfl),Jy (by simpa using hm5),inR_of hbit.1 (by rw [p5];exact hbit.2),ji,Ng o.2.2.2.2.1.toNat (by omega) (by rw [p5];omega),ji,hwu]
       ·rw [if_neg hm5] at p7
        by_cases hb1:b=1
        ·rw [if_pos ⟨hm5,hb1⟩,←HD [] 0 o.2.2.2.1 0 []] at p7
         have hX:StO n (2,0,[],o.2.2.2.1,0,[]):=by rw [hqn];exact StO_X hqlt
         refine .inl ⟨(((used+1:Nat):Int),((i+1:Nat):Int),(n:Int),bits,lst n (fun i=>gP (2,0,[],o.2.2.2.1,0,[]) (f' i)),lst n (fun i=>gP (2,0,[],o.2.2.2.1,0,[]) (g' i))),?_,_,bits,used+1,_,_,rfl,e2.gate hn hX,p5,p01,by omega,p7⟩
         refine jr (x:=.inl (((used+1:Nat):Int),(n:Int),bits,lst n (fun i=>gP (2,0,[],o.2.2.2.1,0,[]) (f' i)),lst n (fun i=>gP (2,0,[],o.2.2.2.1,0,[]) (g' i)))) ?_ (by rw [kH,hw])
         unfold W.jg.cj_
         refine jr hokI (jr hidx0 ?_)
         refine jr hcond ?_
         rw [hc',jF (by rfl),JS h5,Yh,jF (beq_false_of_ne (by omega))]
         refine jr hokU (jr hti0 ?_)
         refine jr h20' ?_
         rw [jF (by rfl),jF (by simpa using hm5),Jy (by simpa using hb1)]
         refine jr (tgate_ok hn hn hX hf' hg') ?_
         rw [hwu]
        ·rw [if_neg (fun h=>hb1 h.2)] at p7
         refine .inl ⟨(((used+1:Nat):Int),((i+1:Nat):Int),(n:Int),bits,lst n f',lst n g'),?_,_,bits,used+1,f',g',rfl,e2,p5,p01,by omega,p7⟩
         refine jr (x:=.inl (((used+1:Nat):Int),(n:Int),bits,lst n f',lst n g')) ?_ (by rw [kH,hw])
         unfold W.jg.cj_
         refine jr hokI (jr hidx0 ?_)
         refine jr hcond ?_
         rw [hc',jF (by rfl),JS h5,Yh,jF (beq_false_of_ne (by omega))]
         refine jr hokU (jr hti0 ?_)
         refine jr h20' ?_
         rw [jF (by rfl),jF (by simpa using hm5),jF (by simpa using hb1),hwu]
      ·rw [if_pos (hout.trans e2)] at p7
       refine .inr ⟨.inl ([],[],(0:Int),(used:Int),(i:Int),(20:Int),(i:Int),(n:Int),bits,lst n f,lst n g),?_,.inl ⟨_,_,rfl,p7.symm,rfl,rfl,rfl,rfl,rfl⟩⟩
       refine jr (x:=.inr ([],[],(0:Int),(20:Int),(i:Int),(n:Int),lst n f,lst n g)) ?_ (by rw [kh])
       unfold W.jg.cj_
       refine jr hokI (jr hidx0 ?_)
       refine jr hcond ?_
       rw [hc',jF (by rfl),JS h5,Yh,jF (beq_false_of_ne (by omega))]
       refine jr hokU (jr hti0 ?_)
       refine jr (h20 _ _ _ e1) ?_
       rw [Jy (by rfl)]
       rfl
 ·rintro s ⟨v,bits,used,f,g,rfl,t,p5,p01,p6,p7⟩
  rw [List.drop_length] at p7
  refine ⟨.inr ((used:Int),(ops.length:Int),(n:Int),bits,lst n f,lst n g),?_,.inr ⟨(v,bits,used),f,g,rfl,p7.symm,t⟩⟩
  unfold W.jg.ce_
  rw [Yh,JS (by simp)]
theorem wc5_in {n x:Nat} (hn:n≤12) (h:x<2^n):W.jg.c5 (x:Int) (n:Int) some=some false:=by
 have hp:IntKind.i64.wrap ((1:Int)*(2:Int)^Min.min (Int.toNat (n:Int)) (64:Nat))=((2^n:Nat):Int):=by
  have:=pow63 (q:=(n:Int)) (by omega)
  rw [this,Int.toNat_natCast]
 unfold W.jg.c5
 rw [JS (by omega),ge0,ji,hp,decide_eq_false (by omega)]
section
variable {n bn:Nat} {ops:List GOp} {tape:List Int}
theorem wtexts_loop {f:Nat→Pau} (hn:n≤12) (hf:∀i,i<n→Fit n (f i)) :
 iter (fun s:Int×List Tx↦W.jg.cp_ (lst n f) (↑(List.length (lst n f)):Int) (Prod.fst s) (Prod.snd s) (n:Int) some) ((0:Int),[])=some ((n:Int),stTx n f n):=by
 refine kD n (fun k=>((k:Int),stTx n f k)) _ (fun k hk=>?_) ?_ rfl
 ·unfold W.jg.cp_
  rw [kV,ke (by simp only;omega),kU _ hk,ji]
  have h32:W.jg.c32 (stTx n f k) (pe (f k)).1 (pe (f k)).2.1 (pe (f k)).2.2 (n:Int) some=some (stTx n f (k+1)):=by
   unfold W.jg.c32
   refine jr (text_pe hn (hf k hk)) ?_
   refine jr (Yg (n:=(stTx n f k).length+1) (k:=16) (by rw [stTx_len];omega)) ?_
   rw [stTx_succ]
  refine jr h32 ?_
  rw [jH (by simp only;omega)]
  rfl
 ·unfold W.jg.cp_
  rw [kV,JS (by simp)]
theorem wrun_prog (hn:n≤12) (hbn:bn≤12) (hw:WCir ((n:Int),(bn:Int),ops)) (hk:chk ((n:Int),(bn:Int),ops)=(0,0)) (hl:ops.length≤4100) (ht:tape.length<2^62) {x:Nat} (hx:x<2^n) (hs:Yd 0 ops=(0,0))
 (hops:∀o∈ops,OkP o n bn) (hsto:∀o∈ops,o.1<5→StO n o) :
 (∃y,stabK tape 0 ops (baK x,List.replicate bn 0,0)=.inl y∧W.jg (n:Int) (bn:Int) (0:Int) (↑(List.length ops):Int) (x:Int) (0:Int) (↑(List.length tape):Int) tape ops=some ([],[],(0:Int),(y.1,(y.2:Int)),tape,ops,())) ∨
 (∃(s:SK) (f:Nat→Pau) (c:Nat→Nat),stabK tape 0 ops (baK x,List.replicate bn 0,0)=.inr s∧TabE n f s.1∧Red n (2*n) n f c∧W.jg (n:Int) (bn:Int) (0:Int) (↑(List.length ops):Int) (x:Int) (0:Int) (↑(List.length tape):Int) tape ops=some (stTx n f n,s.2.1,(s.2.2:Int),((0:Int),(0:Int)),tape,ops,())):=by
 have h1:=wc5_in hn hx
 have h12:=p12 hn
 obtain ⟨y,y1,y2⟩:=wrun_loop (tape:=tape) hn (Nat.lt_of_le_of_lt hbn (by decide)) (by omega) ht hops hsto (Tab.begin hn hx)
 have h10:W.jg.c10 (x:Int) (n:Int) (bn:Int) some=some ((n:Int),lst n (fun q=>⟨0,2^q,x.testBit q⟩),lst n pX):=by
  unfold W.jg.c10
  refine jr (begin_ok hn (by omega)) (jr (Jq ?_) rfl)
  simp only [Bool.and_eq_true,decide_eq_true_eq]
  omega
 rcases y2 with ⟨u,z,rfl,e1,e2,e3,e4,e5,e6⟩ | ⟨s,f',g',rfl,e1,e2⟩
 ·refine .inl ⟨z,e1,?_⟩
  unfold W.jg
  refine jr (wcheck_ok hw hk) ?_
  rw [jF (by rfl)]
  refine jr h1 ?_
  rw [jF (by rfl)]
  refine jr (wstranger_ok hl (by rw [hs])) ?_
  rw [jF (by rfl)]
  refine jr h10 (jr y1 ?_)
  rw [kH,e2,e3,e4,e5,e6]
 ·obtain ⟨f,c,r1,r2,r3⟩:=reduced_ok hn ⟨g',e2⟩
  refine .inr ⟨s,f,c,e1,r2,r3,?_⟩
  unfold W.jg
  refine jr (wcheck_ok hw hk) ?_
  rw [jF (by rfl)]
  refine jr h1 ?_
  rw [jF (by rfl)]
  refine jr (wstranger_ok hl (by rw [hs])) ?_
  rw [jF (by rfl)]
  refine jr h10 (jr y1 ?_)
  rw [kh]
  have h29:W.jg.c29 (n:Int) (lst n f') some=some (lst n f,(↑(List.length (lst n f)):Int)):=jr r1 rfl
  refine jr h29 ?_
  refine jr (wtexts_loop hn (by obtain ⟨g,tg⟩:=r2;exact tg.fF)) rfl
end
theorem zrun_loop {n:Nat} {ops:List GOp} (hn:n≤12) (hl:ops.length≤8000) (hops:∀o∈ops,o.1<5∧o.2.2.2.2.2=[]) (hsto:∀o∈ops,o.1<5→StO n o)
 {f g:Nat→Pau} {v:KV} (t:Tab n f g v) (bits:List Int) :
 ∃(f' g':Nat→Pau) (i:Int),iter (fun s:TS↦W.jj.ce_ [] (Prod.fst s) (0:Int) (↑(List.length ops):Int) (↑(List.length (part (0:Int) (↑(List.length ops):Int) ops)):Int) (Prod.fst (Prod.snd s)) (Prod.fst (Prod.snd (Prod.snd s))) (Prod.fst (Prod.snd (Prod.snd (Prod.snd s)))) (Prod.fst (Prod.snd (Prod.snd (Prod.snd (Prod.snd s))))) (Prod.snd (Prod.snd (Prod.snd (Prod.snd (Prod.snd s))))) ops some) ((0:Int),(0:Int),(n:Int),bits,lst n f,lst n g)=some (.inr ((0:Int),i,(n:Int),bits,lst n f',lst n g'))∧Tab n f' g' (runK ops v):=by
 obtain ⟨y,h1,f',g',i,rfl,h2⟩:=kG (f:=fun s:TS↦W.jj.ce_ [] (Prod.fst s) (0:Int) (↑(List.length ops):Int) (↑(List.length (part (0:Int) (↑(List.length ops):Int) ops)):Int) (Prod.fst (Prod.snd s)) (Prod.fst (Prod.snd (Prod.snd s))) (Prod.fst (Prod.snd (Prod.snd (Prod.snd s)))) (Prod.fst (Prod.snd (Prod.snd (Prod.snd (Prod.snd s))))) (Prod.snd (Prod.snd (Prod.snd (Prod.snd (Prod.snd s))))) ops some) (l:=ops)
  (fun pre r s=>∃f' g',s=((0:Int),(pre.length:Int),(n:Int),bits,lst n f',lst n g')∧Tab n f' g' (runK pre v)) (fun y=>∃f' g' i,y=.inr ((0:Int),i,(n:Int),bits,lst n f',lst n g')∧Tab n f' g' (runK ops v))
  (by
   rintro pre o r s he ⟨f',g',rfl,t⟩
   have hlen2:=congrArg List.length he
   simp only [List.length_append,List.length_cons] at hlen2
   have hm:o∈ops:=by rw [he];simp
   have ho:=hops o hm
   have hst:=hsto o hm ho.1
   left
   refine ⟨((0:Int),((pre.length+1:Nat):Int),(n:Int),bits,lst n (fun i=>gP o (f' i)),lst n (fun i=>gP o (g' i))),?_,_,_,by rw [List.length_append];rfl,by rw [runK_snoc];exact t.gate hn hst⟩
   unfold W.jj.ce_
   rw [Yh,ke (by simp only;omega)]
   refine jr (x:=.inl ((0:Int),(n:Int),bits,lst n (fun i=>gP o (f' i)),lst n (fun i=>gP o (g' i)))) ?_ (by rw [kH,jH (by simp only;omega)];rfl)
   unfold W.jj.cj_
   refine jr (Jq (by simp only [Bool.and_eq_true,decide_eq_true_eq];exact ⟨Int.natCast_nonneg _,by omega⟩)) (jr (show idx ops ((0:Int)+(pre.length:Int))=some o by rw [Int.zero_add,he];exact kK) ?_)
   refine jr (holdsT o ho.2 bits) ?_
   rw [jF (by rfl),ke ho.1]
   exact jr (tgate_ok hn hn hst (fun i hi=>(t.fF i hi).sm hn) (fun i hi=>(t.gF i hi).sm hn)) rfl)
  (by
   rintro s ⟨f',g',rfl,t⟩
   refine ⟨.inr ((0:Int),(ops.length:Int),(n:Int),bits,lst n f',lst n g'),?_,f',g',_,rfl,t⟩
   unfold W.jj.ce_
   rw [Yh,JS (by simp)])
  (s:=((0:Int),(0:Int),(n:Int),bits,lst n f,lst n g)) ⟨f,g,rfl,t⟩
 exact ⟨f',g',i,h1,h2⟩
theorem zc5_in {n x:Nat} (hn:n≤12) (h:x<2^n):W.jj.c5 (x:Int) (n:Int) some=some false:=by
 have hp:IntKind.i64.wrap ((1:Int)*(2:Int)^Min.min (Int.toNat (n:Int)) (64:Nat))=((2^n:Nat):Int):=by
  have:=pow63 (q:=(n:Int)) (by omega)
  rw [this,Int.toNat_natCast]
 unfold W.jj.c5
 rw [JS (by omega),ge0,ji,hp,decide_eq_false (by omega)]
section
variable {n bn:Nat} {ops:List GOp} {tape:List Int}
theorem ztexts_loop {f:Nat→Pau} (hn:n≤12) (hf:∀i,i<n→Fit n (f i)) :
 iter (fun s:Int×List Tx↦W.jj.cp_ (lst n f) (↑(List.length (lst n f)):Int) (Prod.fst s) (Prod.snd s) (n:Int) some) ((0:Int),[])=some ((n:Int),stTx n f n):=by
 refine kD n (fun k=>((k:Int),stTx n f k)) _ (fun k hk=>?_) ?_ rfl
 ·unfold W.jj.cp_
  rw [kV,ke (by simp only;omega),kU _ hk,ji]
  have h32:W.jj.c32 (stTx n f k) (pe (f k)).1 (pe (f k)).2.1 (pe (f k)).2.2 (n:Int) some=some (stTx n f (k+1)):=by
   unfold W.jj.c32
   refine jr (text_pe hn (hf k hk)) ?_
   refine jr (Yg (n:=(stTx n f k).length+1) (k:=16) (by rw [stTx_len];omega)) ?_
   rw [stTx_succ]
  refine jr h32 ?_
  rw [jH (by simp only;omega)]
  rfl
 ·unfold W.jj.cp_
  rw [kV,JS (by simp)]
theorem zrun_prog (hn:n≤12) (hbn:bn≤12) (hw:WCir ((n:Int),(bn:Int),ops)) (hk:chk ((n:Int),(bn:Int),ops)=(0,0)) (hl:ops.length≤4100) {x:Nat} (hx:x<2^n) (hs:Yd 0 ops=(0,0))
 (hops:∀o∈ops,o.1<5∧o.2.2.2.2.2=[]) (hsto:∀o∈ops,o.1<5→StO n o) :
 ∃(f:Nat→Pau) (c:Nat→Nat),TabE n f (runK ops (baK x))∧Red n (2*n) n f c∧W.jj (n:Int) (bn:Int) (0:Int) (↑(List.length ops):Int) (x:Int) [] ops=some (stTx n f n,List.replicate bn 0,(0:Int),((0:Int),(0:Int)),ops,()):=by
 have h1:=zc5_in hn hx
 have h12:=p12 hn
 obtain ⟨f',g',i,y1,e2⟩:=zrun_loop hn (by omega) hops hsto (Tab.begin hn hx) (List.replicate bn 0)
 have h10:W.jj.c10 (x:Int) (n:Int) (bn:Int) some=some ((n:Int),lst n (fun q=>⟨0,2^q,x.testBit q⟩),lst n pX):=by
  unfold W.jj.c10
  refine jr (begin_ok hn (by omega)) (jr (Jq ?_) rfl)
  simp only [Bool.and_eq_true,decide_eq_true_eq]
  omega
 obtain ⟨f,c,r1,r2,r3⟩:=reduced_ok hn ⟨g',e2⟩
 refine ⟨f,c,r2,r3,?_⟩
 unfold W.jj
 refine jr (wcheck_ok hw hk) ?_
 rw [jF (by rfl)]
 refine jr h1 ?_
 rw [jF (by rfl)]
 refine jr (wstranger_ok hl (by rw [hs])) ?_
 rw [jF (by rfl)]
 refine jr h10 (jr y1 ?_)
 rw [kh]
 have h29:W.jj.c29 (n:Int) (lst n f') some=some (lst n f,(↑(List.length (lst n f)):Int)):=jr r1 rfl
 refine jr h29 ?_
 refine jr (ztexts_loop hn (by obtain ⟨g,tg⟩:=r2;exact tg.fF)) rfl
end
end Go.Ql
end

section
set_option maxHeartbeats 1000000
namespace Go.Ql
theorem Own.up {n:Nat} {o:GOp} (h:Own n o):Own (n+1) o:=by
 obtain ⟨q,hq,h⟩:=h
 refine ⟨q,by omega,?_⟩
 rcases h with h | h | h | h | h | ⟨c,h1,h2,h3⟩
 ·exact .inl h
 ·exact .inr (.inl h)
 ·exact .inr (.inr (.inl h))
 ·exact .inr (.inr (.inr (.inl h)))
 ·exact .inr (.inr (.inr (.inr (.inl h))))
 ·exact .inr (.inr (.inr (.inr (.inr ⟨c,by omega,h2,h3⟩))))
def MOp (m G:Nat) (o:GOp):Prop:=Own (m+1) o∨(∃q,q<m∧o=((4:Int),(8:Int),[(m:Int)],(q:Int),(0:Int),[]))∨(∃i,i<G∧o=oM m i)∨o=oR m
theorem mL_op {m G q:Nat} (hq:q<m) (l:Lt):∀o∈mL m q l,MOp m G o:=by
 intro o ho
 unfold mL at ho
 split at ho
 ·split at ho
  ·rcases List.mem_cons.1 ho with rfl | ho
   ·exact .inl ⟨q,by omega,.inr (.inr (.inr (.inr (.inl rfl))))⟩
   ·rcases List.mem_cons.1 ho with rfl | ho
    ·exact .inl (Own_C (by omega) (by omega) (by omega))
    ·rw [List.mem_singleton.1 ho];exact .inl (Own_S (by omega))
  ·rw [List.mem_singleton.1 ho];exact .inl (Own_C (by omega) (by omega) (by omega))
 ·split at ho
  ·rw [List.mem_singleton.1 ho];exact .inr (.inl ⟨q,hq,rfl⟩)
  ·cases ho
theorem mP_op {m G:Nat} (w:Wd):∀{k},k≤m → ∀o∈mP m w k,MOp m G o
 | 0,_=>fun o ho=>by cases ho
 | k+1,hk=>fun o ho=>by
   rcases List.mem_append.1 ho with ho | ho
   ·exact mP_op w (by omega) o ho
   ·exact mL_op (by omega) _ o ho
theorem mOne_op {m G i:Nat} (hi:i<G) {g:Tx} (hg:isP g m=true):∀o∈mOne m i g,MOp m G o:=by
 intro o ho
 have hw:=(Yq hg).2.2.1
 rcases List.mem_append.1 ho with ho | ho
 ·rcases List.mem_cons.1 ho with rfl | ho
  ·exact .inl (Own_H (by omega))
  ·rcases List.mem_append.1 ho with ho | ho
   ·exact mP_op _ (by omega) o ho
   ·rcases List.mem_append.1 ho with ho | ho
    ·split at ho
     ·rw [List.mem_singleton.1 ho];exact .inl (Own_Z (by omega))
     ·cases ho
    ·rw [List.mem_singleton.1 ho];exact .inl (Own_H (by omega))
 ·rcases List.mem_cons.1 ho with rfl | ho
  ·exact .inr (.inr (.inl ⟨i,hi,rfl⟩))
  ·rw [List.mem_singleton.1 ho];exact .inr (.inr (.inr rfl))
theorem mAll_op {m G:Nat}:∀(gs:List Tx) (i:Nat),i+gs.length≤G→(∀g∈gs,isP g m=true) → ∀o∈mAll m i gs,MOp m G o
 | [],_,_,_=>fun o ho=>by cases ho
 | g::gs,i,hi,h=>fun o ho=>by
   rw [List.length_cons] at hi
   rcases List.mem_append.1 ho with ho | ho
   ·exact mOne_op (by omega) (h g (List.mem_cons_self ..)) o ho
   ·exact mAll_op gs (i+1) (by omega) (fun x hx=>h x (List.mem_cons_of_mem _ hx)) o ho
theorem MOp.good {m G:Nat} {o:GOp} (h:MOp m G o):opBad o ((m+1:Nat):Int) (G:Int)=0:=by
 rcases h with h | ⟨q,hq,rfl⟩ | ⟨i,hi,rfl⟩ | rfl
 ·exact h.good (by omega)
 ·refine Vm (.inr (.inr rfl)) (by decide) (fun h=>absurd rfl h) (by omega) ?_ (by omega)
  rw [JT,if_neg (by omega),if_neg (by simp;omega),JT]
 ·unfold opBad oM
  simp only
  rw [if_neg (by decide),if_neg (by omega),if_neg (by omega),if_neg (by simp),if_neg (by simp [JT]),if_neg (by omega),if_neg (by simp),if_neg (by rintro ⟨v,h,_⟩;cases h)]
 ·unfold opBad oR
  simp only
  rw [if_neg (by decide),if_neg (by omega),if_neg (by omega),if_neg (by simp),if_neg (by simp [JT]),if_neg (by omega),if_neg (by simp),if_neg (by rintro ⟨v,h,_⟩;cases h)]
theorem MOp.nrm {m G:Nat} {o:GOp} (h:MOp m G o):nrmO o=true:=by
 rcases h with h | ⟨q,hq,rfl⟩ | ⟨i,hi,rfl⟩ | rfl
 ·exact h.nrm
 ·rfl
 ·rfl
 ·rfl
theorem MOp.w {m G:Nat} {o:GOp} (h:MOp m G o):WOp o:=by
 rcases h with h | ⟨q,hq,rfl⟩ | ⟨i,hi,rfl⟩ | rfl
 ·exact h.w
 ·exact ⟨by simp,by simp⟩
 ·exact ⟨by simp [oM],by simp [oM]⟩
 ·exact ⟨by simp [oR],by simp [oR]⟩
theorem mop_chk {m G:Nat} (hm:m≤11) (hG:G≤12) {l:List GOp} (h:∀o∈l,MOp m G o) (hl:l.length≤4096):chk (((m+1:Nat):Int),(G:Int),l)=(0,0)∧WCir (((m+1:Nat):Int),(G:Int),l)∧Yd 0 l=(0,0)∧(∀o∈l,OkP o (m+1) G)∧(∀o∈l,o.1<5→StO (m+1) o):=by
 have hs:Yd 0 l=(0,0):=strange_of fun o ho=>(h o ho).nrm
 have hg:∀o∈l,GoodOp o (((m+1:Nat):Int)) (G:Int):=fun o ho=>goodOp_of (h o ho).good
 obtain ⟨h1,h2⟩:=ops_of (n:=m+1) (by omega) hg (by rw [hs])
 exact ⟨GoodC.chk ⟨by show 1≤((m+1:Nat):Int)∧((m+1:Nat):Int)≤12;omega,by show 0≤(G:Int)∧(G:Int)≤12;omega,hl,fun o ho=>(h o ho).good⟩,⟨by show l.length≤_;omega,fun o ho=>(h o ho).w⟩,hs,h1,h2⟩
theorem pops_ok {w:Wd} {m:Nat} (hw:w.length=m) (hm:m≤12):W.jD (txt w)=some (pO w m):=by
 have h1:iter (fun s:Int×List GOp↦W.jD.ca_ (txt w) (Prod.fst s) (Prod.snd s) some) ((0:Int),[])=some ((m:Int),pO w m):=by
  refine kD m (fun k=>((k:Int),pO w k)) _ (fun k hk=>?_) ?_ rfl
  ·have hlen:=pO_len w k
   unfold W.jD.ca_
   rw [ke (by rw [YK];simp only;omega)]
   have hc:W.jD.cS_ (txt w) (k:Int) (pO w k) some=some (pO w (k+1)):=by
    have hidx:=txt_idx (w:=w) (q:=k) (by omega)
    have h5:W.jD.c5 (txt w) (k:Int) some=some (w.getD k (false,false)).2:=by
     unfold W.jD.c5
     rw [hidx,ji]
     generalize w.getD k (false,false)=a
     obtain ⟨a,b⟩:=a
     cases a<;>cases b<;>rfl
    have h7:W.jD.c7 (txt w) (k:Int) some=some (w.getD k (false,false)).1:=by
     unfold W.jD.c7
     rw [hidx,ji]
     generalize w.getD k (false,false)=a
     obtain ⟨a,b⟩:=a
     cases a<;>cases b<;>rfl
    have h85:W.jD.cR_ (txt w) (k:Int) (pO w k) some=some (pO w k++(if (w.getD k (false,false)).2=true then [opZ k] else [])):=by
     unfold W.jD.cR_
     refine jr h5 ?_
     cases (w.getD k (false,false)).2 with
     | true=>
       rw [Jy rfl,if_pos rfl]
       exact jr (Yg (n:=(pO w k).length+1) (k:=80) (by omega)) rfl
     | false=>rw [jF rfl,if_neg (by decide),List.append_nil]
    unfold W.jD.cS_
    refine jr h85 (jr h7 ?_)
    rw [pO]
    unfold pL
    rw [←List.append_assoc]
    have hl2:(pO w k++(if (w.getD k (false,false)).2=true then [opZ k] else [])).length≤100:=by
     rw [List.length_append]
     split<;>simp<;>omega
    generalize pO w k++(if (w.getD k (false,false)).2=true then [opZ k] else [])=L at hl2 ⊢
    cases (w.getD k (false,false)).1 with
    | true=>
      rw [Jy rfl,if_pos rfl]
      exact jr (Yg (n:=L.length+1) (k:=80) (by omega)) rfl
    | false=>rw [jF rfl,if_neg (by decide),List.append_nil]
   refine jr hc ?_
   rw [jH (by simp only;omega)]
   rfl
  ·unfold W.jD.ca_
   rw [JS (by rw [YK,hw];simp)]
 unfold W.jD
 exact jr h1 rfl
def synd (w:Wd) (gs:List Tx):List Int:=gs.map fun g=>bi (ap (wd g) w)
theorem synd_ok {w:Wd} {m:Nat} (hw:w.length=m) (hm:m≤12) {gs:List Tx} (hl:gs.length≤m) (hall:∀g∈gs,isP g m=true) (n:Int):W.Jx (n,gs) (txt w)=some (synd w gs):=by
 obtain ⟨y,h1,i,rfl⟩:=kG (f:=fun s:Int×List Int↦W.Jx.ca_ (txt w) (Prod.fst s) gs (Prod.snd s) some) (l:=gs)
  (fun pre r s=>s=((pre.length:Int),synd w pre)) (fun y=>∃i,y=(i,synd w gs))
  (by
   rintro pre g r s he rfl
   have hlen2:=congrArg List.length he
   simp only [List.length_append,List.length_cons] at hlen2
   have hg:=hall g (by rw [he];simp)
   have hgl:=Yq hg
   left
   refine ⟨(((pre.length+1:Nat):Int),synd w (pre++[g])),?_,by rw [List.length_append];rfl⟩
   unfold W.Jx.ca_
   rw [ke (by simp only;omega),show idx gs (pre.length:Int)=some g by rw [he];exact kK,ji]
   refine jr (Jq (by simp only [Bool.and_eq_true,decide_eq_true_eq];omega)) ?_
   rw [Int.toNat_natCast,List.take_of_length_le (Nat.le_refl _)]
   have ha:W.Jk (List.drop 1 g) (txt w)=some (ap (wd g) w):=by
    have:=apart_ok (a:=g.drop 1) (b:=txt w) hgl.2.2.2 (Nd w) (by rw [YK];omega) (by omega)
    rw [this]
    congr 2
    exact map_dec_enc w
   refine jr ha ?_
   have h01:W.Yb (ap (wd g) w)=some (bi (ap (wd g) w)):=by unfold W.Yb;cases ap (wd g) w<;>rfl
   refine jr h01 ?_
   refine jr (Yg (n:=(synd w pre).length+1) (k:=8) (by unfold synd;rw [List.length_map];omega)) ?_
   rw [jH (by simp only;omega)]
   unfold synd
   rw [List.map_append]
   rfl)
  (by
   rintro s rfl
   refine ⟨((gs.length:Int),synd w gs),?_,_,rfl⟩
   unfold W.Jx.ca_
   rw [JS (by simp)])
  (s:=((0:Int),[])) rfl
 unfold W.Jx
 exact jr h1 rfl
theorem synd_len (w:Wd) (gs:List Tx):(synd w gs).length=gs.length:=by simp [synd]
def dupL (l:List Int):List Int:=l.flatMap fun x=>[x,x]
theorem dupL_len:∀l:List Int,(dupL l).length=2*l.length
 | []=>rfl
 | x::l=>by
   have:=dupL_len l
   unfold dupL at this ⊢
   simp only [List.flatMap_cons,List.length_append,List.length_cons,List.length_nil]
   omega
theorem dupL_at:∀(l:List Int) (j:Nat),j<l.length→(dupL l).getD (2*j) 0=l.getD j 0∧(dupL l).getD (2*j+1) 0=l.getD j 0
 | [],j,h=>absurd h (Nat.not_lt_zero _)
 | x::l,0,_=>⟨rfl,rfl⟩
 | x::l,j+1,h=>by
   have:=dupL_at l j (by simpa using h)
   have e:dupL (x::l)=x::x::dupL l:=rfl
   rw [e,show 2*(j+1)=2*j+1+1 by omega,show 2*j+1+1+1=(2*j+1)+1+1 by omega]
   simp only [List.getD_cons_succ]
   exact this
theorem dup_walk {s:List Int} (hs:s.length≤100):∃i,iter (fun t:Int×List Int↦W.jc.cI_ s (Prod.fst t) (Prod.snd t) some) ((0:Int),[])=some (i,dupL s):=by
 obtain ⟨y,h1,i,rfl⟩:=kG (f:=fun t:Int×List Int↦W.jc.cI_ s (Prod.fst t) (Prod.snd t) some) (l:=s)
  (fun pre r t=>t=((pre.length:Int),dupL pre)) (fun y=>∃i,y=(i,dupL s))
  (by
   rintro pre x r t he rfl
   have hlen2:=congrArg List.length he
   simp only [List.length_append,List.length_cons] at hlen2
   left
   refine ⟨(((pre.length+1:Nat):Int),dupL (pre++[x])),?_,by rw [List.length_append];rfl⟩
   unfold W.jc.cI_
   rw [ke (by simp only;omega)]
   have h45:W.jc.c45 s (pre.length:Int) (dupL pre) some=some (dupL (pre++[x])):=by
    unfold W.jc.c45
    rw [show idx s (pre.length:Int)=some x by rw [he];exact kK,ji,ji]
    refine jr (Yg (n:=(dupL pre).length+2) (k:=8) (by rw [dupL_len];omega)) ?_
    unfold dupL
    rw [List.flatMap_append]
    rfl
   refine jr h45 ?_
   rw [jH (by simp only;omega)]
   rfl)
  (by
   rintro t rfl
   refine ⟨((s.length:Int),dupL s),?_,_,rfl⟩
   unfold W.jc.cI_
   rw [JS (by simp)])
  (s:=((0:Int),[])) rfl
 exact ⟨i,h1⟩
section
variable {m:Nat} {M:List GOp}
abbrev cntF (m:Nat) (M:List GOp):Int×Int→Option ((Int×Int)⊕((Int×Int)⊕(Int×Int))):=fun s↦W.jc.cz_ (Prod.fst s) (Prod.snd s) (m:Int) M some
theorem cnt_pure {o:GOp} {pre r:List GOp} (hM:M=pre++o::r) (hl:M.length≤100000) (ho:o.1<5∧o.2.2.2.2.2=[]) (c:Int):cntF m M (c,(pre.length:Int))=some (.inl (c,((pre.length+1:Nat):Int))):=by
 have hlen2:=congrArg List.length hM
 simp only [List.length_append,List.length_cons] at hlen2
 unfold cntF W.jc.cz_
 rw [ke (by simp only;omega)]
 have hc:W.jc.cr_ c (pre.length:Int) (m:Int) M some=some (.inr c):=by
  unfold W.jc.cr_
  rw [show idx M (pre.length:Int)=some o by rw [hM];exact kK,ji]
  have h18:W.jc.c18 (m:Int) o.1 o.2.2.2.1 o.2.2.2.2.2 some=some false:=by
   unfold W.jc.c18
   rw [ho.2,JS (by decide),JS (by have:=ho.1;omega)]
  refine jr h18 ?_
  rw [jF rfl,JS (by have:=ho.1;omega)]
 refine jr hc ?_
 rw [kh,jH (by simp only;omega)]
 rfl
theorem cnt_meet {o:GOp} {pre r:List GOp} (hM:M=pre++o::r) (hl:M.length≤100000) {c:Nat} (hc:c≤100) (ho:(o=oM m (c / 2)∧c % 2=0)∨(o=oR m∧c % 2=1)):cntF m M ((c:Int),(pre.length:Int))=some (.inl (((c+1:Nat):Int),((pre.length+1:Nat):Int))):=by
 have hlen2:=congrArg List.length hM
 simp only [List.length_append,List.length_cons] at hlen2
 have ht:Int.tmod (c:Int) 2=((c % 2:Nat):Int):=by rw [Int.tmod_eq_emod_of_nonneg (by omega)];omega
 have hd:Int.tdiv (c:Int) 2=((c / 2:Nat):Int):=by rw [Int.tdiv_eq_ediv_of_nonneg (by omega)];omega
 unfold cntF W.jc.cz_
 rw [ke (by simp only;omega)]
 have hcc:W.jc.cr_ (c:Int) (pre.length:Int) (m:Int) M some=some (.inr ((c+1:Nat):Int)):=by
  unfold W.jc.cr_
  rw [show idx M (pre.length:Int)=some o by rw [hM];exact kK,ji]
  rcases ho with ⟨rfl,h2⟩ | ⟨rfl,h2⟩
  ·have h18:W.jc.c18 (m:Int) (oM m (c / 2)).1 (oM m (c / 2)).2.2.2.1 (oM m (c / 2)).2.2.2.2.2 some=some false:=by
    unfold W.jc.c18 oM
    rw [JS (by simp),ke (by simp)]
    simp
   have h21:W.jc.c21 (c:Int) (oM m (c / 2)).1 (oM m (c / 2)).2.2.2.2.1 some=some false:=by
    unfold W.jc.c21 oM
    rw [ht,hd,h2,jF (by rfl),Jy (by rfl),jH (by omega)]
    simp
   refine jr h18 ?_
   rw [jF rfl,ke (by show (5:Int)≥5;decide)]
   refine jr h21 ?_
   rw [jF rfl,jH (by omega)]
   rfl
  ·have h18:W.jc.c18 (m:Int) (oR m).1 (oR m).2.2.2.1 (oR m).2.2.2.2.2 some=some false:=by
    unfold W.jc.c18 oR
    rw [JS (by simp),ke (by simp)]
    simp
   have h21:W.jc.c21 (c:Int) (oR m).1 (oR m).2.2.2.2.1 some=some false:=by
    unfold W.jc.c21 oR
    rw [ht,h2,jF (by rfl),jF (by rfl)]
   refine jr h18 ?_
   rw [jF rfl,ke (by show (6:Int)≥5;decide)]
   refine jr h21 ?_
   rw [jF rfl,jH (by omega)]
   rfl
 refine jr hcc ?_
 rw [kh,jH (by simp only;omega)]
 rfl
theorem cnt_seg {R:(Int×Int)⊕(Int×Int)} (hl:M.length≤100000) (c:Int):∀(l pre r:List GOp),M=pre++(l++r)→(∀o∈l,o.1<5∧o.2.2.2.2.2=[])→iter (cntF m M) (c,((pre.length+l.length:Nat):Int))=some R→iter (cntF m M) (c,(pre.length:Int))=some R
 | [],pre,r,_,_,h=>by simpa using h
 | o::l,pre,r,hM,ho,h=>by
   refine Yy (cnt_pure (pre:=pre) (r:=l++r) hM hl (ho o (List.mem_cons_self ..)) c) ?_
   have:=cnt_seg (R:=R) hl c l (pre++[o]) r (by rw [hM];simp) (fun x hx=>ho x (List.mem_cons_of_mem _ hx))
   rw [List.length_append] at this
   refine this ?_
   rw [List.length_cons] at h
   show iter _ (c,((pre.length+1+l.length:Nat):Int))=_
   rw [show pre.length+1+l.length=pre.length+(l.length+1) by omega]
   exact h
theorem cnt_all (hl:M.length≤100000):∀(gs:List Tx) (i:Nat) (pre:List GOp),M=pre++mAll m i gs→i+gs.length≤40→iter (cntF m M) (((2*i:Nat):Int),(pre.length:Int))=some (.inr (((2*(i+gs.length):Nat):Int),(M.length:Int)))
 | [],i,pre,hM,_=>by
   have:M.length=pre.length:=by rw [hM];simp [mAll]
   refine Yz ?_
   unfold cntF W.jc.cz_
   rw [JS (by simp only;omega),this]
   rfl
 | g::gs,i,pre,hM,hi=>by
   rw [List.length_cons] at hi
   have hM2:M=pre++(gM m g++(oM m i::oR m::mAll m (i+1) gs)):=by rw [hM,mAll,mOne];simp
   refine cnt_seg hl _ (gM m g) pre _ hM2 (gM_pure m g) ?_
   have e1:pre.length+(gM m g).length=(pre++gM m g).length:=by rw [List.length_append]
   rw [e1]
   refine Yy (cnt_meet (pre:=pre++gM m g) (r:=oR m::mAll m (i+1) gs) (o:=oM m i) (by rw [hM2];simp) hl (c:=2*i) (by omega) (.inl ⟨by rw [show 2*i / 2=i by omega],by omega⟩)) ?_
   have e2:(pre++gM m g).length+1=(pre++gM m g++[oM m i]).length:=by simp only [List.length_append,List.length_cons,List.length_nil]
   rw [e2]
   refine Yy (cnt_meet (pre:=pre++gM m g++[oM m i]) (r:=mAll m (i+1) gs) (o:=oR m) (by rw [hM2];simp) hl (c:=2*i+1) (by omega) (.inr ⟨rfl,by omega⟩)) ?_
   have e3:(pre++gM m g++[oM m i]).length+1=(pre++gM m g++[oM m i]++[oR m]).length:=by simp only [List.length_append,List.length_cons,List.length_nil]
   rw [e3,show 2*i+1+1=2*(i+1) by omega]
   have:=cnt_all hl gs (i+1) (pre++gM m g++[oM m i]++[oR m]) (by rw [hM2];simp) (by omega)
   rw [List.length_cons,show i+(gs.length+1)=i+1+gs.length by omega]
   exact this
end
end Go.Ql
end

section
set_option maxHeartbeats 1000000
namespace Go.Ql
theorem free_ok {m G:Nat} (hm:m≤11) (hG:G≤m) (t:Int):∃x:Nat,x<2^m∧(∀j,j<G→x.testBit j=false) ∧
 IntKind.i64.wrap (Int.fdiv (ibits BinOp.and IntKind.i64 t (IntKind.i64.wrap (IntKind.i64.wrap ((1:Int)*(2:Int)^Min.min (Int.toNat (m:Int)) (64:Nat))-(1:Int)))) ((2:Int)^Min.min (Int.toNat (G:Int)) (64:Nat))*(2:Int)^Min.min (Int.toNat (G:Int)) (64:Nat))=(x:Int):=by
 have h12:2^m≤4096:=p12 (by omega)
 have hpos:0<2^m:=Nat.two_pow_pos m
 have hp:IntKind.i64.wrap ((1:Int)*(2:Int)^Min.min (Int.toNat (m:Int)) (64:Nat))=((2^m:Nat):Int):=by
  have:=pow63 (q:=(m:Int)) (by omega)
  rw [this,Int.toNat_natCast]
 have hq:((2:Int)^Min.min (Int.toNat (G:Int)) (64:Nat))=((2^G:Nat):Int):=by
  rw [Int.toNat_natCast,Nat.min_eq_left (by omega)];simp
 rw [hp,hq,jH (x:=((2^m:Nat):Int)-1) (by omega),show ((2^m:Nat):Int)-1=((2^m-1:Nat):Int) by omega]
 have ha:ibits BinOp.and IntKind.i64 t ((2^m-1:Nat):Int)=(((BitVec.ofInt 64 t).toNat % 2^m:Nat):Int):=by
  show IntKind.i64.wrap (((BitVec.ofInt 64 t &&& BitVec.ofInt 64 ((2^m-1:Nat):Int)).toNat:Nat):Int)=_
  rw [BitVec.toNat_and]
  simp only [Vq,BitVec.toNat_ofNat]
  rw [Nat.mod_eq_of_lt (a:=2^m-1) (by omega),Nat.and_two_pow_sub_one_eq_mod]
  have:=Nat.mod_lt (BitVec.ofInt 64 t).toNat hpos
  rw [jH (by omega)]
 rw [ha]
 generalize hz:(BitVec.ofInt 64 t).toNat % 2^m=z
 have hzl:z<2^m:=by rw [←hz];exact Nat.mod_lt _ hpos
 have hle:z / 2^G*2^G≤z:=Nat.div_mul_le_self _ _
 refine ⟨z / 2^G*2^G,by omega,fun j hj=>?_,?_⟩
 ·rw [Nat.testBit_eq_decide_div_mod_eq]
  have e:2^G=2^(G-j-1)*2*2^j:=by
   rw [Nat.mul_assoc,←Nat.pow_succ',←Nat.pow_add]
   congr 1
   omega
  have e2:z / 2^G*2^G=(z / 2^G*2^(G-j-1)*2)*2^j:=by
   conv=>lhs;rhs;rw [e]
   rw [←Nat.mul_assoc,←Nat.mul_assoc]
  rw [e2,Nat.mul_div_cancel _ (Nat.two_pow_pos j)]
  exact decide_eq_false (by omega)
 ·rw [Int.fdiv_eq_ediv_of_nonneg _ (Int.natCast_nonneg _),←Int.natCast_ediv,←Int.natCast_mul,jH (by omega)]
theorem pauZ_ba {x j:Nat} (hj:j<12) (hx:x.testBit j=false):pauK (pZ j) (baK x)=baK x:=by
 funext y
 show pauK ⟨0,2^j,false⟩ (baK x) y=_
 rw [pau_Zm hj]
 unfold baK
 by_cases e:y=x
 ·rw [if_pos e,e,hx,UY _ (by rfl)]
 ·rw [if_neg e,Yp]
section
variable {m:Nat} {gs:List Tx} {w:Wd} {x:Nat}
def mA (m:Nat) (gs:List Tx) (w:Wd):List GOp:=invL (YH m gs)++pO w m
theorem mA_own (hl:gs.length≤m):∀o∈mA m gs w,Own m o:=fun o ho=>by
 rcases List.mem_append.1 ho with ho | ho
 ·exact invL_own (encOps_own hl) o ho
 ·exact pO_all w (Nat.le_refl m) o ho
theorem gen_fix (m2:m≤11) (hl:gs.length≤m) (hall:∀g∈gs,isP g m=true) (hmeet:fstF (nmeet (wds gs)) 0 gs.length=none) (hdep:fstF (ndep (wds gs)) 0 gs.length=none)
 (hx:∀j,j<gs.length→x.testBit j=false) {j:Nat} (hj:j<gs.length):Fx (pg gs[j]) (runK (invL (YH m gs)) (baK x)):=by
 have hgens:=enc_gens (m:=m) (by omega) hl hall hmeet hdep j hj
 have hst:∀o∈YH m gs,StO m o:=fun o ho=>(encOps_own hl o ho).sto
 have hst2:∀o∈invL (YH m gs),StO m o:=fun o ho=>(invL_own (encOps_own hl) o ho).sto
 have e:gPs (invL (YH m gs)) (pZ j)=pg gs[j]:=by rw [←hgens,gPs_inv hst,fG_at hj]
 have h:=HW (n:=m) (by omega) (invL (YH m gs)) hst2 (pZ j) (baK x)
 rw [pauZ_ba (by omega) (hx j hj)] at h
 unfold Fx
 rw [←e]
 exact h.symm
theorem gen_sign (m2:m≤11) (hl:gs.length≤m) (hall:∀g∈gs,isP g m=true) (hmeet:fstF (nmeet (wds gs)) 0 gs.length=none) (hdep:fstF (ndep (wds gs)) 0 gs.length=none)
 (hx:∀j,j<gs.length→x.testBit j=false) (hw:w.length=m) {j:Nat} (hj:j<gs.length) (y:Nat) :
 pauK (pg gs[j]) (runK (mA m gs w) (baK x)) y=turnZ (runK (mA m gs w) (baK x) y) (8*bi (ap (wd gs[j]) w)):=by
 have hgl:=(Yq (hall _ (List.getElem_mem hj))).2.2.1
 have h:=error_sign (n:=m) (by omega) (gen_fix m2 hl hall hmeet hdep hx hj) hw y
 have hs:=HN (wd gs[j]) w (sgn gs[j]) false (hgl.trans hw.symm)
 rw [hgl] at hs
 unfold mA
 rw [HL]
 rw [show sym m (pg gs[j]) (pu w false)=ap (wd gs[j]) w from hs] at h
 exact h
theorem mA_off (hl:gs.length≤m) (hx:x<2^m):Off m (runK (mA m gs w) (baK x)):=fun y hy=>by
 refine run_far (n:=m) (fun o ho=>(mA_own hl o ho).sto) (baK_far hx) y ?_
 apply Nat.le_of_not_lt
 intro h
 rw [Nat.testBit_lt_two_pow h] at hy
 cases hy
end
theorem synd_at {w:Wd} {gs:List Tx} {j:Nat} (hj:j<gs.length):(synd w gs).getD j 0=bi (ap (wd gs[j]) w):=by
 unfold synd
 simp [List.getD,List.getElem?_map,List.getElem?_eq_getElem hj]
theorem list_eq {a b:List Int} (hl:a.length=b.length) (h:∀j,j<a.length→a.getD j 0=b.getD j 0):a=b:=by
 apply List.ext_getElem hl
 intro j h1 h2
 have:=h j h1
 rw [kp h1,kp h2] at this
 exact this
theorem measures_law (n:Int) (gs:List Tx) (hg:WTxs gs) (hn:n<9223372036854775808) (err:Tx) (he:err.length≤140737488355328) (t:Int):W.jc (n,gs) err t=some true:=by
 obtain ⟨k1,k2,k3⟩:=measurer_ok n gs
 have hchk:=kcheck_ok n gs hg hn
 have hcopy:=copyCode_ok n gs hg.1
 have hip:=ispauli_ok err n he hn
 have h5:∀f:Int×Int,W.jc.c5 f.1 f.2 f.1 f.2 some=some false:=fun f=>by
  unfold W.jc.c5
  refine jr begun_ok ?_
  rw [jF (by rfl),eqT_pair]
  simp
 by_cases h:(chkC n gs).1=0
 ·obtain ⟨hc,m,rfl,m1,m2,hl,hall,hmeet,hdep⟩:=HB h
  by_cases h11:(m:Int)>11
  ·have h2:W.jc.cB_ (m:Int) (chkC (m:Int) gs).1 (chkC (m:Int) gs).2 some=some ((36:Int),(0:Int)):=by
    unfold W.jc.cB_ W.jc.c3
    rw [h,Jy (by rfl),ji,ke h11]
   unfold W.jc
   refine jr hcopy (jr (k2 h h11) (jr hchk (jr h2 (jr (h5 (36,0)) ?_))))
   rw [jF rfl,Jy (by rfl)]
   exact jr (sameCircuit_ok nix nix ⟨by decide,fun o ho=>by cases ho⟩) (by simp)
  ·have hm:m≤11:=by omega
   have h2:W.jc.cB_ (m:Int) (chkC (m:Int) gs).1 (chkC (m:Int) gs).2 some=some ((0:Int),(0:Int)):=by
    unfold W.jc.cB_ W.jc.c3
    rw [hc,Jy (by rfl),ji,JS h11]
   have hmM:=k3 h m rfl hm hl hall
   have hMop:∀o∈mAll m 0 gs,MOp m gs.length o:=mAll_op gs 0 (by omega) hall
   have hMl:(mAll m 0 gs).length≤418:=Nat.le_trans (mAll_len gs 0 hall) (Nat.le_trans (Nat.mul_le_mul (by omega:gs.length≤11) (by omega:3*m+5≤38)) (by decide))
   obtain ⟨c1,c2,c3,c4,c5⟩:=mop_chk hm (by omega) hMop (by omega)
   have hwn:IntKind.i64.wrap ((m:Int)+(1:Int))=((m+1:Nat):Int):=by rw [jH (by omega)];omega
   have h11':W.jc.c11 (m:Int) gs ((m+1:Nat):Int) (gs.length:Int) 0 0 some=some false:=by
    unfold W.jc.c11
    rw [hwn,jF (by rfl),jF (by rfl),jF (by simp)]
    simp
   have hcnt:=cnt_all (m:=m) (M:=mAll m 0 gs) (by omega) gs 0 [] rfl (by omega)
   have hw2:IntKind.i64.wrap ((2:Int)*(↑(List.length gs):Int))=((2*(0+gs.length):Nat):Int):=by rw [jH (by omega)];simp
   unfold W.jc
   refine jr hcopy (jr hmM (jr hchk (jr h2 (jr (h5 (0,0)) ?_))))
   rw [jF rfl,jF (by rfl)]
   refine jr ((rcheck_ok _ c2).trans (congrArg some c1)) (jr ((rfault_normal _ c2.1).trans (congrArg some c3)) (jr h11' ?_))
   rw [jF rfl]
   refine jr hcnt ?_
   rw [kh]
   rw [Int.toNat_natCast,decide_eq_true (show 1≤(m:Int) by omega),Bool.true_and] at hip
   cases hP:isP err m with
   | false=>
     rw [hP,if_neg (by decide)] at hip
     refine jr hip ?_
     have h25:W.jc.c25 ((2*(0+gs.length):Nat):Int) false gs some=some true:=by
      unfold W.jc.c25
      rw [hw2,jF (by simp)]
      rfl
     refine jr h25 ?_
     rw [Jy rfl]
     simp only
     rw [hw2]
     simp
   | true=>
     rw [hP,if_pos rfl] at hip
     refine jr hip ?_
     have h25:W.jc.c25 ((2*(0+gs.length):Nat):Int) true gs some=some false:=by
      unfold W.jc.c25
      rw [hw2,jF (by simp)]
      rfl
     refine jr h25 ?_
     rw [jF rfl]
     have hel:=Yq hP
     have het:=isP_txt hP
     obtain ⟨e,e1,e2,e3⟩:=encoder_ok (m:Int) gs
     have hee:=e3 h m rfl m1 m2 hl hall
     subst hee
     rw [hc] at e1
     refine jr hcopy (jr e1 ?_)
     rw [jF (by rfl)]
     have hEl:(invL (YH m gs)).length≤456:=by
      rw [invL_len]
      exact Nat.le_trans (encOps_len hl) (mul_b hl m2).2
     generalize hw:wd err=w at *
     have hwl:w.length=m:=hel.2.2.1
     have hpl:=pO_len w m
     have h31:W.jc.c31 err (invL (YH m gs)) some=some (mA m gs w):=by
      unfold W.jc.c31
      refine jr (Yg (n:=0+(invL (YH m gs)).length) (k:=80) (by omega)) ?_
      refine jr (Jq (by simp only [Bool.and_eq_true,decide_eq_true_eq];omega)) ?_
      rw [Int.toNat_natCast,List.take_of_length_le (Nat.le_refl _),het]
      refine jr (pops_ok hwl (by omega)) ?_
      exact jr (Yg (n:=(invL (YH m gs)).length+(pO w m).length) (k:=80) (by omega)) rfl
     refine jr h31 ?_
     have hAl:(mA m gs w).length≤500:=by unfold mA;rw [List.length_append];omega
     have hAown:∀o∈mA m gs w,Own m o:=mA_own hl
     rw [JS (by simp only;rw [jH (by omega)];omega)]
     refine jr (ge0 m) ?_
     have h35:W.jc.c35 gs some=some ():=by
      unfold W.jc.c35
      simp only [ge0,ji]
     refine jr h35 ?_
     obtain ⟨x,x1,x2,x3⟩:=free_ok hm hl t
     simp only [x3,hwn]
     have hx1:x<2^(m+1):=Nat.lt_of_lt_of_le x1 (Nat.pow_le_pow_right (by decide) (by omega))
     have hAop:∀o∈mA m gs w,MOp m gs.length o:=fun o ho=>.inl (hAown o ho).up
     obtain ⟨a1,a2,a3,a4,a5⟩:=mop_chk hm (by omega) hAop (by omega)
     have hpure:∀o∈mA m gs w,o.1<5∧o.2.2.2.2.2=[]:=fun o ho=>by
      have hp:=(hAown o ho).pure
      have hst:=(hAown o ho).sto
      simp only [not_or,Classical.not_not] at hp
      refine ⟨?_,hp.2.2⟩
      rcases hst.form with h | h | h | h | h
      ·rw [h.1];decide
      ·rw [h.1];decide
      ·rw [h.1];decide
      ·rw [h.1];decide
      ·rw [h.1];decide
     have hrunA:=fun (T:List Int) (r:List GOp)=>stabK_pure T hpure r 0 (baK x) (List.replicate gs.length 0) 0
     generalize hv0:runK (mA m gs w) (baK x)=v0 at hrunA
     have h1:=zrun_prog (n:=m+1) (bn:=gs.length) (by omega) (by omega) a2 a1 (by omega) hx1 a3 hpure a5
     rw [hv0] at h1
     obtain ⟨f,cc,q2,q3,q4⟩:=h1
     refine jr q4 ?_
     rw [jF (by rfl)]
     simp only
     have hsome:SomeK v0:=by obtain ⟨g,tg⟩:=q2;exact tg.some
     have hoff:Off m v0:=by rw [←hv0];exact mA_off hl x1
     have hsign:∀j,(hj:j<gs.length) → ∀y,pauK (pg gs[j]) v0 y=turnZ (v0 y) (8*bi (ap (wd gs[j]) w)):=fun j hj y=>by
      rw [←hv0]
      exact gen_sign hm hl hall hmeet hdep x2 hwl hj y
     refine jr (Yg (n:=(mA m gs w).length+(mAll m 0 gs).length) (k:=80) (by omega)) ?_
     have h40:W.jc.c40 err (m:Int) gs some=some (synd w gs):=by
      unfold W.jc.c40
      refine jr (Jq (by simp only [Bool.and_eq_true,decide_eq_true_eq];omega)) ?_
      rw [Int.toNat_natCast,List.take_of_length_le (Nat.le_refl _),het]
      exact jr (synd_ok hwl (by omega) hl hall (m:Int)) rfl
     refine jr h40 ?_
     have hsl:=synd_len w gs
     obtain ⟨i,hi⟩:=dup_walk (s:=synd w gs) (by omega)
     refine jr hi ?_
     simp only
     have hTl:=dupL_len (synd w gs)
     rw [hsl] at hTl
     have hTs:∀j,j<gs.length→(dupL (synd w gs)).getD (2*j) 0=bi (ap (wd (gs.getD j [])) w)∧(dupL (synd w gs)).getD (2*j+1) 0=bi (ap (wd (gs.getD j [])) w):=fun j hj=>by
      have h1:=dupL_at (synd w gs) j (by omega)
      rw [synd_at hj] at h1
      rw [kp hj]
      exact h1
     generalize hT:dupL (synd w gs)=T at hTl hTs
     have hallop:∀o∈mA m gs w++mAll m 0 gs,MOp m gs.length o:=fun o ho=>(List.mem_append.1 ho).elim (hAop o) (hMop o)
     have hal2:(mA m gs w++mAll m 0 gs).length≤1000:=by rw [List.length_append];omega
     obtain ⟨b1,b2,b3,b4,b5⟩:=mop_chk hm (by omega) hallop (by omega)
     obtain ⟨bits,r1,r2,r3⟩:=all_stab (a:=m) (by omega) hoff hsome (S:=fun j=>ap (wd (gs.getD j [])) w) hTl hTs gs 0 (0+(mA m gs w).length) (List.replicate gs.length 0) (by omega) hall (fun j hj y=>by
      simp only [Nat.zero_add]
      rw [kp hj]
      exact hsign j hj y) (fun j hj=>absurd hj (Nat.not_lt_zero _)) (by simp)
     have hbits:bits=synd w gs:=list_eq (by rw [r2,hsl]) fun j hj=>by
      rw [r3 j (by omega),synd_at (by omega),kp (show j<gs.length by omega)]
     subst hbits
     have h2:=wrun_prog (n:=m+1) (bn:=gs.length) (tape:=T) (by omega) (by omega) b2 b1 (by omega) (by rw [hTl];exact Nat.lt_of_le_of_lt (by omega:2*gs.length≤100) (by decide)) hx1 b3 b4 b5
     have hB:=hrunA T (mAll m 0 gs)
     rw [show (0:Nat)=2*0 by rfl] at hB
     rcases h2 with ⟨y,u1,u2⟩ | ⟨s,f',cc',u1,u2,u3,u4⟩
     ·have:=u1.symm.trans (hB.trans r1)
      cases this
     have hs2:s=(v0,synd w gs,2*gs.length):=by
      have:=u1.symm.trans (hB.trans r1)
      exact Sum.inr.inj this
     subst hs2
     simp only at u2 u4
     refine jr u4 ?_
     have hrows:=q3.rows (by omega) q2 u3 u2
     have h47:W.jc.c47 (stTx (m+1) f (m+1)) (synd w gs) (stTx (m+1) f' (m+1)) (synd w gs) ((2*gs.length:Nat):Int) 0 T some=some false:=by
      unfold W.jc.c47
      rw [jF (by rfl)]
      refine jr (ksameInts_ok _ _ (by omega)) ?_
      rw [jF (by simp),jF (by rw [hTl];simp),hrows]
      exact jr (sameTexts_self _ (by rw [stTx_len];omega)) rfl
     refine jr h47 ?_
     rw [jF rfl]
     simp only
     cases gs with
     | nil=>
       rw [Jy (by rw [hTl];rfl)]
     | cons g gs'=>
       have hTpos:0<T.length:=by rw [hTl,List.length_cons];omega
       rw [jF (by rw [hTl,List.length_cons];simp;omega)]
       have hir:inR (List.length T) (0:Int)=some ():=Jq (by simp only [Bool.and_eq_true,decide_eq_true_eq];omega)
       have ht0:idx T (0:Int)=some (bi (ap (wd g) w)):=by
        have h0:=(hTs 0 (by simp)).1
        have:idx T ((0:Nat):Int)=some (T.getD 0 0):=by rw [JN hTpos,kp hTpos]
        rw [show (0:Int)=((0:Nat):Int) by rfl,this]
        exact congrArg some h0
       rw [hir,ji,ht0,ji,ji,ji]
       have hfl:IntKind.i64.wrap ((1:Int)-bi (ap (wd g) w))=bi (!ap (wd g) w):=by cases ap (wd g) w<;>rfl
       rw [hfl]
       have hT2:(List.set T 0 (bi (!ap (wd g) w))).length=T.length:=List.length_set ..
       obtain ⟨j,hj⟩:=first_not (a:=m) (by omega) (hall g (List.mem_cons_self ..)) hoff (hsign 0 (by simp)) (tape:=List.set T 0 (bi (!ap (wd g) w))) (by omega) (by
        rw [List.getD,List.getElem?_set,if_pos rfl,if_pos hTpos]
        rfl) gs' (0+(mA m (g::gs') w).length) (List.replicate (g::gs').length 0)
       have h3:=wrun_prog (n:=m+1) (bn:=(g::gs').length) (tape:=List.set T 0 (bi (!ap (wd g) w))) (by omega) (by omega) b2 b1 (by omega) (by rw [hT2,hTl];exact Nat.lt_of_le_of_lt (by omega:2*(g::gs').length≤100) (by decide)) hx1 b3 b4 b5
       have hB2:=hrunA (List.set T 0 (bi (!ap (wd g) w))) (mAll m 0 (g::gs'))
       rcases h3 with ⟨y,u1,u2⟩ | ⟨s,f'',cc'',u1,u2,u3,u4⟩
       ·have hy:=u1.symm.trans (hB2.trans hj)
        cases hy
        exact jr u2 rfl
       ·have:=u1.symm.trans (hB2.trans hj)
        cases this
 ·have h2:W.jc.cB_ n (chkC n gs).1 (chkC n gs).2 some=some ((chkC n gs).1,(chkC n gs).2):=by
   unfold W.jc.cB_ W.jc.c3
   rw [jF (by simp [h]),ji,jF rfl]
  unfold W.jc
  refine jr hcopy (jr (k1 h) (jr hchk (jr h2 (jr (h5 (chkC n gs)) ?_))))
  rw [jF rfl,Jy (by simp [h])]
  exact jr (sameCircuit_ok nix nix ⟨by decide,fun o ho=>by cases ho⟩) (by simp)
end Go.Ql
end

section
namespace Go.Ql
theorem measures_wf:∀x:dens [codeTy,.str,.int .i64],WfL [codeTy,.str,.int .i64] x→W.jc.ce.F x=some true:=by
 intro x h
 have h2:x.2.1.length≤140737488351232:=h.2.1
 exact measures_law x.1.1 x.1.2 (wtxs h.1).1 (wtxs h.1).2 x.2.1 (by omega) x.2.2
end Go.Ql
end
