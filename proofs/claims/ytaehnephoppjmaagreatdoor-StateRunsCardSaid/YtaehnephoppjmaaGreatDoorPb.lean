/- Plain laws: gates, runs, chances. -/
import Derived.Test.YtaehnephoppjmaaGreatDoorPa
import Derived.Test.YtaehnephoppjmaaGreatDoorGa
set_option linter.all false
section
section
namespace Go.Ql
theorem pow63 {q:Int} (h:0≤q∧q≤62):IntKind.i64.wrap ((1:Int)*(2:Int)^Min.min (Int.toNat q) (64:Nat))=((2^q.toNat:Nat):Int):=by
 rw [Nat.min_eq_left (by omega),Int.one_mul]
 have h1:(2:Nat)^q.toNat≤2^62:=Nat.pow_le_pow_right (by omega) (by omega)
 have h2:((2^q.toNat:Nat):Int)=(2:Int)^q.toNat:=by simp
 have h3:(2:Nat)^62=4611686018427387904:=by decide
 rw [h3] at h1
 rw [←h2,ji (by have:=Int.natCast_nonneg (2^q.toNat);omega)]
theorem UU {x:Nat} {q:Int} (hx:x<2^63) (hq:0≤q∧q<64):W.kz (x:Int) q=some (if bt q x=true then 1 else 0):=by
 unfold W.kz
 have h1:Int.fdiv (x:Int) ((2:Int)^Min.min (Int.toNat q) (64:Nat))=((x / 2^q.toNat:Nat):Int):=by
  rw [Nat.min_eq_left (by omega),Int.fdiv_eq_ediv_of_nonneg _ (by have:(0:Int)≤((2^q.toNat:Nat):Int):=Int.natCast_nonneg _;simpa using this)]
  norm_cast
 have h2:=Hl (a:=x / 2^q.toNat) (b:=1) (Nat.lt_of_le_of_lt (Nat.div_le_self _ _) hx) (by decide)
 rw [show ((1:Nat):Int)=1 from rfl] at h2
 rw [jT (by simpa using hq.1),ja,h1,h2]
 have h3:x / 2^q.toNat &&& 1=x / 2^q.toNat % 2:=Nat.and_one_is_mod _
 have h4:bt q x=decide (x / 2^q.toNat % 2=1):=by
  unfold bt
  rw [Nat.testBit,Nat.shiftRight_eq_div_pow,Nat.and_comm 1,h3]
  have:x / 2^q.toNat % 2=0∨x / 2^q.toNat % 2=1:=by omega
  rcases this with h | h<;>rw [h]<;>rfl
 rw [h3,h4]
 have:x / 2^q.toNat % 2=0∨x / 2^q.toNat % 2=1:=by omega
 rcases this with h | h<;>rw [h]<;>rfl
def Qs (l:List Int):Prop:=∀q∈l,0≤q∧q<62
theorem ones_iff {l:List Int} {x:Nat}:onesB l x=true ↔ ∀j,j<l.length→bt (l.getD j 0) x=true:=by
 unfold onesB
 rw [List.all_eq_true]
 constructor
 ·intro h j hj
  have e:l.getD j 0=l[j]:=by simp [hj]
  rw [e];exact h _ (List.getElem_mem hj)
 ·intro h q hq
  obtain ⟨j,hj,e⟩:=List.mem_iff_getElem.1 hq
  have:=h j hj
  have e2:l.getD j 0=l[j]:=by simp [hj]
  rw [e2,e] at this
  exact this
theorem qs_at {l:List Int} (h:Qs l) {j:Nat} (hj:j<l.length):0≤l.getD j 0∧l.getD j 0<62:=by
 have e:l.getD j 0=l[j]:=by simp [hj]
 rw [e];exact h _ (List.getElem_mem hj)
theorem allOne_ok {x:Nat} {l:List Int} (hx:x<2^63) (hl:Qs l) (hn:l.length<2^62):W.JM (x:Int) l=some (onesB l x):=by
 obtain ⟨y,h1,h2⟩:=JI (f:=fun s:Int↦W.JM.cc_ (x:Int) l s some) l.length
  (fun i s=>s=(i:Int) ∧ ∀j,j<i→bt (l.getD j 0) x=true)
  (fun y=>(∃i,y=.inl i∧onesB l x=false)∨(∃i,y=.inr i∧onesB l x=true))
  (by
   rintro i s hi ⟨rfl,h2⟩
   have hq:=qs_at hl hi
   simp only [W.JM.cc_]
   rw [jN (by omega),JH i rfl hi,ja,UU hx (by omega),ja]
   by_cases hb:bt (l.getD i 0) x=true
   ·rw [if_pos hb,Jh (by decide),ji (by omega)]
    refine .inl ⟨_,rfl,by omega,fun j hj=>?_⟩
    by_cases e:j=i
    ·rw [e];exact hb
    ·exact h2 j (by omega)
   ·rw [if_neg hb,Jz (by decide)]
    exact .inr ⟨_,rfl,.inl ⟨_,rfl,by
     rw [←Bool.not_eq_true]
     exact fun h=>hb (ones_iff.1 h i hi)⟩⟩)
  (by
   rintro s ⟨rfl,h2⟩
   simp only [W.JM.cc_]
   rw [jL (by omega)]
   exact ⟨_,rfl,.inr ⟨_,rfl,ones_iff.2 h2⟩⟩)
  (s:=(0:Int)) ⟨rfl,fun j hj=>by omega⟩
 unfold W.JM
 rw [h1,ja]
 rcases h2 with ⟨i,rfl,h3⟩ | ⟨i,rfl,h3⟩
 ·rw [kj,h3]
 ·rw [kG,h3]
def condK (bits:List Int) (o:GOp):Bool:=o.2.2.2.2.2.all fun c=>(decide (c≤0)||bits.getD (c-1).toNat 0==1)&&(decide (0≤c)||bits.getD (-c-1).toNat 0==0)
theorem cond_ok {o:GOp} {bits:List Int} (hn:o.2.2.2.2.2.length<2^62) (hb:bits.length<2^62) (hc:∀c∈o.2.2.2.2.2,c≠0∧c≤bits.length ∧ -c≤bits.length):W.jG o bits=some (condK bits o):=by
 obtain ⟨o0,o1,o2,o3,o4,l⟩:=o
 simp only at *
 obtain ⟨y,h1,h2⟩:=JI (f:=fun s:Int↦W.jG.cc_ bits s l some) l.length
  (fun i s=>s=(i:Int) ∧ ∀j,j<i→((decide (l.getD j 0≤0)||bits.getD (l.getD j 0-1).toNat 0==1)&&(decide (0≤l.getD j 0)||bits.getD (-l.getD j 0-1).toNat 0==0))=true)
  (fun y=>(∃i,y=.inl i∧condK bits (o0,o1,o2,o3,o4,l)=false)∨(∃i,y=.inr i∧condK bits (o0,o1,o2,o3,o4,l)=true))
  (by
   rintro i s hi ⟨rfl,h2⟩
   have hm:l.getD i 0∈l:=by
    have e:l.getD i 0=l[i]:=by simp [hi]
    rw [e];exact List.getElem_mem hi
   obtain ⟨c0,c1,c2⟩:=hc _ hm
   have hbad:((decide (l.getD i 0≤0)||bits.getD (l.getD i 0-1).toNat 0==1)&&(decide (0≤l.getD i 0)||bits.getD (-l.getD i 0-1).toNat 0==0))=false→condK bits (o0,o1,o2,o3,o4,l)=false:=fun hf=>by
    rw [←Bool.not_eq_true]
    intro ht
    unfold condK at ht
    rw [List.all_eq_true] at ht
    have:=ht _ hm
    rw [hf] at this
    cases this
   have hgo:((decide (l.getD i 0≤0)||bits.getD (l.getD i 0-1).toNat 0==1)&&(decide (0≤l.getD i 0)||bits.getD (-l.getD i 0-1).toNat 0==0))=true → ∀j,j<i+1→((decide (l.getD j 0≤0)||bits.getD (l.getD j 0-1).toNat 0==1)&&(decide (0≤l.getD j 0)||bits.getD (-l.getD j 0-1).toNat 0==0))=true:=fun ht j hj=>by
    by_cases e:j=i
    ·rw [e];exact ht
    ·exact h2 j (by omega)
   simp only [W.jG.cc_,W.jG.c4,W.jG.c6]
   rw [jN (by omega),JH i rfl hi,ja]
   simp only [ja]
   generalize l.getD i 0=c at *
   by_cases hp:c>0
   ·rw [jN hp,ji (by omega),JH (c-1).toNat (by omega) (by omega),ja,ja]
    have e2:decide (0≤c)=true:=decide_eq_true (by omega)
    have e1:decide (c≤0)=false:=decide_eq_false (by omega)
    rw [e1,e2] at hbad hgo
    by_cases hv:bits.getD (c-1).toNat 0=1
    ·rw [Jh (by rw [hv];rfl)]
     rw [jL (by omega),ja,br_ff,ji (by omega)]
     exact .inl ⟨_,rfl,by omega,hgo (by rw [hv];rfl)⟩
    ·rw [Jz (bne_iff_ne.2 hv)]
     exact .inr ⟨_,rfl,.inl ⟨_,rfl,hbad (by rw [beq_false_of_ne hv];rfl)⟩⟩
   ·rw [jL hp,ja,br_ff,jN (by omega),ji (x:=0-c) (by omega),ji (by omega),Int.zero_sub,JH (-c-1).toNat (by omega) (by omega),ja,ja]
    have e2:decide (0≤c)=false:=decide_eq_false (by omega)
    have e1:decide (c≤0)=true:=decide_eq_true (by omega)
    rw [e1,e2] at hbad hgo
    by_cases hv:bits.getD (-c-1).toNat 0=0
    ·rw [Jh (by rw [hv];rfl),ji (by omega)]
     exact .inl ⟨_,rfl,by omega,hgo (by rw [hv];rfl)⟩
    ·rw [Jz (bne_iff_ne.2 hv)]
     exact .inr ⟨_,rfl,.inl ⟨_,rfl,hbad (by rw [beq_false_of_ne hv];rfl)⟩⟩)
  (by
   rintro s ⟨rfl,h2⟩
   simp only [W.jG.cc_]
   rw [jL (by omega)]
   refine ⟨_,rfl,.inr ⟨_,rfl,?_⟩⟩
   unfold condK
   rw [List.all_eq_true]
   intro c hcm
   obtain ⟨j,hj,e⟩:=List.mem_iff_getElem.1 hcm
   have:=h2 j hj
   have e2:l.getD j 0=l[j]:=by simp [hj]
   rw [e2,e] at this
   exact this)
  (s:=(0:Int)) ⟨rfl,fun j hj=>by omega⟩
 unfold W.jG
 rw [h1,ja]
 rcases h2 with ⟨i,rfl,h3⟩ | ⟨i,rfl,h3⟩
 ·rw [kj,h3]
 ·rw [kG,h3]
theorem rhalf_ok {a:NumT} {k:K} {L E:Nat} (h:Num 10000 a k L E) (hL:L+L+E+E<70000) (hE:E≤10000) :
 ∃r,W.ke a=some r∧Num 10000 r (K.half k) (L+L+E+E+1) (E+1):=by
 obtain ⟨t,t1,t2⟩:=rturn_ok h (by omega) 2
 obtain ⟨u,u1,u2⟩:=rturn_ok h (by omega) 6
 obtain ⟨⟨c,ae⟩,s1,s2⟩:=rsub_ok t2 u2 (by omega) (by omega)
 obtain ⟨v,e,h1,h2,h3,h4,h5,h6⟩:=s2.has
 simp only at h1 h2
 subst h2
 have hk:K.half k=K.sm (1 / 2) (kv v e):=by rw [h4];rfl
 unfold W.ke W.ke.c1
 rw [t1,ja,u1,ja,s1,ja]
 simp only [bx_in,bx_at,ja]
 rw [Vt h1,ja]
 by_cases hz:Ve v
 ·rw [jN hz]
  refine ⟨_,rfl,?_⟩
  have e0:K.half k=kv v e:=by
   rw [hk,(YE (e:=e)).1 hz]
   apply K.eq_of<;>simp only [K.sm,K.zero]<;>grind
  rw [e0]
  exact Num.mk' h1 rfl h3 rfl (h5.mono (by omega)) (by omega)
 ·rw [jL hz,ji (by omega),show (e:Int)+1=((e+1:Nat):Int) by omega]
  simp only [List.set_cons_zero,bx_at,ja]
  obtain ⟨r,r1,r2⟩:=rleast_ok h1 h5 (by omega) (e+1) (by omega)
  rw [r1,ja]
  refine ⟨r,rfl,?_⟩
  obtain ⟨w,f,q1,q2,q3,q4,q5,q6⟩:=r2.has
  refine ⟨w,f,q1,q2,q3,?_,q5.mono (by omega),by omega⟩
  rw [q4,kv_half1,hk]
end Go.Ql
end
section
namespace Go.Ql
def z0:NumT:=(List.replicate 8 d0,(0:Int))
structure Amps (l:List NumT) (N:Nat) (v:KV) (t:Nat):Prop where
 len:l.length=N
 at_:∀x,x<N→Num 10000 (l.getD x z0) (v x) (2*t+1) t
 fit:∀x,x<N→FitsK (v x) (2*t+1) t
def cut (i:Nat) (v:KV):KV:=fun x=>if x<i then v x else K.zero
theorem gate_fits {o:GOp} {w:KV} {L t:Nat} (h:∀x,FitsK (w x) L t) (y:Nat):FitsK (gateK o w y) (L+2) (t+1):=by
 have h1:=fun x=>((h x).up 1).mono (show L+1≤L+2 by omega)
 have h2:=fun x=>(h x).half
 unfold gateK
 split
 ·exact h1 y
 ·split
  ·exact (h1 y).turn _
  ·split
   ·split
    ·exact (h1 y).turn _
    ·exact h1 y
   ·split
    ·exact h1 _
    ·split
     ·exact (h2 _).add (h2 y).neg
     ·exact (h2 _).add (h2 y)
theorem UX {o:GOp} {w w':KV} {y:Nat} (h1:w y=w' y) (h2:w (fl o.2.2.2.1 y)=w' (fl o.2.2.2.1 y)):gateK o w y=gateK o w' y:=by
 simp only [gateK,h1,h2]
theorem UY {o:GOp} {w:KV} {y:Nat} (h:onesB o.2.2.1 y=false):gateK o w y=w y:=by
 unfold gateK
 rw [if_pos h]
theorem gate_turn {o:GOp} {w:KV} {y:Nat} (h:onesB o.2.2.1 y=true) (hk:o.1=1∨(o.1=4∧bt o.2.2.2.1 y=true)):gateK o w y=K.turn (w y) o.2.1.toNat:=by
 unfold gateK
 rw [if_neg (by simp [h])]
 rcases hk with hk | ⟨hk,hb⟩
 ·rw [if_pos hk]
 ·rw [if_neg (by omega),if_pos hk,if_pos hb]
theorem gate_stay {o:GOp} {w:KV} {y:Nat} (h:onesB o.2.2.1 y=true) (hk:o.1=4) (hb:¬bt o.2.2.2.1 y=true):gateK o w y=w y:=by
 unfold gateK
 rw [if_neg (by simp [h]),if_neg (by omega),if_pos hk,if_neg hb]
theorem UK {o:GOp} {w:KV} {y:Nat} (h:onesB o.2.2.1 y=true) (hk:o.1=2):gateK o w y=w (fl o.2.2.2.1 y):=by
 unfold gateK
 rw [if_neg (by simp [h]),if_neg (by omega),if_neg (by omega),if_pos hk]
theorem Uz {o:GOp} {w:KV} {y:Nat} (h:onesB o.2.2.1 y=true) (hk:o.1≠1∧o.1≠2∧o.1≠4) :
 gateK o w y=K.add (K.half (w (fl o.2.2.2.1 y))) (if bt o.2.2.2.1 y=true then K.neg (K.half (w y)) else K.half (w y)):=by
 unfold gateK
 rw [if_neg (by simp [h]),if_neg hk.1,if_neg hk.2.2,if_neg hk.2.1]
theorem gate_locP {o:GOp} {w w':KV} {y:Nat} (h1:w y=w' y) (hk:onesB o.2.2.1 y=false∨o.1=1∨o.1=4):gateK o w y=gateK o w' y:=by
 unfold gateK
 split
 ·exact h1
 ·split
  ·rw [h1]
  ·split
   ·rw [h1]
   ·rename_i a b c
    rcases hk with hk | hk | hk
    ·exact absurd hk a
    ·exact absurd hk b
    ·exact absurd hk c
theorem rzero_num {a:NumT} {k:K} {L E:Nat} (h:Num 10000 a k L E):∃b,W.Jv a=some b∧(b=true↔k=K.zero):=by
 obtain ⟨c,ae⟩:=a
 obtain ⟨v,e,h1,h2,h3,h4,h5,h6⟩:=h.has
 refine ⟨_,Vt h1 ae,?_⟩
 rw [decide_eq_true_iff,YE (e:=e),h4]
theorem idxN {l:List NumT} {i:Nat} (h:i<l.length):idx l (i:Int)=some (l.getD i z0):=by
 rw [UL]
 simp [h]
theorem kZ {l:List NumT} {j y:Nat} {r:NumT} (h:j<l.length):(l.set j r).getD y z0=if y=j then r else l.getD y z0:=by
 by_cases e:y=j
 ·subst e;simp [h]
 ·rw [if_neg e]
  simp [List.getD,List.getElem?_set_ne (Ne.symm e)]
theorem fl_lt {q:Int} {i n:Nat} (hq:0≤q∧q<n) (hi:i<2^n):fl q i<2^n:=
 Nat.xor_lt_two_pow hi (Nat.pow_lt_pow_right (by decide) (by omega))
theorem fl_ne (q:Int) (x:Nat):fl q x≠x:=fun h=>by
 have h1:=Hi q x
 rw [h] at h1
 cases hb:bt q x<;>rw [hb] at h1<;>cases h1
theorem turn_toNat (x:K) {k:Int} (h:0≤k):K.turn x (k % 16).toNat=K.turn x k.toNat:=by
 rw [←K.turn_mod x k.toNat]
 congr 1
 omega
theorem UW (i:Nat) (v:KV):cut i v i=K.zero:=if_neg (Nat.lt_irrefl _)
theorem Ul (i:Nat) (v:KV):cut (i+1) v i=v i:=if_pos (Nat.lt_succ_self _)
theorem Vu {i y:Nat} (v:KV) (h:y≠i):cut (i+1) v y=cut i v y:=by
 unfold cut
 by_cases h1:y<i
 ·rw [if_pos h1,if_pos (by omega)]
 ·rw [if_neg h1,if_neg (by omega)]
structure Ok1 (o:GOp) (n:Nat):Prop where
 q:0≤o.2.2.2.1∧o.2.2.2.1<n
 k:0≤o.2.1
 qs:Qs o.2.2.1
 len:o.2.2.1.length<2^62
 out:o.2.2.2.1∉o.2.2.1
theorem Ok1.ones {o:GOp} {n:Nat} (h:Ok1 o n) (x:Nat):onesB o.2.2.1 (fl o.2.2.2.1 x)=onesB o.2.2.1 x:=
 ones_other (fun q hq=>(h.qs q hq).1) h.q.1 h.out x
theorem gate_step {l out:List NumT} {v:KV} {o:GOp} {i n t:Nat} (hv:Amps l (2^n) v t) (ho:Ok1 o n) (hn:n≤20) (hi:i<2^n) (ht:t≤9000)
 (h0:out.length=2^n) (h1:∀y,y<2^n→Num 10000 (out.getD y z0) (gateK o (cut i v) y) (2*t+3) (t+1)) :
 ∃out',W.jw.cH_ l (i:Int) o.1 o.2.1 o.2.2.1 o.2.2.2.1 out some=some out'∧out'.length=2^n ∧ ∀y,y<2^n→Num 10000 (out'.getD y z0) (gateK o (cut (i+1) v) y) (2*t+3) (t+1):=by
 have hN:2^n≤2^20:=Nat.pow_le_pow_right (by decide) hn
 have hlen:=hv.len
 have hni:=hv.at_ i hi
 have hq:=ho.q
 have hfi:=fl_lt hq hi
 have hfits:∀y,FitsK (gateK o (cut (i+1) v) y) (2*t+3) (t+1):=gate_fits (L:=2*t+1) (t:=t) (fun x=>by
  unfold cut
  split
  ·exact hv.fit x (by omega)
  ·exact FitsK.zero _ _)
 have hx63:i<2^63:=by omega
 have hxor:ibits BinOp.xor IntKind.i64 (i:Int) (IntKind.i64.wrap ((1:Int)*(2:Int)^Min.min (Int.toNat o.2.2.2.1) (64:Nat)))=((fl o.2.2.2.1 i:Nat):Int):=by
  have hp:2^o.2.2.2.1.toNat<2^63:=Nat.pow_lt_pow_right (by decide) (by omega)
  rw [pow63 (by omega),ixori64 hx63 hp]
  rfl
 have keep:∀(j:Nat) (r:NumT),j<2^n→Num 10000 r (gateK o (cut (i+1) v) j) (2*t+3) (t+1)→(∀y,y<2^n→y≠j→gateK o (cut (i+1) v) y=gateK o (cut i v) y) →
  (out.set j r).length=2^n ∧ ∀y,y<2^n→Num 10000 ((out.set j r).getD y z0) (gateK o (cut (i+1) v) y) (2*t+3) (t+1):=by
  intro j r hj hr hk
  refine ⟨by rw [List.length_set];exact h0,fun y hy=>?_⟩
  rw [kZ (by omega)]
  by_cases e:y=j
  ·rw [if_pos e,e];exact hr
  ·rw [if_neg e,hk y hy e];exact h1 y hy
 have here:∀(k:Prop),(onesB o.2.2.1 i=false∨o.1=1∨o.1=4) → ∀y,y≠i→gateK o (cut (i+1) v) y=gateK o (cut i v) y:=by
  intro _ hk y hy
  by_cases e:fl o.2.2.2.1 y=i
  ·refine gate_locP (Vu v hy) ?_
   rcases hk with hk | hk
   ·left
    rw [←ho.ones,e];exact hk
   ·exact .inr hk
  ·exact UX (Vu v hy) (Vu v e)
 obtain ⟨b,b1,b2⟩:=rzero_num hni
 unfold W.jw.cH_
 rw [idxN (by omega),ja,b1,ja]
 by_cases hz:v i=K.zero
 ·rw [Jz (b2.2 hz)]
  refine ⟨out,rfl,h0,fun y hy=>?_⟩
  have e:cut (i+1) v=cut i v:=by
   funext x
   by_cases e:x=i
   ·rw [e,Ul,UW,hz]
   ·exact Vu v e
  rw [e]
  exact h1 y hy
 ·rw [Jh (by cases hb:b;rfl;exact absurd (b2.1 hb) hz),allOne_ok hx63 ho.qs ho.len,ja]
  have hid:=h1 i hi
  by_cases hon:onesB o.2.2.1 i=true
  ·rw [hon,show (!true)=false from rfl,br_ff,jT (by simpa using hq.1),ja]
   unfold W.jw.c9
   by_cases hk1:o.1=1∨(o.1=4∧bt o.2.2.2.1 i=true)
   ·have hc:(br (o.1==(1:Int)) (some true) (br (o.1==(4:Int)) (bnd (W.kz (i:Int) o.2.2.2.1) fun y=>some (y==(1:Int))) (some false)))=some true:=by
     rcases hk1 with e | ⟨e,e2⟩
     ·rw [e];rfl
     ·rw [e,Jh (by decide),Jz (by decide),UU hx63 (by omega),ja,if_pos e2];rfl
    rw [hc,ja,br_tt]
    unfold W.jw.c10
    obtain ⟨r,r1,r2⟩:=rturn_ok hni (by omega) o.2.1
    rw [idxN (by omega),ja,r1,ja,Vg (by omega),ja,idxN (by omega),ja,ja]
    refine ⟨_,rfl,keep i r hi (Num.fit (k:=gateK o (cut (i+1) v) i) (L:=2*t+1) (E:=t) ?_ (hfits i)) (fun y _ hy=>here True (.inr (by omega)) y hy)⟩
    ·rw [gate_turn hon hk1,Ul,←turn_toNat _ ho.k]
     exact r2
   ·have hc:(br (o.1==(1:Int)) (some true) (br (o.1==(4:Int)) (bnd (W.kz (i:Int) o.2.2.2.1) fun y=>some (y==(1:Int))) (some false)))=some false:=by
     by_cases e:o.1=4
     ·have e2:¬bt o.2.2.2.1 i=true:=fun e2=>hk1 (.inr ⟨e,e2⟩)
      rw [e,Jh (by decide),Jz (by decide),UU hx63 (by omega),ja,if_neg e2];rfl
     ·rw [Jh (by simpa using fun e2=>hk1 (.inl e2)),Jh (by simpa using e)]
    rw [hc,ja,br_ff]
    by_cases hk4:o.1=4
    ·have hb4:¬bt o.2.2.2.1 i=true:=fun e2=>hk1 (.inr ⟨hk4,e2⟩)
     rw [Jz (by simpa using hk4),ja,Vg (by omega),ja,idxN (by omega),ja]
     refine ⟨_,rfl,keep i _ hi (Num.fit (k:=gateK o (cut (i+1) v) i) (L:=2*t+1) (E:=t) ?_ (hfits i)) (fun y _ hy=>here True (.inr (by omega)) y hy)⟩
     rw [gate_stay hon hk4 hb4,Ul]
     exact hni
    ·rw [Jh (by simpa using hk4)]
     by_cases hk2:o.1=2
     ·rw [Jz (by simpa using hk2),hxor,ja,Vg (by omega),ja,idxN (by omega),ja]
      have hof:onesB o.2.2.1 (fl o.2.2.2.1 i)=true:=by rw [ho.ones];exact hon
      refine ⟨_,rfl,keep (fl o.2.2.2.1 i) _ hfi (Num.fit (k:=gateK o (cut (i+1) v) (fl o.2.2.2.1 i)) (L:=2*t+1) (E:=t) ?_ (hfits _)) (fun y _ hy=>?_)⟩
      ·rw [UK hof hk2,fl_fl,Ul]
       exact hni
      ·have e:fl o.2.2.2.1 y≠i:=fun e=>hy (by rw [←e,fl_fl])
       by_cases hoy:onesB o.2.2.1 y=true
       ·rw [UK hoy hk2,UK hoy hk2,Vu v e]
       ·have hoy':onesB o.2.2.1 y=false:=by simpa using hoy
        rw [UY hoy',UY hoy']
        refine Vu v (fun e2=>hoy (e2▸hon))
     ·rw [Jh (by simpa using hk2),hxor,ja]
      have hk3:o.1≠1∧o.1≠2∧o.1≠4:=⟨fun e=>hk1 (.inl e),hk2,hk4⟩
      obtain ⟨r,r1,r2⟩:=rhalf_ok hni (by omega) (by omega)
      have rf:=(hv.fit i hi).half
      have r3:=r2.fit rf
      have hof:onesB o.2.2.1 (fl o.2.2.2.1 i)=true:=by rw [ho.ones];exact hon
      obtain ⟨s,s1,s2⟩:=Hn (h1 _ hfi) r3 (by omega) (by omega)
      have hne:=fl_ne o.2.2.2.1 i
      
      have e1:K.add (gateK o (cut i v) (fl o.2.2.2.1 i)) (K.half (v i))=gateK o (cut (i+1) v) (fl o.2.2.2.1 i):=by
       rw [Uz hof hk3,Uz hof hk3,fl_fl,UW,Ul,Vu v hne,K.half_zero,K.zero_add,K.add_comm]
      rw [e1] at s2
      have s3:=s2.fit (hfits _)
      obtain ⟨m,m1,m2⟩:∃m,W.jw.cO_ (i:Int) o.2.2.2.1 [r] some=some [m]∧Num 10000 m (if bt o.2.2.2.1 i=true then K.neg (K.half (v i)) else K.half (v i)) (2*t+2) (t+1):=by
       unfold W.jw.cO_
       rw [UU hx63 (by omega),ja]
       by_cases hb:bt o.2.2.2.1 i=true
       ·obtain ⟨m,m1,m2⟩:=rneg_ok r3 (by omega)
        rw [if_pos hb,Jz (by decide),if_pos hb]
        simp only [bx_at,ja]
        rw [m1]
        exact ⟨m,rfl,m2⟩
       ·rw [if_neg hb,Jh (by decide),if_neg hb]
        exact ⟨r,rfl,r3⟩
      obtain ⟨u,u1,u2⟩:=Hn hid m2 (by omega) (by omega)
      have e2:K.add (gateK o (cut i v) i) (if bt o.2.2.2.1 i=true then K.neg (K.half (v i)) else K.half (v i))=gateK o (cut (i+1) v) i:=by
       rw [Uz hon hk3,Uz hon hk3,UW,Ul,Vu v hne,K.half_zero]
       have e0:(if bt o.2.2.2.1 i=true then K.neg K.zero else K.zero)=K.zero:=by
        split
        ·rw [←K.turn_eight,K.turn_zero]
        ·rfl
       rw [e0,K.add_zero]
      rw [e2] at u2
      have u3:=u2.fit (hfits _)
      unfold W.jw.c16 W.jw.c19
      simp only [bx_at,ja]
      rw [r1]
      simp only [ja,bx_at]
      rw [Vg (by omega),ja,idxN (by omega),ja,s1]
      simp only [ja]
      rw [m1]
      simp only [ja,bx_at]
      have hsl:(out.set (fl o.2.2.2.1 i) s).length=2^n:=by rw [List.length_set];exact h0
      have hso:(out.set (fl o.2.2.2.1 i) s).getD i z0=out.getD i z0:=by rw [kZ (by omega),if_neg (Ne.symm hne)]
      rw [Int.toNat_natCast,Vg (by omega),ja,idxN (by omega),ja,hso,u1]
      simp only [ja]
      refine ⟨_,rfl,by rw [List.length_set];exact hsl,fun y hy=>?_⟩
      rw [Int.toNat_natCast,kZ (by omega)]
      by_cases ei:y=i
      ·rw [if_pos ei,ei];exact u3
      ·rw [if_neg ei,kZ (by omega)]
       by_cases ef:y=fl o.2.2.2.1 i
       ·rw [if_pos ef,ef];exact s3
       ·rw [if_neg ef,UX (w':=cut i v) (Vu v ei) (Vu v (fun e=>ef (by rw [←e,fl_fl])))]
        exact h1 y hy
  ·have hoff:onesB o.2.2.1 i=false:=by simpa using hon
   rw [hoff,show (!false)=true from rfl,br_tt]
   unfold W.jw.c7
   have e0:gateK o (cut i v) i=K.zero:=by rw [UY hoff,UW]
   rw [e0] at hid
   obtain ⟨s,s1,s2⟩:=Hn hid hni (by omega) (by omega)
   rw [Vg (by omega),ja,idxN (by omega),ja,idxN (by omega),ja,s1]
   simp only [ja]
   have e1:gateK o (cut (i+1) v) i=K.add K.zero (v i):=by rw [UY hoff,Ul,K.zero_add]
   refine ⟨_,rfl,keep i s hi (e1▸s2.fit (e1▸hfits i)) (fun y _ hy=>here True (.inl hoff) y hy)⟩
theorem gate_walk {l:List NumT} {v:KV} {o:GOp} {n t:Nat} (hv:Amps l (2^n) v t) (ho:Ok1 o n) (hn:n≤20) (ht:t≤9000) :
 ∃r,W.jw l o=some r∧Amps r (2^n) (gateK o v) (t+1):=by
 have hN:2^n≤2^20:=Nat.pow_le_pow_right (by decide) hn
 have hlen:=hv.len
 obtain ⟨y,q1,r,q2,q3,q4⟩:=JI (f:=fun s:Int×List NumT↦W.jw.ca_ l (Prod.fst s) o.1 o.2.1 o.2.2.1 o.2.2.2.1 (Prod.snd s) some) (2^n)
  (fun i s=>s.1=(i:Int)∧s.2.length=2^n ∧ ∀y,y<2^n→Num 10000 (s.2.getD y z0) (gateK o (cut i v) y) (2*t+3) (t+1))
  (fun y=>∃r,y=(((2^n:Nat):Int),r)∧r.length=2^n ∧ ∀y,y<2^n→Num 10000 (r.getD y z0) (gateK o (cut (2^n) v) y) (2*t+3) (t+1))
  (by
   rintro i ⟨s,out⟩ hi ⟨p1,p2,p3⟩
   simp only at p1 p2 p3
   subst p1
   left
   obtain ⟨r,r1,r2,r3⟩:=gate_step hv ho hn hi ht p2 p3
   refine ⟨(((i+1:Nat):Int),r),?_,rfl,r2,r3⟩
   simp only [W.jw.ca_]
   rw [jN (by omega),r1,ja,ji (by omega)]
   rfl)
  (by
   rintro ⟨s,out⟩ ⟨p1,p2,p3⟩
   simp only at p1 p2 p3
   subst p1
   refine ⟨_,?_,out,rfl,p2,p3⟩
   simp only [W.jw.ca_]
   rw [jL (by omega)])
  (s:=((0:Int),List.replicate (2^n) z0)) ⟨rfl,by simp,fun y hy=>by
   have e1:(List.replicate (2^n) z0).getD y z0=z0:=by
    rw [List.getD,List.getElem?_replicate]
    split<;>rfl
   have e2:gateK o (cut 0 v) y=K.zero:=by
    have h:∀x,cut 0 v x=K.zero:=fun x=>if_neg (by omega)
    have hneg:K.neg K.zero=K.zero:=by rw [←K.turn_eight,K.turn_zero]
    simp only [gateK,h,K.turn_zero,K.half_zero,hneg]
    split
    ·rfl
    ·split
     ·rfl
     ·split
      ·split<;>rfl
      ·split
       ·rfl
       ·split<;>exact K.add_zero _
   rw [e1,e2]
   exact num_zero⟩
 subst q2
 unfold W.jw
 rw [jT (by simp;omega),ja,Int.toNat_natCast,hlen]
 rw [show (List.replicate (2^n) ((List.replicate 8 (false,([]:List Int))),(0:Int)))=List.replicate (2^n) z0 from rfl,q1,ja]
 have hcut:∀y,y<2^n→gateK o (cut (2^n) v) y=gateK o v y:=fun y hy=>UX (if_pos hy) (if_pos (fl_lt ho.q hy))
 refine ⟨r,rfl,q3,fun y hy=>?_,fun y hy=>?_⟩
 ·rw [←hcut y hy]
  exact q4 y hy
 ·rw [←hcut y hy]
  exact gate_fits (L:=2*t+1) (t:=t) (fun x=>by
   unfold cut
   split
   ·exact hv.fit x (by assumption)
   ·exact FitsK.zero _ _) y
end Go.Ql
end
section
namespace Go.Ql
def outK (q:Int) (b:Int) (v:KV):KV:=fun x=>if bt q x=decide (b=1) then v x else K.zero
abbrev SK:=KV×List Int×Nat
def meetK (o:GOp) (b:Int) (s:SK):SK:=
 (if o.1≠5∧b=1 then xK [] o.2.2.2.1 (outK o.2.2.2.1 b s.1) else outK o.2.2.2.1 b s.1,if o.1=5 then s.2.1.set o.2.2.2.2.1.toNat b else s.2.1,s.2.2+1)
def playK (tape:List Int):Nat→List GOp→SK→(Int×Nat)⊕SK
 | _,[],s=>.inr s
 | i,o::l,s=>
   if condK s.2.1 o=false then playK tape (i+1) l s
   else if o.1<5 then playK tape (i+1) l (gateK o s.1,s.2.1,s.2.2)
   else if s.2.2=tape.length then .inl (19,i)
   else if tape.getD s.2.2 0≠0∧tape.getD s.2.2 0≠1 then .inl (20,i)
   else playK tape (i+1) l (meetK o (tape.getD s.2.2 0) s)
theorem Amps.up {l:List NumT} {N t:Nat} {v:KV} (h:Amps l N v t):Amps l N v (t+1):=by
 have hf:∀x,x<N→FitsK (v x) (2*(t+1)+1) (t+1):=fun x hx=>((h.fit x hx).up 1).mono (by omega)
 exact ⟨h.len,fun x hx=>(h.at_ x hx).fit (hf x hx),hf⟩
theorem num_zero' (L E:Nat):Num 10000 z0 K.zero L E:=num_zero
theorem repl_at (N y:Nat):(List.replicate N z0).getD y z0=z0:=by
 rw [List.getD,List.getElem?_replicate]
 split<;>rfl
theorem outcome_walk {l:List NumT} {v:KV} {n t:Nat} {q b:Int} (hv:Amps l (2^n) v t) (hn:n≤20) (hq:0≤q∧q<62) (hb:b=0∨b=1) :
 ∃r,W.Jj l q b=some r∧Amps r (2^n) (outK q b v) t:=by
 have hN:2^n≤2^20:=Nat.pow_le_pow_right (by decide) hn
 have hlen:=hv.len
 obtain ⟨y,q1,r,q2,q3,q4⟩:=JI (f:=fun s:Int×List NumT↦W.Jj.ca_ l q b (Prod.fst s) (Prod.snd s) some) (2^n)
  (fun i s=>s.1=(i:Int)∧s.2.length=2^n ∧ ∀y,y<2^n→Num 10000 (s.2.getD y z0) (cut i (outK q b v) y) (2*t+1) t)
  (fun y=>∃r,y=(((2^n:Nat):Int),r)∧r.length=2^n ∧ ∀y,y<2^n→Num 10000 (r.getD y z0) (cut (2^n) (outK q b v) y) (2*t+1) t)
  (by
   rintro i ⟨s,out⟩ hi ⟨p1,p2,p3⟩
   simp only at p1 p2 p3
   subst p1
   left
   obtain ⟨r,r1,r2,r3⟩:∃r,W.Jj.ck_ l q b (i:Int) out some=some r∧r.length=2^n ∧ ∀y,y<2^n→Num 10000 (r.getD y z0) (cut (i+1) (outK q b v) y) (2*t+1) t:=by
    unfold W.Jj.ck_
    rw [UU (by omega) (by omega),ja]
    by_cases e:bt q i=decide (b=1)
    ·have hbb:((if bt q i=true then 1 else 0:Int)==b)=true:=by
      rw [e];rcases hb with rfl | rfl<;>decide
     rw [Jz hbb,idxN (by omega),ja,Vg (by omega),ja,idxN (by omega),ja]
     refine ⟨_,rfl,by rw [List.length_set];exact p2,fun y hy=>?_⟩
     rw [Int.toNat_natCast,kZ (by omega)]
     by_cases ey:y=i
     ·rw [if_pos ey,ey,Ul]
      unfold outK
      rw [if_pos e]
      exact hv.at_ i hi
     ·rw [if_neg ey,Vu _ ey]
      exact p3 y hy
    ·have hbb:((if bt q i=true then 1 else 0:Int)==b)=false:=by
      rcases hb with rfl | rfl<;>cases hx:bt q i<;>rw [hx] at e<;>first | rfl | exact absurd rfl e
     rw [Jh hbb]
     refine ⟨_,rfl,p2,fun y hy=>?_⟩
     by_cases ey:y=i
     ·have:=p3 y hy
      rw [ey,Ul]
      rw [ey,UW] at this
      unfold outK
      rw [if_neg e]
      exact this
     ·rw [Vu _ ey]
      exact p3 y hy
   refine ⟨(((i+1:Nat):Int),r),?_,rfl,r2,r3⟩
   simp only [W.Jj.ca_]
   rw [jN (by omega),r1,ja,ji (by omega)]
   rfl)
  (by
   rintro ⟨s,out⟩ ⟨p1,p2,p3⟩
   simp only at p1 p2 p3
   subst p1
   refine ⟨_,?_,out,rfl,p2,p3⟩
   simp only [W.Jj.ca_]
   rw [jL (by omega)])
  (s:=((0:Int),List.replicate (2^n) z0)) ⟨rfl,by simp,fun y hy=>by
   rw [repl_at,show cut 0 (outK q b v) y=K.zero from if_neg (by omega)]
   exact num_zero' _ _⟩
 subst q2
 unfold W.Jj
 rw [jT (by simp;omega),ja,Int.toNat_natCast,hlen]
 rw [show (List.replicate (2^n) ((List.replicate 8 (false,([]:List Int))),(0:Int)))=List.replicate (2^n) z0 from rfl,q1,ja]
 have hcut:∀y,y<2^n→cut (2^n) (outK q b v) y=outK q b v y:=fun y hy=>if_pos hy
 refine ⟨r,rfl,q3,fun y hy=>?_,fun y hy=>?_⟩
 ·rw [←hcut y hy]
  exact q4 y hy
 ·unfold outK
  split
  ·exact hv.fit y hy
  ·exact FitsK.zero _ _
def YC (i:Nat):KV:=fun x=>if x=i then K.one else K.zero
theorem one_kv:kv (YZ 1) 0=K.one:=by
 apply K.eq_of<;>simp [kv,YZ,hp,K.one]
theorem basis_walk {n i:Nat} (hn:n≤20) (hi:i<2^n):∃r,W.Yb (n:Int) (i:Int)=some r∧Amps r (2^n) (YC i) 0:=by
 have hN:2^n≤2^20:=Nat.pow_le_pow_right (by decide) hn
 have hN0:0<2^n:=Nat.pow_pos (by decide)
 obtain ⟨z,z1,z2,z3⟩:=zof_ok (n:=1) (by decide)
 have hp:=pow63 (q:=(n:Int)) (by omega)
 rw [Int.toNat_natCast] at hp
 unfold W.Yb W.Yx
 rw [jT (by simp),ja]
 simp only [Int.toNat_natCast] at hp ⊢
 simp only [hp,Int.toNat_natCast]
 rw [jT (by rw [Bool.and_eq_true,Bool.and_eq_true,Bool.and_eq_true,decide_eq_true_iff,decide_eq_true_iff,decide_eq_true_iff,decide_eq_true_iff];omega),ja,z1,ja,
  show idx (List.replicate 8 (false,([]:List (Ty.den (Ty.int IntKind.i64))))) (0:Int)=some d0 from rfl]
 simp only [ja]
 rw [show (List.replicate (2^n) ((List.replicate 8 (false,([]:List (Ty.den (Ty.int IntKind.i64))))),(0:Int)))=List.replicate (2^n) z0 from rfl,Vg (by simpa using hi),ja,idxN (by simpa using hi),ja]
 have hbd:Bd (YZ 1) 1:=single_bd (by decide)
 have h1:FitsK K.one (2*0+1) 0:=⟨YZ 1,one_kv,hbd⟩
 refine ⟨_,rfl,by simp,fun y hy=>?_,fun y hy=>?_⟩
 ·rw [kZ (by simpa using hi),repl_at]
  unfold YC
  by_cases e:y=i
  ·rw [if_pos e,if_pos e]
   exact Num.mk' (e:=0) (single_reps z2) rfl (.inl rfl) one_kv hbd (Nat.le_refl _)
  ·rw [if_neg e,if_neg e]
   exact num_zero' _ _
 ·unfold YC
  split
  ·exact h1
  ·exact FitsK.zero _ _
structure OkP (o:GOp) (n bn:Nat):Prop where
 gate:Ok1 o n
 ifs:o.2.2.2.2.2.length<2^62
 cond:∀c∈o.2.2.2.2.2,c≠0∧c≤(bn:Int) ∧ -c≤(bn:Int)
 bit:o.1=5→0≤o.2.2.2.2.1∧o.2.2.2.2.1<(bn:Int)
theorem ok1_x {o:GOp} {n:Nat} (h:Ok1 o n):Ok1 (2,0,[],o.2.2.2.1,0,[]) n:=⟨h.q,by simp,fun _ h=>by simp at h,by simp,by simp⟩
theorem play_walk {n bn:Nat} {ops:List GOp} {tape:List Int} {i0:Nat} (hn:n≤20) (hbn:bn<2^40) (hl:ops.length≤8000) (ht:tape.length<2^62) (hi:i0<2^n) (hops:∀o∈ops,OkP o n bn)
 (hck:W.Ja ((n:Int),(bn:Int),ops)=some ((0:Int),(0:Int))) :
 (∀x,playK tape 0 ops (YC i0,List.replicate bn 0,0)=.inl x→W.jR ((n:Int),(bn:Int),ops) (i0:Int) tape=some ([],[],(0:Int),x.1,(x.2:Int))) ∧
 (∀s,playK tape 0 ops (YC i0,List.replicate bn 0,0)=.inr s → ∃l,W.jR ((n:Int),(bn:Int),ops) (i0:Int) tape=some (l,s.2.1,(s.2.2:Int),(0:Int),(0:Int))∧Amps l (2^n) s.1 ops.length):=by
 have hN:2^n≤2^20:=Nat.pow_le_pow_right (by decide) hn
 obtain ⟨l0,b1,b2⟩:=basis_walk hn hi
 obtain ⟨R,hR⟩:∃R,playK tape 0 ops (YC i0,List.replicate bn 0,0)=R:=⟨_,rfl⟩
 obtain ⟨y,y1,y2⟩:=JI (f:=fun s:List NumT×Int×Int×List Int↦W.jR.cp_ tape (Prod.fst s) (Prod.fst (Prod.snd s)) (Prod.fst (Prod.snd (Prod.snd s))) ops (Prod.snd (Prod.snd (Prod.snd s))) some) ops.length
  (fun i s=>∃v bits used,s.2.1=(used:Nat)∧s.2.2.1=(i:Int)∧s.2.2.2=bits∧Amps s.1 (2^n) v i∧bits.length=bn∧used≤tape.length∧playK tape i (ops.drop i) (v,bits,used)=R)
  (fun y=>(∃u:List NumT×Int×Int×Int×Int×List Int,∃x:Int×Nat,y=.inl u∧R=.inl x∧u.2.2.2.1=x.1∧u.2.2.2.2.1=(x.2:Int)) ∨
   (∃u:List NumT×Int×Int×List Int,∃s:SK,y=.inr u∧R=.inr s∧u.2.1=(s.2.2:Int)∧u.2.2.2=s.2.1∧Amps u.1 (2^n) s.1 ops.length))
  (by
   rintro i ⟨l,us,i',bs⟩ hi ⟨v,bits,used,p1,p2,p3,p4,p5,p6,p7⟩
   simp only at p1 p2 p3 p4
   subst p1
   subst p2
   subst p3
   have hm:ops[i]∈ops:=List.getElem_mem hi
   have hd:ops.drop i=ops[i]::ops.drop (i+1):=List.drop_eq_getElem_cons hi
   rw [hd] at p7
   simp only [playK] at p7
   obtain ⟨o,ho⟩:∃o,ops[i]=o:=⟨_,rfl⟩
   rw [ho] at hm p7
   have hk:=hops o hm
   have hidx:idx ops (i:Int)=some o:=by rw [Vx hi,ho]
   have hcond:=cond_ok (o:=o) (bits:=bs) hk.ifs (by rw [p5];omega) (by rw [p5];exact hk.cond)
   simp only [W.jR.cp_,W.jR.cu_]
   rw [jN (by omega),hidx,ja,show (o.1,o.2.1,o.2.2.1,o.2.2.2.1,o.2.2.2.2.1,o.2.2.2.2.2)=o from rfl,hcond,ja]
   have hw:IntKind.i64.wrap ((i:Int)+1)=((i+1:Nat):Int):=by rw [ji (by omega)];omega
   by_cases hc:condK bs o=false
   ·rw [if_pos hc] at p7
    rw [hc,show (!false)=true from rfl,br_tt,ja,kj,hw]
    exact .inl ⟨_,rfl,v,bs,used,rfl,rfl,rfl,p4.up,p5,p6,p7⟩
   ·rw [if_neg hc] at p7
    have hc':condK bs o=true:=by simpa using hc
    rw [hc',show (!true)=false from rfl,br_ff]
    by_cases h5:o.1<5
    ·rw [if_pos h5] at p7
     obtain ⟨r,r1,r2⟩:=gate_walk p4 hk.gate hn (by omega)
     rw [jN h5,r1,ja,ja,kj,hw]
     exact .inl ⟨_,rfl,_,bs,used,rfl,rfl,rfl,r2,p5,p6,p7⟩
    ·rw [if_neg h5] at p7
     rw [jL h5]
     by_cases hu:used=tape.length
     ·rw [if_pos hu] at p7
      rw [Jz (by simp [hu]),show W.ki (19:Int) (i:Int)=some (19,(i:Int)) from rfl,ja,ja,kG]
      exact .inr ⟨_,rfl,.inl ⟨_,_,rfl,p7.symm,rfl,rfl⟩⟩
     ·rw [if_neg hu] at p7
      rw [Jh (beq_false_of_ne (by omega)),JH used rfl (by omega),ja]
      unfold W.jR.c19
      obtain ⟨b,hb⟩:∃b,tape.getD used 0=b:=⟨_,rfl⟩
      rw [hb] at p7 ⊢
      by_cases hbad:b≠0∧b≠1
      ·rw [if_pos hbad] at p7
       rw [Jz (by simpa using hbad.1),ja,Jz (by simpa using hbad.2),show W.ki (20:Int) (i:Int)=some (20,(i:Int)) from rfl,ja,ja,kG]
       exact .inr ⟨_,rfl,.inl ⟨_,_,rfl,p7.symm,rfl,rfl⟩⟩
      ·rw [if_neg hbad] at p7
       have hb01:b=0∨b=1:=by omega
       have hc19:(br (b !=(0:Int)) (some (b !=(1:Int))) (some false))=some false:=by rcases hb01 with rfl | rfl<;>rfl
       rw [hc19,ja,br_ff]
       have hq:=hk.gate.q
       obtain ⟨r,r1,r2⟩:=outcome_walk (q:=o.2.2.2.1) p4 hn (by omega) hb01
       rw [r1,ja,ji (x:=(used:Int)+1) (by omega),show (used:Int)+1=((used+1:Nat):Int) by omega]
       unfold meetK at p7
       simp only at p7
       by_cases hm5:o.1=5
       ·have hbit:=hk.bit hm5
        rw [if_neg (fun h=>h.1 hm5),if_pos hm5] at p7
        rw [Jz (by simpa using hm5),Ye hbit.1 (by rw [p5];exact hbit.2),ja,JH o.2.2.2.2.1.toNat (by omega) (by rw [p5];omega),ja,ja,kj,hw]
        exact .inl ⟨_,rfl,_,_,used+1,rfl,rfl,rfl,r2.up,by rw [List.length_set];exact p5,by omega,p7⟩
       ·rw [if_neg hm5] at p7
        rw [Jh (by simpa using hm5)]
        by_cases hb1:b=1
        ·rw [if_pos ⟨hm5,hb1⟩,←gate_x [] 0 o.2.2.2.1 0 []] at p7
         obtain ⟨s,s1,s2⟩:=gate_walk r2 (ok1_x hk.gate) hn (by omega)
         rw [Jz (by simpa using hb1),s1,ja,ja,kj,hw]
         exact .inl ⟨_,rfl,_,bs,used+1,rfl,rfl,rfl,s2,p5,by omega,p7⟩
        ·rw [if_neg (fun h=>hb1 h.2)] at p7
         rw [Jh (by simpa using hb1),ja,kj,hw]
         exact .inl ⟨_,rfl,_,bs,used+1,rfl,rfl,rfl,r2.up,p5,by omega,p7⟩)
  (by
   rintro ⟨l,us,i',bs⟩ ⟨v,bits,used,p1,p2,p3,p4,p5,p6,p7⟩
   simp only at p1 p2 p3 p4
   subst p1
   subst p2
   subst p3
   rw [List.drop_length] at p7
   simp only [W.jR.cp_]
   rw [jL (by omega)]
   exact ⟨_,rfl,.inr ⟨_,_,rfl,p7.symm,rfl,rfl,p4⟩⟩)
  (s:=(l0,(0:Int),(0:Int),List.replicate bn 0)) ⟨YC i0,List.replicate bn 0,0,rfl,rfl,rfl,b2,by simp,Nat.zero_le _,hR⟩
 have hp:=pow63 (q:=(n:Int)) (by omega)
 have hrun:W.jR ((n:Int),(bn:Int),ops) (i0:Int) tape=sel y (fun u=>some ([],[],(0:Int),Prod.fst (Prod.snd (Prod.snd (Prod.snd u))),Prod.fst (Prod.snd (Prod.snd (Prod.snd (Prod.snd u))))))
  (fun v=>some (Prod.fst v,Prod.snd (Prod.snd (Prod.snd v)),Prod.fst (Prod.snd v),(0:Int),(0:Int))):=by
  unfold W.jR W.jR.c4
  simp only
  rw [hck,ja,Jh (by decide),jL (by omega),jT (by simp),ja,hp,Int.toNat_natCast,decide_eq_false (by omega),ja,br_ff,b1,ja,
   jT (by rw [Bool.and_eq_true,Bool.and_eq_true,Bool.and_eq_true,decide_eq_true_iff,decide_eq_true_iff,decide_eq_true_iff,decide_eq_true_iff];omega),ja,Int.toNat_natCast,y1,ja]
 rw [hR]
 rcases y2 with ⟨u,x,rfl,e,e1,e2⟩ | ⟨u,s,rfl,e,e1,e2,e3⟩
 ·subst e
  refine ⟨fun x' hx=>?_,fun s hs=>(by cases hs)⟩
  cases hx
  rw [hrun,kj,e1,e2]
 ·subst e
  refine ⟨fun x' hx=>(by cases hx),fun s' hs=>?_⟩
  cases hs
  rw [hrun,kG,e1,e2]
  exact ⟨_,rfl,e3⟩
end Go.Ql
end
end

section
set_option maxRecDepth 100000
namespace Go.Ql
theorem Bd.add1 {v w:Nat→Int} {L:Nat} (h:Bd v L) (g:Bd w L):Bd (fun i=>v i+w i) (L+1):=fun i hi=>by
 have h1:=h i hi
 have h2:=g i hi
 rw [Nat.pow_succ]
 have:=Int.natAbs_add_le (v i) (w i)
 simp only
 omega
theorem nadd_t {a b:List Dg×Int} {k l:K} {L M E F:Nat} (h:Num 4294967296 a k L E) (g:Num 4294967296 b l M F) (hs:L+M+2*(E+F)<79000) :
 ∃r,W.jz a b=some r∧Num 4294967296 r (K.add k l) (Max.max (L+F) (M+E)+1) (Max.max E F):=by
 obtain ⟨c,ae⟩:=a
 obtain ⟨d,be⟩:=b
 obtain ⟨v,e,h1,h2,h3,h4,h5,h6⟩:=h.has
 obtain ⟨w,f,g1,g2,g3,g4,g5,g6⟩:=g.has
 simp only at h2 g2
 subst h2
 subst g2
 obtain ⟨x,y,g',q1,q2,q3⟩:=add_align (L:=L) (M:=M) (e:=e) (f:=f) h1 g1 h5 g5 (by omega)
 have b1:=(h5.up (Max.max e f-e)).mono (show L+(Max.max e f-e)≤Max.max (L+F) (M+E) by omega)
 have b2:=(g5.up (Max.max e f-f)).mono (show M+(Max.max e f-f)≤Max.max (L+F) (M+E) by omega)
 obtain ⟨r,r1,r2⟩:=add_loop (L:=Max.max (L+F) (M+E)) q2 q3 b1 b2 (by omega) ((Max.max e f:Nat):Int) g'
 obtain ⟨z,z1,z2⟩:=least_ok (L:=Max.max (L+F) (M+E)+1) r2 (b1.add1 b2) ((Max.max e f:Nat):Int) (by omega)
 unfold W.jz
 rw [q1,ja,r1,ja]
 simp only [show ∀z:List Dg×Int,inR (List.length [z]) (0:Int)=some () from fun _=>rfl,show ∀z:List Dg×Int,idx [z] (0:Int)=some z from fun _=>rfl,ja]
 rw [z1,ja]
 refine ⟨z,rfl,?_⟩
 obtain ⟨u,m,u1,u2,u3,u4,u5,u6⟩:=z2.has
 refine Num.mk' u1 u2 u3 ?_ (u5.mono (by omega)) (by omega)
 rw [u4,kvz_nat,←kv_add,←h4,←g4]
 have e1:=kv_up v e (Max.max e f-e)
 have e2:=kv_up w f (Max.max e f-f)
 rw [show e+(Max.max e f-e)=Max.max e f by omega] at e1
 rw [show f+(Max.max e f-f)=Max.max e f by omega] at e2
 rw [e1,e2]
theorem nsub_t {a b:List Dg×Int} {k l:K} {L M E F:Nat} (h:Num 4294967296 a k L E) (g:Num 4294967296 b l M F) (hs:L+M+2*(E+F)<79000) :
 ∃r,W.Jn a b=some r∧Num 4294967296 r (K.sub k l) (Max.max (L+F) (M+E)+1) (Max.max E F):=by
 obtain ⟨n,n1,n2⟩:=nneg_ok g (by omega)
 obtain ⟨r,r1,r2⟩:=nadd_t h n2 hs
 refine ⟨r,?_,r2⟩
 unfold W.Jn W.Jn.c1
 refine kY (x:=[r]) ?_ rfl
 exact kY n1 (kY r1 rfl)
theorem nhalf_t {a:NumT} {k:K} {L E:Nat} (h:Num 4294967296 a k L E) (hL:L+L+2*(E+E)<79000) :
 ∃r,W.Jo a=some r∧Num 4294967296 r (K.half k) (L+E+1) (E+1):=by
 obtain ⟨t,t1,t2⟩:=nturn_ok h (by omega) 2 (by decide)
 obtain ⟨u,u1,u2⟩:=nturn_ok h (by omega) 6 (by decide)
 obtain ⟨⟨c,ae⟩,s1,s2⟩:=nsub_t t2 u2 (by omega)
 obtain ⟨v,e,h1,h2,h3,h4,h5,h6⟩:=s2.has
 simp only at h1 h2
 subst h2
 have t1':W.jA a (2:Int)=some t:=t1
 have u1':W.jA a (6:Int)=some u:=u1
 obtain ⟨r,r1,r2⟩:=least_ok h1 h5 ((e+1:Nat):Int) (by omega)
 refine ⟨r,?_,?_⟩
 ·unfold W.Jo W.Jo.c1
  rw [t1',ja,u1',ja,s1,ja,ja]
  simp only [bx_in,bx_at,ja]
  rw [ji (by omega),show (e:Int)+1=((e+1:Nat):Int) by omega,r1]
  rfl
 ·obtain ⟨w',f',q1,q2,q3,q4,q5,q6⟩:=r2.has
  refine ⟨w',f',q1,q2,q3,?_,q5.mono (by omega),by omega⟩
  rw [q4,kvz_nat,kv_half1,h4]
  rfl
theorem nzero_ok {a:NumT} {k:K} {L E:Nat} (h:Num 4294967296 a k L E):∃t,W.Jd a=some t∧(t=true↔k=K.zero):=by
 obtain ⟨c,ae⟩:=a
 obtain ⟨v,e,h1,h2,h3,h4,h5,h6⟩:=h.has
 simp only at h1 h2
 subst h2
 obtain ⟨x,x1,x2⟩:=JI (f:=fun s:Int↦W.Jd.cc_ c s some) 8
  (fun i s=>s=(i:Int) ∧ ∀j,j<i→v j=0)
  (fun x=>(∃i,x=.inl i ∧ ∃j,j<8∧v j≠0)∨(∃i,x=.inr i ∧ ∀j,j<8→v j=0))
  (by
   rintro i s hi ⟨rfl,p2⟩
   simp only [W.Jd.cc_]
   rw [jN (by omega),h1.idx hi,ja,show (((c.getD i d0).1,(c.getD i d0).2):Dg)=c.getD i d0 from rfl,sign_ok (h1.at_ i hi),ja]
   by_cases e2:v i=0
   ·rw [Jh (by simp [sgn,e2]),ji (by omega)]
    refine .inl ⟨_,rfl,by omega,fun j hj=>?_⟩
    by_cases e3:j=i
    ·rw [e3];exact e2
    ·exact p2 j (by omega)
   ·have hsg:(sgn (v i) !=0)=true:=by
     simp only [sgn,bne_iff_ne,ne_eq]
     split<;>(try split)<;>omega
    rw [Jz hsg]
    exact .inr ⟨_,rfl,.inl ⟨_,rfl,i,hi,e2⟩⟩)
  (by
   rintro s ⟨rfl,p2⟩
   simp only [W.Jd.cc_]
   rw [jL (by omega)]
   exact ⟨_,rfl,.inr ⟨_,rfl,p2⟩⟩)
  (s:=(0:Int)) ⟨rfl,fun j hj=>by omega⟩
 unfold W.Jd
 rw [x1,ja]
 rcases x2 with ⟨i,rfl,j,j1,j2⟩ | ⟨i,rfl,hall⟩
 ·refine ⟨false,rfl,?_⟩
  constructor
  ·intro h;cases h
  ·intro hk
   exact absurd (YE.2 (h4.trans hk) j j1) j2
 ·exact ⟨true,rfl,fun _=>h4.symm.trans (YE.1 hall),fun _=>rfl⟩
theorem and15i (k:Int) (h:-9223372036854775808≤k∧k≤9223372036854775807):ibits .and .i64 k 15=((k % 16).toNat:Int):=by
 show IntKind.i64.wrap (((BitVec.ofInt 64 k &&& BitVec.ofInt 64 15).toNat:Nat):Int)=_
 rw [BitVec.toNat_and,BitVec.toNat_ofInt,BitVec.toNat_ofInt,show ((15:Int) % ((2^64:Nat):Int)).toNat=2^4-1 by decide,Nat.and_two_pow_sub_one_eq_mod,show (k % ((2^64:Nat):Int)).toNat % 2^4=(k % 16).toNat by omega,ji (by omega)]
theorem nturn_i {a:List Dg×Int} {x:K} {L E:Nat} (h:Num 4294967296 a x L E) (hL:L<80000) (k:Int) (hk:-9223372036854775808≤k∧k≤9223372036854775807) :
 ∃r,W.jA a k=some r∧Num 4294967296 r (K.turn x (k % 16).toNat) L E:=by
 obtain ⟨r,h1,h2⟩:=nturn_ok h hL (k % 16).toNat (by omega)
 refine ⟨r,?_,h2⟩
 rw [←h1]
 unfold W.jA
 rw [and15i k hk,and15 _ (by omega),show (k % 16).toNat % 16=(k % 16).toNat by omega]
theorem none_ok:∃r,W.kS=some r∧Num 4294967296 r K.one 1 0:=by
 obtain ⟨p,p1,p2,_⟩:=of_ok (n:=1) (by decide)
 refine ⟨((List.replicate 8 d0).set 0 p,(0:Int)),?_,?_⟩
 ·unfold W.kS
  rw [p1,ja]
 ·refine Num.mk' (Reps.zero.set (by decide) p2) (e:=0) rfl (.inl rfl) ?_ ?_ (Nat.le_refl _)
  ·simp [kv,K.one,hp]
  ·intro i _
   show Int.natAbs (if i=0 then 1 else 0)<2^1
   split<;>decide
theorem root_ok (k:Int) (hk:-9223372036854775808≤k∧k≤9223372036854775807):∃r,W.kK k=some r∧Num 4294967296 r (K.turn K.one (k % 16).toNat) 1 0:=by
 obtain ⟨o,o1,o2⟩:=none_ok
 obtain ⟨r,r1,r2⟩:=nturn_i o2 (by decide) k hk
 refine ⟨r,?_,r2⟩
 unfold W.kK
 rw [o1,ja,r1,ja]
end Go.Ql
end

section
namespace Go.Ql
def maskN (l:List Int):Nat:=l.foldl (fun m q=>m ||| 2^q.toNat) 0
theorem maskN_snoc (l:List Int) (q:Int):maskN (l++[q])=maskN l ||| 2^q.toNat:=by simp [maskN]
theorem foldl_bit (l:List Int) (m j:Nat):(l.foldl (fun m q=>m ||| 2^q.toNat) m).testBit j=(m.testBit j||l.any fun q=>decide (q.toNat=j)):=by
 induction l generalizing m with
 | nil=>simp
 | cons q l ih=>
   rw [List.foldl_cons,ih,Nat.testBit_or,Nat.testBit_two_pow,List.any_cons,Bool.or_assoc]
theorem maskN_bit (l:List Int) (j:Nat):(maskN l).testBit j=l.any fun q=>decide (q.toNat=j):=by
 unfold maskN
 rw [foldl_bit,Nat.zero_testBit,Bool.false_or]
theorem maskN_lt {l:List Int} (h:Qs l):maskN l<2^62:=by
 refine Nat.lt_pow_two_of_testBit _ fun j hj=>?_
 rw [maskN_bit,←Bool.not_eq_true,List.any_eq_true]
 rintro ⟨q,hq,e⟩
 have:=h q hq
 have:=of_decide_eq_true e
 omega
theorem mask_ok {l:List Int} (h:Qs l) (hn:l.length<2^62):W.JE l=some ((maskN l:Nat):Int):=by
 obtain ⟨y,h1,h2⟩:=JI (f:=fun s:Int×Int↦W.JE.ca_ (Prod.fst s) l (↑(List.length l):Int) (Prod.snd s) some) l.length
  (fun i s=>s.1=((maskN (l.take i):Nat):Int)∧s.2=(i:Int))
  (fun y=>y.1=((maskN l:Nat):Int))
  (by
   rintro i ⟨m,s⟩ hi ⟨p1,p2⟩
   simp only at p1 p2
   subst p1
   subst p2
   have hq:=qs_at h hi
   have e1:l.take (i+1)=l.take i++[l.getD i 0]:=by
    rw [List.take_succ_eq_append_getElem hi]
    simp [hi]
   have hs:Qs (l.take i):=fun q hq=>h q (List.mem_of_mem_take hq)
   have hm:=maskN_lt hs
   have hp:2^(l.getD i 0).toNat<2^63:=Nat.pow_lt_pow_right (by decide) (by omega)
   left
   refine ⟨(((maskN (l.take (i+1)):Nat):Int),((i+1:Nat):Int)),?_,rfl,rfl⟩
   simp only [W.JE.ca_]
   rw [jN (by omega),JH i rfl hi,ja,jT (by simpa using hq.1),ja,pow63 (by omega),iori64 (by omega) hp,ji (by omega),e1,maskN_snoc]
   rfl)
  (by
   rintro ⟨m,s⟩ ⟨p1,p2⟩
   simp only at p1 p2
   subst p1
   subst p2
   refine ⟨(((maskN l:Nat):Int),(l.length:Int)),?_,rfl⟩
   simp only [W.JE.ca_]
   rw [jL (by omega),List.take_length])
  (s:=((0:Int),(0:Int))) ⟨rfl,rfl⟩
 unfold W.JE
 rw [h1,ja,h2]
theorem and_eq_iff (x m:Nat):x &&& m=m ↔ ∀j,m.testBit j=true→x.testBit j=true:=by
 constructor
 ·intro h j hj
  rw [←h,Nat.testBit_and] at hj
  exact (Bool.and_eq_true _ _▸hj).1
 ·intro h
  refine Nat.eq_of_testBit_eq fun j=>?_
  rw [Nat.testBit_and]
  cases hj:m.testBit j with
  | false=>simp
  | true=>rw [h j hj];rfl
theorem mask_ones {l:List Int} {q:Int} {x:Nat}:x &&& (maskN l ||| 2^q.toNat)=maskN l ||| 2^q.toNat↔(bt q x=true∧onesB l x=true):=by
 rw [and_eq_iff]
 constructor
 ·intro h
  refine ⟨h q.toNat (by rw [Nat.testBit_or,Nat.testBit_two_pow];simp),?_⟩
  unfold onesB
  rw [List.all_eq_true]
  intro p hp
  refine h p.toNat ?_
  rw [Nat.testBit_or,maskN_bit,Bool.or_eq_true]
  exact .inl (List.any_eq_true.2 ⟨p,hp,decide_eq_true rfl⟩)
 ·rintro ⟨h1,h2⟩ j hj
  rw [Nat.testBit_or,maskN_bit,Nat.testBit_two_pow,Bool.or_eq_true] at hj
  rcases hj with hj | hj
  ·obtain ⟨p,hp,e⟩:=List.any_eq_true.1 hj
   rw [←of_decide_eq_true e]
   exact List.all_eq_true.1 h2 p hp
  ·rw [←of_decide_eq_true hj]
   exact h1
theorem onesF_ok {m:Nat} (hm:m<2^63):∀(j i:Nat),i+j<2^63 →
 (∀x∈W.onesF (m:Int) j (i:Int),∃z:Nat,x=(z:Int)∧i≤z∧z<i+j∧z &&& m=m) ∧
 (∀z:Nat,i≤z→z<i+j→z &&& m=m→(z:Int)∈W.onesF (m:Int) j (i:Int))∧(W.onesF (m:Int) j (i:Int)).Nodup
 | 0,i,_=>⟨fun x hx=>(by simp [W.onesF] at hx),fun z h1 h2=>by omega,by simp [W.onesF]⟩
 | j+1,i,h=>by
   obtain ⟨h1,h2,h3⟩:=onesF_ok hm j (i+1) (by omega)
   have e:W.onesF (m:Int) (j+1) (i:Int)=(if i &&& m=m then [(i:Int)] else [])++W.onesF (m:Int) j (((i+1:Nat)):Int):=by
    rw [W.onesF,Hl (by omega) hm]
    congr 1
    by_cases hc:i &&& m=m
    ·rw [if_pos hc,if_pos (by omega)]
    ·rw [if_neg hc,if_neg (by omega)]
   rw [e]
   refine ⟨fun x hx=>?_,fun z hz1 hz2 hz3=>?_,?_⟩
   ·rw [List.mem_append] at hx
    rcases hx with hx | hx
    ·by_cases hc:i &&& m=m
     ·rw [if_pos hc] at hx
      exact ⟨i,by simpa using hx,by omega,by omega,hc⟩
     ·rw [if_neg hc] at hx
      simp at hx
    ·obtain ⟨z,z1,z2,z3,z4⟩:=h1 x hx
     exact ⟨z,z1,by omega,by omega,z4⟩
   ·rw [List.mem_append]
    by_cases ez:z=i
    ·left
     subst ez
     rw [if_pos hz3]
     simp
    ·exact .inr (h2 z (by omega) (by omega) hz3)
   ·by_cases hc:i &&& m=m
    ·rw [if_pos hc,List.singleton_append,List.nodup_cons]
     refine ⟨fun hx=>?_,h3⟩
     obtain ⟨z,z1,z2,_⟩:=h1 _ hx
     omega
    ·rw [if_neg hc]
     exact h3
theorem iter_seq {α S R:Type} {f:List α×S→Option ((List α×S)⊕R)} (P:List α→S→Prop) (Q:R→Prop)
 (step:∀x r s,P (x::r) s → ∃s',f (x::r,s)=some (.inl (r,s'))∧P r s') (done:∀s,P [] s → ∃y,f ([],s)=some (.inr y)∧Q y) :
 ∀(l:List α) (s:S),P l s → ∃y,iter f (l,s)=some y∧Q y
 | [],s,h=>by
   obtain ⟨y,h1,h2⟩:=done s h
   exact ⟨y,VW h1,h2⟩
 | x::r,s,h=>by
   obtain ⟨s',h1,h2⟩:=step x r s h
   obtain ⟨y,h3,h4⟩:=iter_seq P Q step done r s' h2
   exact ⟨y,iter_inl h1 h3,h4⟩
structure AmpP (l:List NumT) (N:Nat) (v:KV) (t:Nat):Prop where
 len:l.length=N
 at_:∀x,x<N→Num 4294967296 (l.getD x z0) (v x) (2*t+1) t
 fit:∀x,x<N→FitsK (v x) (2*t+1) t
theorem AmpP.up {l:List NumT} {N t:Nat} {v:KV} (h:AmpP l N v t):AmpP l N v (t+1):=by
 have hf:∀x,x<N→FitsK (v x) (2*(t+1)+1) (t+1):=fun x hx=>((h.fit x hx).up 1).mono (by omega)
 exact ⟨h.len,fun x hx=>(h.at_ x hx).fit (hf x hx),hf⟩
theorem pairs_loop {f:List Int×List NumT→Option ((List Int×List NumT)⊕List NumT)} {v:KV} {o:GOp} {n t:Nat} {l:List NumT} (hv:AmpP l (2^n) v t) (ho:Ok1 o n) (hn:n≤20)
 (hnil:∀s,f ([],s)=some (.inr s))
 (hstep:∀(x:Nat) r s,x<2^n→bt o.2.2.2.1 x=true→onesB o.2.2.1 x=true→s.length=2^n→Num 4294967296 (s.getD x z0) (v x) (2*t+1) t→Num 4294967296 (s.getD (fl o.2.2.2.1 x) z0) (v (fl o.2.2.2.1 x)) (2*t+1) t →
  ∃s',f ((x:Int)::r,s)=some (.inl (r,s'))∧s'.length=2^n∧Num 4294967296 (s'.getD x z0) (gateK o v x) (2*t+3) (t+1) ∧
   Num 4294967296 (s'.getD (fl o.2.2.2.1 x) z0) (gateK o v (fl o.2.2.2.1 x)) (2*t+3) (t+1) ∧ ∀y,y≠x→y≠fl o.2.2.2.1 x→s'.getD y z0=s.getD y z0) :
 ∃r,iter f (W.onesL (((2^n:Nat):Int),((maskN o.2.2.1 ||| 2^o.2.2.2.1.toNat:Nat):Int)),l)=some r∧AmpP r (2^n) (gateK o v) (t+1):=by
 have hN:2^n≤2^20:=Nat.pow_le_pow_right (by decide) hn
 have hq:=ho.q
 have hm:maskN o.2.2.1 ||| 2^o.2.2.2.1.toNat<2^63:=Nat.or_lt_two_pow (Nat.lt_trans (maskN_lt ho.qs) (by decide)) (Nat.pow_lt_pow_right (by decide) (by omega))
 obtain ⟨m1,m2,m3⟩:=onesF_ok hm (2^n) 0 (by omega)
 have hL:W.onesL (((2^n:Nat):Int),((maskN o.2.2.1 ||| 2^o.2.2.2.1.toNat:Nat):Int))=W.onesF ((maskN o.2.2.1 ||| 2^o.2.2.2.1.toNat:Nat):Int) (2^n) ((0:Nat):Int):=by
  unfold W.onesL
  simp only [Int.toNat_natCast]
  rfl
 rw [hL]
 generalize W.onesF ((maskN o.2.2.1 ||| 2^o.2.2.2.1.toNat:Nat):Int) (2^n) ((0:Nat):Int)=L at m1 m2 m3
 have hf3:∀x,x<2^n→FitsK (gateK o v x) (2*t+3) (t+1):=fun x hx=>by
  have hc:gateK o (cut (2^n) v) x=gateK o v x:=UX (if_pos hx) (if_pos (fl_lt hq hx))
  rw [←hc]
  exact gate_fits (L:=2*t+1) (t:=t) (fun x=>by
   unfold cut
   split
   ·exact hv.fit x (by assumption)
   ·exact FitsK.zero _ _) x
 obtain ⟨r,r1,r2⟩:=iter_seq (f:=f)
  (fun rem s=>rem.Nodup∧(∀x∈rem,x∈L)∧s.length=2^n ∧
   ∀y:Nat,y<2^n→((((y:Int)∈rem∨((fl o.2.2.2.1 y:Nat):Int)∈rem)→Num 4294967296 (s.getD y z0) (v y) (2*t+1) t) ∧
    (¬((y:Int)∈rem∨((fl o.2.2.2.1 y:Nat):Int)∈rem)→Num 4294967296 (s.getD y z0) (gateK o v y) (2*t+3) (t+1))))
  (fun r=>r.length=2^n ∧ ∀y,y<2^n→Num 4294967296 (r.getD y z0) (gateK o v y) (2*t+3) (t+1))
  (by
   rintro x rem s ⟨p1,p2,p3,p4⟩
   obtain ⟨x,rfl,_,x1,x2⟩:=m1 x (p2 x (by simp))
   rw [mask_ones] at x2
   have hx:x<2^n:=by omega
   have hfx:=fl_lt hq hx
   obtain ⟨q1,q2⟩:=List.nodup_cons.1 p1
   have hbf:∀z:Nat,(z:Int)∈L→bt o.2.2.2.1 z=true:=fun z hz=>by
    obtain ⟨z',e,_,_,z2⟩:=m1 _ hz
    have:z'=z:=by omega
    rw [mask_ones] at z2
    exact this▸z2.1
   have hnf:((fl o.2.2.2.1 x:Nat):Int)∉rem:=fun hz=>by
    have:=hbf _ (p2 _ (List.mem_cons_of_mem _ hz))
    rw [Hi,x2.1] at this
    cases this
   obtain ⟨s',s1,s2,s3,s4,s5⟩:=hstep x rem s hx x2.1 x2.2 p3 ((p4 x hx).1 (.inl (by simp))) ((p4 _ hfx).1 (.inr (by rw [fl_fl];simp)))
   refine ⟨s',s1,q2,fun z hz=>p2 z (List.mem_cons_of_mem _ hz),s2,fun y hy=>?_⟩
   by_cases e1:y=x
   ·subst e1
    refine ⟨fun hh=>?_,fun _=>s3⟩
    rcases hh with hh | hh
    ·exact absurd hh q1
    ·exact absurd hh hnf
   ·by_cases e2:y=fl o.2.2.2.1 x
    ·subst e2
     refine ⟨fun hh=>?_,fun _=>s4⟩
     rw [fl_fl] at hh
     rcases hh with hh | hh
     ·exact absurd hh hnf
     ·exact absurd hh q1
    ·rw [s5 y e1 e2]
     have e3:((y:Int)∈(x:Int)::rem∨((fl o.2.2.2.1 y:Nat):Int)∈(x:Int)::rem)↔((y:Int)∈rem∨((fl o.2.2.2.1 y:Nat):Int)∈rem):=by
      rw [List.mem_cons,List.mem_cons]
      constructor
      ·rintro ((h | h) | (h | h))
       ·exact absurd (by omega) e1
       ·exact .inl h
       ·refine absurd ?_ e2
        have:fl o.2.2.2.1 y=x:=by omega
        rw [←this,fl_fl]
       ·exact .inr h
      ·rintro (h | h)
       ·exact .inl (.inr h)
       ·exact .inr (.inr h)
     have:=p4 y hy
     rw [e3] at this
     exact this)
  (by
   rintro s ⟨p1,p2,p3,p4⟩
   exact ⟨s,hnil s,p3,fun y hy=>(p4 y hy).2 (by simp)⟩)
  L l ⟨m3,fun _ h=>h,hv.len,fun y hy=>⟨fun _=>hv.at_ y hy,fun hno=>by
   have e:gateK o v y=v y:=by
    refine UY ?_
    rw [←Bool.not_eq_true]
    intro hon
    by_cases hb:bt o.2.2.2.1 y=true
    ·exact hno (.inl (m2 y (Nat.zero_le _) (by omega) (mask_ones.2 ⟨hb,hon⟩)))
    ·refine hno (.inr (m2 _ (Nat.zero_le _) (by have:=fl_lt hq hy;omega) (mask_ones.2 ⟨?_,by rw [ho.ones];exact hon⟩)))
     rw [Hi]
     simpa using hb
   rw [e]
   have:=hf3 y hy
   rw [e] at this
   exact (hv.at_ y hy).fit this⟩⟩
 refine ⟨r,r1,r2.1,fun y hy=>?_,fun y hy=>?_⟩
 ·exact r2.2 y hy
 ·exact hf3 y hy
end Go.Ql
end

section
namespace Go.Ql
theorem VE {α:Type} (l:List α):part 0 (l.length:Int) l=l:=by
 unfold part
 simp
theorem okR {x N:Nat} (h:x<N):okIf (decide ((0:Int)≤(x:Int))&&decide ((x:Int)<(N:Int)))=some ():=
 jT (by rw [Bool.and_eq_true,decide_eq_true_iff,decide_eq_true_iff];omega)
theorem idxP {l:List NumT} {x:Nat} (h:x<l.length):idx l ((0:Int)+(x:Int))=some (l.getD x z0):=by
 rw [Int.zero_add];exact idxN h
theorem setP (l:List NumT) (x:Nat) (r:NumT):List.set l (Int.toNat ((0:Int)+(x:Int))) r=l.set x r:=by
 rw [Int.zero_add,Int.toNat_natCast]
theorem apply_walk {l:List NumT} {v:KV} {o:GOp} {n t:Nat} (hv:AmpP l (2^n) v t) (ho:Ok1 o n) (hn:n≤20) (ht:t≤8900) (hk:o.1=1∨o.1=2∨o.1=3∨o.1=4) (hk1:o.1=1→o.2.2.1=[]) (hk2:o.2.1≤9223372036854775807) :
 ∃r,W.jd (0:Int) ((2^n:Nat):Int) o l=some (r,())∧AmpP r (2^n) (gateK o v) (t+1):=by
 have hN:2^n≤2^20:=Nat.pow_le_pow_right (by decide) hn
 have hlen:=hv.len
 have hq:=ho.q
 have hk0:=ho.k
 have hm0:=maskN_lt ho.qs
 have hp0:2^o.2.2.2.1.toNat<2^62:=Nat.pow_lt_pow_right (by decide) (by omega)
 have hmask:=mask_ok ho.qs ho.len
 have hor:ibits BinOp.or IntKind.i64 ((maskN o.2.2.1:Nat):Int) (IntKind.i64.wrap ((1:Int)*(2:Int)^Min.min (Int.toNat o.2.2.2.1) (64:Nat)))=((maskN o.2.2.1 ||| 2^o.2.2.2.1.toNat:Nat):Int):=by
  rw [pow63 (by omega),iori64 (by omega) (by omega)]
 have hxor:∀x:Nat,x<2^n→ibits BinOp.xor IntKind.i64 (x:Int) (IntKind.i64.wrap ((1:Int)*(2:Int)^Min.min (Int.toNat o.2.2.2.1) (64:Nat)))=((fl o.2.2.2.1 x:Nat):Int):=fun x hx=>by
  rw [pow63 (by omega),ixori64 (by omega) (by omega)]
  rfl
 have hf3:∀x,x<2^n→FitsK (gateK o v x) (2*t+3) (t+1):=fun x hx=>by
  have hc:gateK o (cut (2^n) v) x=gateK o v x:=UX (if_pos hx) (if_pos (fl_lt hq hx))
  rw [←hc]
  exact gate_fits (L:=2*t+1) (t:=t) (fun x=>by
   unfold cut
   split
   ·exact hv.fit x (by assumption)
   ·exact FitsK.zero _ _) x
 have hturn:∀{a:NumT} {x:Nat},Num 4294967296 a (v x) (2*t+1) t → ∃r,W.jA a o.2.1=some r∧Num 4294967296 r (K.turn (v x) o.2.1.toNat) (2*t+1) t:=fun {a x} ha=>by
  obtain ⟨r,r1,r2⟩:=nturn_i ha (by omega) o.2.1 (by omega)
  rw [turn_toNat _ hk0] at r2
  exact ⟨r,r1,r2⟩
 unfold W.jd W.jd.c1
 rw [hmask,ja,jT (by simpa using hq.1),ja,ja]
 rcases hk with hk | hk | hk | hk
 ·
  have hnil:=hk1 hk
  obtain ⟨y,q1,r,q2,q3,q4⟩:=JI (f:=fun s:Int×List NumT↦W.jd.cg_ (↑(List.length (part (0:Int) ((2^n:Nat):Int) l)):Int) (Prod.fst s) (0:Int) ((2^n:Nat):Int) (Prod.fst (Prod.snd o)) (Prod.snd s) some) (2^n)
   (fun i s=>s.1=(i:Int)∧s.2.length=2^n ∧ ∀y,y<2^n→(y<i→Num 4294967296 (s.2.getD y z0) (gateK o v y) (2*t+3) (t+1))∧(¬y<i→Num 4294967296 (s.2.getD y z0) (v y) (2*t+1) t))
   (fun y=>∃r,y=(((2^n:Nat):Int),r)∧r.length=2^n ∧ ∀y,y<2^n→Num 4294967296 (r.getD y z0) (gateK o v y) (2*t+3) (t+1))
   (by
    rintro i ⟨s,out⟩ hi ⟨p1,p2,p3⟩
    simp only at p1 p2 p3
    subst p1
    left
    obtain ⟨r,r1,r2⟩:=hturn ((p3 i hi).2 (Nat.lt_irrefl _))
    refine ⟨(((i+1:Nat):Int),out.set i r),?_,rfl,by simpa using p2,fun y hy=>?_⟩
    ·simp only [W.jd.cg_,W.jd.c7]
     rw [←hlen,VE,hlen,jN (by omega),okR hi,ja,idxP (by omega),ja,r1,ja,ja,ja,ja,setP,ji (by omega)]
     rfl
    ·simp only
     rw [kZ (by omega)]
     by_cases e:y=i
     ·subst e
      refine ⟨fun _=>?_,fun h=>absurd (Nat.lt_succ_self _) h⟩
      rw [if_pos rfl]
      refine Num.fit (L:=2*t+1) (E:=t) ?_ (hf3 y hy)
      rw [gate_turn (by rw [hnil];rfl) (.inl hk)]
      exact r2
     ·rw [if_neg e]
      exact ⟨fun h=>(p3 y hy).1 (by omega),fun h=>(p3 y hy).2 (by omega)⟩)
   (by
    rintro ⟨s,out⟩ ⟨p1,p2,p3⟩
    simp only at p1 p2 p3
    subst p1
    refine ⟨_,?_,out,rfl,p2,fun y hy=>(p3 y hy).1 hy⟩
    simp only [W.jd.cg_]
    rw [←hlen,VE,jL (by omega)])
   (s:=((0:Int),l)) ⟨rfl,hlen,fun y hy=>⟨fun h=>by omega,fun _=>hv.at_ y hy⟩⟩
  subst q2
  rw [Jz (by simpa using hk),q1,ja]
  exact ⟨r,rfl,q3,q4,hf3⟩
 ·
  rw [Jh (by rw [hk];rfl),Jh (by rw [hk];rfl),Jz (by simpa using hk),hor]
  unfold W.Jr
  rw [ja]
  obtain ⟨r,r1,r2⟩:=pairs_loop (f:=fun s↦W.jd.cR_ (Prod.fst s) (0:Int) ((2^n:Nat):Int) (IntKind.i64.wrap ((1:Int)*(2:Int)^Min.min (Int.toNat (Prod.fst (Prod.snd (Prod.snd (Prod.snd o))))) (64:Nat))) (Prod.snd s) some) hv ho hn (fun s=>rfl)
   (by
    intro x r s hx hb hon hs hx1 hx2
    have hfx:=fl_lt hq hx
    have hne:=fl_ne o.2.2.2.1 x
    refine ⟨(s.set x (s.getD (fl o.2.2.2.1 x) z0)).set (fl o.2.2.2.1 x) (s.getD x z0),?_,by simpa using hs,?_,?_,fun y h1 h2=>?_⟩
    ·simp only [W.jd.cR_,W.jd.c16]
     rw [Jh (by rfl),show idx ((x:Int)::r) (0:Int)=some (x:Int) from rfl,ja,hxor x hx,okR hfx,ja,idxP (by omega),ja,okR hx,ja,idxP (by omega),ja,ja,ja,ja,setP,setP,idxP (by rw [List.length_set];omega),ja,ja]
     rfl
    ·rw [kZ (by rw [List.length_set];omega),if_neg (Ne.symm hne),kZ (by omega),if_pos rfl]
     refine Num.fit (L:=2*t+1) (E:=t) ?_ (hf3 x hx)
     rw [UK hon hk]
     exact hx2
    ·rw [kZ (by rw [List.length_set];omega),if_pos rfl]
     refine Num.fit (L:=2*t+1) (E:=t) ?_ (hf3 _ hfx)
     rw [UK (by rw [ho.ones];exact hon) hk,fl_fl]
     exact hx1
    ·rw [kZ (by rw [List.length_set];omega),if_neg h2,kZ (by omega),if_neg h1])
  refine ⟨r,?_,r2⟩
  rw [show SeqC.L W.ones_sc=W.onesL from rfl,r1,ja]
 ·
  rw [Jh (by rw [hk];rfl),Jh (by rw [hk];rfl),Jh (by rw [hk];rfl),Jz (by simpa using hk),hor]
  unfold W.Jr
  rw [ja]
  have hk3:o.1≠1∧o.1≠2∧o.1≠4:=by omega
  obtain ⟨r,r1,r2⟩:=pairs_loop (f:=fun s↦W.jd.cE_ (Prod.fst s) (0:Int) ((2^n:Nat):Int) (IntKind.i64.wrap ((1:Int)*(2:Int)^Min.min (Int.toNat (Prod.fst (Prod.snd (Prod.snd (Prod.snd o))))) (64:Nat))) (Prod.snd s) some) hv ho hn (fun s=>rfl)
   (by
    intro x r s hx hb hon hs hx1 hx2
    have hfx:=fl_lt hq hx
    have hne:=fl_ne o.2.2.2.1 x
    have hbf:¬bt o.2.2.2.1 (fl o.2.2.2.1 x)=true:=by rw [Hi,hb];decide
    have e1:gateK o v x=K.half (K.sub (v (fl o.2.2.2.1 x)) (v x)):=by
     rw [Uz hon hk3,if_pos hb,K.sub,K.half_add,K.half_neg]
    have e2:gateK o v (fl o.2.2.2.1 x)=K.half (K.add (v (fl o.2.2.2.1 x)) (v x)):=by
     rw [Uz (by rw [ho.ones];exact hon) hk3,if_neg hbf,fl_fl,K.half_add,K.add_comm]
    obtain ⟨za,za1,za2⟩:=nzero_ok hx2
    obtain ⟨zb,zb1,zb2⟩:=nzero_ok hx1
    have hc20:W.jd.c20 (x:Int) (0:Int) ((2^n:Nat):Int) (IntKind.i64.wrap ((1:Int)*(2:Int)^Min.min (Int.toNat (Prod.fst (Prod.snd (Prod.snd (Prod.snd o))))) (64:Nat))) s some=some ([s.getD (fl o.2.2.2.1 x) z0],[s.getD x z0]):=by
     unfold W.jd.c20
     rw [hxor x hx,okR hfx,ja,idxP (by omega),ja,okR hx,ja,idxP (by omega),ja]
    have hc21:W.jd.c21 [s.getD (fl o.2.2.2.1 x) z0] [s.getD x z0] some=some (za&&zb):=by
     unfold W.jd.c21
     rw [bx_at,ja,za1,ja,bx_at,ja,zb1]
     cases za<;>rfl
    by_cases hz:(za&&zb)=true
    ·rw [Bool.and_eq_true] at hz
     have hv1:=za2.1 hz.1
     have hv2:=zb2.1 hz.2
     have eg1:gateK o v x=v x:=by rw [e1,hv1,hv2,K.sub_self,K.half_zero]
     have eg2:gateK o v (fl o.2.2.2.1 x)=v (fl o.2.2.2.1 x):=by rw [e2,hv1,hv2,K.add_zero,K.half_zero]
     refine ⟨s,?_,hs,?_,?_,fun _ _ _=>rfl⟩
     ·simp only [W.jd.cE_]
      rw [Jh (by rfl),show idx ((x:Int)::r) (0:Int)=some (x:Int) from rfl,ja,hc20,ja,hc21,ja,Jz (by rw [hz.1,hz.2];rfl)]
      rfl
     ·have:=hf3 x hx
      rw [eg1] at this ⊢
      exact hx1.fit this
     ·have:=hf3 _ hfx
      rw [eg2] at this ⊢
      exact hx2.fit this
    ·have hz':(za&&zb)=false:=by simpa using hz
     have f1:=hv.fit x hx
     have f2:=hv.fit _ hfx
     obtain ⟨a,a1,a2⟩:=nadd_t hx2 hx1 (by omega)
     have a3:=a2.fit (f2.add f1)
     obtain ⟨b,b1,b2⟩:=nhalf_t a3 (by omega)
     obtain ⟨c,c1,c2⟩:=nsub_t hx2 hx1 (by omega)
     have c3:=c2.fit (f2.add f1.neg)
     obtain ⟨d,d1,d2⟩:=nhalf_t c3 (by omega)
     refine ⟨(s.set (fl o.2.2.2.1 x) b).set x d,?_,by simpa using hs,?_,?_,fun y h1 h2=>?_⟩
     ·simp only [W.jd.cE_,W.jd.c22]
      rw [Jh (by rfl),show idx ((x:Int)::r) (0:Int)=some (x:Int) from rfl,ja,hc20,ja,hc21,ja,Jh hz',bx_at,ja,bx_at,ja,a1,ja,b1,ja,ja,ja,c1,ja,d1,ja,hxor x hx,okR hfx,ja,idxP (by omega),ja,okR hx,ja,setP,idxP (by rw [List.length_set];omega),ja,setP,ja]
      rfl
     ·rw [kZ (by rw [List.length_set];omega),if_pos rfl]
      have:=hf3 x hx
      rw [e1] at this ⊢
      exact d2.fit this
     ·rw [kZ (by rw [List.length_set];omega),if_neg hne,kZ (by omega),if_pos rfl]
      have:=hf3 _ hfx
      rw [e2] at this ⊢
      exact b2.fit this
     ·rw [kZ (by rw [List.length_set];omega),if_neg h1,kZ (by omega),if_neg h2])
  refine ⟨r,?_,r2⟩
  rw [show SeqC.L W.ones_sc=W.onesL from rfl,r1,ja]
 ·
  rw [Jh (by rw [hk];rfl),Jz (by simpa using hk),hor]
  unfold W.Jr
  rw [ja]
  obtain ⟨r,r1,r2⟩:=pairs_loop (f:=fun s↦W.jd.cQ_ (Prod.fst s) (0:Int) ((2^n:Nat):Int) (Prod.fst (Prod.snd o)) (Prod.snd s) some) hv ho hn (fun s=>rfl)
   (by
    intro x r s hx hb hon hs hx1 hx2
    have hfx:=fl_lt hq hx
    have hne:=fl_ne o.2.2.2.1 x
    have hbf:¬bt o.2.2.2.1 (fl o.2.2.2.1 x)=true:=by rw [Hi,hb];decide
    obtain ⟨a,a1,a2⟩:=hturn hx1
    refine ⟨s.set x a,?_,by simpa using hs,?_,?_,fun y h1 h2=>?_⟩
    ·simp only [W.jd.cQ_,W.jd.c12]
     rw [Jh (by rfl),show idx ((x:Int)::r) (0:Int)=some (x:Int) from rfl,ja,okR hx,ja,idxP (by omega),ja,a1,ja,ja,ja,setP,ja]
     rfl
    ·rw [kZ (by omega),if_pos rfl]
     refine Num.fit (L:=2*t+1) (E:=t) ?_ (hf3 x hx)
     rw [gate_turn hon (.inr ⟨hk,hb⟩)]
     exact a2
    ·rw [kZ (by omega),if_neg hne]
     have:=hf3 _ hfx
     rw [gate_stay (by rw [ho.ones];exact hon) hk hbf] at this ⊢
     exact hx2.fit this
    ·rw [kZ (by omega),if_neg h1])
  refine ⟨r,?_,r2⟩
  rw [show SeqC.L W.ones_sc=W.onesL from rfl,r1,ja]
end Go.Ql
end

section
namespace Go.Ql
structure OkS (o:GOp) (n bn:Nat):Prop where
 p:OkP o n bn
 kind:1≤o.1∧o.1≤6
 ph:o.1=1→o.2.2.1=[]
 k15:o.2.1≤15
theorem oks_good {o:Op} {n bn:Nat} (h:GoodOp o (n:Int) (bn:Int)) (hw:WOp o) (hn:n≤12):OkS o n bn:=by
 have h1:=ctlBad_zero.mp h.ctls
 have hl:=hw.1
 refine ⟨⟨⟨h.q,h.k.1,fun q hq=>?_,by omega,fun hm=>(h1.1 _ hm).2.2.1 rfl⟩,by have:=h.ifs;omega,fun c hc=>?_,fun h5=>?_⟩,h.kind,fun hk=>?_,h.k.2⟩
 ·have:=h1.1 q hq;omega
 ·have hcond:=h.cond
  unfold ifBad at hcond
  have:¬(c=0∨(bn:Int)<c∨c < -(bn:Int)):=fun hh=>hcond ⟨c,hc,hh⟩
  omega
 ·rcases h.bit with hb | hb
  ·exact hb.2
  ·exact absurd h5 hb.1
 ·rcases h.ctl with e | e
  ·exact e
  ·omega
def B01 (bits:List Int):Prop:=∀j,bits.getD j 0=0∨bits.getD j 0=1
theorem B01.zero (n:Nat):B01 (List.replicate n 0):=fun j=>by
 left
 rw [List.getD,List.getElem?_replicate]
 split<;>rfl
theorem B01.set {bits:List Int} (h:B01 bits) (i:Nat) {b:Int} (hb:b=0∨b=1):B01 (bits.set i b):=fun j=>by
 rw [List.getD,List.getElem?_set]
 by_cases e:i=j
 ·rw [if_pos e]
  split
  ·exact hb
  ·exact .inl rfl
 ·rw [if_neg e];exact h j
theorem holds_ok {o:GOp} {bits:List Int} {q b u a:Int} {ops:List GOp} {l:List NumT} (hn:o.2.2.2.2.2.length<2^62) (hb:bits.length<2^62) (hc:∀c∈o.2.2.2.2.2,c≠0∧c≤bits.length ∧ -c≤bits.length) (h01:B01 bits) :
 W.jC o q b ops u a l bits=some (condK bits o,q,b,ops,u,a,l,bits,()):=by
 obtain ⟨o0,o1,o2,o3,o4,cl⟩:=o
 simp only at *
 obtain ⟨y,h1,h2⟩:=JI (f:=fun s:Int↦W.jC.cc_ cl (↑(List.length cl):Int) s bits some) cl.length
  (fun i s=>s=(i:Int) ∧ ∀j,j<i→((decide (cl.getD j 0≤0)||bits.getD (cl.getD j 0-1).toNat 0==1)&&(decide (0≤cl.getD j 0)||bits.getD (-cl.getD j 0-1).toNat 0==0))=true)
  (fun y=>(∃i,y=.inl i∧condK bits (o0,o1,o2,o3,o4,cl)=false)∨(∃i,y=.inr i∧condK bits (o0,o1,o2,o3,o4,cl)=true))
  (by
   rintro i s hi ⟨rfl,h2⟩
   have hm:cl.getD i 0∈cl:=by
    have e:cl.getD i 0=cl[i]:=by simp [hi]
    rw [e];exact List.getElem_mem hi
   obtain ⟨c0,c1,c2⟩:=hc _ hm
   have hbad:((decide (cl.getD i 0≤0)||bits.getD (cl.getD i 0-1).toNat 0==1)&&(decide (0≤cl.getD i 0)||bits.getD (-cl.getD i 0-1).toNat 0==0))=false→condK bits (o0,o1,o2,o3,o4,cl)=false:=fun hf=>by
    rw [←Bool.not_eq_true]
    intro ht
    unfold condK at ht
    rw [List.all_eq_true] at ht
    have:=ht _ hm
    rw [hf] at this
    cases this
   have hgo:((decide (cl.getD i 0≤0)||bits.getD (cl.getD i 0-1).toNat 0==1)&&(decide (0≤cl.getD i 0)||bits.getD (-cl.getD i 0-1).toNat 0==0))=true → ∀j,j<i+1→((decide (cl.getD j 0≤0)||bits.getD (cl.getD j 0-1).toNat 0==1)&&(decide (0≤cl.getD j 0)||bits.getD (-cl.getD j 0-1).toNat 0==0))=true:=fun ht j hj=>by
    by_cases e:j=i
    ·rw [e];exact ht
    ·exact h2 j (by omega)
   simp only [W.jC.cc_,W.jC.c4]
   rw [jN (by omega),JH i rfl hi,ja]
   generalize cl.getD i 0=c at *
   by_cases hp:c>0
   ·rw [jN hp,ji (by omega),Ye (by omega) (by omega),ja,JH (c-1).toNat (by omega) (by omega),ja]
    have e2:decide (0≤c)=true:=decide_eq_true (by omega)
    have e1:decide (c≤0)=false:=decide_eq_false (by omega)
    rw [e1,e2] at hbad hgo
    rcases h01 (c-1).toNat with hv | hv
    ·rw [Jz (by rw [hv];rfl),ja,Jz rfl]
     exact .inr ⟨_,rfl,.inl ⟨_,rfl,hbad (by rw [hv];rfl)⟩⟩
    ·rw [Jh (by rw [hv];rfl),jL (by omega),ja,Jh rfl,ji (by omega)]
     exact .inl ⟨_,rfl,by omega,hgo (by rw [hv];rfl)⟩
   ·rw [jL hp,jN (by omega),ji (x:=0-c) (by omega),ji (by omega),Int.zero_sub,Ye (by omega) (by omega),ja,JH (-c-1).toNat (by omega) (by omega),ja]
    have e2:decide (0≤c)=false:=decide_eq_false (by omega)
    have e1:decide (c≤0)=true:=decide_eq_true (by omega)
    rw [e1,e2] at hbad hgo
    rcases h01 (-c-1).toNat with hv | hv
    ·rw [ja,Jh (by rw [hv];rfl),ji (by omega)]
     exact .inl ⟨_,rfl,by omega,hgo (by rw [hv];rfl)⟩
    ·rw [ja,Jz (by rw [hv];rfl)]
     exact .inr ⟨_,rfl,.inl ⟨_,rfl,hbad (by rw [hv];rfl)⟩⟩)
  (by
   rintro s ⟨rfl,h2⟩
   refine ⟨.inr (cl.length:Int),?_,.inr ⟨_,rfl,?_⟩⟩
   ·simp only [W.jC.cc_]
    rw [jL (by omega)]
   ·unfold condK
    rw [List.all_eq_true]
    intro c hc
    obtain ⟨j,hj,rfl⟩:=List.mem_iff_getElem.1 hc
    have:=h2 j hj
    rw [show cl.getD j 0=cl[j] by simp [hj]] at this
    exact this)
  (s:=(0:Int)) ⟨rfl,fun j hj=>absurd hj (Nat.not_lt_zero _)⟩
 unfold W.jC
 refine kY h1 ?_
 rcases h2 with ⟨i,rfl,e⟩ | ⟨i,rfl,e⟩
 ·rw [kj,e]
 ·rw [kG,e]
theorem bit_val {x:Nat} {q:Int} (hx:x<2^63) (hq:0≤q∧q<64):ibits BinOp.and IntKind.i64 (Int.fdiv (x:Int) ((2:Int)^Min.min (Int.toNat q) (64:Nat))) (1:Int)=if bt q x=true then 1 else 0:=by
 have h1:Int.fdiv (x:Int) ((2:Int)^Min.min (Int.toNat q) (64:Nat))=((x / 2^q.toNat:Nat):Int):=by
  rw [Nat.min_eq_left (by omega),Int.fdiv_eq_ediv_of_nonneg _ (by have:(0:Int)≤((2^q.toNat:Nat):Int):=Int.natCast_nonneg _;simpa using this)]
  norm_cast
 have h2:=Hl (a:=x / 2^q.toNat) (b:=1) (Nat.lt_of_le_of_lt (Nat.div_le_self _ _) hx) (by decide)
 rw [show ((1:Nat):Int)=1 from rfl] at h2
 rw [h1,h2]
 have h3:x / 2^q.toNat &&& 1=x / 2^q.toNat % 2:=Nat.and_one_is_mod _
 have h4:bt q x=decide (x / 2^q.toNat % 2=1):=by
  unfold bt
  rw [Nat.testBit,Nat.shiftRight_eq_div_pow,Nat.and_comm 1,h3]
  have:x / 2^q.toNat % 2=0∨x / 2^q.toNat % 2=1:=by omega
  rcases this with h | h<;>rw [h]<;>rfl
 rw [h3,h4]
 have:x / 2^q.toNat % 2=0∨x / 2^q.toNat % 2=1:=by omega
 rcases this with h | h<;>rw [h]<;>rfl
theorem keep_walk {l:List NumT} {v:KV} {n t:Nat} {q b:Int} (hv:AmpP l (2^n) v t) (hn:n≤20) (hq:0≤q∧q<62) (hb:b=0∨b=1) :
 ∃r,W.ju (0:Int) ((2^n:Nat):Int) q b l=some (r,())∧AmpP r (2^n) (outK q b v) t:=by
 have hN:2^n≤2^20:=Nat.pow_le_pow_right (by decide) hn
 have hlen:=hv.len
 obtain ⟨y,q1,r,q2,q3,q4⟩:=JI (f:=fun s:Int×List NumT↦W.ju.ce_ (0:Int) ((2^n:Nat):Int) q b (↑(List.length (part (0:Int) ((2^n:Nat):Int) l)):Int) (Prod.fst s) (Prod.snd s) some) (2^n)
  (fun i s=>s.1=(i:Int)∧s.2.length=2^n ∧ ∀y,y<2^n→Num 4294967296 (s.2.getD y z0) (if y<i then outK q b v y else v y) (2*t+1) t)
  (fun y=>∃r,y=(((2^n:Nat):Int),r)∧r.length=2^n ∧ ∀y,y<2^n→Num 4294967296 (r.getD y z0) (outK q b v y) (2*t+1) t)
  (by
   rintro i ⟨s,out⟩ hi ⟨p1,p2,p3⟩
   simp only at p1 p2 p3
   subst p1
   left
   obtain ⟨r,r1,r2,r3⟩:∃r,W.ju.cv_ (0:Int) ((2^n:Nat):Int) q b (i:Int) out some=some r∧r.length=2^n ∧ ∀y,y<2^n→Num 4294967296 (r.getD y z0) (if y<i+1 then outK q b v y else v y) (2*t+1) t:=by
    unfold W.ju.cv_
    rw [jT (by simpa using hq.1),ja,bit_val (by omega) (by omega)]
    by_cases e:bt q i=decide (b=1)
    ·have hbb:((if bt q i=true then 1 else 0:Int) !=b)=false:=by
      rw [e];rcases hb with rfl | rfl<;>decide
     rw [Jh hbb]
     refine ⟨_,rfl,p2,fun y hy=>?_⟩
     by_cases ey:y=i
     ·subst ey
      have:=p3 y hy
      rw [if_neg (Nat.lt_irrefl _)] at this
      rw [if_pos (Nat.lt_succ_self _)]
      unfold outK
      rw [if_pos e]
      exact this
     ·have:=p3 y hy
      by_cases hyi:y<i
      ·rw [if_pos hyi] at this
       rw [if_pos (by omega)]
       exact this
      ·rw [if_neg hyi] at this
       rw [if_neg (by omega)]
       exact this
    ·have hbb:((if bt q i=true then 1 else 0:Int) !=b)=true:=by
      rcases hb with rfl | rfl<;>cases hx:bt q i<;>rw [hx] at e<;>first | rfl | exact absurd rfl e
     rw [Jz hbb,okR hi,ja,idxP (by omega),ja,setP]
     refine ⟨_,rfl,by simpa using p2,fun y hy=>?_⟩
     rw [kZ (by omega)]
     by_cases ey:y=i
     ·subst ey
      rw [if_pos rfl,if_pos (Nat.lt_succ_self _)]
      unfold outK
      rw [if_neg e]
      exact num_zero
     ·rw [if_neg ey]
      have:=p3 y hy
      by_cases hyi:y<i
      ·rw [if_pos hyi] at this
       rw [if_pos (by omega)]
       exact this
      ·rw [if_neg hyi] at this
       rw [if_neg (by omega)]
       exact this
   refine ⟨(((i+1:Nat):Int),r),?_,rfl,r2,r3⟩
   simp only [W.ju.ce_]
   rw [←hlen,VE,hlen,jN (by omega),r1,ja,ji (by omega)]
   rfl)
  (by
   rintro ⟨s,out⟩ ⟨p1,p2,p3⟩
   simp only at p1 p2 p3
   subst p1
   refine ⟨_,?_,out,rfl,p2,fun y hy=>?_⟩
   ·simp only [W.ju.ce_]
    rw [←hlen,VE,jL (by omega)]
   ·have:=p3 y hy
    rw [if_pos hy] at this
    exact this)
  (s:=((0:Int),l)) ⟨rfl,hlen,fun y hy=>by rw [if_neg (Nat.not_lt_zero _)];exact hv.at_ y hy⟩
 subst q2
 unfold W.ju
 rw [q1,ja]
 refine ⟨r,rfl,q3,q4,fun y hy=>?_⟩
 unfold outK
 split
 ·exact hv.fit y hy
 ·exact FitsK.zero _ _
theorem pbasis_walk {n i:Nat} (hn:n≤20) (hi:i<2^n):∃r,W.JY (n:Int) (i:Int)=some (r,())∧AmpP r (2^n) (YC i) 0:=by
 have hN:2^n≤2^20:=Nat.pow_le_pow_right (by decide) hn
 obtain ⟨z,z1,z2⟩:=root_ok 0 (by decide)
 have hp:=pow63 (q:=(n:Int)) (by omega)
 rw [Int.toNat_natCast] at hp
 unfold W.JY
 rw [jT (by simp),ja]
 simp only [Int.toNat_natCast] at hp ⊢
 simp only [hp,Int.toNat_natCast]
 rw [jT (by rw [Bool.and_eq_true,Bool.and_eq_true,Bool.and_eq_true,decide_eq_true_iff,decide_eq_true_iff,decide_eq_true_iff,decide_eq_true_iff];omega),ja,z1,ja]
 rw [show (List.replicate (2^n) (List.replicate (8:Nat) (false,([]:List (Ty.den (Ty.int IntKind.u32)))),(0:Int)))=List.replicate (2^n) z0 from rfl,Vg (by simpa using hi),ja,idxN (by simpa using hi),ja]
 have h1:FitsK K.one (2*0+1) 0:=⟨YZ 1,one_kv,single_bd (by decide)⟩
 refine ⟨_,rfl,by simp,fun y hy=>?_,fun y hy=>?_⟩
 ·rw [kZ (by simpa using hi),repl_at]
  unfold YC
  by_cases e:y=i
  ·rw [if_pos e,if_pos e]
   exact z2
  ·rw [if_neg e,if_neg e]
   exact num_zero
 ·unfold YC
  split
  ·exact h1
  ·exact FitsK.zero _ _
end Go.Ql
end

section
namespace Go.Ql
theorem onward_walk {n bn:Nat} {ops:List GOp} {tape:List Int} {q b u:Int} {us:Nat} {bits:List Int} (hn:n≤12) (hbn:bn<2^40) (hl:ops.length≤8000) (hops:∀o∈ops,OkS o n bn) (hb:bits.length=bn) (h01:B01 bits)
 {i:Nat} {l:List NumT} {v:KV} (hv:AmpP l (2^n) v i) (hi:i≤ops.length) :
 ∃(c:Bool) (j:Nat) (l':List NumT) (v':KV),W.je q b ops u (i:Int) l bits=some (c,q,b,ops,u,(j:Int),l',bits,())∧AmpP l' (2^n) v' j∧i≤j∧j≤ops.length ∧
  playK tape i (ops.drop i) (v,bits,us)=playK tape j (ops.drop j) (v',bits,us)∧(c=false→j=ops.length)∧(c=true → ∃h:j<ops.length,condK bits ops[j]=true ∧ ¬ops[j].1<5):=by
 obtain ⟨y,y1,y2⟩:=JT (f:=fun s:Int×Int×List GOp×Int×Int×List NumT×List Int↦W.je.ce_ (Prod.fst s) (Prod.fst (Prod.snd s)) (Prod.fst (Prod.snd (Prod.snd s))) (Prod.fst (Prod.snd (Prod.snd (Prod.snd s)))) (Prod.fst (Prod.snd (Prod.snd (Prod.snd (Prod.snd s))))) (Prod.fst (Prod.snd (Prod.snd (Prod.snd (Prod.snd (Prod.snd s)))))) (Prod.snd (Prod.snd (Prod.snd (Prod.snd (Prod.snd (Prod.snd s)))))) some)
  (J:=fun s=>∃(j:Nat) (l':List NumT) (v':KV),s=(q,b,ops,u,(j:Int),l',bits)∧AmpP l' (2^n) v' j∧i≤j∧j≤ops.length∧playK tape i (ops.drop i) (v,bits,us)=playK tape j (ops.drop j) (v',bits,us))
  (Q:=fun y=>∃(j:Nat) (l':List NumT) (v':KV),AmpP l' (2^n) v' j∧i≤j∧j≤ops.length∧playK tape i (ops.drop i) (v,bits,us)=playK tape j (ops.drop j) (v',bits,us) ∧
   ((y=.inl (q,b,ops,u,(j:Int),l',bits) ∧ ∃h:j<ops.length,condK bits ops[j]=true ∧ ¬ops[j].1<5)∨(y=.inr (q,b,ops,u,(j:Int),l',bits)∧j=ops.length)))
  (fun s=>ops.length-s.2.2.2.2.1.toNat)
  (by
   rintro s ⟨j,l',v',rfl,p1,p2,p3,p4⟩
   simp only [W.je.ce_,W.je.c1,ja]
   by_cases hj:j<ops.length
   ·have hd:ops.drop j=ops[j]::ops.drop (j+1):=List.drop_eq_getElem_cons hj
    have hm:ops[j]∈ops:=List.getElem_mem hj
    have hk:=hops _ hm
    have hidx:idx ops (j:Int)=some ops[j]:=Vx hj
    have hcond:=holds_ok (o:=ops[j]) (bits:=bits) (q:=q) (b:=b) (u:=u) (a:=(j:Int)) (ops:=ops) (l:=l') hk.p.ifs (by rw [hb];omega) (by rw [hb];exact hk.p.cond) h01
    rw [jN (by omega)]
    unfold W.je.cC_ W.je.c3
    rw [hidx,ja,ja,show (ops[j].1,ops[j].2.1,ops[j].2.2.1,ops[j].2.2.2.1,ops[j].2.2.2.2.1,ops[j].2.2.2.2.2)=ops[j] from rfl,hcond,ja]
    have p4':=p4
    rw [hd] at p4
    simp only [playK] at p4
    have hw:IntKind.i64.wrap ((j:Int)+1)=((j+1:Nat):Int):=by rw [ji (by omega)];omega
    by_cases hc:condK bits ops[j]=false
    ·rw [if_pos hc] at p4
     rw [hc,show (!false)=true from rfl,br_tt,ja,kj]
     simp only
     rw [hw]
     exact .inr ⟨_,rfl,⟨j+1,l',v',rfl,p1.up,by omega,hj,p4⟩,by simp only [Int.toNat_natCast];omega⟩
    ·rw [if_neg hc] at p4
     have hc':condK bits ops[j]=true:=by simpa using hc
     rw [hc',show (!true)=false from rfl,br_ff]
     unfold W.je.c5
     by_cases h5:ops[j].1<5
     ·rw [if_pos h5] at p4
      obtain ⟨r,r1,r2⟩:=apply_walk p1 hk.p.gate (by omega) (by omega) (by have:=hk.kind;omega) hk.ph (by have:=hk.k15;omega)
      have hlen:=p1.len
      unfold W.je.c7
      rw [Jh (beq_false_of_ne (by omega)),beq_false_of_ne (show ops[j].1≠(6:Int) by omega),ja,br_ff,show (ops[j].1,ops[j].2.1,ops[j].2.2.1,ops[j].2.2.2.1,ops[j].2.2.2.2.1,ops[j].2.2.2.2.2)=ops[j] from rfl]
      simp only
      rw [hlen,r1,ja,ja,ja,kj]
      simp only
      rw [hw]
      exact .inr ⟨_,rfl,⟨j+1,r,_,rfl,r2,by omega,hj,p4⟩,by simp only [Int.toNat_natCast];omega⟩
     ·have h56:ops[j].1=5∨ops[j].1=6:=by have:=hk.kind;omega
      have hbr:br (ops[j].1==(5:Int)) (some true) (some (ops[j].1==(6:Int)))=some true:=by
       rcases h56 with e | e<;>rw [e]<;>rfl
      rw [hbr,ja,br_tt,ja,kG]
      exact .inl ⟨_,rfl,j,l',v',p1,p2,p3,p4',.inl ⟨rfl,hj,hc',h5⟩⟩
   ·rw [jL (by omega)]
    exact .inl ⟨_,rfl,j,l',v',p1,p2,p3,p4,.inr ⟨rfl,by omega⟩⟩)
  (s:=(q,b,ops,u,(i:Int),l,bits)) ⟨i,l,v,rfl,hv,Nat.le_refl _,hi,rfl⟩
 obtain ⟨j,l',v',q1,q2,q3,q4,q5⟩:=y2
 unfold W.je
 rw [y1,ja]
 rcases q5 with ⟨rfl,q5⟩ | ⟨rfl,q5⟩
 ·refine ⟨true,j,l',v',?_,q1,q2,q3,q4,fun h=>(by cases h),fun _=>q5⟩
  rw [kj]
 ·refine ⟨false,j,l',v',?_,q1,q2,q3,q4,fun _=>q5,fun h=>(by cases h)⟩
  rw [kG]
theorem meet_walk {n bn:Nat} {ops:List GOp} {q b x:Int} {us:Nat} {bits:List Int} (hn:n≤12) (hl:ops.length≤8000) (hb:bits.length=bn) {i:Nat} {l:List NumT} {v:KV} (hv:AmpP l (2^n) v i) (hi:i<ops.length)
 (ho:OkS ops[i] n bn) (h5:¬ops[i].1<5) (hx:x=0∨x=1) (hu:us<2^62) :
 ∃l',W.jh x q b ops (us:Int) (i:Int) l bits=some (q,b,ops,((us+1:Nat):Int),((i+1:Nat):Int),l',(meetK ops[i] x (v,bits,us)).2.1,())∧AmpP l' (2^n) (meetK ops[i] x (v,bits,us)).1 (i+1)∧(meetK ops[i] x (v,bits,us)).2.2=us+1∧(meetK ops[i] x (v,bits,us)).2.1.length=bn:=by
 have hq:=ho.p.gate.q
 have hidx:idx ops (i:Int)=some ops[i]:=Vx hi
 obtain ⟨r,r1,r2⟩:=keep_walk (q:=ops[i].2.2.2.1) (b:=x) hv (by omega) (by omega) hx
 have hlr:=r2.len
 have hw:IntKind.i64.wrap ((i:Int)+1)=((i+1:Nat):Int):=by rw [ji (by omega)];omega
 have hw2:IntKind.i64.wrap ((us:Int)+1)=((us+1:Nat):Int):=by rw [ji (by omega)];omega
 unfold W.jh W.jh.c0
 rw [hidx,ja,ja]
 unfold W.jh.c1
 simp only
 rw [hv.len,r1,ja,ja,hw,hw2]
 unfold W.jh.cS_
 by_cases hm5:ops[i].1=5
 ·have hbit:=ho.p.bit hm5
  unfold W.jh.c3
  rw [Jz (by simpa using hm5),Ye hbit.1 (by rw [hb];exact hbit.2),ja,JH ops[i].2.2.2.2.1.toNat (by omega) (by rw [hb];omega),ja,ja,ja]
  unfold meetK
  rw [if_neg (fun h=>h.1 hm5),if_pos hm5]
  exact ⟨r,rfl,r2.up,rfl,by rw [List.length_set];exact hb⟩
 ·rw [Jh (by simpa using hm5)]
  unfold meetK
  simp only
  rw [if_neg hm5]
  by_cases hb1:x=1
  ·rw [Jz (by simpa using hb1),if_pos ⟨hm5,hb1⟩,←gate_x [] 0 ops[i].2.2.2.1 0 []]
   obtain ⟨s,s1,s2⟩:=apply_walk r2 (ok1_x ho.p.gate) (by omega) (by omega) (.inr (.inl rfl)) (fun h=>rfl) (by show (0:Int)≤9223372036854775807;decide)
   unfold W.jh.c5
   rw [hlr,s1,ja,ja,ja]
   exact ⟨s,rfl,s2,trivial,hb⟩
  ·rw [Jh (by simpa using hb1),ja,if_neg (fun h=>hb1 h.2)]
   exact ⟨r,rfl,r2.up,trivial,hb⟩
theorem meet_01 {o:GOp} {x:Int} {s:SK} (h:B01 s.2.1) (hx:x=0∨x=1):B01 (meetK o x s).2.1:=by
 unfold meetK
 simp only
 split
 ·exact h.set _ hx
 ·exact h
theorem played_good {n bn:Nat} {ops:List GOp} {tape:List Int} {i0:Nat} (hn:n≤12) (hbn:bn<2^40) (hl:ops.length≤8000) (ht:tape.length<2^62) (hi:i0<2^n) (hops:∀o∈ops,OkS o n bn)
 (hck:W.jP ((n:Int),(bn:Int),ops)=some ((0:Int),(0:Int))) :
 (∀x,playK tape 0 ops (YC i0,List.replicate bn 0,0)=.inl x→x.1≠0∧W.jk ((n:Int),(bn:Int),ops) (i0:Int) tape=some (.inr ((),(x.1,(x.2:Int)),()))) ∧
 (∀s,playK tape 0 ops (YC i0,List.replicate bn 0,0)=.inr s → ∃l,W.jk ((n:Int),(bn:Int),ops) (i0:Int) tape=some (.inl (((0:Int),(0:Int)),(n:Int),(bn:Int),ops,(s.2.2:Int),(ops.length:Int),l,s.2.1,()))∧AmpP l (2^n) s.1 ops.length):=by
 have hN:2^n≤2^20:=Nat.pow_le_pow_right (by decide) (by omega)
 obtain ⟨l0,b1,b2⟩:=pbasis_walk (show n≤20 by omega) hi
 obtain ⟨R,hR⟩:∃R,playK tape 0 ops (YC i0,List.replicate bn 0,0)=R:=⟨_,rfl⟩
 obtain ⟨y,y1,y2⟩:=JT (f:=fun s:Int×Int×List GOp×Int×Int×List NumT×List Int↦W.jk.cb_ tape (Prod.fst s) (Prod.fst (Prod.snd s)) (Prod.fst (Prod.snd (Prod.snd s))) (Prod.fst (Prod.snd (Prod.snd (Prod.snd s)))) (Prod.fst (Prod.snd (Prod.snd (Prod.snd (Prod.snd s))))) (Prod.fst (Prod.snd (Prod.snd (Prod.snd (Prod.snd (Prod.snd s)))))) (Prod.snd (Prod.snd (Prod.snd (Prod.snd (Prod.snd (Prod.snd s)))))) some)
  (J:=fun s=>∃(j us:Nat) (l:List NumT) (v:KV) (bits:List Int),s=((n:Int),(bn:Int),ops,(us:Int),(j:Int),l,bits)∧AmpP l (2^n) v j∧j≤ops.length∧bits.length=bn∧B01 bits∧us≤tape.length∧playK tape j (ops.drop j) (v,bits,us)=R)
  (Q:=fun y=>(∃u:Int×Int×Int×Int×List GOp×Int×Int×List NumT×List Int,∃x:Int×Nat,y=.inl u∧R=.inl x∧u.1=x.1∧u.2.1=(x.2:Int)∧x.1≠0) ∨
   (∃(s:SK) (l:List NumT),R=.inr s∧y=.inr ((n:Int),(bn:Int),ops,(s.2.2:Int),(ops.length:Int),l,s.2.1)∧AmpP l (2^n) s.1 ops.length))
  (fun s=>ops.length-s.2.2.2.2.1.toNat)
  (by
   rintro s ⟨j,us,l,v,bits,rfl,p1,p2,p3,p4,p5,p6⟩
   obtain ⟨c,k,l',v',o1,o2,o3,o4,o5,o6,o7⟩:=onward_walk (tape:=tape) (us:=us) (q:=(n:Int)) (b:=(bn:Int)) (u:=(us:Int)) hn hbn hl hops p3 p4 p1 p2
   rw [p6] at o5
   simp only [W.jk.cb_]
   rw [o1,ja]
   cases c with
   | false=>
     have hk:=o6 rfl
     subst hk
     rw [List.drop_length] at o5
     simp only [playK] at o5
     rw [br_ff]
     exact .inl ⟨_,rfl,.inr ⟨_,l',o5,rfl,o2⟩⟩
   | true=>
     obtain ⟨hk,hc,h5⟩:=o7 rfl
     have hm:ops[k]∈ops:=List.getElem_mem hk
     rw [List.drop_eq_getElem_cons hk] at o5
     simp only [playK] at o5
     rw [if_neg (by rw [hc];decide),if_neg h5] at o5
     rw [br_tt]
     dsimp only
     by_cases hu:us=tape.length
     ·rw [if_pos hu] at o5
      rw [Jz (by simp [hu]),show W.JZ (19:Int) (k:Int)=some (19,(k:Int)) from rfl,ja]
      exact .inl ⟨_,rfl,.inl ⟨_,_,rfl,o5,rfl,rfl,(by first | (show (19:Int)≠0;decide) | (show (20:Int)≠0;decide))⟩⟩
     ·rw [if_neg hu] at o5
      rw [Jh (beq_false_of_ne (by omega)),JH us rfl (by omega),ja]
      unfold W.jk.c8
      obtain ⟨b,hb⟩:∃b,tape.getD us 0=b:=⟨_,rfl⟩
      rw [hb] at o5 ⊢
      by_cases hbad:b≠0∧b≠1
      ·rw [if_pos hbad] at o5
       rw [Jz (by simpa using hbad.1),ja,Jz (by simpa using hbad.2),show W.JZ (20:Int) (k:Int)=some (20,(k:Int)) from rfl,ja]
       exact .inl ⟨_,rfl,.inl ⟨_,_,rfl,o5,rfl,rfl,(by first | (show (19:Int)≠0;decide) | (show (20:Int)≠0;decide))⟩⟩
      ·rw [if_neg hbad] at o5
       have hb01:b=0∨b=1:=by omega
       have hc19:(br (b !=(0:Int)) (some (b !=(1:Int))) (some false))=some false:=by rcases hb01 with rfl | rfl<;>rfl
       rw [hc19,ja,br_ff]
       obtain ⟨m,m1,m2,m3,m4⟩:=meet_walk (q:=(n:Int)) (b:=(bn:Int)) (us:=us) hn hl p3 o2 hk (hops _ hm) h5 hb01 (by omega)
       rw [m1,ja]
       refine .inr ⟨_,rfl,⟨k+1,us+1,m,_,_,rfl,m2,hk,m4,meet_01 p4 hb01,by omega,?_⟩,by simp only [Int.toNat_natCast];omega⟩
       rw [o5,←m3])
  (s:=((n:Int),(bn:Int),ops,(0:Int),(0:Int),l0,List.replicate bn 0)) ⟨0,0,l0,YC i0,List.replicate bn 0,rfl,b2,Nat.zero_le _,by simp,B01.zero _,Nat.zero_le _,hR⟩
 have hp:=pow63 (q:=(n:Int)) (by omega)
 have hbeg:W.jF ((n:Int),(bn:Int),ops) (i0:Int)=some (.inl (((0:Int),(0:Int)),(n:Int),(bn:Int),ops,(0:Int),(0:Int),l0,List.replicate bn 0,())):=by
  unfold W.jF W.jF.c4 W.jF.c6
  simp only
  rw [hck,ja,Jh (by decide),jL (by omega),jT (by simp),ja,hp,Int.toNat_natCast,decide_eq_false (by omega),ja,br_ff,b1,ja,
   jT (by rw [Bool.and_eq_true,Bool.and_eq_true,Bool.and_eq_true,decide_eq_true_iff,decide_eq_true_iff,decide_eq_true_iff,decide_eq_true_iff];omega),ja,ja,Int.toNat_natCast]
 have hrun:W.jk ((n:Int),(bn:Int),ops) (i0:Int) tape=sel y (fun u_1=>some (Sum.inr ((),(Prod.fst u_1,Prod.fst (Prod.snd u_1)),())))
  (fun v_1=>some (Sum.inl (((0:Int),(0:Int)),Prod.fst v_1,Prod.fst (Prod.snd v_1),Prod.fst (Prod.snd (Prod.snd v_1)),Prod.fst (Prod.snd (Prod.snd (Prod.snd v_1))),Prod.fst (Prod.snd (Prod.snd (Prod.snd (Prod.snd v_1)))),Prod.fst (Prod.snd (Prod.snd (Prod.snd (Prod.snd (Prod.snd v_1))))),Prod.snd (Prod.snd (Prod.snd (Prod.snd (Prod.snd (Prod.snd v_1))))),()))):=by
  unfold W.jk
  simp only
  rw [hbeg,ja,kj,Jh (by rfl),y1,ja]
 rw [hR]
 rcases y2 with ⟨u,x,rfl,e,e1,e2,e3⟩ | ⟨s,l,e,rfl,e1⟩
 ·subst e
  refine ⟨fun x' hx=>?_,fun s hs=>(by cases hs)⟩
  cases hx
  rw [hrun,kj,e1,e2]
  exact ⟨e3,rfl⟩
 ·subst e
  refine ⟨fun x' hx=>(by cases hx),fun s' hs=>?_⟩
  cases hs
  rw [hrun,kG]
  exact ⟨l,rfl,e1⟩
end Go.Ql
end

section
namespace Go.Ql
theorem play_bits (tape:List Int):∀(l:List GOp) (i:Nat) (s t:SK),playK tape i l s=.inr t→t.2.1.length=s.2.1.length
 | [],i,s,t,h=>by
   simp only [playK,Sum.inr.injEq] at h
   rw [h]
 | o::l,i,s,t,h=>by
   simp only [playK] at h
   split at h
   ·exact play_bits tape l _ s t h
   ·split at h
    ·have h2:=play_bits tape l _ _ t h
     exact h2
    ·split at h
     ·cases h
     ·split at h
      ·cases h
      ·rw [play_bits tape l _ _ t h]
       unfold meetK
       simp only
       split
       ·rw [List.length_set]
       ·rfl
structure BothR (c:Cir) (i:Int) (tape:List Int) (n:Nat) (l l':List NumT) (v:KV) (t:Nat) (bits:List Int) (u:Nat):Prop where
 st:W.jk c i tape=some (.inl (((0:Int),(0:Int)),c.1,c.2.1,c.2.2,(u:Int),(c.2.2.length:Int),l,bits,()))
 ref:W.jR c i tape=some (l',bits,(u:Int),(0:Int),(0:Int))
 amp:AmpP l (2^n) v t
 amr:Amps l' (2^n) v t
 hn:n≤12
 ht:t≤4096
 hb:bits.length≤12
theorem played_both (c:Cir) (hc:WCir c) (i:Int) (tape:List Int) (ht:tape.length<2^62) :
 (∃f:Int×Int,f.1≠0∧W.jk c i tape=some (.inr ((),f,()))∧W.jR c i tape=some ([],[],(0:Int),f)) ∨
 ∃n l l' v t bits u,BothR c i tape n l l' v t bits u:=by
 by_cases hk:(chk c).1=0
 ·obtain ⟨hg,hck⟩:=good_of hk
  have h1:=hg.q
  have h2:=hg.b
  have h3:=hg.n
  have hops:∀o∈c.2.2,GoodOp o c.1 c.2.1:=fun o ho=>goodOp_of (hg.ops o ho)
  have hw:=hc.2
  have k1:=check_ok c hc
  have k2:=rcheck_ok c hc
  rw [hck] at k1 k2
  obtain ⟨qn,bn,ops⟩:=c
  simp only at h1 h2 h3
  obtain ⟨n,rfl⟩:=Int.eq_ofNat_of_zero_le (show (0:Int)≤qn by omega)
  obtain ⟨m,rfl⟩:=Int.eq_ofNat_of_zero_le (show (0:Int)≤bn by omega)
  simp only at hops hw
  have hoks:∀o∈ops,OkS o n m:=fun o ho=>oks_good (hops o ho) (hw o ho) (by omega)
  have hp:=pow63 (q:=(n:Int)) (by omega)
  rw [Int.toNat_natCast] at hp
  by_cases hin:i<0∨((2^n:Nat):Int)≤i
  ·refine .inl ⟨(18,0),by decide,?_,?_⟩
   ·have hb:W.jF ((n:Int),(m:Int),ops) i=some (.inr ((),(18,0),())):=by
     unfold W.jF W.jF.c4
     simp only
     rw [k1,ja,Jh (by rfl),Int.toNat_natCast,hp]
     rcases hin with h | h
     ·rw [jN h,ja];rfl
     ·by_cases h0:i<0
      ·rw [jN h0,ja];rfl
      ·rw [jL h0,jT (by simp),ja,decide_eq_true (by omega),ja];rfl
    unfold W.jk
    simp only
    rw [hb,ja]
    rfl
   ·unfold W.jR W.jR.c4
    simp only
    rw [k2,ja,Jh (by rfl),Int.toNat_natCast,hp]
    rcases hin with h | h
    ·rw [jN h,ja];rfl
    ·by_cases h0:i<0
     ·rw [jN h0,ja];rfl
     ·rw [jL h0,jT (by simp),ja,decide_eq_true (by omega),ja];rfl
  ·obtain ⟨i0,rfl⟩:=Int.eq_ofNat_of_zero_le (show (0:Int)≤i by omega)
   obtain ⟨p1,p2⟩:=played_good (tape:=tape) (i0:=i0) (show n≤12 by omega) (show m<2^40 by omega) (by omega) ht (by omega) hoks k1
   obtain ⟨q1,q2⟩:=play_walk (tape:=tape) (i0:=i0) (show n≤20 by omega) (show m<2^40 by omega) (by omega) ht (by omega) (fun o ho=>(hoks o ho).p) k2
   rcases hR:playK tape 0 ops (YC i0,List.replicate m 0,0) with x | s
   ·obtain ⟨x1,x2⟩:=p1 x hR
    exact .inl ⟨(x.1,(x.2:Int)),x1,x2,q1 x hR⟩
   ·obtain ⟨l,l1,l2⟩:=p2 s hR
    obtain ⟨l',m1,m2⟩:=q2 s hR
    have:=play_bits tape _ _ _ _ hR
    simp only [List.length_replicate] at this
    exact .inr ⟨n,l,l',s.1,ops.length,s.2.1,s.2.2,l1,m1,l2,m2,by omega,h3,by omega⟩
 ·have k1:=check_ok c hc
  have k2:=rcheck_ok c hc
  refine .inl ⟨chk c,hk,?_,?_⟩
  ·have hb:W.jF c i=some (.inr ((),chk c,())):=by
    unfold W.jF
    rw [show (c.1,c.2.1,c.2.2)=c from rfl,k1,ja,Jz (by simpa using hk)]
    rfl
   unfold W.jk
   rw [show (c.1,c.2.1,c.2.2)=c from rfl,hb,ja,kG,Jz (by simpa using hk)]
   rfl
  ·unfold W.jR
   rw [show (c.1,c.2.1,c.2.2)=c from rfl,k2,ja,Jz (by simpa using hk)]
   rfl
def TxtsK (v:KV) (N:Nat) (T:List (List UInt8)):Prop:=T.length=N ∧ ∀x,x<N→KTxt (v x) (T.getD x [])
theorem TxtsK.one {v:KV} {N:Nat} {T U:List (List UInt8)} (h:TxtsK v N T) (g:TxtsK v N U):T=U:=by
 refine List.ext_getElem (h.1.trans g.1.symm) fun x h1 h2=>?_
 have a:=h.2 x (h.1▸h1)
 have b:=g.2 x (h.1▸h1)
 rw [show T.getD x []=T[x] by simp [h1]] at a
 rw [show U.getD x []=U[x] by simp [h2]] at b
 exact KTxt.one a b
theorem texts_walk {l:List NumT} {v:KV} {n t:Nat} (hv:AmpP l (2^n) v t) (hn:n≤20) (ht:t≤9000):∃T,W.jO (0:Int) ((2^n:Nat):Int) l=some (T,l,())∧TxtsK v (2^n) T:=by
 have hN:2^n≤2^20:=Nat.pow_le_pow_right (by decide) hn
 have hlen:=hv.len
 obtain ⟨y,q1,r,q2,q3,q4⟩:=JI (f:=fun s:Int×List (List UInt8)↦W.jO.ca_ (0:Int) ((2^n:Nat):Int) (↑(List.length (part (0:Int) ((2^n:Nat):Int) l)):Int) (Prod.fst s) (Prod.snd s) l some) (2^n)
  (fun i s=>s.1=(i:Int)∧s.2.length=2^n ∧ ∀x,x<i→KTxt (v x) (s.2.getD x []))
  (fun y=>∃r,y=(((2^n:Nat):Int),r)∧r.length=2^n ∧ ∀x,x<2^n→KTxt (v x) (r.getD x []))
  (by
   rintro i ⟨s,out⟩ hi ⟨p1,p2,p3⟩
   simp only at p1 p2 p3
   subst p1
   left
   obtain ⟨r,r1,r2⟩:=ntext_ok (hv.at_ i hi) (by omega) (by omega)
   refine ⟨(((i+1:Nat):Int),out.set i r),?_,rfl,by simpa using p2,fun x hx=>?_⟩
   ·simp only [W.jO.ca_]
    rw [←hlen,VE,hlen,jN (by omega),okR hi,ja,idxP (by omega),ja,r1,ja,Vg (by omega),ja,Vx (by omega),ja,Int.toNat_natCast,ji (by omega)]
    rfl
   ·simp only
    by_cases e:x=i
    ·subst e
     rw [List.getD,List.getElem?_set_self (by omega)]
     exact r2
    ·rw [List.getD,List.getElem?_set_ne (Ne.symm e)]
     exact p3 x (by omega))
  (by
   rintro ⟨s,out⟩ ⟨p1,p2,p3⟩
   simp only at p1 p2 p3
   subst p1
   refine ⟨_,?_,out,rfl,p2,p3⟩
   simp only [W.jO.ca_]
   rw [←hlen,VE,jL (by omega)])
  (s:=((0:Int),List.replicate (2^n) [])) ⟨rfl,by simp,fun x hx=>by omega⟩
 subst q2
 have hpl:part (0:Int) ((2^n:Nat):Int) l=l:=by rw [←hlen,VE]
 unfold W.jO
 rw [hpl] at q1 ⊢
 rw [hlen] at q1 ⊢
 rw [jT (by rw [Bool.and_eq_true,Bool.and_eq_true,Bool.and_eq_true,decide_eq_true_iff,decide_eq_true_iff,decide_eq_true_iff,decide_eq_true_iff];omega),ja,Int.toNat_natCast,q1,ja]
 exact ⟨r,rfl,q3,q4⟩
theorem rtexts_walk {l:List NumT} {v:KV} {n t:Nat} (hv:Amps l (2^n) v t) (hn:n≤20) (ht:t≤9000):∃T,W.JX l=some T∧TxtsK v (2^n) T:=by
 have hN:2^n≤2^20:=Nat.pow_le_pow_right (by decide) hn
 have hlen:=hv.len
 obtain ⟨y,q1,r,q2,q3,q4⟩:=JI (f:=fun s:Int×List (List UInt8)↦W.JX.ca_ l (Prod.fst s) (Prod.snd s) some) (2^n)
  (fun i s=>s.1=(i:Int)∧s.2.length=i ∧ ∀x,x<i→KTxt (v x) (s.2.getD x []))
  (fun y=>∃r,y=(((2^n:Nat):Int),r)∧r.length=2^n ∧ ∀x,x<2^n→KTxt (v x) (r.getD x []))
  (by
   rintro i ⟨s,out⟩ hi ⟨p1,p2,p3⟩
   simp only at p1 p2 p3
   subst p1
   left
   obtain ⟨r,r1,r2⟩:=rtext_ok (hv.at_ i hi) (by omega) (by omega)
   refine ⟨(((i+1:Nat):Int),out++[r]),?_,rfl,by simp [p2],fun x hx=>?_⟩
   ·simp only [W.JX.ca_]
    rw [jN (by omega),idxN (by omega),ja,r1,ja,jT (by rw [Bool.and_eq_true,decide_eq_true_iff,decide_eq_true_iff];omega),ja,ji (by omega)]
    rfl
   ·simp only
    by_cases e:x=i
    ·subst e
     rw [List.getD,←p2,List.getElem?_concat_length]
     rw [p2]
     exact r2
    ·rw [List.getD,List.getElem?_append_left (by omega)]
     exact p3 x (by omega))
  (by
   rintro ⟨s,out⟩ ⟨p1,p2,p3⟩
   simp only at p1 p2 p3
   subst p1
   refine ⟨_,?_,out,rfl,p2,p3⟩
   simp only [W.JX.ca_]
   rw [jL (by omega)])
  (s:=((0:Int),[])) ⟨rfl,rfl,fun x hx=>by omega⟩
 subst q2
 unfold W.JX
 rw [q1,ja]
 exact ⟨r,rfl,q3,q4⟩
def normK (v:KV):Nat→K
 | 0=>K.zero
 | n+1=>K.add (normK v n) (K.mul (v n) (K.conj (v n)))
theorem FitsK.norm {k:K} {L t:Nat} (h:FitsK k L t):FitsK (K.mul k (K.conj k)) (L+L+8) (t+t):=by
 obtain ⟨w,rfl,hb⟩:=h
 exact ⟨rows w (cv w) 8,by rw [←kv_mul,kv_conj],UP hb (cv_bd hb) 8 (Nat.le_refl _)⟩
theorem norm_fits {v:KV} {N t:Nat} (h:∀x,x<N→FitsK (v x) (2*t+1) t):∀i,i≤N→FitsK (normK v i) (4*t+10+i) (t+t)
 | 0,_=>FitsK.zero _ _
 | i+1,hi=>by
   have h1:=norm_fits h i (by omega)
   have h2:=((h i (by omega)).norm).mono (show 2*t+1+(2*t+1)+8≤4*t+10+i by omega)
   exact h1.add h2
theorem norm_nought {k:K} (h:k=K.zero):K.mul k (K.conj k)=K.zero:=by rw [h,K.zero_mul]
theorem pnorm_walk {l:List NumT} {v:KV} {n t:Nat} (hv:AmpP l (2^n) v t) (hn:n≤12) (ht:t≤4096) :
 ∃r,W.jm (0:Int) ((2^n:Nat):Int) l=some (r,l,())∧Num 4294967296 r (normK v (2^n)) (4*t+10+2^n) (t+t):=by
 have hN:2^n≤2^12:=Nat.pow_le_pow_right (by decide) hn
 have hlen:=hv.len
 have hpl:part (0:Int) ((2^n:Nat):Int) l=l:=by rw [←hlen,VE]
 obtain ⟨y,q1,r,q2,q3⟩:=JI (f:=fun s:Int×List NumT↦W.jm.ca_ (0:Int) ((2^n:Nat):Int) (↑(List.length (part (0:Int) ((2^n:Nat):Int) l)):Int) (Prod.fst s) (Prod.snd s) l some) (2^n)
  (fun i s=>s.1=(i:Int) ∧ ∃r,s.2=[r]∧Num 4294967296 r (normK v i) (4*t+10+i) (t+t))
  (fun y=>∃r,y=(((2^n:Nat):Int),[r])∧Num 4294967296 r (normK v (2^n)) (4*t+10+2^n) (t+t))
  (by
   rintro i ⟨s,out⟩ hi ⟨p1,r,p2,p3⟩
   simp only at p1 p2
   subst p1
   subst p2
   left
   have ha:=hv.at_ i hi
   obtain ⟨z,z1,z2⟩:=nzero_ok ha
   have hfit:=norm_fits hv.fit (i+1) (by omega)
   obtain ⟨r',r1,r2⟩:∃r',W.jm.ch_ (0:Int) ((2^n:Nat):Int) (i:Int) [r] l some=some [r']∧Num 4294967296 r' (normK v (i+1)) (4*t+10+(i+1)) (t+t):=by
    unfold W.jm.ch_
    rw [okR hi,ja,idxP (by omega),ja,z1,ja]
    cases hz:z with
    | true=>
      have e:=z2.1 hz
      rw [show (!true)=false from rfl,br_ff]
      refine ⟨r,rfl,Num.fit (L:=4*t+10+i) (E:=t+t) ?_ hfit⟩
      rw [normK,norm_nought e,K.add_zero]
      exact p3
    | false=>
      rw [show (!false)=true from rfl,br_tt]
      unfold W.jm.c6
      obtain ⟨m,m1,m2⟩:=nnorm_ok ha (by omega)
      obtain ⟨a,a1,a2⟩:=nadd_t p3 m2 (by omega)
      rw [bx_at,ja,bx_at,ja,m1,ja,a1,ja,ja,ja]
      exact ⟨a,rfl,a2.fit hfit⟩
   refine ⟨(((i+1:Nat):Int),[r']),?_,rfl,r',rfl,r2⟩
   simp only [W.jm.ca_]
   rw [hpl,hlen,jN (by omega),r1,ja,ji (by omega)]
   rfl)
  (by
   rintro ⟨s,out⟩ ⟨p1,r,p2,p3⟩
   simp only at p1 p2
   subst p1
   subst p2
   refine ⟨_,?_,r,rfl,p3⟩
   simp only [W.jm.ca_]
   rw [hpl,hlen,jL (by omega)])
  (s:=((0:Int),[z0])) ⟨rfl,z0,rfl,num_zero⟩
 subst q2
 unfold W.jm
 rw [show [(List.replicate (8:Nat) (false,([]:List Int)),(0:Int))]=[z0] from rfl,q1,ja]
 simp only
 rw [bx_at,ja]
 exact ⟨r,rfl,q3⟩
theorem rnorm_walk {l:List NumT} {v:KV} {n t:Nat} (hv:Amps l (2^n) v t) (hn:n≤12) (ht:t≤4096) :
 ∃r,W.Js l=some r∧Num 10000 r (normK v (2^n)) (4*t+10+2^n) (t+t):=by
 have hN:2^n≤2^12:=Nat.pow_le_pow_right (by decide) hn
 have hlen:=hv.len
 obtain ⟨y,q1,r,q2,q3⟩:=JI (f:=fun s:Int×List NumT↦W.Js.ca_ l (Prod.fst s) (Prod.snd s) some) (2^n)
  (fun i s=>s.1=(i:Int) ∧ ∃r,s.2=[r]∧Num 10000 r (normK v i) (4*t+10+i) (t+t))
  (fun y=>∃r,y=(((2^n:Nat):Int),[r])∧Num 10000 r (normK v (2^n)) (4*t+10+2^n) (t+t))
  (by
   rintro i ⟨s,out⟩ hi ⟨p1,r,p2,p3⟩
   simp only at p1 p2
   subst p1
   subst p2
   left
   have ha:=hv.at_ i hi
   obtain ⟨z,z1,z2⟩:=rzero_num ha
   have hfit:=norm_fits hv.fit (i+1) (by omega)
   obtain ⟨r',r1,r2⟩:∃r',W.Js.ck_ l (i:Int) [r] some=some [r']∧Num 10000 r' (normK v (i+1)) (4*t+10+(i+1)) (t+t):=by
    unfold W.Js.ck_
    rw [idxN (by omega),ja,z1,ja]
    cases hz:z with
    | true=>
      have e:=z2.1 hz
      rw [show (!true)=false from rfl,br_ff]
      refine ⟨r,rfl,Num.fit (L:=4*t+10+i) (E:=t+t) ?_ hfit⟩
      rw [normK,norm_nought e,K.add_zero]
      exact p3
    | false=>
      rw [show (!false)=true from rfl,br_tt]
      unfold W.Js.c6
      obtain ⟨m,m1,m2⟩:=rnorm_ok ha (by omega) (by omega)
      obtain ⟨a,a1,a2⟩:=Hn p3 m2 (by omega) (by omega)
      rw [bx_at,ja,idxN (by omega),ja,m1,ja,a1,ja,ja,ja]
      exact ⟨a,rfl,a2.fit hfit⟩
   refine ⟨(((i+1:Nat):Int),[r']),?_,rfl,r',rfl,r2⟩
   simp only [W.Js.ca_]
   rw [hlen,jN (by omega),r1,ja,ji (by omega)]
   rfl)
  (by
   rintro ⟨s,out⟩ ⟨p1,r,p2,p3⟩
   simp only at p1 p2
   subst p1
   subst p2
   refine ⟨_,?_,r,rfl,p3⟩
   simp only [W.Js.ca_]
   rw [hlen,jL (by omega)])
  (s:=((0:Int),[z0])) ⟨rfl,z0,rfl,num_zero⟩
 subst q2
 unfold W.Js
 rw [show [(List.replicate (8:Nat) (false,([]:List Int)),(0:Int))]=[z0] from rfl,q1,ja]
 simp only
 rw [bx_at,ja]
 exact ⟨r,rfl,q3⟩
end Go.Ql
end

section
namespace Go.Ql
theorem eqT_fs (f:Int×Int):Ty.eqT (Ty.pair (Ty.int IntKind.i64) (Ty.int IntKind.i64)) f f=true:=by
 simp [Ty.eqT]
theorem sameTexts_self (a:List (List UInt8)) (ha:a.length≤8796093022208):W.Jb a a=some true:=by
 simp only [W.Jb,br_if]
 rw [if_neg (by simp),iter_count (s0:=(0:Int)) a.length (fun k=>(k:Int)) (.inr (a.length:Int))]
 ·rfl
 ·intro i hi
  simp only [W.Jb.cb_,W.Jb.c6,br_if,Vx hi,ja]
  rw [if_pos (by simpa using hi),if_neg (by simp),ji (by omega)]
  rfl
 ·simp only [W.Jb.cb_,br_if]
  rw [if_neg (by simp)]
 ·rfl
theorem sameShot_self (a:List (List UInt8)) (b:List Int) (u:Int) (ha:a.length≤8796093022208) (hb:b.length≤17592186043904):W.JA (a,b,u) (a,b,u)=some true:=by
 unfold W.JA W.JA.c1
 simp only
 rw [sameTexts_self a ha,ja,br_tt,VU b b hb,ja,decide_eq_true rfl,br_tt,ja]
 simp
theorem run_both (c:Cir) (hc:WCir c) (i:Int) (tape:List Int) (ht:tape.length<2^62) :
 (∃f:Int×Int,f.1≠0∧W.jM c i tape=some (([],[],(0:Int)),f)∧W.JU c i tape=some (([],[],(0:Int)),f)∧W.Jc c i tape=some ([],f) ∧ ∃v,W.jR c i tape=some v) ∨
 ∃(T:List (List UInt8)) (bits:List Int) (u:Int) (ch:List UInt8) (v:List NumT) (z:NumT),T.length≤4096∧bits.length≤12∧W.jM c i tape=some ((T,bits,u),(0,0))∧W.JU c i tape=some ((T,bits,u),(0,0)) ∧
  W.Jc c i tape=some (ch,(0,0))∧W.jR c i tape=some (v,bits,u,0,0)∧W.Js v=some z∧W.jY z=some ch:=by
 rcases played_both c hc i tape ht with ⟨f,f1,f2,f3⟩ | ⟨n,l,l',v,t,bits,u,hr⟩
 ·left
  refine ⟨f,f1,?_,?_,?_,_,f3⟩
  ·unfold W.jM
   rw [show (c.1,c.2.1,c.2.2)=c from rfl,f2,ja,kG]
   rw [Jz (by simpa using f1)]
   rfl
  ·unfold W.JU
   rw [show (c.1,c.2.1,c.2.2)=c from rfl,f3,ja,Jz (by simpa using f1)]
   rfl
  ·unfold W.Jc
   rw [show (c.1,c.2.1,c.2.2)=c from rfl,f2,ja,kG]
   rw [Jz (by simpa using f1)]
   rfl
 ·right
  obtain ⟨h1,h2,h3,h4,h5,h6,h7⟩:=hr
  have hN:2^n≤2^12:=Nat.pow_le_pow_right (by decide) h5
  obtain ⟨T,t1,t2⟩:=texts_walk h3 (by omega) (by omega)
  obtain ⟨T',t3,t4⟩:=rtexts_walk h4 (by omega) (by omega)
  have eT:=t2.one t4
  subst eT
  obtain ⟨a,a1,a2⟩:=pnorm_walk h3 h5 h6
  obtain ⟨b,b1,b2⟩:=rnorm_walk h4 h5 h6
  obtain ⟨x,x1,x2⟩:=ntext_ok a2 (by omega) (by omega)
  obtain ⟨y,y1,y2⟩:=rtext_ok b2 (by omega) (by omega)
  have exy:=x2.one y2
  subst exy
  have hl:=h3.len
  have hTl:=t2.1
  refine ⟨T,bits,(u:Int),x,l',b,by omega,h7,?_,?_,?_,h2,b1,y1⟩
  ·unfold W.jM W.jM.c4
   rw [show (c.1,c.2.1,c.2.2)=c from rfl,h1,ja,kj]
   rw [Jh (by rfl)]
   simp only
   rw [hl,t1,ja,ja]
  ·unfold W.JU W.JU.c4
   rw [show (c.1,c.2.1,c.2.2)=c from rfl,h2,ja,Jh (by rfl)]
   simp only
   rw [t3,ja,ja]
  ·unfold W.Jc
   rw [show (c.1,c.2.1,c.2.2)=c from rfl,h1,ja,kj]
   rw [Jh (by rfl)]
   simp only
   rw [hl,a1,ja,x1,ja]
def Yk:Cir:=(2,1,[(3,0,[],0,0,[]),(2,0,[0],1,0,[]),(5,0,[],1,0,[-1])])
def bell:KV:=fun x=>if x=3 then ⟨0,0,1 / 2,0,0,0,-1 / 2,0⟩ else K.zero
theorem small_w:WCir Yk:=by
 refine ⟨by decide,fun o ho=>?_⟩
 simp only [Yk,List.mem_cons,List.not_mem_nil,or_false] at ho
 rcases ho with rfl | rfl | rfl<;>exact ⟨by decide,by decide⟩
theorem small_play:∃s,playK [1] 0 Yk.2.2 (YC 0,List.replicate 1 0,0)=.inr s∧s.2.1=[1]∧s.2.2=1 ∧ ∀x,x<4→s.1 x=bell x:=by
 refine ⟨meetK (5,0,[],1,0,[-1]) 1 (gateK (2,0,[0],1,0,[]) (gateK (3,0,[],0,0,[]) (YC 0)),[0],0),rfl,rfl,rfl,fun x hx=>?_⟩
 have h:x=0∨x=1∨x=2∨x=3:=by omega
 rcases h with rfl | rfl | rfl | rfl<;>refine K.eq_of ?_ ?_ ?_ ?_ ?_ ?_ ?_ ?_<;>decide +kernel
def bellT:List (List UInt8):=[[48],[48],[48],[48,44,48,44,49,44,48,44,48,44,48,44,45,49,47,49]]
theorem ktxt_zero:KTxt K.zero [48]:=⟨fun _=>0,0,.inl rfl,VM 0,by decide +kernel⟩
theorem ktxt_bell:KTxt (bell 3) [48,44,48,44,49,44,48,44,48,44,48,44,45,49,47,49]:=
 ⟨fun i=>if i=2 then 1 else if i=6 then -1 else 0,1,.inr ⟨2,by decide,by decide⟩,by refine K.eq_of ?_ ?_ ?_ ?_ ?_ ?_ ?_ ?_<;>decide +kernel,by decide +kernel⟩
theorem begun_run:W.jM Yk 0 [1]=some ((bellT,[1],1),(0,0)):=by
 have hops:∀o∈Yk.2.2,OkS o 2 1:=fun o ho=>by
  have hw:=small_w.2 o ho
  refine oks_good (goodOp_of ?_) hw (by decide)
  simp only [Yk,List.mem_cons,List.not_mem_nil,or_false] at ho
  have hf:¬ifBad 1 ([-1]:List Int):=by unfold ifBad;simp
  have hf0:∀b,¬ifBad b ([]:List Int):=by intro b;unfold ifBad;simp
  rcases ho with rfl | rfl | rfl
  ·unfold opBad;simp [hf0,kf]
  ·unfold opBad;simp [hf0,kf]
  ·unfold opBad;simp [hf,kf]
 have hck:W.jP Yk=some ((0:Int),(0:Int)):=by
  rw [check_ok Yk small_w]
  have hg:GoodC Yk:=⟨by decide,by decide,by decide,fun o ho=>by
   simp only [Yk,List.mem_cons,List.not_mem_nil,or_false] at ho
   have hf:¬ifBad 1 ([-1]:List Int):=by unfold ifBad;simp
   have hf0:∀b,¬ifBad b ([]:List Int):=by intro b;unfold ifBad;simp
   rcases ho with rfl | rfl | rfl
   ·unfold opBad;simp [hf0,kf,Yk]
   ·unfold opBad;simp [hf0,kf,Yk]
   ·unfold opBad;simp [hf,kf,Yk]⟩
  rw [hg.chk]
 obtain ⟨s,s1,s2,s3,s4⟩:=small_play
 obtain ⟨_,p2⟩:=played_good (n:=2) (bn:=1) (ops:=Yk.2.2) (tape:=[1]) (i0:=0) (by decide) (by decide) (by decide) (by decide) (by decide) hops hck
 obtain ⟨l,l1,l2⟩:=p2 s s1
 obtain ⟨T,t1,t2⟩:=texts_walk l2 (by decide) (by decide)
 have hb:TxtsK s.1 (2^2) bellT:=⟨rfl,fun x hx=>by
  rw [s4 x hx]
  have h:x=0∨x=1∨x=2∨x=3:=by omega
  rcases h with rfl | rfl | rfl | rfl
  ·exact ktxt_zero
  ·exact ktxt_zero
  ·exact ktxt_zero
  ·exact ktxt_bell⟩
 have e:=t2.one hb
 subst e
 have l1':W.jk Yk 0 [1]=_:=l1
 unfold W.jM W.jM.c4
 rw [show (Yk.1,Yk.2.1,Yk.2.2)=Yk from rfl,l1',ja,kj]
 rw [Jh (by rfl)]
 simp only
 rw [l2.len,t1,ja,ja,s2,s3]
 rfl
theorem begun_ok:W.Jk=some true:=by
 unfold W.Jk
 rw [show W.kN=some Yk from rfl,ja,begun_run,ja]
 unfold W.Jk.c2
 rw [Jz (by rfl)]
 have h:W.JA (bellT,[1],1) (bellT,[1],1)=some true:=sameShot_self _ _ _ (by decide) (by decide)
 refine kY ?_ rfl
 exact kY h rfl
theorem runs_law (c:Cir) (hc:WCir c) (i:Int) (tape:List Int) (ht:tape.length≤17592186043904):W.jB c i tape=some true:=by
 unfold W.jB
 rw [show (c.1,c.2.1,c.2.2)=c from rfl,copyCircuit_ok c hc,ja,jT (by rw [Bool.and_eq_true,decide_eq_true_iff,decide_eq_true_iff];omega),ja,show (c.1,c.2.1,c.2.2)=c from rfl]
 rcases run_both c hc i tape (by omega) with ⟨f,f1,f2,f3,f4,v,f5⟩ | ⟨T,bits,u,ch,v,z,q1,q2,q3,q4,q5,q6,q7,q8⟩
 ·rw [f2,ja,f3,ja]
  have h5:W.jB.c5 tape tape c.1 c.2.1 c.2.2 c.1 c.2.1 c.2.2 [] [] 0 f.1 f.2 [] [] 0 f.1 f.2 some=some false:=by
   unfold W.jB.c5
   rw [begun_ok,ja,show (!true)=false from rfl,br_ff,eqT_fs,show (!true)=false from rfl,br_ff,sameShot_self [] [] 0 (by decide) (by decide),ja,show (!true)=false from rfl,br_ff,
    show (c.1,c.2.1,c.2.2)=c from rfl,sameCircuit_ok c c hc,ja,decide_eq_true rfl,show (!true)=false from rfl,br_ff,VU tape tape ht,ja,decide_eq_true rfl]
   rfl
  simp only
  rw [h5,ja,br_ff,f4,ja,f5,ja,Jz (by simpa using f1)]
  unfold W.jB.c10
  simp only
  rw [eqT_fs,br_tt]
  rfl
 ·rw [q3,ja,q4,ja]
  have h5:W.jB.c5 tape tape c.1 c.2.1 c.2.2 c.1 c.2.1 c.2.2 T bits u 0 0 T bits u 0 0 some=some false:=by
   unfold W.jB.c5
   rw [begun_ok,ja,show (!true)=false from rfl,br_ff,eqT_fs,show (!true)=false from rfl,br_ff,sameShot_self T bits u (by omega) (by omega),ja,show (!true)=false from rfl,br_ff,
    show (c.1,c.2.1,c.2.2)=c from rfl,sameCircuit_ok c c hc,ja,decide_eq_true rfl,show (!true)=false from rfl,br_ff,VU tape tape ht,ja,decide_eq_true rfl]
   rfl
  simp only
  rw [h5,ja,br_ff,q5,ja,q6,ja,Jh (by rfl)]
  unfold W.jB.c11
  simp only
  rw [Jz (by rfl),q7,ja,q8,ja]
  simp [ja]
end Go.Ql
end

section
namespace Go.Ql
theorem runs_wf:∀x:dens [cirTy,.int .i64,.sl (.int .i64)],WfL [cirTy,.int .i64,.sl (.int .i64)] x→W.jB.ce.F x=some true:=by
 rintro ⟨c,i,l⟩ ⟨h1,h2,h3⟩
 have hl:l.length*8≤140737488351232:=h3.1
 exact runs_law c (wcir_of h1) i l (by omega)
end Go.Ql
end
